/- What append does with zeros behind a slice that is full (its length is its capacity), whatever block it lies in: a new block is laid, the old one lies on. -/
import Derived.Test.YtmflkbmjchapiaaWWords
import Derived.Test.YtmflkbmjchapiaaWZeros
namespace Go.Proofs.YtmflkbmjchapiaaX
open Go.RowKit Go.Proofs.YtmflkbmjchapiaaW.PrintWords
section
variable {P : Program}
theorem run_append_zeros_full (w : World) (base : Nat) (t ti ty e : TypeId) (i : TypeInfo) (z : Value) (bytes : Nat) (ht : P.underlying t = some (.slice e)) {k : IntKind} (hti : P.underlying ti = some (.int k)) (hi : P.info? e = some i) (hz : i.zero = some z)
    (hsize : i.size = 1) (hby : i.bytes = bytes) (hzs : z.cells.size = 1) (hb0 : 0 < bytes)
    (A : Addr) (n : Nat) (xs : List Value) (hxl : xs.length = n) (holds : ∀ j u, xs[j]? = some u → w.cell? (A.add j) = some u) (kx : IntKind) (m : Nat) (hm : 0 < m)
    (hbytes : (n + m) * bytes ≤ 140737488355328) (hbase : base ≤ w.heap.size) :
    ∃ v' w', (Builtin.append_ #[t, ti] ty #[.slice (some A) n n, .int kx m]).run P w = .ok v' w' ∧ w'.ownsRow base e 1 v' (n + m) (xs ++ (Builtin.zeroCells z.cells m).toList) ∧ Below w.heap.size w w' ∧ v'.ownBlock = some w.heap.size := by
  subst hby
  have hle : n + m ≤ 140737488355328 := Nat.le_trans (Nat.le_mul_of_pos_right _ hb0) hbytes
  have h63 : n + m ≤ maxLen := by simp only [maxLen]; omega
  have hw : IntKind.i64.wrap (m : Int) = m := by rw [IntKind.wrap_i64]; omega
  have hneg : ¬ ((m : Int) < 0) := by omega
  have hmb : m * i.bytes ≤ 140737488355328 := Nat.le_trans (Nat.mul_le_mul_right _ (Nat.le_add_left m n)) hbytes
  have hbig : ¬ (281474976710656 < (m : Int) * (i.bytes : Int)) := by
    rw [← Int.natCast_mul]
    omega
  obtain ⟨news, hnews⟩ : ∃ news, news = (Builtin.zeroCells z.cells m).toList := ⟨_, rfl⟩
  rw [← hnews]
  have hl : news.length = m := by rw [hnews, Array.length_toList, size_zeroCells, hzs, Nat.mul_one]
  have hna : Builtin.zeroCells z.cells m = news.toArray := by rw [hnews]
  have hlen : (xs ++ news).length = (n + m) * 1 := by rw [List.length_append, hxl, hl, Nat.mul_one]
  have hfo : (Builtin.firstCells i.size n (.slice (some A) n n)).run P w.drew = .ok xs.toArray w.drew := run_firstCells_some (P := P) w.drew i.size n _ n n xs (by rw [hsize, Nat.mul_one, hxl]) (by simpa using holds)
  have hn : ¬ (n + m ≤ n) := by omega
  have h63' : ¬ (9223372036854775807 < ((n : Int) + (m : Int))) := by omega
  have hfit := growslice_fits (show n < n + m by omega) hbytes
  have h48' : ¬ (281474976710656 < Builtin.nextslicecap (n + m) n * i.bytes) := by omega
  have hmz : ¬ (m * i.size = 0) := by rw [hsize, Nat.mul_one]; omega
  refine ⟨.slice (some ⟨w.heap.size, 0, none⟩) (n + m) (grownCap w (n + m) n e), w.drew.alloc (.cells (xs.toArray ++ news.toArray ++ Builtin.zeroCells z.cells (grownCap w (n + m) n e - (n + m))) e), ?_, ?_, ?_, rfl⟩
  · simp [Builtin.append_, run_underlying ht, run_underlying hti, sizeOf, typeInfo, zeroValue, hi, hz, asInt, asIntOf, hw, hneg, hbig, hn, h63', h48', Question.forced, hfo, newRow, grownCap, hmz, hna]
    have hm0 : m ≠ 0 := by omega
    first
    | done
    | (congr 2; apply Array.ext'; simp [List.append_assoc])
  · have hge := grownCap_ge w (n + m) n e
    have hcm : grownCap w (n + m) n e ≤ maxLen := grownCap_le_maxLen w (n + m) n e h63
    refine ⟨hlen, .inr ⟨w.heap.size, _, _, rfl, hbase, heap_alloc_new w.drew _, hge, hcm, ?_, ?_⟩⟩
    · simp only [Array.size_append, List.size_toArray, size_zeroCells, hzs, hxl, hl, Nat.mul_one]
      omega
    · simp only [Array.toList_append, List.append_assoc]
      rw [← List.append_assoc, ← hlen]
      exact List.take_left
  · exact below_alloc (below_drew (Below.refl _ _)) _
end
section
variable {P : Program} {ops : Array Oper} {rest : List Oper} {o : Oper} {a : Act} {Q : Exit → Act → World → Prop}
theorem R_append_zeros_full (k : IntKind) {w0 W : World} (base : Nat) (hgd : o.guard = none) (s x : Operand) (t ti e : TypeId) (bytes : Nat)
    (ho : o.op = .call { callee := .builtin .append, args := #[s, x], argTypes := #[t, ti] })
    (ht : P.underlying t = some (.slice e)) {k' : IntKind} (hti : P.underlying ti = some (.int k')) (hinfo : (P.info? e).map (fun i => (i.zero, i.size, i.bytes)) = some (some (.int k 0), 1, bytes)) (hb0 : 0 < bytes)
    (A : Option Addr) (hA : ∃ b, A = some b) (e' : TypeId) (xs : List Int) {kx : IntKind} (n : Int) (ok : Nat → Prop) (hs : a.eval s = .slice A xs.length xs.length) (hx : a.eval x = .int kx n)
    (HO : (Kd.int k).R e' W base ok (.slice A xs.length xs.length) xs) (h0 : 0 < n) (HB : Below base w0 W) (hbase : base ≤ W.heap.size) (hl : (xs.length + n.toNat) * bytes ≤ 140737488355328)
    (h : ∀ v1 w1, (Kd.int k).R e w1 base (fun _ => True) v1 (xs ++ List.replicate n.toNat 0) → Below base w0 w1 → W.grownBy w1 (Value.slice A xs.length xs.length).ownBlock → (v1.ownBlock = (Value.slice A xs.length xs.length).ownBlock ∨ ∃ b, v1.ownBlock = some b ∧ W.heap.size ≤ b) → Below W.heap.size W w1 → wpList P ops Q rest (a.put o.dst v1) w1) :
    wpList P ops Q (o :: rest) a W := by
  obtain ⟨A, rfl⟩ := hA
  obtain ⟨m, rfl⟩ := Int.eq_ofNat_of_zero_le (Int.le_of_lt h0)
  simp only [Int.toNat_natCast] at hl h
  obtain ⟨i0, hi, hzz⟩ := Option.map_eq_some_iff.1 hinfo
  simp only [Prod.mk.injEq] at hzz
  obtain ⟨hz0, hz1, hz2⟩ := hzz
  have hC := (Kd.R_reads' HO).2.2
  have holds : ∀ j u, (nums k xs)[j]? = some u → W.cell? (A.add j) = some u := by
    intro j u hu
    have hjl : j < xs.length := by
      have := (List.getElem?_eq_some_iff.1 hu).1
      rwa [nums_length] at this
    obtain ⟨ad, e1, hc⟩ := Kd.at_int hC (j : Int) (by omega) (by omega)
    injection e1 with e1
    subst e1
    rw [Int.toNat_natCast] at hc
    rw [hc]
    simp only [nums, List.getElem?_map, List.getElem?_eq_getElem hjl, Option.map_some] at hu
    rw [← hu]
    simp [rd, List.getD_eq_getElem?_getD, List.getElem?_eq_getElem hjl]
  obtain ⟨v1, w1, hr, hown, hb, hat⟩ := run_append_zeros_full (P := P) W base t ti o.type e i0 (.int k 0) bytes ht hti hi hz0 hz1 hz2 rfl hb0 A xs.length (nums k xs) (nums_length k xs) holds kx m (by omega) hl hbase
  have hz : (Builtin.zeroCells (Value.int k 0).cells m).toList = nums k (List.replicate m 0) := by
    apply List.ext_getElem
    · simp [nums, Builtin.zeroCells, Value.cells]
    · intro j h1 h2
      simp [nums, Builtin.zeroCells, Value.cells, Nat.mod_one]
  rw [hz, ← nums_append] at hown
  refine wpList_plain hgd fun K hK => ?_
  unfold Oper.wp execOp
  simp only [ho, resolve, invoke, builtin, Sem.run_bind, Sem.run_pure, Result.andThen_ok, List.map_toArray, List.map_cons, List.map_nil, hs, hx, hr]
  exact hK _ _ (h v1 w1 (Kd.R_of_own (by rw [List.length_append, List.length_replicate]; exact hown) (fun _ _ => trivial)) (below_then HB hbase hb) (grown_of_below hb _) (.inr ⟨_, hat, Nat.le_refl _⟩) hb)
end
end Go.Proofs.YtmflkbmjchapiaaX
