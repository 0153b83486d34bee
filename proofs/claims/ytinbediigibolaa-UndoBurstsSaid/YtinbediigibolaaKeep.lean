/- What append leaves of the slice that it is handed: its own elements are where they were, whether there was room or not. -/
import Derived.Test.YtinbediigibolaaWWords
namespace Go.Proofs.YtinbediigibolaaX
open Go.RowKit Go.Proofs.YtinbediigibolaaW.PrintWords
section
variable {P : Program}
theorem run_append_keep (w : World) (base : Nat) (t ty e : TypeId) (i : TypeInfo) (z : Value) (size bytes : Nat) (ht : P.underlying t = some (.slice e)) (hi : P.info? e = some i) (hz : i.zero = some z)
    (hsize : i.size = size) (hby : i.bytes = bytes) (hzs : z.cells.size = size) (hsz : 0 < size)
    (v : Value) (n : Nat) (xs : List Value) (hown : w.ownsRow base e size v n xs)
    (a : Addr) (m c : Nat) (news : List Value) (hl : news.length = m * size) (hnews : ∀ j u, news[j]? = some u → w.cell? (a.add j) = some u) (h1 : ∀ u ∈ news, u.oneCell' = true)
    (h63 : n + m ≤ maxLen) (hbytes : (n + m) * bytes ≤ 140737488355328) (hbase : base ≤ w.heap.size) :
    ∃ v' w', (Builtin.append_ #[t, t] ty #[v, .slice (some a) m c]).run P w = .ok v' w' ∧ w'.ownsRow base e size v' (n + m) (xs ++ news) ∧ w.grownBy w' v.ownBlock ∧ (v'.ownBlock = v.ownBlock ∨ v'.ownBlock = some w.heap.size) ∧
      (∀ ad k cap, v = .slice (some ad) k cap → ∀ j u, xs[j]? = some u → w'.cell? (ad.add j) = some u) := by
  obtain ⟨v', w', hr, h2, h3, _, h5⟩ := run_append_own_at (P := P) w base t ty e i z size bytes ht hi hz hsize hby hzs hsz v n xs hown a m c news hl hnews h1 h63 hbytes hbase
  refine ⟨v', w', hr, h2, h3, h5, ?_⟩
  intro ad k cap0 hv j u hj
  subst hsize
  subst hby
  have hjl : j < xs.length := (List.getElem?_eq_some_iff.1 hj).1
  rcases hown.2 with ⟨rfl, _⟩ | ⟨g, cap, cur, rfl, hbg, hg, hnc, hcm, hcs, htake⟩
  · cases hv
  · injection hv with hv1 hv2 hv3
    injection hv1 with hv1
    subst hv1
    by_cases hroom : n + m ≤ cap
    · have hfit : n * i.size + news.length ≤ cur.size := by rw [hl, hcs, ← Nat.add_mul]; exact Nat.mul_le_mul_right _ hroom
      have hr2 := run_append_room (P := P) w t ty e i ht hi g n cap cur hg a m c news hl hnews h1 hroom hfit
      rw [hr2] at hr
      injection hr with hr1 hr3
      have hc := h2.cells (g := g) (by rw [← hr1]; rfl) j u (by rw [List.getElem?_append_left hjl]; exact hj)
      exact hc
    · have holds : ∀ j u, xs[j]? = some u → w.cell? ((⟨g, 0, none⟩ : Addr).add j) = some u := hown.cells (g := g) rfl
      have hr2 := run_append_grow (P := P) w t ty e i z ht hi hz ⟨g, 0, none⟩ n cap xs hown.1 holds a m c news hl hnews (by omega) (by simp only [maxLen] at h63; omega) (growslice_fits (by omega) hbytes)
      rw [hr2] at hr
      injection hr with hr1 hr3
      rw [← hr3]
      have hgl : g < w.heap.size := (Array.getElem?_eq_some_iff.1 hg).1
      have hblk : (((⟨g, 0, none⟩ : Addr).add j)).block = g := by unfold Addr.add; split <;> rfl
      rw [World.cell?_of_block (w := w) (by rw [hblk]; exact heap_alloc_old w.drew _ hgl)]
      exact holds j u hj
end
section
variable {P : Program} {ops : Array Oper} {rest : List Oper} {o : Oper} {a : Act} {Q : Exit → Act → World → Prop}
theorem R_append_keep (k : IntKind) {w0 W : World} (base : Nat) (hgd : o.guard = none) (s x : Operand) (t e : TypeId) (z : Value) (bytes : Nat)
    (ho : o.op = .call { callee := .builtin .append, args := #[s, x], argTypes := #[t, t] })
    (ht : P.underlying t = some (.slice e)) (hinfo : (P.info? e).map (fun i => (i.zero, i.size, i.bytes)) = some (some z, 1, bytes)) (hz : z.cells.size = 1) (hb0 : 0 < bytes)
    (v : Value) (xs : List Int) (p : Int) (cs : List Value) (ok okp : Nat → Prop) (hs : a.eval s = v) (hx : a.eval x = .slice (some ⟨W.heap.size, 0, none⟩) 1 1) (hp : (Kd.int k).M W base okp p cs) (hokp : ∀ j, okp j → ok j ∧ some j ≠ v.ownBlock) (hfresh : ∀ j, W.heap.size ≤ j → ok j)
    (HO : (Kd.int k).R e W base ok v xs) (HB : Below base w0 W) (hbase : base ≤ W.heap.size) (hl : (xs.length + 1) * bytes ≤ 140737488355328)
    (h : ∀ v1 w1, (Kd.int k).R e w1 base ok v1 (xs ++ [p]) → Below base w0 w1 → W.grownBy w1 v.ownBlock → (v1.ownBlock = v.ownBlock ∨ ∃ b, v1.ownBlock = some b ∧ W.heap.size ≤ b) →
      (∀ A n c, v = .slice A n c → n ≤ c ∧ (Kd.int k).C w1 A xs.length xs) → wpList P ops Q rest (a.put o.dst v1) w1) :
    wpList P ops Q (o :: rest) a (W.alloc (.cells cs.toArray e)) := by
  have HR := HO
  obtain ⟨h0, inner, hown, hr⟩ := HO
  obtain ⟨i0, hi, hzz⟩ := Option.map_eq_some_iff.1 hinfo
  simp only [Prod.mk.injEq] at hzz
  obtain ⟨hz0, hz1, hz2⟩ := hzz
  have hlen : xs.length + 1 ≤ 140737488355328 := Nat.le_trans (Nat.le_mul_of_pos_right _ hb0) hl
  have hys : cs.length = 1 := (Kd.int k).K_len ((Kd.int k).K_of_M hp)
  have hown2 := hown.alloc (.cells cs.toArray e)
  refine wpList_plain hgd fun K hK => ?_
  obtain ⟨v', w', hrun, h2, h3, hat, hkeep⟩ := run_append_keep (P := P) (W.alloc (.cells cs.toArray e)) base t o.type e i0 z 1 bytes ht hi hz0 hz1 hz2 hz (by omega) v xs.length inner hown2 ⟨W.heap.size, 0, none⟩ 1 1 cs (by rw [hys])
    (by simpa using World.news_of_block (cs := cs.toArray) (t := e) (fr := (0, 0)) (heap_alloc_new W (.cells cs.toArray e))) ((Kd.int k).K_one ((Kd.int k).K_of_M hp)) (by simp only [maxLen]; omega) hl (by simp; omega)
  unfold Oper.wp execOp
  simp only [ho, resolve, invoke, builtin, Sem.run_bind, Sem.run_pure, Result.andThen_ok, List.map_toArray, List.map_cons, List.map_nil, hs, hx, hrun]
  have hg : W.grownBy w' v.ownBlock := World.grownBy.trans (World.grownBy_alloc W _ _) h3
  have hat' : v'.ownBlock = v.ownBlock ∨ ∃ b, v'.ownBlock = some b ∧ W.heap.size ≤ b := by
    rcases hat with hat | hat
    · exact .inl hat
    · exact .inr ⟨_, hat, by simp⟩
  refine hK _ _ (h v' w' (Kd.R_appended (d := Kd.int k) h0 hr hp hokp hfresh h2 hg hat') ((HB.alloc hbase _).grown h3 (by simp; omega) (own_base hown)) hg hat' ?_)
  intro A n c hv
  subst hv
  obtain ⟨hn, hnc, hC⟩ := Kd.R_reads' HR
  refine ⟨hnc, hC.1, hC.2.1, fun hpos => ?_⟩
  obtain ⟨ad, e1, hcell⟩ := hC.2.2 hpos
  subst e1
  refine ⟨ad, rfl, fun j q hq => ?_⟩
  obtain ⟨ce, hc1, hc2, hc3⟩ := hcell j q hq
  refine ⟨ce, hc1, hc2, fun i u hu => ?_⟩
  have hi0 : i = 0 := by
    have h4 := (List.getElem?_eq_some_iff.1 hu).1
    have h5 : (Kd.int k).sz = 1 := rfl
    omega
  subst hi0
  have hjl := (List.getElem?_eq_some_iff.1 hq).1
  have hu2 := hc3 0 u hu
  have hil : inner.length = xs.length * 1 := hown.1
  have h6 : inner[j]? = some (inner[j]'(by omega)) := List.getElem?_eq_getElem (by omega)
  have h7 := hkeep ad n c rfl j _ h6
  have h8 := hown.cells (g := ad.block) rfl j _ h6
  have had : (⟨ad.block, 0, none⟩ : Addr) = ad := by
    rcases hown.2 with ⟨h9, _⟩ | ⟨g, cap, cur, h9, _⟩
    · cases h9
    · injection h9 with h9
      injection h9 with h9
      rw [h9]
  rw [had] at h8
  have h10 : (Kd.int k).sz = 1 := rfl
  rw [h10, Nat.mul_one, Nat.add_zero] at hu2 ⊢
  rw [h8] at hu2
  rw [h7]
  exact hu2
end
end Go.Proofs.YtinbediigibolaaX
