-- WRITTEN FOR THIS CLAIM by given.py, a program of this session's: the kit's printer, run with contracts of the session's own. It is not a text of print.sh's.
import Derived.Test.YtinbediigibolaaPUndoBurstsx0
import Derived.Test.YtinbediigibolaaPUndoBurstsx1
import Derived.Test.YtinbediigibolaaPUndoBurstsx3
namespace Go.Proofs.Ytinbediigibolaa.PUndoBursts
open Go.RowKit Go.Proofs.YtinbediigibolaaW.PrintWords Go.Proofs.YtinbediigibolaaW.PrintLast Go.Proofs.YtinbediigibolaaW.PrintMore
attribute [local go_sem] max2_int min2_int max_two min_two max_three min_three max_four min_four   -- for this text's walks alone
set_option linter.unusedVariables false
set_option linter.unusedSimpArgs false
open Go.Proofs.YtinbediigibolaaX

/-! ### undo_Decode: function 16: a contract of the session's own -/
/-- What the iterator yields of words. -/
def undo_ents (g : Int) : Nat → List Int → Option (List (S25 × Bool))
  | 0, _ => none
  | k + 1, l => if 0 < l.length then (undo_one.f g l).bind fun r => if r.2.2 = true then (undo_Size.f r.1 r.2.1).bind fun n => (if 0 < n then (if n ≤ (l.length : Int) then (undo_ents g k (l.drop n.toNat)).bind fun t => some ((⟨r.1, r.2.1⟩, true) :: t) else none) else none) else some [(⟨r.1, r.2.1⟩, false)] else some []
structure YE where
  x : S25
  ok : Bool
  A : Option Addr
  c : Nat
  blk : Nat
def encY (y : YE) : Array Value := #[.agg #[.int .i64 y.x.f0, .slice y.A y.x.f1.length y.c], .bool y.ok]
def valY (y : YE) : Array Value := #[.int .i64 y.x.f0, .slice y.A y.x.f1.length y.c]
def offY (y : YE) : S25 × Bool := (y.x, y.ok)
def KpY (bw bg : Nat) (A0 : Option Addr) (l0 : List Int) (y : YE) (W W' : World) : Prop :=
  (∀ v, Boxed W bw 23 v → Boxed W' bw 23 v) ∧ (∀ v, Boxed W bg 22 v → Boxed W' bg 22 v) ∧ (∀ cs, W.heap[y.blk]? = some (.cells cs 25 (0, 0)) → W'.heap[y.blk]? = some (.cells cs 25 (0, 0))) ∧ (Kd.C (Kd.int .u64) W A0 l0.length l0 → Kd.C (Kd.int .u64) W' A0 l0.length l0) ∧ (Kd.C (Kd.int .u64) W y.A y.x.f1.length y.x.f1 → Kd.C (Kd.int .u64) W' y.A y.x.f1.length y.x.f1)
def TY (bw : Nat) (A B : World) : Prop := ∃ v, B = A.setCell ⟨bw, 0, none⟩ v
def EY (ys : List (S25 × Bool)) (pre : List YE) (y : YE) (W0 W : World) : Prop :=
  ys[pre.length]? = some (offY y) ∧ pre.map offY = ys.take pre.length ∧ Below W0.heap.size W0 W ∧ W.heap[y.blk]? = some (.cells (valY y) 25 (0, 0)) ∧ W0.heap.size ≤ y.blk ∧ y.x.f1.length ≤ y.c ∧ Kd.F (Kd.int .u64) W (fun k => W0.heap.size ≤ k) y.A y.x.f1.length y.x.f1
theorem C_cells {k : IntKind} {W W' : World} (h : ∀ (p : Addr) z, W.cell? p = some (.int k z) → W'.cell? p = some (.int k z)) {A : Option Addr} {n : Nat} {xs : List Int} (hC : Kd.C (Kd.int k) W A n xs) : Kd.C (Kd.int k) W' A n xs := by
  refine ⟨hC.1, hC.2.1, fun hn => ?_⟩
  obtain ⟨ad, he, hc⟩ := hC.2.2 hn
  refine ⟨ad, he, fun j p hj => ?_⟩
  obtain ⟨cs, h1, h2, h3⟩ := hc j p hj
  refine ⟨cs, h1, h2, fun i u hu => ?_⟩
  have h5 : cs = [Value.int k p] := h2
  subst h5
  have hi0 : i = 0 := by
    have := (List.getElem?_eq_some_iff.1 hu).1
    simpa using this
  subst hi0
  simp only [List.getElem?_cons_zero, Option.some.injEq] at hu
  subst hu
  exact h _ _ (h3 0 _ rfl)
theorem C_set {k : IntKind} {W : World} {b : Nat} {t : TypeId} {v : Value} (hb : Boxed W b t v) (hv : ∀ z, v ≠ .int k z) (u : Value) {A : Option Addr} {n : Nat} {xs : List Int} (hC : Kd.C (Kd.int k) W A n xs) : Kd.C (Kd.int k) (W.setCell ⟨b, 0, none⟩ u) A n xs := by
  refine C_cells (fun p z hp => ?_) hC
  have hne : p.block ≠ b := by
    intro e
    have h1 : W.heap[p.block]? = some (.cells #[v] t (0, 0)) := by rw [e]; exact hb
    unfold World.cell? at hp
    rw [h1] at hp
    simp at hp
    obtain ⟨_, h2⟩ := hp
    rcases Nat.eq_zero_or_pos p.off with h3 | h3
    · rw [h3] at h2; simp at h2; exact hv z h2
    · rw [List.getElem?_eq_none (by simp; omega)] at h2; cases h2
  exact (cell_far (p := ⟨b, 0, none⟩) hne u).trans hp
theorem KpY_b (bw bg : Nat) (A0 : Option Addr) (l0 : List Int) (y : YE) (W : World) (l : Nat) (o o' : Obj) (hl : W.heap[l]? = some o) (hc : o.isCells = false) : KpY bw bg A0 l0 y W (W.putObj l o') := by
  have hb : ∀ (b : Nat) (cs : Array Value) (t : TypeId), W.heap[b]? = some (.cells cs t (0, 0)) → (W.putObj l o').heap[b]? = some (.cells cs t (0, 0)) := fun b cs t h => by
    rw [World.putObj_heap_other (fun e => by rw [e] at h; rw [h] at hl; cases hl; cases hc)]
    exact h
  have hk : ∀ (p : Addr) (z : Int), W.cell? p = some (.int .u64 z) → (W.putObj l o').cell? p = some (.int .u64 z) := fun p z h => cell_kept h (grownBy_putObj' W l o') (fun r e => by cases e; exact ⟨o, hl, hc⟩)
  exact ⟨fun v h => hb _ _ _ h, fun v h => hb _ _ _ h, fun cs h => hb _ _ _ h, fun h => C_cells hk h, fun h => C_cells hk h⟩
theorem KpY_t (bw bg : Nat) (A0 : Option Addr) (l0 : List Int) (y : YE) {A B C : World} (h : KpY bw bg A0 l0 y A B) (k : KpY bw bg A0 l0 y B C) : KpY bw bg A0 l0 y A C :=
  ⟨fun v hv => k.1 v (h.1 v hv), fun v hv => k.2.1 v (h.2.1 v hv), fun v hv => k.2.2.1 v (h.2.2.1 v hv), fun hv => k.2.2.2.1 (h.2.2.2.1 hv), fun hv => k.2.2.2.2 (h.2.2.2.2 hv)⟩
def ents1_T3 : Bool × List (List Nat × List Nat) := (true, [([], []), ([], []), ([1], [1]), ([0, 2], [0, 2]), ([3, 2, 0, 1, 2, 3], [3])])
def ents1_B3 : List Nat := [0, 0, 2, 7, 15]
theorem ents1_tab3 : rtab .any (opsOf Try.f36 3) = ents1_T3 := by kernel_rfl
theorem ents1_bits3 : waitsOk ents1_T3.2 ents1_B3 = true := by kernel_rfl
set_option maxRecDepth 100000 in
set_option maxHeartbeats 4000000 in
theorem ents1_in (n : Nat) (hn : 1 ≤ n) (l bw bg : Nat) (g : Int) (A0 : Option Addr) (l0 : List Int) (c0 : Nat) (ys : List (S25 × Bool)) (k0 : Nat) (hys : undo_ents g k0 l0 = some ys) (B : Nat) (J Jx : List YE → World → Prop) (hJ : AbidesFrom B J)
    (hT : ∀ pre A B, J pre A → TY bw A B → J pre B)
    (hY : ∀ pre y W0 W1, J pre W0 → J pre W1 → EY ys pre y W0 W1 → YieldAt Fence.wide (n - 1) Try.prog l (encY y) W1 fun e W' =>
      (e = .returned (.bool true) ∧ J (pre ++ [y]) W' ∧ KpY bw bg A0 l0 y W1 W') ∨ (e = .returned (.bool false) ∧ Jx (pre ++ [y]) W'))
    (W : World) (hw : Boxed W bw 23 (.slice A0 l0.length c0)) (hg : Boxed W bg 22 (.int .u64 g)) (hC : Kd.C (Kd.int .u64) W A0 l0.length l0) (hc : l0.length ≤ c0) (h0 : J [] W) :
    CallsIn Fence.wide n Try.prog 36 #[.func (.yield l) #[] #[], .pointer (some ⟨bw, 0, none⟩), .pointer (some ⟨bg, 0, none⟩)] W fun e W' => (∃ v, e = .returned v) ∧
      ((∃ xs, xs.map offY = ys ∧ J xs W') ∨ (∃ pre, True ∧ Jx pre W')) := by
  refine callsIn_of_wp Try.func36 rfl trivial ?_ rfl
  simp only [Try.ntmps36, List.size_toArray, List.length_cons, List.length_nil, Nat.reduceAdd, Nat.reduceSub, Array.replicate_succ, Array.replicate_zero, List.push_toArray, List.append_toArray, List.nil_append, List.cons_append]
  have hu := Try.underlying25
  have hu2 := Try.underlying23
  gi_wp2
  gi_loopw [] (fun wr => ∃ (k : Nat) (rest : List Int) (Ai : Option Addr) (ci : Nat) (pre : List YE) (ts : List (S25 × Bool)), undo_ents g k rest = some ts ∧ ys = pre.map offY ++ ts ∧ J pre wr ∧ Boxed wr bw 23 (.slice Ai rest.length ci) ∧ Boxed wr bg 22 (.int .u64 g) ∧ rest.length ≤ ci ∧ (∀ W', Kd.C (Kd.int .u64) W' A0 l0.length l0 → Kd.C (Kd.int .u64) W' Ai rest.length rest) ∧ Kd.C (Kd.int .u64) wr A0 l0.length l0)
    (fun wr => match wr.cell? ⟨bw, 0, none⟩ with | some (.slice _ m _) => m | _ => 0)
  case atStart => exact ⟨k0, l0, A0, c0, [], ys, hys, rfl, h0, hw, hg, hc, fun _ h => h, hC⟩
  case round =>
    obtain ⟨k, rest, Ai, ci, pre, ts, hts, hysp, hJp, hbw, hbg, hci, hCi, hC0⟩ := hrel
    have hcw := hbw.cell
    have hcg := hbg.cell
    by_cases hlt : 0 < rest.length
    · cases k with
      | zero => cases hts
      | succ k =>
      rw [undo_ents, if_pos hlt] at hts
      obtain ⟨⟨r1, r2, r3⟩, hone, hts⟩ := Option.bind_eq_some_iff.mp hts
      dsimp only at hts
      have HONE := Aside0.mk (fun (W : World) h => undo_one.calls g Ai ci rest r1 r2 r3 W h hci hone)
      have HW1 := Aside0.mk (hCi _ hC0)
      have HCi := Aside0.mk hCi
      have HC0 := Aside0.mk hC0
      have HTS := Aside0.mk hts
      have HYS := Aside0.mk hysp
      have hts2 : ∃ t, ts = (⟨r1, r2⟩, r3) :: t ∧ (r3 = true → ∃ q, undo_Size.f r1 r2 = some q ∧ 0 < q ∧ q ≤ (rest.length : Int) ∧ undo_ents g k (rest.drop q.toNat) = some t) ∧ (r3 = false → t = []) := by
        cases r3 with
        | false =>
          rw [if_neg (by decide)] at hts
          injection hts with hts
          exact ⟨[], hts.symm, fun h => (by cases h), fun _ => rfl⟩
        | true =>
          rw [if_pos rfl] at hts
          obtain ⟨q, hq, hts⟩ := Option.bind_eq_some_iff.mp hts
          by_cases c1 : 0 < q
          · rw [if_pos c1] at hts
            by_cases c2 : q ≤ (rest.length : Int)
            · rw [if_pos c2] at hts
              obtain ⟨t, ht, hts⟩ := Option.bind_eq_some_iff.mp hts
              injection hts with hts
              exact ⟨t, hts.symm, fun _ => ⟨q, hq, c1, c2, ht⟩, fun h => (by cases h)⟩
            · rw [if_neg c2] at hts; cases hts
          · rw [if_neg c1] at hts; cases hts
      obtain ⟨t, htt, hgo, hend⟩ := hts2
      have HGO := Aside0.mk hgo
      have HEND := Aside0.mk hend
      have hat : ys[pre.length]? = some (⟨r1, r2⟩, r3) := by
        rw [hysp, htt, List.getElem?_append_right (by simp)]
        simp
      have hpre : pre.map offY = ys.take pre.length := by
        rw [hysp, List.take_append_of_le_length (by simp), List.take_of_length_le (by simp)]
      have HAT := Aside0.mk hat
      have HPRE := Aside0.mk hpre
      have HYS2 : Aside0 (ys = (pre.map offY ++ [(⟨r1, r2⟩, r3)]) ++ t) := ⟨by rw [hysp, htt, List.append_assoc]; rfl⟩
      clear hone hCi hC0 hts hysp HTS HYS hgo hend hat hpre htt
      gi_wp2_with (refine ⟨trivial, ?_⟩; gi_at_call 37; refine (callsIn_wide.2 (HONE.out _ HW1.out)).mono ?_; rintro e w1 ⟨v1, rfl, hv, hb⟩; obtain ⟨A1, c1, rfl⟩ := Kd.V_slice hv; have HV := Aside0.mk hv; have HB := Aside0.mk hb; clear hv hb)
      obtain ⟨y, hy0⟩ : ∃ y : YE, y = ⟨⟨r1, r2⟩, r3, A1, c1, w1.heap.size⟩ := ⟨_, rfl⟩
      have hB2 : Below wr.heap.size wr (w1.alloc (.cells #[.int .i64 r1, .slice A1 r2.length c1] 25)) := HB.out.alloc HB.out.size _
      have hnew : (w1.alloc (.cells #[.int .i64 r1, .slice A1 r2.length c1] 25)).heap[w1.heap.size]? = some (.cells (valY y) 25 (0, 0)) := by rw [hy0]; exact World.alloc_heap_new w1 _
      have hVat := Kd.V_at HV.out
      have hF2 : Kd.F (Kd.int .u64) (w1.alloc (.cells #[.int .i64 r1, .slice A1 r2.length c1] 25)) (fun k => wr.heap.size ≤ k) A1 r2.length r2 := Kd.F_alloc hVat.2.2 _
      obtain ⟨w2, hw2⟩ : ∃ w2, w1.alloc (.cells #[.int .i64 r1, .slice A1 r2.length c1] 25) = w2 := ⟨_, rfl⟩
      rw [hw2] at hB2 hnew hF2 ⊢
      have hJ2 : J pre w2 := hJ pre wr w2 none hJp (grown_of_below hB2 none) (fun r e => by cases e)
      have hsz1 := HB.out.size
      have hE : EY ys pre y wr w2 := ⟨by rw [HAT.out, hy0]; rfl, HPRE.out, hB2, by rw [hy0] at hnew ⊢; exact hnew, by rw [hy0]; exact hsz1, by rw [hy0]; exact hVat.2.1, by rw [hy0]; exact hF2⟩
      obtain ⟨fn, tmps, assign, body, hyq, hR⟩ := hY pre y wr w2 hJp hJ2 hE
      have hyq2 : (Instr.yield l #[.agg #[.int .i64 r1, .slice A1 r2.length c1], .bool r3]).run Try.prog w2 = .ok (.round l fn tmps assign body) w2 := by
        rw [hy0] at hyq
        exact hyq
      have hbw2 : Boxed w2 bw 23 (.slice Ai rest.length ci) := (hB2.block _ hbw.lt).trans hbw
      have hbg2 : Boxed w2 bg 22 (.int .u64 g) := (hB2.block _ hbg.lt).trans hbg
      have hC2 : Kd.C (Kd.int .u64) w2 A0 l0.length l0 := Kd.C_below HC0.out hB2
      have hCy2 : Kd.C (Kd.int .u64) w2 A1 r2.length r2 := Kd.F_now hF2
      have hc1 := hVat.2.1
      have HF2 := Aside0.mk hF2
      clear hF2 hVat HV hw2 hE hyq HB HONE HW1
      rw [hyq2]
      (try gi_wp2)
      refine hR.mono ?_
      rintro e W3 (⟨rfl, hJ3, hk3⟩ | ⟨rfl, hJx3⟩)
      · have hbw3 := hk3.1 _ hbw2
        have hbg3 := hk3.2.1 _ hbg2
        have hblk3 : W3.heap[w1.heap.size]? = some (.cells #[.int .i64 r1, .slice A1 r2.length c1] 25 (0, 0)) := by
          have := hk3.2.2.1 (valY y) (by rw [hy0] at hnew ⊢; exact hnew)
          rw [hy0] at this
          exact this
        have hC3 := hk3.2.2.2.1 hC2
        have hCy3 : Kd.C (Kd.int .u64) W3 A1 r2.length r2 := by
          have := hk3.2.2.2.2 (by rw [hy0]; exact hCy2)
          rw [hy0] at this
          exact this
        clear hk3 hC2 hCy2 hbw2 hbg2 hyq2 hR
        cases r3 with
        | false =>
          have ht := HEND.out rfl
          gi_wp2
          refine bodyPost_ret (results_none rfl _ _ _) rfl ?_
          exact ⟨⟨_, rfl⟩, .inl ⟨pre ++ [y], by rw [HYS2.out, ht, hy0]; simp [offY], hJ3⟩⟩
        | true =>
          obtain ⟨q, hq, hq0, hqr, hte⟩ := HGO.out rfl
          gi_wp2
          have nJ := hJ (pre ++ [y]) W3 W3.drew none hJ3 (grown_of_below (below_drew (Below.refl _ _)) none) (fun r e => by cases e)
          have nC : Kd.C (Kd.int .u64) W3.drew A0 l0.length l0 := Kd.C_drew hC3
          have nCy : Kd.C (Kd.int .u64) W3.drew A1 r2.length r2 := Kd.C_drew hCy3
          have nbw : Boxed W3.drew bw 23 (.slice Ai rest.length ci) := hbw3
          have nbg : Boxed W3.drew bg 22 (.int .u64 g) := hbg3
          have nblk : W3.drew.heap[w1.heap.size]? = some (.cells #[.int .i64 r1, .slice A1 r2.length c1] 25 (0, 0)) := hblk3
          refine wpIn_wide.2 ?_
          refine start_ (n := 5) (S := fun w' => w'.cell? ⟨bw, 0, none⟩ = some (.slice Ai rest.length ci) ∧ w'.cell? ⟨w1.heap.size, 0, none⟩ = some (.int .i64 r1) ∧ w'.cell? ⟨w1.heap.size, 1, none⟩ = some (.slice A1 r2.length c1)) (ds := [4]) #[false, false, false, false, false] (by kernel_rfl) rfl rfl ⟨nbw.cell, (blk_cell nblk 0).trans rfl, (blk_cell nblk 1).trans rfl⟩ (fun hHeld => ?_)
          refine with_tabW ents1_tab3 ents1_bits3 (fun HT_ HW_ => ?_)
          clear hbw3 hbg3 hblk3 hC3 hCy3 hJ3
          generalize W3.drew = w4 at nJ nC nCy nbw nbg nblk hHeld ⊢
          refine take_ (i := 0) (N := some 24) (v := ?_) (a' := ?_) #[true, false, false, false, false] rfl rfl (take_ofW HT_.out HW_.out (by kernel_rfl)) (fun _ _ _ h => h) (Or.inl ⟨by rfl, ?_⟩) hHeld ?_ ?_
          rotate_left
          · rintro w' ⟨s0, s1, s2⟩
            go_simp
            with_reducible rfl
          rotate_left
          · simp only [Act.put, List.setIfInBounds_toArray, List.set_cons_zero, List.set_cons_succ, i64_w, i32_w]
            rfl
          refine take_ (i := 1) (N := some 25) (v := ?_) (a' := ?_) #[true, true, false, false, false] rfl rfl (take_ofW HT_.out HW_.out (by kernel_rfl)) (fun _ _ _ h => h) (Or.inl ⟨by rfl, ?_⟩) hHeld ?_ ?_
          rotate_left
          · rintro w' ⟨s0, s1, s2⟩
            go_simp
            with_reducible rfl
          rotate_left
          · simp only [Act.put, List.setIfInBounds_toArray, List.set_cons_zero, List.set_cons_succ, i64_w, i32_w]
            rfl
          refine one_ (i := 2) (N := some 26) #[true, true, true, false, false] rfl rfl (one_of HT_.out (by kernel_rfl)) (by decide) (fun K hK => ?_)
          refine goes_ Try.func15 (by kernel_rfl) rfl #[.agg #[.int .i64 r1, .slice A1 r2.length c1]] (by rfl) rfl rfl (by (try simp only [List.map_toArray, List.map_cons, List.map_nil]); first | done | rfl | (simp only [List.length_drop, List.length_take]; rfl)) ?_
          with_reducible refine (undo_Size.calls r1 _ _ r2 q _ nCy hc1 hq).mono ?_
          rintro e w5 ⟨rfl, hb⟩
          refine ⟨_, rfl, ?_⟩
          have mJ := hJ (pre ++ [y]) w4 w5 none nJ (grown_of_below hb none) (fun r e => by cases e)
          have mC : Kd.C (Kd.int .u64) w5 A0 l0.length l0 := Kd.C_below nC hb
          have mbw : Boxed w5 bw 23 (.slice Ai rest.length ci) := (hb.block _ nbw.lt).trans nbw
          have mbg : Boxed w5 bg 22 (.int .u64 g) := (hb.block _ nbg.lt).trans nbg
          have mblk : w5.heap[w1.heap.size]? = some (.cells #[.int .i64 r1, .slice A1 r2.length c1] 25 (0, 0)) := blk_below nblk hb
          clear nJ nC nCy nbw nbg nblk hb
          refine hK.out _ _ ⟨mbw.cell, (blk_cell mblk 0).trans rfl, (blk_cell mblk 1).trans rfl⟩ (fun hHeld => ?_)
          clear hK K
          refine norm_ (a' := ?_) ?_ ?_
          rotate_left
          · show Act.put _ (some 26) _ = _
            simp only [Act.put, List.setIfInBounds_toArray, List.set_cons_zero, List.set_cons_succ, i64_w, i32_w]
            rfl
          obtain ⟨qn, hqn⟩ := Int.eq_ofNat_of_zero_le (show 0 ≤ q by omega)
          subst hqn
          obtain ⟨i0l, hi0l, _, hszl, _⟩ := info_parts info22
          have hcutl := cut_from (P := Try.prog) 23 22 .i64 Try.underlying23 hi0l 1 hszl Ai rest.length ci (qn : Int) (by omega) hqr
          rw [Int.toNat_natCast] at hcutl hte
          obtain ⟨Al, hAl⟩ : ∃ A : Option Addr, A = (if ci = qn then Ai else Ai.map (·.add (qn * 1))) := ⟨_, rfl⟩
          obtain ⟨cl, hcl⟩ : ∃ c, c = ci - qn := ⟨_, rfl⟩
          obtain ⟨ln, hln⟩ : ∃ c, c = rest.length - qn := ⟨_, rfl⟩
          rw [← hAl, ← hcl, ← hln] at hcutl
          refine pure_ (i := 3) (N := some 27) (v := ?_) (a' := ?_) #[true, true, true, true, false] rfl rfl (any_of HT_.out (by kernel_rfl)) (fun _ _ _ h => h) (Or.inl ⟨by rfl, ?_⟩) ?_ ?_
          rotate_left
          · intro w'
            go_simp
            with_reducible rfl
          rotate_left
          · simp only [Act.put, List.setIfInBounds_toArray, List.set_cons_zero, List.set_cons_succ, i64_w, i32_w]
            rfl
          refine last_ (i := 4) (N := none) #[true, true, true, true, true] rfl rfl (one_of HT_.out (by kernel_rfl)) (by decide) (fun K hK => ?_)
          have hs28 := mbw.cell
          have hfs28 := mbw.frozen
          have hneb : w1.heap.size ≠ bw := fun e => by
            have h1 : w5.heap[bw]? = some (.cells #[.slice Ai rest.length ci] 23 (0, 0)) := mbw
            rw [e] at mblk
            rw [h1] at mblk
            cases mblk
          have hneg : bg ≠ bw := fun e => by
            have h1 : w5.heap[bw]? = some (.cells #[.slice Ai rest.length ci] 23 (0, 0)) := mbw
            have h2 : w5.heap[bg]? = some (.cells #[.int .u64 g] 22 (0, 0)) := mbg
            rw [e, h1] at h2
            cases h2
          refine skip_ (w1 := ?_) (by rfl) rfl ?_ ?_
          rotate_left
          · go_simp
            rfl
          refine hK.out _ _ ?_
          clear hK K
          refine done_ (done_of HT_.out (by kernel_rfl)) ?_
          have hset := mbw.set (.slice (if ci = qn then Ai else Option.map (fun x => x.add qn) Ai) (rest.length - qn) (ci - qn))
          have hcset := hset.cell
          refine And.intro ?_ ?measure
          (try dsimp only)
          (repeat apply Exists.intro)
          refine ⟨?rel, rfl⟩
          case rel =>
            refine ⟨k, rest.drop qn, (if ci = qn then Ai else Option.map (fun x => x.add qn) Ai), ci - qn, pre ++ [y], t, hte, by rw [HYS2.out, hy0]; simp [offY], hT _ _ _ mJ ⟨_, rfl⟩, by rw [List.length_drop]; exact hset, mbg.other hneg _, by rw [List.length_drop]; omega, fun W' hW' => ?_, C_set mbw (fun z e => by cases e) _ mC⟩
            have h9 := Kd.C_drop (k := Kd.int .u64) (m := qn) (HCi.out W' hW') (by omega) hci
            exact (by simpa [Kd.int, Kd.scalar] using h9)
          case measure =>
            rw [hcset, hcw]
            show rest.length - qn < rest.length
            omega
      · gi_wp2
        refine bodyPost_ret (results_none rfl _ _ _) rfl ?_
        exact ⟨⟨_, rfl⟩, .inr ⟨_, trivial, hJx3⟩⟩
    · obtain rfl : rest = [] := by cases rest with | nil => rfl | cons _ _ => simp at hlt
      gi_wp2
      go_end0
      exact ⟨⟨_, rfl⟩, .inl ⟨pre, by cases k with | zero => cases hts | succ k => (rw [undo_ents, if_neg (by decide)] at hts; injection hts with hts; rw [hysp, ← hts, List.append_nil]), hJp⟩⟩
set_option maxHeartbeats 1000000 in
theorem ents_in (n : Nat) (g : Int) (A : Option Addr) (k c : Nat) (w : World) :
    CallsIn Fence.wide n Try.prog 28 #[.int .u64 g, .slice A k c] w fun e w' => e = .returned (.func (.func 36) #[] #[.pointer (some ⟨w.heap.size + 1, 0, none⟩), .pointer (some ⟨w.heap.size, 0, none⟩)]) ∧
      w' = (w.alloc (.cells #[.int .u64 g] 22)).alloc (.cells #[.slice A k c] 23) := by
  refine callsIn_of_wp Try.func28 rfl trivial ?_ rfl
  simp only [Try.ntmps28, List.size_toArray, List.length_cons, List.length_nil, Nat.reduceAdd, Nat.reduceSub, Array.replicate_succ, Array.replicate_zero, List.push_toArray, List.append_toArray, List.nil_append, List.cons_append]
  gi_wp2
  go_ret
  exact ⟨rfl, rfl⟩
theorem ents_seq (n : Nat) (hn : 1 ≤ n) (bw bg : Nat) (g : Int) (A0 : Option Addr) (l0 : List Int) (c0 : Nat) (ys : List (S25 × Bool)) (k0 : Nat) (hys : undo_ents g k0 l0 = some ys) (w : World)
    (hw : Boxed w bw 23 (.slice A0 l0.length c0)) (hg : Boxed w bg 22 (.int .u64 g)) (hC : Kd.C (Kd.int .u64) w A0 l0.length l0) (hc : l0.length ≤ c0) :
    SeqT2 Fence.wide n Try.prog 36 #[.pointer (some ⟨bw, 0, none⟩), .pointer (some ⟨bg, 0, none⟩)] encY (KpY bw bg A0 l0) (TY bw) (EY ys) (fun xs _ => xs.map offY = ys) (fun _ _ => True) w :=
  fun l J Jx W hW hJ _ hT hY h0 => (ents1_in n hn l bw bg g A0 l0 c0 ys k0 hys W.heap.size J Jx hJ hT hY W ((hW.block _ hw.lt).trans hw) ((hW.block _ hg.lt).trans hg) (Kd.C_below hC hW) hc h0).mono fun _ _ h => ⟨h.1, h.2.elim (fun ⟨ys, e, hj⟩ => .inl ⟨ys, e, hj⟩) (fun ⟨pre, e, hj⟩ => .inr ⟨pre, e, hj⟩)⟩
theorem TY_keeps (bw n : Nat) (hlt : bw < n) (A B : World) (h : TY bw A B) : KeepsFrom n A B := by
  obtain ⟨v, rfl⟩ := h
  exact KeepsFrom.of_grownBy (grownBy_setCell' A bw v) (fun j e => by cases e; exact hlt)
theorem C_blk {k : IntKind} {W W' : World} {A : Option Addr} {n : Nat} {xs : List Int} (hC : Kd.C (Kd.int k) W A n xs) (h : ∀ ad, A = some ad → 0 < n → W'.heap[ad.block]? = W.heap[ad.block]?) : Kd.C (Kd.int k) W' A n xs := by
  refine ⟨hC.1, hC.2.1, fun hn => ?_⟩
  obtain ⟨ad, he, hc⟩ := hC.2.2 hn
  refine ⟨ad, he, fun j p hj => ?_⟩
  obtain ⟨cs, h1, h2, h3⟩ := hc j p hj
  refine ⟨cs, h1, h2, fun i u hu => ?_⟩
  have h4 := h3 i u hu
  rw [← h4]
  unfold World.cell?
  rw [add_block, h ad he hn]
theorem C_isCells {k : IntKind} {W : World} {ad : Addr} {n : Nat} {xs : List Int} (hC : Kd.C (Kd.int k) W (some ad) n xs) (hn : 0 < n) : ∃ o : Obj, W.heap[ad.block]? = some o ∧ o.isCells = true := by
  obtain ⟨ad', he, hc⟩ := hC.2.2 hn
  injection he with he
  subst he
  have hl : 0 < xs.length := by rw [hC.1]; exact hn
  obtain ⟨cs, h1, h2, h3⟩ := hc 0 _ (List.getElem?_eq_getElem hl)
  have h5 : cs = [Value.int k xs[0]] := h2
  subst h5
  have h6 := cells_of_cell (h3 0 _ rfl)
  rw [add_block] at h6
  exact h6
def EntOk (B : Nat) (v : Value) (y : YE) (W : World) : Prop := y.x.f1.length ≤ y.c ∧ Kd.C (Kd.int .u64) W y.A y.x.f1.length y.x.f1 ∧ ∀ ad, y.A = some ad → 0 < y.x.f1.length → B ≤ ad.block ∧ ad.block < W.heap.size ∧ some ad.block ≠ v.ownBlock
def cY (y : YE) : List Value := [.int .i64 y.x.f0, .slice y.A y.x.f1.length y.c]
theorem EntOk.move {B : Nat} {v v' : Value} {y : YE} {W W' : World} (h : EntOk B v y W) (hsz : W.heap.size ≤ W'.heap.size) (hv : ∀ k, k < W.heap.size → some k ≠ v.ownBlock → some k ≠ v'.ownBlock)
    (hm : ∀ k o, W.heap[k]? = some o → o.isCells = true → B ≤ k → some k ≠ v.ownBlock → W'.heap[k]? = some o) : EntOk B v' y W' := by
  refine ⟨h.1, C_blk h.2.1 (fun ad he hn => ?_), fun ad he hn => ?_⟩
  · obtain ⟨h1, h2, h3⟩ := h.2.2 ad he hn
    have h4 := h.2.1
    rw [he] at h4
    obtain ⟨o, ho, hc⟩ := C_isCells h4 hn
    rw [ho]
    exact hm _ o ho hc h1 h3
  · obtain ⟨h1, h2, h3⟩ := h.2.2 ad he hn
    exact ⟨h1, by omega, hv _ h2 h3⟩
structure Core (w0 : World) (bo br B : Nat) (v : Value) (b : Bool) (pre : List YE) (W : World) : Prop where
  out : Boxed W bo 34 v
  right : Boxed W br 4 (.bool b)
  row : W.ownsRow B 25 2 v pre.length (pre.flatMap cY)
  ents : ∀ y ∈ pre, EntOk B v y W
  bel : Below w0.heap.size w0 W
  size : B ≤ W.heap.size
theorem Core.move {w0 : World} {bo br B : Nat} {v : Value} {b : Bool} {pre : List YE} {W W' : World} (h : Core w0 bo br B v b pre W) (hbel : Below w0.heap.size w0 W') (hsz : W.heap.size ≤ W'.heap.size)
    (hm : ∀ k o, W.heap[k]? = some o → o.isCells = true → (k = bo ∨ k = br ∨ B ≤ k) → W'.heap[k]? = some o) : Core w0 bo br B v b pre W' :=
  ⟨hm _ _ h.out rfl (.inl rfl), hm _ _ h.right rfl (.inr (.inl rfl)), own_move h.row (fun k hk => by
    obtain ⟨cells, hc⟩ := own_typed h.row k hk
    rw [hc]
    exact hm _ _ hc rfl (.inr (.inr (own_base h.row k hk)))), fun y hy => (h.ents y hy).move hsz (fun _ _ h => h) (fun k o ho hc hB _ => hm k o ho hc (.inr (.inr hB))), hbel, by have := h.size; omega⟩
theorem Core.turn {w0 : World} {bo br B : Nat} {v : Value} {b : Bool} {pre : List YE} {W W' : World} {row : Option Nat} (h : Core w0 bo br B v b pre W) (hB : w0.heap.size ≤ B) (hg : W.grownBy W' row) (hr : ∀ r, row = some r → B ≤ r ∧ ∃ o : Obj, W.heap[r]? = some o ∧ o.isCells = false) : Core w0 bo br B v b pre W' :=
  h.move (h.bel.grown hg (by have := h.size; omega) (fun k e => by have := (hr k e).1; omega)) hg.size (fun k o hk hc _ => (hg.block k (Array.getElem?_eq_some_iff.1 hk).1 (fun e => by
    obtain ⟨_, o', ho', hc'⟩ := hr k e.symm
    rw [hk] at ho'
    cases ho'
    rw [hc] at hc'
    cases hc')).trans hk)
theorem Core.setOther {w0 : World} {bo br B : Nat} {v : Value} {b : Bool} {pre : List YE} {W : World} (h : Core w0 bo br B v b pre W) (p : Nat) (hp0 : w0.heap.size ≤ p) (hpB : p < B) (hpo : p ≠ bo) (hpr : p ≠ br) (u : Value) : Core w0 bo br B v b pre (W.setCell ⟨p, 0, none⟩ u) :=
  h.move (h.bel.setCell (p := ⟨p, 0, none⟩) hp0 u) (by simp) (fun k o hk _ hc => (Below.heap_setCell W ⟨p, 0, none⟩ u k (by
    show k ≠ p
    rcases hc with rfl | rfl | hc
    · exact hpo.symm
    · exact hpr.symm
    · omega)).trans hk)
theorem Core.alloc {w0 : World} {bo br B : Nat} {v : Value} {b : Bool} {pre : List YE} {W : World} (h : Core w0 bo br B v b pre W) (hB : w0.heap.size ≤ B) (o : Obj) : Core w0 bo br B v b pre (W.alloc o) :=
  h.turn hB (World.grownBy_alloc W o none) (fun r e => by cases e)
theorem Core.setRight {w0 : World} {bo br B : Nat} {v : Value} {b : Bool} {pre : List YE} {W : World} (h : Core w0 bo br B v b pre W) (h0 : w0.heap.size ≤ br) (hB : br < B) (hne : bo ≠ br) (b' : Bool) : Core w0 bo br B v b' pre (W.setCell ⟨br, 0, none⟩ (.bool b')) := by
  have hm : ∀ k o, W.heap[k]? = some o → k ≠ br → (W.setCell ⟨br, 0, none⟩ (.bool b')).heap[k]? = some o := fun k o hk hne' => (Below.heap_setCell W ⟨br, 0, none⟩ _ k hne').trans hk
  refine ⟨hm _ _ h.out hne, h.right.set _, own_move h.row (fun k hk => ?_), fun y hy => (h.ents y hy).move (by simp) (fun _ _ h => h) (fun k o ho hc hB' _ => hm k o ho (by omega)), h.bel.setCell (p := ⟨br, 0, none⟩) h0 _, by simpa using h.size⟩
  obtain ⟨cells, hc⟩ := own_typed h.row k hk
  have hBk := own_base h.row k hk
  rw [hc]
  exact hm _ _ hc (by omega)
theorem Core.push {w0 : World} {bo br B : Nat} {v v' : Value} {b : Bool} {pre : List YE} {W wE : World} {tmp : Obj} {y : YE} (h : Core w0 bo br B v b pre W) (hB : w0.heap.size ≤ B) (h0 : w0.heap.size ≤ bo) (hb : bo < B) (hbr : br < B) (hne : bo ≠ br) (hy : EntOk B v y W)
    (hown' : wE.ownsRow B 25 2 v' (pre.length + 1) (pre.flatMap cY ++ cY y)) (hg : (W.alloc tmp).grownBy wE v.ownBlock) (hat : v'.ownBlock = v.ownBlock ∨ v'.ownBlock = some (W.alloc tmp).heap.size) :
    Core w0 bo br B v' b (pre ++ [y]) (wE.setCell ⟨bo, 0, none⟩ v') ∧ KeepsOthers W (wE.setCell ⟨bo, 0, none⟩ v') ∧ (∀ k o, W.heap[k]? = some o → some k ≠ v.ownBlock → k ≠ bo → (wE.setCell ⟨bo, 0, none⟩ v').heap[k]? = some o) := by
  have h1 := h.alloc hB tmp
  have hob := own_base h1.row
  have hne1 : some bo ≠ v.ownBlock := fun e => by have := hob bo e.symm; omega
  have hnr : some br ≠ v.ownBlock := fun e => by have := hob br e.symm; omega
  have hne2 : some bo ≠ v'.ownBlock := fun e => by have := own_base hown' bo e.symm; omega
  have hold : ∀ k o, W.heap[k]? = some o → (W.alloc tmp).heap[k]? = some o := fun k o hk => (heap_alloc_old W tmp (Array.getElem?_eq_some_iff.1 hk).1).trans hk
  have hm : ∀ k o, (W.alloc tmp).heap[k]? = some o → some k ≠ v.ownBlock → k ≠ bo → (wE.setCell ⟨bo, 0, none⟩ v').heap[k]? = some o := fun k o hk h2 h3 =>
    (Below.heap_setCell wE ⟨bo, 0, none⟩ v' k h3).trans ((hg.block k (Array.getElem?_eq_some_iff.1 hk).1 h2).trans hk)
  have hbo : Boxed wE bo 34 v := (hg.block bo h1.out.lt hne1).trans h1.out
  have hsz : (W.alloc tmp).heap.size ≤ wE.heap.size := hg.size
  have hsz2 : (W.alloc tmp).heap.size = W.heap.size + 1 := by simp
  have hsB := h.size
  have hv2 : ∀ k, k < W.heap.size → some k ≠ v.ownBlock → some k ≠ v'.ownBlock := fun k hk h2 h3 => by
    rcases hat with hat | hat
    · exact h2 (by rw [← hat]; exact h3)
    · rw [hat] at h3
      injection h3 with h3
      omega
  refine ⟨⟨hbo.set v', hm _ _ h1.right hnr hne.symm, ?_, fun z hz => ?_, ?_, ?_⟩, ?_, fun k o hk h2 h3 => hm k o (hold k o hk) h2 h3⟩
  · have := own_setCell hown' (p := ⟨bo, 0, none⟩) hne2 v'
    rw [List.length_append, List.flatMap_append]
    simpa using this
  · have hz' : EntOk B v z W := by
      rcases List.mem_append.1 hz with hz | hz
      · exact h.ents z hz
      · rw [List.mem_singleton.1 hz]; exact hy
    exact hz'.move (by simp; omega) hv2 (fun k o ho hc hBk hk => hm k o (hold k o ho) hk (by omega))
  · exact (h1.bel.grown hg (by omega) (fun k e => by have := hob k e; omega)).setCell (p := ⟨bo, 0, none⟩) h0 _
  · simp; omega
  · refine ((KeepsOthers.alloc W tmp).trans (KeepsOthers.of_grownBy hg fun j o ej hj => ?_)).trans (KeepsOthers.setCell _ _ _)
    obtain ⟨cells, hc⟩ := own_typed h1.row j ej
    rw [hc] at hj
    cases hj
    rfl
theorem F_all25 {w : World} {A : Option Addr} {n : Nat} {xs : List S25} (h : Kd.C k25 w A n xs) : Kd.F k25 w (fun _ => True) A n xs := fun W' hW => by
  refine ⟨h.1, h.2.1, fun hn => ?_⟩
  obtain ⟨ad, he, hc⟩ := h.2.2 hn
  refine ⟨ad, he, fun j p hj => ?_⟩
  obtain ⟨cs, h1, h2, h3⟩ := hc j p hj
  obtain ⟨A1, c1, rfl, hle, hC⟩ := k25_open h2
  refine ⟨_, h1, k25_mk W' p hle (C_blk hC (fun ad1 he1 hn1 => ?_)), fun i u hu => ?_⟩
  · rw [he1] at hC
    obtain ⟨o, ho, _⟩ := C_isCells hC hn1
    exact hW _ trivial (Array.getElem?_eq_some_iff.1 ho).1
  · have h4 := h3 i u hu
    have hb := World.block_lt_of_cell? w _ h4
    rw [← h4]
    unfold World.cell?
    rw [hW _ trivial hb]
theorem info25D : (Try.prog.info? 25).map (fun i => (i.zero, i.size, i.bytes)) = some (some (.agg #[.int .i64 0, .slice none 0 0]), 2, 32) := by kernel_rfl
theorem cell_two_new (W : World) (a b : Value) (t : TypeId) (j : Nat) (u : Value) (h : [a, b][j]? = some u) : (W.alloc (.cells #[a, b] t)).cell? ((⟨W.heap.size, 0, none⟩ : Addr).add j) = some u := by
  have hn := World.alloc_heap_new W (.cells #[a, b] t)
  match j, h with
  | 0, h => injection h with h; subst h; exact (blk_cell hn 0).trans rfl
  | 1, h => injection h with h; subst h; exact (blk_cell hn 1).trans rfl
theorem reps_pre (W : World) : ∀ (n : Nat) (pre : List YE), pre.length = n → (∀ y ∈ pre, y.x.f1.length ≤ y.c ∧ Kd.C (Kd.int .u64) W y.A y.x.f1.length y.x.f1) → Reps (k25.K W) 2 (pre.map (·.x)) (pre.flatMap cY)
  | 0, pre, h, _ => by
    obtain rfl := List.length_eq_zero_iff.1 h
    exact Reps.none _ _
  | n + 1, pre, h, hq => by
    rcases List.eq_nil_or_concat pre with rfl | ⟨p', y, rfl⟩
    · simp at h
    · simp only [List.concat_eq_append] at h hq ⊢
      rw [List.flatMap_append, List.map_append, show [y].flatMap cY = cY y by simp]
      refine (reps_pre W n p' (by simpa using h) (fun z hz => hq z (List.mem_append_left _ hz))).snoc ?_ rfl
      obtain ⟨h1, h2⟩ := hq y (by simp)
      exact k25_mk W y.x h1 h2
theorem core_C {B : Nat} {v : Value} {pre : List YE} {W : World} (hrow : W.ownsRow B 25 2 v pre.length (pre.flatMap cY)) (hents : ∀ y ∈ pre, y.x.f1.length ≤ y.c ∧ Kd.C (Kd.int .u64) W y.A y.x.f1.length y.x.f1) :
    ∃ A c, v = .slice A (pre.map (·.x)).length c ∧ (pre.map (·.x)).length ≤ c ∧ Kd.C k25 W A (pre.map (·.x)).length (pre.map (·.x)) := by
  obtain ⟨A, c, h1, h3⟩ := own_reads_row hrow (reps_pre W _ pre rfl hents) (by simp)
  have h2 : pre.length ≤ c := by
    rcases hrow.2 with ⟨e1, e2⟩ | ⟨g, cap, cur, e1, _, _, e2, _⟩
    · rw [h1] at e1
      injection e1 with _ e1
      omega
    · rw [h1] at e1
      injection e1 with _ _ e1
      omega
  simp only [List.length_map]
  exact ⟨A, c, h1, h2, h3⟩
theorem core_V {w0 : World} {bo br B : Nat} {v : Value} {b : Bool} {pre : List YE} {W : World} (h : Core w0 bo br B v b pre W) (hB : w0.heap.size ≤ B) (base : Nat) : Kd.V k25 25 W base (fun k_ => w0.heap.size ≤ k_) v (pre.map (·.x)) := by
  obtain ⟨A, c, h1, h2, h3⟩ := core_C h.row (fun y hy => ⟨(h.ents y hy).1, (h.ents y hy).2.1⟩)
  refine ⟨A, c, h1, h2, fun W' hW => ?_⟩
  have hrow : W'.ownsRow B 25 2 v pre.length (pre.flatMap cY) := own_move h.row (fun k hk => hW k (by have := own_base h.row k hk; omega) (own_lt h.row k hk))
  obtain ⟨A', c', h1', h2', h3'⟩ := core_C hrow (fun y hy => ⟨(h.ents y hy).1, C_blk (h.ents y hy).2.1 (fun ad he hn => by
    obtain ⟨q1, q2, _⟩ := (h.ents y hy).2.2 ad he hn
    exact hW _ (by omega) q2)⟩)
  rw [h1] at h1'
  injection h1' with e1 e2 e3
  rw [e1]
  exact h3'
attribute [local go_sem] Oper.semAt_some
def undo_Decode.f (a0 : Int) (l1 : List Int) : Option (List S25 × Bool) := (undo_ents a0 (l1.length + 1) l1).bind fun ys => if ys.length < 4398046511104 then (if ys.all (·.2) = true then some (ys.map (·.1), true) else some ([], false)) else none
def AxD (w0 : World) (bo br B : Nat) (ys : List (S25 × Bool)) (fr : Nat → YE → Act) (pre : List YE) (y : YE) (_W0 : World) (a' : Act) (W : World) : Prop :=
  ∃ v xb, a' = fr xb y ∧ Core w0 bo br B v true pre W ∧ (∀ z ∈ pre, z.ok = true) ∧ EntOk B v y W ∧ ys[pre.length]? = some (offY y) ∧ pre.map offY = ys.take pre.length ∧ W.heap[xb]? = some (.cells (valY y) 25 (0, 0)) ∧ W.heap[y.blk]? = some (.cells (valY y) 25 (0, 0)) ∧ some y.blk ≠ v.ownBlock ∧ some xb ≠ v.ownBlock ∧ B ≤ y.blk ∧ B ≤ xb
theorem AxD_put {w0 : World} {bo br B : Nat} {ys : List (S25 × Bool)} {fr : Nat → YE → Act} {pre : List YE} {y : YE} {W0 : World} {a' : Act} {W : World} (hB : w0.heap.size ≤ B) (l : Nat) (o o' : Obj) (hl : B ≤ l) (ho : W.heap[l]? = some o) (hc : o.isCells = false)
    (h : AxD w0 bo br B ys fr pre y W0 a' W) : AxD w0 bo br B ys fr pre y W0 a' (W.putObj l o') := by
  obtain ⟨v, xb, h1, h2, h3, h4, h5, h6, h7, h8, h9⟩ := h
  have hm : ∀ k (o2 : Obj), W.heap[k]? = some o2 → o2.isCells = true → (W.putObj l o').heap[k]? = some o2 := fun k o2 hk hc2 => by
    rw [World.putObj_heap_other (fun e => by subst e; rw [hk] at ho; cases ho; rw [hc] at hc2; cases hc2)]
    exact hk
  exact ⟨v, xb, h1, h2.turn hB (grownBy_putObj' W l o') (fun r e => by cases e; exact ⟨hl, o, ho, hc⟩), h3, h4.move (by simp) (fun _ _ h => h) (fun k o2 hk hc2 _ _ => hm k o2 hk hc2), h5, h6, hm _ _ h7 rfl, hm _ _ h8 rfl, h9⟩
theorem undo_Decode.fin (tmps : Array Value) (W : World) (v : Value) (b : Bool) (e1 : tmps.getD 4 undef = v) (e2 : tmps.getD 5 undef = .bool b) : (results Try.f16 tmps).run Try.prog W = .ok (.tuple #[v, .bool b]) W := by
  have h5 : tmps[4]?.getD undef = v := by simpa using e1
  have h6 : tmps[5]?.getD undef = .bool b := by simpa using e2
  simp [results, Try.f16, go_sem, h5, h6]
set_option maxHeartbeats 8000000 in
set_option maxRecDepth 100000 in
theorem undo_Decode.in_ (g : Int) (A0 : Option Addr) (c0 : Nat) (l0 : List Int) (r1 : List S25) (r2 : Bool) (w0 : World) (hr0 : Kd.C (Kd.int .u64) w0 A0 l0.length l0) (hc0 : l0.length ≤ c0) (h : undo_Decode.f g l0 = some (r1, r2)) :
    CallsIn Fence.wide 6 Try.prog 16 #[.int .u64 g, .slice A0 l0.length c0] w0 fun e w0' => ∃ v0_ : Value, e = .returned (.tuple #[v0_, .bool r2]) ∧ Kd.V k25 25 w0' w0.heap.size (fun k_ => w0.heap.size ≤ k_) v0_ r1 ∧ Below w0.heap.size w0 w0' := by
  obtain ⟨ys, hys, h⟩ := Option.bind_eq_some_iff.mp h
  by_cases hlen : ys.length < 4398046511104
  · rw [if_pos hlen] at h
    have HH := Aside0.mk h
    have HYS := Aside0.mk hys
    have HR0 := Aside0.mk hr0
    clear h hys hr0
    have hu := Try.underlying25
    have hu34 := Try.underlying34
    refine callsIn_of_wp_marks Try.func16 rfl trivial ?_ rfl
    simp only [Try.ntmps16, List.size_toArray, List.length_cons, List.length_nil, Nat.reduceAdd, Nat.reduceSub, Array.replicate_succ, Array.replicate_zero, List.push_toArray, List.append_toArray, List.nil_append, List.cons_append]
    gi_wp2
    refine wpIn_wide.2 (wp_scope_straight (wpIn_wide (n := 6).1 ?_))
    gi_wp2
    refine wpIn_label ?_
    gi_wp2_with (refine ⟨trivial, ?_⟩; gi_at_call 28; refine (ents_in (6 - 1) _ _ _ _ _).mono ?_; rintro e w0' ⟨rfl, rfl⟩)
    obtain ⟨w3, hw3⟩ : ∃ w3, ((((w0.alloc (.cells #[.slice none 0 0] 34)).alloc (.cells #[.bool true] 4)).alloc (.cells #[.int .u64 g] 22)).alloc (.cells #[.slice A0 l0.length c0] 23)) = w3 := ⟨_, rfl⟩
    have b1 : Boxed w3 w0.heap.size 34 (.slice none 0 0) := by rw [← hw3]; exact (((Boxed.new w0 34 _).alloc _).alloc _).alloc _
    have b2 : Boxed w3 (w0.heap.size + 1) 4 (.bool true) := by
      rw [← hw3]
      have := Boxed.new (w0.alloc (.cells #[.slice none 0 0] 34)) 4 (.bool true)
      rw [World.size_alloc] at this
      exact (this.alloc _).alloc _
    have b3 : Boxed w3 (w0.heap.size + 1 + 1) 22 (.int .u64 g) := by
      rw [← hw3]
      have := Boxed.new ((w0.alloc (.cells #[.slice none 0 0] 34)).alloc (.cells #[.bool true] 4)) 22 (.int .u64 g)
      rw [World.size_alloc, World.size_alloc] at this
      exact this.alloc _
    have b4 : Boxed w3 (w0.heap.size + 1 + 1 + 1) 23 (.slice A0 l0.length c0) := by
      rw [← hw3]
      have := Boxed.new (((w0.alloc (.cells #[.slice none 0 0] 34)).alloc (.cells #[.bool true] 4)).alloc (.cells #[.int .u64 g] 22)) 23 (.slice A0 l0.length c0)
      rw [World.size_alloc, World.size_alloc, World.size_alloc] at this
      exact this
    have hsz : w3.heap.size = w0.heap.size + 4 := by rw [← hw3]; simp
    have hB3 : Below w0.heap.size w0 w3 := by rw [← hw3]; exact ((((Below.refl _ w0).alloc (Nat.le_refl _) _).alloc (by simp) _).alloc (by simp; omega) _).alloc (by simp; omega) _
    rw [hw3]
    clear hw3
    obtain ⟨bo, hbo⟩ : ∃ b, b = w0.heap.size := ⟨_, rfl⟩
    obtain ⟨br, hbr⟩ : ∃ b, b = w0.heap.size + 1 := ⟨_, rfl⟩
    obtain ⟨bg, hbg⟩ : ∃ b, b = w0.heap.size + 1 + 1 := ⟨_, rfl⟩
    obtain ⟨bw, hbw⟩ : ∃ b, b = w0.heap.size + 1 + 1 + 1 := ⟨_, rfl⟩
    rw [← hbw, ← hbg, ← hbr, ← hbo]
    rw [← hbo] at b1
    rw [← hbr] at b2
    rw [← hbg] at b3
    rw [← hbw] at b4
    have hCw3 := Kd.C_below HR0.out hB3
    have HQ : Aside0 (w0.heap.size = bo ∧ bo < br ∧ br < bg ∧ bg < bw ∧ bw < w3.heap.size) := ⟨by omega⟩
    clear hbo hbr hbg hbw hsz
    refine wpIn_rangeT2 rfl (by decide) (gf := 36) (lb := #[.pointer (some ⟨bw, 0, none⟩), .pointer (some ⟨bg, 0, none⟩)]) rfl trivial (enters_of Try.func36 (by kernel_rfl) rfl)
      (ents_seq (6 - 1) (by decide) bw bg g A0 l0 c0 ys (l0.length + 1) HYS.out w3 b4 b3 hCw3 hc0)
      (fun y => KpY_t _ _ _ _ y) (fun y W l o o' _ h1 h2 _ => KpY_b _ _ _ _ y W l o o' h1 h2) (TY_keeps _ _ (by have := HQ.out; omega)) (Below.refl _ _) (fun _ => rfl)
      (fun pre W => ∃ v, Core w0 bo br w3.heap.size v true pre W ∧ ∀ z ∈ pre, z.ok = true)
      (fun c pre W => c = .exit 0 ∧ (∃ z ∈ ys, z.2 = false) ∧ Boxed W bo 34 (.slice none 0 0) ∧ Boxed W br 4 (.bool false) ∧ Below w0.heap.size w0 W)
      ?hI ?hIx ?hIT ?h0
      (AxD w0 bo br w3.heap.size ys (fun xb y => { tmps := #[.int .u64 g, .slice A0 l0.length c0, undef, undef, .slice none 0 0, .bool false, .pointer (some ⟨bo, 0, none⟩), .pointer (some ⟨br, 0, none⟩), .pointer (some ⟨xb, 0, none⟩), .bool y.ok, .int .u64 g, .slice A0 l0.length c0, .func (.func 36) #[] #[.pointer (some ⟨bw, 0, none⟩), .pointer (some ⟨bg, 0, none⟩)], .agg #[.int .i64 y.x.f0, .slice y.A y.x.f1.length y.c], .bool y.ok, undef, undef, undef, undef, undef, undef, undef, undef, undef], defers := [] })) ?hAx ?assign ?body ?done ?stop
    case hI =>
      rintro pre W W' row ⟨v, hc, hk⟩ hg hr
      have hq := HQ.out
      exact ⟨v, hc.turn (by omega) hg hr, hk⟩
    case hIx =>
      rintro c pre W W' row ⟨h1, h2, h3, h4, h5⟩ hg hr
      have hq := HQ.out
      exact ⟨h1, h2, h3.kept hg (fun e => by have := (hr _ e.symm).1; omega), h4.kept hg (fun e => by have := (hr _ e.symm).1; omega), h5.grown hg h5.size (fun k e => by have := (hr k e).1; omega)⟩
    case hIT =>
      rintro pre A B ⟨v, hc, hk⟩ ⟨u, rfl⟩
      have hq := HQ.out
      exact ⟨v, hc.setOther bw (by omega) (by omega) (by omega) (by omega) u, hk⟩
    case h0 => exact ⟨_, ⟨b1, b2, World.ownsRow_nil _ _ _ _, (fun y hy => by cases hy), hB3, Nat.le_refl _⟩, (fun z hz => by cases hz)⟩
    case hAx =>
      intro pre y W0 a' W l o o' hl ho hc h
      have hq := HQ.out
      exact AxD_put (by omega) l o o' hl ho hc h
    case assign =>
      rintro l pre y W0 W ⟨v, hc, hok⟩ - ⟨e1, e2, e3, e4, e5, e6, e7⟩
      have hcW : Core w0 bo br w3.heap.size v true pre W := hc.move (hc.bel.trans (e3.mono hc.bel.size)) e3.size (fun k o hk _ _ => (e3.block k (Array.getElem?_eq_some_iff.1 hk).1).trans hk)
      have hsW := hc.size
      have hown : ∀ k, W0.heap.size ≤ k → some k ≠ v.ownBlock := fun k hk e => by have := own_lt hc.row k e.symm; omega
      have hent : EntOk w3.heap.size v y W := by
        refine ⟨e6, Kd.F_now e7, fun ad he hn => ?_⟩
        obtain ⟨ad', _, he', _, _, _, hin⟩ := Kd.F_get e7 (0 : Int) 0 (by omega) (by omega)
        rw [he] at he'
        injection he' with he'
        subst he'
        have h1 := hin (by decide)
        have h2 := Kd.F_now e7
        rw [he] at h2
        obtain ⟨o, ho, _⟩ := C_isCells h2 hn
        exact ⟨by omega, (Array.getElem?_eq_some_iff.1 ho).1, hown _ h1⟩
      have hsz2 := e3.size
      simp only [encY]
      gi_wp2
      have hq := HQ.out
      refine ⟨(KeepsOthers.alloc W _).from _, ⟨fun u hu => hu.alloc _, fun u hu => hu.alloc _, fun cs hcs => (heap_alloc_old W _ (Array.getElem?_eq_some_iff.1 hcs).1).trans hcs, fun h => Kd.C_alloc h _, fun h => Kd.C_alloc h _⟩, v, W.heap.size, rfl, hcW.alloc (by omega) _, hok, ?_, e1, e2, World.alloc_heap_new W _, (heap_alloc_old W _ (Array.getElem?_eq_some_iff.1 e4).1).trans e4, hown _ e5, hown _ hsz2, by omega, by omega⟩
      exact hent.move (by simp) (fun _ _ h => h) (fun k o hk _ _ _ => (heap_alloc_old W _ (Array.getElem?_eq_some_iff.1 hk).1).trans hk)
    case body =>
      rintro l pre y W0 a' W ⟨v, xb, rfl, hc, hok, hent, hat, hpre, hxb, hyb, hny, hnx, hBy, hBx⟩
      have hq := HQ.out
      have hne1 : br ≠ bo := by omega
      have hne2 : bo ≠ br := by omega
      have hne3 : xb ≠ br := by omega
      have hne4 : xb ≠ bo := by omega
      have hcb := hc.out.cell
      have hfb := hc.out.frozen
      have hcr := hc.right.cell
      have hfr := hc.right.frozen
      have hx0 : W.cell? ⟨xb, 0, none⟩ = some (.int .i64 y.x.f0) := (blk_cell hxb 0).trans rfl
      have hx1 : W.cell? ⟨xb, 1, none⟩ = some (.slice y.A y.x.f1.length y.c) := (blk_cell hxb 1).trans rfl
      have hu4 := Try.underlying4
      clear hq
      dsimp only
      cases hyo : y.ok with
      | false =>
        gi_wp2
        have hq := HQ.out
        exact ⟨((KeepsOthers.setCell _ _ _).trans (KeepsOthers.setCell _ _ _)).from _, rfl, ⟨_, List.mem_of_getElem? hat, hyo⟩, (hc.out.other hne2 _).set _, (hc.right.set _).other hne1 _, (hc.bel.setCell (p := ⟨br, 0, none⟩) (by show _ ≤ br; omega) _).setCell (p := ⟨bo, 0, none⟩) (by show _ ≤ bo; omega) _⟩
      | true =>
        have hq := HQ.out
        have hc1 := hc.setRight (by omega) (by omega) hne2 true
        have hent1 : EntOk w3.heap.size v y (W.setCell ⟨br, 0, none⟩ (.bool true)) := hent.move (by simp) (fun _ _ h => h) (fun k o ho _ hB _ => (Below.heap_setCell W ⟨br, 0, none⟩ _ k (by show k ≠ br; omega)).trans ho)
        have hcA := hc1.alloc (by omega) (.cells #[.int .i64 y.x.f0, .slice y.A y.x.f1.length y.c] 25)
        have hlt := (List.getElem?_eq_some_iff.1 hat).1
        have hsz1 := hcA.size
        have hszA : (W.setCell ⟨br, 0, none⟩ (.bool true)).heap.size = W.heap.size := by simp
        obtain ⟨i0, hi, hz0, hz1, hz2⟩ := info_parts info25D
        have HC1 := Aside0.mk hc1
        have HENT := Aside0.mk hent1
        have HCA := Aside0.mk hcA
        have HCW := Aside0.mk hc
        clear hq hc1 hent1 hcA hc hu34
        gi_wp2_with (gi_at_builtin; refine Aside0.out ?_)
        refine ⟨?_⟩
        refine wpListIn_append_own_at _ rfl _ _ 34 rfl w3.heap.size 25 i0 (.agg #[.int .i64 0, .slice none 0 0]) 2 32 Try.underlying34 hi hz0 hz1 hz2 rfl (by decide) _ _ _ rfl HCA.out.row ⟨W.heap.size, 0, none⟩ 1 1 (cY y) rfl rfl ?hcell (by simp [cY, Value.oneCell']) (by simp only [maxLen]; omega) (by omega) hsz1 ?_
        case hcell =>
          have := cell_two_new (W.setCell ⟨br, 0, none⟩ (.bool true)) (.int .i64 y.x.f0) (.slice y.A y.x.f1.length y.c) 25
          rw [hszA] at this
          exact this
        intro v' wE hown' hgrow _ hatE
        obtain ⟨g', cap', rfl⟩ := ownsRow_succ hown'
        have hbE : Boxed wE bo 34 v := HCA.out.out.kept hgrow (fun e => by have := own_base HCA.out.row bo e.symm; have := HQ.out; omega)
        have hcE := hbE.cell
        have hfE := hbE.frozen
        gi_wp2
        have hq := HQ.out
        obtain ⟨hcore, hko, hold⟩ := HC1.out.push (by omega) (by omega) (by omega) (by omega) hne2 HENT.out hown' hgrow hatE
        have hkeep : ∀ k o, W.heap[k]? = some o → some k ≠ v.ownBlock → k ≠ bo → k ≠ br → (wE.setCell ⟨bo, 0, none⟩ (.slice (some ⟨g', 0, none⟩) (pre.length + 1) cap')).heap[k]? = some o := fun k o hk h1 h2 h3 =>
          hold k o ((Below.heap_setCell W ⟨br, 0, none⟩ _ k h3).trans hk) h1 h2
        have hnb : ∀ k, k < w3.heap.size → some k ≠ v.ownBlock := fun k hk e => by have := own_base HCA.out.row k e.symm; omega
        refine ⟨((KeepsOthers.setCell W _ _).trans hko).from _, ⟨fun u hu => hkeep _ _ hu (hnb _ (by omega)) (by omega) (by omega), fun u hu => hkeep _ _ hu (hnb _ (by omega)) (by omega) (by omega), fun cs hcs => hkeep _ _ hcs hny (by omega) (by omega), fun _ => Kd.C_below HR0.out hcore.bel, fun _ => (hcore.ents y (by simp)).2.1⟩, _, hcore, fun z hz => ?_⟩
        rcases List.mem_append.1 hz with hz | hz
        · exact hok z hz
        · rw [List.mem_singleton.1 hz]; exact hyo
    case done =>
      rintro D xs W0 W hD hS ⟨v, hc, hok⟩ hK
      have hq := HQ.out
      have hcb := hc.out.cell
      have hcr := hc.right.cell
      clear hq
      gi_wp2
      refine wpIn_wide.2 ?_
      go_quiet (fail)
      (try gi_wp2)
      rw [Exit.noGoto_ret]
      have hq := HQ.out
      have hKn : (W.drewN nq).heap[D]? = some (.deferred (some [])) := hK
      have hcd : Core w0 bo br w3.heap.size v true xs (W.drewN nq) := hc.move (pw_below_drewN hc.bel nq) (Nat.le_refl _) (fun k o h _ _ => h)
      have hall : ys.all (·.2) = true := by
        rw [← hS, List.all_eq_true]
        intro z hz
        obtain ⟨y, hy, rfl⟩ := List.mem_map.1 hz
        exact hok y hy
      have hH := HH.out
      rw [if_pos hall] at hH
      injection hH with hH
      injection hH with hH1 hH2
      subst hH1
      subst hH2
      have hmap : ys.map (·.1) = xs.map (·.x) := by rw [← hS, List.map_map]; rfl
      refine ⟨by simp, .inl ⟨_, _, rfl, run_takeDeferred hKn, ?_⟩⟩
      have hcf := hcd.turn (by omega) (grownBy_putObj' (W.drewN nq) D (.deferred none)) (fun r e => by cases e; exact ⟨hD, _, hKn, rfl⟩)
      refine ⟨.tuple #[v, .bool true], undo_Decode.fin _ _ _ _ rfl rfl, v, rfl, (by rw [hmap]; exact core_V hcf (by omega) _), hcf.bel⟩
    case stop =>
      rintro D c pre W0 W hD - ⟨rfl, hex, h1, h2, hB⟩ hK
      have hcb := h1.cell
      have hcr := h2.cell
      gi_wp2
      refine wpIn_wide.2 ?_
      go_quiet (fail)
      (try gi_wp2)
      rw [Exit.noGoto_ret]
      have hq := HQ.out
      have hKn : (W.drewN nq).heap[D]? = some (.deferred (some [])) := hK
      have hall : ¬ ys.all (·.2) = true := by
        obtain ⟨z, hz, hz2⟩ := hex
        intro h
        have := List.all_eq_true.1 h z hz
        rw [hz2] at this
        cases this
      have hH := HH.out
      rw [if_neg hall] at hH
      injection hH with hH
      injection hH with hH1 hH2
      subst hH1
      subst hH2
      refine ⟨by simp, .inl ⟨_, _, rfl, run_takeDeferred hKn, ?_⟩⟩
      refine ⟨.tuple #[.slice none 0 0, .bool false], undo_Decode.fin _ _ _ _ rfl rfl, _, rfl, Kd.V_nil _ _ _ _ _, (pw_below_drewN hB nq).grown (grownBy_putObj' (W.drewN nq) D (.deferred none)) hB.size (fun k e => by cases e; omega)⟩
  · rw [if_neg hlen] at h
    cases h
theorem undo_Decode.calls (a0 : Int) (A1 : Option Addr) (c1 : Nat) (l1 : List Int) (r1 : List S25) (r2 : Bool) (w : World) (hr1 : Kd.C (Kd.int .u64) w A1 l1.length l1) (hc1 : l1.length ≤ c1) (h : undo_Decode.f a0 l1 = some (r1, r2)) :
    Calls Try.prog 16 #[.int .u64 a0, .slice A1 l1.length c1] w fun e w' => ∃ v0_ : Value, e = .returned (.tuple #[v0_, .bool r2]) ∧ Kd.V k25 25 w' w.heap.size (fun k_ => (w.heap.size ≤ k_)) v0_ r1 ∧ Below w.heap.size w w' :=
  callsIn_wide.1 (undo_Decode.in_ a0 A1 c1 l1 r1 r2 w hr1 hc1 h)

/-! ### lockfastref01_Words: function 13 -/
def lockfastref01_Words.l0 : Nat → List Int → List Int → Int → Option (Bool)
  | 0, _, _, _ => none
  | k + 1, x0, x1, x5 => if x5 < (x0.length : Int) then (if 0 ≤ x5 then (if x5 < (x1.length : Int) then (if (rd x0 x5) = (rd x1 x5) then (lockfastref01_Words.l0 k x0 x1 (wrap64 (x5 + 1))) else (some false)) else (none)) else (none)) else (some true)
def lockfastref01_Words.f (k : Nat) (l0 : List Int) (l1 : List Int) : Option (Bool) := if (l0.length : Int) = (l1.length : Int) then (lockfastref01_Words.l0 k l0 l1 0) else (some false)
theorem lockfastref01_Words.mono_l : ∀ k, (∀ y0 y1 y2, LeO (lockfastref01_Words.l0 k y0 y1 y2) (lockfastref01_Words.l0 (k + 1) y0 y1 y2))
  | 0 => fun _ _ _ r h => by simp [lockfastref01_Words.l0] at h
  | k + 1 => by
    have ih0 := lockfastref01_Words.mono_l k
    · intro y0 y1 y2
      unfold lockfastref01_Words.l0
      repeat' first
      | (with_reducible exact ih0 _ _ _)
      | (with_reducible exact LeO.refl _)
      | (with_reducible exact LeO.none _)
      | (with_reducible refine LeO.ite ?_ ?_)
      | (with_reducible refine LeO.bind ?_ (fun _ => ?_))
      | exact ih0 _ _ _
      | exact LeO.none _
      | refine LeO.ite ?_ ?_
      | refine LeO.bind ?_ (fun _ => ?_)
theorem lockfastref01_Words.mono : ∀ a0 a1 k, LeO (lockfastref01_Words.f k a0 a1) (lockfastref01_Words.f (k + 1) a0 a1) := by
  intro a0 a1 k
  have ih0 := lockfastref01_Words.mono_l k
  unfold lockfastref01_Words.f
  repeat' first
      | (with_reducible exact ih0 _ _ _)
      | (with_reducible exact LeO.refl _)
      | (with_reducible exact LeO.none _)
      | (with_reducible refine LeO.ite ?_ ?_)
      | (with_reducible refine LeO.bind ?_ (fun _ => ?_))
      | exact ih0 _ _ _
      | exact LeO.none _
      | refine LeO.ite ?_ ?_
      | refine LeO.bind ?_ (fun _ => ?_)
set_option maxHeartbeats 8000000 in
set_option maxRecDepth 100000 in
theorem lockfastref01_Words.calls (k : Nat) (A0 : Option Addr) (c0 : Nat) (l0 : List Int) (A1 : Option Addr) (c1 : Nat) (l1 : List Int) (r : Bool) (w : World) (hr0 : Kd.C (Kd.int .u64) w A0 l0.length l0) (hc0 : l0.length ≤ c0) (hr1 : Kd.C (Kd.int .u64) w A1 l1.length l1) (hc1 : l1.length ≤ c1) (h : lockfastref01_Words.f k l0 l1 = some r) :
    Calls Try.prog 13 #[.slice A0 l0.length c0, .slice A1 l1.length c1] w fun e w' => e = .returned (.bool r) ∧ Drawn0 w w' := by
  have HR0 := Aside0.mk hr0
  have HC0 := Aside0.mk hc0
  clear hr0 hc0
  have HR1 := Aside0.mk hr1
  have HC1 := Aside0.mk hc1
  clear hr1 hc1
  have H : (if (l0.length : Int) = (l1.length : Int) then (lockfastref01_Words.l0 k l0 l1 0) else (some false)) = some r := h
  clear h
  by_cases c3 : (l0.length : Int) = (l1.length : Int)
  · rw [if_pos c3] at H
    have c3b0 : ((l0.length : Int) == (l1.length : Int)) = true := beq_iff_eq.mpr c3
    have c3b1 : ((l0.length : Int) != (l1.length : Int)) = false := bne_eq_false_iff_eq.mpr c3
    have c3b2 : (l0.length == l1.length) = true := by first | simpa using c3 | (simp at c3 ⊢; omega)
    clear c3
    have H' := Aside0.mk H
    clear H
    go_enter Try.func13, Try.ntmps13
    go_wp2
    repeat (go_quiet (fail); try go_wp2)
    go_loopg [5] k (fun kq v5 w' => ∃ (x5_1 : Int), v5 = .int .i64 x5_1 ∧ Aside0 (lockfastref01_Words.l0 kq l0 l1 x5_1 = some r) ∧ Aside0 (kq ≤ k) ∧ Drawn0 w w')
    case atStart => exact ⟨(0), (by first | rfl | (simp; done) | (simp [*]; done)), H', ⟨Nat.le_refl _⟩, by repeat (first | exact Drawn0.refl _ | apply Drawn0.step)⟩
    case round =>
      clear H'
      try clear c1
      try clear p2
      try clear c3
      try clear c3b0
      try clear c3b1
      try clear c3b2
      obtain ⟨x5_1, rfl, HA, HK1, ⟨m1, rfl⟩⟩ := hrel
      cases gk with
      | zero => exact absurd HA.out (by simp [lockfastref01_Words.l0])
      | succ k1 =>
        have H := HA.out
        clear HA
        simp only [lockfastref01_Words.l0] at H
        by_cases c4 : x5_1 < (l0.length : Int)
        · rw [if_pos c4] at H
          have c4b0 : decide (x5_1 < (l0.length : Int)) = true := decide_eq_true c4
          clear c4
          by_cases c5 : 0 ≤ x5_1
          · rw [if_pos c5] at H
            have c5b0 : decide (0 ≤ x5_1) = true := decide_eq_true c5
            clear c5
            by_cases c6 : x5_1 < (l1.length : Int)
            · rw [if_pos c6] at H
              have c6b0 : decide (x5_1 < (l1.length : Int)) = true := decide_eq_true c6
              clear c6
              by_cases c7 : (rd l0 x5_1) = (rd l1 x5_1)
              · rw [if_pos c7] at H
                have c7b0 : ((rd l0 x5_1) == (rd l1 x5_1)) = true := beq_iff_eq.mpr c7
                have c7b1 : ((rd l0 x5_1) != (rd l1 x5_1)) = false := bne_eq_false_iff_eq.mpr c7
                clear c7
                have H' := Aside0.mk H
                clear H
                have p131 : 0 ≤ (x5_1 : Int) := of_decide_eq_true (by first | (with_reducible assumption) | assumption)
                have q131 : x5_1 < (l0.length : Int) := of_decide_eq_true (by first | (with_reducible assumption) | assumption)
                obtain ⟨ad131, e131, hx131_0⟩ := Kd.at_int HR0.out x5_1 p131 q131
                cases e131
                replace p131 := eq_true p131
                replace q131 := eq_true q131
                have p132 : 0 ≤ (x5_1 : Int) := of_decide_eq_true (by first | (with_reducible assumption) | assumption)
                have q132 : x5_1 < (l1.length : Int) := of_decide_eq_true (by first | (with_reducible assumption) | assumption)
                obtain ⟨ad132, e132, hx132_0⟩ := Kd.at_int HR1.out x5_1 p132 q132
                cases e132
                replace p132 := eq_true p132
                replace q132 := eq_true q132
                go_wp2
                repeat (go_quiet (fail); try go_wp2)
                go_roundg k1
                case measure => have := HK1.out; omega
                case rel => exact ⟨(wrap64 (x5_1 + 1)), (by first | rfl | (simp; done) | (simp [*]; done)), (by first | exact H' | (subst_vars; exact H')), ⟨by have := HK1.out; omega⟩, by repeat (first | exact Drawn0.refl _ | apply Drawn0.step)⟩
              · rw [if_neg c7] at H
                have c7b0 : ((rd l0 x5_1) == (rd l1 x5_1)) = false := beq_eq_false_iff_ne.mpr c7
                have c7b1 : ((rd l0 x5_1) != (rd l1 x5_1)) = true := bne_iff_ne.mpr c7
                obtain rfl := Option.some.inj H
                simp only [Option.some.injEq, Prod.mk.injEq] at H
                obtain ⟨rfl⟩ := H
                have p131 : 0 ≤ (x5_1 : Int) := of_decide_eq_true (by first | (with_reducible assumption) | assumption)
                have q131 : x5_1 < (l0.length : Int) := of_decide_eq_true (by first | (with_reducible assumption) | assumption)
                obtain ⟨ad131, e131, hx131_0⟩ := Kd.at_int HR0.out x5_1 p131 q131
                cases e131
                replace p131 := eq_true p131
                replace q131 := eq_true q131
                have p132 : 0 ≤ (x5_1 : Int) := of_decide_eq_true (by first | (with_reducible assumption) | assumption)
                have q132 : x5_1 < (l1.length : Int) := of_decide_eq_true (by first | (with_reducible assumption) | assumption)
                obtain ⟨ad132, e132, hx132_0⟩ := Kd.at_int HR1.out x5_1 p132 q132
                cases e132
                replace p132 := eq_true p132
                replace q132 := eq_true q132
                go_wp2
                repeat (go_quiet (fail); try go_wp2)
                go_ret
                exact ⟨by first | rfl | (simp; done) | (simp [*]; done), by repeat (first | exact Drawn0.refl _ | apply Drawn0.step)⟩
            · rw [if_neg c6] at H
              exact absurd H (by simp)
          · rw [if_neg c5] at H
            exact absurd H (by simp)
        · rw [if_neg c4] at H
          have c4b0 : decide (x5_1 < (l0.length : Int)) = false := decide_eq_false c4
          clear c4
          obtain rfl := Option.some.inj H
          simp only [Option.some.injEq, Prod.mk.injEq] at H
          obtain ⟨rfl⟩ := H
          go_wp2
          repeat (go_quiet (fail); try go_wp2)
          go_ret
          exact ⟨by first | rfl | (simp; done) | (simp [*]; done), by repeat (first | exact Drawn0.refl _ | apply Drawn0.step)⟩
  · rw [if_neg c3] at H
    have c3b0 : ((l0.length : Int) == (l1.length : Int)) = false := beq_eq_false_iff_ne.mpr c3
    have c3b1 : ((l0.length : Int) != (l1.length : Int)) = true := bne_iff_ne.mpr c3
    have c3b2 : (l0.length == l1.length) = false := by first | simpa using c3 | (simp at c3 ⊢; omega)
    obtain rfl := Option.some.inj H
    simp only [Option.some.injEq, Prod.mk.injEq] at H
    obtain ⟨rfl⟩ := H
    go_enter Try.func13, Try.ntmps13
    go_wp2
    repeat (go_quiet (fail); try go_wp2)
    go_ret
    exact ⟨by first | rfl | (simp; done) | (simp [*]; done), by repeat (first | exact Drawn0.refl _ | apply Drawn0.step)⟩

end Go.Proofs.Ytinbediigibolaa.PUndoBursts
