-- WRITTEN FOR THIS CLAIM by given.py, a program of this session's: the kit's printer, run with contracts of the session's own. It is not a text of print.sh's.
import Derived.Test.YtinbediigibolaaPUndoPartsx0
import Derived.Test.YtinbediigibolaaPUndoPartsx4
import Derived.Test.YtinbediigibolaaPUndoPartsx5
namespace Go.Proofs.Ytinbediigibolaa.PUndoParts
open Go.RowKit Go.Proofs.YtinbediigibolaaW.PrintWords Go.Proofs.YtinbediigibolaaW.PrintLast Go.Proofs.YtinbediigibolaaW.PrintMore
attribute [local go_sem] max2_int min2_int max_two min_two max_three min_three max_four min_four   -- for this text's walks alone
set_option linter.unusedVariables false
set_option linter.unusedSimpArgs false
open Go.Proofs.YtinbediigibolaaX

/-! ### lockfastlaw13_UndoParts: function 7 -/
mutual
def lockfastlaw13_UndoParts.j0 : Nat → List Int → List (S25) → List (S25) → Bool → Bool → Option (Bool)
  | 0, _, _, _, _, _ => none
  | k + 1, x0, x1, x2, x7, x27 => if x27 = true then (some x7) else ((some (([] : List (S25)) : List (S25))).bind fun y142 => (if y142.length + x1.length < 4398046511104 then ((some (y142 ++ x1 : List (S25))).bind fun y145 => (if y145.length + x2.length < 4398046511104 then (lockfastlaw13_UndoParts.l0 k x0 x1 x2 x7 (y145 ++ x2) 0) else (none))) else (none)))
def lockfastlaw13_UndoParts.l0 : Nat → List Int → List (S25) → List (S25) → Bool → List (S25) → Int → Option (Bool)
  | 0, _, _, _, _, _, _ => none
  | k + 1, x0, x1, x2, x7, x10, x11 => if x11 < (x10.length : Int) then (if 0 ≤ x11 then (if ((rd_T25 x10 x11).f0) < (-1099511627776) then (some x7) else (if ((rd_T25 x10 x11).f0) > 1099511627776 then (some x7) else (lockfastlaw13_UndoParts.l0 k x0 x1 x2 x7 x10 (wrap64 (x11 + 1))))) else (none)) else (if x7 = true then ((undo_Back.f x0 x10).bind fun t153 => ((undo_Back.f x0 x2).bind fun t156 => ((undo_Back.f t156 x1).bind fun t159 => ((lockfastref01_Words.f k t153 t159).bind fun t162 => (some t162))))) else (some false))
end
def lockfastlaw13_UndoParts.f (k : Nat) (l0 : List Int) (l1 : List (S25)) (l2 : List (S25)) : Option (Bool) := (lockfastlaw13_awake.f).bind fun t139 => ((lockfastlaw13_few.f k l1).bind fun t140 => ((lockfastlaw13_few.f k l2).bind fun t141 => (if (l0.length : Int) > 60 then (lockfastlaw13_UndoParts.j0 k l0 l1 l2 t139 true) else (if t140 = true then (lockfastlaw13_UndoParts.j0 k l0 l1 l2 t139 (!t141)) else (lockfastlaw13_UndoParts.j0 k l0 l1 l2 t139 true)))))
theorem lockfastlaw13_UndoParts.mono_l : ∀ k, (∀ y0 y1 y2 y3 y4, LeO (lockfastlaw13_UndoParts.j0 k y0 y1 y2 y3 y4) (lockfastlaw13_UndoParts.j0 (k + 1) y0 y1 y2 y3 y4)) ∧ (∀ y0 y1 y2 y3 y4 y5, LeO (lockfastlaw13_UndoParts.l0 k y0 y1 y2 y3 y4 y5) (lockfastlaw13_UndoParts.l0 (k + 1) y0 y1 y2 y3 y4 y5))
  | 0 => ⟨fun _ _ _ _ _ r h => by simp [lockfastlaw13_UndoParts.j0] at h, fun _ _ _ _ _ _ r h => by simp [lockfastlaw13_UndoParts.l0] at h⟩
  | k + 1 => by
    obtain ⟨ih0, ih1⟩ := lockfastlaw13_UndoParts.mono_l k
    refine ⟨?_, ?_⟩
    · intro y0 y1 y2 y3 y4
      unfold lockfastlaw13_UndoParts.j0
      repeat' first
      | (with_reducible exact ih0 _ _ _ _ _)
      | (with_reducible exact ih1 _ _ _ _ _ _)
      | (with_reducible exact lockfastlaw13_few.mono _ _)
      | (with_reducible exact lockfastref01_Words.mono _ _ _)
      | (with_reducible exact LeO.refl _)
      | (with_reducible exact LeO.none _)
      | (with_reducible refine LeO.ite ?_ ?_)
      | (with_reducible refine LeO.bind ?_ (fun _ => ?_))
      | exact ih0 _ _ _ _ _
      | exact ih1 _ _ _ _ _ _
      | exact lockfastlaw13_few.mono _ _
      | exact lockfastref01_Words.mono _ _ _
      | exact LeO.none _
      | refine LeO.ite ?_ ?_
      | refine LeO.bind ?_ (fun _ => ?_)
    · intro y0 y1 y2 y3 y4 y5
      unfold lockfastlaw13_UndoParts.l0
      repeat' first
      | (with_reducible exact ih0 _ _ _ _ _)
      | (with_reducible exact ih1 _ _ _ _ _ _)
      | (with_reducible exact lockfastlaw13_few.mono _ _)
      | (with_reducible exact lockfastref01_Words.mono _ _ _)
      | (with_reducible exact LeO.refl _)
      | (with_reducible exact LeO.none _)
      | (with_reducible refine LeO.ite ?_ ?_)
      | (with_reducible refine LeO.bind ?_ (fun _ => ?_))
      | exact ih0 _ _ _ _ _
      | exact ih1 _ _ _ _ _ _
      | exact lockfastlaw13_few.mono _ _
      | exact lockfastref01_Words.mono _ _ _
      | exact LeO.none _
      | refine LeO.ite ?_ ?_
      | refine LeO.bind ?_ (fun _ => ?_)
theorem lockfastlaw13_UndoParts.mono : ∀ a0 a1 a2 k, LeO (lockfastlaw13_UndoParts.f k a0 a1 a2) (lockfastlaw13_UndoParts.f (k + 1) a0 a1 a2) := by
  intro a0 a1 a2 k
  obtain ⟨ih0, ih1⟩ := lockfastlaw13_UndoParts.mono_l k
  unfold lockfastlaw13_UndoParts.f
  repeat' first
      | (with_reducible exact ih0 _ _ _ _ _)
      | (with_reducible exact ih1 _ _ _ _ _ _)
      | (with_reducible exact lockfastlaw13_few.mono _ _)
      | (with_reducible exact lockfastref01_Words.mono _ _ _)
      | (with_reducible exact LeO.refl _)
      | (with_reducible exact LeO.none _)
      | (with_reducible refine LeO.ite ?_ ?_)
      | (with_reducible refine LeO.bind ?_ (fun _ => ?_))
      | exact ih0 _ _ _ _ _
      | exact ih1 _ _ _ _ _ _
      | exact lockfastlaw13_few.mono _ _
      | exact lockfastref01_Words.mono _ _ _
      | exact LeO.none _
      | refine LeO.ite ?_ ?_
      | refine LeO.bind ?_ (fun _ => ?_)
set_option maxHeartbeats 8000000 in
set_option maxRecDepth 100000 in
theorem lockfastlaw13_UndoParts.calls (k : Nat) (A0 : Option Addr) (c0 : Nat) (l0 : List Int) (P1_ : Nat → Prop) (A1 : Option Addr) (c1 : Nat) (l1 : List (S25)) (P2_ : Nat → Prop) (A2 : Option Addr) (c2 : Nat) (l2 : List (S25)) (r : Bool) (w : World) (hrt : r = true) (hr0 : Kd.C (Kd.int .u64) w A0 l0.length l0) (hc0 : l0.length ≤ c0) (hs1 : Kd.V k25 25 w w.heap.size (fun k_ => P1_ k_) (.slice A1 l1.length c1) l1) (hs2 : Kd.V k25 25 w w.heap.size (fun k_ => P2_ k_) (.slice A2 l2.length c2) l2) (h : lockfastlaw13_UndoParts.f k l0 l1 l2 = some r) :
    Calls Try.prog 7 #[.slice A0 l0.length c0, .slice A1 l1.length c1, .slice A2 l2.length c2] w fun e w' => e = .returned (.bool r) ∧ Below w.heap.size w w' := by
  have HR0 := Aside0.mk hr0
  have HC0 := Aside0.mk hc0
  clear hr0 hc0
  have HO1 := Aside0.mk (show Kd.V k25 25 w w.heap.size (fun k_ => ((P1_ k_ ∨ P2_ k_) ∨ w.heap.size ≤ k_)) (.slice A1 l1.length c1) l1 from Kd.V_mono hs1 (fun k_ hk => .inl (.inl hk)))
  have HO2 := Aside0.mk (show Kd.V k25 25 w w.heap.size (fun k_ => ((P1_ k_ ∨ P2_ k_) ∨ w.heap.size ≤ k_)) (.slice A2 l2.length c2) l2 from Kd.V_mono hs2 (fun k_ hk => .inl (.inr hk)))
  have HB := Aside0.mk (Below.refl w.heap.size w)
  have H : ((lockfastlaw13_awake.f).bind fun t139 => ((lockfastlaw13_few.f k l1).bind fun t140 => ((lockfastlaw13_few.f k l2).bind fun t141 => (if (l0.length : Int) > 60 then (lockfastlaw13_UndoParts.j0 k l0 l1 l2 t139 true) else (if t140 = true then (lockfastlaw13_UndoParts.j0 k l0 l1 l2 t139 (!t141)) else (lockfastlaw13_UndoParts.j0 k l0 l1 l2 t139 true)))))) = some r := h
  clear h
  have HRT := Aside0.mk hrt
  clear hrt
  replace H := Option.bind_eq_some_iff.mp H
  obtain ⟨t139, A40, H⟩ := H
  replace H : ((lockfastlaw13_few.f k l1).bind fun t140 => ((lockfastlaw13_few.f k l2).bind fun t141 => (if (l0.length : Int) > 60 then (lockfastlaw13_UndoParts.j0 k l0 l1 l2 t139 true) else (if t140 = true then (lockfastlaw13_UndoParts.j0 k l0 l1 l2 t139 (!t141)) else (lockfastlaw13_UndoParts.j0 k l0 l1 l2 t139 true))))) = some r := H
  have A4 := Aside0.mk A40
  clear A40
  replace H := Option.bind_eq_some_iff.mp H
  obtain ⟨t140, A50, H⟩ := H
  replace H : ((lockfastlaw13_few.f k l2).bind fun t141 => (if (l0.length : Int) > 60 then (lockfastlaw13_UndoParts.j0 k l0 l1 l2 t139 true) else (if t140 = true then (lockfastlaw13_UndoParts.j0 k l0 l1 l2 t139 (!t141)) else (lockfastlaw13_UndoParts.j0 k l0 l1 l2 t139 true)))) = some r := H
  have A5 := Aside0.mk A50
  clear A50
  replace H := Option.bind_eq_some_iff.mp H
  obtain ⟨t141, A60, H⟩ := H
  replace H : (if (l0.length : Int) > 60 then (lockfastlaw13_UndoParts.j0 k l0 l1 l2 t139 true) else (if t140 = true then (lockfastlaw13_UndoParts.j0 k l0 l1 l2 t139 (!t141)) else (lockfastlaw13_UndoParts.j0 k l0 l1 l2 t139 true))) = some r := H
  have A6 := Aside0.mk A60
  clear A60
  have HC7 := Aside0.mk H
  clear H
  go_enter Try.func7, Try.ntmps7
  go_upto_region 4 with (first | ((with_reducible refine gate_callee (f := 10) rfl ?_); refine goesL_ (some 12) rfl rfl Try.func10 (by kernel_rfl) rfl #[] rfl (by (try simp only [List.map_toArray, List.map_cons, List.map_nil]); first | done | rfl | (simp only [List.length_drop, List.length_take]; rfl)) ?_; (with_reducible refine (lockfastlaw13_awake.calls  t139 _ A4.out).mono ?_); rintro e w8 ⟨rfl, hb⟩; refine ⟨_, rfl, ?_⟩; have n0_ := Aside0.mk (Kd.V_below (by (with_reducible repeat (first | apply Kd.V_alloc | apply Kd.V_drewN | apply Kd.V_drew)); exact HO1.out) hb); have n1_ := Aside0.mk (Kd.V_below (by (with_reducible repeat (first | apply Kd.V_alloc | apply Kd.V_drewN | apply Kd.V_drew)); exact HO2.out) hb); have n2_ := Aside0.mk (below_step (by repeat (first | (with_reducible first | exact HB.out | apply below_alloc | apply pw_below_drewN | apply below_drew1) | exact HB.out)) hb); clear HO1; clear HO2; clear HB; have HO1 := n0_; have HO2 := n1_; have HB := n2_; clear n0_ n1_ n2_; (try clear hb); (try clear hb2); (try clear hk); (try clear hi)) | ((with_reducible refine gate_callee (f := 19) rfl ?_); refine goesL_ (some 14) rfl rfl Try.func19 (by kernel_rfl) rfl #[.slice A1 l1.length c1] rfl (by (try simp only [List.map_toArray, List.map_cons, List.map_nil]); first | done | rfl | (simp only [List.length_drop, List.length_take]; rfl)) ?_; (with_reducible refine (lockfastlaw13_few.calls k _ _ l1 t140 _ ?side1 ?side2 A5.out).mono ?_); (case side1 => repeat (first | exact (Kd.V_reads' HO1.out).2.2 | (with_reducible refine Kd.C_alloc ?_ _) | (with_reducible refine Kd.C_drewN ?_ _) | (with_reducible refine Kd.C_drew ?_))); (case side2 => exact (Kd.V_reads' HO1.out).2.1); rintro e w' ⟨rfl, ⟨nd, rfl⟩⟩; refine ⟨_, rfl, ?_⟩) | ((with_reducible refine gate_callee (f := 19) rfl ?_); refine goesL_ (some 16) rfl rfl Try.func19 (by kernel_rfl) rfl #[.slice A2 l2.length c2] rfl (by (try simp only [List.map_toArray, List.map_cons, List.map_nil]); first | done | rfl | (simp only [List.length_drop, List.length_take]; rfl)) ?_; (with_reducible refine (lockfastlaw13_few.calls k _ _ l2 t141 _ ?side1 ?side2 A6.out).mono ?_); (case side1 => repeat (first | exact (Kd.V_reads' HO2.out).2.2 | (with_reducible refine Kd.C_alloc ?_ _) | (with_reducible refine Kd.C_drewN ?_ _) | (with_reducible refine Kd.C_drew ?_))); (case side2 => exact (Kd.V_reads' HO2.out).2.1); rintro e w' ⟨rfl, ⟨nd, rfl⟩⟩; refine ⟨_, rfl, ?_⟩))
  (try simp only [Act.put, List.setIfInBounds_toArray, List.set_cons_zero, List.set_cons_succ])
  go_cut [27] (fun v27 wc => ∃ (kq : Nat) (x27_6 : Bool), v27 = .bool x27_6 ∧ Aside0 (lockfastlaw13_UndoParts.j0 kq l0 l1 l2 t139 x27_6 = some r) ∧ Aside0 (kq ≤ k) ∧ Aside0 (Kd.V k25 25 wc w.heap.size (fun k_ => ((P1_ k_ ∨ P2_ k_) ∨ w.heap.size ≤ k_)) (.slice A1 l1.length c1) l1) ∧ Aside0 (Kd.V k25 25 wc w.heap.size (fun k_ => ((P1_ k_ ∨ P2_ k_) ∨ w.heap.size ≤ k_)) (.slice A2 l2.length c2) l2) ∧ Aside0 (Below w.heap.size w wc))
  case first =>
    have H := HC7.out
    clear HC7
    by_cases c9 : (l0.length : Int) > 60
    · rw [if_pos c9] at H
      have c9b0 : decide (60 < (l0.length : Int)) = true := decide_eq_true c9
      have c9b1 : decide (60 < l0.length) = true := decide_eq_true (by omega)
      clear c9
      (first | rw [c9b0] | (simp only [i64_w, i32_w]; rw [c9b0]) | skip)
      have H' := Aside0.mk H
      clear H
      go_wp2
      go_meet
      case rel => exact ⟨_, (true), (by first | rfl | (simp; done) | (simp [*]; done)), (by first | exact H' | (subst_vars; exact H')), ⟨by first | omega | exact Nat.le_refl _⟩, ⟨by (with_reducible repeat (first | apply Kd.V_alloc | apply Kd.V_drewN | apply Kd.V_drew)); exact HO1.out⟩, ⟨by (with_reducible repeat (first | apply Kd.V_alloc | apply Kd.V_drewN | apply Kd.V_drew)); exact HO2.out⟩, ⟨by repeat (first | (with_reducible first | exact HB.out | apply below_alloc | apply pw_below_drewN | apply below_drew1) | exact HB.out)⟩⟩
    · rw [if_neg c9] at H
      have c9b0 : decide (60 < (l0.length : Int)) = false := decide_eq_false c9
      have c9b1 : decide (60 < l0.length) = false := decide_eq_false (by omega)
      clear c9
      (first | rw [c9b0] | (simp only [i64_w, i32_w]; rw [c9b0]) | skip)
      by_cases c10 : t140 = true
      · subst c10
        have H1 : (lockfastlaw13_UndoParts.j0 k l0 l1 l2 t139 (!t141)) = some r := by rw [if_pos rfl] at H; exact H
        clear H
        have H := H1
        clear H1
        have H' := Aside0.mk H
        clear H
        go_wp2
        go_meet
        case rel => exact ⟨_, (!t141), (by first | rfl | (simp; done) | (simp [*]; done)), (by first | exact H' | (subst_vars; exact H')), ⟨by first | omega | exact Nat.le_refl _⟩, ⟨by (with_reducible repeat (first | apply Kd.V_alloc | apply Kd.V_drewN | apply Kd.V_drew)); exact HO1.out⟩, ⟨by (with_reducible repeat (first | apply Kd.V_alloc | apply Kd.V_drewN | apply Kd.V_drew)); exact HO2.out⟩, ⟨by repeat (first | (with_reducible first | exact HB.out | apply below_alloc | apply pw_below_drewN | apply below_drew1) | exact HB.out)⟩⟩
      · replace c10 := Bool.eq_false_iff.mpr c10
        subst c10
        have H1 : (lockfastlaw13_UndoParts.j0 k l0 l1 l2 t139 true) = some r := by rw [if_neg (show ¬ (false = true) by decide)] at H; exact H
        clear H
        have H := H1
        clear H1
        have H' := Aside0.mk H
        clear H
        go_wp2
        go_meet
        case rel => exact ⟨_, (true), (by first | rfl | (simp; done) | (simp [*]; done)), (by first | exact H' | (subst_vars; exact H')), ⟨by first | omega | exact Nat.le_refl _⟩, ⟨by (with_reducible repeat (first | apply Kd.V_alloc | apply Kd.V_drewN | apply Kd.V_drew)); exact HO1.out⟩, ⟨by (with_reducible repeat (first | apply Kd.V_alloc | apply Kd.V_drewN | apply Kd.V_drew)); exact HO2.out⟩, ⟨by repeat (first | (with_reducible first | exact HB.out | apply below_alloc | apply pw_below_drewN | apply below_drew1) | exact HB.out)⟩⟩
  case rest =>
    clear HC7
    try clear c1
    try clear c2
    try clear p2
    try clear c7
    try clear c9
    try clear c9b0
    try clear c9b1
    try clear c10
    obtain ⟨kq, x27_6, rfl, HA, HJ6, HO_1, HO_2, HB⟩ := hcut
    cases kq with
    | zero => exact absurd HA.out (by simp [lockfastlaw13_UndoParts.j0])
    | succ kj6 =>
      have H := HA.out
      clear HA
      simp only [lockfastlaw13_UndoParts.j0] at H
      by_cases c11 : x27_6 = true
      · subst c11
        have H1 : (some t139) = some r := by rw [if_pos rfl] at H; exact H
        clear H
        have H := H1
        clear H1
        obtain rfl := Option.some.inj H
        simp only [Option.some.injEq, Prod.mk.injEq] at H
        obtain ⟨rfl⟩ := H
        go_wp2
        go_ret
        exact ⟨by first | rfl | (simp [errW_none, errW_some] <;> rfl) | (simp [*, errW_none, errW_some] <;> rfl), by repeat (first | (with_reducible first | exact HB.out | apply below_alloc | apply pw_below_drewN | apply below_drew1) | exact HB.out)⟩
      · replace c11 := Bool.eq_false_iff.mpr c11
        subst c11
        have H1 : ((some (([] : List (S25)) : List (S25))).bind fun y142 => (if y142.length + l1.length < 4398046511104 then ((some (y142 ++ l1 : List (S25))).bind fun y145 => (if y145.length + l2.length < 4398046511104 then (lockfastlaw13_UndoParts.l0 kj6 l0 l1 l2 t139 (y145 ++ l2) 0) else (none))) else (none))) = some r := by rw [if_neg (show ¬ (false = true) by decide)] at H; exact H
        clear H
        have H := H1
        clear H1
        obtain ⟨y142, hy142⟩ : ∃ y_ : List (S25), y_ = (([] : List (S25))) := ⟨_, rfl⟩
        replace H : (if y142.length + l1.length < 4398046511104 then ((some (y142 ++ l1 : List (S25))).bind fun y145 => (if y145.length + l2.length < 4398046511104 then (lockfastlaw13_UndoParts.l0 kj6 l0 l1 l2 t139 (y145 ++ l2) 0) else (none))) else (none)) = some r := by first | (rw [hy142]; with_reducible exact H) | (have H2_ := (Option.bind_some _ _).symm.trans H; rw [hy142]; with_reducible exact H2_) | (have H2_ := (Option.bind_some _ _).symm.trans H; with_reducible exact H2_) | with_reducible exact H | (rw [hy142]; exact H) | exact H
        have Ny142 := Aside0.mk hy142
        clear hy142
        by_cases c12 : y142.length + l1.length < 4398046511104
        · rw [if_pos c12] at H
          have LMc12 := Aside0.mk c12
          clear c12
          obtain ⟨y145, hy145⟩ : ∃ y_ : List (S25), y_ = (y142 ++ l1) := ⟨_, rfl⟩
          replace H : (if y145.length + l2.length < 4398046511104 then (lockfastlaw13_UndoParts.l0 kj6 l0 l1 l2 t139 (y145 ++ l2) 0) else (none)) = some r := by first | (rw [hy145]; with_reducible exact H) | (have H2_ := (Option.bind_some _ _).symm.trans H; rw [hy145]; with_reducible exact H2_) | (have H2_ := (Option.bind_some _ _).symm.trans H; with_reducible exact H2_) | with_reducible exact H | (rw [hy145]; exact H) | exact H
          have Ny145 := Aside0.mk hy145
          clear hy145
          by_cases c13 : y145.length + l2.length < 4398046511104
          · rw [if_pos c13] at H
            have LMc13 := Aside0.mk c13
            clear c13
            obtain ⟨y148, hy148⟩ : ∃ y_ : List (S25), y_ = (y145 ++ l2) := ⟨_, rfl⟩
            replace H : (lockfastlaw13_UndoParts.l0 kj6 l0 l1 l2 t139 y148 0) = some r := by first | (rw [hy148]; with_reducible exact H) | (have H2_ := (Option.bind_some _ _).symm.trans H; rw [hy148]; with_reducible exact H2_) | (have H2_ := (Option.bind_some _ _).symm.trans H; with_reducible exact H2_) | with_reducible exact H | (rw [hy148]; exact H) | exact H
            have Ny148 := Aside0.mk hy148
            clear hy148
            have H' := Aside0.mk H
            clear H
            go_wp2_with (first | ((with_reducible refine gate_dst (N := 29) rfl ?_); refine Kd.N_lit k25 _ 25 ?hg (N' := 29) ?hd (xs := ([] : List (S25))) (inner := []) (ok := (fun k_ => ((P1_ k_ ∨ P2_ k_) ∨ w.heap.size ≤ k_))) (okp := (fun k_ => ((P1_ k_ ∨ P2_ k_) ∨ w.heap.size ≤ k_))) ?hr ?hp (fun _ hk => hk) ((show ∀ k_, wc.heap.size ≤ k_ → (fun k_ => ((P1_ k_ ∨ P2_ k_) ∨ w.heap.size ≤ k_)) k_ from fun k_ hk => (.inr (Nat.le_trans (below_size (by repeat (first | (with_reducible first | exact HB.out | apply below_alloc | apply pw_below_drewN | apply below_drew1) | exact HB.out))) hk))) _ (Nat.le_refl _)) (Below.refl _ _) (Nat.le_refl _) (by simp) ?_; (case hd => rfl); (case hg => rfl); (case hr => first | (go_simp; done) | (go_simp; rfl)); (case hp => exact (Reps.none _ _)); intro v143 w14 ho15 hb hg_ hnew_; clear hg_ hnew_; (first | rw [← Ny142.out] at ho15 | (simp only [Int.reduceToNat] at ho15; rw [← Ny142.out] at ho15)); have n0_ := Aside0.mk (Kd.V_elder' (by (with_reducible repeat (first | apply Kd.V_alloc | apply Kd.V_drewN | apply Kd.V_drew)); exact HO_1.out) (Kd.N_base ho15) hb); have n1_ := Aside0.mk (Kd.V_elder' (by (with_reducible repeat (first | apply Kd.V_alloc | apply Kd.V_drewN | apply Kd.V_drew)); exact HO_2.out) (Kd.N_base ho15) hb); have n2_ := Aside0.mk (Kd.N_lower ho15 (below_size (by repeat (first | (with_reducible first | exact HB.out | apply below_alloc | apply pw_below_drewN | apply below_drew1) | exact HB.out)))); have n3_ := Aside0.mk (below_step (by repeat (first | (with_reducible first | exact HB.out | apply below_alloc | apply pw_below_drewN | apply below_drew1) | exact HB.out)) hb); clear HO_1; clear HO_2; clear HB; have HO_1 := n0_; have HO_2 := n1_; have HO144 := n2_; have HB := n3_; clear n0_ n1_ n2_ n3_; clear hb ho15) | ((with_reducible refine gate_builtin (b := .append) (xs := #[.tmp 29, .tmp 30]) rfl ?_); at_builtin; refine Kd.N_append_rows k25 (w0 := w) w.heap.size rfl (.tmp 29) (.tmp 30) 34 25 (.agg #[(.int .i64 0), (.slice none 0 0)]) 32 rfl Try.underlying34 info25 rfl (by decide) (by omega) v143 y142 l1 _ _ _ (fun k_ => ((P1_ k_ ∨ P2_ k_) ∨ w.heap.size ≤ k_)) (fun k_ => ((fun k_ => ((P1_ k_ ∨ P2_ k_) ∨ w.heap.size ≤ k_))) k_ ∧ some k_ ≠ (v143 : Value).ownBlock) rfl rfl ?aO ?aR (fun _ hk => hk) ?aF ?aB ?aS ?aL ?_; (case aR => exact (by skip; exact Kd.V_F (Kd.V_mono (ok' := (fun k_ => ((fun k_ => ((P1_ k_ ∨ P2_ k_) ∨ w.heap.size ≤ k_))) k_ ∧ some k_ ≠ (v143 : Value).ownBlock)) (HO_1.out) (fun k_ hk => ⟨hk.1, hk.2⟩)))); (case aB => exact (by repeat (first | (with_reducible first | exact HB.out | apply below_alloc | apply pw_below_drewN | apply below_drew1) | exact HB.out))); (case aF => exact (fun k_ hk => (.inr (Nat.le_trans (below_size (by repeat (first | (with_reducible first | exact HB.out | apply below_alloc | apply pw_below_drewN | apply below_drew1) | exact HB.out))) hk)))); (case aO => exact (by (with_reducible repeat (first | apply Kd.N_alloc | apply Kd.N_drewN | apply Kd.N_drew)); exact HO144.out)); (case aS => exact (below_size (by repeat (first | (with_reducible first | exact HB.out | apply below_alloc | apply pw_below_drewN | apply below_drew1) | exact HB.out)))); (case aL => have := LMc12.out; omega); intro v146 w16 ho hb hg hat; rw [← Ny145.out] at ho; have n0_ := Aside0.mk (Kd.V_afterv (ok := (fun k_ => ((P1_ k_ ∨ P2_ k_) ∨ w.heap.size ≤ k_))) (by (with_reducible repeat (first | apply Kd.V_alloc | apply Kd.V_drewN | apply Kd.V_drew)); exact HO_1.out) hg hat); have n1_ := Aside0.mk (Kd.V_afterv (ok := (fun k_ => ((P1_ k_ ∨ P2_ k_) ∨ w.heap.size ≤ k_))) (by (with_reducible repeat (first | apply Kd.V_alloc | apply Kd.V_drewN | apply Kd.V_drew)); exact HO_2.out) hg hat); have n2_ := Aside0.mk (hb); have n3_ := Aside0.mk (ho); clear HO_1; clear HO_2; clear HB; clear HO144; have HO_1 := n0_; have HO_2 := n1_; have HB := n2_; have HO147 := n3_; clear n0_ n1_ n2_ n3_; clear ho hb hg hat) | ((with_reducible refine gate_builtin (b := .append) (xs := #[.tmp 31, .tmp 32]) rfl ?_); at_builtin; refine Kd.N_append_rows k25 (w0 := w) w.heap.size rfl (.tmp 31) (.tmp 32) 34 25 (.agg #[(.int .i64 0), (.slice none 0 0)]) 32 rfl Try.underlying34 info25 rfl (by decide) (by omega) v146 y145 l2 _ _ _ (fun k_ => ((P1_ k_ ∨ P2_ k_) ∨ w.heap.size ≤ k_)) (fun k_ => ((fun k_ => ((P1_ k_ ∨ P2_ k_) ∨ w.heap.size ≤ k_))) k_ ∧ some k_ ≠ (v146 : Value).ownBlock) rfl rfl ?aO ?aR (fun _ hk => hk) ?aF ?aB ?aS ?aL ?_; (case aR => exact (by skip; exact Kd.V_F (Kd.V_mono (ok' := (fun k_ => ((fun k_ => ((P1_ k_ ∨ P2_ k_) ∨ w.heap.size ≤ k_))) k_ ∧ some k_ ≠ (v146 : Value).ownBlock)) (HO_2.out) (fun k_ hk => ⟨hk.1, hk.2⟩)))); (case aB => exact (by repeat (first | (with_reducible first | exact HB.out | apply below_alloc | apply pw_below_drewN | apply below_drew1) | exact HB.out))); (case aF => exact (fun k_ hk => (.inr (Nat.le_trans (below_size (by repeat (first | (with_reducible first | exact HB.out | apply below_alloc | apply pw_below_drewN | apply below_drew1) | exact HB.out))) hk)))); (case aO => exact (by (with_reducible repeat (first | apply Kd.N_alloc | apply Kd.N_drewN | apply Kd.N_drew)); exact HO147.out)); (case aS => exact (below_size (by repeat (first | (with_reducible first | exact HB.out | apply below_alloc | apply pw_below_drewN | apply below_drew1) | exact HB.out)))); (case aL => have := LMc13.out; omega); intro v149 w17 ho hb hg hat; rw [← Ny148.out] at ho; have n0_ := Aside0.mk (Kd.V_afterv (ok := (fun k_ => ((P1_ k_ ∨ P2_ k_) ∨ w.heap.size ≤ k_))) (by (with_reducible repeat (first | apply Kd.V_alloc | apply Kd.V_drewN | apply Kd.V_drew)); exact HO_1.out) hg hat); have n1_ := Aside0.mk (Kd.V_afterv (ok := (fun k_ => ((P1_ k_ ∨ P2_ k_) ∨ w.heap.size ≤ k_))) (by (with_reducible repeat (first | apply Kd.V_alloc | apply Kd.V_drewN | apply Kd.V_drew)); exact HO_2.out) hg hat); have n2_ := Aside0.mk (hb); have n3_ := Aside0.mk (ho); clear HO_1; clear HO_2; clear HB; clear HO147; have HO_1 := n0_; have HO_2 := n1_; have HB := n2_; have HO150 := n3_; clear n0_ n1_ n2_ n3_; clear ho hb hg hat))
            go_loopg [11] kj6 (fun kq v11 w' => ∃ (x11_2 : Int), v11 = .int .i64 x11_2 ∧ Aside0 (lockfastlaw13_UndoParts.l0 kq l0 l1 l2 t139 y148 x11_2 = some r) ∧ Aside0 (kq ≤ kj6) ∧ Aside0 (Kd.V k25 25 w' w.heap.size (fun k_ => ((P1_ k_ ∨ P2_ k_) ∨ w.heap.size ≤ k_) ∧ some k_ ≠ (v149 : Value).ownBlock) (.slice A1 l1.length c1) l1) ∧ Aside0 (Kd.V k25 25 w' w.heap.size (fun k_ => ((P1_ k_ ∨ P2_ k_) ∨ w.heap.size ≤ k_) ∧ some k_ ≠ (v149 : Value).ownBlock) (.slice A2 l2.length c2) l2) ∧ Aside0 (Kd.N k25 25 w' w.heap.size (fun k_ => ((P1_ k_ ∨ P2_ k_) ∨ w.heap.size ≤ k_)) v149 y148) ∧ Aside0 (Below w.heap.size w w'))
            case atStart => exact ⟨(0), (by first | rfl | (simp; done) | (simp [*]; done)), H', ⟨Nat.le_refl _⟩, ⟨by (with_reducible repeat (first | apply Kd.V_alloc | apply Kd.V_drewN | apply Kd.V_drew)); exact HO_1.out⟩, ⟨by (with_reducible repeat (first | apply Kd.V_alloc | apply Kd.V_drewN | apply Kd.V_drew)); exact HO_2.out⟩, ⟨by (with_reducible repeat (first | apply Kd.N_alloc | apply Kd.N_drewN | apply Kd.N_drew)); exact HO150.out⟩, ⟨by repeat (first | (with_reducible first | exact HB.out | apply below_alloc | apply pw_below_drewN | apply below_drew1) | exact HB.out)⟩⟩
            case round =>
              clear H'
              try clear c1
              try clear c2
              try clear p2
              try clear c7
              try clear c9
              try clear c9b0
              try clear c9b1
              try clear c10
              try clear c11
              try clear c12
              try clear c13
              try clear p2
              obtain ⟨x11_2, rfl, HA, HK2, HO_1, HO_2, HO_10, HB⟩ := hrel
              cases gk with
              | zero => exact absurd HA.out (by simp [lockfastlaw13_UndoParts.l0])
              | succ k2 =>
                have H := HA.out
                clear HA
                simp only [lockfastlaw13_UndoParts.l0] at H
                by_cases c18 : x11_2 < (y148.length : Int)
                · rw [if_pos c18] at H
                  have c18b0 : decide (x11_2 < (y148.length : Int)) = true := decide_eq_true c18
                  clear c18
                  by_cases c19 : 0 ≤ x11_2
                  · rw [if_pos c19] at H
                    have c19b0 : decide (0 ≤ x11_2) = true := decide_eq_true c19
                    clear c19
                    by_cases c20 : ((rd_T25 y148 x11_2).f0) < (-1099511627776)
                    · rw [if_pos c20] at H
                      have c20b0 : decide (((rd_T25 y148 x11_2).f0) < (-1099511627776)) = true := decide_eq_true c20
                      clear c20
                      obtain rfl := Option.some.inj H
                      simp only [Option.some.injEq, Prod.mk.injEq] at H
                      obtain ⟨rfl⟩ := H
                      obtain ⟨Ao21, co21, eo21⟩ := Kd.N_slice HO_10.out
                      subst eo21
                      have p151 : 0 ≤ (x11_2 : Int) := of_decide_eq_true (by first | (with_reducible assumption) | assumption)
                      have q151 : x11_2 < (y148.length : Int) := of_decide_eq_true (by first | (with_reducible assumption) | assumption)
                      obtain ⟨ad151, A151_1, c151_1, e151, hx151_0, hx151_1, hl151_1, hi151_1⟩ := at_T25 (Kd.N_reads' HO_10.out).2.2 x11_2 p151 q151
                      cases e151
                      obtain ⟨ce151, hce151, hMe151, hcc151⟩ := Kd.N_get HO_10.out z25 x11_2 p151 (by first | exact q151 | exact of_decide_eq_true (by first | (with_reducible assumption) | assumption) | (have e_ := (Kd.N_reads' HO_10.out).1; omega))
                      obtain ⟨ua151_1, uc151_1, rfl, ul151_1, ge151_1⟩ := k25_openF hMe151
                      have hv151_1 := hcc151 1 _ rfl
                      rw [add_field _ _ 1 (by omega)] at hv151_1
                      replace hv151_1 := Option.some.inj (hv151_1.symm.trans hx151_1)
                      injection hv151_1 with hva_ hvn_ hvc_
                      rw [hva_] at ge151_1
                      rw [hvc_] at ul151_1
                      have HL151_1 := Aside0.mk (show Kd.V (Kd.int .u64) 22 _ w.heap.size _ _ ((rd_T25 y148 x11_2).f1) from Kd.V_mk ul151_1 ge151_1)
                      clear hva_ hvn_ hvc_ ge151_1 ul151_1
                      clear hcc151 hce151
                      have HR151_1 := Aside0.mk hi151_1
                      have HC151_1 := Aside0.mk hl151_1
                      clear hi151_1 hl151_1
                      replace p151 := eq_true p151
                      replace q151 := eq_true q151
                      go_wp2
                      go_ret
                      exact ⟨by first | rfl | (simp [errW_none, errW_some] <;> rfl) | (simp [*, errW_none, errW_some] <;> rfl), by repeat (first | (with_reducible first | exact HB.out | apply below_alloc | apply pw_below_drewN | apply below_drew1) | exact HB.out)⟩
                    · rw [if_neg c20] at H
                      have c20b0 : decide (((rd_T25 y148 x11_2).f0) < (-1099511627776)) = false := decide_eq_false c20
                      clear c20
                      by_cases c22 : ((rd_T25 y148 x11_2).f0) > 1099511627776
                      · rw [if_pos c22] at H
                        have c22b0 : decide (1099511627776 < ((rd_T25 y148 x11_2).f0)) = true := decide_eq_true c22
                        clear c22
                        obtain rfl := Option.some.inj H
                        simp only [Option.some.injEq, Prod.mk.injEq] at H
                        obtain ⟨rfl⟩ := H
                        obtain ⟨Ao23, co23, eo23⟩ := Kd.N_slice HO_10.out
                        subst eo23
                        have p151 : 0 ≤ (x11_2 : Int) := of_decide_eq_true (by first | (with_reducible assumption) | assumption)
                        have q151 : x11_2 < (y148.length : Int) := of_decide_eq_true (by first | (with_reducible assumption) | assumption)
                        obtain ⟨ad151, A151_1, c151_1, e151, hx151_0, hx151_1, hl151_1, hi151_1⟩ := at_T25 (Kd.N_reads' HO_10.out).2.2 x11_2 p151 q151
                        cases e151
                        obtain ⟨ce151, hce151, hMe151, hcc151⟩ := Kd.N_get HO_10.out z25 x11_2 p151 (by first | exact q151 | exact of_decide_eq_true (by first | (with_reducible assumption) | assumption) | (have e_ := (Kd.N_reads' HO_10.out).1; omega))
                        obtain ⟨ua151_1, uc151_1, rfl, ul151_1, ge151_1⟩ := k25_openF hMe151
                        have hv151_1 := hcc151 1 _ rfl
                        rw [add_field _ _ 1 (by omega)] at hv151_1
                        replace hv151_1 := Option.some.inj (hv151_1.symm.trans hx151_1)
                        injection hv151_1 with hva_ hvn_ hvc_
                        rw [hva_] at ge151_1
                        rw [hvc_] at ul151_1
                        have HL151_1 := Aside0.mk (show Kd.V (Kd.int .u64) 22 _ w.heap.size _ _ ((rd_T25 y148 x11_2).f1) from Kd.V_mk ul151_1 ge151_1)
                        clear hva_ hvn_ hvc_ ge151_1 ul151_1
                        clear hcc151 hce151
                        have HR151_1 := Aside0.mk hi151_1
                        have HC151_1 := Aside0.mk hl151_1
                        clear hi151_1 hl151_1
                        replace p151 := eq_true p151
                        replace q151 := eq_true q151
                        have p152 : 0 ≤ (x11_2 : Int) := of_decide_eq_true (by first | (with_reducible assumption) | assumption)
                        have q152 : x11_2 < (y148.length : Int) := of_decide_eq_true (by first | (with_reducible assumption) | assumption)
                        obtain ⟨ad152, A152_1, c152_1, e152, hx152_0, hx152_1, hl152_1, hi152_1⟩ := at_T25 (Kd.N_reads' HO_10.out).2.2 x11_2 p152 q152
                        obtain rfl : ad151 = ad152 := (by injection e152)
                        obtain ⟨ce152, hce152, hMe152, hcc152⟩ := Kd.N_get HO_10.out z25 x11_2 p152 (by first | exact q152 | exact of_decide_eq_true (by first | (with_reducible assumption) | assumption) | (have e_ := (Kd.N_reads' HO_10.out).1; omega))
                        obtain ⟨ua152_1, uc152_1, rfl, ul152_1, ge152_1⟩ := k25_openF hMe152
                        have hv152_1 := hcc152 1 _ rfl
                        rw [add_field _ _ 1 (by omega)] at hv152_1
                        replace hv152_1 := Option.some.inj (hv152_1.symm.trans hx152_1)
                        injection hv152_1 with hva_ hvn_ hvc_
                        rw [hva_] at ge152_1
                        rw [hvc_] at ul152_1
                        have HL152_1 := Aside0.mk (show Kd.V (Kd.int .u64) 22 _ w.heap.size _ _ ((rd_T25 y148 x11_2).f1) from Kd.V_mk ul152_1 ge152_1)
                        clear hva_ hvn_ hvc_ ge152_1 ul152_1
                        clear hcc152 hce152
                        have HR152_1 := Aside0.mk hi152_1
                        have HC152_1 := Aside0.mk hl152_1
                        clear hi152_1 hl152_1
                        replace p152 := eq_true p152
                        replace q152 := eq_true q152
                        have ea_ := Option.some.inj (hx151_1.symm.trans hx152_1)
                        injection ea_ with ea_ en_ ec_
                        subst ea_
                        subst ec_
                        clear en_
                        go_wp2
                        go_ret
                        exact ⟨by first | rfl | (simp [errW_none, errW_some] <;> rfl) | (simp [*, errW_none, errW_some] <;> rfl), by repeat (first | (with_reducible first | exact HB.out | apply below_alloc | apply pw_below_drewN | apply below_drew1) | exact HB.out)⟩
                      · rw [if_neg c22] at H
                        have c22b0 : decide (1099511627776 < ((rd_T25 y148 x11_2).f0)) = false := decide_eq_false c22
                        clear c22
                        have H' := Aside0.mk H
                        clear H
                        obtain ⟨Ao24, co24, eo24⟩ := Kd.N_slice HO_10.out
                        subst eo24
                        have p151 : 0 ≤ (x11_2 : Int) := of_decide_eq_true (by first | (with_reducible assumption) | assumption)
                        have q151 : x11_2 < (y148.length : Int) := of_decide_eq_true (by first | (with_reducible assumption) | assumption)
                        obtain ⟨ad151, A151_1, c151_1, e151, hx151_0, hx151_1, hl151_1, hi151_1⟩ := at_T25 (Kd.N_reads' HO_10.out).2.2 x11_2 p151 q151
                        cases e151
                        obtain ⟨ce151, hce151, hMe151, hcc151⟩ := Kd.N_get HO_10.out z25 x11_2 p151 (by first | exact q151 | exact of_decide_eq_true (by first | (with_reducible assumption) | assumption) | (have e_ := (Kd.N_reads' HO_10.out).1; omega))
                        obtain ⟨ua151_1, uc151_1, rfl, ul151_1, ge151_1⟩ := k25_openF hMe151
                        have hv151_1 := hcc151 1 _ rfl
                        rw [add_field _ _ 1 (by omega)] at hv151_1
                        replace hv151_1 := Option.some.inj (hv151_1.symm.trans hx151_1)
                        injection hv151_1 with hva_ hvn_ hvc_
                        rw [hva_] at ge151_1
                        rw [hvc_] at ul151_1
                        have HL151_1 := Aside0.mk (show Kd.V (Kd.int .u64) 22 _ w.heap.size _ _ ((rd_T25 y148 x11_2).f1) from Kd.V_mk ul151_1 ge151_1)
                        clear hva_ hvn_ hvc_ ge151_1 ul151_1
                        clear hcc151 hce151
                        have HR151_1 := Aside0.mk hi151_1
                        have HC151_1 := Aside0.mk hl151_1
                        clear hi151_1 hl151_1
                        replace p151 := eq_true p151
                        replace q151 := eq_true q151
                        have p152 : 0 ≤ (x11_2 : Int) := of_decide_eq_true (by first | (with_reducible assumption) | assumption)
                        have q152 : x11_2 < (y148.length : Int) := of_decide_eq_true (by first | (with_reducible assumption) | assumption)
                        obtain ⟨ad152, A152_1, c152_1, e152, hx152_0, hx152_1, hl152_1, hi152_1⟩ := at_T25 (Kd.N_reads' HO_10.out).2.2 x11_2 p152 q152
                        obtain rfl : ad151 = ad152 := (by injection e152)
                        obtain ⟨ce152, hce152, hMe152, hcc152⟩ := Kd.N_get HO_10.out z25 x11_2 p152 (by first | exact q152 | exact of_decide_eq_true (by first | (with_reducible assumption) | assumption) | (have e_ := (Kd.N_reads' HO_10.out).1; omega))
                        obtain ⟨ua152_1, uc152_1, rfl, ul152_1, ge152_1⟩ := k25_openF hMe152
                        have hv152_1 := hcc152 1 _ rfl
                        rw [add_field _ _ 1 (by omega)] at hv152_1
                        replace hv152_1 := Option.some.inj (hv152_1.symm.trans hx152_1)
                        injection hv152_1 with hva_ hvn_ hvc_
                        rw [hva_] at ge152_1
                        rw [hvc_] at ul152_1
                        have HL152_1 := Aside0.mk (show Kd.V (Kd.int .u64) 22 _ w.heap.size _ _ ((rd_T25 y148 x11_2).f1) from Kd.V_mk ul152_1 ge152_1)
                        clear hva_ hvn_ hvc_ ge152_1 ul152_1
                        clear hcc152 hce152
                        have HR152_1 := Aside0.mk hi152_1
                        have HC152_1 := Aside0.mk hl152_1
                        clear hi152_1 hl152_1
                        replace p152 := eq_true p152
                        replace q152 := eq_true q152
                        have ea_ := Option.some.inj (hx151_1.symm.trans hx152_1)
                        injection ea_ with ea_ en_ ec_
                        subst ea_
                        subst ec_
                        clear en_
                        go_wp2
                        go_roundg k2
                        case measure => have := HJ6.out; have := HK2.out; omega
                        case rel => exact ⟨(wrap64 (x11_2 + 1)), (by first | rfl | (simp; done) | (simp [*]; done)), (by first | exact H' | (subst_vars; exact H')), ⟨by have := HJ6.out; have := HK2.out; omega⟩, ⟨by (with_reducible repeat (first | apply Kd.V_alloc | apply Kd.V_drewN | apply Kd.V_drew)); exact HO_1.out⟩, ⟨by (with_reducible repeat (first | apply Kd.V_alloc | apply Kd.V_drewN | apply Kd.V_drew)); exact HO_2.out⟩, ⟨by (with_reducible repeat (first | apply Kd.N_alloc | apply Kd.N_drewN | apply Kd.N_drew)); exact HO_10.out⟩, ⟨by repeat (first | (with_reducible first | exact HB.out | apply below_alloc | apply pw_below_drewN | apply below_drew1) | exact HB.out)⟩⟩
                  · rw [if_neg c19] at H
                    exact absurd H (by simp)
                · rw [if_neg c18] at H
                  have c18b0 : decide (x11_2 < (y148.length : Int)) = false := decide_eq_false c18
                  clear c18
                  by_cases c25 : t139 = true
                  · subst c25
                    have H1 : ((undo_Back.f l0 y148).bind fun t153 => ((undo_Back.f l0 l2).bind fun t156 => ((undo_Back.f t156 l1).bind fun t159 => ((lockfastref01_Words.f k2 t153 t159).bind fun t162 => (some t162))))) = some r := by rw [if_pos rfl] at H; exact H
                    clear H
                    have H := H1
                    clear H1
                    replace H := Option.bind_eq_some_iff.mp H
                    obtain ⟨t153, A260, H⟩ := H
                    replace H : ((undo_Back.f l0 l2).bind fun t156 => ((undo_Back.f t156 l1).bind fun t159 => ((lockfastref01_Words.f k2 t153 t159).bind fun t162 => (some t162)))) = some r := H
                    have A26 := Aside0.mk A260
                    clear A260
                    replace H := Option.bind_eq_some_iff.mp H
                    obtain ⟨t156, A270, H⟩ := H
                    replace H : ((undo_Back.f t156 l1).bind fun t159 => ((lockfastref01_Words.f k2 t153 t159).bind fun t162 => (some t162))) = some r := H
                    have A27 := Aside0.mk A270
                    clear A270
                    replace H := Option.bind_eq_some_iff.mp H
                    obtain ⟨t159, A280, H⟩ := H
                    replace H : ((lockfastref01_Words.f k2 t153 t159).bind fun t162 => (some t162)) = some r := H
                    have A28 := Aside0.mk A280
                    clear A280
                    replace H := Option.bind_eq_some_iff.mp H
                    obtain ⟨t162, A290, H⟩ := H
                    replace H : (some t162) = some r := H
                    have A29 := Aside0.mk A290
                    clear A290
                    obtain rfl := Option.some.inj H
                    simp only [Option.some.injEq, Prod.mk.injEq] at H
                    obtain ⟨rfl⟩ := H
                    obtain ⟨Ao30, co30, eo30⟩ := Kd.N_slice HO_10.out
                    subst eo30
                    go_wp2_with (first | (go_at_call 20; (with_reducible refine (undo_Back.calls _ _ l0 _ _ y148 t153 _ ?side1 ?side2 ?side3 ?side4 A26.out).mono ?_); (case side1 => repeat (first | exact (Kd.C_below HR0.out HB.out) | (with_reducible refine Kd.C_alloc ?_ _) | (with_reducible refine Kd.C_drewN ?_ _) | (with_reducible refine Kd.C_drew ?_))); (case side2 => exact HC0.out); (case side3 => repeat (first | exact (Kd.N_reads' HO_10.out).2.2 | (with_reducible refine Kd.C_alloc ?_ _) | (with_reducible refine Kd.C_drewN ?_ _) | (with_reducible refine Kd.C_drew ?_))); (case side4 => exact (Kd.N_reads' HO_10.out).2.1); rintro e w31 ⟨v154, rfl, ho0, hb⟩; have n0_ := Aside0.mk (Kd.V_elder' (by (with_reducible repeat (first | apply Kd.V_alloc | apply Kd.V_drewN | apply Kd.V_drew)); exact HO_1.out) (Kd.R_base ho0) hb); have n1_ := Aside0.mk (Kd.V_elder' (by (with_reducible repeat (first | apply Kd.V_alloc | apply Kd.V_drewN | apply Kd.V_drew)); exact HO_2.out) (Kd.R_base ho0) hb); have n2_ := Aside0.mk (Kd.N_elder' (by (with_reducible repeat (first | apply Kd.N_alloc | apply Kd.N_drewN | apply Kd.N_drew)); exact HO_10.out) (Kd.R_base ho0) hb); have n3_ := Aside0.mk (Kd.R_lower (Kd.R_newM (M := fun k_ => (w.heap.size ≤ k_)) ho0 (below_size (by repeat (first | (with_reducible first | exact HB.out | apply below_alloc | apply pw_below_drewN | apply below_drew1) | exact HB.out))) (fun k_ h_ => h_)) (below_size (by repeat (first | (with_reducible first | exact HB.out | apply below_alloc | apply pw_below_drewN | apply below_drew1) | exact HB.out)))); have n4_ := Aside0.mk (below_step (by repeat (first | (with_reducible first | exact HB.out | apply below_alloc | apply pw_below_drewN | apply below_drew1) | exact HB.out)) hb); clear HO_1; clear HO_2; clear HO_10; clear HB; have HO_1 := n0_; have HO_2 := n1_; have HO_10 := n2_; have HO155 := n3_; have HB := n4_; clear n0_ n1_ n2_ n3_ n4_; (try clear hb); (try clear hb2); (try clear hk); (try clear hi); (try clear ho0)) | (go_at_call 20; (with_reducible refine (undo_Back.calls _ _ l0 _ _ l2 t156 _ ?side1 ?side2 ?side3 ?side4 A27.out).mono ?_); (case side1 => repeat (first | exact (Kd.C_below HR0.out HB.out) | (with_reducible refine Kd.C_alloc ?_ _) | (with_reducible refine Kd.C_drewN ?_ _) | (with_reducible refine Kd.C_drew ?_))); (case side2 => exact HC0.out); (case side3 => repeat (first | exact (Kd.V_reads' HO_2.out).2.2 | (with_reducible refine Kd.C_alloc ?_ _) | (with_reducible refine Kd.C_drewN ?_ _) | (with_reducible refine Kd.C_drew ?_))); (case side4 => exact (Kd.V_reads' HO_2.out).2.1); rintro e w32 ⟨v157, rfl, ho0, hb⟩; have n0_ := Aside0.mk (Kd.V_elder' (by (with_reducible repeat (first | apply Kd.V_alloc | apply Kd.V_drewN | apply Kd.V_drew)); exact HO_1.out) (Kd.R_base ho0) hb); have n1_ := Aside0.mk (Kd.V_elder' (by (with_reducible repeat (first | apply Kd.V_alloc | apply Kd.V_drewN | apply Kd.V_drew)); exact HO_2.out) (Kd.R_base ho0) hb); have n2_ := Aside0.mk (Kd.N_elder' (by (with_reducible repeat (first | apply Kd.N_alloc | apply Kd.N_drewN | apply Kd.N_drew)); exact HO_10.out) (Kd.R_base ho0) hb); have n3_ := Aside0.mk (Kd.R_elder' (by (with_reducible repeat (first | apply Kd.R_alloc | apply Kd.R_drewN | apply Kd.R_drew)); exact HO155.out) (Kd.R_base ho0) hb); have n4_ := Aside0.mk (Kd.R_lower (Kd.R_new' (Kd.R_newM (M := fun k_ => (w.heap.size ≤ k_)) ho0 (below_size (by repeat (first | (with_reducible first | exact HB.out | apply below_alloc | apply pw_below_drewN | apply below_drew1) | exact HB.out))) (fun k_ h_ => h_)) (Kd.R_lt (by (with_reducible repeat (first | apply Kd.R_alloc | apply Kd.R_drewN | apply Kd.R_drew)); exact HO155.out))) (below_size (by repeat (first | (with_reducible first | exact HB.out | apply below_alloc | apply pw_below_drewN | apply below_drew1) | exact HB.out)))); have n5_ := Aside0.mk (below_step (by repeat (first | (with_reducible first | exact HB.out | apply below_alloc | apply pw_below_drewN | apply below_drew1) | exact HB.out)) hb); clear HO_1; clear HO_2; clear HO_10; clear HO155; clear HB; have HO_1 := n0_; have HO_2 := n1_; have HO_10 := n2_; have HO155 := n3_; have HO158 := n4_; have HB := n5_; clear n0_ n1_ n2_ n3_ n4_ n5_; (try clear hb); (try clear hb2); (try clear hk); (try clear hi); (try clear ho0); obtain ⟨Ao33, co33, eo33⟩ := Kd.R_slice HO158.out; subst eo33) | (go_at_call 20; (with_reducible refine (undo_Back.calls _ _ t156 _ _ l1 t159 _ ?side1 ?side2 ?side3 ?side4 A28.out).mono ?_); (case side1 => repeat (first | exact (Kd.R_reads' HO158.out).2.2 | (with_reducible refine Kd.C_alloc ?_ _) | (with_reducible refine Kd.C_drewN ?_ _) | (with_reducible refine Kd.C_drew ?_))); (case side2 => exact (Kd.R_reads' HO158.out).2.1); (case side3 => repeat (first | exact (Kd.V_reads' HO_1.out).2.2 | (with_reducible refine Kd.C_alloc ?_ _) | (with_reducible refine Kd.C_drewN ?_ _) | (with_reducible refine Kd.C_drew ?_))); (case side4 => exact (Kd.V_reads' HO_1.out).2.1); rintro e w34 ⟨v160, rfl, ho0, hb⟩; have n0_ := Aside0.mk (Kd.V_elder' (by (with_reducible repeat (first | apply Kd.V_alloc | apply Kd.V_drewN | apply Kd.V_drew)); exact HO_1.out) (Kd.R_base ho0) hb); have n1_ := Aside0.mk (Kd.V_elder' (by (with_reducible repeat (first | apply Kd.V_alloc | apply Kd.V_drewN | apply Kd.V_drew)); exact HO_2.out) (Kd.R_base ho0) hb); have n2_ := Aside0.mk (Kd.N_elder' (by (with_reducible repeat (first | apply Kd.N_alloc | apply Kd.N_drewN | apply Kd.N_drew)); exact HO_10.out) (Kd.R_base ho0) hb); have n3_ := Aside0.mk (Kd.R_elder' (by (with_reducible repeat (first | apply Kd.R_alloc | apply Kd.R_drewN | apply Kd.R_drew)); exact HO155.out) (Kd.R_base ho0) hb); have n4_ := Aside0.mk (Kd.R_elder' (by (with_reducible repeat (first | apply Kd.R_alloc | apply Kd.R_drewN | apply Kd.R_drew)); exact HO158.out) (Kd.R_base ho0) hb); have n5_ := Aside0.mk (Kd.R_lower (Kd.R_new' (Kd.R_new' (Kd.R_newM (M := fun k_ => (w.heap.size ≤ k_)) ho0 (below_size (by repeat (first | (with_reducible first | exact HB.out | apply below_alloc | apply pw_below_drewN | apply below_drew1) | exact HB.out))) (fun k_ h_ => h_)) (Kd.R_lt (by (with_reducible repeat (first | apply Kd.R_alloc | apply Kd.R_drewN | apply Kd.R_drew)); exact HO155.out))) (Kd.R_lt (by (with_reducible repeat (first | apply Kd.R_alloc | apply Kd.R_drewN | apply Kd.R_drew)); exact HO158.out))) (below_size (by repeat (first | (with_reducible first | exact HB.out | apply below_alloc | apply pw_below_drewN | apply below_drew1) | exact HB.out)))); have n6_ := Aside0.mk (below_step (by repeat (first | (with_reducible first | exact HB.out | apply below_alloc | apply pw_below_drewN | apply below_drew1) | exact HB.out)) hb); clear HO_1; clear HO_2; clear HO_10; clear HO155; clear HO158; clear HB; have HO_1 := n0_; have HO_2 := n1_; have HO_10 := n2_; have HO155 := n3_; have HO158 := n4_; have HO161 := n5_; have HB := n6_; clear n0_ n1_ n2_ n3_ n4_ n5_ n6_; (try clear hb); (try clear hb2); (try clear hk); (try clear hi); (try clear ho0); obtain ⟨Ao35, co35, eo35⟩ := Kd.R_slice HO155.out; subst eo35; obtain ⟨Ao36, co36, eo36⟩ := Kd.R_slice HO161.out; subst eo36) | (go_at_call 13; (with_reducible refine (lockfastref01_Words.calls k2 _ _ t153 _ _ t159 t162 _ ?side1 ?side2 ?side3 ?side4 A29.out).mono ?_); (case side1 => repeat (first | exact (Kd.R_reads' HO155.out).2.2 | (with_reducible refine Kd.C_alloc ?_ _) | (with_reducible refine Kd.C_drewN ?_ _) | (with_reducible refine Kd.C_drew ?_))); (case side2 => exact (Kd.R_reads' HO155.out).2.1); (case side3 => repeat (first | exact (Kd.R_reads' HO161.out).2.2 | (with_reducible refine Kd.C_alloc ?_ _) | (with_reducible refine Kd.C_drewN ?_ _) | (with_reducible refine Kd.C_drew ?_))); (case side4 => exact (Kd.R_reads' HO161.out).2.1); rintro e w' ⟨rfl, ⟨nd, rfl⟩⟩))
                    go_ret
                    exact ⟨by first | rfl | (simp [errW_none, errW_some] <;> rfl) | (simp [*, errW_none, errW_some] <;> rfl), by repeat (first | (with_reducible first | exact HB.out | apply below_alloc | apply pw_below_drewN | apply below_drew1) | exact HB.out)⟩
                  · replace c25 := Bool.eq_false_iff.mpr c25
                    subst c25
                    have H1 : (some false) = some r := by rw [if_neg (show ¬ (false = true) by decide)] at H; exact H
                    clear H
                    have H := H1
                    clear H1
                    obtain rfl := Option.some.inj H
                    exact absurd HRT.out (by decide)
          · rw [if_neg c13] at H
            exact absurd H (by simp)
        · rw [if_neg c12] at H
          exact absurd H (by simp)

/-- The one pure statement of lockfastlaw13_UndoParts. -/
def lockfastlaw13_UndoParts.Pure : Prop := ∀ (l0 : List Int) (l1 : List (S25)) (l2 : List (S25)), l0.length ≤ maxLen → l0.length * 8 ≤ 140737488351232 → (∀ x ∈ l0, (Lit.int .u64 x).wf = true) → l1.length ≤ maxLen → (∀ x ∈ l1, (Lit.int .i64 x.f0).wf = true ∧ ∀ z ∈ x.f1, (Lit.int .u64 z).wf = true) → l2.length ≤ maxLen → (∀ x ∈ l2, (Lit.int .i64 x.f0).wf = true ∧ ∀ z ∈ x.f1, (Lit.int .u64 z).wf = true) → ∃ k, lockfastlaw13_UndoParts.f k l0 l1 l2 = some true

end Go.Proofs.Ytinbediigibolaa.PUndoParts
