-- WRITTEN FOR THIS CLAIM by given.py, a program of this session's: the kit's printer, run with contracts of the session's own. It is not a text of print.sh's.
import Derived.Test.YtinbediigibolaaPUndoBacksx0
import Derived.Test.YtinbediigibolaaPUndoBacksx4
import Derived.Test.YtinbediigibolaaPUndoBacksx5
import Derived.Test.YtinbediigibolaaPUndoBacksx6
namespace Go.Proofs.Ytinbediigibolaa.PUndoBacks
open Go.RowKit Go.Proofs.YtinbediigibolaaW.PrintWords Go.Proofs.YtinbediigibolaaW.PrintLast Go.Proofs.YtinbediigibolaaW.PrintMore
attribute [local go_sem] max2_int min2_int max_two min_two max_three min_three max_four min_four   -- for this text's walks alone
set_option linter.unusedVariables false
set_option linter.unusedSimpArgs false
open Go.Proofs.YtinbediigibolaaX

/-! ### lockfastlaw13_UndoBacks: function 8 -/
mutual
def lockfastlaw13_UndoBacks.j0 : Nat → List Int → List (S25) → Int → Bool → Bool → Option (Bool)
  | 0, _, _, _, _, _ => none
  | k + 1, x0, x1, x2, x7, x27 => if x27 = true then (some x7) else (lockfastlaw13_UndoBacks.l0 k x0 x1 x2 x7 0)
def lockfastlaw13_UndoBacks.l0 : Nat → List Int → List (S25) → Int → Bool → Int → Option (Bool)
  | 0, _, _, _, _, _ => none
  | k + 1, x0, x1, x2, x7, x9 => if x9 < (x1.length : Int) then (if 0 ≤ x9 then (if ((rd_T25 x1 x9).f0) < (-1099511627776) then (some x7) else (if ((rd_T25 x1 x9).f0) > 1099511627776 then (some x7) else (lockfastlaw13_UndoBacks.l0 k x0 x1 x2 x7 (wrap64 (x9 + 1))))) else (none)) else (if x7 = true then ((undo_Back.f x0 x1).bind fun t154 => ((lockfastref13_Back.f k x0 x1).bind fun t157 => ((lockfastref01_Words.f k t154 t157).bind fun t160 => (if t160 = true then ((undo_Within.f x1 x2).bind fun t161 => ((lockfastref13_Within.f k x1 x2).bind fun t162 => (some (t161 == t162)))) else (some false))))) else (some false))
end
def lockfastlaw13_UndoBacks.f (k : Nat) (l0 : List Int) (l1 : List (S25)) (a2 : Int) : Option (Bool) := (lockfastlaw13_awake.f).bind fun t150 => ((lockfastlaw13_few.f k l1).bind fun t151 => (if (l0.length : Int) > 60 then (lockfastlaw13_UndoBacks.j0 k l0 l1 a2 t150 true) else (if t151 = true then (if a2 < (-1099511627776) then (lockfastlaw13_UndoBacks.j0 k l0 l1 a2 t150 true) else (lockfastlaw13_UndoBacks.j0 k l0 l1 a2 t150 (decide (a2 > 1099511627776)))) else (lockfastlaw13_UndoBacks.j0 k l0 l1 a2 t150 true))))
theorem lockfastlaw13_UndoBacks.mono_l : ∀ k, (∀ y0 y1 y2 y3 y4, LeO (lockfastlaw13_UndoBacks.j0 k y0 y1 y2 y3 y4) (lockfastlaw13_UndoBacks.j0 (k + 1) y0 y1 y2 y3 y4)) ∧ (∀ y0 y1 y2 y3 y4, LeO (lockfastlaw13_UndoBacks.l0 k y0 y1 y2 y3 y4) (lockfastlaw13_UndoBacks.l0 (k + 1) y0 y1 y2 y3 y4))
  | 0 => ⟨fun _ _ _ _ _ r h => by simp [lockfastlaw13_UndoBacks.j0] at h, fun _ _ _ _ _ r h => by simp [lockfastlaw13_UndoBacks.l0] at h⟩
  | k + 1 => by
    obtain ⟨ih0, ih1⟩ := lockfastlaw13_UndoBacks.mono_l k
    refine ⟨?_, ?_⟩
    · intro y0 y1 y2 y3 y4
      unfold lockfastlaw13_UndoBacks.j0
      repeat' first
      | (with_reducible exact ih0 _ _ _ _ _)
      | (with_reducible exact ih1 _ _ _ _ _)
      | (with_reducible exact lockfastlaw13_few.mono _ _)
      | (with_reducible exact lockfastref01_Words.mono _ _ _)
      | (with_reducible exact lockfastref13_Back.mono _ _ _)
      | (with_reducible exact lockfastref13_Within.mono _ _ _)
      | (with_reducible exact LeO.refl _)
      | (with_reducible exact LeO.none _)
      | (with_reducible refine LeO.ite ?_ ?_)
      | (with_reducible refine LeO.bind ?_ (fun _ => ?_))
      | exact ih0 _ _ _ _ _
      | exact ih1 _ _ _ _ _
      | exact lockfastlaw13_few.mono _ _
      | exact lockfastref01_Words.mono _ _ _
      | exact lockfastref13_Back.mono _ _ _
      | exact lockfastref13_Within.mono _ _ _
      | exact LeO.none _
      | refine LeO.ite ?_ ?_
      | refine LeO.bind ?_ (fun _ => ?_)
    · intro y0 y1 y2 y3 y4
      unfold lockfastlaw13_UndoBacks.l0
      repeat' first
      | (with_reducible exact ih0 _ _ _ _ _)
      | (with_reducible exact ih1 _ _ _ _ _)
      | (with_reducible exact lockfastlaw13_few.mono _ _)
      | (with_reducible exact lockfastref01_Words.mono _ _ _)
      | (with_reducible exact lockfastref13_Back.mono _ _ _)
      | (with_reducible exact lockfastref13_Within.mono _ _ _)
      | (with_reducible exact LeO.refl _)
      | (with_reducible exact LeO.none _)
      | (with_reducible refine LeO.ite ?_ ?_)
      | (with_reducible refine LeO.bind ?_ (fun _ => ?_))
      | exact ih0 _ _ _ _ _
      | exact ih1 _ _ _ _ _
      | exact lockfastlaw13_few.mono _ _
      | exact lockfastref01_Words.mono _ _ _
      | exact lockfastref13_Back.mono _ _ _
      | exact lockfastref13_Within.mono _ _ _
      | exact LeO.none _
      | refine LeO.ite ?_ ?_
      | refine LeO.bind ?_ (fun _ => ?_)
theorem lockfastlaw13_UndoBacks.mono : ∀ a0 a1 a2 k, LeO (lockfastlaw13_UndoBacks.f k a0 a1 a2) (lockfastlaw13_UndoBacks.f (k + 1) a0 a1 a2) := by
  intro a0 a1 a2 k
  obtain ⟨ih0, ih1⟩ := lockfastlaw13_UndoBacks.mono_l k
  unfold lockfastlaw13_UndoBacks.f
  repeat' first
      | (with_reducible exact ih0 _ _ _ _ _)
      | (with_reducible exact ih1 _ _ _ _ _)
      | (with_reducible exact lockfastlaw13_few.mono _ _)
      | (with_reducible exact lockfastref01_Words.mono _ _ _)
      | (with_reducible exact lockfastref13_Back.mono _ _ _)
      | (with_reducible exact lockfastref13_Within.mono _ _ _)
      | (with_reducible exact LeO.refl _)
      | (with_reducible exact LeO.none _)
      | (with_reducible refine LeO.ite ?_ ?_)
      | (with_reducible refine LeO.bind ?_ (fun _ => ?_))
      | exact ih0 _ _ _ _ _
      | exact ih1 _ _ _ _ _
      | exact lockfastlaw13_few.mono _ _
      | exact lockfastref01_Words.mono _ _ _
      | exact lockfastref13_Back.mono _ _ _
      | exact lockfastref13_Within.mono _ _ _
      | exact LeO.none _
      | refine LeO.ite ?_ ?_
      | refine LeO.bind ?_ (fun _ => ?_)
set_option maxHeartbeats 8000000 in
set_option maxRecDepth 100000 in
theorem lockfastlaw13_UndoBacks.calls (k : Nat) (A0 : Option Addr) (c0 : Nat) (l0 : List Int) (A1 : Option Addr) (c1 : Nat) (l1 : List (S25)) (a2 : Int) (r : Bool) (w : World) (hrt : r = true) (hr0 : Kd.C (Kd.int .u64) w A0 l0.length l0) (hc0 : l0.length ≤ c0) (hr1 : Kd.C k25 w A1 l1.length l1) (hc1 : l1.length ≤ c1) (h : lockfastlaw13_UndoBacks.f k l0 l1 a2 = some r) :
    Calls Try.prog 8 #[.slice A0 l0.length c0, .slice A1 l1.length c1, .int .i64 a2] w fun e w' => e = .returned (.bool r) ∧ Below w.heap.size w w' := by
  have HR0 := Aside0.mk hr0
  have HC0 := Aside0.mk hc0
  clear hr0 hc0
  have HR1 := Aside0.mk hr1
  have HC1 := Aside0.mk hc1
  clear hr1 hc1
  have HB := Aside0.mk (Below.refl w.heap.size w)
  have H : ((lockfastlaw13_awake.f).bind fun t150 => ((lockfastlaw13_few.f k l1).bind fun t151 => (if (l0.length : Int) > 60 then (lockfastlaw13_UndoBacks.j0 k l0 l1 a2 t150 true) else (if t151 = true then (if a2 < (-1099511627776) then (lockfastlaw13_UndoBacks.j0 k l0 l1 a2 t150 true) else (lockfastlaw13_UndoBacks.j0 k l0 l1 a2 t150 (decide (a2 > 1099511627776)))) else (lockfastlaw13_UndoBacks.j0 k l0 l1 a2 t150 true))))) = some r := h
  clear h
  have HRT := Aside0.mk hrt
  clear hrt
  replace H := Option.bind_eq_some_iff.mp H
  obtain ⟨t150, A40, H⟩ := H
  replace H : ((lockfastlaw13_few.f k l1).bind fun t151 => (if (l0.length : Int) > 60 then (lockfastlaw13_UndoBacks.j0 k l0 l1 a2 t150 true) else (if t151 = true then (if a2 < (-1099511627776) then (lockfastlaw13_UndoBacks.j0 k l0 l1 a2 t150 true) else (lockfastlaw13_UndoBacks.j0 k l0 l1 a2 t150 (decide (a2 > 1099511627776)))) else (lockfastlaw13_UndoBacks.j0 k l0 l1 a2 t150 true)))) = some r := H
  have A4 := Aside0.mk A40
  clear A40
  replace H := Option.bind_eq_some_iff.mp H
  obtain ⟨t151, A50, H⟩ := H
  replace H : (if (l0.length : Int) > 60 then (lockfastlaw13_UndoBacks.j0 k l0 l1 a2 t150 true) else (if t151 = true then (if a2 < (-1099511627776) then (lockfastlaw13_UndoBacks.j0 k l0 l1 a2 t150 true) else (lockfastlaw13_UndoBacks.j0 k l0 l1 a2 t150 (decide (a2 > 1099511627776)))) else (lockfastlaw13_UndoBacks.j0 k l0 l1 a2 t150 true))) = some r := H
  have A5 := Aside0.mk A50
  clear A50
  have HC6 := Aside0.mk H
  clear H
  go_enter Try.func8, Try.ntmps8
  go_upto_region 3 with (first | ((with_reducible refine gate_callee (f := 10) rfl ?_); refine goesL_ (some 10) rfl rfl Try.func10 (by kernel_rfl) rfl #[] rfl (by (try simp only [List.map_toArray, List.map_cons, List.map_nil]); first | done | rfl | (simp only [List.length_drop, List.length_take]; rfl)) ?_; (with_reducible refine (lockfastlaw13_awake.calls  t150 _ A4.out).mono ?_); rintro e w7 ⟨rfl, hb⟩; refine ⟨_, rfl, ?_⟩; have n0_ := Aside0.mk (below_step (by repeat (first | (with_reducible first | exact HB.out | apply below_alloc | apply pw_below_drewN | apply below_drew1) | exact HB.out)) hb); clear HB; have HB := n0_; clear n0_; (try clear hb); (try clear hb2); (try clear hk); (try clear hi)) | ((with_reducible refine gate_callee (f := 19) rfl ?_); refine goesL_ (some 12) rfl rfl Try.func19 (by kernel_rfl) rfl #[.slice A1 l1.length c1] rfl (by (try simp only [List.map_toArray, List.map_cons, List.map_nil]); first | done | rfl | (simp only [List.length_drop, List.length_take]; rfl)) ?_; (with_reducible refine (lockfastlaw13_few.calls k _ _ l1 t151 _ ?side1 ?side2 A5.out).mono ?_); (case side1 => repeat (first | exact (Kd.C_below HR1.out HB.out) | (with_reducible refine Kd.C_alloc ?_ _) | (with_reducible refine Kd.C_drewN ?_ _) | (with_reducible refine Kd.C_drew ?_))); (case side2 => exact HC1.out); rintro e w' ⟨rfl, ⟨nd, rfl⟩⟩; refine ⟨_, rfl, ?_⟩))
  (try simp only [Act.put, List.setIfInBounds_toArray, List.set_cons_zero, List.set_cons_succ])
  go_cut [27] (fun v27 wc => ∃ (kq : Nat) (x27_5 : Bool), v27 = .bool x27_5 ∧ Aside0 (lockfastlaw13_UndoBacks.j0 kq l0 l1 a2 t150 x27_5 = some r) ∧ Aside0 (kq ≤ k) ∧ Aside0 (Below w.heap.size w wc))
  case first =>
    have H := HC6.out
    clear HC6
    by_cases c8 : (l0.length : Int) > 60
    · rw [if_pos c8] at H
      have c8b0 : decide (60 < (l0.length : Int)) = true := decide_eq_true c8
      have c8b1 : decide (60 < l0.length) = true := decide_eq_true (by omega)
      clear c8
      (first | rw [c8b0] | (simp only [i64_w, i32_w]; rw [c8b0]) | skip)
      have H' := Aside0.mk H
      clear H
      go_wp2
      go_meet
      case rel => exact ⟨_, (true), (by first | rfl | (simp; done) | (simp [*]; done)), (by first | exact H' | (subst_vars; exact H')), ⟨by first | omega | exact Nat.le_refl _⟩, ⟨by repeat (first | (with_reducible first | exact HB.out | apply below_alloc | apply pw_below_drewN | apply below_drew1) | exact HB.out)⟩⟩
    · rw [if_neg c8] at H
      have c8b0 : decide (60 < (l0.length : Int)) = false := decide_eq_false c8
      have c8b1 : decide (60 < l0.length) = false := decide_eq_false (by omega)
      clear c8
      (first | rw [c8b0] | (simp only [i64_w, i32_w]; rw [c8b0]) | skip)
      by_cases c9 : t151 = true
      · subst c9
        have H1 : (if a2 < (-1099511627776) then (lockfastlaw13_UndoBacks.j0 k l0 l1 a2 t150 true) else (lockfastlaw13_UndoBacks.j0 k l0 l1 a2 t150 (decide (a2 > 1099511627776)))) = some r := by rw [if_pos rfl] at H; exact H
        clear H
        have H := H1
        clear H1
        by_cases c10 : a2 < (-1099511627776)
        · rw [if_pos c10] at H
          have c10b0 : decide (a2 < (-1099511627776)) = true := decide_eq_true c10
          clear c10
          have H' := Aside0.mk H
          clear H
          go_wp2
          go_meet
          case rel => exact ⟨_, (true), (by first | rfl | (simp; done) | (simp [*]; done)), (by first | exact H' | (subst_vars; exact H')), ⟨by first | omega | exact Nat.le_refl _⟩, ⟨by repeat (first | (with_reducible first | exact HB.out | apply below_alloc | apply pw_below_drewN | apply below_drew1) | exact HB.out)⟩⟩
        · rw [if_neg c10] at H
          have c10b0 : decide (a2 < (-1099511627776)) = false := decide_eq_false c10
          clear c10
          have H' := Aside0.mk H
          clear H
          go_wp2
          go_meet
          case rel => exact ⟨_, (decide (a2 > 1099511627776)), (by first | rfl | (simp; done) | (simp [*]; done)), (by first | exact H' | (subst_vars; exact H')), ⟨by first | omega | exact Nat.le_refl _⟩, ⟨by repeat (first | (with_reducible first | exact HB.out | apply below_alloc | apply pw_below_drewN | apply below_drew1) | exact HB.out)⟩⟩
      · replace c9 := Bool.eq_false_iff.mpr c9
        subst c9
        have H1 : (lockfastlaw13_UndoBacks.j0 k l0 l1 a2 t150 true) = some r := by rw [if_neg (show ¬ (false = true) by decide)] at H; exact H
        clear H
        have H := H1
        clear H1
        have H' := Aside0.mk H
        clear H
        go_wp2
        go_meet
        case rel => exact ⟨_, (true), (by first | rfl | (simp; done) | (simp [*]; done)), (by first | exact H' | (subst_vars; exact H')), ⟨by first | omega | exact Nat.le_refl _⟩, ⟨by repeat (first | (with_reducible first | exact HB.out | apply below_alloc | apply pw_below_drewN | apply below_drew1) | exact HB.out)⟩⟩
  case rest =>
    clear HC6
    try clear c1
    try clear p2
    try clear c8
    try clear c8b0
    try clear c8b1
    try clear c9
    try clear c10
    try clear c10b0
    obtain ⟨kq, x27_5, rfl, HA, HJ5, HB⟩ := hcut
    cases kq with
    | zero => exact absurd HA.out (by simp [lockfastlaw13_UndoBacks.j0])
    | succ kj5 =>
      have H := HA.out
      clear HA
      simp only [lockfastlaw13_UndoBacks.j0] at H
      by_cases c11 : x27_5 = true
      · subst c11
        have H1 : (some t150) = some r := by rw [if_pos rfl] at H; exact H
        clear H
        have H := H1
        clear H1
        obtain rfl := Option.some.inj H
        simp only [Option.some.injEq, Prod.mk.injEq] at H
        obtain ⟨rfl⟩ := H
        go_wp2
        go_ret
        exact ⟨by first | rfl | (simp [errW_none, errW_some] <;> rfl) | (simp [*, errW_none, errW_some] <;> rfl), by repeat (first | (with_reducible first | exact HB.out | apply below_alloc | apply pw_below_drewN | apply below_drew1) | exact HB.out)⟩
      · replace c11 := Bool.eq_false_iff.mpr c11
        subst c11
        have H1 : (lockfastlaw13_UndoBacks.l0 kj5 l0 l1 a2 t150 0) = some r := by rw [if_neg (show ¬ (false = true) by decide)] at H; exact H
        clear H
        have H := H1
        clear H1
        have H' := Aside0.mk H
        clear H
        go_wp2
        go_loopg [9] kj5 (fun kq v9 w' => ∃ (x9_2 : Int), v9 = .int .i64 x9_2 ∧ Aside0 (lockfastlaw13_UndoBacks.l0 kq l0 l1 a2 t150 x9_2 = some r) ∧ Aside0 (kq ≤ kj5) ∧ Aside0 (Below w.heap.size w w'))
        case atStart => exact ⟨(0), (by first | rfl | (simp; done) | (simp [*]; done)), H', ⟨Nat.le_refl _⟩, ⟨by repeat (first | (with_reducible first | exact HB.out | apply below_alloc | apply pw_below_drewN | apply below_drew1) | exact HB.out)⟩⟩
        case round =>
          clear H'
          try clear c1
          try clear p2
          try clear c8
          try clear c8b0
          try clear c8b1
          try clear c9
          try clear c10
          try clear c10b0
          try clear c11
          try clear p2
          obtain ⟨x9_2, rfl, HA, HK2, HB⟩ := hrel
          cases gk with
          | zero => exact absurd HA.out (by simp [lockfastlaw13_UndoBacks.l0])
          | succ k2 =>
            have H := HA.out
            clear HA
            simp only [lockfastlaw13_UndoBacks.l0] at H
            by_cases c12 : x9_2 < (l1.length : Int)
            · rw [if_pos c12] at H
              have c12b0 : decide (x9_2 < (l1.length : Int)) = true := decide_eq_true c12
              clear c12
              by_cases c13 : 0 ≤ x9_2
              · rw [if_pos c13] at H
                have c13b0 : decide (0 ≤ x9_2) = true := decide_eq_true c13
                clear c13
                by_cases c14 : ((rd_T25 l1 x9_2).f0) < (-1099511627776)
                · rw [if_pos c14] at H
                  have c14b0 : decide (((rd_T25 l1 x9_2).f0) < (-1099511627776)) = true := decide_eq_true c14
                  clear c14
                  obtain rfl := Option.some.inj H
                  simp only [Option.some.injEq, Prod.mk.injEq] at H
                  obtain ⟨rfl⟩ := H
                  have p152 : 0 ≤ (x9_2 : Int) := of_decide_eq_true (by first | (with_reducible assumption) | assumption)
                  have q152 : x9_2 < (l1.length : Int) := of_decide_eq_true (by first | (with_reducible assumption) | assumption)
                  obtain ⟨ad152, A152_1, c152_1, e152, hx152_0, hx152_1, hl152_1, hi152_1⟩ := at_T25 HR1.out x9_2 p152 q152
                  cases e152
                  replace hx152_0 := (HB.out.cell (World.block_lt_of_cell? w _ hx152_0)).trans hx152_0
                  replace hx152_1 := (HB.out.cell (World.block_lt_of_cell? w _ hx152_1)).trans hx152_1
                  have HR152_1 := Aside0.mk hi152_1
                  have HC152_1 := Aside0.mk hl152_1
                  clear hi152_1 hl152_1
                  replace p152 := eq_true p152
                  replace q152 := eq_true q152
                  go_wp2
                  go_ret
                  exact ⟨by first | rfl | (simp [errW_none, errW_some] <;> rfl) | (simp [*, errW_none, errW_some] <;> rfl), by repeat (first | (with_reducible first | exact HB.out | apply below_alloc | apply pw_below_drewN | apply below_drew1) | exact HB.out)⟩
                · rw [if_neg c14] at H
                  have c14b0 : decide (((rd_T25 l1 x9_2).f0) < (-1099511627776)) = false := decide_eq_false c14
                  clear c14
                  by_cases c15 : ((rd_T25 l1 x9_2).f0) > 1099511627776
                  · rw [if_pos c15] at H
                    have c15b0 : decide (1099511627776 < ((rd_T25 l1 x9_2).f0)) = true := decide_eq_true c15
                    clear c15
                    obtain rfl := Option.some.inj H
                    simp only [Option.some.injEq, Prod.mk.injEq] at H
                    obtain ⟨rfl⟩ := H
                    have p152 : 0 ≤ (x9_2 : Int) := of_decide_eq_true (by first | (with_reducible assumption) | assumption)
                    have q152 : x9_2 < (l1.length : Int) := of_decide_eq_true (by first | (with_reducible assumption) | assumption)
                    obtain ⟨ad152, A152_1, c152_1, e152, hx152_0, hx152_1, hl152_1, hi152_1⟩ := at_T25 HR1.out x9_2 p152 q152
                    cases e152
                    replace hx152_0 := (HB.out.cell (World.block_lt_of_cell? w _ hx152_0)).trans hx152_0
                    replace hx152_1 := (HB.out.cell (World.block_lt_of_cell? w _ hx152_1)).trans hx152_1
                    have HR152_1 := Aside0.mk hi152_1
                    have HC152_1 := Aside0.mk hl152_1
                    clear hi152_1 hl152_1
                    replace p152 := eq_true p152
                    replace q152 := eq_true q152
                    have p153 : 0 ≤ (x9_2 : Int) := of_decide_eq_true (by first | (with_reducible assumption) | assumption)
                    have q153 : x9_2 < (l1.length : Int) := of_decide_eq_true (by first | (with_reducible assumption) | assumption)
                    obtain ⟨ad153, A153_1, c153_1, e153, hx153_0, hx153_1, hl153_1, hi153_1⟩ := at_T25 HR1.out x9_2 p153 q153
                    obtain rfl : ad152 = ad153 := (by injection e153)
                    replace hx153_0 := (HB.out.cell (World.block_lt_of_cell? w _ hx153_0)).trans hx153_0
                    replace hx153_1 := (HB.out.cell (World.block_lt_of_cell? w _ hx153_1)).trans hx153_1
                    have HR153_1 := Aside0.mk hi153_1
                    have HC153_1 := Aside0.mk hl153_1
                    clear hi153_1 hl153_1
                    replace p153 := eq_true p153
                    replace q153 := eq_true q153
                    have ea_ := Option.some.inj (hx152_1.symm.trans hx153_1)
                    injection ea_ with ea_ en_ ec_
                    subst ea_
                    subst ec_
                    clear en_
                    go_wp2
                    go_ret
                    exact ⟨by first | rfl | (simp [errW_none, errW_some] <;> rfl) | (simp [*, errW_none, errW_some] <;> rfl), by repeat (first | (with_reducible first | exact HB.out | apply below_alloc | apply pw_below_drewN | apply below_drew1) | exact HB.out)⟩
                  · rw [if_neg c15] at H
                    have c15b0 : decide (1099511627776 < ((rd_T25 l1 x9_2).f0)) = false := decide_eq_false c15
                    clear c15
                    have H' := Aside0.mk H
                    clear H
                    have p152 : 0 ≤ (x9_2 : Int) := of_decide_eq_true (by first | (with_reducible assumption) | assumption)
                    have q152 : x9_2 < (l1.length : Int) := of_decide_eq_true (by first | (with_reducible assumption) | assumption)
                    obtain ⟨ad152, A152_1, c152_1, e152, hx152_0, hx152_1, hl152_1, hi152_1⟩ := at_T25 HR1.out x9_2 p152 q152
                    cases e152
                    replace hx152_0 := (HB.out.cell (World.block_lt_of_cell? w _ hx152_0)).trans hx152_0
                    replace hx152_1 := (HB.out.cell (World.block_lt_of_cell? w _ hx152_1)).trans hx152_1
                    have HR152_1 := Aside0.mk hi152_1
                    have HC152_1 := Aside0.mk hl152_1
                    clear hi152_1 hl152_1
                    replace p152 := eq_true p152
                    replace q152 := eq_true q152
                    have p153 : 0 ≤ (x9_2 : Int) := of_decide_eq_true (by first | (with_reducible assumption) | assumption)
                    have q153 : x9_2 < (l1.length : Int) := of_decide_eq_true (by first | (with_reducible assumption) | assumption)
                    obtain ⟨ad153, A153_1, c153_1, e153, hx153_0, hx153_1, hl153_1, hi153_1⟩ := at_T25 HR1.out x9_2 p153 q153
                    obtain rfl : ad152 = ad153 := (by injection e153)
                    replace hx153_0 := (HB.out.cell (World.block_lt_of_cell? w _ hx153_0)).trans hx153_0
                    replace hx153_1 := (HB.out.cell (World.block_lt_of_cell? w _ hx153_1)).trans hx153_1
                    have HR153_1 := Aside0.mk hi153_1
                    have HC153_1 := Aside0.mk hl153_1
                    clear hi153_1 hl153_1
                    replace p153 := eq_true p153
                    replace q153 := eq_true q153
                    have ea_ := Option.some.inj (hx152_1.symm.trans hx153_1)
                    injection ea_ with ea_ en_ ec_
                    subst ea_
                    subst ec_
                    clear en_
                    go_wp2
                    go_roundg k2
                    case measure => have := HJ5.out; have := HK2.out; omega
                    case rel => exact ⟨(wrap64 (x9_2 + 1)), (by first | rfl | (simp; done) | (simp [*]; done)), (by first | exact H' | (subst_vars; exact H')), ⟨by have := HJ5.out; have := HK2.out; omega⟩, ⟨by repeat (first | (with_reducible first | exact HB.out | apply below_alloc | apply pw_below_drewN | apply below_drew1) | exact HB.out)⟩⟩
              · rw [if_neg c13] at H
                exact absurd H (by simp)
            · rw [if_neg c12] at H
              have c12b0 : decide (x9_2 < (l1.length : Int)) = false := decide_eq_false c12
              clear c12
              by_cases c16 : t150 = true
              · subst c16
                have H1 : ((undo_Back.f l0 l1).bind fun t154 => ((lockfastref13_Back.f k2 l0 l1).bind fun t157 => ((lockfastref01_Words.f k2 t154 t157).bind fun t160 => (if t160 = true then ((undo_Within.f l1 a2).bind fun t161 => ((lockfastref13_Within.f k2 l1 a2).bind fun t162 => (some (t161 == t162)))) else (some false))))) = some r := by rw [if_pos rfl] at H; exact H
                clear H
                have H := H1
                clear H1
                replace H := Option.bind_eq_some_iff.mp H
                obtain ⟨t154, A170, H⟩ := H
                replace H : ((lockfastref13_Back.f k2 l0 l1).bind fun t157 => ((lockfastref01_Words.f k2 t154 t157).bind fun t160 => (if t160 = true then ((undo_Within.f l1 a2).bind fun t161 => ((lockfastref13_Within.f k2 l1 a2).bind fun t162 => (some (t161 == t162)))) else (some false)))) = some r := H
                have A17 := Aside0.mk A170
                clear A170
                replace H := Option.bind_eq_some_iff.mp H
                obtain ⟨t157, A180, H⟩ := H
                replace H : ((lockfastref01_Words.f k2 t154 t157).bind fun t160 => (if t160 = true then ((undo_Within.f l1 a2).bind fun t161 => ((lockfastref13_Within.f k2 l1 a2).bind fun t162 => (some (t161 == t162)))) else (some false))) = some r := H
                have A18 := Aside0.mk A180
                clear A180
                replace H := Option.bind_eq_some_iff.mp H
                obtain ⟨t160, A190, H⟩ := H
                replace H : (if t160 = true then ((undo_Within.f l1 a2).bind fun t161 => ((lockfastref13_Within.f k2 l1 a2).bind fun t162 => (some (t161 == t162)))) else (some false)) = some r := H
                have A19 := Aside0.mk A190
                clear A190
                by_cases c20 : t160 = true
                · subst c20
                  have H1 : ((undo_Within.f l1 a2).bind fun t161 => ((lockfastref13_Within.f k2 l1 a2).bind fun t162 => (some (t161 == t162)))) = some r := by rw [if_pos rfl] at H; exact H
                  clear H
                  have H := H1
                  clear H1
                  replace H := Option.bind_eq_some_iff.mp H
                  obtain ⟨t161, A210, H⟩ := H
                  replace H : ((lockfastref13_Within.f k2 l1 a2).bind fun t162 => (some (t161 == t162))) = some r := H
                  have A21 := Aside0.mk A210
                  clear A210
                  replace H := Option.bind_eq_some_iff.mp H
                  obtain ⟨t162, A220, H⟩ := H
                  replace H : (some (t161 == t162)) = some r := H
                  have A22 := Aside0.mk A220
                  clear A220
                  obtain rfl := Option.some.inj H
                  simp only [Option.some.injEq, Prod.mk.injEq] at H
                  obtain ⟨rfl⟩ := H
                  go_wp2_with (first | (go_at_call 20; (with_reducible refine (undo_Back.calls _ _ l0 _ _ l1 t154 _ ?side1 ?side2 ?side3 ?side4 A17.out).mono ?_); (case side1 => repeat (first | exact (Kd.C_below HR0.out HB.out) | (with_reducible refine Kd.C_alloc ?_ _) | (with_reducible refine Kd.C_drewN ?_ _) | (with_reducible refine Kd.C_drew ?_))); (case side2 => exact HC0.out); (case side3 => repeat (first | exact (Kd.C_below HR1.out HB.out) | (with_reducible refine Kd.C_alloc ?_ _) | (with_reducible refine Kd.C_drewN ?_ _) | (with_reducible refine Kd.C_drew ?_))); (case side4 => exact HC1.out); rintro e w23 ⟨v155, rfl, ho0, hb⟩; have n0_ := Aside0.mk (Kd.R_lower ho0 (below_size (by repeat (first | (with_reducible first | exact HB.out | apply below_alloc | apply pw_below_drewN | apply below_drew1) | exact HB.out)))); have n1_ := Aside0.mk (below_step (by repeat (first | (with_reducible first | exact HB.out | apply below_alloc | apply pw_below_drewN | apply below_drew1) | exact HB.out)) hb); clear HB; have HO156 := n0_; have HB := n1_; clear n0_ n1_; (try clear hb); (try clear hb2); (try clear hk); (try clear hi); (try clear ho0)) | (go_at_call 21; (with_reducible refine (lockfastref13_Back.calls k2 _ _ l0 _ _ l1 t157 _ ?side1 ?side2 ?side3 ?side4 A18.out).mono ?_); (case side1 => repeat (first | exact (Kd.C_below HR0.out HB.out) | (with_reducible refine Kd.C_alloc ?_ _) | (with_reducible refine Kd.C_drewN ?_ _) | (with_reducible refine Kd.C_drew ?_))); (case side2 => exact HC0.out); (case side3 => repeat (first | exact (Kd.C_below HR1.out HB.out) | (with_reducible refine Kd.C_alloc ?_ _) | (with_reducible refine Kd.C_drewN ?_ _) | (with_reducible refine Kd.C_drew ?_))); (case side4 => exact HC1.out); rintro e w24 ⟨v158, rfl, ho0, hb⟩; have n0_ := Aside0.mk (Kd.R_elder' (by (with_reducible repeat (first | apply Kd.R_alloc | apply Kd.R_drewN | apply Kd.R_drew)); exact HO156.out) (Kd.R_base ho0) hb); have n1_ := Aside0.mk (Kd.R_lower (Kd.R_new' ho0 (Kd.R_lt (by (with_reducible repeat (first | apply Kd.R_alloc | apply Kd.R_drewN | apply Kd.R_drew)); exact HO156.out))) (below_size (by repeat (first | (with_reducible first | exact HB.out | apply below_alloc | apply pw_below_drewN | apply below_drew1) | exact HB.out)))); have n2_ := Aside0.mk (below_step (by repeat (first | (with_reducible first | exact HB.out | apply below_alloc | apply pw_below_drewN | apply below_drew1) | exact HB.out)) hb); clear HO156; clear HB; have HO156 := n0_; have HO159 := n1_; have HB := n2_; clear n0_ n1_ n2_; (try clear hb); (try clear hb2); (try clear hk); (try clear hi); (try clear ho0); obtain ⟨Ao25, co25, eo25⟩ := Kd.R_slice HO156.out; subst eo25; obtain ⟨Ao26, co26, eo26⟩ := Kd.R_slice HO159.out; subst eo26) | (go_at_call 13; (with_reducible refine (lockfastref01_Words.calls k2 _ _ t154 _ _ t157 true _ ?side1 ?side2 ?side3 ?side4 A19.out).mono ?_); (case side1 => repeat (first | exact (Kd.R_reads' HO156.out).2.2 | (with_reducible refine Kd.C_alloc ?_ _) | (with_reducible refine Kd.C_drewN ?_ _) | (with_reducible refine Kd.C_drew ?_))); (case side2 => exact (Kd.R_reads' HO156.out).2.1); (case side3 => repeat (first | exact (Kd.R_reads' HO159.out).2.2 | (with_reducible refine Kd.C_alloc ?_ _) | (with_reducible refine Kd.C_drewN ?_ _) | (with_reducible refine Kd.C_drew ?_))); (case side4 => exact (Kd.R_reads' HO159.out).2.1); rintro e w' ⟨rfl, ⟨nd, rfl⟩⟩) | (go_at_call 22; (with_reducible refine (undo_Within.calls _ _ l1 a2 t161 _ ?side1 ?side2 A21.out).mono ?_); (case side1 => repeat (first | exact (Kd.C_below HR1.out (by repeat (first | (with_reducible first | exact HB.out | apply below_alloc | apply pw_below_drewN | apply below_drew1) | exact HB.out))) | (with_reducible refine Kd.C_alloc ?_ _) | (with_reducible refine Kd.C_drewN ?_ _) | (with_reducible refine Kd.C_drew ?_))); (case side2 => exact HC1.out); rintro e w27 ⟨rfl, hb⟩; have n0_ := Aside0.mk (Kd.R_below (by (with_reducible repeat (first | apply Kd.R_alloc | apply Kd.R_drewN | apply Kd.R_drew)); exact HO156.out) hb); have n1_ := Aside0.mk (Kd.R_below (by (with_reducible repeat (first | apply Kd.R_alloc | apply Kd.R_drewN | apply Kd.R_drew)); exact HO159.out) hb); have n2_ := Aside0.mk (below_step (by repeat (first | (with_reducible first | exact HB.out | apply below_alloc | apply pw_below_drewN | apply below_drew1) | exact HB.out)) hb); clear HO156; clear HO159; clear HB; have HO156 := n0_; have HO159 := n1_; have HB := n2_; clear n0_ n1_ n2_; (try clear hb); (try clear hb2); (try clear hk); (try clear hi)) | (go_at_call 23; (with_reducible refine (lockfastref13_Within.calls k2 _ _ l1 a2 t162 _ ?side1 ?side2 A22.out).mono ?_); (case side1 => repeat (first | exact (Kd.C_below HR1.out HB.out) | (with_reducible refine Kd.C_alloc ?_ _) | (with_reducible refine Kd.C_drewN ?_ _) | (with_reducible refine Kd.C_drew ?_))); (case side2 => exact HC1.out); rintro e w' ⟨rfl, ⟨nd, rfl⟩⟩))
                  go_ret
                  exact ⟨by first | rfl | (simp [errW_none, errW_some] <;> rfl) | (simp [*, errW_none, errW_some] <;> rfl), by repeat (first | (with_reducible first | exact HB.out | apply below_alloc | apply pw_below_drewN | apply below_drew1) | exact HB.out)⟩
                · replace c20 := Bool.eq_false_iff.mpr c20
                  subst c20
                  have H1 : (some false) = some r := by rw [if_neg (show ¬ (false = true) by decide)] at H; exact H
                  clear H
                  have H := H1
                  clear H1
                  obtain rfl := Option.some.inj H
                  exact absurd HRT.out (by decide)
              · replace c16 := Bool.eq_false_iff.mpr c16
                subst c16
                have H1 : (some false) = some r := by rw [if_neg (show ¬ (false = true) by decide)] at H; exact H
                clear H
                have H := H1
                clear H1
                obtain rfl := Option.some.inj H
                exact absurd HRT.out (by decide)

/-- The one pure statement of lockfastlaw13_UndoBacks. -/
def lockfastlaw13_UndoBacks.Pure : Prop := ∀ (l0 : List Int) (l1 : List (S25)) (a2 : Int), l0.length ≤ maxLen → l0.length * 8 ≤ 140737488351232 → (∀ x ∈ l0, (Lit.int .u64 x).wf = true) → l1.length ≤ maxLen → (∀ x ∈ l1, (Lit.int .i64 x.f0).wf = true ∧ ∀ z ∈ x.f1, (Lit.int .u64 z).wf = true) → (Lit.int .i64 a2).wf = true → ∃ k, lockfastlaw13_UndoBacks.f k l0 l1 a2 = some true

end Go.Proofs.Ytinbediigibolaa.PUndoBacks
