-- WRITTEN FOR THIS CLAIM by given.py, a program of this session's: the kit's printer, run with contracts of the session's own. It is not a text of print.sh's.
import Derived.Test.YtajdfbopddcliaaPFieldTellsx0
import Derived.Test.YtajdfbopddcliaaPFieldTellsx1
namespace Go.Proofs.Ytajdfbopddcliaa.PFieldTells
open Go.RowKit Go.Proofs.YtajdfbopddcliaaW.PrintWords Go.Proofs.YtajdfbopddcliaaW.PrintLast Go.Proofs.YtajdfbopddcliaaW.PrintMore
attribute [local go_sem] max2_int min2_int max_two min_two max_three min_three max_four min_four   -- for this text's walks alone
set_option linter.unusedVariables false
set_option linter.unusedSimpArgs false
open Go.Proofs.YtajdfbopddcliaaX

/-! ### lockfastref01_Put: function 32 -/
mutual
def lockfastref01_Put.l0 : Nat → Int → Int → Int → Int → Bool → Int → Int → Option (Int)
  | 0, _, _, _, _, _, _, _ => none
  | k + 1, x0, x1, x2, x3, x9, x10, x11 => if x11 < 64 then ((lockfastref01_Bit.f k x0 x11).bind fun t119 => (if x9 = true then (if x11 ≥ x1 then (lockfastref01_Put.j1 k x0 x1 x2 x3 x9 x10 x11 t119 (decide (x11 < (wrap64 (x1 + x2))))) else (lockfastref01_Put.j1 k x0 x1 x2 x3 x9 x10 x11 t119 false)) else (lockfastref01_Put.j1 k x0 x1 x2 x3 x9 x10 x11 t119 false))) else (some x10)
def lockfastref01_Put.j1 : Nat → Int → Int → Int → Int → Bool → Int → Int → Bool → Bool → Option (Int)
  | 0, _, _, _, _, _, _, _, _, _ => none
  | k + 1, x0, x1, x2, x3, x9, x10, x11, x12, x35 => if x35 = true then ((lockfastref01_Bit.f k x3 (wrap64 (x11 - x1))).bind fun t120 => (if t120 = true then ((lockfastref01_power.f k x11).bind fun t121 => (lockfastref01_Put.l0 k x0 x1 x2 x3 x9 (IntKind.u64.wrap (x10 + t121)) (wrap64 (x11 + 1)))) else (lockfastref01_Put.l0 k x0 x1 x2 x3 x9 x10 (wrap64 (x11 + 1))))) else (if x12 = true then ((lockfastref01_power.f k x11).bind fun t122 => (lockfastref01_Put.l0 k x0 x1 x2 x3 x9 (IntKind.u64.wrap (x10 + t122)) (wrap64 (x11 + 1)))) else (lockfastref01_Put.l0 k x0 x1 x2 x3 x9 x10 (wrap64 (x11 + 1))))
end
def lockfastref01_Put.f (k : Nat) (a0 : Int) (a1 : Int) (a2 : Int) (a3 : Int) : Option (Int) := (lockfastref01_Fits.f a1 a2).bind fun t118 => (lockfastref01_Put.l0 k a0 a1 a2 a3 t118 0 0)
theorem lockfastref01_Put.mono_l : ∀ k, (∀ y0 y1 y2 y3 y4 y5 y6, LeO (lockfastref01_Put.l0 k y0 y1 y2 y3 y4 y5 y6) (lockfastref01_Put.l0 (k + 1) y0 y1 y2 y3 y4 y5 y6)) ∧ (∀ y0 y1 y2 y3 y4 y5 y6 y7 y8, LeO (lockfastref01_Put.j1 k y0 y1 y2 y3 y4 y5 y6 y7 y8) (lockfastref01_Put.j1 (k + 1) y0 y1 y2 y3 y4 y5 y6 y7 y8))
  | 0 => ⟨fun _ _ _ _ _ _ _ r h => by simp [lockfastref01_Put.l0] at h, fun _ _ _ _ _ _ _ _ _ r h => by simp [lockfastref01_Put.j1] at h⟩
  | k + 1 => by
    obtain ⟨ih0, ih1⟩ := lockfastref01_Put.mono_l k
    refine ⟨?_, ?_⟩
    · intro y0 y1 y2 y3 y4 y5 y6
      unfold lockfastref01_Put.l0
      repeat' first
      | (with_reducible exact ih0 _ _ _ _ _ _ _)
      | (with_reducible exact ih1 _ _ _ _ _ _ _ _ _)
      | (with_reducible exact lockfastref01_Bit.mono _ _ _)
      | (with_reducible exact lockfastref01_power.mono _ _)
      | (with_reducible exact LeO.refl _)
      | (with_reducible exact LeO.none _)
      | (with_reducible refine LeO.ite ?_ ?_)
      | (with_reducible refine LeO.bind ?_ (fun _ => ?_))
      | exact ih0 _ _ _ _ _ _ _
      | exact ih1 _ _ _ _ _ _ _ _ _
      | exact lockfastref01_Bit.mono _ _ _
      | exact lockfastref01_power.mono _ _
      | exact LeO.none _
      | refine LeO.ite ?_ ?_
      | refine LeO.bind ?_ (fun _ => ?_)
    · intro y0 y1 y2 y3 y4 y5 y6 y7 y8
      unfold lockfastref01_Put.j1
      repeat' first
      | (with_reducible exact ih0 _ _ _ _ _ _ _)
      | (with_reducible exact ih1 _ _ _ _ _ _ _ _ _)
      | (with_reducible exact lockfastref01_Bit.mono _ _ _)
      | (with_reducible exact lockfastref01_power.mono _ _)
      | (with_reducible exact LeO.refl _)
      | (with_reducible exact LeO.none _)
      | (with_reducible refine LeO.ite ?_ ?_)
      | (with_reducible refine LeO.bind ?_ (fun _ => ?_))
      | exact ih0 _ _ _ _ _ _ _
      | exact ih1 _ _ _ _ _ _ _ _ _
      | exact lockfastref01_Bit.mono _ _ _
      | exact lockfastref01_power.mono _ _
      | exact LeO.none _
      | refine LeO.ite ?_ ?_
      | refine LeO.bind ?_ (fun _ => ?_)
theorem lockfastref01_Put.mono : ∀ a0 a1 a2 a3 k, LeO (lockfastref01_Put.f k a0 a1 a2 a3) (lockfastref01_Put.f (k + 1) a0 a1 a2 a3) := by
  intro a0 a1 a2 a3 k
  obtain ⟨ih0, ih1⟩ := lockfastref01_Put.mono_l k
  unfold lockfastref01_Put.f
  repeat' first
      | (with_reducible exact ih0 _ _ _ _ _ _ _)
      | (with_reducible exact ih1 _ _ _ _ _ _ _ _ _)
      | (with_reducible exact lockfastref01_Bit.mono _ _ _)
      | (with_reducible exact lockfastref01_power.mono _ _)
      | (with_reducible exact LeO.refl _)
      | (with_reducible exact LeO.none _)
      | (with_reducible refine LeO.ite ?_ ?_)
      | (with_reducible refine LeO.bind ?_ (fun _ => ?_))
      | exact ih0 _ _ _ _ _ _ _
      | exact ih1 _ _ _ _ _ _ _ _ _
      | exact lockfastref01_Bit.mono _ _ _
      | exact lockfastref01_power.mono _ _
      | exact LeO.none _
      | refine LeO.ite ?_ ?_
      | refine LeO.bind ?_ (fun _ => ?_)
set_option maxHeartbeats 8000000 in
set_option maxRecDepth 100000 in
theorem lockfastref01_Put.calls (k : Nat) (a0 : Int) (a1 : Int) (a2 : Int) (a3 : Int) (r : Int) (w : World) (h : lockfastref01_Put.f k a0 a1 a2 a3 = some r) :
    Calls Try.prog 32 #[.int .u64 a0, .int .i64 a1, .int .i64 a2, .int .u64 a3] w fun e w' => e = .returned (.int .u64 r) ∧ Drawn0 w w' := by
  have H : ((lockfastref01_Fits.f a1 a2).bind fun t118 => (lockfastref01_Put.l0 k a0 a1 a2 a3 t118 0 0)) = some r := h
  clear h
  replace H := Option.bind_eq_some_iff.mp H
  obtain ⟨t118, A50, H⟩ := H
  replace H : (lockfastref01_Put.l0 k a0 a1 a2 a3 t118 0 0) = some r := H
  have A5 := Aside0.mk A50
  clear A50
  have H' := Aside0.mk H
  clear H
  go_enter Try.func32, Try.ntmps32
  go_wp2_with (first | ((with_reducible refine gate_callee (f := 28) rfl ?_); refine goesL_ (some 15) rfl rfl Try.func28 (by kernel_rfl) rfl #[.int .i64 a1, .int .i64 a2] rfl (by (try simp only [List.map_toArray, List.map_cons, List.map_nil]); first | done | rfl | (simp only [List.length_drop, List.length_take]; rfl)) ?_; (with_reducible refine (lockfastref01_Fits.calls a1 a2 t118 _ A5.out).mono ?_); rintro e w' ⟨rfl, ⟨nd, rfl⟩⟩; refine ⟨_, rfl, ?_⟩))
  go_loopg [10, 11] k (fun kq v10 v11 w' => ∃ (x10_1 : Int) (x11_1 : Int), v10 = .int .u64 x10_1 ∧ v11 = .int .i64 x11_1 ∧ Aside0 (lockfastref01_Put.l0 kq a0 a1 a2 a3 t118 x10_1 x11_1 = some r) ∧ Aside0 (kq ≤ k) ∧ Drawn0 w w')
  case atStart => exact ⟨(0), (0), (by first | rfl | (simp; done) | (simp [*]; done)), (by first | rfl | (simp; done) | (simp [*]; done)), H', ⟨Nat.le_refl _⟩, by repeat (first | exact Drawn0.refl _ | apply Drawn0.step)⟩
  case round =>
    clear H'
    try clear c2
    try clear p2
    try clear c3
    obtain ⟨x10_1, x11_1, rfl, rfl, HA, HK1, ⟨m1, rfl⟩⟩ := hrel
    cases gk with
    | zero => exact absurd HA.out (by simp [lockfastref01_Put.l0])
    | succ k1 =>
      have H := HA.out
      clear HA
      simp only [lockfastref01_Put.l0] at H
      by_cases c6 : x11_1 < 64
      · rw [if_pos c6] at H
        have c6b0 : decide (x11_1 < 64) = true := decide_eq_true c6
        clear c6
        replace H := Option.bind_eq_some_iff.mp H
        obtain ⟨t119, A70, H⟩ := H
        replace H : (if t118 = true then (if x11_1 ≥ a1 then (lockfastref01_Put.j1 k1 a0 a1 a2 a3 t118 x10_1 x11_1 t119 (decide (x11_1 < (wrap64 (a1 + a2))))) else (lockfastref01_Put.j1 k1 a0 a1 a2 a3 t118 x10_1 x11_1 t119 false)) else (lockfastref01_Put.j1 k1 a0 a1 a2 a3 t118 x10_1 x11_1 t119 false)) = some r := H
        have A7 := Aside0.mk A70
        clear A70
        have HC8 := Aside0.mk H
        clear H
        go_upto_region 7 with (first | ((with_reducible refine gate_callee (f := 42) rfl ?_); refine goesL_ (some 22) rfl rfl Try.func42 (by kernel_rfl) rfl #[.int .u64 a0, .int .i64 x11_1] rfl (by (try simp only [List.map_toArray, List.map_cons, List.map_nil]); first | done | rfl | (simp only [List.length_drop, List.length_take]; rfl)) ?_; (with_reducible refine (lockfastref01_Bit.calls k1 a0 x11_1 t119 _ A7.out).mono ?_); rintro e w' ⟨rfl, ⟨nd, rfl⟩⟩; refine ⟨_, rfl, ?_⟩))
        (try simp only [Act.put, List.setIfInBounds_toArray, List.set_cons_zero, List.set_cons_succ])
        go_cut [35] (fun v35 wc => ∃ (kq : Nat) (x35_7 : Bool), v35 = .bool x35_7 ∧ Aside0 (lockfastref01_Put.j1 kq a0 a1 a2 a3 t118 x10_1 x11_1 t119 x35_7 = some r) ∧ Aside0 (kq ≤ k1) ∧ Drawn0 w wc)
        case first =>
          have H := HC8.out
          clear HC8
          by_cases c9 : t118 = true
          · subst c9
            have H1 : (if x11_1 ≥ a1 then (lockfastref01_Put.j1 k1 a0 a1 a2 a3 true x10_1 x11_1 t119 (decide (x11_1 < (wrap64 (a1 + a2))))) else (lockfastref01_Put.j1 k1 a0 a1 a2 a3 true x10_1 x11_1 t119 false)) = some r := by rw [if_pos rfl] at H; exact H
            clear H
            have H := H1
            clear H1
            by_cases c10 : x11_1 ≥ a1
            · rw [if_pos c10] at H
              have c10b0 : decide (a1 ≤ x11_1) = true := decide_eq_true c10
              clear c10
              (first | rw [c10b0] | (simp only [i64_w, i32_w]; rw [c10b0]) | skip)
              have H' := Aside0.mk H
              clear H
              go_wp2
              go_meet
              case rel => exact ⟨_, (decide (x11_1 < (wrap64 (a1 + a2)))), (by first | rfl | (simp; done) | (simp [*]; done)), H', ⟨by have := HK1.out; first | omega | exact Nat.le_refl _⟩, by repeat (first | exact Drawn0.refl _ | apply Drawn0.step)⟩
            · rw [if_neg c10] at H
              have c10b0 : decide (a1 ≤ x11_1) = false := decide_eq_false c10
              clear c10
              (first | rw [c10b0] | (simp only [i64_w, i32_w]; rw [c10b0]) | skip)
              have H' := Aside0.mk H
              clear H
              go_wp2
              go_meet
              case rel => exact ⟨_, (false), (by first | rfl | (simp; done) | (simp [*]; done)), H', ⟨by have := HK1.out; first | omega | exact Nat.le_refl _⟩, by repeat (first | exact Drawn0.refl _ | apply Drawn0.step)⟩
          · replace c9 := Bool.eq_false_iff.mpr c9
            subst c9
            have H1 : (lockfastref01_Put.j1 k1 a0 a1 a2 a3 false x10_1 x11_1 t119 false) = some r := by rw [if_neg (show ¬ (false = true) by decide)] at H; exact H
            clear H
            have H := H1
            clear H1
            have H' := Aside0.mk H
            clear H
            go_wp2
            go_meet
            case rel => exact ⟨_, (false), (by first | rfl | (simp; done) | (simp [*]; done)), H', ⟨by have := HK1.out; first | omega | exact Nat.le_refl _⟩, by repeat (first | exact Drawn0.refl _ | apply Drawn0.step)⟩
        case rest =>
          clear HC8
          try clear c1
          try clear c2
          try clear p2
          try clear c3
          try clear c4
          try clear c6
          try clear c6b0
          try clear p6
          try clear c9
          try clear c10
          try clear c10b0
          try clear p2
          obtain ⟨kq, x35_7, rfl, HA, HJ7, ⟨mc7, rfl⟩⟩ := hcut
          cases kq with
          | zero => exact absurd HA.out (by simp [lockfastref01_Put.j1])
          | succ kj7 =>
            have H := HA.out
            clear HA
            simp only [lockfastref01_Put.j1] at H
            by_cases c11 : x35_7 = true
            · subst c11
              have H1 : ((lockfastref01_Bit.f kj7 a3 (wrap64 (x11_1 - a1))).bind fun t120 => (if t120 = true then ((lockfastref01_power.f kj7 x11_1).bind fun t121 => (lockfastref01_Put.l0 kj7 a0 a1 a2 a3 t118 (IntKind.u64.wrap (x10_1 + t121)) (wrap64 (x11_1 + 1)))) else (lockfastref01_Put.l0 kj7 a0 a1 a2 a3 t118 x10_1 (wrap64 (x11_1 + 1))))) = some r := by rw [if_pos rfl] at H; exact H
              clear H
              have H := H1
              clear H1
              replace H := Option.bind_eq_some_iff.mp H
              obtain ⟨t120, A120, H⟩ := H
              replace H : (if t120 = true then ((lockfastref01_power.f kj7 x11_1).bind fun t121 => (lockfastref01_Put.l0 kj7 a0 a1 a2 a3 t118 (IntKind.u64.wrap (x10_1 + t121)) (wrap64 (x11_1 + 1)))) else (lockfastref01_Put.l0 kj7 a0 a1 a2 a3 t118 x10_1 (wrap64 (x11_1 + 1)))) = some r := H
              have A12 := Aside0.mk A120
              clear A120
              by_cases c13 : t120 = true
              · subst c13
                have H1 : ((lockfastref01_power.f kj7 x11_1).bind fun t121 => (lockfastref01_Put.l0 kj7 a0 a1 a2 a3 t118 (IntKind.u64.wrap (x10_1 + t121)) (wrap64 (x11_1 + 1)))) = some r := by rw [if_pos rfl] at H; exact H
                clear H
                have H := H1
                clear H1
                replace H := Option.bind_eq_some_iff.mp H
                obtain ⟨t121, A140, H⟩ := H
                replace H : (lockfastref01_Put.l0 kj7 a0 a1 a2 a3 t118 (IntKind.u64.wrap (x10_1 + t121)) (wrap64 (x11_1 + 1))) = some r := H
                have A14 := Aside0.mk A140
                clear A140
                have H' := Aside0.mk H
                clear H
                go_wp2_with (first | ((with_reducible refine gate_callee (f := 42) rfl ?_); refine goesL_ (some 40) rfl rfl Try.func42 (by kernel_rfl) rfl #[.int .u64 a3, .int .i64 (wrap64 (x11_1 - a1))] rfl (by (try simp only [List.map_toArray, List.map_cons, List.map_nil]); first | done | rfl | (simp only [List.length_drop, List.length_take]; rfl)) ?_; (with_reducible refine (lockfastref01_Bit.calls kj7 a3 (wrap64 (x11_1 - a1)) true _ A12.out).mono ?_); rintro e w' ⟨rfl, ⟨nd, rfl⟩⟩; refine ⟨_, rfl, ?_⟩) | ((with_reducible refine gate_callee (f := 43) rfl ?_); refine goesL_ (some 44) rfl rfl Try.func43 (by kernel_rfl) rfl #[.int .i64 x11_1] rfl (by (try simp only [List.map_toArray, List.map_cons, List.map_nil]); first | done | rfl | (simp only [List.length_drop, List.length_take]; rfl)) ?_; (with_reducible refine (lockfastref01_power.calls kj7 x11_1 t121 _ A14.out).mono ?_); rintro e w' ⟨rfl, ⟨nd, rfl⟩⟩; refine ⟨_, rfl, ?_⟩))
                go_roundg kj7
                case measure => have := HK1.out; have := HJ7.out; omega
                case rel => exact ⟨(IntKind.u64.wrap (x10_1 + t121)), (wrap64 (x11_1 + 1)), (by first | rfl | (simp; done) | (simp [*]; done)), (by first | rfl | (simp; done) | (simp [*]; done)), H', ⟨by have := HK1.out; have := HJ7.out; omega⟩, by repeat (first | exact Drawn0.refl _ | apply Drawn0.step)⟩
              · replace c13 := Bool.eq_false_iff.mpr c13
                subst c13
                have H1 : (lockfastref01_Put.l0 kj7 a0 a1 a2 a3 t118 x10_1 (wrap64 (x11_1 + 1))) = some r := by rw [if_neg (show ¬ (false = true) by decide)] at H; exact H
                clear H
                have H := H1
                clear H1
                have H' := Aside0.mk H
                clear H
                go_wp2_with (first | ((with_reducible refine gate_callee (f := 42) rfl ?_); refine goesL_ (some 40) rfl rfl Try.func42 (by kernel_rfl) rfl #[.int .u64 a3, .int .i64 (wrap64 (x11_1 - a1))] rfl (by (try simp only [List.map_toArray, List.map_cons, List.map_nil]); first | done | rfl | (simp only [List.length_drop, List.length_take]; rfl)) ?_; (with_reducible refine (lockfastref01_Bit.calls kj7 a3 (wrap64 (x11_1 - a1)) false _ A12.out).mono ?_); rintro e w' ⟨rfl, ⟨nd, rfl⟩⟩; refine ⟨_, rfl, ?_⟩))
                go_roundg kj7
                case measure => have := HK1.out; have := HJ7.out; omega
                case rel => exact ⟨(x10_1), (wrap64 (x11_1 + 1)), (by first | rfl | (simp; done) | (simp [*]; done)), (by first | rfl | (simp; done) | (simp [*]; done)), H', ⟨by have := HK1.out; have := HJ7.out; omega⟩, by repeat (first | exact Drawn0.refl _ | apply Drawn0.step)⟩
            · replace c11 := Bool.eq_false_iff.mpr c11
              subst c11
              have H1 : (if t119 = true then ((lockfastref01_power.f kj7 x11_1).bind fun t122 => (lockfastref01_Put.l0 kj7 a0 a1 a2 a3 t118 (IntKind.u64.wrap (x10_1 + t122)) (wrap64 (x11_1 + 1)))) else (lockfastref01_Put.l0 kj7 a0 a1 a2 a3 t118 x10_1 (wrap64 (x11_1 + 1)))) = some r := by rw [if_neg (show ¬ (false = true) by decide)] at H; exact H
              clear H
              have H := H1
              clear H1
              by_cases c15 : t119 = true
              · subst c15
                have H1 : ((lockfastref01_power.f kj7 x11_1).bind fun t122 => (lockfastref01_Put.l0 kj7 a0 a1 a2 a3 t118 (IntKind.u64.wrap (x10_1 + t122)) (wrap64 (x11_1 + 1)))) = some r := by rw [if_pos rfl] at H; exact H
                clear H
                have H := H1
                clear H1
                replace H := Option.bind_eq_some_iff.mp H
                obtain ⟨t122, A160, H⟩ := H
                replace H : (lockfastref01_Put.l0 kj7 a0 a1 a2 a3 t118 (IntKind.u64.wrap (x10_1 + t122)) (wrap64 (x11_1 + 1))) = some r := H
                have A16 := Aside0.mk A160
                clear A160
                have H' := Aside0.mk H
                clear H
                go_wp2_with (first | ((with_reducible refine gate_callee (f := 43) rfl ?_); refine goesL_ (some 44) rfl rfl Try.func43 (by kernel_rfl) rfl #[.int .i64 x11_1] rfl (by (try simp only [List.map_toArray, List.map_cons, List.map_nil]); first | done | rfl | (simp only [List.length_drop, List.length_take]; rfl)) ?_; (with_reducible refine (lockfastref01_power.calls kj7 x11_1 t122 _ A16.out).mono ?_); rintro e w' ⟨rfl, ⟨nd, rfl⟩⟩; refine ⟨_, rfl, ?_⟩))
                go_roundg kj7
                case measure => have := HK1.out; have := HJ7.out; omega
                case rel => exact ⟨(IntKind.u64.wrap (x10_1 + t122)), (wrap64 (x11_1 + 1)), (by first | rfl | (simp; done) | (simp [*]; done)), (by first | rfl | (simp; done) | (simp [*]; done)), H', ⟨by have := HK1.out; have := HJ7.out; omega⟩, by repeat (first | exact Drawn0.refl _ | apply Drawn0.step)⟩
              · replace c15 := Bool.eq_false_iff.mpr c15
                subst c15
                have H1 : (lockfastref01_Put.l0 kj7 a0 a1 a2 a3 t118 x10_1 (wrap64 (x11_1 + 1))) = some r := by rw [if_neg (show ¬ (false = true) by decide)] at H; exact H
                clear H
                have H := H1
                clear H1
                have H' := Aside0.mk H
                clear H
                go_wp2
                go_roundg kj7
                case measure => have := HK1.out; have := HJ7.out; omega
                case rel => exact ⟨(x10_1), (wrap64 (x11_1 + 1)), (by first | rfl | (simp; done) | (simp [*]; done)), (by first | rfl | (simp; done) | (simp [*]; done)), H', ⟨by have := HK1.out; have := HJ7.out; omega⟩, by repeat (first | exact Drawn0.refl _ | apply Drawn0.step)⟩
      · rw [if_neg c6] at H
        have c6b0 : decide (x11_1 < 64) = false := decide_eq_false c6
        clear c6
        obtain rfl := Option.some.inj H
        simp only [Option.some.injEq, Prod.mk.injEq] at H
        obtain ⟨rfl⟩ := H
        go_wp2
        go_ret
        exact ⟨by first | rfl | (simp; done) | (simp [*]; done), by repeat (first | exact Drawn0.refl _ | apply Drawn0.step)⟩

/-! ### lockfastlaw01_FieldTells: function 9 -/
def lockfastlaw01_FieldTells.f (k : Nat) (a0 : Int) (a1 : Int) (a2 : Int) (a3 : Int) : Option (Bool) := (lockfastlaw01_awake.f).bind fun t123 => (if t123 = true then ((field_Fits.f a1 a2).bind fun t124 => ((lockfastref01_Fits.f a1 a2).bind fun t125 => (if (t124 == t125) = true then ((field_Get.f a0 a1 a2).bind fun t126 => ((lockfastref01_Get.f k a0 a1 a2).bind fun t127 => (if t126 = t127 then ((field_Put.f a0 a1 a2 a3).bind fun t128 => ((lockfastref01_Put.f k a0 a1 a2 a3).bind fun t129 => (some (t128 == t129)))) else (some false)))) else (some false)))) else (some false))
theorem lockfastlaw01_FieldTells.mono : ∀ a0 a1 a2 a3 k, LeO (lockfastlaw01_FieldTells.f k a0 a1 a2 a3) (lockfastlaw01_FieldTells.f (k + 1) a0 a1 a2 a3) := by
  intro a0 a1 a2 a3 k
  unfold lockfastlaw01_FieldTells.f
  repeat' first
      | (with_reducible exact lockfastref01_Get.mono _ _ _ _)
      | (with_reducible exact lockfastref01_Put.mono _ _ _ _ _)
      | (with_reducible exact LeO.refl _)
      | (with_reducible exact LeO.none _)
      | (with_reducible refine LeO.ite ?_ ?_)
      | (with_reducible refine LeO.bind ?_ (fun _ => ?_))
      | exact lockfastref01_Get.mono _ _ _ _
      | exact lockfastref01_Put.mono _ _ _ _ _
      | exact LeO.none _
      | refine LeO.ite ?_ ?_
      | refine LeO.bind ?_ (fun _ => ?_)
set_option maxHeartbeats 8000000 in
set_option maxRecDepth 100000 in
theorem lockfastlaw01_FieldTells.calls (k : Nat) (a0 : Int) (a1 : Int) (a2 : Int) (a3 : Int) (r : Bool) (w : World) (hrt : r = true) (h : lockfastlaw01_FieldTells.f k a0 a1 a2 a3 = some r) :
    Calls Try.prog 9 #[.int .u64 a0, .int .i64 a1, .int .i64 a2, .int .u64 a3] w fun e w' => e = .returned (.bool r) ∧ Below w.heap.size w w' := by
  have HB := Aside0.mk (Below.refl w.heap.size w)
  have H : ((lockfastlaw01_awake.f).bind fun t123 => (if t123 = true then ((field_Fits.f a1 a2).bind fun t124 => ((lockfastref01_Fits.f a1 a2).bind fun t125 => (if (t124 == t125) = true then ((field_Get.f a0 a1 a2).bind fun t126 => ((lockfastref01_Get.f k a0 a1 a2).bind fun t127 => (if t126 = t127 then ((field_Put.f a0 a1 a2 a3).bind fun t128 => ((lockfastref01_Put.f k a0 a1 a2 a3).bind fun t129 => (some (t128 == t129)))) else (some false)))) else (some false)))) else (some false))) = some r := h
  clear h
  have HRT := Aside0.mk hrt
  clear hrt
  replace H := Option.bind_eq_some_iff.mp H
  obtain ⟨t123, A50, H⟩ := H
  replace H : (if t123 = true then ((field_Fits.f a1 a2).bind fun t124 => ((lockfastref01_Fits.f a1 a2).bind fun t125 => (if (t124 == t125) = true then ((field_Get.f a0 a1 a2).bind fun t126 => ((lockfastref01_Get.f k a0 a1 a2).bind fun t127 => (if t126 = t127 then ((field_Put.f a0 a1 a2 a3).bind fun t128 => ((lockfastref01_Put.f k a0 a1 a2 a3).bind fun t129 => (some (t128 == t129)))) else (some false)))) else (some false)))) else (some false)) = some r := H
  have A5 := Aside0.mk A50
  clear A50
  by_cases c6 : t123 = true
  · subst c6
    have H1 : ((field_Fits.f a1 a2).bind fun t124 => ((lockfastref01_Fits.f a1 a2).bind fun t125 => (if (t124 == t125) = true then ((field_Get.f a0 a1 a2).bind fun t126 => ((lockfastref01_Get.f k a0 a1 a2).bind fun t127 => (if t126 = t127 then ((field_Put.f a0 a1 a2 a3).bind fun t128 => ((lockfastref01_Put.f k a0 a1 a2 a3).bind fun t129 => (some (t128 == t129)))) else (some false)))) else (some false)))) = some r := by rw [if_pos rfl] at H; exact H
    clear H
    have H := H1
    clear H1
    replace H := Option.bind_eq_some_iff.mp H
    obtain ⟨t124, A70, H⟩ := H
    replace H : ((lockfastref01_Fits.f a1 a2).bind fun t125 => (if (t124 == t125) = true then ((field_Get.f a0 a1 a2).bind fun t126 => ((lockfastref01_Get.f k a0 a1 a2).bind fun t127 => (if t126 = t127 then ((field_Put.f a0 a1 a2 a3).bind fun t128 => ((lockfastref01_Put.f k a0 a1 a2 a3).bind fun t129 => (some (t128 == t129)))) else (some false)))) else (some false))) = some r := H
    have A7 := Aside0.mk A70
    clear A70
    replace H := Option.bind_eq_some_iff.mp H
    obtain ⟨t125, A80, H⟩ := H
    replace H : (if (t124 == t125) = true then ((field_Get.f a0 a1 a2).bind fun t126 => ((lockfastref01_Get.f k a0 a1 a2).bind fun t127 => (if t126 = t127 then ((field_Put.f a0 a1 a2 a3).bind fun t128 => ((lockfastref01_Put.f k a0 a1 a2 a3).bind fun t129 => (some (t128 == t129)))) else (some false)))) else (some false)) = some r := H
    have A8 := Aside0.mk A80
    clear A80
    by_cases c9 : (t124 == t125) = true
    · rw [if_pos c9] at H
      have c9b0 : (t124 == t125) = true := c9
      (try (have c9b1 : decide (t124 = t125) = true := by simpa using c9))
      (try (have c9b2 : (t124 == t125) = true := by simpa using c9))
      clear c9
      replace H := Option.bind_eq_some_iff.mp H
      obtain ⟨t126, A100, H⟩ := H
      replace H : ((lockfastref01_Get.f k a0 a1 a2).bind fun t127 => (if t126 = t127 then ((field_Put.f a0 a1 a2 a3).bind fun t128 => ((lockfastref01_Put.f k a0 a1 a2 a3).bind fun t129 => (some (t128 == t129)))) else (some false))) = some r := H
      have A10 := Aside0.mk A100
      clear A100
      replace H := Option.bind_eq_some_iff.mp H
      obtain ⟨t127, A110, H⟩ := H
      replace H : (if t126 = t127 then ((field_Put.f a0 a1 a2 a3).bind fun t128 => ((lockfastref01_Put.f k a0 a1 a2 a3).bind fun t129 => (some (t128 == t129)))) else (some false)) = some r := H
      have A11 := Aside0.mk A110
      clear A110
      by_cases c12 : t126 = t127
      · rw [if_pos c12] at H
        have c12b0 : (t126 == t127) = true := beq_iff_eq.mpr c12
        have c12b1 : (t126 != t127) = false := bne_eq_false_iff_eq.mpr c12
        clear c12
        replace H := Option.bind_eq_some_iff.mp H
        obtain ⟨t128, A130, H⟩ := H
        replace H : ((lockfastref01_Put.f k a0 a1 a2 a3).bind fun t129 => (some (t128 == t129))) = some r := H
        have A13 := Aside0.mk A130
        clear A130
        replace H := Option.bind_eq_some_iff.mp H
        obtain ⟨t129, A140, H⟩ := H
        replace H : (some (t128 == t129)) = some r := H
        have A14 := Aside0.mk A140
        clear A140
        obtain rfl := Option.some.inj H
        simp only [Option.some.injEq, Prod.mk.injEq] at H
        obtain ⟨rfl⟩ := H
        go_enter Try.func9, Try.ntmps9
        go_wp2_with (first | ((with_reducible refine gate_callee (f := 26) rfl ?_); refine goesL_ (some 10) rfl rfl Try.func26 (by kernel_rfl) rfl #[] rfl (by (try simp only [List.map_toArray, List.map_cons, List.map_nil]); first | done | rfl | (simp only [List.length_drop, List.length_take]; rfl)) ?_; (with_reducible refine (lockfastlaw01_awake.calls  true _ A5.out).mono ?_); rintro e w15 ⟨rfl, hb⟩; refine ⟨_, rfl, ?_⟩; have n0_ := Aside0.mk (below_step (by repeat (first | (with_reducible first | exact HB.out | apply below_alloc | apply pw_below_drewN | apply below_drew1) | exact HB.out)) hb); clear HB; have HB := n0_; clear n0_; (try clear hb); (try clear hb2); (try clear hk); (try clear hi)) | (go_at_call 27; (with_reducible refine (field_Fits.calls a1 a2 t124 _ A7.out).mono ?_); rintro e w' ⟨rfl, ⟨nd, rfl⟩⟩) | (go_at_call 28; (with_reducible refine (lockfastref01_Fits.calls a1 a2 t125 _ A8.out).mono ?_); rintro e w' ⟨rfl, ⟨nd, rfl⟩⟩) | (go_at_call 29; (with_reducible refine (field_Get.calls a0 a1 a2 t126 _ A10.out).mono ?_); rintro e w' ⟨rfl, ⟨nd, rfl⟩⟩) | (go_at_call 30; (with_reducible refine (lockfastref01_Get.calls k a0 a1 a2 t127 _ A11.out).mono ?_); rintro e w' ⟨rfl, ⟨nd, rfl⟩⟩) | (go_at_call 31; (with_reducible refine (field_Put.calls a0 a1 a2 a3 t128 _ A13.out).mono ?_); rintro e w' ⟨rfl, ⟨nd, rfl⟩⟩) | (go_at_call 32; (with_reducible refine (lockfastref01_Put.calls k a0 a1 a2 a3 t129 _ A14.out).mono ?_); rintro e w' ⟨rfl, ⟨nd, rfl⟩⟩))
        go_ret
        exact ⟨by first | rfl | (simp [errW_none, errW_some] <;> rfl) | (simp [*, errW_none, errW_some] <;> rfl), by repeat (first | (with_reducible first | exact HB.out | apply below_alloc | apply pw_below_drewN | apply below_drew1) | exact HB.out)⟩
      · rw [if_neg c12] at H
        have c12b0 : (t126 == t127) = false := beq_eq_false_iff_ne.mpr c12
        have c12b1 : (t126 != t127) = true := bne_iff_ne.mpr c12
        obtain rfl := Option.some.inj H
        exact absurd HRT.out (by decide)
    · rw [if_neg c9] at H
      have c9b0 : (t124 == t125) = false := by simpa using c9
      (try (have c9b1 : decide (t124 = t125) = false := by simpa using c9))
      (try (have c9b2 : (t124 == t125) = false := by simpa using c9))
      (try (have c9b3 : ¬ (t124 = t125) := by simpa using c9))
      clear c9
      obtain rfl := Option.some.inj H
      exact absurd HRT.out (by decide)
  · replace c6 := Bool.eq_false_iff.mpr c6
    subst c6
    have H1 : (some false) = some r := by rw [if_neg (show ¬ (false = true) by decide)] at H; exact H
    clear H
    have H := H1
    clear H1
    obtain rfl := Option.some.inj H
    exact absurd HRT.out (by decide)

/-- THE ONE PURE STATEMENT of lockfastlaw01_FieldTells: yours. -/
def lockfastlaw01_FieldTells.Pure : Prop := ∀ (a0 : Int) (a1 : Int) (a2 : Int) (a3 : Int), (Lit.int .u64 a0).wf = true → (Lit.int .i64 a1).wf = true → (Lit.int .i64 a2).wf = true → (Lit.int .u64 a3).wf = true → ∃ k, lockfastlaw01_FieldTells.f k a0 a1 a2 a3 = some true
theorem lockfastlaw01_FieldTells.walk (P : lockfastlaw01_FieldTells.Pure) (a0 : Int) (a1 : Int) (a2 : Int) (a3 : Int) (w : World) (w0 : (Lit.int .u64 a0).wf = true) (w1 : (Lit.int .i64 a1).wf = true) (w2 : (Lit.int .i64 a2).wf = true) (w3 : (Lit.int .u64 a3).wf = true) :
    Calls Try.prog 9 #[.int .u64 a0, .int .i64 a1, .int .i64 a2, .int .u64 a3] w fun e w' => e = .returned (.bool true) ∧ Below w.heap.size w w' := by
  obtain ⟨k, h⟩ := P a0 a1 a2 a3 w0 w1 w2 w3
  refine (lockfastlaw01_FieldTells.calls k a0 a1 a2 a3 true w rfl h).mono ?_
  rintro e w' ⟨rfl, hd⟩
  exact ⟨rfl, hd⟩

end Go.Proofs.Ytajdfbopddcliaa.PFieldTells
