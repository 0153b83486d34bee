-- WRITTEN FOR THIS CLAIM by given.py, a program of this session's: the kit's printer, run with contracts of the session's own. It is not a text of print.sh's.
import Derived.Test.YtajdfbopddcliaaPFieldCountsx0
import Derived.Test.YtajdfbopddcliaaPFieldCountsx1
namespace Go.Proofs.Ytajdfbopddcliaa.PFieldCounts
open Go.RowKit Go.Proofs.YtajdfbopddcliaaW.PrintWords Go.Proofs.YtajdfbopddcliaaW.PrintLast Go.Proofs.YtajdfbopddcliaaW.PrintMore
attribute [local go_sem] max2_int min2_int max_two min_two max_three min_three max_four min_four   -- for this text's walks alone
set_option linter.unusedVariables false
set_option linter.unusedSimpArgs false
open Go.Proofs.YtajdfbopddcliaaX

/-! ### lockfastref01_First: function 38 -/
mutual
def lockfastref01_First.l0 : Nat → Int → Int → Bool → Int → Option (Int)
  | 0, _, _, _, _ => none
  | k + 1, x0, x1, x2, x7 => if x7 < x1 then (lockfastref01_First.j1 k x0 x1 x2 x7 (decide (x7 < 64))) else (lockfastref01_First.j1 k x0 x1 x2 x7 false)
def lockfastref01_First.j1 : Nat → Int → Int → Bool → Int → Bool → Option (Int)
  | 0, _, _, _, _, _ => none
  | k + 1, x0, x1, x2, x7, x15 => if x15 = true then ((lockfastref01_Bit.f k x0 x7).bind fun t121 => (if (t121 == x2) = true then (some x7) else (lockfastref01_First.l0 k x0 x1 x2 (wrap64 (x7 + 1))))) else (some (-1))
end
def lockfastref01_First.f (k : Nat) (a0 : Int) (a1 : Int) (a2 : Bool) : Option (Int) := lockfastref01_First.l0 k a0 a1 a2 0
theorem lockfastref01_First.mono_l : ∀ k, (∀ y0 y1 y2 y3, LeO (lockfastref01_First.l0 k y0 y1 y2 y3) (lockfastref01_First.l0 (k + 1) y0 y1 y2 y3)) ∧ (∀ y0 y1 y2 y3 y4, LeO (lockfastref01_First.j1 k y0 y1 y2 y3 y4) (lockfastref01_First.j1 (k + 1) y0 y1 y2 y3 y4))
  | 0 => ⟨fun _ _ _ _ r h => by simp [lockfastref01_First.l0] at h, fun _ _ _ _ _ r h => by simp [lockfastref01_First.j1] at h⟩
  | k + 1 => by
    obtain ⟨ih0, ih1⟩ := lockfastref01_First.mono_l k
    refine ⟨?_, ?_⟩
    · intro y0 y1 y2 y3
      unfold lockfastref01_First.l0
      repeat' first
      | (with_reducible exact ih0 _ _ _ _)
      | (with_reducible exact ih1 _ _ _ _ _)
      | (with_reducible exact lockfastref01_Bit.mono _ _ _)
      | (with_reducible exact LeO.refl _)
      | (with_reducible exact LeO.none _)
      | (with_reducible refine LeO.ite ?_ ?_)
      | (with_reducible refine LeO.bind ?_ (fun _ => ?_))
      | exact ih0 _ _ _ _
      | exact ih1 _ _ _ _ _
      | exact lockfastref01_Bit.mono _ _ _
      | exact LeO.none _
      | refine LeO.ite ?_ ?_
      | refine LeO.bind ?_ (fun _ => ?_)
    · intro y0 y1 y2 y3 y4
      unfold lockfastref01_First.j1
      repeat' first
      | (with_reducible exact ih0 _ _ _ _)
      | (with_reducible exact ih1 _ _ _ _ _)
      | (with_reducible exact lockfastref01_Bit.mono _ _ _)
      | (with_reducible exact LeO.refl _)
      | (with_reducible exact LeO.none _)
      | (with_reducible refine LeO.ite ?_ ?_)
      | (with_reducible refine LeO.bind ?_ (fun _ => ?_))
      | exact ih0 _ _ _ _
      | exact ih1 _ _ _ _ _
      | exact lockfastref01_Bit.mono _ _ _
      | exact LeO.none _
      | refine LeO.ite ?_ ?_
      | refine LeO.bind ?_ (fun _ => ?_)
theorem lockfastref01_First.mono : ∀ a0 a1 a2 k, LeO (lockfastref01_First.f k a0 a1 a2) (lockfastref01_First.f (k + 1) a0 a1 a2) := by
  intro a0 a1 a2 k
  obtain ⟨ih0, ih1⟩ := lockfastref01_First.mono_l k
  unfold lockfastref01_First.f
  repeat' first
      | (with_reducible exact ih0 _ _ _ _)
      | (with_reducible exact ih1 _ _ _ _ _)
      | (with_reducible exact lockfastref01_Bit.mono _ _ _)
      | (with_reducible exact LeO.refl _)
      | (with_reducible exact LeO.none _)
      | (with_reducible refine LeO.ite ?_ ?_)
      | (with_reducible refine LeO.bind ?_ (fun _ => ?_))
      | exact ih0 _ _ _ _
      | exact ih1 _ _ _ _ _
      | exact lockfastref01_Bit.mono _ _ _
      | exact LeO.none _
      | refine LeO.ite ?_ ?_
      | refine LeO.bind ?_ (fun _ => ?_)
set_option maxHeartbeats 8000000 in
set_option maxRecDepth 100000 in
theorem lockfastref01_First.calls (k : Nat) (a0 : Int) (a1 : Int) (a2 : Bool) (r : Int) (w : World) (h : lockfastref01_First.f k a0 a1 a2 = some r) :
    Calls Try.prog 38 #[.int .u64 a0, .int .i64 a1, .bool a2] w fun e w' => e = .returned (.int .i64 r) ∧ Drawn0 w w' := by
  have H : (lockfastref01_First.l0 k a0 a1 a2 0) = some r := h
  clear h
  have H' := Aside0.mk H
  clear H
  go_enter Try.func38, Try.ntmps38
  go_wp2
  go_loopg [7] k (fun kq v7 w' => ∃ (x7_1 : Int), v7 = .int .i64 x7_1 ∧ Aside0 (lockfastref01_First.l0 kq a0 a1 a2 x7_1 = some r) ∧ Aside0 (kq ≤ k) ∧ Drawn0 w w')
  case atStart => exact ⟨(0), (by first | rfl | (simp; done) | (simp [*]; done)), H', ⟨Nat.le_refl _⟩, by repeat (first | exact Drawn0.refl _ | apply Drawn0.step)⟩
  case round =>
    clear H'
    try clear p2
    try clear c3
    obtain ⟨x7_1, rfl, HA, HK1, ⟨m1, rfl⟩⟩ := hrel
    cases gk with
    | zero => exact absurd HA.out (by simp [lockfastref01_First.l0])
    | succ k1 =>
      have H := HA.out
      clear HA
      simp only [lockfastref01_First.l0] at H
      have HC4 := Aside0.mk H
      clear H
      go_upto_region 2 with (fail)
      go_cut [15] (fun v15 wc => ∃ (kq : Nat) (x15_3 : Bool), v15 = .bool x15_3 ∧ Aside0 (lockfastref01_First.j1 kq a0 a1 a2 x7_1 x15_3 = some r) ∧ Aside0 (kq ≤ k1) ∧ Drawn0 w wc)
      case first =>
        have H := HC4.out
        clear HC4
        by_cases c5 : x7_1 < a1
        · rw [if_pos c5] at H
          have c5b0 : decide (x7_1 < a1) = true := decide_eq_true c5
          clear c5
          (first | rw [c5b0] | (simp only [i64_w, i32_w]; rw [c5b0]) | skip)
          have H' := Aside0.mk H
          clear H
          go_wp2
          go_meet
          case rel => exact ⟨_, (decide (x7_1 < 64)), (by first | rfl | (simp; done) | (simp [*]; done)), H', ⟨by have := HK1.out; first | omega | exact Nat.le_refl _⟩, by repeat (first | exact Drawn0.refl _ | apply Drawn0.step)⟩
        · rw [if_neg c5] at H
          have c5b0 : decide (x7_1 < a1) = false := decide_eq_false c5
          clear c5
          (first | rw [c5b0] | (simp only [i64_w, i32_w]; rw [c5b0]) | skip)
          have H' := Aside0.mk H
          clear H
          go_wp2
          go_meet
          case rel => exact ⟨_, (false), (by first | rfl | (simp; done) | (simp [*]; done)), H', ⟨by have := HK1.out; first | omega | exact Nat.le_refl _⟩, by repeat (first | exact Drawn0.refl _ | apply Drawn0.step)⟩
      case rest =>
        clear HC4
        try clear p2
        try clear c3
        try clear c5
        try clear c5b0
        try clear p2
        obtain ⟨kq, x15_3, rfl, HA, HJ3, ⟨mc3, rfl⟩⟩ := hcut
        cases kq with
        | zero => exact absurd HA.out (by simp [lockfastref01_First.j1])
        | succ kj3 =>
          have H := HA.out
          clear HA
          simp only [lockfastref01_First.j1] at H
          by_cases c6 : x15_3 = true
          · subst c6
            have H1 : ((lockfastref01_Bit.f kj3 a0 x7_1).bind fun t121 => (if (t121 == a2) = true then (some x7_1) else (lockfastref01_First.l0 kj3 a0 a1 a2 (wrap64 (x7_1 + 1))))) = some r := by rw [if_pos rfl] at H; exact H
            clear H
            have H := H1
            clear H1
            replace H := Option.bind_eq_some_iff.mp H
            obtain ⟨t121, A70, H⟩ := H
            replace H : (if (t121 == a2) = true then (some x7_1) else (lockfastref01_First.l0 kj3 a0 a1 a2 (wrap64 (x7_1 + 1)))) = some r := H
            have A7 := Aside0.mk A70
            clear A70
            by_cases c8 : (t121 == a2) = true
            · rw [if_pos c8] at H
              have c8b0 : (t121 == a2) = true := c8
              (try (have c8b1 : decide (t121 = a2) = true := by simpa using c8))
              (try (have c8b2 : (t121 == a2) = true := by simpa using c8))
              clear c8
              obtain rfl := Option.some.inj H
              simp only [Option.some.injEq, Prod.mk.injEq] at H
              obtain ⟨rfl⟩ := H
              go_wp2_with (first | ((with_reducible refine gate_callee (f := 42) rfl ?_); refine goesL_ (some 20) rfl rfl Try.func42 (by kernel_rfl) rfl #[.int .u64 a0, .int .i64 x7_1] rfl (by (try simp only [List.map_toArray, List.map_cons, List.map_nil]); first | done | rfl | (simp only [List.length_drop, List.length_take]; rfl)) ?_; (with_reducible refine (lockfastref01_Bit.calls kj3 a0 x7_1 t121 _ A7.out).mono ?_); rintro e w' ⟨rfl, ⟨nd, rfl⟩⟩; refine ⟨_, rfl, ?_⟩))
              go_ret
              exact ⟨by first | rfl | (simp; done) | (simp [*]; done), by repeat (first | exact Drawn0.refl _ | apply Drawn0.step)⟩
            · rw [if_neg c8] at H
              have c8b0 : (t121 == a2) = false := by simpa using c8
              (try (have c8b1 : decide (t121 = a2) = false := by simpa using c8))
              (try (have c8b2 : (t121 == a2) = false := by simpa using c8))
              (try (have c8b3 : ¬ (t121 = a2) := by simpa using c8))
              clear c8
              have H' := Aside0.mk H
              clear H
              go_wp2_with (first | ((with_reducible refine gate_callee (f := 42) rfl ?_); refine goesL_ (some 20) rfl rfl Try.func42 (by kernel_rfl) rfl #[.int .u64 a0, .int .i64 x7_1] rfl (by (try simp only [List.map_toArray, List.map_cons, List.map_nil]); first | done | rfl | (simp only [List.length_drop, List.length_take]; rfl)) ?_; (with_reducible refine (lockfastref01_Bit.calls kj3 a0 x7_1 t121 _ A7.out).mono ?_); rintro e w' ⟨rfl, ⟨nd, rfl⟩⟩; refine ⟨_, rfl, ?_⟩))
              go_roundg kj3
              case measure => have := HK1.out; have := HJ3.out; omega
              case rel => exact ⟨(wrap64 (x7_1 + 1)), (by first | rfl | (simp; done) | (simp [*]; done)), H', ⟨by have := HK1.out; have := HJ3.out; omega⟩, by repeat (first | exact Drawn0.refl _ | apply Drawn0.step)⟩
          · replace c6 := Bool.eq_false_iff.mpr c6
            subst c6
            have H1 : (some (-1)) = some r := by rw [if_neg (show ¬ (false = true) by decide)] at H; exact H
            clear H
            have H := H1
            clear H1
            obtain rfl := Option.some.inj H
            simp only [Option.some.injEq, Prod.mk.injEq] at H
            obtain ⟨rfl⟩ := H
            go_wp2
            go_ret
            exact ⟨by first | rfl | (simp; done) | (simp [*]; done), by repeat (first | exact Drawn0.refl _ | apply Drawn0.step)⟩

/-! ### lockfastlaw01_FieldCounts: function 10 -/
def lockfastlaw01_FieldCounts.f (k : Nat) (a0 : Int) (a1 : Int) : Option (Bool) := (lockfastlaw01_awake.f).bind fun t122 => ((lockfastref01_Places.f k a0 a1).bind fun t123 => (if t122 = true then ((field_Ones.f a0 a1).bind fun t126 => (if t126 = (t123.length : Int) then ((field_Places.f a0 a1).bind fun t127 => ((lockfastref01_Ints.f k t127 t123).bind fun t130 => (if t130 = true then ((field_First.f a0 a1 true).bind fun t131 => ((lockfastref01_First.f k a0 a1 true).bind fun t132 => (if t131 = t132 then ((field_First.f a0 a1 false).bind fun t133 => ((lockfastref01_First.f k a0 a1 false).bind fun t134 => (some (t133 == t134)))) else (some false)))) else (some false)))) else (some false))) else (some false)))
theorem lockfastlaw01_FieldCounts.mono : ∀ a0 a1 k, LeO (lockfastlaw01_FieldCounts.f k a0 a1) (lockfastlaw01_FieldCounts.f (k + 1) a0 a1) := by
  intro a0 a1 k
  unfold lockfastlaw01_FieldCounts.f
  repeat' first
      | (with_reducible exact lockfastref01_First.mono _ _ _ _)
      | (with_reducible exact lockfastref01_Ints.mono _ _ _)
      | (with_reducible exact lockfastref01_Places.mono _ _ _)
      | (with_reducible exact LeO.refl _)
      | (with_reducible exact LeO.none _)
      | (with_reducible refine LeO.ite ?_ ?_)
      | (with_reducible refine LeO.bind ?_ (fun _ => ?_))
      | exact lockfastref01_First.mono _ _ _ _
      | exact lockfastref01_Ints.mono _ _ _
      | exact lockfastref01_Places.mono _ _ _
      | exact LeO.none _
      | refine LeO.ite ?_ ?_
      | refine LeO.bind ?_ (fun _ => ?_)
set_option maxHeartbeats 8000000 in
set_option maxRecDepth 100000 in
theorem lockfastlaw01_FieldCounts.calls (k : Nat) (a0 : Int) (a1 : Int) (r : Bool) (w : World) (hrt : r = true) (h : lockfastlaw01_FieldCounts.f k a0 a1 = some r) :
    Calls Try.prog 10 #[.int .u64 a0, .int .i64 a1] w fun e w' => e = .returned (.bool r) ∧ Below w.heap.size w w' := by
  have HB := Aside0.mk (Below.refl w.heap.size w)
  have H : ((lockfastlaw01_awake.f).bind fun t122 => ((lockfastref01_Places.f k a0 a1).bind fun t123 => (if t122 = true then ((field_Ones.f a0 a1).bind fun t126 => (if t126 = (t123.length : Int) then ((field_Places.f a0 a1).bind fun t127 => ((lockfastref01_Ints.f k t127 t123).bind fun t130 => (if t130 = true then ((field_First.f a0 a1 true).bind fun t131 => ((lockfastref01_First.f k a0 a1 true).bind fun t132 => (if t131 = t132 then ((field_First.f a0 a1 false).bind fun t133 => ((lockfastref01_First.f k a0 a1 false).bind fun t134 => (some (t133 == t134)))) else (some false)))) else (some false)))) else (some false))) else (some false)))) = some r := h
  clear h
  have HRT := Aside0.mk hrt
  clear hrt
  replace H := Option.bind_eq_some_iff.mp H
  obtain ⟨t122, A30, H⟩ := H
  replace H : ((lockfastref01_Places.f k a0 a1).bind fun t123 => (if t122 = true then ((field_Ones.f a0 a1).bind fun t126 => (if t126 = (t123.length : Int) then ((field_Places.f a0 a1).bind fun t127 => ((lockfastref01_Ints.f k t127 t123).bind fun t130 => (if t130 = true then ((field_First.f a0 a1 true).bind fun t131 => ((lockfastref01_First.f k a0 a1 true).bind fun t132 => (if t131 = t132 then ((field_First.f a0 a1 false).bind fun t133 => ((lockfastref01_First.f k a0 a1 false).bind fun t134 => (some (t133 == t134)))) else (some false)))) else (some false)))) else (some false))) else (some false))) = some r := H
  have A3 := Aside0.mk A30
  clear A30
  replace H := Option.bind_eq_some_iff.mp H
  obtain ⟨t123, A40, H⟩ := H
  replace H : (if t122 = true then ((field_Ones.f a0 a1).bind fun t126 => (if t126 = (t123.length : Int) then ((field_Places.f a0 a1).bind fun t127 => ((lockfastref01_Ints.f k t127 t123).bind fun t130 => (if t130 = true then ((field_First.f a0 a1 true).bind fun t131 => ((lockfastref01_First.f k a0 a1 true).bind fun t132 => (if t131 = t132 then ((field_First.f a0 a1 false).bind fun t133 => ((lockfastref01_First.f k a0 a1 false).bind fun t134 => (some (t133 == t134)))) else (some false)))) else (some false)))) else (some false))) else (some false)) = some r := H
  have A4 := Aside0.mk A40
  clear A40
  by_cases c5 : t122 = true
  · subst c5
    have H1 : ((field_Ones.f a0 a1).bind fun t126 => (if t126 = (t123.length : Int) then ((field_Places.f a0 a1).bind fun t127 => ((lockfastref01_Ints.f k t127 t123).bind fun t130 => (if t130 = true then ((field_First.f a0 a1 true).bind fun t131 => ((lockfastref01_First.f k a0 a1 true).bind fun t132 => (if t131 = t132 then ((field_First.f a0 a1 false).bind fun t133 => ((lockfastref01_First.f k a0 a1 false).bind fun t134 => (some (t133 == t134)))) else (some false)))) else (some false)))) else (some false))) = some r := by rw [if_pos rfl] at H; exact H
    clear H
    have H := H1
    clear H1
    replace H := Option.bind_eq_some_iff.mp H
    obtain ⟨t126, A60, H⟩ := H
    replace H : (if t126 = (t123.length : Int) then ((field_Places.f a0 a1).bind fun t127 => ((lockfastref01_Ints.f k t127 t123).bind fun t130 => (if t130 = true then ((field_First.f a0 a1 true).bind fun t131 => ((lockfastref01_First.f k a0 a1 true).bind fun t132 => (if t131 = t132 then ((field_First.f a0 a1 false).bind fun t133 => ((lockfastref01_First.f k a0 a1 false).bind fun t134 => (some (t133 == t134)))) else (some false)))) else (some false)))) else (some false)) = some r := H
    have A6 := Aside0.mk A60
    clear A60
    by_cases c7 : t126 = (t123.length : Int)
    · rw [if_pos c7] at H
      have c7b0 : (t126 == (t123.length : Int)) = true := beq_iff_eq.mpr c7
      have c7b1 : (t126 != (t123.length : Int)) = false := bne_eq_false_iff_eq.mpr c7
      clear c7
      replace H := Option.bind_eq_some_iff.mp H
      obtain ⟨t127, A80, H⟩ := H
      replace H : ((lockfastref01_Ints.f k t127 t123).bind fun t130 => (if t130 = true then ((field_First.f a0 a1 true).bind fun t131 => ((lockfastref01_First.f k a0 a1 true).bind fun t132 => (if t131 = t132 then ((field_First.f a0 a1 false).bind fun t133 => ((lockfastref01_First.f k a0 a1 false).bind fun t134 => (some (t133 == t134)))) else (some false)))) else (some false))) = some r := H
      have A8 := Aside0.mk A80
      clear A80
      replace H := Option.bind_eq_some_iff.mp H
      obtain ⟨t130, A90, H⟩ := H
      replace H : (if t130 = true then ((field_First.f a0 a1 true).bind fun t131 => ((lockfastref01_First.f k a0 a1 true).bind fun t132 => (if t131 = t132 then ((field_First.f a0 a1 false).bind fun t133 => ((lockfastref01_First.f k a0 a1 false).bind fun t134 => (some (t133 == t134)))) else (some false)))) else (some false)) = some r := H
      have A9 := Aside0.mk A90
      clear A90
      by_cases c10 : t130 = true
      · subst c10
        have H1 : ((field_First.f a0 a1 true).bind fun t131 => ((lockfastref01_First.f k a0 a1 true).bind fun t132 => (if t131 = t132 then ((field_First.f a0 a1 false).bind fun t133 => ((lockfastref01_First.f k a0 a1 false).bind fun t134 => (some (t133 == t134)))) else (some false)))) = some r := by rw [if_pos rfl] at H; exact H
        clear H
        have H := H1
        clear H1
        replace H := Option.bind_eq_some_iff.mp H
        obtain ⟨t131, A110, H⟩ := H
        replace H : ((lockfastref01_First.f k a0 a1 true).bind fun t132 => (if t131 = t132 then ((field_First.f a0 a1 false).bind fun t133 => ((lockfastref01_First.f k a0 a1 false).bind fun t134 => (some (t133 == t134)))) else (some false))) = some r := H
        have A11 := Aside0.mk A110
        clear A110
        replace H := Option.bind_eq_some_iff.mp H
        obtain ⟨t132, A120, H⟩ := H
        replace H : (if t131 = t132 then ((field_First.f a0 a1 false).bind fun t133 => ((lockfastref01_First.f k a0 a1 false).bind fun t134 => (some (t133 == t134)))) else (some false)) = some r := H
        have A12 := Aside0.mk A120
        clear A120
        by_cases c13 : t131 = t132
        · rw [if_pos c13] at H
          have c13b0 : (t131 == t132) = true := beq_iff_eq.mpr c13
          have c13b1 : (t131 != t132) = false := bne_eq_false_iff_eq.mpr c13
          clear c13
          replace H := Option.bind_eq_some_iff.mp H
          obtain ⟨t133, A140, H⟩ := H
          replace H : ((lockfastref01_First.f k a0 a1 false).bind fun t134 => (some (t133 == t134))) = some r := H
          have A14 := Aside0.mk A140
          clear A140
          replace H := Option.bind_eq_some_iff.mp H
          obtain ⟨t134, A150, H⟩ := H
          replace H : (some (t133 == t134)) = some r := H
          have A15 := Aside0.mk A150
          clear A150
          obtain rfl := Option.some.inj H
          simp only [Option.some.injEq, Prod.mk.injEq] at H
          obtain ⟨rfl⟩ := H
          go_enter Try.func10, Try.ntmps10
          go_wp2_with (first | ((with_reducible refine gate_callee (f := 26) rfl ?_); refine goesL_ (some 7) rfl rfl Try.func26 (by kernel_rfl) rfl #[] rfl (by (try simp only [List.map_toArray, List.map_cons, List.map_nil]); first | done | rfl | (simp only [List.length_drop, List.length_take]; rfl)) ?_; (with_reducible refine (lockfastlaw01_awake.calls  true _ A3.out).mono ?_); rintro e w16 ⟨rfl, hb⟩; refine ⟨_, rfl, ?_⟩; have n0_ := Aside0.mk (below_step (by repeat (first | (with_reducible first | exact HB.out | apply below_alloc | apply pw_below_drewN | apply below_drew1) | exact HB.out)) hb); clear HB; have HB := n0_; clear n0_; (try clear hb); (try clear hb2); (try clear hk); (try clear hi)) | ((with_reducible refine gate_callee (f := 33) rfl ?_); refine goesL_ (some 10) rfl rfl Try.func33 (by kernel_rfl) rfl #[.int .u64 a0, .int .i64 a1] rfl (by (try simp only [List.map_toArray, List.map_cons, List.map_nil]); first | done | rfl | (simp only [List.length_drop, List.length_take]; rfl)) ?_; (with_reducible refine (lockfastref01_Places.calls k a0 a1 t123 _ A4.out).mono ?_); rintro e w17 ⟨v124, rfl, ho0, hb⟩; refine ⟨_, rfl, ?_⟩; have n0_ := Aside0.mk (Kd.R_lower ho0 (below_size (by repeat (first | (with_reducible first | exact HB.out | apply below_alloc | apply pw_below_drewN | apply below_drew1) | exact HB.out)))); have n1_ := Aside0.mk (below_step (by repeat (first | (with_reducible first | exact HB.out | apply below_alloc | apply pw_below_drewN | apply below_drew1) | exact HB.out)) hb); clear HB; have HO125 := n0_; have HB := n1_; clear n0_ n1_; (try clear hb); (try clear hb2); (try clear hk); (try clear hi); (try clear ho0)) | (go_at_call 34; (with_reducible refine (field_Ones.calls a0 a1 t126 _ A6.out).mono ?_); rintro e w18 ⟨rfl, hb⟩; have n0_ := Aside0.mk (Kd.R_below (by (with_reducible repeat (first | apply Kd.R_alloc | apply Kd.R_drewN | apply Kd.R_drew)); exact HO125.out) hb); have n1_ := Aside0.mk (below_step (by repeat (first | (with_reducible first | exact HB.out | apply below_alloc | apply pw_below_drewN | apply below_drew1) | exact HB.out)) hb); clear HO125; clear HB; have HO125 := n0_; have HB := n1_; clear n0_ n1_; (try clear hb); (try clear hb2); (try clear hk); (try clear hi); obtain ⟨Ao19, co19, eo19⟩ := Kd.R_slice HO125.out; subst eo19) | (go_at_call 36; (with_reducible refine (field_Places.calls a0 a1 t127 _ A8.out).mono ?_); rintro e w20 ⟨v128, rfl, ho0, hb⟩; have n0_ := Aside0.mk (Kd.R_elder' (by (with_reducible repeat (first | apply Kd.R_alloc | apply Kd.R_drewN | apply Kd.R_drew)); exact HO125.out) (Kd.R_base ho0) hb); have n1_ := Aside0.mk (Kd.R_lower (Kd.R_new' ho0 (Kd.R_lt (by (with_reducible repeat (first | apply Kd.R_alloc | apply Kd.R_drewN | apply Kd.R_drew)); exact HO125.out))) (below_size (by repeat (first | (with_reducible first | exact HB.out | apply below_alloc | apply pw_below_drewN | apply below_drew1) | exact HB.out)))); have n2_ := Aside0.mk (below_step (by repeat (first | (with_reducible first | exact HB.out | apply below_alloc | apply pw_below_drewN | apply below_drew1) | exact HB.out)) hb); clear HO125; clear HB; have HO125 := n0_; have HO129 := n1_; have HB := n2_; clear n0_ n1_ n2_; (try clear hb); (try clear hb2); (try clear hk); (try clear hi); (try clear ho0); obtain ⟨Ao21, co21, eo21⟩ := Kd.R_slice HO129.out; subst eo21) | (go_at_call 35; (with_reducible refine (lockfastref01_Ints.calls k _ _ t127 _ _ t123 true _ ?side1 ?side2 ?side3 ?side4 A9.out).mono ?_); (case side1 => repeat (first | exact (Kd.R_reads' HO129.out).2.2 | (with_reducible refine Kd.C_alloc ?_ _) | (with_reducible refine Kd.C_drewN ?_ _) | (with_reducible refine Kd.C_drew ?_))); (case side2 => exact (Kd.R_reads' HO129.out).2.1); (case side3 => repeat (first | exact (Kd.R_reads' HO125.out).2.2 | (with_reducible refine Kd.C_alloc ?_ _) | (with_reducible refine Kd.C_drewN ?_ _) | (with_reducible refine Kd.C_drew ?_))); (case side4 => exact (Kd.R_reads' HO125.out).2.1); rintro e w' ⟨rfl, ⟨nd, rfl⟩⟩) | (go_at_call 37; (with_reducible refine (field_First.calls a0 a1 true t131 _ A11.out).mono ?_); rintro e w22 ⟨rfl, hb⟩; have n0_ := Aside0.mk (Kd.R_below (by (with_reducible repeat (first | apply Kd.R_alloc | apply Kd.R_drewN | apply Kd.R_drew)); exact HO125.out) hb); have n1_ := Aside0.mk (Kd.R_below (by (with_reducible repeat (first | apply Kd.R_alloc | apply Kd.R_drewN | apply Kd.R_drew)); exact HO129.out) hb); have n2_ := Aside0.mk (below_step (by repeat (first | (with_reducible first | exact HB.out | apply below_alloc | apply pw_below_drewN | apply below_drew1) | exact HB.out)) hb); clear HO125; clear HO129; clear HB; have HO125 := n0_; have HO129 := n1_; have HB := n2_; clear n0_ n1_ n2_; (try clear hb); (try clear hb2); (try clear hk); (try clear hi)) | (go_at_call 38; (with_reducible refine (lockfastref01_First.calls k a0 a1 true t132 _ A12.out).mono ?_); rintro e w' ⟨rfl, ⟨nd, rfl⟩⟩) | (go_at_call 37; (with_reducible refine (field_First.calls a0 a1 false t133 _ A14.out).mono ?_); rintro e w23 ⟨rfl, hb⟩; have n0_ := Aside0.mk (Kd.R_below (by (with_reducible repeat (first | apply Kd.R_alloc | apply Kd.R_drewN | apply Kd.R_drew)); exact HO125.out) hb); have n1_ := Aside0.mk (Kd.R_below (by (with_reducible repeat (first | apply Kd.R_alloc | apply Kd.R_drewN | apply Kd.R_drew)); exact HO129.out) hb); have n2_ := Aside0.mk (below_step (by repeat (first | (with_reducible first | exact HB.out | apply below_alloc | apply pw_below_drewN | apply below_drew1) | exact HB.out)) hb); clear HO125; clear HO129; clear HB; have HO125 := n0_; have HO129 := n1_; have HB := n2_; clear n0_ n1_ n2_; (try clear hb); (try clear hb2); (try clear hk); (try clear hi)) | (go_at_call 38; (with_reducible refine (lockfastref01_First.calls k a0 a1 false t134 _ A15.out).mono ?_); rintro e w' ⟨rfl, ⟨nd, rfl⟩⟩))
          go_ret
          exact ⟨by first | rfl | (simp [errW_none, errW_some] <;> rfl) | (simp [*, errW_none, errW_some] <;> rfl), by repeat (first | (with_reducible first | exact HB.out | apply below_alloc | apply pw_below_drewN | apply below_drew1) | exact HB.out)⟩
        · rw [if_neg c13] at H
          have c13b0 : (t131 == t132) = false := beq_eq_false_iff_ne.mpr c13
          have c13b1 : (t131 != t132) = true := bne_iff_ne.mpr c13
          obtain rfl := Option.some.inj H
          exact absurd HRT.out (by decide)
      · replace c10 := Bool.eq_false_iff.mpr c10
        subst c10
        have H1 : (some false) = some r := by rw [if_neg (show ¬ (false = true) by decide)] at H; exact H
        clear H
        have H := H1
        clear H1
        obtain rfl := Option.some.inj H
        exact absurd HRT.out (by decide)
    · rw [if_neg c7] at H
      have c7b0 : (t126 == (t123.length : Int)) = false := beq_eq_false_iff_ne.mpr c7
      have c7b1 : (t126 != (t123.length : Int)) = true := bne_iff_ne.mpr c7
      obtain rfl := Option.some.inj H
      exact absurd HRT.out (by decide)
  · replace c5 := Bool.eq_false_iff.mpr c5
    subst c5
    have H1 : (some false) = some r := by rw [if_neg (show ¬ (false = true) by decide)] at H; exact H
    clear H
    have H := H1
    clear H1
    obtain rfl := Option.some.inj H
    exact absurd HRT.out (by decide)

/-- THE ONE PURE STATEMENT of lockfastlaw01_FieldCounts: yours. -/
def lockfastlaw01_FieldCounts.Pure : Prop := ∀ (a0 : Int) (a1 : Int), (Lit.int .u64 a0).wf = true → (Lit.int .i64 a1).wf = true → ∃ k, lockfastlaw01_FieldCounts.f k a0 a1 = some true
theorem lockfastlaw01_FieldCounts.walk (P : lockfastlaw01_FieldCounts.Pure) (a0 : Int) (a1 : Int) (w : World) (w0 : (Lit.int .u64 a0).wf = true) (w1 : (Lit.int .i64 a1).wf = true) :
    Calls Try.prog 10 #[.int .u64 a0, .int .i64 a1] w fun e w' => e = .returned (.bool true) ∧ Below w.heap.size w w' := by
  obtain ⟨k, h⟩ := P a0 a1 w0 w1
  refine (lockfastlaw01_FieldCounts.calls k a0 a1 true w rfl h).mono ?_
  rintro e w' ⟨rfl, hd⟩
  exact ⟨rfl, hd⟩

end Go.Proofs.Ytajdfbopddcliaa.PFieldCounts
