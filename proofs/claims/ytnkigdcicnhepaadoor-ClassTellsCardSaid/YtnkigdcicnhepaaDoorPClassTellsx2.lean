-- WRITTEN FOR THIS CLAIM by given.py, a program of this session's: the kit's printer, run with contracts of the session's own. It is not a text of print.sh's.
import Derived.Test.YtnkigdcicnhepaaDoorPClassTellsx0
import Derived.Test.YtnkigdcicnhepaaDoorPClassTellsx1
namespace Go.Proofs.YtnkigdcicnhepaaDoor.PClassTells
open Go.RowKit Go.Proofs.YtnkigdcicnhepaaDoorW.PrintWords Go.Proofs.YtnkigdcicnhepaaDoorW.PrintLast Go.Proofs.YtnkigdcicnhepaaDoorW.PrintMore
attribute [local go_sem] max2_int min2_int max_two min_two max_three min_three max_four min_four   -- for this text's walks alone
set_option linter.unusedVariables false
set_option linter.unusedSimpArgs false
open Go.Proofs.YtnkigdcicnhepaaDoorX

/-! ### lockfastref09_Many: function 20 -/
def lockfastref09_Many.l0 : Nat → Int → Int → Option (Int)
  | 0, _, _ => none
  | k + 1, x0, x3 => (lockfastref09_Block.f x0).bind fun t122 => (if t122 > 0 then ((lockfastref09_Block.f x0).bind fun t123 => (if (wrap64 ((wrap64 (x3 + 1)) * t123)) ≤ 32 then (lockfastref09_Many.l0 k x0 (wrap64 (x3 + 1))) else (some x3))) else (some x3))
def lockfastref09_Many.f (k : Nat) (a0 : Int) : Option (Int) := lockfastref09_Many.l0 k a0 0
theorem lockfastref09_Many.mono_l : ∀ k, (∀ y0 y1, LeO (lockfastref09_Many.l0 k y0 y1) (lockfastref09_Many.l0 (k + 1) y0 y1))
  | 0 => fun _ _ r h => by simp [lockfastref09_Many.l0] at h
  | k + 1 => by
    have ih0 := lockfastref09_Many.mono_l k
    · intro y0 y1
      unfold lockfastref09_Many.l0
      repeat' first
      | (with_reducible exact ih0 _ _)
      | (with_reducible exact LeO.refl _)
      | (with_reducible exact LeO.none _)
      | (with_reducible refine LeO.ite ?_ ?_)
      | (with_reducible refine LeO.bind ?_ (fun _ => ?_))
      | exact ih0 _ _
      | exact LeO.none _
      | refine LeO.ite ?_ ?_
      | refine LeO.bind ?_ (fun _ => ?_)
theorem lockfastref09_Many.mono : ∀ a0 k, LeO (lockfastref09_Many.f k a0) (lockfastref09_Many.f (k + 1) a0) := by
  intro a0 k
  have ih0 := lockfastref09_Many.mono_l k
  unfold lockfastref09_Many.f
  repeat' first
      | (with_reducible exact ih0 _ _)
      | (with_reducible exact LeO.refl _)
      | (with_reducible exact LeO.none _)
      | (with_reducible refine LeO.ite ?_ ?_)
      | (with_reducible refine LeO.bind ?_ (fun _ => ?_))
      | exact ih0 _ _
      | exact LeO.none _
      | refine LeO.ite ?_ ?_
      | refine LeO.bind ?_ (fun _ => ?_)
set_option maxHeartbeats 8000000 in
set_option maxRecDepth 100000 in
theorem lockfastref09_Many.calls (k : Nat) (a0 : Int) (r : Int) (w : World) (HG : GL w) (h : lockfastref09_Many.f k a0 = some r) :
    Calls Tryd.prog 20 #[.int .i64 a0] w fun e w' => e = .returned (.int .i64 r) ∧ Drawn0 w w' := by
  have H : (lockfastref09_Many.l0 k a0 0) = some r := h
  clear h
  have H' := Aside0.mk H
  clear H
  go_enter Tryd.func20, Tryd.ntmps20
  go_wp2
  go_loopg [3] k (fun kq v3 w' => ∃ (x3_1 : Int), v3 = .int .i64 x3_1 ∧ Aside0 (lockfastref09_Many.l0 kq a0 x3_1 = some r) ∧ Aside0 (kq ≤ k) ∧ Drawn0 w w')
  case atStart => exact ⟨(0), (by first | rfl | (simp; done) | (simp [*]; done)), H', ⟨Nat.le_refl _⟩, by repeat (first | exact Drawn0.refl _ | apply Drawn0.step)⟩
  case round =>
    clear H'
    obtain ⟨x3_1, rfl, HA, HK1, ⟨m1, rfl⟩⟩ := hrel
    cases gk with
    | zero => exact absurd HA.out (by simp [lockfastref09_Many.l0])
    | succ k1 =>
      have H := HA.out
      clear HA
      simp only [lockfastref09_Many.l0] at H
      replace H := Option.bind_eq_some_iff.mp H
      obtain ⟨t122, A20, H⟩ := H
      replace H : (if t122 > 0 then ((lockfastref09_Block.f a0).bind fun t123 => (if (wrap64 ((wrap64 (x3_1 + 1)) * t123)) ≤ 32 then (lockfastref09_Many.l0 k1 a0 (wrap64 (x3_1 + 1))) else (some x3_1))) else (some x3_1)) = some r := H
      have A2 := Aside0.mk A20
      clear A20
      by_cases c3 : t122 > 0
      · rw [if_pos c3] at H
        have c3b0 : decide (0 < t122) = true := decide_eq_true c3
        clear c3
        replace H := Option.bind_eq_some_iff.mp H
        obtain ⟨t123, A40, H⟩ := H
        replace H : (if (wrap64 ((wrap64 (x3_1 + 1)) * t123)) ≤ 32 then (lockfastref09_Many.l0 k1 a0 (wrap64 (x3_1 + 1))) else (some x3_1)) = some r := H
        have A4 := Aside0.mk A40
        clear A40
        by_cases c5 : (wrap64 ((wrap64 (x3_1 + 1)) * t123)) ≤ 32
        · rw [if_pos c5] at H
          have c5b0 : decide ((wrap64 ((wrap64 (x3_1 + 1)) * t123)) ≤ 32) = true := decide_eq_true c5
          clear c5
          have H' := Aside0.mk H
          clear H
          go_wp2_with (first | ((with_reducible refine gate_callee (f := 19) rfl ?_); refine goesL_ (some 5) rfl rfl Tryd.func19 (by kernel_rfl) rfl #[.int .i64 a0] rfl (by (try simp only [List.map_toArray, List.map_cons, List.map_nil]); first | done | rfl | (simp only [List.length_drop, List.length_take]; rfl)) ?_; (with_reducible refine (lockfastref09_Block.calls a0 t122 _ (by first | ((repeat (first | (with_reducible exact HG) | apply GL_drewN | apply GL_drew)); done) | exact GL_below HG (by repeat (first | (with_reducible first | exact HB.out | apply below_alloc | apply pw_below_drewN | apply below_drew1) | exact HB.out))) A2.out).mono ?_); rintro e w' ⟨rfl, ⟨nd, rfl⟩⟩; refine ⟨_, rfl, ?_⟩) | (go_at_call 19; (with_reducible refine (lockfastref09_Block.calls a0 t123 _ (by first | ((repeat (first | (with_reducible exact HG) | apply GL_drewN | apply GL_drew)); done) | exact GL_below HG (by repeat (first | (with_reducible first | exact HB.out | apply below_alloc | apply pw_below_drewN | apply below_drew1) | exact HB.out))) A4.out).mono ?_); rintro e w' ⟨rfl, ⟨nd, rfl⟩⟩))
          go_roundg k1
          case measure => have := HK1.out; omega
          case rel => exact ⟨(wrap64 (x3_1 + 1)), (by first | rfl | (simp; done) | (simp [*]; done)), H', ⟨by have := HK1.out; omega⟩, by repeat (first | exact Drawn0.refl _ | apply Drawn0.step)⟩
        · rw [if_neg c5] at H
          have c5b0 : decide ((wrap64 ((wrap64 (x3_1 + 1)) * t123)) ≤ 32) = false := decide_eq_false c5
          clear c5
          obtain rfl := Option.some.inj H
          simp only [Option.some.injEq, Prod.mk.injEq] at H
          obtain ⟨rfl⟩ := H
          go_wp2_with (first | ((with_reducible refine gate_callee (f := 19) rfl ?_); refine goesL_ (some 5) rfl rfl Tryd.func19 (by kernel_rfl) rfl #[.int .i64 a0] rfl (by (try simp only [List.map_toArray, List.map_cons, List.map_nil]); first | done | rfl | (simp only [List.length_drop, List.length_take]; rfl)) ?_; (with_reducible refine (lockfastref09_Block.calls a0 t122 _ (by first | ((repeat (first | (with_reducible exact HG) | apply GL_drewN | apply GL_drew)); done) | exact GL_below HG (by repeat (first | (with_reducible first | exact HB.out | apply below_alloc | apply pw_below_drewN | apply below_drew1) | exact HB.out))) A2.out).mono ?_); rintro e w' ⟨rfl, ⟨nd, rfl⟩⟩; refine ⟨_, rfl, ?_⟩) | (go_at_call 19; (with_reducible refine (lockfastref09_Block.calls a0 t123 _ (by first | ((repeat (first | (with_reducible exact HG) | apply GL_drewN | apply GL_drew)); done) | exact GL_below HG (by repeat (first | (with_reducible first | exact HB.out | apply below_alloc | apply pw_below_drewN | apply below_drew1) | exact HB.out))) A4.out).mono ?_); rintro e w' ⟨rfl, ⟨nd, rfl⟩⟩))
          go_ret
          exact ⟨by first | rfl | (simp; done) | (simp [*]; done), by repeat (first | exact Drawn0.refl _ | apply Drawn0.step)⟩
      · rw [if_neg c3] at H
        have c3b0 : decide (0 < t122) = false := decide_eq_false c3
        clear c3
        obtain rfl := Option.some.inj H
        simp only [Option.some.injEq, Prod.mk.injEq] at H
        obtain ⟨rfl⟩ := H
        go_wp2_with (first | ((with_reducible refine gate_callee (f := 19) rfl ?_); refine goesL_ (some 5) rfl rfl Tryd.func19 (by kernel_rfl) rfl #[.int .i64 a0] rfl (by (try simp only [List.map_toArray, List.map_cons, List.map_nil]); first | done | rfl | (simp only [List.length_drop, List.length_take]; rfl)) ?_; (with_reducible refine (lockfastref09_Block.calls a0 t122 _ (by first | ((repeat (first | (with_reducible exact HG) | apply GL_drewN | apply GL_drew)); done) | exact GL_below HG (by repeat (first | (with_reducible first | exact HB.out | apply below_alloc | apply pw_below_drewN | apply below_drew1) | exact HB.out))) A2.out).mono ?_); rintro e w' ⟨rfl, ⟨nd, rfl⟩⟩; refine ⟨_, rfl, ?_⟩))
        go_ret
        exact ⟨by first | rfl | (simp; done) | (simp [*]; done), by repeat (first | exact Drawn0.refl _ | apply Drawn0.step)⟩

/-! ### lockfastlaw09_ClassTells: function 4 -/
def lockfastlaw09_ClassTells.f (k : Nat) (a0 : Int) (a1 : Int) : Option (Bool) := (lockfastlaw09_awake.f).bind fun t124 => (if t124 = true then ((class_Right.f a0).bind fun t125 => ((lockfastref09_Right.f a0).bind fun t126 => (if (t125 == t126) = true then ((class_Of.f a0).bind fun t127 => ((lockfastref09_Of.f k a0).bind fun t128 => (if t127 = t128 then ((class_Chunks.f a0).bind fun t129 => ((lockfastref09_Chunks.f k a0).bind fun t130 => (if t129 = t130 then ((class_Room.f a0).bind fun t131 => ((lockfastref09_Room.f k a0).bind fun t132 => (if t131 = t132 then ((class_Block.f a1).bind fun t133 => ((lockfastref09_Block.f a1).bind fun t134 => (if t133 = t134 then ((class_Many.f a1).bind fun t135 => ((lockfastref09_Many.f k a1).bind fun t136 => (some (t135 == t136)))) else (some false)))) else (some false)))) else (some false)))) else (some false)))) else (some false)))) else (some false))
theorem lockfastlaw09_ClassTells.mono : ∀ a0 a1 k, LeO (lockfastlaw09_ClassTells.f k a0 a1) (lockfastlaw09_ClassTells.f (k + 1) a0 a1) := by
  intro a0 a1 k
  unfold lockfastlaw09_ClassTells.f
  repeat' first
      | (with_reducible exact lockfastref09_Chunks.mono _ _)
      | (with_reducible exact lockfastref09_Many.mono _ _)
      | (with_reducible exact lockfastref09_Of.mono _ _)
      | (with_reducible exact lockfastref09_Room.mono _ _)
      | (with_reducible exact LeO.refl _)
      | (with_reducible exact LeO.none _)
      | (with_reducible refine LeO.ite ?_ ?_)
      | (with_reducible refine LeO.bind ?_ (fun _ => ?_))
      | exact lockfastref09_Chunks.mono _ _
      | exact lockfastref09_Many.mono _ _
      | exact lockfastref09_Of.mono _ _
      | exact lockfastref09_Room.mono _ _
      | exact LeO.none _
      | refine LeO.ite ?_ ?_
      | refine LeO.bind ?_ (fun _ => ?_)
set_option maxHeartbeats 8000000 in
set_option maxRecDepth 100000 in
theorem lockfastlaw09_ClassTells.calls (k : Nat) (a0 : Int) (a1 : Int) (r : Bool) (w : World) (HG : GL w) (hrt : r = true) (h : lockfastlaw09_ClassTells.f k a0 a1 = some r) :
    Calls Tryd.prog 4 #[.int .i64 a0, .int .i64 a1] w fun e w' => e = .returned (.bool r) ∧ Drawn0 w w' := by
  have H : ((lockfastlaw09_awake.f).bind fun t124 => (if t124 = true then ((class_Right.f a0).bind fun t125 => ((lockfastref09_Right.f a0).bind fun t126 => (if (t125 == t126) = true then ((class_Of.f a0).bind fun t127 => ((lockfastref09_Of.f k a0).bind fun t128 => (if t127 = t128 then ((class_Chunks.f a0).bind fun t129 => ((lockfastref09_Chunks.f k a0).bind fun t130 => (if t129 = t130 then ((class_Room.f a0).bind fun t131 => ((lockfastref09_Room.f k a0).bind fun t132 => (if t131 = t132 then ((class_Block.f a1).bind fun t133 => ((lockfastref09_Block.f a1).bind fun t134 => (if t133 = t134 then ((class_Many.f a1).bind fun t135 => ((lockfastref09_Many.f k a1).bind fun t136 => (some (t135 == t136)))) else (some false)))) else (some false)))) else (some false)))) else (some false)))) else (some false)))) else (some false))) = some r := h
  clear h
  have HRT := Aside0.mk hrt
  clear hrt
  replace H := Option.bind_eq_some_iff.mp H
  obtain ⟨t124, A30, H⟩ := H
  replace H : (if t124 = true then ((class_Right.f a0).bind fun t125 => ((lockfastref09_Right.f a0).bind fun t126 => (if (t125 == t126) = true then ((class_Of.f a0).bind fun t127 => ((lockfastref09_Of.f k a0).bind fun t128 => (if t127 = t128 then ((class_Chunks.f a0).bind fun t129 => ((lockfastref09_Chunks.f k a0).bind fun t130 => (if t129 = t130 then ((class_Room.f a0).bind fun t131 => ((lockfastref09_Room.f k a0).bind fun t132 => (if t131 = t132 then ((class_Block.f a1).bind fun t133 => ((lockfastref09_Block.f a1).bind fun t134 => (if t133 = t134 then ((class_Many.f a1).bind fun t135 => ((lockfastref09_Many.f k a1).bind fun t136 => (some (t135 == t136)))) else (some false)))) else (some false)))) else (some false)))) else (some false)))) else (some false)))) else (some false)) = some r := H
  have A3 := Aside0.mk A30
  clear A30
  by_cases c4 : t124 = true
  · subst c4
    have H1 : ((class_Right.f a0).bind fun t125 => ((lockfastref09_Right.f a0).bind fun t126 => (if (t125 == t126) = true then ((class_Of.f a0).bind fun t127 => ((lockfastref09_Of.f k a0).bind fun t128 => (if t127 = t128 then ((class_Chunks.f a0).bind fun t129 => ((lockfastref09_Chunks.f k a0).bind fun t130 => (if t129 = t130 then ((class_Room.f a0).bind fun t131 => ((lockfastref09_Room.f k a0).bind fun t132 => (if t131 = t132 then ((class_Block.f a1).bind fun t133 => ((lockfastref09_Block.f a1).bind fun t134 => (if t133 = t134 then ((class_Many.f a1).bind fun t135 => ((lockfastref09_Many.f k a1).bind fun t136 => (some (t135 == t136)))) else (some false)))) else (some false)))) else (some false)))) else (some false)))) else (some false)))) = some r := by rw [if_pos rfl] at H; exact H
    clear H
    have H := H1
    clear H1
    replace H := Option.bind_eq_some_iff.mp H
    obtain ⟨t125, A50, H⟩ := H
    replace H : ((lockfastref09_Right.f a0).bind fun t126 => (if (t125 == t126) = true then ((class_Of.f a0).bind fun t127 => ((lockfastref09_Of.f k a0).bind fun t128 => (if t127 = t128 then ((class_Chunks.f a0).bind fun t129 => ((lockfastref09_Chunks.f k a0).bind fun t130 => (if t129 = t130 then ((class_Room.f a0).bind fun t131 => ((lockfastref09_Room.f k a0).bind fun t132 => (if t131 = t132 then ((class_Block.f a1).bind fun t133 => ((lockfastref09_Block.f a1).bind fun t134 => (if t133 = t134 then ((class_Many.f a1).bind fun t135 => ((lockfastref09_Many.f k a1).bind fun t136 => (some (t135 == t136)))) else (some false)))) else (some false)))) else (some false)))) else (some false)))) else (some false))) = some r := H
    have A5 := Aside0.mk A50
    clear A50
    replace H := Option.bind_eq_some_iff.mp H
    obtain ⟨t126, A60, H⟩ := H
    replace H : (if (t125 == t126) = true then ((class_Of.f a0).bind fun t127 => ((lockfastref09_Of.f k a0).bind fun t128 => (if t127 = t128 then ((class_Chunks.f a0).bind fun t129 => ((lockfastref09_Chunks.f k a0).bind fun t130 => (if t129 = t130 then ((class_Room.f a0).bind fun t131 => ((lockfastref09_Room.f k a0).bind fun t132 => (if t131 = t132 then ((class_Block.f a1).bind fun t133 => ((lockfastref09_Block.f a1).bind fun t134 => (if t133 = t134 then ((class_Many.f a1).bind fun t135 => ((lockfastref09_Many.f k a1).bind fun t136 => (some (t135 == t136)))) else (some false)))) else (some false)))) else (some false)))) else (some false)))) else (some false)) = some r := H
    have A6 := Aside0.mk A60
    clear A60
    by_cases c7 : (t125 == t126) = true
    · rw [if_pos c7] at H
      have c7b0 : (t125 == t126) = true := c7
      (try (have c7b1 : decide (t125 = t126) = true := by simpa using c7))
      (try (have c7b2 : (t125 == t126) = true := by simpa using c7))
      clear c7
      replace H := Option.bind_eq_some_iff.mp H
      obtain ⟨t127, A80, H⟩ := H
      replace H : ((lockfastref09_Of.f k a0).bind fun t128 => (if t127 = t128 then ((class_Chunks.f a0).bind fun t129 => ((lockfastref09_Chunks.f k a0).bind fun t130 => (if t129 = t130 then ((class_Room.f a0).bind fun t131 => ((lockfastref09_Room.f k a0).bind fun t132 => (if t131 = t132 then ((class_Block.f a1).bind fun t133 => ((lockfastref09_Block.f a1).bind fun t134 => (if t133 = t134 then ((class_Many.f a1).bind fun t135 => ((lockfastref09_Many.f k a1).bind fun t136 => (some (t135 == t136)))) else (some false)))) else (some false)))) else (some false)))) else (some false))) = some r := H
      have A8 := Aside0.mk A80
      clear A80
      replace H := Option.bind_eq_some_iff.mp H
      obtain ⟨t128, A90, H⟩ := H
      replace H : (if t127 = t128 then ((class_Chunks.f a0).bind fun t129 => ((lockfastref09_Chunks.f k a0).bind fun t130 => (if t129 = t130 then ((class_Room.f a0).bind fun t131 => ((lockfastref09_Room.f k a0).bind fun t132 => (if t131 = t132 then ((class_Block.f a1).bind fun t133 => ((lockfastref09_Block.f a1).bind fun t134 => (if t133 = t134 then ((class_Many.f a1).bind fun t135 => ((lockfastref09_Many.f k a1).bind fun t136 => (some (t135 == t136)))) else (some false)))) else (some false)))) else (some false)))) else (some false)) = some r := H
      have A9 := Aside0.mk A90
      clear A90
      by_cases c10 : t127 = t128
      · rw [if_pos c10] at H
        have c10b0 : (t127 == t128) = true := beq_iff_eq.mpr c10
        have c10b1 : (t127 != t128) = false := bne_eq_false_iff_eq.mpr c10
        clear c10
        replace H := Option.bind_eq_some_iff.mp H
        obtain ⟨t129, A110, H⟩ := H
        replace H : ((lockfastref09_Chunks.f k a0).bind fun t130 => (if t129 = t130 then ((class_Room.f a0).bind fun t131 => ((lockfastref09_Room.f k a0).bind fun t132 => (if t131 = t132 then ((class_Block.f a1).bind fun t133 => ((lockfastref09_Block.f a1).bind fun t134 => (if t133 = t134 then ((class_Many.f a1).bind fun t135 => ((lockfastref09_Many.f k a1).bind fun t136 => (some (t135 == t136)))) else (some false)))) else (some false)))) else (some false))) = some r := H
        have A11 := Aside0.mk A110
        clear A110
        replace H := Option.bind_eq_some_iff.mp H
        obtain ⟨t130, A120, H⟩ := H
        replace H : (if t129 = t130 then ((class_Room.f a0).bind fun t131 => ((lockfastref09_Room.f k a0).bind fun t132 => (if t131 = t132 then ((class_Block.f a1).bind fun t133 => ((lockfastref09_Block.f a1).bind fun t134 => (if t133 = t134 then ((class_Many.f a1).bind fun t135 => ((lockfastref09_Many.f k a1).bind fun t136 => (some (t135 == t136)))) else (some false)))) else (some false)))) else (some false)) = some r := H
        have A12 := Aside0.mk A120
        clear A120
        by_cases c13 : t129 = t130
        · rw [if_pos c13] at H
          have c13b0 : (t129 == t130) = true := beq_iff_eq.mpr c13
          have c13b1 : (t129 != t130) = false := bne_eq_false_iff_eq.mpr c13
          clear c13
          replace H := Option.bind_eq_some_iff.mp H
          obtain ⟨t131, A140, H⟩ := H
          replace H : ((lockfastref09_Room.f k a0).bind fun t132 => (if t131 = t132 then ((class_Block.f a1).bind fun t133 => ((lockfastref09_Block.f a1).bind fun t134 => (if t133 = t134 then ((class_Many.f a1).bind fun t135 => ((lockfastref09_Many.f k a1).bind fun t136 => (some (t135 == t136)))) else (some false)))) else (some false))) = some r := H
          have A14 := Aside0.mk A140
          clear A140
          replace H := Option.bind_eq_some_iff.mp H
          obtain ⟨t132, A150, H⟩ := H
          replace H : (if t131 = t132 then ((class_Block.f a1).bind fun t133 => ((lockfastref09_Block.f a1).bind fun t134 => (if t133 = t134 then ((class_Many.f a1).bind fun t135 => ((lockfastref09_Many.f k a1).bind fun t136 => (some (t135 == t136)))) else (some false)))) else (some false)) = some r := H
          have A15 := Aside0.mk A150
          clear A150
          by_cases c16 : t131 = t132
          · rw [if_pos c16] at H
            have c16b0 : (t131 == t132) = true := beq_iff_eq.mpr c16
            have c16b1 : (t131 != t132) = false := bne_eq_false_iff_eq.mpr c16
            clear c16
            replace H := Option.bind_eq_some_iff.mp H
            obtain ⟨t133, A170, H⟩ := H
            replace H : ((lockfastref09_Block.f a1).bind fun t134 => (if t133 = t134 then ((class_Many.f a1).bind fun t135 => ((lockfastref09_Many.f k a1).bind fun t136 => (some (t135 == t136)))) else (some false))) = some r := H
            have A17 := Aside0.mk A170
            clear A170
            replace H := Option.bind_eq_some_iff.mp H
            obtain ⟨t134, A180, H⟩ := H
            replace H : (if t133 = t134 then ((class_Many.f a1).bind fun t135 => ((lockfastref09_Many.f k a1).bind fun t136 => (some (t135 == t136)))) else (some false)) = some r := H
            have A18 := Aside0.mk A180
            clear A180
            by_cases c19 : t133 = t134
            · rw [if_pos c19] at H
              have c19b0 : (t133 == t134) = true := beq_iff_eq.mpr c19
              have c19b1 : (t133 != t134) = false := bne_eq_false_iff_eq.mpr c19
              clear c19
              replace H := Option.bind_eq_some_iff.mp H
              obtain ⟨t135, A200, H⟩ := H
              replace H : ((lockfastref09_Many.f k a1).bind fun t136 => (some (t135 == t136))) = some r := H
              have A20 := Aside0.mk A200
              clear A200
              replace H := Option.bind_eq_some_iff.mp H
              obtain ⟨t136, A210, H⟩ := H
              replace H : (some (t135 == t136)) = some r := H
              have A21 := Aside0.mk A210
              clear A210
              obtain rfl := Option.some.inj H
              simp only [Option.some.injEq, Prod.mk.injEq] at H
              obtain ⟨rfl⟩ := H
              go_enter Tryd.func4, Tryd.ntmps4
              go_wp2_with (first | ((with_reducible refine gate_callee (f := 8) rfl ?_); refine goesL_ (some 6) rfl rfl Tryd.func8 (by kernel_rfl) rfl #[] rfl (by (try simp only [List.map_toArray, List.map_cons, List.map_nil]); first | done | rfl | (simp only [List.length_drop, List.length_take]; rfl)) ?_; (with_reducible refine (lockfastlaw09_awake.calls  true _ (by first | ((repeat (first | (with_reducible exact HG) | apply GL_drewN | apply GL_drew)); done) | exact GL_below HG (by repeat (first | (with_reducible first | exact HB.out | apply below_alloc | apply pw_below_drewN | apply below_drew1) | exact HB.out))) A3.out).mono ?_); rintro e w' ⟨rfl, ⟨nd, rfl⟩⟩; refine ⟨_, rfl, ?_⟩) | (go_at_call 11; (with_reducible refine (class_Right.calls a0 t125 _ (by first | ((repeat (first | (with_reducible exact HG) | apply GL_drewN | apply GL_drew)); done) | exact GL_below HG (by repeat (first | (with_reducible first | exact HB.out | apply below_alloc | apply pw_below_drewN | apply below_drew1) | exact HB.out))) A5.out).mono ?_); rintro e w' ⟨rfl, ⟨nd, rfl⟩⟩) | (go_at_call 12; (with_reducible refine (lockfastref09_Right.calls a0 t126 _ (by first | ((repeat (first | (with_reducible exact HG) | apply GL_drewN | apply GL_drew)); done) | exact GL_below HG (by repeat (first | (with_reducible first | exact HB.out | apply below_alloc | apply pw_below_drewN | apply below_drew1) | exact HB.out))) A6.out).mono ?_); rintro e w' ⟨rfl, ⟨nd, rfl⟩⟩) | (go_at_call 13; (with_reducible refine (class_Of.calls a0 t127 _ (by first | ((repeat (first | (with_reducible exact HG) | apply GL_drewN | apply GL_drew)); done) | exact GL_below HG (by repeat (first | (with_reducible first | exact HB.out | apply below_alloc | apply pw_below_drewN | apply below_drew1) | exact HB.out))) A8.out).mono ?_); rintro e w' ⟨rfl, ⟨nd, rfl⟩⟩) | (go_at_call 14; (with_reducible refine (lockfastref09_Of.calls k a0 t128 _ (by first | ((repeat (first | (with_reducible exact HG) | apply GL_drewN | apply GL_drew)); done) | exact GL_below HG (by repeat (first | (with_reducible first | exact HB.out | apply below_alloc | apply pw_below_drewN | apply below_drew1) | exact HB.out))) A9.out).mono ?_); rintro e w' ⟨rfl, ⟨nd, rfl⟩⟩) | (go_at_call 15; (with_reducible refine (class_Chunks.calls a0 t129 _ (by first | ((repeat (first | (with_reducible exact HG) | apply GL_drewN | apply GL_drew)); done) | exact GL_below HG (by repeat (first | (with_reducible first | exact HB.out | apply below_alloc | apply pw_below_drewN | apply below_drew1) | exact HB.out))) A11.out).mono ?_); rintro e w' ⟨rfl, ⟨nd, rfl⟩⟩) | (go_at_call 16; (with_reducible refine (lockfastref09_Chunks.calls k a0 t130 _ (by first | ((repeat (first | (with_reducible exact HG) | apply GL_drewN | apply GL_drew)); done) | exact GL_below HG (by repeat (first | (with_reducible first | exact HB.out | apply below_alloc | apply pw_below_drewN | apply below_drew1) | exact HB.out))) A12.out).mono ?_); rintro e w' ⟨rfl, ⟨nd, rfl⟩⟩) | (go_at_call 17; (with_reducible refine (class_Room.calls a0 t131 _ (by first | ((repeat (first | (with_reducible exact HG) | apply GL_drewN | apply GL_drew)); done) | exact GL_below HG (by repeat (first | (with_reducible first | exact HB.out | apply below_alloc | apply pw_below_drewN | apply below_drew1) | exact HB.out))) A14.out).mono ?_); rintro e w' ⟨rfl, ⟨nd, rfl⟩⟩) | (go_at_call 18; (with_reducible refine (lockfastref09_Room.calls k a0 t132 _ (by first | ((repeat (first | (with_reducible exact HG) | apply GL_drewN | apply GL_drew)); done) | exact GL_below HG (by repeat (first | (with_reducible first | exact HB.out | apply below_alloc | apply pw_below_drewN | apply below_drew1) | exact HB.out))) A15.out).mono ?_); rintro e w' ⟨rfl, ⟨nd, rfl⟩⟩) | (go_at_call 9; (with_reducible refine (class_Block.calls a1 t133 _ (by first | ((repeat (first | (with_reducible exact HG) | apply GL_drewN | apply GL_drew)); done) | exact GL_below HG (by repeat (first | (with_reducible first | exact HB.out | apply below_alloc | apply pw_below_drewN | apply below_drew1) | exact HB.out))) A17.out).mono ?_); rintro e w' ⟨rfl, ⟨nd, rfl⟩⟩) | (go_at_call 19; (with_reducible refine (lockfastref09_Block.calls a1 t134 _ (by first | ((repeat (first | (with_reducible exact HG) | apply GL_drewN | apply GL_drew)); done) | exact GL_below HG (by repeat (first | (with_reducible first | exact HB.out | apply below_alloc | apply pw_below_drewN | apply below_drew1) | exact HB.out))) A18.out).mono ?_); rintro e w' ⟨rfl, ⟨nd, rfl⟩⟩) | (go_at_call 10; (with_reducible refine (class_Many.calls a1 t135 _ (by first | ((repeat (first | (with_reducible exact HG) | apply GL_drewN | apply GL_drew)); done) | exact GL_below HG (by repeat (first | (with_reducible first | exact HB.out | apply below_alloc | apply pw_below_drewN | apply below_drew1) | exact HB.out))) A20.out).mono ?_); rintro e w' ⟨rfl, ⟨nd, rfl⟩⟩) | (go_at_call 20; (with_reducible refine (lockfastref09_Many.calls k a1 t136 _ (by first | ((repeat (first | (with_reducible exact HG) | apply GL_drewN | apply GL_drew)); done) | exact GL_below HG (by repeat (first | (with_reducible first | exact HB.out | apply below_alloc | apply pw_below_drewN | apply below_drew1) | exact HB.out))) A21.out).mono ?_); rintro e w' ⟨rfl, ⟨nd, rfl⟩⟩))
              go_ret
              exact ⟨by first | rfl | (simp; done) | (simp [*]; done), by repeat (first | exact Drawn0.refl _ | apply Drawn0.step)⟩
            · rw [if_neg c19] at H
              have c19b0 : (t133 == t134) = false := beq_eq_false_iff_ne.mpr c19
              have c19b1 : (t133 != t134) = true := bne_iff_ne.mpr c19
              obtain rfl := Option.some.inj H
              exact absurd HRT.out (by decide)
          · rw [if_neg c16] at H
            have c16b0 : (t131 == t132) = false := beq_eq_false_iff_ne.mpr c16
            have c16b1 : (t131 != t132) = true := bne_iff_ne.mpr c16
            obtain rfl := Option.some.inj H
            exact absurd HRT.out (by decide)
        · rw [if_neg c13] at H
          have c13b0 : (t129 == t130) = false := beq_eq_false_iff_ne.mpr c13
          have c13b1 : (t129 != t130) = true := bne_iff_ne.mpr c13
          obtain rfl := Option.some.inj H
          exact absurd HRT.out (by decide)
      · rw [if_neg c10] at H
        have c10b0 : (t127 == t128) = false := beq_eq_false_iff_ne.mpr c10
        have c10b1 : (t127 != t128) = true := bne_iff_ne.mpr c10
        obtain rfl := Option.some.inj H
        exact absurd HRT.out (by decide)
    · rw [if_neg c7] at H
      have c7b0 : (t125 == t126) = false := by simpa using c7
      (try (have c7b1 : decide (t125 = t126) = false := by simpa using c7))
      (try (have c7b2 : (t125 == t126) = false := by simpa using c7))
      (try (have c7b3 : ¬ (t125 = t126) := by simpa using c7))
      clear c7
      obtain rfl := Option.some.inj H
      exact absurd HRT.out (by decide)
  · replace c4 := Bool.eq_false_iff.mpr c4
    subst c4
    have H1 : (some false) = some r := by rw [if_neg (show ¬ (false = true) by decide)] at H; exact H
    clear H
    have H := H1
    clear H1
    obtain rfl := Option.some.inj H
    exact absurd HRT.out (by decide)

/-- The one pure statement of lockfastlaw09_ClassTells. -/
def lockfastlaw09_ClassTells.Pure : Prop := ∀ (a0 : Int) (a1 : Int), (Lit.int .i64 a0).wf = true → (Lit.int .i64 a1).wf = true → ∃ k, lockfastlaw09_ClassTells.f k a0 a1 = some true

end Go.Proofs.YtnkigdcicnhepaaDoor.PClassTells
