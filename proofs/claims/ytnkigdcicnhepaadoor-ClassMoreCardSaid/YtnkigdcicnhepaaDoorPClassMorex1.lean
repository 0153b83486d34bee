-- WRITTEN FOR THIS CLAIM by given.py, a program of this session's: the kit's printer, run with contracts of the session's own. It is not a text of print.sh's.
import Derived.Test.YtnkigdcicnhepaaDoorPClassMorex0
namespace Go.Proofs.YtnkigdcicnhepaaDoor.PClassMore
open Go.RowKit Go.Proofs.YtnkigdcicnhepaaDoorW.PrintWords Go.Proofs.YtnkigdcicnhepaaDoorW.PrintLast Go.Proofs.YtnkigdcicnhepaaDoorW.PrintMore
attribute [local go_sem] max2_int min2_int max_two min_two max_three min_three max_four min_four   -- for this text's walks alone
set_option linter.unusedVariables false
set_option linter.unusedSimpArgs false
open Go.Proofs.YtnkigdcicnhepaaDoorX

/-! ### class_Block: function 9: a contract of the session's own -/
def class_Block.f (a0 : Int) : Option (Int) := if a0 < 0 then some 0 else if a0 ≥ 3 then some 0 else if a0 = 0 then some 4 else if a0 = 1 then some 8 else some 16
theorem class_Block.calls (a0 : Int) (r : Int) (w : World) (HG : GL w) (h : class_Block.f a0 = some r) :
    Calls Tryd.prog 9 #[.int .i64 a0] w fun e w' => e = .returned (.int .i64 r) ∧ Drawn0 w w' := by
  obtain ⟨g0, g1, g2⟩ := HG
  unfold class_Block.f at h
  by_cases h1 : a0 < 0
  · rw [if_pos h1] at h; obtain rfl := Option.some.inj h
    go_enter Tryd.func9, Tryd.ntmps9
    go_wp2
    go_ret
    exact ⟨rfl, ⟨0, rfl⟩⟩
  · rw [if_neg h1] at h
    by_cases h2 : a0 ≥ 3
    · rw [if_pos h2] at h; obtain rfl := Option.some.inj h
      go_enter Tryd.func9, Tryd.ntmps9
      go_wp2
      go_ret
      exact ⟨rfl, ⟨0, rfl⟩⟩
    · rw [if_neg h2] at h
      by_cases h3 : a0 = 0
      · subst h3; rw [if_pos rfl] at h; obtain rfl := Option.some.inj h
        go_enter Tryd.func9, Tryd.ntmps9
        go_wp2
        go_ret
        exact ⟨rfl, ⟨0, rfl⟩⟩
      · rw [if_neg h3] at h
        by_cases h4 : a0 = 1
        · subst h4; rw [if_pos rfl] at h; obtain rfl := Option.some.inj h
          go_enter Tryd.func9, Tryd.ntmps9
          go_wp2
          go_ret
          exact ⟨rfl, ⟨0, rfl⟩⟩
        · rw [if_neg h4] at h; obtain rfl := Option.some.inj h
          obtain rfl : a0 = 2 := by omega
          go_enter Tryd.func9, Tryd.ntmps9
          go_wp2
          go_ret
          exact ⟨rfl, ⟨0, rfl⟩⟩

/-! ### class_Many: function 10: a contract of the session's own -/
def class_Many.f (a0 : Int) : Option (Int) := (class_Block.f a0).bind fun t => if t = 0 then some 0 else some (32 / t)
theorem class_Many.calls (a0 : Int) (r : Int) (w : World) (HG : GL w) (h : class_Many.f a0 = some r) :
    Calls Tryd.prog 10 #[.int .i64 a0] w fun e w' => e = .returned (.int .i64 r) ∧ Drawn0 w w' := by
  unfold class_Many.f at h
  obtain ⟨t, ht, h⟩ := Option.bind_eq_some_iff.mp h
  have hv : t = 0 ∨ t = 4 ∨ t = 8 ∨ t = 16 := by
    unfold class_Block.f at ht
    repeat' split at ht
    all_goals (obtain rfl := Option.some.inj ht; simp)
  have HT := Aside0.mk ht
  rcases hv with rfl | rfl | rfl | rfl
  all_goals
    simp only [if_pos, Int.reduceEq, if_false, Int.reduceDiv] at h
    obtain rfl := Option.some.inj h
    clear h ht
    go_enter Tryd.func10, Tryd.ntmps10
    go_wp2_with (go_at_call 9; refine (class_Block.calls _ _ _ HG HT.out).mono ?_; rintro e w' ⟨rfl, ⟨nd, rfl⟩⟩)
    go_ret
    exact ⟨rfl, ⟨_, rfl⟩⟩

/-! ### class_Right: function 11 -/
def class_Right.f (a0 : Int) : Option (Bool) := if a0 ≥ 0 then (some (decide (a0 ≤ 4096))) else (some false)
set_option maxHeartbeats 8000000 in
set_option maxRecDepth 100000 in
theorem class_Right.calls (a0 : Int) (r : Bool) (w : World) (HG : GL w) (h : class_Right.f a0 = some r) :
    Calls Tryd.prog 11 #[.int .i64 a0] w fun e w' => e = .returned (.bool r) ∧ Drawn0 w w' := by
  have H : (if a0 ≥ 0 then (some (decide (a0 ≤ 4096))) else (some false)) = some r := h
  clear h
  by_cases c2 : a0 ≥ 0
  · rw [if_pos c2] at H
    have c2b0 : decide (0 ≤ a0) = true := decide_eq_true c2
    clear c2
    obtain rfl := Option.some.inj H
    simp only [Option.some.injEq, Prod.mk.injEq] at H
    obtain ⟨rfl⟩ := H
    go_enter Tryd.func11, Tryd.ntmps11
    go_wp2
    go_ret
    exact ⟨by first | rfl | (simp; done) | (simp [*]; done), by repeat (first | exact Drawn0.refl _ | apply Drawn0.step)⟩
  · rw [if_neg c2] at H
    have c2b0 : decide (0 ≤ a0) = false := decide_eq_false c2
    clear c2
    obtain rfl := Option.some.inj H
    simp only [Option.some.injEq, Prod.mk.injEq] at H
    obtain ⟨rfl⟩ := H
    go_enter Tryd.func11, Tryd.ntmps11
    go_wp2
    go_ret
    exact ⟨by first | rfl | (simp; done) | (simp [*]; done), by repeat (first | exact Drawn0.refl _ | apply Drawn0.step)⟩

/-! ### class_takes: function 21 -/
def class_takes.f (a0 : Int) : Option (Int) := some (wrap64 (a0 + 2))
set_option maxHeartbeats 8000000 in
set_option maxRecDepth 100000 in
theorem class_takes.calls (a0 : Int) (r : Int) (w : World) (HG : GL w) (h : class_takes.f a0 = some r) :
    Calls Tryd.prog 21 #[.int .i64 a0] w fun e w' => e = .returned (.int .i64 r) ∧ Drawn0 w w' := by
  have H : (some (wrap64 (a0 + 2))) = some r := h
  clear h
  obtain rfl := Option.some.inj H
  simp only [Option.some.injEq, Prod.mk.injEq] at H
  obtain ⟨rfl⟩ := H
  go_enter Tryd.func21, Tryd.ntmps21
  go_wp2
  go_ret
  exact ⟨by first | rfl | (simp; done) | (simp [*]; done), by repeat (first | exact Drawn0.refl _ | apply Drawn0.step)⟩

/-! ### class_Of: function 13: a contract of the session's own -/
def class_Of.f (a0 : Int) : Option (Int) := (class_Right.f a0).bind fun t => if t = true then (some (if a0 + 2 ≤ 4 then 0 else if a0 + 2 ≤ 8 then 1 else if a0 + 2 ≤ 16 then 2 else -1)) else some (-1)
theorem class_Of.calls (a0 : Int) (r : Int) (w : World) (HG : GL w) (h : class_Of.f a0 = some r) :
    Calls Tryd.prog 13 #[.int .i64 a0] w fun e w' => e = .returned (.int .i64 r) ∧ Drawn0 w w' := by
  unfold class_Of.f at h
  obtain ⟨t, ht, h⟩ := Option.bind_eq_some_iff.mp h
  have hb : t = true → 0 ≤ a0 ∧ a0 ≤ 4096 := by
    unfold class_Right.f at ht
    intro hh; subst hh
    split at ht
    · have := Option.some.inj ht; simp at this; omega
    · cases ht
  have HT := Aside0.mk ht
  clear ht
  cases t with
  | false =>
    simp only [Bool.false_eq_true, if_false] at h
    obtain rfl := Option.some.inj h
    go_enter Tryd.func13, Tryd.ntmps13
    go_wp2_with (go_at_call 11; refine (class_Right.calls _ _ _ HG HT.out).mono ?_; rintro e w' ⟨rfl, ⟨nd, rfl⟩⟩)
    go_ret
    exact ⟨rfl, ⟨_, rfl⟩⟩
  | true =>
    obtain ⟨h0, h1⟩ := hb rfl
    clear hb
    simp only [if_true] at h
    obtain rfl := Option.some.inj h
    clear h
    have hk : class_takes.f a0 = some (a0 + 2) := by unfold class_takes.f; congr 1; unfold wrap64; omega
    have HK := Aside0.mk hk
    clear hk
    obtain ⟨g0, g1, g2⟩ := id HG
    have i0 : ∀ w, (Instr.index 30 (.agg #[.int .i64 4, .int .i64 8, .int .i64 16]) (.int .i64 0)).run Tryd.prog w = .ok (.int .i64 4) w := fun _ => by kernel_rfl
    have i1 : ∀ w, (Instr.index 30 (.agg #[.int .i64 4, .int .i64 8, .int .i64 16]) (.int .i64 1)).run Tryd.prog w = .ok (.int .i64 8) w := fun _ => by kernel_rfl
    have i2 : ∀ w, (Instr.index 30 (.agg #[.int .i64 4, .int .i64 8, .int .i64 16]) (.int .i64 2)).run Tryd.prog w = .ok (.int .i64 16) w := fun _ => by kernel_rfl
    go_enter Tryd.func13, Tryd.ntmps13
    go_wp2_with (go_at_call 11; refine (class_Right.calls _ _ _ HG HT.out).mono ?_; rintro e w' ⟨rfl, ⟨nd, rfl⟩⟩)
    go_loopw [3, 4, 9] (fun _ _ i w' => ∃ (k : Nat) (n : Nat), k ≤ 3 ∧ i = .int .i64 k ∧ w' = w.drewN n ∧ (1 ≤ k → 4 < a0 + 2) ∧ (2 ≤ k → 8 < a0 + 2) ∧ (3 ≤ k → 16 < a0 + 2)) (fun _ _ i _ => 3 - (intOf i).toNat)
    case atStart => exact ⟨0, nd, by omega, rfl, rfl, by omega, by omega, by omega⟩
    case round =>
      obtain ⟨k, n, hk, rfl, rfl, c1, c2, c3⟩ := hrel
      have hc : k = 0 ∨ k = 1 ∨ k = 2 ∨ k = 3 := by omega
      clear hk
      rcases hc with rfl | rfl | rfl | rfl
      · clear c1 c2 c3
        by_cases hlt : a0 + 2 ≤ 4
        · have hd : decide (a0 + 2 ≤ 4) = true := decide_eq_true hlt
          go_wp2_with (go_at_call 21; refine (class_takes.calls _ _ _ (GL_drewN HG _) HK.out).mono ?_; rintro e w' ⟨rfl, ⟨ne, rfl⟩⟩)
          go_ret
          exact ⟨by first | rfl | (simp; done), ⟨_, rfl⟩⟩
        · have hd : decide (a0 + 2 ≤ 4) = false := decide_eq_false hlt
          go_wp2_with (go_at_call 21; refine (class_takes.calls _ _ _ (GL_drewN HG _) HK.out).mono ?_; rintro e w' ⟨rfl, ⟨ne, rfl⟩⟩)
          go_roundw
          case rel => exact ⟨1, _, by omega, rfl, rfl, by omega, by omega, by omega⟩
          case measure => simp [intOf]
      · have c1 := c1 (by omega)
        clear c2 c3
        by_cases hlt : a0 + 2 ≤ 8
        · have hd : decide (a0 + 2 ≤ 8) = true := decide_eq_true hlt
          go_wp2_with (go_at_call 21; refine (class_takes.calls _ _ _ (GL_drewN HG _) HK.out).mono ?_; rintro e w' ⟨rfl, ⟨ne, rfl⟩⟩)
          go_ret
          exact ⟨by first | rfl | (simp; done), ⟨_, rfl⟩⟩
        · have hd : decide (a0 + 2 ≤ 8) = false := decide_eq_false hlt
          go_wp2_with (go_at_call 21; refine (class_takes.calls _ _ _ (GL_drewN HG _) HK.out).mono ?_; rintro e w' ⟨rfl, ⟨ne, rfl⟩⟩)
          go_roundw
          case rel => exact ⟨2, _, by omega, rfl, rfl, by omega, by omega, by omega⟩
          case measure => simp [intOf]
      · have c1 := c1 (by omega)
        have c2 := c2 (by omega)
        clear c3
        by_cases hlt : a0 + 2 ≤ 16
        · have hd : decide (a0 + 2 ≤ 16) = true := decide_eq_true hlt
          go_wp2_with (go_at_call 21; refine (class_takes.calls _ _ _ (GL_drewN HG _) HK.out).mono ?_; rintro e w' ⟨rfl, ⟨ne, rfl⟩⟩)
          go_ret
          exact ⟨by first | rfl | (simp; done), ⟨_, rfl⟩⟩
        · have hd : decide (a0 + 2 ≤ 16) = false := decide_eq_false hlt
          go_wp2_with (go_at_call 21; refine (class_takes.calls _ _ _ (GL_drewN HG _) HK.out).mono ?_; rintro e w' ⟨rfl, ⟨ne, rfl⟩⟩)
          go_roundw
          case rel => exact ⟨3, _, by omega, rfl, rfl, by omega, by omega, by omega⟩
          case measure => simp [intOf]
      · have c1 := c1 (by omega)
        have c2 := c2 (by omega)
        have c3 := c3 (by omega)
        go_wp2
        go_ret
        exact ⟨by first | rfl | (simp; done), ⟨_, rfl⟩⟩

/-! ### class_Chunks: function 15 -/
def class_Chunks.f (a0 : Int) : Option (Int) := (class_Right.f a0).bind fun t101 => (if t101 = true then ((class_Of.f a0).bind fun t102 => (if t102 ≥ 0 then (some 0) else ((class_takes.f a0).bind fun t103 => (some (wrap64 (Int.tdiv (wrap64 ((wrap64 (t103 + 32)) - 1)) 32)))))) else (some 0))
set_option maxHeartbeats 8000000 in
set_option maxRecDepth 100000 in
theorem class_Chunks.calls (a0 : Int) (r : Int) (w : World) (HG : GL w) (h : class_Chunks.f a0 = some r) :
    Calls Tryd.prog 15 #[.int .i64 a0] w fun e w' => e = .returned (.int .i64 r) ∧ Drawn0 w w' := by
  have H : ((class_Right.f a0).bind fun t101 => (if t101 = true then ((class_Of.f a0).bind fun t102 => (if t102 ≥ 0 then (some 0) else ((class_takes.f a0).bind fun t103 => (some (wrap64 (Int.tdiv (wrap64 ((wrap64 (t103 + 32)) - 1)) 32)))))) else (some 0))) = some r := h
  clear h
  replace H := Option.bind_eq_some_iff.mp H
  obtain ⟨t101, A20, H⟩ := H
  replace H : (if t101 = true then ((class_Of.f a0).bind fun t102 => (if t102 ≥ 0 then (some 0) else ((class_takes.f a0).bind fun t103 => (some (wrap64 (Int.tdiv (wrap64 ((wrap64 (t103 + 32)) - 1)) 32)))))) else (some 0)) = some r := H
  have A2 := Aside0.mk A20
  clear A20
  by_cases c3 : t101 = true
  · subst c3
    have H1 : ((class_Of.f a0).bind fun t102 => (if t102 ≥ 0 then (some 0) else ((class_takes.f a0).bind fun t103 => (some (wrap64 (Int.tdiv (wrap64 ((wrap64 (t103 + 32)) - 1)) 32)))))) = some r := by rw [if_pos rfl] at H; exact H
    clear H
    have H := H1
    clear H1
    replace H := Option.bind_eq_some_iff.mp H
    obtain ⟨t102, A40, H⟩ := H
    replace H : (if t102 ≥ 0 then (some 0) else ((class_takes.f a0).bind fun t103 => (some (wrap64 (Int.tdiv (wrap64 ((wrap64 (t103 + 32)) - 1)) 32))))) = some r := H
    have A4 := Aside0.mk A40
    clear A40
    by_cases c5 : t102 ≥ 0
    · rw [if_pos c5] at H
      have c5b0 : decide (0 ≤ t102) = true := decide_eq_true c5
      clear c5
      obtain rfl := Option.some.inj H
      simp only [Option.some.injEq, Prod.mk.injEq] at H
      obtain ⟨rfl⟩ := H
      go_enter Tryd.func15, Tryd.ntmps15
      go_wp2_with (first | ((with_reducible refine gate_callee (f := 11) rfl ?_); refine goesL_ (some 4) rfl rfl Tryd.func11 (by kernel_rfl) rfl #[.int .i64 a0] rfl (by (try simp only [List.map_toArray, List.map_cons, List.map_nil]); first | done | rfl | (simp only [List.length_drop, List.length_take]; rfl)) ?_; (with_reducible refine (class_Right.calls a0 true _ (by first | ((repeat (first | (with_reducible exact HG) | apply GL_drewN | apply GL_drew)); done) | exact GL_below HG (by repeat (first | (with_reducible first | exact HB.out | apply below_alloc | apply pw_below_drewN | apply below_drew1) | exact HB.out))) A2.out).mono ?_); rintro e w' ⟨rfl, ⟨nd, rfl⟩⟩; refine ⟨_, rfl, ?_⟩) | (go_at_call 13; (with_reducible refine (class_Of.calls a0 t102 _ (by first | ((repeat (first | (with_reducible exact HG) | apply GL_drewN | apply GL_drew)); done) | exact GL_below HG (by repeat (first | (with_reducible first | exact HB.out | apply below_alloc | apply pw_below_drewN | apply below_drew1) | exact HB.out))) A4.out).mono ?_); rintro e w' ⟨rfl, ⟨nd, rfl⟩⟩))
      go_ret
      exact ⟨by first | rfl | (simp; done) | (simp [*]; done), by repeat (first | exact Drawn0.refl _ | apply Drawn0.step)⟩
    · rw [if_neg c5] at H
      have c5b0 : decide (0 ≤ t102) = false := decide_eq_false c5
      clear c5
      replace H := Option.bind_eq_some_iff.mp H
      obtain ⟨t103, A60, H⟩ := H
      replace H : (some (wrap64 (Int.tdiv (wrap64 ((wrap64 (t103 + 32)) - 1)) 32))) = some r := H
      have A6 := Aside0.mk A60
      clear A60
      obtain rfl := Option.some.inj H
      simp only [Option.some.injEq, Prod.mk.injEq] at H
      obtain ⟨rfl⟩ := H
      go_enter Tryd.func15, Tryd.ntmps15
      go_wp2_with (first | ((with_reducible refine gate_callee (f := 11) rfl ?_); refine goesL_ (some 4) rfl rfl Tryd.func11 (by kernel_rfl) rfl #[.int .i64 a0] rfl (by (try simp only [List.map_toArray, List.map_cons, List.map_nil]); first | done | rfl | (simp only [List.length_drop, List.length_take]; rfl)) ?_; (with_reducible refine (class_Right.calls a0 true _ (by first | ((repeat (first | (with_reducible exact HG) | apply GL_drewN | apply GL_drew)); done) | exact GL_below HG (by repeat (first | (with_reducible first | exact HB.out | apply below_alloc | apply pw_below_drewN | apply below_drew1) | exact HB.out))) A2.out).mono ?_); rintro e w' ⟨rfl, ⟨nd, rfl⟩⟩; refine ⟨_, rfl, ?_⟩) | (go_at_call 13; (with_reducible refine (class_Of.calls a0 t102 _ (by first | ((repeat (first | (with_reducible exact HG) | apply GL_drewN | apply GL_drew)); done) | exact GL_below HG (by repeat (first | (with_reducible first | exact HB.out | apply below_alloc | apply pw_below_drewN | apply below_drew1) | exact HB.out))) A4.out).mono ?_); rintro e w' ⟨rfl, ⟨nd, rfl⟩⟩) | ((with_reducible refine gate_callee (f := 21) rfl ?_); refine goesL_ (some 12) rfl rfl Tryd.func21 (by kernel_rfl) rfl #[.int .i64 a0] rfl (by (try simp only [List.map_toArray, List.map_cons, List.map_nil]); first | done | rfl | (simp only [List.length_drop, List.length_take]; rfl)) ?_; (with_reducible refine (class_takes.calls a0 t103 _ (by first | ((repeat (first | (with_reducible exact HG) | apply GL_drewN | apply GL_drew)); done) | exact GL_below HG (by repeat (first | (with_reducible first | exact HB.out | apply below_alloc | apply pw_below_drewN | apply below_drew1) | exact HB.out))) A6.out).mono ?_); rintro e w' ⟨rfl, ⟨nd, rfl⟩⟩; refine ⟨_, rfl, ?_⟩))
      go_ret
      exact ⟨by first | rfl | (simp; done) | (simp [*]; done), by repeat (first | exact Drawn0.refl _ | apply Drawn0.step)⟩
  · replace c3 := Bool.eq_false_iff.mpr c3
    subst c3
    have H1 : (some 0) = some r := by rw [if_neg (show ¬ (false = true) by decide)] at H; exact H
    clear H
    have H := H1
    clear H1
    obtain rfl := Option.some.inj H
    simp only [Option.some.injEq, Prod.mk.injEq] at H
    obtain ⟨rfl⟩ := H
    go_enter Tryd.func15, Tryd.ntmps15
    go_wp2_with (first | ((with_reducible refine gate_callee (f := 11) rfl ?_); refine goesL_ (some 4) rfl rfl Tryd.func11 (by kernel_rfl) rfl #[.int .i64 a0] rfl (by (try simp only [List.map_toArray, List.map_cons, List.map_nil]); first | done | rfl | (simp only [List.length_drop, List.length_take]; rfl)) ?_; (with_reducible refine (class_Right.calls a0 false _ (by first | ((repeat (first | (with_reducible exact HG) | apply GL_drewN | apply GL_drew)); done) | exact GL_below HG (by repeat (first | (with_reducible first | exact HB.out | apply below_alloc | apply pw_below_drewN | apply below_drew1) | exact HB.out))) A2.out).mono ?_); rintro e w' ⟨rfl, ⟨nd, rfl⟩⟩; refine ⟨_, rfl, ?_⟩))
    go_ret
    exact ⟨by first | rfl | (simp; done) | (simp [*]; done), by repeat (first | exact Drawn0.refl _ | apply Drawn0.step)⟩

/-! ### lockfastlaw09_awake: function 8 -/
def lockfastlaw09_awake.f  : Option (Bool) := (class_Of.f 2).bind fun t104 => (if t104 = 0 then ((class_Of.f 3).bind fun t105 => (if t105 = 1 then ((class_Of.f 15).bind fun t106 => (if t106 = (-1) then ((class_Chunks.f 15).bind fun t107 => (if t107 = 1 then ((class_Chunks.f 31).bind fun t108 => (if t108 = 2 then ((class_Block.f 2).bind fun t109 => (if t109 = 16 then ((class_Many.f 0).bind fun t110 => (some (t110 == 8))) else (some false))) else (some false))) else (some false))) else (some false))) else (some false))) else (some false))
set_option maxHeartbeats 8000000 in
set_option maxRecDepth 100000 in
theorem lockfastlaw09_awake.calls  (r : Bool) (w : World) (HG : GL w) (h : lockfastlaw09_awake.f  = some r) :
    Calls Tryd.prog 8 #[] w fun e w' => e = .returned (.bool r) ∧ Drawn0 w w' := by
  have H : ((class_Of.f 2).bind fun t104 => (if t104 = 0 then ((class_Of.f 3).bind fun t105 => (if t105 = 1 then ((class_Of.f 15).bind fun t106 => (if t106 = (-1) then ((class_Chunks.f 15).bind fun t107 => (if t107 = 1 then ((class_Chunks.f 31).bind fun t108 => (if t108 = 2 then ((class_Block.f 2).bind fun t109 => (if t109 = 16 then ((class_Many.f 0).bind fun t110 => (some (t110 == 8))) else (some false))) else (some false))) else (some false))) else (some false))) else (some false))) else (some false))) = some r := h
  clear h
  replace H := Option.bind_eq_some_iff.mp H
  obtain ⟨t104, A10, H⟩ := H
  replace H : (if t104 = 0 then ((class_Of.f 3).bind fun t105 => (if t105 = 1 then ((class_Of.f 15).bind fun t106 => (if t106 = (-1) then ((class_Chunks.f 15).bind fun t107 => (if t107 = 1 then ((class_Chunks.f 31).bind fun t108 => (if t108 = 2 then ((class_Block.f 2).bind fun t109 => (if t109 = 16 then ((class_Many.f 0).bind fun t110 => (some (t110 == 8))) else (some false))) else (some false))) else (some false))) else (some false))) else (some false))) else (some false)) = some r := H
  have A1 := Aside0.mk A10
  clear A10
  by_cases c2 : t104 = 0
  · rw [if_pos c2] at H
    have c2b0 : (t104 == 0) = true := beq_iff_eq.mpr c2
    have c2b1 : (t104 != 0) = false := bne_eq_false_iff_eq.mpr c2
    clear c2
    replace H := Option.bind_eq_some_iff.mp H
    obtain ⟨t105, A30, H⟩ := H
    replace H : (if t105 = 1 then ((class_Of.f 15).bind fun t106 => (if t106 = (-1) then ((class_Chunks.f 15).bind fun t107 => (if t107 = 1 then ((class_Chunks.f 31).bind fun t108 => (if t108 = 2 then ((class_Block.f 2).bind fun t109 => (if t109 = 16 then ((class_Many.f 0).bind fun t110 => (some (t110 == 8))) else (some false))) else (some false))) else (some false))) else (some false))) else (some false)) = some r := H
    have A3 := Aside0.mk A30
    clear A30
    by_cases c4 : t105 = 1
    · rw [if_pos c4] at H
      have c4b0 : (t105 == 1) = true := beq_iff_eq.mpr c4
      have c4b1 : (t105 != 1) = false := bne_eq_false_iff_eq.mpr c4
      clear c4
      replace H := Option.bind_eq_some_iff.mp H
      obtain ⟨t106, A50, H⟩ := H
      replace H : (if t106 = (-1) then ((class_Chunks.f 15).bind fun t107 => (if t107 = 1 then ((class_Chunks.f 31).bind fun t108 => (if t108 = 2 then ((class_Block.f 2).bind fun t109 => (if t109 = 16 then ((class_Many.f 0).bind fun t110 => (some (t110 == 8))) else (some false))) else (some false))) else (some false))) else (some false)) = some r := H
      have A5 := Aside0.mk A50
      clear A50
      by_cases c6 : t106 = (-1)
      · rw [if_pos c6] at H
        have c6b0 : (t106 == (-1)) = true := beq_iff_eq.mpr c6
        have c6b1 : (t106 != (-1)) = false := bne_eq_false_iff_eq.mpr c6
        clear c6
        replace H := Option.bind_eq_some_iff.mp H
        obtain ⟨t107, A70, H⟩ := H
        replace H : (if t107 = 1 then ((class_Chunks.f 31).bind fun t108 => (if t108 = 2 then ((class_Block.f 2).bind fun t109 => (if t109 = 16 then ((class_Many.f 0).bind fun t110 => (some (t110 == 8))) else (some false))) else (some false))) else (some false)) = some r := H
        have A7 := Aside0.mk A70
        clear A70
        by_cases c8 : t107 = 1
        · rw [if_pos c8] at H
          have c8b0 : (t107 == 1) = true := beq_iff_eq.mpr c8
          have c8b1 : (t107 != 1) = false := bne_eq_false_iff_eq.mpr c8
          clear c8
          replace H := Option.bind_eq_some_iff.mp H
          obtain ⟨t108, A90, H⟩ := H
          replace H : (if t108 = 2 then ((class_Block.f 2).bind fun t109 => (if t109 = 16 then ((class_Many.f 0).bind fun t110 => (some (t110 == 8))) else (some false))) else (some false)) = some r := H
          have A9 := Aside0.mk A90
          clear A90
          by_cases c10 : t108 = 2
          · rw [if_pos c10] at H
            have c10b0 : (t108 == 2) = true := beq_iff_eq.mpr c10
            have c10b1 : (t108 != 2) = false := bne_eq_false_iff_eq.mpr c10
            clear c10
            replace H := Option.bind_eq_some_iff.mp H
            obtain ⟨t109, A110, H⟩ := H
            replace H : (if t109 = 16 then ((class_Many.f 0).bind fun t110 => (some (t110 == 8))) else (some false)) = some r := H
            have A11 := Aside0.mk A110
            clear A110
            by_cases c12 : t109 = 16
            · rw [if_pos c12] at H
              have c12b0 : (t109 == 16) = true := beq_iff_eq.mpr c12
              have c12b1 : (t109 != 16) = false := bne_eq_false_iff_eq.mpr c12
              clear c12
              replace H := Option.bind_eq_some_iff.mp H
              obtain ⟨t110, A130, H⟩ := H
              replace H : (some (t110 == 8)) = some r := H
              have A13 := Aside0.mk A130
              clear A130
              obtain rfl := Option.some.inj H
              simp only [Option.some.injEq, Prod.mk.injEq] at H
              obtain ⟨rfl⟩ := H
              go_enter Tryd.func8, Tryd.ntmps8
              go_wp2_with (first | ((with_reducible refine gate_callee (f := 13) rfl ?_); refine goesL_ (some 1) rfl rfl Tryd.func13 (by kernel_rfl) rfl #[.int .i64 2] rfl (by (try simp only [List.map_toArray, List.map_cons, List.map_nil]); first | done | rfl | (simp only [List.length_drop, List.length_take]; rfl)) ?_; (with_reducible refine (class_Of.calls 2 t104 _ (by first | ((repeat (first | (with_reducible exact HG) | apply GL_drewN | apply GL_drew)); done) | exact GL_below HG (by repeat (first | (with_reducible first | exact HB.out | apply below_alloc | apply pw_below_drewN | apply below_drew1) | exact HB.out))) A1.out).mono ?_); rintro e w' ⟨rfl, ⟨nd, rfl⟩⟩; refine ⟨_, rfl, ?_⟩) | (go_at_call 13; (with_reducible refine (class_Of.calls 3 t105 _ (by first | ((repeat (first | (with_reducible exact HG) | apply GL_drewN | apply GL_drew)); done) | exact GL_below HG (by repeat (first | (with_reducible first | exact HB.out | apply below_alloc | apply pw_below_drewN | apply below_drew1) | exact HB.out))) A3.out).mono ?_); rintro e w' ⟨rfl, ⟨nd, rfl⟩⟩) | (go_at_call 13; (with_reducible refine (class_Of.calls 15 t106 _ (by first | ((repeat (first | (with_reducible exact HG) | apply GL_drewN | apply GL_drew)); done) | exact GL_below HG (by repeat (first | (with_reducible first | exact HB.out | apply below_alloc | apply pw_below_drewN | apply below_drew1) | exact HB.out))) A5.out).mono ?_); rintro e w' ⟨rfl, ⟨nd, rfl⟩⟩) | (go_at_call 15; (with_reducible refine (class_Chunks.calls 15 t107 _ (by first | ((repeat (first | (with_reducible exact HG) | apply GL_drewN | apply GL_drew)); done) | exact GL_below HG (by repeat (first | (with_reducible first | exact HB.out | apply below_alloc | apply pw_below_drewN | apply below_drew1) | exact HB.out))) A7.out).mono ?_); rintro e w' ⟨rfl, ⟨nd, rfl⟩⟩) | (go_at_call 15; (with_reducible refine (class_Chunks.calls 31 t108 _ (by first | ((repeat (first | (with_reducible exact HG) | apply GL_drewN | apply GL_drew)); done) | exact GL_below HG (by repeat (first | (with_reducible first | exact HB.out | apply below_alloc | apply pw_below_drewN | apply below_drew1) | exact HB.out))) A9.out).mono ?_); rintro e w' ⟨rfl, ⟨nd, rfl⟩⟩) | (go_at_call 9; (with_reducible refine (class_Block.calls 2 t109 _ (by first | ((repeat (first | (with_reducible exact HG) | apply GL_drewN | apply GL_drew)); done) | exact GL_below HG (by repeat (first | (with_reducible first | exact HB.out | apply below_alloc | apply pw_below_drewN | apply below_drew1) | exact HB.out))) A11.out).mono ?_); rintro e w' ⟨rfl, ⟨nd, rfl⟩⟩) | (go_at_call 10; (with_reducible refine (class_Many.calls 0 t110 _ (by first | ((repeat (first | (with_reducible exact HG) | apply GL_drewN | apply GL_drew)); done) | exact GL_below HG (by repeat (first | (with_reducible first | exact HB.out | apply below_alloc | apply pw_below_drewN | apply below_drew1) | exact HB.out))) A13.out).mono ?_); rintro e w' ⟨rfl, ⟨nd, rfl⟩⟩))
              go_ret
              exact ⟨by first | rfl | (simp; done) | (simp [*]; done), by repeat (first | exact Drawn0.refl _ | apply Drawn0.step)⟩
            · rw [if_neg c12] at H
              have c12b0 : (t109 == 16) = false := beq_eq_false_iff_ne.mpr c12
              have c12b1 : (t109 != 16) = true := bne_iff_ne.mpr c12
              obtain rfl := Option.some.inj H
              simp only [Option.some.injEq, Prod.mk.injEq] at H
              obtain ⟨rfl⟩ := H
              go_enter Tryd.func8, Tryd.ntmps8
              go_wp2_with (first | ((with_reducible refine gate_callee (f := 13) rfl ?_); refine goesL_ (some 1) rfl rfl Tryd.func13 (by kernel_rfl) rfl #[.int .i64 2] rfl (by (try simp only [List.map_toArray, List.map_cons, List.map_nil]); first | done | rfl | (simp only [List.length_drop, List.length_take]; rfl)) ?_; (with_reducible refine (class_Of.calls 2 t104 _ (by first | ((repeat (first | (with_reducible exact HG) | apply GL_drewN | apply GL_drew)); done) | exact GL_below HG (by repeat (first | (with_reducible first | exact HB.out | apply below_alloc | apply pw_below_drewN | apply below_drew1) | exact HB.out))) A1.out).mono ?_); rintro e w' ⟨rfl, ⟨nd, rfl⟩⟩; refine ⟨_, rfl, ?_⟩) | (go_at_call 13; (with_reducible refine (class_Of.calls 3 t105 _ (by first | ((repeat (first | (with_reducible exact HG) | apply GL_drewN | apply GL_drew)); done) | exact GL_below HG (by repeat (first | (with_reducible first | exact HB.out | apply below_alloc | apply pw_below_drewN | apply below_drew1) | exact HB.out))) A3.out).mono ?_); rintro e w' ⟨rfl, ⟨nd, rfl⟩⟩) | (go_at_call 13; (with_reducible refine (class_Of.calls 15 t106 _ (by first | ((repeat (first | (with_reducible exact HG) | apply GL_drewN | apply GL_drew)); done) | exact GL_below HG (by repeat (first | (with_reducible first | exact HB.out | apply below_alloc | apply pw_below_drewN | apply below_drew1) | exact HB.out))) A5.out).mono ?_); rintro e w' ⟨rfl, ⟨nd, rfl⟩⟩) | (go_at_call 15; (with_reducible refine (class_Chunks.calls 15 t107 _ (by first | ((repeat (first | (with_reducible exact HG) | apply GL_drewN | apply GL_drew)); done) | exact GL_below HG (by repeat (first | (with_reducible first | exact HB.out | apply below_alloc | apply pw_below_drewN | apply below_drew1) | exact HB.out))) A7.out).mono ?_); rintro e w' ⟨rfl, ⟨nd, rfl⟩⟩) | (go_at_call 15; (with_reducible refine (class_Chunks.calls 31 t108 _ (by first | ((repeat (first | (with_reducible exact HG) | apply GL_drewN | apply GL_drew)); done) | exact GL_below HG (by repeat (first | (with_reducible first | exact HB.out | apply below_alloc | apply pw_below_drewN | apply below_drew1) | exact HB.out))) A9.out).mono ?_); rintro e w' ⟨rfl, ⟨nd, rfl⟩⟩) | (go_at_call 9; (with_reducible refine (class_Block.calls 2 t109 _ (by first | ((repeat (first | (with_reducible exact HG) | apply GL_drewN | apply GL_drew)); done) | exact GL_below HG (by repeat (first | (with_reducible first | exact HB.out | apply below_alloc | apply pw_below_drewN | apply below_drew1) | exact HB.out))) A11.out).mono ?_); rintro e w' ⟨rfl, ⟨nd, rfl⟩⟩))
              go_ret
              exact ⟨by first | rfl | (simp; done) | (simp [*]; done), by repeat (first | exact Drawn0.refl _ | apply Drawn0.step)⟩
          · rw [if_neg c10] at H
            have c10b0 : (t108 == 2) = false := beq_eq_false_iff_ne.mpr c10
            have c10b1 : (t108 != 2) = true := bne_iff_ne.mpr c10
            obtain rfl := Option.some.inj H
            simp only [Option.some.injEq, Prod.mk.injEq] at H
            obtain ⟨rfl⟩ := H
            go_enter Tryd.func8, Tryd.ntmps8
            go_wp2_with (first | ((with_reducible refine gate_callee (f := 13) rfl ?_); refine goesL_ (some 1) rfl rfl Tryd.func13 (by kernel_rfl) rfl #[.int .i64 2] rfl (by (try simp only [List.map_toArray, List.map_cons, List.map_nil]); first | done | rfl | (simp only [List.length_drop, List.length_take]; rfl)) ?_; (with_reducible refine (class_Of.calls 2 t104 _ (by first | ((repeat (first | (with_reducible exact HG) | apply GL_drewN | apply GL_drew)); done) | exact GL_below HG (by repeat (first | (with_reducible first | exact HB.out | apply below_alloc | apply pw_below_drewN | apply below_drew1) | exact HB.out))) A1.out).mono ?_); rintro e w' ⟨rfl, ⟨nd, rfl⟩⟩; refine ⟨_, rfl, ?_⟩) | (go_at_call 13; (with_reducible refine (class_Of.calls 3 t105 _ (by first | ((repeat (first | (with_reducible exact HG) | apply GL_drewN | apply GL_drew)); done) | exact GL_below HG (by repeat (first | (with_reducible first | exact HB.out | apply below_alloc | apply pw_below_drewN | apply below_drew1) | exact HB.out))) A3.out).mono ?_); rintro e w' ⟨rfl, ⟨nd, rfl⟩⟩) | (go_at_call 13; (with_reducible refine (class_Of.calls 15 t106 _ (by first | ((repeat (first | (with_reducible exact HG) | apply GL_drewN | apply GL_drew)); done) | exact GL_below HG (by repeat (first | (with_reducible first | exact HB.out | apply below_alloc | apply pw_below_drewN | apply below_drew1) | exact HB.out))) A5.out).mono ?_); rintro e w' ⟨rfl, ⟨nd, rfl⟩⟩) | (go_at_call 15; (with_reducible refine (class_Chunks.calls 15 t107 _ (by first | ((repeat (first | (with_reducible exact HG) | apply GL_drewN | apply GL_drew)); done) | exact GL_below HG (by repeat (first | (with_reducible first | exact HB.out | apply below_alloc | apply pw_below_drewN | apply below_drew1) | exact HB.out))) A7.out).mono ?_); rintro e w' ⟨rfl, ⟨nd, rfl⟩⟩) | (go_at_call 15; (with_reducible refine (class_Chunks.calls 31 t108 _ (by first | ((repeat (first | (with_reducible exact HG) | apply GL_drewN | apply GL_drew)); done) | exact GL_below HG (by repeat (first | (with_reducible first | exact HB.out | apply below_alloc | apply pw_below_drewN | apply below_drew1) | exact HB.out))) A9.out).mono ?_); rintro e w' ⟨rfl, ⟨nd, rfl⟩⟩))
            go_ret
            exact ⟨by first | rfl | (simp; done) | (simp [*]; done), by repeat (first | exact Drawn0.refl _ | apply Drawn0.step)⟩
        · rw [if_neg c8] at H
          have c8b0 : (t107 == 1) = false := beq_eq_false_iff_ne.mpr c8
          have c8b1 : (t107 != 1) = true := bne_iff_ne.mpr c8
          obtain rfl := Option.some.inj H
          simp only [Option.some.injEq, Prod.mk.injEq] at H
          obtain ⟨rfl⟩ := H
          go_enter Tryd.func8, Tryd.ntmps8
          go_wp2_with (first | ((with_reducible refine gate_callee (f := 13) rfl ?_); refine goesL_ (some 1) rfl rfl Tryd.func13 (by kernel_rfl) rfl #[.int .i64 2] rfl (by (try simp only [List.map_toArray, List.map_cons, List.map_nil]); first | done | rfl | (simp only [List.length_drop, List.length_take]; rfl)) ?_; (with_reducible refine (class_Of.calls 2 t104 _ (by first | ((repeat (first | (with_reducible exact HG) | apply GL_drewN | apply GL_drew)); done) | exact GL_below HG (by repeat (first | (with_reducible first | exact HB.out | apply below_alloc | apply pw_below_drewN | apply below_drew1) | exact HB.out))) A1.out).mono ?_); rintro e w' ⟨rfl, ⟨nd, rfl⟩⟩; refine ⟨_, rfl, ?_⟩) | (go_at_call 13; (with_reducible refine (class_Of.calls 3 t105 _ (by first | ((repeat (first | (with_reducible exact HG) | apply GL_drewN | apply GL_drew)); done) | exact GL_below HG (by repeat (first | (with_reducible first | exact HB.out | apply below_alloc | apply pw_below_drewN | apply below_drew1) | exact HB.out))) A3.out).mono ?_); rintro e w' ⟨rfl, ⟨nd, rfl⟩⟩) | (go_at_call 13; (with_reducible refine (class_Of.calls 15 t106 _ (by first | ((repeat (first | (with_reducible exact HG) | apply GL_drewN | apply GL_drew)); done) | exact GL_below HG (by repeat (first | (with_reducible first | exact HB.out | apply below_alloc | apply pw_below_drewN | apply below_drew1) | exact HB.out))) A5.out).mono ?_); rintro e w' ⟨rfl, ⟨nd, rfl⟩⟩) | (go_at_call 15; (with_reducible refine (class_Chunks.calls 15 t107 _ (by first | ((repeat (first | (with_reducible exact HG) | apply GL_drewN | apply GL_drew)); done) | exact GL_below HG (by repeat (first | (with_reducible first | exact HB.out | apply below_alloc | apply pw_below_drewN | apply below_drew1) | exact HB.out))) A7.out).mono ?_); rintro e w' ⟨rfl, ⟨nd, rfl⟩⟩))
          go_ret
          exact ⟨by first | rfl | (simp; done) | (simp [*]; done), by repeat (first | exact Drawn0.refl _ | apply Drawn0.step)⟩
      · rw [if_neg c6] at H
        have c6b0 : (t106 == (-1)) = false := beq_eq_false_iff_ne.mpr c6
        have c6b1 : (t106 != (-1)) = true := bne_iff_ne.mpr c6
        obtain rfl := Option.some.inj H
        simp only [Option.some.injEq, Prod.mk.injEq] at H
        obtain ⟨rfl⟩ := H
        go_enter Tryd.func8, Tryd.ntmps8
        go_wp2_with (first | ((with_reducible refine gate_callee (f := 13) rfl ?_); refine goesL_ (some 1) rfl rfl Tryd.func13 (by kernel_rfl) rfl #[.int .i64 2] rfl (by (try simp only [List.map_toArray, List.map_cons, List.map_nil]); first | done | rfl | (simp only [List.length_drop, List.length_take]; rfl)) ?_; (with_reducible refine (class_Of.calls 2 t104 _ (by first | ((repeat (first | (with_reducible exact HG) | apply GL_drewN | apply GL_drew)); done) | exact GL_below HG (by repeat (first | (with_reducible first | exact HB.out | apply below_alloc | apply pw_below_drewN | apply below_drew1) | exact HB.out))) A1.out).mono ?_); rintro e w' ⟨rfl, ⟨nd, rfl⟩⟩; refine ⟨_, rfl, ?_⟩) | (go_at_call 13; (with_reducible refine (class_Of.calls 3 t105 _ (by first | ((repeat (first | (with_reducible exact HG) | apply GL_drewN | apply GL_drew)); done) | exact GL_below HG (by repeat (first | (with_reducible first | exact HB.out | apply below_alloc | apply pw_below_drewN | apply below_drew1) | exact HB.out))) A3.out).mono ?_); rintro e w' ⟨rfl, ⟨nd, rfl⟩⟩) | (go_at_call 13; (with_reducible refine (class_Of.calls 15 t106 _ (by first | ((repeat (first | (with_reducible exact HG) | apply GL_drewN | apply GL_drew)); done) | exact GL_below HG (by repeat (first | (with_reducible first | exact HB.out | apply below_alloc | apply pw_below_drewN | apply below_drew1) | exact HB.out))) A5.out).mono ?_); rintro e w' ⟨rfl, ⟨nd, rfl⟩⟩))
        go_ret
        exact ⟨by first | rfl | (simp; done) | (simp [*]; done), by repeat (first | exact Drawn0.refl _ | apply Drawn0.step)⟩
    · rw [if_neg c4] at H
      have c4b0 : (t105 == 1) = false := beq_eq_false_iff_ne.mpr c4
      have c4b1 : (t105 != 1) = true := bne_iff_ne.mpr c4
      obtain rfl := Option.some.inj H
      simp only [Option.some.injEq, Prod.mk.injEq] at H
      obtain ⟨rfl⟩ := H
      go_enter Tryd.func8, Tryd.ntmps8
      go_wp2_with (first | ((with_reducible refine gate_callee (f := 13) rfl ?_); refine goesL_ (some 1) rfl rfl Tryd.func13 (by kernel_rfl) rfl #[.int .i64 2] rfl (by (try simp only [List.map_toArray, List.map_cons, List.map_nil]); first | done | rfl | (simp only [List.length_drop, List.length_take]; rfl)) ?_; (with_reducible refine (class_Of.calls 2 t104 _ (by first | ((repeat (first | (with_reducible exact HG) | apply GL_drewN | apply GL_drew)); done) | exact GL_below HG (by repeat (first | (with_reducible first | exact HB.out | apply below_alloc | apply pw_below_drewN | apply below_drew1) | exact HB.out))) A1.out).mono ?_); rintro e w' ⟨rfl, ⟨nd, rfl⟩⟩; refine ⟨_, rfl, ?_⟩) | (go_at_call 13; (with_reducible refine (class_Of.calls 3 t105 _ (by first | ((repeat (first | (with_reducible exact HG) | apply GL_drewN | apply GL_drew)); done) | exact GL_below HG (by repeat (first | (with_reducible first | exact HB.out | apply below_alloc | apply pw_below_drewN | apply below_drew1) | exact HB.out))) A3.out).mono ?_); rintro e w' ⟨rfl, ⟨nd, rfl⟩⟩))
      go_ret
      exact ⟨by first | rfl | (simp; done) | (simp [*]; done), by repeat (first | exact Drawn0.refl _ | apply Drawn0.step)⟩
  · rw [if_neg c2] at H
    have c2b0 : (t104 == 0) = false := beq_eq_false_iff_ne.mpr c2
    have c2b1 : (t104 != 0) = true := bne_iff_ne.mpr c2
    obtain rfl := Option.some.inj H
    simp only [Option.some.injEq, Prod.mk.injEq] at H
    obtain ⟨rfl⟩ := H
    go_enter Tryd.func8, Tryd.ntmps8
    go_wp2_with (first | ((with_reducible refine gate_callee (f := 13) rfl ?_); refine goesL_ (some 1) rfl rfl Tryd.func13 (by kernel_rfl) rfl #[.int .i64 2] rfl (by (try simp only [List.map_toArray, List.map_cons, List.map_nil]); first | done | rfl | (simp only [List.length_drop, List.length_take]; rfl)) ?_; (with_reducible refine (class_Of.calls 2 t104 _ (by first | ((repeat (first | (with_reducible exact HG) | apply GL_drewN | apply GL_drew)); done) | exact GL_below HG (by repeat (first | (with_reducible first | exact HB.out | apply below_alloc | apply pw_below_drewN | apply below_drew1) | exact HB.out))) A1.out).mono ?_); rintro e w' ⟨rfl, ⟨nd, rfl⟩⟩; refine ⟨_, rfl, ?_⟩))
    go_ret
    exact ⟨by first | rfl | (simp; done) | (simp [*]; done), by repeat (first | exact Drawn0.refl _ | apply Drawn0.step)⟩

/-! ### class_Room: function 17 -/
def class_Room.f (a0 : Int) : Option (Int) := (class_Of.f a0).bind fun t111 => ((class_Block.f t111).bind fun t112 => ((class_Chunks.f a0).bind fun t113 => (some (wrap64 (t112 + (wrap64 (t113 * 32)))))))
set_option maxHeartbeats 8000000 in
set_option maxRecDepth 100000 in
theorem class_Room.calls (a0 : Int) (r : Int) (w : World) (HG : GL w) (h : class_Room.f a0 = some r) :
    Calls Tryd.prog 17 #[.int .i64 a0] w fun e w' => e = .returned (.int .i64 r) ∧ Drawn0 w w' := by
  have H : ((class_Of.f a0).bind fun t111 => ((class_Block.f t111).bind fun t112 => ((class_Chunks.f a0).bind fun t113 => (some (wrap64 (t112 + (wrap64 (t113 * 32)))))))) = some r := h
  clear h
  replace H := Option.bind_eq_some_iff.mp H
  obtain ⟨t111, A20, H⟩ := H
  replace H : ((class_Block.f t111).bind fun t112 => ((class_Chunks.f a0).bind fun t113 => (some (wrap64 (t112 + (wrap64 (t113 * 32))))))) = some r := H
  have A2 := Aside0.mk A20
  clear A20
  replace H := Option.bind_eq_some_iff.mp H
  obtain ⟨t112, A30, H⟩ := H
  replace H : ((class_Chunks.f a0).bind fun t113 => (some (wrap64 (t112 + (wrap64 (t113 * 32)))))) = some r := H
  have A3 := Aside0.mk A30
  clear A30
  replace H := Option.bind_eq_some_iff.mp H
  obtain ⟨t113, A40, H⟩ := H
  replace H : (some (wrap64 (t112 + (wrap64 (t113 * 32))))) = some r := H
  have A4 := Aside0.mk A40
  clear A40
  obtain rfl := Option.some.inj H
  simp only [Option.some.injEq, Prod.mk.injEq] at H
  obtain ⟨rfl⟩ := H
  go_enter Tryd.func17, Tryd.ntmps17
  go_wp2_with (first | ((with_reducible refine gate_callee (f := 13) rfl ?_); refine goesL_ (some 4) rfl rfl Tryd.func13 (by kernel_rfl) rfl #[.int .i64 a0] rfl (by (try simp only [List.map_toArray, List.map_cons, List.map_nil]); first | done | rfl | (simp only [List.length_drop, List.length_take]; rfl)) ?_; (with_reducible refine (class_Of.calls a0 t111 _ (by first | ((repeat (first | (with_reducible exact HG) | apply GL_drewN | apply GL_drew)); done) | exact GL_below HG (by repeat (first | (with_reducible first | exact HB.out | apply below_alloc | apply pw_below_drewN | apply below_drew1) | exact HB.out))) A2.out).mono ?_); rintro e w' ⟨rfl, ⟨nd, rfl⟩⟩; refine ⟨_, rfl, ?_⟩) | ((with_reducible refine gate_callee (f := 9) rfl ?_); refine goesL_ (some 5) rfl rfl Tryd.func9 (by kernel_rfl) rfl #[.int .i64 t111] rfl (by (try simp only [List.map_toArray, List.map_cons, List.map_nil]); first | done | rfl | (simp only [List.length_drop, List.length_take]; rfl)) ?_; (with_reducible refine (class_Block.calls t111 t112 _ (by first | ((repeat (first | (with_reducible exact HG) | apply GL_drewN | apply GL_drew)); done) | exact GL_below HG (by repeat (first | (with_reducible first | exact HB.out | apply below_alloc | apply pw_below_drewN | apply below_drew1) | exact HB.out))) A3.out).mono ?_); rintro e w' ⟨rfl, ⟨nd, rfl⟩⟩; refine ⟨_, rfl, ?_⟩) | ((with_reducible refine gate_callee (f := 15) rfl ?_); refine goesL_ (some 7) rfl rfl Tryd.func15 (by kernel_rfl) rfl #[.int .i64 a0] rfl (by (try simp only [List.map_toArray, List.map_cons, List.map_nil]); first | done | rfl | (simp only [List.length_drop, List.length_take]; rfl)) ?_; (with_reducible refine (class_Chunks.calls a0 t113 _ (by first | ((repeat (first | (with_reducible exact HG) | apply GL_drewN | apply GL_drew)); done) | exact GL_below HG (by repeat (first | (with_reducible first | exact HB.out | apply below_alloc | apply pw_below_drewN | apply below_drew1) | exact HB.out))) A4.out).mono ?_); rintro e w' ⟨rfl, ⟨nd, rfl⟩⟩; refine ⟨_, rfl, ?_⟩))
  go_ret
  exact ⟨by first | rfl | (simp; done) | (simp [*]; done), by repeat (first | exact Drawn0.refl _ | apply Drawn0.step)⟩

/-! ### lockfastlaw09_ClassMore: function 6 -/
mutual
def lockfastlaw09_ClassMore.j0 : Nat → Bool → Int → Int → Option (Bool)
  | 0, _, _, _ => none
  | k + 1, x5, x6, x7 => (class_Room.f x6).bind fun t115 => ((class_Room.f x7).bind fun t116 => (if t115 > t116 then (lockfastlaw09_ClassMore.j1 k x5 x6 x7 true) else ((class_Chunks.f x6).bind fun t117 => ((class_Chunks.f x7).bind fun t118 => (lockfastlaw09_ClassMore.j1 k x5 x6 x7 (decide (t117 > t118)))))))
def lockfastlaw09_ClassMore.j1 : Nat → Bool → Int → Int → Bool → Option (Bool)
  | 0, _, _, _, _ => none
  | k + 1, x5, x6, x7, x31 => if x31 = true then (some false) else ((class_Room.f x6).bind fun t119 => ((class_Room.f x7).bind fun t120 => (if t119 = t120 then ((class_Of.f x6).bind fun t121 => ((class_Of.f x7).bind fun t122 => (if t121 = t122 then ((class_Chunks.f x6).bind fun t123 => ((class_Chunks.f x7).bind fun t124 => (if t123 = t124 then (some x5) else (some false)))) else (some false)))) else (some x5))))
end
def lockfastlaw09_ClassMore.f (k : Nat) (a0 : Int) (a1 : Int) : Option (Bool) := (lockfastlaw09_awake.f).bind fun t114 => (if (wrap64 (Int.tmod a0 4097)) > (wrap64 (Int.tmod a1 4097)) then (lockfastlaw09_ClassMore.j0 k t114 (wrap64 (Int.tmod a1 4097)) (wrap64 (Int.tmod a0 4097))) else (lockfastlaw09_ClassMore.j0 k t114 (wrap64 (Int.tmod a0 4097)) (wrap64 (Int.tmod a1 4097))))
theorem lockfastlaw09_ClassMore.mono_l : ∀ k, (∀ y0 y1 y2, LeO (lockfastlaw09_ClassMore.j0 k y0 y1 y2) (lockfastlaw09_ClassMore.j0 (k + 1) y0 y1 y2)) ∧ (∀ y0 y1 y2 y3, LeO (lockfastlaw09_ClassMore.j1 k y0 y1 y2 y3) (lockfastlaw09_ClassMore.j1 (k + 1) y0 y1 y2 y3))
  | 0 => ⟨fun _ _ _ r h => by simp [lockfastlaw09_ClassMore.j0] at h, fun _ _ _ _ r h => by simp [lockfastlaw09_ClassMore.j1] at h⟩
  | k + 1 => by
    obtain ⟨ih0, ih1⟩ := lockfastlaw09_ClassMore.mono_l k
    refine ⟨?_, ?_⟩
    · intro y0 y1 y2
      unfold lockfastlaw09_ClassMore.j0
      repeat' first
      | (with_reducible exact ih0 _ _ _)
      | (with_reducible exact ih1 _ _ _ _)
      | (with_reducible exact LeO.refl _)
      | (with_reducible exact LeO.none _)
      | (with_reducible refine LeO.ite ?_ ?_)
      | (with_reducible refine LeO.bind ?_ (fun _ => ?_))
      | exact ih0 _ _ _
      | exact ih1 _ _ _ _
      | exact LeO.none _
      | refine LeO.ite ?_ ?_
      | refine LeO.bind ?_ (fun _ => ?_)
    · intro y0 y1 y2 y3
      unfold lockfastlaw09_ClassMore.j1
      repeat' first
      | (with_reducible exact ih0 _ _ _)
      | (with_reducible exact ih1 _ _ _ _)
      | (with_reducible exact LeO.refl _)
      | (with_reducible exact LeO.none _)
      | (with_reducible refine LeO.ite ?_ ?_)
      | (with_reducible refine LeO.bind ?_ (fun _ => ?_))
      | exact ih0 _ _ _
      | exact ih1 _ _ _ _
      | exact LeO.none _
      | refine LeO.ite ?_ ?_
      | refine LeO.bind ?_ (fun _ => ?_)
theorem lockfastlaw09_ClassMore.mono : ∀ a0 a1 k, LeO (lockfastlaw09_ClassMore.f k a0 a1) (lockfastlaw09_ClassMore.f (k + 1) a0 a1) := by
  intro a0 a1 k
  obtain ⟨ih0, ih1⟩ := lockfastlaw09_ClassMore.mono_l k
  unfold lockfastlaw09_ClassMore.f
  repeat' first
      | (with_reducible exact ih0 _ _ _)
      | (with_reducible exact ih1 _ _ _ _)
      | (with_reducible exact LeO.refl _)
      | (with_reducible exact LeO.none _)
      | (with_reducible refine LeO.ite ?_ ?_)
      | (with_reducible refine LeO.bind ?_ (fun _ => ?_))
      | exact ih0 _ _ _
      | exact ih1 _ _ _ _
      | exact LeO.none _
      | refine LeO.ite ?_ ?_
      | refine LeO.bind ?_ (fun _ => ?_)
set_option maxHeartbeats 8000000 in
set_option maxRecDepth 100000 in
theorem lockfastlaw09_ClassMore.calls (k : Nat) (a0 : Int) (a1 : Int) (r : Bool) (w : World) (HG : GL w) (hrt : r = true) (h : lockfastlaw09_ClassMore.f k a0 a1 = some r) :
    Calls Tryd.prog 6 #[.int .u16 a0, .int .u16 a1] w fun e w' => e = .returned (.bool r) ∧ Drawn0 w w' := by
  have H : ((lockfastlaw09_awake.f).bind fun t114 => (if (wrap64 (Int.tmod a0 4097)) > (wrap64 (Int.tmod a1 4097)) then (lockfastlaw09_ClassMore.j0 k t114 (wrap64 (Int.tmod a1 4097)) (wrap64 (Int.tmod a0 4097))) else (lockfastlaw09_ClassMore.j0 k t114 (wrap64 (Int.tmod a0 4097)) (wrap64 (Int.tmod a1 4097))))) = some r := h
  clear h
  have HRT := Aside0.mk hrt
  clear hrt
  replace H := Option.bind_eq_some_iff.mp H
  obtain ⟨t114, A30, H⟩ := H
  replace H : (if (wrap64 (Int.tmod a0 4097)) > (wrap64 (Int.tmod a1 4097)) then (lockfastlaw09_ClassMore.j0 k t114 (wrap64 (Int.tmod a1 4097)) (wrap64 (Int.tmod a0 4097))) else (lockfastlaw09_ClassMore.j0 k t114 (wrap64 (Int.tmod a0 4097)) (wrap64 (Int.tmod a1 4097)))) = some r := H
  have A3 := Aside0.mk A30
  clear A30
  have HC4 := Aside0.mk H
  clear H
  go_enter Tryd.func6, Tryd.ntmps6
  go_upto_if 17 with (first | ((with_reducible refine gate_callee (f := 8) rfl ?_); refine goesL_ (some 8) rfl rfl Tryd.func8 (by kernel_rfl) rfl #[] rfl (by (try simp only [List.map_toArray, List.map_cons, List.map_nil]); first | done | rfl | (simp only [List.length_drop, List.length_take]; rfl)) ?_; (with_reducible refine (lockfastlaw09_awake.calls  t114 _ (by first | ((repeat (first | (with_reducible exact HG) | apply GL_drewN | apply GL_drew)); done) | exact GL_below HG (by repeat (first | (with_reducible first | exact HB.out | apply below_alloc | apply pw_below_drewN | apply below_drew1) | exact HB.out))) A3.out).mono ?_); rintro e w' ⟨rfl, ⟨nd, rfl⟩⟩; refine ⟨_, rfl, ?_⟩))
  (try simp only [Act.put, List.setIfInBounds_toArray, List.set_cons_zero, List.set_cons_succ])
  go_cut [6, 7] (fun v6 v7 wc => ∃ (kq : Nat) (x6_3 : Int) (x7_3 : Int), v6 = .int .i64 x6_3 ∧ v7 = .int .i64 x7_3 ∧ Aside0 (lockfastlaw09_ClassMore.j0 kq t114 x6_3 x7_3 = some r) ∧ Aside0 (kq ≤ k) ∧ Drawn0 w wc)
  case first =>
    have H := HC4.out
    clear HC4
    by_cases c5 : (wrap64 (Int.tmod a0 4097)) > (wrap64 (Int.tmod a1 4097))
    · rw [if_pos c5] at H
      have c5b0 : decide ((wrap64 (Int.tmod a1 4097)) < (wrap64 (Int.tmod a0 4097))) = true := decide_eq_true c5
      clear c5
      (first | rw [c5b0] | (simp only [i64_w, i32_w]; rw [c5b0]) | skip)
      have H' := Aside0.mk H
      clear H
      go_wp2
      go_meet
      case rel => exact ⟨_, (wrap64 (Int.tmod a1 4097)), (wrap64 (Int.tmod a0 4097)), (by first | rfl | (simp; done) | (simp [*]; done)), (by first | rfl | (simp; done) | (simp [*]; done)), H', ⟨by first | omega | exact Nat.le_refl _⟩, by repeat (first | exact Drawn0.refl _ | apply Drawn0.step)⟩
    · rw [if_neg c5] at H
      have c5b0 : decide ((wrap64 (Int.tmod a1 4097)) < (wrap64 (Int.tmod a0 4097))) = false := decide_eq_false c5
      clear c5
      (first | rw [c5b0] | (simp only [i64_w, i32_w]; rw [c5b0]) | skip)
      have H' := Aside0.mk H
      clear H
      go_wp2
      go_meet
      case rel => exact ⟨_, (wrap64 (Int.tmod a0 4097)), (wrap64 (Int.tmod a1 4097)), (by first | rfl | (simp; done) | (simp [*]; done)), (by first | rfl | (simp; done) | (simp [*]; done)), H', ⟨by first | omega | exact Nat.le_refl _⟩, by repeat (first | exact Drawn0.refl _ | apply Drawn0.step)⟩
  case rest =>
    clear HC4
    try clear p2
    try clear c5
    try clear c5b0
    obtain ⟨kq, x6_3, x7_3, rfl, rfl, HA, HJ3, ⟨mc3, rfl⟩⟩ := hcut
    cases kq with
    | zero => exact absurd HA.out (by simp [lockfastlaw09_ClassMore.j0])
    | succ kj3 =>
      have H := HA.out
      clear HA
      simp only [lockfastlaw09_ClassMore.j0] at H
      have HC6 := Aside0.mk H
      clear H
      go_upto_region 6 with (fail)
      go_cut [31] (fun v31 wc => ∃ (kq : Nat) (x31_5 : Bool), v31 = .bool x31_5 ∧ Aside0 (lockfastlaw09_ClassMore.j1 kq t114 x6_3 x7_3 x31_5 = some r) ∧ Aside0 (kq ≤ kj3) ∧ Drawn0 w wc)
      case first =>
        have H := HC6.out
        clear HC6
        replace H := Option.bind_eq_some_iff.mp H
        obtain ⟨t115, A70, H⟩ := H
        replace H : ((class_Room.f x7_3).bind fun t116 => (if t115 > t116 then (lockfastlaw09_ClassMore.j1 kj3 t114 x6_3 x7_3 true) else ((class_Chunks.f x6_3).bind fun t117 => ((class_Chunks.f x7_3).bind fun t118 => (lockfastlaw09_ClassMore.j1 kj3 t114 x6_3 x7_3 (decide (t117 > t118))))))) = some r := H
        have A7 := Aside0.mk A70
        clear A70
        replace H := Option.bind_eq_some_iff.mp H
        obtain ⟨t116, A80, H⟩ := H
        replace H : (if t115 > t116 then (lockfastlaw09_ClassMore.j1 kj3 t114 x6_3 x7_3 true) else ((class_Chunks.f x6_3).bind fun t117 => ((class_Chunks.f x7_3).bind fun t118 => (lockfastlaw09_ClassMore.j1 kj3 t114 x6_3 x7_3 (decide (t117 > t118)))))) = some r := H
        have A8 := Aside0.mk A80
        clear A80
        by_cases c9 : t115 > t116
        · rw [if_pos c9] at H
          have c9b0 : decide (t116 < t115) = true := decide_eq_true c9
          clear c9
          (first | rw [c9b0] | (simp only [i64_w, i32_w]; rw [c9b0]) | skip)
          have H' := Aside0.mk H
          clear H
          go_wp2_with (first | ((with_reducible refine gate_callee (f := 17) rfl ?_); refine goesL_ (some 21) rfl rfl Tryd.func17 (by kernel_rfl) rfl #[.int .i64 x6_3] rfl (by (try simp only [List.map_toArray, List.map_cons, List.map_nil]); first | done | rfl | (simp only [List.length_drop, List.length_take]; rfl)) ?_; (with_reducible refine (class_Room.calls x6_3 t115 _ (by first | ((repeat (first | (with_reducible exact HG) | apply GL_drewN | apply GL_drew)); done) | exact GL_below HG (by repeat (first | (with_reducible first | exact HB.out | apply below_alloc | apply pw_below_drewN | apply below_drew1) | exact HB.out))) A7.out).mono ?_); rintro e w' ⟨rfl, ⟨nd, rfl⟩⟩; refine ⟨_, rfl, ?_⟩) | ((with_reducible refine gate_callee (f := 17) rfl ?_); refine goesL_ (some 23) rfl rfl Tryd.func17 (by kernel_rfl) rfl #[.int .i64 x7_3] rfl (by (try simp only [List.map_toArray, List.map_cons, List.map_nil]); first | done | rfl | (simp only [List.length_drop, List.length_take]; rfl)) ?_; (with_reducible refine (class_Room.calls x7_3 t116 _ (by first | ((repeat (first | (with_reducible exact HG) | apply GL_drewN | apply GL_drew)); done) | exact GL_below HG (by repeat (first | (with_reducible first | exact HB.out | apply below_alloc | apply pw_below_drewN | apply below_drew1) | exact HB.out))) A8.out).mono ?_); rintro e w' ⟨rfl, ⟨nd, rfl⟩⟩; refine ⟨_, rfl, ?_⟩))
          go_meet
          case rel => exact ⟨_, (true), (by first | rfl | (simp; done) | (simp [*]; done)), H', ⟨by have := HJ3.out; first | omega | exact Nat.le_refl _⟩, by repeat (first | exact Drawn0.refl _ | apply Drawn0.step)⟩
        · rw [if_neg c9] at H
          have c9b0 : decide (t116 < t115) = false := decide_eq_false c9
          clear c9
          (first | rw [c9b0] | (simp only [i64_w, i32_w]; rw [c9b0]) | skip)
          replace H := Option.bind_eq_some_iff.mp H
          obtain ⟨t117, A100, H⟩ := H
          replace H : ((class_Chunks.f x7_3).bind fun t118 => (lockfastlaw09_ClassMore.j1 kj3 t114 x6_3 x7_3 (decide (t117 > t118)))) = some r := H
          have A10 := Aside0.mk A100
          clear A100
          replace H := Option.bind_eq_some_iff.mp H
          obtain ⟨t118, A110, H⟩ := H
          replace H : (lockfastlaw09_ClassMore.j1 kj3 t114 x6_3 x7_3 (decide (t117 > t118))) = some r := H
          have A11 := Aside0.mk A110
          clear A110
          have H' := Aside0.mk H
          clear H
          go_wp2_with (first | ((with_reducible refine gate_callee (f := 17) rfl ?_); refine goesL_ (some 21) rfl rfl Tryd.func17 (by kernel_rfl) rfl #[.int .i64 x6_3] rfl (by (try simp only [List.map_toArray, List.map_cons, List.map_nil]); first | done | rfl | (simp only [List.length_drop, List.length_take]; rfl)) ?_; (with_reducible refine (class_Room.calls x6_3 t115 _ (by first | ((repeat (first | (with_reducible exact HG) | apply GL_drewN | apply GL_drew)); done) | exact GL_below HG (by repeat (first | (with_reducible first | exact HB.out | apply below_alloc | apply pw_below_drewN | apply below_drew1) | exact HB.out))) A7.out).mono ?_); rintro e w' ⟨rfl, ⟨nd, rfl⟩⟩; refine ⟨_, rfl, ?_⟩) | ((with_reducible refine gate_callee (f := 17) rfl ?_); refine goesL_ (some 23) rfl rfl Tryd.func17 (by kernel_rfl) rfl #[.int .i64 x7_3] rfl (by (try simp only [List.map_toArray, List.map_cons, List.map_nil]); first | done | rfl | (simp only [List.length_drop, List.length_take]; rfl)) ?_; (with_reducible refine (class_Room.calls x7_3 t116 _ (by first | ((repeat (first | (with_reducible exact HG) | apply GL_drewN | apply GL_drew)); done) | exact GL_below HG (by repeat (first | (with_reducible first | exact HB.out | apply below_alloc | apply pw_below_drewN | apply below_drew1) | exact HB.out))) A8.out).mono ?_); rintro e w' ⟨rfl, ⟨nd, rfl⟩⟩; refine ⟨_, rfl, ?_⟩) | (go_at_call 15; (with_reducible refine (class_Chunks.calls x6_3 t117 _ (by first | ((repeat (first | (with_reducible exact HG) | apply GL_drewN | apply GL_drew)); done) | exact GL_below HG (by repeat (first | (with_reducible first | exact HB.out | apply below_alloc | apply pw_below_drewN | apply below_drew1) | exact HB.out))) A10.out).mono ?_); rintro e w' ⟨rfl, ⟨nd, rfl⟩⟩) | (go_at_call 15; (with_reducible refine (class_Chunks.calls x7_3 t118 _ (by first | ((repeat (first | (with_reducible exact HG) | apply GL_drewN | apply GL_drew)); done) | exact GL_below HG (by repeat (first | (with_reducible first | exact HB.out | apply below_alloc | apply pw_below_drewN | apply below_drew1) | exact HB.out))) A11.out).mono ?_); rintro e w' ⟨rfl, ⟨nd, rfl⟩⟩))
          go_meet
          case rel => exact ⟨_, (decide (t117 > t118)), (by first | rfl | (simp; done) | (simp [*]; done)), H', ⟨by have := HJ3.out; first | omega | exact Nat.le_refl _⟩, by repeat (first | exact Drawn0.refl _ | apply Drawn0.step)⟩
      case rest =>
        clear HC6
        try clear c1
        try clear p2
        try clear c3
        try clear c5
        try clear c5b0
        try clear c6
        try clear p6
        try clear c8
        try clear c9
        try clear c9b0
        try clear p2
        obtain ⟨kq, x31_5, rfl, HA, HJ5, ⟨mc5, rfl⟩⟩ := hcut
        cases kq with
        | zero => exact absurd HA.out (by simp [lockfastlaw09_ClassMore.j1])
        | succ kj5 =>
          have H := HA.out
          clear HA
          simp only [lockfastlaw09_ClassMore.j1] at H
          by_cases c12 : x31_5 = true
          · subst c12
            have H1 : (some false) = some r := by rw [if_pos rfl] at H; exact H
            clear H
            have H := H1
            clear H1
            obtain rfl := Option.some.inj H
            exact absurd HRT.out (by decide)
          · replace c12 := Bool.eq_false_iff.mpr c12
            subst c12
            have H1 : ((class_Room.f x6_3).bind fun t119 => ((class_Room.f x7_3).bind fun t120 => (if t119 = t120 then ((class_Of.f x6_3).bind fun t121 => ((class_Of.f x7_3).bind fun t122 => (if t121 = t122 then ((class_Chunks.f x6_3).bind fun t123 => ((class_Chunks.f x7_3).bind fun t124 => (if t123 = t124 then (some t114) else (some false)))) else (some false)))) else (some t114)))) = some r := by rw [if_neg (show ¬ (false = true) by decide)] at H; exact H
            clear H
            have H := H1
            clear H1
            replace H := Option.bind_eq_some_iff.mp H
            obtain ⟨t119, A130, H⟩ := H
            replace H : ((class_Room.f x7_3).bind fun t120 => (if t119 = t120 then ((class_Of.f x6_3).bind fun t121 => ((class_Of.f x7_3).bind fun t122 => (if t121 = t122 then ((class_Chunks.f x6_3).bind fun t123 => ((class_Chunks.f x7_3).bind fun t124 => (if t123 = t124 then (some t114) else (some false)))) else (some false)))) else (some t114))) = some r := H
            have A13 := Aside0.mk A130
            clear A130
            replace H := Option.bind_eq_some_iff.mp H
            obtain ⟨t120, A140, H⟩ := H
            replace H : (if t119 = t120 then ((class_Of.f x6_3).bind fun t121 => ((class_Of.f x7_3).bind fun t122 => (if t121 = t122 then ((class_Chunks.f x6_3).bind fun t123 => ((class_Chunks.f x7_3).bind fun t124 => (if t123 = t124 then (some t114) else (some false)))) else (some false)))) else (some t114)) = some r := H
            have A14 := Aside0.mk A140
            clear A140
            by_cases c15 : t119 = t120
            · rw [if_pos c15] at H
              have c15b0 : (t119 == t120) = true := beq_iff_eq.mpr c15
              have c15b1 : (t119 != t120) = false := bne_eq_false_iff_eq.mpr c15
              clear c15
              replace H := Option.bind_eq_some_iff.mp H
              obtain ⟨t121, A160, H⟩ := H
              replace H : ((class_Of.f x7_3).bind fun t122 => (if t121 = t122 then ((class_Chunks.f x6_3).bind fun t123 => ((class_Chunks.f x7_3).bind fun t124 => (if t123 = t124 then (some t114) else (some false)))) else (some false))) = some r := H
              have A16 := Aside0.mk A160
              clear A160
              replace H := Option.bind_eq_some_iff.mp H
              obtain ⟨t122, A170, H⟩ := H
              replace H : (if t121 = t122 then ((class_Chunks.f x6_3).bind fun t123 => ((class_Chunks.f x7_3).bind fun t124 => (if t123 = t124 then (some t114) else (some false)))) else (some false)) = some r := H
              have A17 := Aside0.mk A170
              clear A170
              by_cases c18 : t121 = t122
              · rw [if_pos c18] at H
                have c18b0 : (t121 == t122) = true := beq_iff_eq.mpr c18
                have c18b1 : (t121 != t122) = false := bne_eq_false_iff_eq.mpr c18
                clear c18
                replace H := Option.bind_eq_some_iff.mp H
                obtain ⟨t123, A190, H⟩ := H
                replace H : ((class_Chunks.f x7_3).bind fun t124 => (if t123 = t124 then (some t114) else (some false))) = some r := H
                have A19 := Aside0.mk A190
                clear A190
                replace H := Option.bind_eq_some_iff.mp H
                obtain ⟨t124, A200, H⟩ := H
                replace H : (if t123 = t124 then (some t114) else (some false)) = some r := H
                have A20 := Aside0.mk A200
                clear A200
                by_cases c21 : t123 = t124
                · rw [if_pos c21] at H
                  have c21b0 : (t123 == t124) = true := beq_iff_eq.mpr c21
                  have c21b1 : (t123 != t124) = false := bne_eq_false_iff_eq.mpr c21
                  clear c21
                  obtain rfl := Option.some.inj H
                  simp only [Option.some.injEq, Prod.mk.injEq] at H
                  obtain ⟨rfl⟩ := H
                  go_wp2_with (first | ((with_reducible refine gate_callee (f := 17) rfl ?_); refine goesL_ (some 33) rfl rfl Tryd.func17 (by kernel_rfl) rfl #[.int .i64 x6_3] rfl (by (try simp only [List.map_toArray, List.map_cons, List.map_nil]); first | done | rfl | (simp only [List.length_drop, List.length_take]; rfl)) ?_; (with_reducible refine (class_Room.calls x6_3 t119 _ (by first | ((repeat (first | (with_reducible exact HG) | apply GL_drewN | apply GL_drew)); done) | exact GL_below HG (by repeat (first | (with_reducible first | exact HB.out | apply below_alloc | apply pw_below_drewN | apply below_drew1) | exact HB.out))) A13.out).mono ?_); rintro e w' ⟨rfl, ⟨nd, rfl⟩⟩; refine ⟨_, rfl, ?_⟩) | ((with_reducible refine gate_callee (f := 17) rfl ?_); refine goesL_ (some 35) rfl rfl Tryd.func17 (by kernel_rfl) rfl #[.int .i64 x7_3] rfl (by (try simp only [List.map_toArray, List.map_cons, List.map_nil]); first | done | rfl | (simp only [List.length_drop, List.length_take]; rfl)) ?_; (with_reducible refine (class_Room.calls x7_3 t120 _ (by first | ((repeat (first | (with_reducible exact HG) | apply GL_drewN | apply GL_drew)); done) | exact GL_below HG (by repeat (first | (with_reducible first | exact HB.out | apply below_alloc | apply pw_below_drewN | apply below_drew1) | exact HB.out))) A14.out).mono ?_); rintro e w' ⟨rfl, ⟨nd, rfl⟩⟩; refine ⟨_, rfl, ?_⟩) | (go_at_call 13; (with_reducible refine (class_Of.calls x6_3 t121 _ (by first | ((repeat (first | (with_reducible exact HG) | apply GL_drewN | apply GL_drew)); done) | exact GL_below HG (by repeat (first | (with_reducible first | exact HB.out | apply below_alloc | apply pw_below_drewN | apply below_drew1) | exact HB.out))) A16.out).mono ?_); rintro e w' ⟨rfl, ⟨nd, rfl⟩⟩) | (go_at_call 13; (with_reducible refine (class_Of.calls x7_3 t122 _ (by first | ((repeat (first | (with_reducible exact HG) | apply GL_drewN | apply GL_drew)); done) | exact GL_below HG (by repeat (first | (with_reducible first | exact HB.out | apply below_alloc | apply pw_below_drewN | apply below_drew1) | exact HB.out))) A17.out).mono ?_); rintro e w' ⟨rfl, ⟨nd, rfl⟩⟩) | (go_at_call 15; (with_reducible refine (class_Chunks.calls x6_3 t123 _ (by first | ((repeat (first | (with_reducible exact HG) | apply GL_drewN | apply GL_drew)); done) | exact GL_below HG (by repeat (first | (with_reducible first | exact HB.out | apply below_alloc | apply pw_below_drewN | apply below_drew1) | exact HB.out))) A19.out).mono ?_); rintro e w' ⟨rfl, ⟨nd, rfl⟩⟩) | (go_at_call 15; (with_reducible refine (class_Chunks.calls x7_3 t124 _ (by first | ((repeat (first | (with_reducible exact HG) | apply GL_drewN | apply GL_drew)); done) | exact GL_below HG (by repeat (first | (with_reducible first | exact HB.out | apply below_alloc | apply pw_below_drewN | apply below_drew1) | exact HB.out))) A20.out).mono ?_); rintro e w' ⟨rfl, ⟨nd, rfl⟩⟩))
                  go_ret
                  exact ⟨by first | rfl | (simp; done) | (simp [*]; done), by repeat (first | exact Drawn0.refl _ | apply Drawn0.step)⟩
                · rw [if_neg c21] at H
                  have c21b0 : (t123 == t124) = false := beq_eq_false_iff_ne.mpr c21
                  have c21b1 : (t123 != t124) = true := bne_iff_ne.mpr c21
                  obtain rfl := Option.some.inj H
                  exact absurd HRT.out (by decide)
              · rw [if_neg c18] at H
                have c18b0 : (t121 == t122) = false := beq_eq_false_iff_ne.mpr c18
                have c18b1 : (t121 != t122) = true := bne_iff_ne.mpr c18
                obtain rfl := Option.some.inj H
                exact absurd HRT.out (by decide)
            · rw [if_neg c15] at H
              have c15b0 : (t119 == t120) = false := beq_eq_false_iff_ne.mpr c15
              have c15b1 : (t119 != t120) = true := bne_iff_ne.mpr c15
              obtain rfl := Option.some.inj H
              simp only [Option.some.injEq, Prod.mk.injEq] at H
              obtain ⟨rfl⟩ := H
              go_wp2_with (first | ((with_reducible refine gate_callee (f := 17) rfl ?_); refine goesL_ (some 33) rfl rfl Tryd.func17 (by kernel_rfl) rfl #[.int .i64 x6_3] rfl (by (try simp only [List.map_toArray, List.map_cons, List.map_nil]); first | done | rfl | (simp only [List.length_drop, List.length_take]; rfl)) ?_; (with_reducible refine (class_Room.calls x6_3 t119 _ (by first | ((repeat (first | (with_reducible exact HG) | apply GL_drewN | apply GL_drew)); done) | exact GL_below HG (by repeat (first | (with_reducible first | exact HB.out | apply below_alloc | apply pw_below_drewN | apply below_drew1) | exact HB.out))) A13.out).mono ?_); rintro e w' ⟨rfl, ⟨nd, rfl⟩⟩; refine ⟨_, rfl, ?_⟩) | ((with_reducible refine gate_callee (f := 17) rfl ?_); refine goesL_ (some 35) rfl rfl Tryd.func17 (by kernel_rfl) rfl #[.int .i64 x7_3] rfl (by (try simp only [List.map_toArray, List.map_cons, List.map_nil]); first | done | rfl | (simp only [List.length_drop, List.length_take]; rfl)) ?_; (with_reducible refine (class_Room.calls x7_3 t120 _ (by first | ((repeat (first | (with_reducible exact HG) | apply GL_drewN | apply GL_drew)); done) | exact GL_below HG (by repeat (first | (with_reducible first | exact HB.out | apply below_alloc | apply pw_below_drewN | apply below_drew1) | exact HB.out))) A14.out).mono ?_); rintro e w' ⟨rfl, ⟨nd, rfl⟩⟩; refine ⟨_, rfl, ?_⟩))
              go_ret
              exact ⟨by first | rfl | (simp; done) | (simp [*]; done), by repeat (first | exact Drawn0.refl _ | apply Drawn0.step)⟩

/-- The one pure statement of lockfastlaw09_ClassMore. -/
def lockfastlaw09_ClassMore.Pure : Prop := ∀ (a0 : Int) (a1 : Int), (Lit.int .u16 a0).wf = true → (Lit.int .u16 a1).wf = true → ∃ k, lockfastlaw09_ClassMore.f k a0 a1 = some true

end Go.Proofs.YtnkigdcicnhepaaDoor.PClassMore
