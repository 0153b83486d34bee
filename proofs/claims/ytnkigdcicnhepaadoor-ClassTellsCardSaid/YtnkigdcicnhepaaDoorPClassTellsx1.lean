-- WRITTEN FOR THIS CLAIM by given.py, a program of this session's: the kit's printer, run with contracts of the session's own. It is not a text of print.sh's.
import Derived.Test.YtnkigdcicnhepaaDoorPClassTellsx0
namespace Go.Proofs.YtnkigdcicnhepaaDoor.PClassTells
open Go.RowKit Go.Proofs.YtnkigdcicnhepaaDoorW.PrintWords Go.Proofs.YtnkigdcicnhepaaDoorW.PrintLast Go.Proofs.YtnkigdcicnhepaaDoorW.PrintMore
attribute [local go_sem] max2_int min2_int max_two min_two max_three min_three max_four min_four   -- for this text's walks alone
set_option linter.unusedVariables false
set_option linter.unusedSimpArgs false
open Go.Proofs.YtnkigdcicnhepaaDoorX

/-! ### class_Block: function 9: a contract of the session's own -/
def class_Block.f (a0 : Int) : Option (Int) := if a0 < 0 then some 0 else if a0 ≥ 3 then some 0 else if a0 = 0 then some 4 else if a0 = 1 then some 8 else some 16
theorem class_Block.calls (a0 : Int) (r : Int) (w : World) (HG : GL w) (h : class_Block.f a0 = some r) :
    Calls Tryd.prog 9 #[.int .i64 a0] w fun e w' => e = .returned (.int .i64 r) ∧ Drawn0 w w' := by
  obtain ⟨g0, g1, g2⟩ := HG
  unfold class_Block.f at h
  by_cases h1 : a0 < 0
  · rw [if_pos h1] at h; obtain rfl := Option.some.inj h
    go_enter Tryd.func9, Tryd.ntmps9
    go_wp2
    go_ret
    exact ⟨rfl, ⟨0, rfl⟩⟩
  · rw [if_neg h1] at h
    by_cases h2 : a0 ≥ 3
    · rw [if_pos h2] at h; obtain rfl := Option.some.inj h
      go_enter Tryd.func9, Tryd.ntmps9
      go_wp2
      go_ret
      exact ⟨rfl, ⟨0, rfl⟩⟩
    · rw [if_neg h2] at h
      by_cases h3 : a0 = 0
      · subst h3; rw [if_pos rfl] at h; obtain rfl := Option.some.inj h
        go_enter Tryd.func9, Tryd.ntmps9
        go_wp2
        go_ret
        exact ⟨rfl, ⟨0, rfl⟩⟩
      · rw [if_neg h3] at h
        by_cases h4 : a0 = 1
        · subst h4; rw [if_pos rfl] at h; obtain rfl := Option.some.inj h
          go_enter Tryd.func9, Tryd.ntmps9
          go_wp2
          go_ret
          exact ⟨rfl, ⟨0, rfl⟩⟩
        · rw [if_neg h4] at h; obtain rfl := Option.some.inj h
          obtain rfl : a0 = 2 := by omega
          go_enter Tryd.func9, Tryd.ntmps9
          go_wp2
          go_ret
          exact ⟨rfl, ⟨0, rfl⟩⟩

/-! ### class_Many: function 10: a contract of the session's own -/
def class_Many.f (a0 : Int) : Option (Int) := (class_Block.f a0).bind fun t => if t = 0 then some 0 else some (32 / t)
theorem class_Many.calls (a0 : Int) (r : Int) (w : World) (HG : GL w) (h : class_Many.f a0 = some r) :
    Calls Tryd.prog 10 #[.int .i64 a0] w fun e w' => e = .returned (.int .i64 r) ∧ Drawn0 w w' := by
  unfold class_Many.f at h
  obtain ⟨t, ht, h⟩ := Option.bind_eq_some_iff.mp h
  have hv : t = 0 ∨ t = 4 ∨ t = 8 ∨ t = 16 := by
    unfold class_Block.f at ht
    repeat' split at ht
    all_goals (obtain rfl := Option.some.inj ht; simp)
  have HT := Aside0.mk ht
  rcases hv with rfl | rfl | rfl | rfl
  all_goals
    simp only [if_pos, Int.reduceEq, if_false, Int.reduceDiv] at h
    obtain rfl := Option.some.inj h
    clear h ht
    go_enter Tryd.func10, Tryd.ntmps10
    go_wp2_with (go_at_call 9; refine (class_Block.calls _ _ _ HG HT.out).mono ?_; rintro e w' ⟨rfl, ⟨nd, rfl⟩⟩)
    go_ret
    exact ⟨rfl, ⟨_, rfl⟩⟩

/-! ### class_Right: function 11 -/
def class_Right.f (a0 : Int) : Option (Bool) := if a0 ≥ 0 then (some (decide (a0 ≤ 4096))) else (some false)
set_option maxHeartbeats 8000000 in
set_option maxRecDepth 100000 in
theorem class_Right.calls (a0 : Int) (r : Bool) (w : World) (HG : GL w) (h : class_Right.f a0 = some r) :
    Calls Tryd.prog 11 #[.int .i64 a0] w fun e w' => e = .returned (.bool r) ∧ Drawn0 w w' := by
  have H : (if a0 ≥ 0 then (some (decide (a0 ≤ 4096))) else (some false)) = some r := h
  clear h
  by_cases c2 : a0 ≥ 0
  · rw [if_pos c2] at H
    have c2b0 : decide (0 ≤ a0) = true := decide_eq_true c2
    clear c2
    obtain rfl := Option.some.inj H
    simp only [Option.some.injEq, Prod.mk.injEq] at H
    obtain ⟨rfl⟩ := H
    go_enter Tryd.func11, Tryd.ntmps11
    go_wp2
    go_ret
    exact ⟨by first | rfl | (simp; done) | (simp [*]; done), by repeat (first | exact Drawn0.refl _ | apply Drawn0.step)⟩
  · rw [if_neg c2] at H
    have c2b0 : decide (0 ≤ a0) = false := decide_eq_false c2
    clear c2
    obtain rfl := Option.some.inj H
    simp only [Option.some.injEq, Prod.mk.injEq] at H
    obtain ⟨rfl⟩ := H
    go_enter Tryd.func11, Tryd.ntmps11
    go_wp2
    go_ret
    exact ⟨by first | rfl | (simp; done) | (simp [*]; done), by repeat (first | exact Drawn0.refl _ | apply Drawn0.step)⟩

/-! ### class_takes: function 21 -/
def class_takes.f (a0 : Int) : Option (Int) := some (wrap64 (a0 + 2))
set_option maxHeartbeats 8000000 in
set_option maxRecDepth 100000 in
theorem class_takes.calls (a0 : Int) (r : Int) (w : World) (HG : GL w) (h : class_takes.f a0 = some r) :
    Calls Tryd.prog 21 #[.int .i64 a0] w fun e w' => e = .returned (.int .i64 r) ∧ Drawn0 w w' := by
  have H : (some (wrap64 (a0 + 2))) = some r := h
  clear h
  obtain rfl := Option.some.inj H
  simp only [Option.some.injEq, Prod.mk.injEq] at H
  obtain ⟨rfl⟩ := H
  go_enter Tryd.func21, Tryd.ntmps21
  go_wp2
  go_ret
  exact ⟨by first | rfl | (simp; done) | (simp [*]; done), by repeat (first | exact Drawn0.refl _ | apply Drawn0.step)⟩

/-! ### class_Of: function 13: a contract of the session's own -/
def class_Of.f (a0 : Int) : Option (Int) := (class_Right.f a0).bind fun t => if t = true then (some (if a0 + 2 ≤ 4 then 0 else if a0 + 2 ≤ 8 then 1 else if a0 + 2 ≤ 16 then 2 else -1)) else some (-1)
theorem class_Of.calls (a0 : Int) (r : Int) (w : World) (HG : GL w) (h : class_Of.f a0 = some r) :
    Calls Tryd.prog 13 #[.int .i64 a0] w fun e w' => e = .returned (.int .i64 r) ∧ Drawn0 w w' := by
  unfold class_Of.f at h
  obtain ⟨t, ht, h⟩ := Option.bind_eq_some_iff.mp h
  have hb : t = true → 0 ≤ a0 ∧ a0 ≤ 4096 := by
    unfold class_Right.f at ht
    intro hh; subst hh
    split at ht
    · have := Option.some.inj ht; simp at this; omega
    · cases ht
  have HT := Aside0.mk ht
  clear ht
  cases t with
  | false =>
    simp only [Bool.false_eq_true, if_false] at h
    obtain rfl := Option.some.inj h
    go_enter Tryd.func13, Tryd.ntmps13
    go_wp2_with (go_at_call 11; refine (class_Right.calls _ _ _ HG HT.out).mono ?_; rintro e w' ⟨rfl, ⟨nd, rfl⟩⟩)
    go_ret
    exact ⟨rfl, ⟨_, rfl⟩⟩
  | true =>
    obtain ⟨h0, h1⟩ := hb rfl
    clear hb
    simp only [if_true] at h
    obtain rfl := Option.some.inj h
    clear h
    have hk : class_takes.f a0 = some (a0 + 2) := by unfold class_takes.f; congr 1; unfold wrap64; omega
    have HK := Aside0.mk hk
    clear hk
    obtain ⟨g0, g1, g2⟩ := id HG
    have i0 : ∀ w, (Instr.index 30 (.agg #[.int .i64 4, .int .i64 8, .int .i64 16]) (.int .i64 0)).run Tryd.prog w = .ok (.int .i64 4) w := fun _ => by kernel_rfl
    have i1 : ∀ w, (Instr.index 30 (.agg #[.int .i64 4, .int .i64 8, .int .i64 16]) (.int .i64 1)).run Tryd.prog w = .ok (.int .i64 8) w := fun _ => by kernel_rfl
    have i2 : ∀ w, (Instr.index 30 (.agg #[.int .i64 4, .int .i64 8, .int .i64 16]) (.int .i64 2)).run Tryd.prog w = .ok (.int .i64 16) w := fun _ => by kernel_rfl
    go_enter Tryd.func13, Tryd.ntmps13
    go_wp2_with (go_at_call 11; refine (class_Right.calls _ _ _ HG HT.out).mono ?_; rintro e w' ⟨rfl, ⟨nd, rfl⟩⟩)
    go_loopw [3, 4, 9] (fun _ _ i w' => ∃ (k : Nat) (n : Nat), k ≤ 3 ∧ i = .int .i64 k ∧ w' = w.drewN n ∧ (1 ≤ k → 4 < a0 + 2) ∧ (2 ≤ k → 8 < a0 + 2) ∧ (3 ≤ k → 16 < a0 + 2)) (fun _ _ i _ => 3 - (intOf i).toNat)
    case atStart => exact ⟨0, nd, by omega, rfl, rfl, by omega, by omega, by omega⟩
    case round =>
      obtain ⟨k, n, hk, rfl, rfl, c1, c2, c3⟩ := hrel
      have hc : k = 0 ∨ k = 1 ∨ k = 2 ∨ k = 3 := by omega
      clear hk
      rcases hc with rfl | rfl | rfl | rfl
      · clear c1 c2 c3
        by_cases hlt : a0 + 2 ≤ 4
        · have hd : decide (a0 + 2 ≤ 4) = true := decide_eq_true hlt
          go_wp2_with (go_at_call 21; refine (class_takes.calls _ _ _ (GL_drewN HG _) HK.out).mono ?_; rintro e w' ⟨rfl, ⟨ne, rfl⟩⟩)
          go_ret
          exact ⟨by first | rfl | (simp; done), ⟨_, rfl⟩⟩
        · have hd : decide (a0 + 2 ≤ 4) = false := decide_eq_false hlt
          go_wp2_with (go_at_call 21; refine (class_takes.calls _ _ _ (GL_drewN HG _) HK.out).mono ?_; rintro e w' ⟨rfl, ⟨ne, rfl⟩⟩)
          go_roundw
          case rel => exact ⟨1, _, by omega, rfl, rfl, by omega, by omega, by omega⟩
          case measure => simp [intOf]
      · have c1 := c1 (by omega)
        clear c2 c3
        by_cases hlt : a0 + 2 ≤ 8
        · have hd : decide (a0 + 2 ≤ 8) = true := decide_eq_true hlt
          go_wp2_with (go_at_call 21; refine (class_takes.calls _ _ _ (GL_drewN HG _) HK.out).mono ?_; rintro e w' ⟨rfl, ⟨ne, rfl⟩⟩)
          go_ret
          exact ⟨by first | rfl | (simp; done), ⟨_, rfl⟩⟩
        · have hd : decide (a0 + 2 ≤ 8) = false := decide_eq_false hlt
          go_wp2_with (go_at_call 21; refine (class_takes.calls _ _ _ (GL_drewN HG _) HK.out).mono ?_; rintro e w' ⟨rfl, ⟨ne, rfl⟩⟩)
          go_roundw
          case rel => exact ⟨2, _, by omega, rfl, rfl, by omega, by omega, by omega⟩
          case measure => simp [intOf]
      · have c1 := c1 (by omega)
        have c2 := c2 (by omega)
        clear c3
        by_cases hlt : a0 + 2 ≤ 16
        · have hd : decide (a0 + 2 ≤ 16) = true := decide_eq_true hlt
          go_wp2_with (go_at_call 21; refine (class_takes.calls _ _ _ (GL_drewN HG _) HK.out).mono ?_; rintro e w' ⟨rfl, ⟨ne, rfl⟩⟩)
          go_ret
          exact ⟨by first | rfl | (simp; done), ⟨_, rfl⟩⟩
        · have hd : decide (a0 + 2 ≤ 16) = false := decide_eq_false hlt
          go_wp2_with (go_at_call 21; refine (class_takes.calls _ _ _ (GL_drewN HG _) HK.out).mono ?_; rintro e w' ⟨rfl, ⟨ne, rfl⟩⟩)
          go_roundw
          case rel => exact ⟨3, _, by omega, rfl, rfl, by omega, by omega, by omega⟩
          case measure => simp [intOf]
      · have c1 := c1 (by omega)
        have c2 := c2 (by omega)
        have c3 := c3 (by omega)
        go_wp2
        go_ret
        exact ⟨by first | rfl | (simp; done), ⟨_, rfl⟩⟩

/-! ### class_Chunks: function 15 -/
def class_Chunks.f (a0 : Int) : Option (Int) := (class_Right.f a0).bind fun t101 => (if t101 = true then ((class_Of.f a0).bind fun t102 => (if t102 ≥ 0 then (some 0) else ((class_takes.f a0).bind fun t103 => (some (wrap64 (Int.tdiv (wrap64 ((wrap64 (t103 + 32)) - 1)) 32)))))) else (some 0))
set_option maxHeartbeats 8000000 in
set_option maxRecDepth 100000 in
theorem class_Chunks.calls (a0 : Int) (r : Int) (w : World) (HG : GL w) (h : class_Chunks.f a0 = some r) :
    Calls Tryd.prog 15 #[.int .i64 a0] w fun e w' => e = .returned (.int .i64 r) ∧ Drawn0 w w' := by
  have H : ((class_Right.f a0).bind fun t101 => (if t101 = true then ((class_Of.f a0).bind fun t102 => (if t102 ≥ 0 then (some 0) else ((class_takes.f a0).bind fun t103 => (some (wrap64 (Int.tdiv (wrap64 ((wrap64 (t103 + 32)) - 1)) 32)))))) else (some 0))) = some r := h
  clear h
  replace H := Option.bind_eq_some_iff.mp H
  obtain ⟨t101, A20, H⟩ := H
  replace H : (if t101 = true then ((class_Of.f a0).bind fun t102 => (if t102 ≥ 0 then (some 0) else ((class_takes.f a0).bind fun t103 => (some (wrap64 (Int.tdiv (wrap64 ((wrap64 (t103 + 32)) - 1)) 32)))))) else (some 0)) = some r := H
  have A2 := Aside0.mk A20
  clear A20
  by_cases c3 : t101 = true
  · subst c3
    have H1 : ((class_Of.f a0).bind fun t102 => (if t102 ≥ 0 then (some 0) else ((class_takes.f a0).bind fun t103 => (some (wrap64 (Int.tdiv (wrap64 ((wrap64 (t103 + 32)) - 1)) 32)))))) = some r := by rw [if_pos rfl] at H; exact H
    clear H
    have H := H1
    clear H1
    replace H := Option.bind_eq_some_iff.mp H
    obtain ⟨t102, A40, H⟩ := H
    replace H : (if t102 ≥ 0 then (some 0) else ((class_takes.f a0).bind fun t103 => (some (wrap64 (Int.tdiv (wrap64 ((wrap64 (t103 + 32)) - 1)) 32))))) = some r := H
    have A4 := Aside0.mk A40
    clear A40
    by_cases c5 : t102 ≥ 0
    · rw [if_pos c5] at H
      have c5b0 : decide (0 ≤ t102) = true := decide_eq_true c5
      clear c5
      obtain rfl := Option.some.inj H
      simp only [Option.some.injEq, Prod.mk.injEq] at H
      obtain ⟨rfl⟩ := H
      go_enter Tryd.func15, Tryd.ntmps15
      go_wp2_with (first | ((with_reducible refine gate_callee (f := 11) rfl ?_); refine goesL_ (some 4) rfl rfl Tryd.func11 (by kernel_rfl) rfl #[.int .i64 a0] rfl (by (try simp only [List.map_toArray, List.map_cons, List.map_nil]); first | done | rfl | (simp only [List.length_drop, List.length_take]; rfl)) ?_; (with_reducible refine (class_Right.calls a0 true _ (by first | ((repeat (first | (with_reducible exact HG) | apply GL_drewN | apply GL_drew)); done) | exact GL_below HG (by repeat (first | (with_reducible first | exact HB.out | apply below_alloc | apply pw_below_drewN | apply below_drew1) | exact HB.out))) A2.out).mono ?_); rintro e w' ⟨rfl, ⟨nd, rfl⟩⟩; refine ⟨_, rfl, ?_⟩) | (go_at_call 13; (with_reducible refine (class_Of.calls a0 t102 _ (by first | ((repeat (first | (with_reducible exact HG) | apply GL_drewN | apply GL_drew)); done) | exact GL_below HG (by repeat (first | (with_reducible first | exact HB.out | apply below_alloc | apply pw_below_drewN | apply below_drew1) | exact HB.out))) A4.out).mono ?_); rintro e w' ⟨rfl, ⟨nd, rfl⟩⟩))
      go_ret
      exact ⟨by first | rfl | (simp; done) | (simp [*]; done), by repeat (first | exact Drawn0.refl _ | apply Drawn0.step)⟩
    · rw [if_neg c5] at H
      have c5b0 : decide (0 ≤ t102) = false := decide_eq_false c5
      clear c5
      replace H := Option.bind_eq_some_iff.mp H
      obtain ⟨t103, A60, H⟩ := H
      replace H : (some (wrap64 (Int.tdiv (wrap64 ((wrap64 (t103 + 32)) - 1)) 32))) = some r := H
      have A6 := Aside0.mk A60
      clear A60
      obtain rfl := Option.some.inj H
      simp only [Option.some.injEq, Prod.mk.injEq] at H
      obtain ⟨rfl⟩ := H
      go_enter Tryd.func15, Tryd.ntmps15
      go_wp2_with (first | ((with_reducible refine gate_callee (f := 11) rfl ?_); refine goesL_ (some 4) rfl rfl Tryd.func11 (by kernel_rfl) rfl #[.int .i64 a0] rfl (by (try simp only [List.map_toArray, List.map_cons, List.map_nil]); first | done | rfl | (simp only [List.length_drop, List.length_take]; rfl)) ?_; (with_reducible refine (class_Right.calls a0 true _ (by first | ((repeat (first | (with_reducible exact HG) | apply GL_drewN | apply GL_drew)); done) | exact GL_below HG (by repeat (first | (with_reducible first | exact HB.out | apply below_alloc | apply pw_below_drewN | apply below_drew1) | exact HB.out))) A2.out).mono ?_); rintro e w' ⟨rfl, ⟨nd, rfl⟩⟩; refine ⟨_, rfl, ?_⟩) | (go_at_call 13; (with_reducible refine (class_Of.calls a0 t102 _ (by first | ((repeat (first | (with_reducible exact HG) | apply GL_drewN | apply GL_drew)); done) | exact GL_below HG (by repeat (first | (with_reducible first | exact HB.out | apply below_alloc | apply pw_below_drewN | apply below_drew1) | exact HB.out))) A4.out).mono ?_); rintro e w' ⟨rfl, ⟨nd, rfl⟩⟩) | ((with_reducible refine gate_callee (f := 21) rfl ?_); refine goesL_ (some 12) rfl rfl Tryd.func21 (by kernel_rfl) rfl #[.int .i64 a0] rfl (by (try simp only [List.map_toArray, List.map_cons, List.map_nil]); first | done | rfl | (simp only [List.length_drop, List.length_take]; rfl)) ?_; (with_reducible refine (class_takes.calls a0 t103 _ (by first | ((repeat (first | (with_reducible exact HG) | apply GL_drewN | apply GL_drew)); done) | exact GL_below HG (by repeat (first | (with_reducible first | exact HB.out | apply below_alloc | apply pw_below_drewN | apply below_drew1) | exact HB.out))) A6.out).mono ?_); rintro e w' ⟨rfl, ⟨nd, rfl⟩⟩; refine ⟨_, rfl, ?_⟩))
      go_ret
      exact ⟨by first | rfl | (simp; done) | (simp [*]; done), by repeat (first | exact Drawn0.refl _ | apply Drawn0.step)⟩
  · replace c3 := Bool.eq_false_iff.mpr c3
    subst c3
    have H1 : (some 0) = some r := by rw [if_neg (show ¬ (false = true) by decide)] at H; exact H
    clear H
    have H := H1
    clear H1
    obtain rfl := Option.some.inj H
    simp only [Option.some.injEq, Prod.mk.injEq] at H
    obtain ⟨rfl⟩ := H
    go_enter Tryd.func15, Tryd.ntmps15
    go_wp2_with (first | ((with_reducible refine gate_callee (f := 11) rfl ?_); refine goesL_ (some 4) rfl rfl Tryd.func11 (by kernel_rfl) rfl #[.int .i64 a0] rfl (by (try simp only [List.map_toArray, List.map_cons, List.map_nil]); first | done | rfl | (simp only [List.length_drop, List.length_take]; rfl)) ?_; (with_reducible refine (class_Right.calls a0 false _ (by first | ((repeat (first | (with_reducible exact HG) | apply GL_drewN | apply GL_drew)); done) | exact GL_below HG (by repeat (first | (with_reducible first | exact HB.out | apply below_alloc | apply pw_below_drewN | apply below_drew1) | exact HB.out))) A2.out).mono ?_); rintro e w' ⟨rfl, ⟨nd, rfl⟩⟩; refine ⟨_, rfl, ?_⟩))
    go_ret
    exact ⟨by first | rfl | (simp; done) | (simp [*]; done), by repeat (first | exact Drawn0.refl _ | apply Drawn0.step)⟩

/-! ### lockfastlaw09_awake: function 8 -/
def lockfastlaw09_awake.f  : Option (Bool) := (class_Of.f 2).bind fun t104 => (if t104 = 0 then ((class_Of.f 3).bind fun t105 => (if t105 = 1 then ((class_Of.f 15).bind fun t106 => (if t106 = (-1) then ((class_Chunks.f 15).bind fun t107 => (if t107 = 1 then ((class_Chunks.f 31).bind fun t108 => (if t108 = 2 then ((class_Block.f 2).bind fun t109 => (if t109 = 16 then ((class_Many.f 0).bind fun t110 => (some (t110 == 8))) else (some false))) else (some false))) else (some false))) else (some false))) else (some false))) else (some false))
set_option maxHeartbeats 8000000 in
set_option maxRecDepth 100000 in
theorem lockfastlaw09_awake.calls  (r : Bool) (w : World) (HG : GL w) (h : lockfastlaw09_awake.f  = some r) :
    Calls Tryd.prog 8 #[] w fun e w' => e = .returned (.bool r) ∧ Drawn0 w w' := by
  have H : ((class_Of.f 2).bind fun t104 => (if t104 = 0 then ((class_Of.f 3).bind fun t105 => (if t105 = 1 then ((class_Of.f 15).bind fun t106 => (if t106 = (-1) then ((class_Chunks.f 15).bind fun t107 => (if t107 = 1 then ((class_Chunks.f 31).bind fun t108 => (if t108 = 2 then ((class_Block.f 2).bind fun t109 => (if t109 = 16 then ((class_Many.f 0).bind fun t110 => (some (t110 == 8))) else (some false))) else (some false))) else (some false))) else (some false))) else (some false))) else (some false))) = some r := h
  clear h
  replace H := Option.bind_eq_some_iff.mp H
  obtain ⟨t104, A10, H⟩ := H
  replace H : (if t104 = 0 then ((class_Of.f 3).bind fun t105 => (if t105 = 1 then ((class_Of.f 15).bind fun t106 => (if t106 = (-1) then ((class_Chunks.f 15).bind fun t107 => (if t107 = 1 then ((class_Chunks.f 31).bind fun t108 => (if t108 = 2 then ((class_Block.f 2).bind fun t109 => (if t109 = 16 then ((class_Many.f 0).bind fun t110 => (some (t110 == 8))) else (some false))) else (some false))) else (some false))) else (some false))) else (some false))) else (some false)) = some r := H
  have A1 := Aside0.mk A10
  clear A10
  by_cases c2 : t104 = 0
  · rw [if_pos c2] at H
    have c2b0 : (t104 == 0) = true := beq_iff_eq.mpr c2
    have c2b1 : (t104 != 0) = false := bne_eq_false_iff_eq.mpr c2
    clear c2
    replace H := Option.bind_eq_some_iff.mp H
    obtain ⟨t105, A30, H⟩ := H
    replace H : (if t105 = 1 then ((class_Of.f 15).bind fun t106 => (if t106 = (-1) then ((class_Chunks.f 15).bind fun t107 => (if t107 = 1 then ((class_Chunks.f 31).bind fun t108 => (if t108 = 2 then ((class_Block.f 2).bind fun t109 => (if t109 = 16 then ((class_Many.f 0).bind fun t110 => (some (t110 == 8))) else (some false))) else (some false))) else (some false))) else (some false))) else (some false)) = some r := H
    have A3 := Aside0.mk A30
    clear A30
    by_cases c4 : t105 = 1
    · rw [if_pos c4] at H
      have c4b0 : (t105 == 1) = true := beq_iff_eq.mpr c4
      have c4b1 : (t105 != 1) = false := bne_eq_false_iff_eq.mpr c4
      clear c4
      replace H := Option.bind_eq_some_iff.mp H
      obtain ⟨t106, A50, H⟩ := H
      replace H : (if t106 = (-1) then ((class_Chunks.f 15).bind fun t107 => (if t107 = 1 then ((class_Chunks.f 31).bind fun t108 => (if t108 = 2 then ((class_Block.f 2).bind fun t109 => (if t109 = 16 then ((class_Many.f 0).bind fun t110 => (some (t110 == 8))) else (some false))) else (some false))) else (some false))) else (some false)) = some r := H
      have A5 := Aside0.mk A50
      clear A50
      by_cases c6 : t106 = (-1)
      · rw [if_pos c6] at H
        have c6b0 : (t106 == (-1)) = true := beq_iff_eq.mpr c6
        have c6b1 : (t106 != (-1)) = false := bne_eq_false_iff_eq.mpr c6
        clear c6
        replace H := Option.bind_eq_some_iff.mp H
        obtain ⟨t107, A70, H⟩ := H
        replace H : (if t107 = 1 then ((class_Chunks.f 31).bind fun t108 => (if t108 = 2 then ((class_Block.f 2).bind fun t109 => (if t109 = 16 then ((class_Many.f 0).bind fun t110 => (some (t110 == 8))) else (some false))) else (some false))) else (some false)) = some r := H
        have A7 := Aside0.mk A70
        clear A70
        by_cases c8 : t107 = 1
        · rw [if_pos c8] at H
          have c8b0 : (t107 == 1) = true := beq_iff_eq.mpr c8
          have c8b1 : (t107 != 1) = false := bne_eq_false_iff_eq.mpr c8
          clear c8
          replace H := Option.bind_eq_some_iff.mp H
          obtain ⟨t108, A90, H⟩ := H
          replace H : (if t108 = 2 then ((class_Block.f 2).bind fun t109 => (if t109 = 16 then ((class_Many.f 0).bind fun t110 => (some (t110 == 8))) else (some false))) else (some false)) = some r := H
          have A9 := Aside0.mk A90
          clear A90
          by_cases c10 : t108 = 2
          · rw [if_pos c10] at H
            have c10b0 : (t108 == 2) = true := beq_iff_eq.mpr c10
            have c10b1 : (t108 != 2) = false := bne_eq_false_iff_eq.mpr c10
            clear c10
            replace H := Option.bind_eq_some_iff.mp H
            obtain ⟨t109, A110, H⟩ := H
            replace H : (if t109 = 16 then ((class_Many.f 0).bind fun t110 => (some (t110 == 8))) else (some false)) = some r := H
            have A11 := Aside0.mk A110
            clear A110
            by_cases c12 : t109 = 16
            · rw [if_pos c12] at H
              have c12b0 : (t109 == 16) = true := beq_iff_eq.mpr c12
              have c12b1 : (t109 != 16) = false := bne_eq_false_iff_eq.mpr c12
              clear c12
              replace H := Option.bind_eq_some_iff.mp H
              obtain ⟨t110, A130, H⟩ := H
              replace H : (some (t110 == 8)) = some r := H
              have A13 := Aside0.mk A130
              clear A130
              obtain rfl := Option.some.inj H
              simp only [Option.some.injEq, Prod.mk.injEq] at H
              obtain ⟨rfl⟩ := H
              go_enter Tryd.func8, Tryd.ntmps8
              go_wp2_with (first | ((with_reducible refine gate_callee (f := 13) rfl ?_); refine goesL_ (some 1) rfl rfl Tryd.func13 (by kernel_rfl) rfl #[.int .i64 2] rfl (by (try simp only [List.map_toArray, List.map_cons, List.map_nil]); first | done | rfl | (simp only [List.length_drop, List.length_take]; rfl)) ?_; (with_reducible refine (class_Of.calls 2 t104 _ (by first | ((repeat (first | (with_reducible exact HG) | apply GL_drewN | apply GL_drew)); done) | exact GL_below HG (by repeat (first | (with_reducible first | exact HB.out | apply below_alloc | apply pw_below_drewN | apply below_drew1) | exact HB.out))) A1.out).mono ?_); rintro e w' ⟨rfl, ⟨nd, rfl⟩⟩; refine ⟨_, rfl, ?_⟩) | (go_at_call 13; (with_reducible refine (class_Of.calls 3 t105 _ (by first | ((repeat (first | (with_reducible exact HG) | apply GL_drewN | apply GL_drew)); done) | exact GL_below HG (by repeat (first | (with_reducible first | exact HB.out | apply below_alloc | apply pw_below_drewN | apply below_drew1) | exact HB.out))) A3.out).mono ?_); rintro e w' ⟨rfl, ⟨nd, rfl⟩⟩) | (go_at_call 13; (with_reducible refine (class_Of.calls 15 t106 _ (by first | ((repeat (first | (with_reducible exact HG) | apply GL_drewN | apply GL_drew)); done) | exact GL_below HG (by repeat (first | (with_reducible first | exact HB.out | apply below_alloc | apply pw_below_drewN | apply below_drew1) | exact HB.out))) A5.out).mono ?_); rintro e w' ⟨rfl, ⟨nd, rfl⟩⟩) | (go_at_call 15; (with_reducible refine (class_Chunks.calls 15 t107 _ (by first | ((repeat (first | (with_reducible exact HG) | apply GL_drewN | apply GL_drew)); done) | exact GL_below HG (by repeat (first | (with_reducible first | exact HB.out | apply below_alloc | apply pw_below_drewN | apply below_drew1) | exact HB.out))) A7.out).mono ?_); rintro e w' ⟨rfl, ⟨nd, rfl⟩⟩) | (go_at_call 15; (with_reducible refine (class_Chunks.calls 31 t108 _ (by first | ((repeat (first | (with_reducible exact HG) | apply GL_drewN | apply GL_drew)); done) | exact GL_below HG (by repeat (first | (with_reducible first | exact HB.out | apply below_alloc | apply pw_below_drewN | apply below_drew1) | exact HB.out))) A9.out).mono ?_); rintro e w' ⟨rfl, ⟨nd, rfl⟩⟩) | (go_at_call 9; (with_reducible refine (class_Block.calls 2 t109 _ (by first | ((repeat (first | (with_reducible exact HG) | apply GL_drewN | apply GL_drew)); done) | exact GL_below HG (by repeat (first | (with_reducible first | exact HB.out | apply below_alloc | apply pw_below_drewN | apply below_drew1) | exact HB.out))) A11.out).mono ?_); rintro e w' ⟨rfl, ⟨nd, rfl⟩⟩) | (go_at_call 10; (with_reducible refine (class_Many.calls 0 t110 _ (by first | ((repeat (first | (with_reducible exact HG) | apply GL_drewN | apply GL_drew)); done) | exact GL_below HG (by repeat (first | (with_reducible first | exact HB.out | apply below_alloc | apply pw_below_drewN | apply below_drew1) | exact HB.out))) A13.out).mono ?_); rintro e w' ⟨rfl, ⟨nd, rfl⟩⟩))
              go_ret
              exact ⟨by first | rfl | (simp; done) | (simp [*]; done), by repeat (first | exact Drawn0.refl _ | apply Drawn0.step)⟩
            · rw [if_neg c12] at H
              have c12b0 : (t109 == 16) = false := beq_eq_false_iff_ne.mpr c12
              have c12b1 : (t109 != 16) = true := bne_iff_ne.mpr c12
              obtain rfl := Option.some.inj H
              simp only [Option.some.injEq, Prod.mk.injEq] at H
              obtain ⟨rfl⟩ := H
              go_enter Tryd.func8, Tryd.ntmps8
              go_wp2_with (first | ((with_reducible refine gate_callee (f := 13) rfl ?_); refine goesL_ (some 1) rfl rfl Tryd.func13 (by kernel_rfl) rfl #[.int .i64 2] rfl (by (try simp only [List.map_toArray, List.map_cons, List.map_nil]); first | done | rfl | (simp only [List.length_drop, List.length_take]; rfl)) ?_; (with_reducible refine (class_Of.calls 2 t104 _ (by first | ((repeat (first | (with_reducible exact HG) | apply GL_drewN | apply GL_drew)); done) | exact GL_below HG (by repeat (first | (with_reducible first | exact HB.out | apply below_alloc | apply pw_below_drewN | apply below_drew1) | exact HB.out))) A1.out).mono ?_); rintro e w' ⟨rfl, ⟨nd, rfl⟩⟩; refine ⟨_, rfl, ?_⟩) | (go_at_call 13; (with_reducible refine (class_Of.calls 3 t105 _ (by first | ((repeat (first | (with_reducible exact HG) | apply GL_drewN | apply GL_drew)); done) | exact GL_below HG (by repeat (first | (with_reducible first | exact HB.out | apply below_alloc | apply pw_below_drewN | apply below_drew1) | exact HB.out))) A3.out).mono ?_); rintro e w' ⟨rfl, ⟨nd, rfl⟩⟩) | (go_at_call 13; (with_reducible refine (class_Of.calls 15 t106 _ (by first | ((repeat (first | (with_reducible exact HG) | apply GL_drewN | apply GL_drew)); done) | exact GL_below HG (by repeat (first | (with_reducible first | exact HB.out | apply below_alloc | apply pw_below_drewN | apply below_drew1) | exact HB.out))) A5.out).mono ?_); rintro e w' ⟨rfl, ⟨nd, rfl⟩⟩) | (go_at_call 15; (with_reducible refine (class_Chunks.calls 15 t107 _ (by first | ((repeat (first | (with_reducible exact HG) | apply GL_drewN | apply GL_drew)); done) | exact GL_below HG (by repeat (first | (with_reducible first | exact HB.out | apply below_alloc | apply pw_below_drewN | apply below_drew1) | exact HB.out))) A7.out).mono ?_); rintro e w' ⟨rfl, ⟨nd, rfl⟩⟩) | (go_at_call 15; (with_reducible refine (class_Chunks.calls 31 t108 _ (by first | ((repeat (first | (with_reducible exact HG) | apply GL_drewN | apply GL_drew)); done) | exact GL_below HG (by repeat (first | (with_reducible first | exact HB.out | apply below_alloc | apply pw_below_drewN | apply below_drew1) | exact HB.out))) A9.out).mono ?_); rintro e w' ⟨rfl, ⟨nd, rfl⟩⟩) | (go_at_call 9; (with_reducible refine (class_Block.calls 2 t109 _ (by first | ((repeat (first | (with_reducible exact HG) | apply GL_drewN | apply GL_drew)); done) | exact GL_below HG (by repeat (first | (with_reducible first | exact HB.out | apply below_alloc | apply pw_below_drewN | apply below_drew1) | exact HB.out))) A11.out).mono ?_); rintro e w' ⟨rfl, ⟨nd, rfl⟩⟩))
              go_ret
              exact ⟨by first | rfl | (simp; done) | (simp [*]; done), by repeat (first | exact Drawn0.refl _ | apply Drawn0.step)⟩
          · rw [if_neg c10] at H
            have c10b0 : (t108 == 2) = false := beq_eq_false_iff_ne.mpr c10
            have c10b1 : (t108 != 2) = true := bne_iff_ne.mpr c10
            obtain rfl := Option.some.inj H
            simp only [Option.some.injEq, Prod.mk.injEq] at H
            obtain ⟨rfl⟩ := H
            go_enter Tryd.func8, Tryd.ntmps8
            go_wp2_with (first | ((with_reducible refine gate_callee (f := 13) rfl ?_); refine goesL_ (some 1) rfl rfl Tryd.func13 (by kernel_rfl) rfl #[.int .i64 2] rfl (by (try simp only [List.map_toArray, List.map_cons, List.map_nil]); first | done | rfl | (simp only [List.length_drop, List.length_take]; rfl)) ?_; (with_reducible refine (class_Of.calls 2 t104 _ (by first | ((repeat (first | (with_reducible exact HG) | apply GL_drewN | apply GL_drew)); done) | exact GL_below HG (by repeat (first | (with_reducible first | exact HB.out | apply below_alloc | apply pw_below_drewN | apply below_drew1) | exact HB.out))) A1.out).mono ?_); rintro e w' ⟨rfl, ⟨nd, rfl⟩⟩; refine ⟨_, rfl, ?_⟩) | (go_at_call 13; (with_reducible refine (class_Of.calls 3 t105 _ (by first | ((repeat (first | (with_reducible exact HG) | apply GL_drewN | apply GL_drew)); done) | exact GL_below HG (by repeat (first | (with_reducible first | exact HB.out | apply below_alloc | apply pw_below_drewN | apply below_drew1) | exact HB.out))) A3.out).mono ?_); rintro e w' ⟨rfl, ⟨nd, rfl⟩⟩) | (go_at_call 13; (with_reducible refine (class_Of.calls 15 t106 _ (by first | ((repeat (first | (with_reducible exact HG) | apply GL_drewN | apply GL_drew)); done) | exact GL_below HG (by repeat (first | (with_reducible first | exact HB.out | apply below_alloc | apply pw_below_drewN | apply below_drew1) | exact HB.out))) A5.out).mono ?_); rintro e w' ⟨rfl, ⟨nd, rfl⟩⟩) | (go_at_call 15; (with_reducible refine (class_Chunks.calls 15 t107 _ (by first | ((repeat (first | (with_reducible exact HG) | apply GL_drewN | apply GL_drew)); done) | exact GL_below HG (by repeat (first | (with_reducible first | exact HB.out | apply below_alloc | apply pw_below_drewN | apply below_drew1) | exact HB.out))) A7.out).mono ?_); rintro e w' ⟨rfl, ⟨nd, rfl⟩⟩) | (go_at_call 15; (with_reducible refine (class_Chunks.calls 31 t108 _ (by first | ((repeat (first | (with_reducible exact HG) | apply GL_drewN | apply GL_drew)); done) | exact GL_below HG (by repeat (first | (with_reducible first | exact HB.out | apply below_alloc | apply pw_below_drewN | apply below_drew1) | exact HB.out))) A9.out).mono ?_); rintro e w' ⟨rfl, ⟨nd, rfl⟩⟩))
            go_ret
            exact ⟨by first | rfl | (simp; done) | (simp [*]; done), by repeat (first | exact Drawn0.refl _ | apply Drawn0.step)⟩
        · rw [if_neg c8] at H
          have c8b0 : (t107 == 1) = false := beq_eq_false_iff_ne.mpr c8
          have c8b1 : (t107 != 1) = true := bne_iff_ne.mpr c8
          obtain rfl := Option.some.inj H
          simp only [Option.some.injEq, Prod.mk.injEq] at H
          obtain ⟨rfl⟩ := H
          go_enter Tryd.func8, Tryd.ntmps8
          go_wp2_with (first | ((with_reducible refine gate_callee (f := 13) rfl ?_); refine goesL_ (some 1) rfl rfl Tryd.func13 (by kernel_rfl) rfl #[.int .i64 2] rfl (by (try simp only [List.map_toArray, List.map_cons, List.map_nil]); first | done | rfl | (simp only [List.length_drop, List.length_take]; rfl)) ?_; (with_reducible refine (class_Of.calls 2 t104 _ (by first | ((repeat (first | (with_reducible exact HG) | apply GL_drewN | apply GL_drew)); done) | exact GL_below HG (by repeat (first | (with_reducible first | exact HB.out | apply below_alloc | apply pw_below_drewN | apply below_drew1) | exact HB.out))) A1.out).mono ?_); rintro e w' ⟨rfl, ⟨nd, rfl⟩⟩; refine ⟨_, rfl, ?_⟩) | (go_at_call 13; (with_reducible refine (class_Of.calls 3 t105 _ (by first | ((repeat (first | (with_reducible exact HG) | apply GL_drewN | apply GL_drew)); done) | exact GL_below HG (by repeat (first | (with_reducible first | exact HB.out | apply below_alloc | apply pw_below_drewN | apply below_drew1) | exact HB.out))) A3.out).mono ?_); rintro e w' ⟨rfl, ⟨nd, rfl⟩⟩) | (go_at_call 13; (with_reducible refine (class_Of.calls 15 t106 _ (by first | ((repeat (first | (with_reducible exact HG) | apply GL_drewN | apply GL_drew)); done) | exact GL_below HG (by repeat (first | (with_reducible first | exact HB.out | apply below_alloc | apply pw_below_drewN | apply below_drew1) | exact HB.out))) A5.out).mono ?_); rintro e w' ⟨rfl, ⟨nd, rfl⟩⟩) | (go_at_call 15; (with_reducible refine (class_Chunks.calls 15 t107 _ (by first | ((repeat (first | (with_reducible exact HG) | apply GL_drewN | apply GL_drew)); done) | exact GL_below HG (by repeat (first | (with_reducible first | exact HB.out | apply below_alloc | apply pw_below_drewN | apply below_drew1) | exact HB.out))) A7.out).mono ?_); rintro e w' ⟨rfl, ⟨nd, rfl⟩⟩))
          go_ret
          exact ⟨by first | rfl | (simp; done) | (simp [*]; done), by repeat (first | exact Drawn0.refl _ | apply Drawn0.step)⟩
      · rw [if_neg c6] at H
        have c6b0 : (t106 == (-1)) = false := beq_eq_false_iff_ne.mpr c6
        have c6b1 : (t106 != (-1)) = true := bne_iff_ne.mpr c6
        obtain rfl := Option.some.inj H
        simp only [Option.some.injEq, Prod.mk.injEq] at H
        obtain ⟨rfl⟩ := H
        go_enter Tryd.func8, Tryd.ntmps8
        go_wp2_with (first | ((with_reducible refine gate_callee (f := 13) rfl ?_); refine goesL_ (some 1) rfl rfl Tryd.func13 (by kernel_rfl) rfl #[.int .i64 2] rfl (by (try simp only [List.map_toArray, List.map_cons, List.map_nil]); first | done | rfl | (simp only [List.length_drop, List.length_take]; rfl)) ?_; (with_reducible refine (class_Of.calls 2 t104 _ (by first | ((repeat (first | (with_reducible exact HG) | apply GL_drewN | apply GL_drew)); done) | exact GL_below HG (by repeat (first | (with_reducible first | exact HB.out | apply below_alloc | apply pw_below_drewN | apply below_drew1) | exact HB.out))) A1.out).mono ?_); rintro e w' ⟨rfl, ⟨nd, rfl⟩⟩; refine ⟨_, rfl, ?_⟩) | (go_at_call 13; (with_reducible refine (class_Of.calls 3 t105 _ (by first | ((repeat (first | (with_reducible exact HG) | apply GL_drewN | apply GL_drew)); done) | exact GL_below HG (by repeat (first | (with_reducible first | exact HB.out | apply below_alloc | apply pw_below_drewN | apply below_drew1) | exact HB.out))) A3.out).mono ?_); rintro e w' ⟨rfl, ⟨nd, rfl⟩⟩) | (go_at_call 13; (with_reducible refine (class_Of.calls 15 t106 _ (by first | ((repeat (first | (with_reducible exact HG) | apply GL_drewN | apply GL_drew)); done) | exact GL_below HG (by repeat (first | (with_reducible first | exact HB.out | apply below_alloc | apply pw_below_drewN | apply below_drew1) | exact HB.out))) A5.out).mono ?_); rintro e w' ⟨rfl, ⟨nd, rfl⟩⟩))
        go_ret
        exact ⟨by first | rfl | (simp; done) | (simp [*]; done), by repeat (first | exact Drawn0.refl _ | apply Drawn0.step)⟩
    · rw [if_neg c4] at H
      have c4b0 : (t105 == 1) = false := beq_eq_false_iff_ne.mpr c4
      have c4b1 : (t105 != 1) = true := bne_iff_ne.mpr c4
      obtain rfl := Option.some.inj H
      simp only [Option.some.injEq, Prod.mk.injEq] at H
      obtain ⟨rfl⟩ := H
      go_enter Tryd.func8, Tryd.ntmps8
      go_wp2_with (first | ((with_reducible refine gate_callee (f := 13) rfl ?_); refine goesL_ (some 1) rfl rfl Tryd.func13 (by kernel_rfl) rfl #[.int .i64 2] rfl (by (try simp only [List.map_toArray, List.map_cons, List.map_nil]); first | done | rfl | (simp only [List.length_drop, List.length_take]; rfl)) ?_; (with_reducible refine (class_Of.calls 2 t104 _ (by first | ((repeat (first | (with_reducible exact HG) | apply GL_drewN | apply GL_drew)); done) | exact GL_below HG (by repeat (first | (with_reducible first | exact HB.out | apply below_alloc | apply pw_below_drewN | apply below_drew1) | exact HB.out))) A1.out).mono ?_); rintro e w' ⟨rfl, ⟨nd, rfl⟩⟩; refine ⟨_, rfl, ?_⟩) | (go_at_call 13; (with_reducible refine (class_Of.calls 3 t105 _ (by first | ((repeat (first | (with_reducible exact HG) | apply GL_drewN | apply GL_drew)); done) | exact GL_below HG (by repeat (first | (with_reducible first | exact HB.out | apply below_alloc | apply pw_below_drewN | apply below_drew1) | exact HB.out))) A3.out).mono ?_); rintro e w' ⟨rfl, ⟨nd, rfl⟩⟩))
      go_ret
      exact ⟨by first | rfl | (simp; done) | (simp [*]; done), by repeat (first | exact Drawn0.refl _ | apply Drawn0.step)⟩
  · rw [if_neg c2] at H
    have c2b0 : (t104 == 0) = false := beq_eq_false_iff_ne.mpr c2
    have c2b1 : (t104 != 0) = true := bne_iff_ne.mpr c2
    obtain rfl := Option.some.inj H
    simp only [Option.some.injEq, Prod.mk.injEq] at H
    obtain ⟨rfl⟩ := H
    go_enter Tryd.func8, Tryd.ntmps8
    go_wp2_with (first | ((with_reducible refine gate_callee (f := 13) rfl ?_); refine goesL_ (some 1) rfl rfl Tryd.func13 (by kernel_rfl) rfl #[.int .i64 2] rfl (by (try simp only [List.map_toArray, List.map_cons, List.map_nil]); first | done | rfl | (simp only [List.length_drop, List.length_take]; rfl)) ?_; (with_reducible refine (class_Of.calls 2 t104 _ (by first | ((repeat (first | (with_reducible exact HG) | apply GL_drewN | apply GL_drew)); done) | exact GL_below HG (by repeat (first | (with_reducible first | exact HB.out | apply below_alloc | apply pw_below_drewN | apply below_drew1) | exact HB.out))) A1.out).mono ?_); rintro e w' ⟨rfl, ⟨nd, rfl⟩⟩; refine ⟨_, rfl, ?_⟩))
    go_ret
    exact ⟨by first | rfl | (simp; done) | (simp [*]; done), by repeat (first | exact Drawn0.refl _ | apply Drawn0.step)⟩

/-! ### lockfastref09_Right: function 12 -/
def lockfastref09_Right.f (a0 : Int) : Option (Bool) := if a0 ≥ 0 then (some (decide (a0 ≤ 4096))) else (some false)
set_option maxHeartbeats 8000000 in
set_option maxRecDepth 100000 in
theorem lockfastref09_Right.calls (a0 : Int) (r : Bool) (w : World) (HG : GL w) (h : lockfastref09_Right.f a0 = some r) :
    Calls Tryd.prog 12 #[.int .i64 a0] w fun e w' => e = .returned (.bool r) ∧ Drawn0 w w' := by
  have H : (if a0 ≥ 0 then (some (decide (a0 ≤ 4096))) else (some false)) = some r := h
  clear h
  by_cases c2 : a0 ≥ 0
  · rw [if_pos c2] at H
    have c2b0 : decide (0 ≤ a0) = true := decide_eq_true c2
    clear c2
    obtain rfl := Option.some.inj H
    simp only [Option.some.injEq, Prod.mk.injEq] at H
    obtain ⟨rfl⟩ := H
    go_enter Tryd.func12, Tryd.ntmps12
    go_wp2
    go_ret
    exact ⟨by first | rfl | (simp; done) | (simp [*]; done), by repeat (first | exact Drawn0.refl _ | apply Drawn0.step)⟩
  · rw [if_neg c2] at H
    have c2b0 : decide (0 ≤ a0) = false := decide_eq_false c2
    clear c2
    obtain rfl := Option.some.inj H
    simp only [Option.some.injEq, Prod.mk.injEq] at H
    obtain ⟨rfl⟩ := H
    go_enter Tryd.func12, Tryd.ntmps12
    go_wp2
    go_ret
    exact ⟨by first | rfl | (simp; done) | (simp [*]; done), by repeat (first | exact Drawn0.refl _ | apply Drawn0.step)⟩

/-! ### lockfastref09_Block: function 19 -/
def lockfastref09_Block.f (a0 : Int) : Option (Int) := if a0 = 0 then (some 4) else (if a0 = 1 then (some 8) else (if a0 = 2 then (some 16) else (some 0)))
set_option maxHeartbeats 8000000 in
set_option maxRecDepth 100000 in
theorem lockfastref09_Block.calls (a0 : Int) (r : Int) (w : World) (HG : GL w) (h : lockfastref09_Block.f a0 = some r) :
    Calls Tryd.prog 19 #[.int .i64 a0] w fun e w' => e = .returned (.int .i64 r) ∧ Drawn0 w w' := by
  have H : (if a0 = 0 then (some 4) else (if a0 = 1 then (some 8) else (if a0 = 2 then (some 16) else (some 0)))) = some r := h
  clear h
  by_cases c2 : a0 = 0
  · rw [if_pos c2] at H
    have c2b0 : (a0 == 0) = true := beq_iff_eq.mpr c2
    have c2b1 : (a0 != 0) = false := bne_eq_false_iff_eq.mpr c2
    clear c2
    obtain rfl := Option.some.inj H
    simp only [Option.some.injEq, Prod.mk.injEq] at H
    obtain ⟨rfl⟩ := H
    go_enter Tryd.func19, Tryd.ntmps19
    go_wp2
    go_ret
    exact ⟨by first | rfl | (simp; done) | (simp [*]; done), by repeat (first | exact Drawn0.refl _ | apply Drawn0.step)⟩
  · rw [if_neg c2] at H
    have c2b0 : (a0 == 0) = false := beq_eq_false_iff_ne.mpr c2
    have c2b1 : (a0 != 0) = true := bne_iff_ne.mpr c2
    by_cases c3 : a0 = 1
    · rw [if_pos c3] at H
      have c3b0 : (a0 == 1) = true := beq_iff_eq.mpr c3
      have c3b1 : (a0 != 1) = false := bne_eq_false_iff_eq.mpr c3
      clear c3
      obtain rfl := Option.some.inj H
      simp only [Option.some.injEq, Prod.mk.injEq] at H
      obtain ⟨rfl⟩ := H
      go_enter Tryd.func19, Tryd.ntmps19
      go_wp2
      go_ret
      exact ⟨by first | rfl | (simp; done) | (simp [*]; done), by repeat (first | exact Drawn0.refl _ | apply Drawn0.step)⟩
    · rw [if_neg c3] at H
      have c3b0 : (a0 == 1) = false := beq_eq_false_iff_ne.mpr c3
      have c3b1 : (a0 != 1) = true := bne_iff_ne.mpr c3
      by_cases c4 : a0 = 2
      · rw [if_pos c4] at H
        have c4b0 : (a0 == 2) = true := beq_iff_eq.mpr c4
        have c4b1 : (a0 != 2) = false := bne_eq_false_iff_eq.mpr c4
        clear c4
        obtain rfl := Option.some.inj H
        simp only [Option.some.injEq, Prod.mk.injEq] at H
        obtain ⟨rfl⟩ := H
        go_enter Tryd.func19, Tryd.ntmps19
        go_wp2
        go_ret
        exact ⟨by first | rfl | (simp; done) | (simp [*]; done), by repeat (first | exact Drawn0.refl _ | apply Drawn0.step)⟩
      · rw [if_neg c4] at H
        have c4b0 : (a0 == 2) = false := beq_eq_false_iff_ne.mpr c4
        have c4b1 : (a0 != 2) = true := bne_iff_ne.mpr c4
        obtain rfl := Option.some.inj H
        simp only [Option.some.injEq, Prod.mk.injEq] at H
        obtain ⟨rfl⟩ := H
        go_enter Tryd.func19, Tryd.ntmps19
        go_wp2
        go_ret
        exact ⟨by first | rfl | (simp; done) | (simp [*]; done), by repeat (first | exact Drawn0.refl _ | apply Drawn0.step)⟩

/-! ### lockfastref09_Of: function 14 -/
mutual
def lockfastref09_Of.l0 : Nat → Int → Bool → Int → Option (Int)
  | 0, _, _, _ => none
  | k + 1, x0, x3, x4 => if x3 = true then (lockfastref09_Of.j1 k x0 x3 x4 (decide (x4 < 3))) else (lockfastref09_Of.j1 k x0 x3 x4 false)
def lockfastref09_Of.j1 : Nat → Int → Bool → Int → Bool → Option (Int)
  | 0, _, _, _, _ => none
  | k + 1, x0, x3, x4, x11 => if x11 = true then ((lockfastref09_Block.f x4).bind fun t112 => (if t112 ≥ (wrap64 (x0 + 2)) then (some x4) else (lockfastref09_Of.l0 k x0 x3 (wrap64 (x4 + 1))))) else (some (-1))
end
def lockfastref09_Of.f (k : Nat) (a0 : Int) : Option (Int) := (lockfastref09_Right.f a0).bind fun t111 => (lockfastref09_Of.l0 k a0 t111 0)
theorem lockfastref09_Of.mono_l : ∀ k, (∀ y0 y1 y2, LeO (lockfastref09_Of.l0 k y0 y1 y2) (lockfastref09_Of.l0 (k + 1) y0 y1 y2)) ∧ (∀ y0 y1 y2 y3, LeO (lockfastref09_Of.j1 k y0 y1 y2 y3) (lockfastref09_Of.j1 (k + 1) y0 y1 y2 y3))
  | 0 => ⟨fun _ _ _ r h => by simp [lockfastref09_Of.l0] at h, fun _ _ _ _ r h => by simp [lockfastref09_Of.j1] at h⟩
  | k + 1 => by
    obtain ⟨ih0, ih1⟩ := lockfastref09_Of.mono_l k
    refine ⟨?_, ?_⟩
    · intro y0 y1 y2
      unfold lockfastref09_Of.l0
      repeat' first
      | (with_reducible exact ih0 _ _ _)
      | (with_reducible exact ih1 _ _ _ _)
      | (with_reducible exact LeO.refl _)
      | (with_reducible exact LeO.none _)
      | (with_reducible refine LeO.ite ?_ ?_)
      | (with_reducible refine LeO.bind ?_ (fun _ => ?_))
      | exact ih0 _ _ _
      | exact ih1 _ _ _ _
      | exact LeO.none _
      | refine LeO.ite ?_ ?_
      | refine LeO.bind ?_ (fun _ => ?_)
    · intro y0 y1 y2 y3
      unfold lockfastref09_Of.j1
      repeat' first
      | (with_reducible exact ih0 _ _ _)
      | (with_reducible exact ih1 _ _ _ _)
      | (with_reducible exact LeO.refl _)
      | (with_reducible exact LeO.none _)
      | (with_reducible refine LeO.ite ?_ ?_)
      | (with_reducible refine LeO.bind ?_ (fun _ => ?_))
      | exact ih0 _ _ _
      | exact ih1 _ _ _ _
      | exact LeO.none _
      | refine LeO.ite ?_ ?_
      | refine LeO.bind ?_ (fun _ => ?_)
theorem lockfastref09_Of.mono : ∀ a0 k, LeO (lockfastref09_Of.f k a0) (lockfastref09_Of.f (k + 1) a0) := by
  intro a0 k
  obtain ⟨ih0, ih1⟩ := lockfastref09_Of.mono_l k
  unfold lockfastref09_Of.f
  repeat' first
      | (with_reducible exact ih0 _ _ _)
      | (with_reducible exact ih1 _ _ _ _)
      | (with_reducible exact LeO.refl _)
      | (with_reducible exact LeO.none _)
      | (with_reducible refine LeO.ite ?_ ?_)
      | (with_reducible refine LeO.bind ?_ (fun _ => ?_))
      | exact ih0 _ _ _
      | exact ih1 _ _ _ _
      | exact LeO.none _
      | refine LeO.ite ?_ ?_
      | refine LeO.bind ?_ (fun _ => ?_)
set_option maxHeartbeats 8000000 in
set_option maxRecDepth 100000 in
theorem lockfastref09_Of.calls (k : Nat) (a0 : Int) (r : Int) (w : World) (HG : GL w) (h : lockfastref09_Of.f k a0 = some r) :
    Calls Tryd.prog 14 #[.int .i64 a0] w fun e w' => e = .returned (.int .i64 r) ∧ Drawn0 w w' := by
  have H : ((lockfastref09_Right.f a0).bind fun t111 => (lockfastref09_Of.l0 k a0 t111 0)) = some r := h
  clear h
  replace H := Option.bind_eq_some_iff.mp H
  obtain ⟨t111, A20, H⟩ := H
  replace H : (lockfastref09_Of.l0 k a0 t111 0) = some r := H
  have A2 := Aside0.mk A20
  clear A20
  have H' := Aside0.mk H
  clear H
  go_enter Tryd.func14, Tryd.ntmps14
  go_wp2_with (first | ((with_reducible refine gate_callee (f := 12) rfl ?_); refine goesL_ (some 6) rfl rfl Tryd.func12 (by kernel_rfl) rfl #[.int .i64 a0] rfl (by (try simp only [List.map_toArray, List.map_cons, List.map_nil]); first | done | rfl | (simp only [List.length_drop, List.length_take]; rfl)) ?_; (with_reducible refine (lockfastref09_Right.calls a0 t111 _ (by first | ((repeat (first | (with_reducible exact HG) | apply GL_drewN | apply GL_drew)); done) | exact GL_below HG (by repeat (first | (with_reducible first | exact HB.out | apply below_alloc | apply pw_below_drewN | apply below_drew1) | exact HB.out))) A2.out).mono ?_); rintro e w' ⟨rfl, ⟨nd, rfl⟩⟩; refine ⟨_, rfl, ?_⟩))
  go_loopg [4] k (fun kq v4 w' => ∃ (x4_1 : Int), v4 = .int .i64 x4_1 ∧ Aside0 (lockfastref09_Of.l0 kq a0 t111 x4_1 = some r) ∧ Aside0 (kq ≤ k) ∧ Drawn0 w w')
  case atStart => exact ⟨(0), (by first | rfl | (simp; done) | (simp [*]; done)), H', ⟨Nat.le_refl _⟩, by repeat (first | exact Drawn0.refl _ | apply Drawn0.step)⟩
  case round =>
    clear H'
    try clear c1
    try clear p2
    obtain ⟨x4_1, rfl, HA, HK1, ⟨m1, rfl⟩⟩ := hrel
    cases gk with
    | zero => exact absurd HA.out (by simp [lockfastref09_Of.l0])
    | succ k1 =>
      have H := HA.out
      clear HA
      simp only [lockfastref09_Of.l0] at H
      have HC3 := Aside0.mk H
      clear H
      go_upto_region 3 with (fail)
      go_cut [11] (fun v11 wc => ∃ (kq : Nat) (x11_2 : Bool), v11 = .bool x11_2 ∧ Aside0 (lockfastref09_Of.j1 kq a0 t111 x4_1 x11_2 = some r) ∧ Aside0 (kq ≤ k1) ∧ Drawn0 w wc)
      case first =>
        have H := HC3.out
        clear HC3
        by_cases c4 : t111 = true
        · subst c4
          have H1 : (lockfastref09_Of.j1 k1 a0 true x4_1 (decide (x4_1 < 3))) = some r := by rw [if_pos rfl] at H; exact H
          clear H
          have H := H1
          clear H1
          have H' := Aside0.mk H
          clear H
          go_wp2
          go_meet
          case rel => exact ⟨_, (decide (x4_1 < 3)), (by first | rfl | (simp; done) | (simp [*]; done)), H', ⟨by have := HK1.out; first | omega | exact Nat.le_refl _⟩, by repeat (first | exact Drawn0.refl _ | apply Drawn0.step)⟩
        · replace c4 := Bool.eq_false_iff.mpr c4
          subst c4
          have H1 : (lockfastref09_Of.j1 k1 a0 false x4_1 false) = some r := by rw [if_neg (show ¬ (false = true) by decide)] at H; exact H
          clear H
          have H := H1
          clear H1
          have H' := Aside0.mk H
          clear H
          go_wp2
          go_meet
          case rel => exact ⟨_, (false), (by first | rfl | (simp; done) | (simp [*]; done)), H', ⟨by have := HK1.out; first | omega | exact Nat.le_refl _⟩, by repeat (first | exact Drawn0.refl _ | apply Drawn0.step)⟩
      case rest =>
        clear HC3
        try clear c1
        try clear p2
        try clear c4
        try clear p2
        obtain ⟨kq, x11_2, rfl, HA, HJ2, ⟨mc2, rfl⟩⟩ := hcut
        cases kq with
        | zero => exact absurd HA.out (by simp [lockfastref09_Of.j1])
        | succ kj2 =>
          have H := HA.out
          clear HA
          simp only [lockfastref09_Of.j1] at H
          by_cases c5 : x11_2 = true
          · subst c5
            have H1 : ((lockfastref09_Block.f x4_1).bind fun t112 => (if t112 ≥ (wrap64 (a0 + 2)) then (some x4_1) else (lockfastref09_Of.l0 kj2 a0 t111 (wrap64 (x4_1 + 1))))) = some r := by rw [if_pos rfl] at H; exact H
            clear H
            have H := H1
            clear H1
            replace H := Option.bind_eq_some_iff.mp H
            obtain ⟨t112, A60, H⟩ := H
            replace H : (if t112 ≥ (wrap64 (a0 + 2)) then (some x4_1) else (lockfastref09_Of.l0 kj2 a0 t111 (wrap64 (x4_1 + 1)))) = some r := H
            have A6 := Aside0.mk A60
            clear A60
            by_cases c7 : t112 ≥ (wrap64 (a0 + 2))
            · rw [if_pos c7] at H
              have c7b0 : decide ((wrap64 (a0 + 2)) ≤ t112) = true := decide_eq_true c7
              clear c7
              obtain rfl := Option.some.inj H
              simp only [Option.some.injEq, Prod.mk.injEq] at H
              obtain ⟨rfl⟩ := H
              go_wp2_with (first | ((with_reducible refine gate_callee (f := 19) rfl ?_); refine goesL_ (some 15) rfl rfl Tryd.func19 (by kernel_rfl) rfl #[.int .i64 x4_1] rfl (by (try simp only [List.map_toArray, List.map_cons, List.map_nil]); first | done | rfl | (simp only [List.length_drop, List.length_take]; rfl)) ?_; (with_reducible refine (lockfastref09_Block.calls x4_1 t112 _ (by first | ((repeat (first | (with_reducible exact HG) | apply GL_drewN | apply GL_drew)); done) | exact GL_below HG (by repeat (first | (with_reducible first | exact HB.out | apply below_alloc | apply pw_below_drewN | apply below_drew1) | exact HB.out))) A6.out).mono ?_); rintro e w' ⟨rfl, ⟨nd, rfl⟩⟩; refine ⟨_, rfl, ?_⟩))
              go_ret
              exact ⟨by first | rfl | (simp; done) | (simp [*]; done), by repeat (first | exact Drawn0.refl _ | apply Drawn0.step)⟩
            · rw [if_neg c7] at H
              have c7b0 : decide ((wrap64 (a0 + 2)) ≤ t112) = false := decide_eq_false c7
              clear c7
              have H' := Aside0.mk H
              clear H
              go_wp2_with (first | ((with_reducible refine gate_callee (f := 19) rfl ?_); refine goesL_ (some 15) rfl rfl Tryd.func19 (by kernel_rfl) rfl #[.int .i64 x4_1] rfl (by (try simp only [List.map_toArray, List.map_cons, List.map_nil]); first | done | rfl | (simp only [List.length_drop, List.length_take]; rfl)) ?_; (with_reducible refine (lockfastref09_Block.calls x4_1 t112 _ (by first | ((repeat (first | (with_reducible exact HG) | apply GL_drewN | apply GL_drew)); done) | exact GL_below HG (by repeat (first | (with_reducible first | exact HB.out | apply below_alloc | apply pw_below_drewN | apply below_drew1) | exact HB.out))) A6.out).mono ?_); rintro e w' ⟨rfl, ⟨nd, rfl⟩⟩; refine ⟨_, rfl, ?_⟩))
              go_roundg kj2
              case measure => have := HK1.out; have := HJ2.out; omega
              case rel => exact ⟨(wrap64 (x4_1 + 1)), (by first | rfl | (simp; done) | (simp [*]; done)), H', ⟨by have := HK1.out; have := HJ2.out; omega⟩, by repeat (first | exact Drawn0.refl _ | apply Drawn0.step)⟩
          · replace c5 := Bool.eq_false_iff.mpr c5
            subst c5
            have H1 : (some (-1)) = some r := by rw [if_neg (show ¬ (false = true) by decide)] at H; exact H
            clear H
            have H := H1
            clear H1
            obtain rfl := Option.some.inj H
            simp only [Option.some.injEq, Prod.mk.injEq] at H
            obtain ⟨rfl⟩ := H
            go_wp2
            go_ret
            exact ⟨by first | rfl | (simp; done) | (simp [*]; done), by repeat (first | exact Drawn0.refl _ | apply Drawn0.step)⟩

/-! ### lockfastref09_Chunks: function 16 -/
def lockfastref09_Chunks.l0 : Nat → Int → Bool → Int → Option (Int)
  | 0, _, _, _ => none
  | k + 1, x0, x3, x4 => if x3 = true then ((lockfastref09_Of.f k x0).bind fun t114 => (if t114 < 0 then (if (wrap64 (32 * x4)) < (wrap64 (x0 + 2)) then (lockfastref09_Chunks.l0 k x0 x3 (wrap64 (x4 + 1))) else (some x4)) else (some x4))) else (some x4)
def lockfastref09_Chunks.f (k : Nat) (a0 : Int) : Option (Int) := (lockfastref09_Right.f a0).bind fun t113 => (lockfastref09_Chunks.l0 k a0 t113 0)
theorem lockfastref09_Chunks.mono_l : ∀ k, (∀ y0 y1 y2, LeO (lockfastref09_Chunks.l0 k y0 y1 y2) (lockfastref09_Chunks.l0 (k + 1) y0 y1 y2))
  | 0 => fun _ _ _ r h => by simp [lockfastref09_Chunks.l0] at h
  | k + 1 => by
    have ih0 := lockfastref09_Chunks.mono_l k
    · intro y0 y1 y2
      unfold lockfastref09_Chunks.l0
      repeat' first
      | (with_reducible exact ih0 _ _ _)
      | (with_reducible exact lockfastref09_Of.mono _ _)
      | (with_reducible exact LeO.refl _)
      | (with_reducible exact LeO.none _)
      | (with_reducible refine LeO.ite ?_ ?_)
      | (with_reducible refine LeO.bind ?_ (fun _ => ?_))
      | exact ih0 _ _ _
      | exact lockfastref09_Of.mono _ _
      | exact LeO.none _
      | refine LeO.ite ?_ ?_
      | refine LeO.bind ?_ (fun _ => ?_)
theorem lockfastref09_Chunks.mono : ∀ a0 k, LeO (lockfastref09_Chunks.f k a0) (lockfastref09_Chunks.f (k + 1) a0) := by
  intro a0 k
  have ih0 := lockfastref09_Chunks.mono_l k
  unfold lockfastref09_Chunks.f
  repeat' first
      | (with_reducible exact ih0 _ _ _)
      | (with_reducible exact lockfastref09_Of.mono _ _)
      | (with_reducible exact LeO.refl _)
      | (with_reducible exact LeO.none _)
      | (with_reducible refine LeO.ite ?_ ?_)
      | (with_reducible refine LeO.bind ?_ (fun _ => ?_))
      | exact ih0 _ _ _
      | exact lockfastref09_Of.mono _ _
      | exact LeO.none _
      | refine LeO.ite ?_ ?_
      | refine LeO.bind ?_ (fun _ => ?_)
set_option maxHeartbeats 8000000 in
set_option maxRecDepth 100000 in
theorem lockfastref09_Chunks.calls (k : Nat) (a0 : Int) (r : Int) (w : World) (HG : GL w) (h : lockfastref09_Chunks.f k a0 = some r) :
    Calls Tryd.prog 16 #[.int .i64 a0] w fun e w' => e = .returned (.int .i64 r) ∧ Drawn0 w w' := by
  have H : ((lockfastref09_Right.f a0).bind fun t113 => (lockfastref09_Chunks.l0 k a0 t113 0)) = some r := h
  clear h
  replace H := Option.bind_eq_some_iff.mp H
  obtain ⟨t113, A20, H⟩ := H
  replace H : (lockfastref09_Chunks.l0 k a0 t113 0) = some r := H
  have A2 := Aside0.mk A20
  clear A20
  have H' := Aside0.mk H
  clear H
  go_enter Tryd.func16, Tryd.ntmps16
  go_wp2_with (first | ((with_reducible refine gate_callee (f := 12) rfl ?_); refine goesL_ (some 6) rfl rfl Tryd.func12 (by kernel_rfl) rfl #[.int .i64 a0] rfl (by (try simp only [List.map_toArray, List.map_cons, List.map_nil]); first | done | rfl | (simp only [List.length_drop, List.length_take]; rfl)) ?_; (with_reducible refine (lockfastref09_Right.calls a0 t113 _ (by first | ((repeat (first | (with_reducible exact HG) | apply GL_drewN | apply GL_drew)); done) | exact GL_below HG (by repeat (first | (with_reducible first | exact HB.out | apply below_alloc | apply pw_below_drewN | apply below_drew1) | exact HB.out))) A2.out).mono ?_); rintro e w' ⟨rfl, ⟨nd, rfl⟩⟩; refine ⟨_, rfl, ?_⟩))
  go_loopg [4] k (fun kq v4 w' => ∃ (x4_1 : Int), v4 = .int .i64 x4_1 ∧ Aside0 (lockfastref09_Chunks.l0 kq a0 t113 x4_1 = some r) ∧ Aside0 (kq ≤ k) ∧ Drawn0 w w')
  case atStart => exact ⟨(0), (by first | rfl | (simp; done) | (simp [*]; done)), H', ⟨Nat.le_refl _⟩, by repeat (first | exact Drawn0.refl _ | apply Drawn0.step)⟩
  case round =>
    clear H'
    try clear c1
    try clear p2
    obtain ⟨x4_1, rfl, HA, HK1, ⟨m1, rfl⟩⟩ := hrel
    cases gk with
    | zero => exact absurd HA.out (by simp [lockfastref09_Chunks.l0])
    | succ k1 =>
      have H := HA.out
      clear HA
      simp only [lockfastref09_Chunks.l0] at H
      by_cases c3 : t113 = true
      · subst c3
        have H1 : ((lockfastref09_Of.f k1 a0).bind fun t114 => (if t114 < 0 then (if (wrap64 (32 * x4_1)) < (wrap64 (a0 + 2)) then (lockfastref09_Chunks.l0 k1 a0 true (wrap64 (x4_1 + 1))) else (some x4_1)) else (some x4_1))) = some r := by rw [if_pos rfl] at H; exact H
        clear H
        have H := H1
        clear H1
        replace H := Option.bind_eq_some_iff.mp H
        obtain ⟨t114, A40, H⟩ := H
        replace H : (if t114 < 0 then (if (wrap64 (32 * x4_1)) < (wrap64 (a0 + 2)) then (lockfastref09_Chunks.l0 k1 a0 true (wrap64 (x4_1 + 1))) else (some x4_1)) else (some x4_1)) = some r := H
        have A4 := Aside0.mk A40
        clear A40
        by_cases c5 : t114 < 0
        · rw [if_pos c5] at H
          have c5b0 : decide (t114 < 0) = true := decide_eq_true c5
          clear c5
          by_cases c6 : (wrap64 (32 * x4_1)) < (wrap64 (a0 + 2))
          · rw [if_pos c6] at H
            have c6b0 : decide ((wrap64 (32 * x4_1)) < (wrap64 (a0 + 2))) = true := decide_eq_true c6
            clear c6
            have H' := Aside0.mk H
            clear H
            go_wp2_with (first | (go_at_call 14; (with_reducible refine (lockfastref09_Of.calls k1 a0 t114 _ (by first | ((repeat (first | (with_reducible exact HG) | apply GL_drewN | apply GL_drew)); done) | exact GL_below HG (by repeat (first | (with_reducible first | exact HB.out | apply below_alloc | apply pw_below_drewN | apply below_drew1) | exact HB.out))) A4.out).mono ?_); rintro e w' ⟨rfl, ⟨nd, rfl⟩⟩))
            go_roundg k1
            case measure => have := HK1.out; omega
            case rel => exact ⟨(wrap64 (x4_1 + 1)), (by first | rfl | (simp; done) | (simp [*]; done)), H', ⟨by have := HK1.out; omega⟩, by repeat (first | exact Drawn0.refl _ | apply Drawn0.step)⟩
          · rw [if_neg c6] at H
            have c6b0 : decide ((wrap64 (32 * x4_1)) < (wrap64 (a0 + 2))) = false := decide_eq_false c6
            clear c6
            obtain rfl := Option.some.inj H
            simp only [Option.some.injEq, Prod.mk.injEq] at H
            obtain ⟨rfl⟩ := H
            go_wp2_with (first | (go_at_call 14; (with_reducible refine (lockfastref09_Of.calls k1 a0 t114 _ (by first | ((repeat (first | (with_reducible exact HG) | apply GL_drewN | apply GL_drew)); done) | exact GL_below HG (by repeat (first | (with_reducible first | exact HB.out | apply below_alloc | apply pw_below_drewN | apply below_drew1) | exact HB.out))) A4.out).mono ?_); rintro e w' ⟨rfl, ⟨nd, rfl⟩⟩))
            go_ret
            exact ⟨by first | rfl | (simp; done) | (simp [*]; done), by repeat (first | exact Drawn0.refl _ | apply Drawn0.step)⟩
        · rw [if_neg c5] at H
          have c5b0 : decide (t114 < 0) = false := decide_eq_false c5
          clear c5
          obtain rfl := Option.some.inj H
          simp only [Option.some.injEq, Prod.mk.injEq] at H
          obtain ⟨rfl⟩ := H
          go_wp2_with (first | (go_at_call 14; (with_reducible refine (lockfastref09_Of.calls k1 a0 t114 _ (by first | ((repeat (first | (with_reducible exact HG) | apply GL_drewN | apply GL_drew)); done) | exact GL_below HG (by repeat (first | (with_reducible first | exact HB.out | apply below_alloc | apply pw_below_drewN | apply below_drew1) | exact HB.out))) A4.out).mono ?_); rintro e w' ⟨rfl, ⟨nd, rfl⟩⟩))
          go_ret
          exact ⟨by first | rfl | (simp; done) | (simp [*]; done), by repeat (first | exact Drawn0.refl _ | apply Drawn0.step)⟩
      · replace c3 := Bool.eq_false_iff.mpr c3
        subst c3
        have H1 : (some x4_1) = some r := by rw [if_neg (show ¬ (false = true) by decide)] at H; exact H
        clear H
        have H := H1
        clear H1
        obtain rfl := Option.some.inj H
        simp only [Option.some.injEq, Prod.mk.injEq] at H
        obtain ⟨rfl⟩ := H
        go_wp2
        go_ret
        exact ⟨by first | rfl | (simp; done) | (simp [*]; done), by repeat (first | exact Drawn0.refl _ | apply Drawn0.step)⟩

/-! ### class_Room: function 17 -/
def class_Room.f (a0 : Int) : Option (Int) := (class_Of.f a0).bind fun t115 => ((class_Block.f t115).bind fun t116 => ((class_Chunks.f a0).bind fun t117 => (some (wrap64 (t116 + (wrap64 (t117 * 32)))))))
set_option maxHeartbeats 8000000 in
set_option maxRecDepth 100000 in
theorem class_Room.calls (a0 : Int) (r : Int) (w : World) (HG : GL w) (h : class_Room.f a0 = some r) :
    Calls Tryd.prog 17 #[.int .i64 a0] w fun e w' => e = .returned (.int .i64 r) ∧ Drawn0 w w' := by
  have H : ((class_Of.f a0).bind fun t115 => ((class_Block.f t115).bind fun t116 => ((class_Chunks.f a0).bind fun t117 => (some (wrap64 (t116 + (wrap64 (t117 * 32)))))))) = some r := h
  clear h
  replace H := Option.bind_eq_some_iff.mp H
  obtain ⟨t115, A20, H⟩ := H
  replace H : ((class_Block.f t115).bind fun t116 => ((class_Chunks.f a0).bind fun t117 => (some (wrap64 (t116 + (wrap64 (t117 * 32))))))) = some r := H
  have A2 := Aside0.mk A20
  clear A20
  replace H := Option.bind_eq_some_iff.mp H
  obtain ⟨t116, A30, H⟩ := H
  replace H : ((class_Chunks.f a0).bind fun t117 => (some (wrap64 (t116 + (wrap64 (t117 * 32)))))) = some r := H
  have A3 := Aside0.mk A30
  clear A30
  replace H := Option.bind_eq_some_iff.mp H
  obtain ⟨t117, A40, H⟩ := H
  replace H : (some (wrap64 (t116 + (wrap64 (t117 * 32))))) = some r := H
  have A4 := Aside0.mk A40
  clear A40
  obtain rfl := Option.some.inj H
  simp only [Option.some.injEq, Prod.mk.injEq] at H
  obtain ⟨rfl⟩ := H
  go_enter Tryd.func17, Tryd.ntmps17
  go_wp2_with (first | ((with_reducible refine gate_callee (f := 13) rfl ?_); refine goesL_ (some 4) rfl rfl Tryd.func13 (by kernel_rfl) rfl #[.int .i64 a0] rfl (by (try simp only [List.map_toArray, List.map_cons, List.map_nil]); first | done | rfl | (simp only [List.length_drop, List.length_take]; rfl)) ?_; (with_reducible refine (class_Of.calls a0 t115 _ (by first | ((repeat (first | (with_reducible exact HG) | apply GL_drewN | apply GL_drew)); done) | exact GL_below HG (by repeat (first | (with_reducible first | exact HB.out | apply below_alloc | apply pw_below_drewN | apply below_drew1) | exact HB.out))) A2.out).mono ?_); rintro e w' ⟨rfl, ⟨nd, rfl⟩⟩; refine ⟨_, rfl, ?_⟩) | ((with_reducible refine gate_callee (f := 9) rfl ?_); refine goesL_ (some 5) rfl rfl Tryd.func9 (by kernel_rfl) rfl #[.int .i64 t115] rfl (by (try simp only [List.map_toArray, List.map_cons, List.map_nil]); first | done | rfl | (simp only [List.length_drop, List.length_take]; rfl)) ?_; (with_reducible refine (class_Block.calls t115 t116 _ (by first | ((repeat (first | (with_reducible exact HG) | apply GL_drewN | apply GL_drew)); done) | exact GL_below HG (by repeat (first | (with_reducible first | exact HB.out | apply below_alloc | apply pw_below_drewN | apply below_drew1) | exact HB.out))) A3.out).mono ?_); rintro e w' ⟨rfl, ⟨nd, rfl⟩⟩; refine ⟨_, rfl, ?_⟩) | ((with_reducible refine gate_callee (f := 15) rfl ?_); refine goesL_ (some 7) rfl rfl Tryd.func15 (by kernel_rfl) rfl #[.int .i64 a0] rfl (by (try simp only [List.map_toArray, List.map_cons, List.map_nil]); first | done | rfl | (simp only [List.length_drop, List.length_take]; rfl)) ?_; (with_reducible refine (class_Chunks.calls a0 t117 _ (by first | ((repeat (first | (with_reducible exact HG) | apply GL_drewN | apply GL_drew)); done) | exact GL_below HG (by repeat (first | (with_reducible first | exact HB.out | apply below_alloc | apply pw_below_drewN | apply below_drew1) | exact HB.out))) A4.out).mono ?_); rintro e w' ⟨rfl, ⟨nd, rfl⟩⟩; refine ⟨_, rfl, ?_⟩))
  go_ret
  exact ⟨by first | rfl | (simp; done) | (simp [*]; done), by repeat (first | exact Drawn0.refl _ | apply Drawn0.step)⟩

/-! ### lockfastref09_Room: function 18 -/
def lockfastref09_Room.f (k : Nat) (a0 : Int) : Option (Int) := (lockfastref09_Of.f k a0).bind fun t118 => (if t118 ≥ 0 then ((lockfastref09_Of.f k a0).bind fun t119 => ((lockfastref09_Block.f t119).bind fun t120 => (some t120))) else ((lockfastref09_Chunks.f k a0).bind fun t121 => (some (wrap64 (32 * t121)))))
theorem lockfastref09_Room.mono : ∀ a0 k, LeO (lockfastref09_Room.f k a0) (lockfastref09_Room.f (k + 1) a0) := by
  intro a0 k
  unfold lockfastref09_Room.f
  repeat' first
      | (with_reducible exact lockfastref09_Chunks.mono _ _)
      | (with_reducible exact lockfastref09_Of.mono _ _)
      | (with_reducible exact LeO.refl _)
      | (with_reducible exact LeO.none _)
      | (with_reducible refine LeO.ite ?_ ?_)
      | (with_reducible refine LeO.bind ?_ (fun _ => ?_))
      | exact lockfastref09_Chunks.mono _ _
      | exact lockfastref09_Of.mono _ _
      | exact LeO.none _
      | refine LeO.ite ?_ ?_
      | refine LeO.bind ?_ (fun _ => ?_)
set_option maxHeartbeats 8000000 in
set_option maxRecDepth 100000 in
theorem lockfastref09_Room.calls (k : Nat) (a0 : Int) (r : Int) (w : World) (HG : GL w) (h : lockfastref09_Room.f k a0 = some r) :
    Calls Tryd.prog 18 #[.int .i64 a0] w fun e w' => e = .returned (.int .i64 r) ∧ Drawn0 w w' := by
  have H : ((lockfastref09_Of.f k a0).bind fun t118 => (if t118 ≥ 0 then ((lockfastref09_Of.f k a0).bind fun t119 => ((lockfastref09_Block.f t119).bind fun t120 => (some t120))) else ((lockfastref09_Chunks.f k a0).bind fun t121 => (some (wrap64 (32 * t121)))))) = some r := h
  clear h
  replace H := Option.bind_eq_some_iff.mp H
  obtain ⟨t118, A20, H⟩ := H
  replace H : (if t118 ≥ 0 then ((lockfastref09_Of.f k a0).bind fun t119 => ((lockfastref09_Block.f t119).bind fun t120 => (some t120))) else ((lockfastref09_Chunks.f k a0).bind fun t121 => (some (wrap64 (32 * t121))))) = some r := H
  have A2 := Aside0.mk A20
  clear A20
  by_cases c3 : t118 ≥ 0
  · rw [if_pos c3] at H
    have c3b0 : decide (0 ≤ t118) = true := decide_eq_true c3
    clear c3
    replace H := Option.bind_eq_some_iff.mp H
    obtain ⟨t119, A40, H⟩ := H
    replace H : ((lockfastref09_Block.f t119).bind fun t120 => (some t120)) = some r := H
    have A4 := Aside0.mk A40
    clear A40
    replace H := Option.bind_eq_some_iff.mp H
    obtain ⟨t120, A50, H⟩ := H
    replace H : (some t120) = some r := H
    have A5 := Aside0.mk A50
    clear A50
    obtain rfl := Option.some.inj H
    simp only [Option.some.injEq, Prod.mk.injEq] at H
    obtain ⟨rfl⟩ := H
    go_enter Tryd.func18, Tryd.ntmps18
    go_wp2_with (first | ((with_reducible refine gate_callee (f := 14) rfl ?_); refine goesL_ (some 4) rfl rfl Tryd.func14 (by kernel_rfl) rfl #[.int .i64 a0] rfl (by (try simp only [List.map_toArray, List.map_cons, List.map_nil]); first | done | rfl | (simp only [List.length_drop, List.length_take]; rfl)) ?_; (with_reducible refine (lockfastref09_Of.calls k a0 t118 _ (by first | ((repeat (first | (with_reducible exact HG) | apply GL_drewN | apply GL_drew)); done) | exact GL_below HG (by repeat (first | (with_reducible first | exact HB.out | apply below_alloc | apply pw_below_drewN | apply below_drew1) | exact HB.out))) A2.out).mono ?_); rintro e w' ⟨rfl, ⟨nd, rfl⟩⟩; refine ⟨_, rfl, ?_⟩) | ((with_reducible refine gate_callee (f := 14) rfl ?_); refine goesL_ (some 7) rfl rfl Tryd.func14 (by kernel_rfl) rfl #[.int .i64 a0] rfl (by (try simp only [List.map_toArray, List.map_cons, List.map_nil]); first | done | rfl | (simp only [List.length_drop, List.length_take]; rfl)) ?_; (with_reducible refine (lockfastref09_Of.calls k a0 t119 _ (by first | ((repeat (first | (with_reducible exact HG) | apply GL_drewN | apply GL_drew)); done) | exact GL_below HG (by repeat (first | (with_reducible first | exact HB.out | apply below_alloc | apply pw_below_drewN | apply below_drew1) | exact HB.out))) A4.out).mono ?_); rintro e w' ⟨rfl, ⟨nd, rfl⟩⟩; refine ⟨_, rfl, ?_⟩) | ((with_reducible refine gate_callee (f := 19) rfl ?_); refine goesL_ (some 8) rfl rfl Tryd.func19 (by kernel_rfl) rfl #[.int .i64 t119] rfl (by (try simp only [List.map_toArray, List.map_cons, List.map_nil]); first | done | rfl | (simp only [List.length_drop, List.length_take]; rfl)) ?_; (with_reducible refine (lockfastref09_Block.calls t119 t120 _ (by first | ((repeat (first | (with_reducible exact HG) | apply GL_drewN | apply GL_drew)); done) | exact GL_below HG (by repeat (first | (with_reducible first | exact HB.out | apply below_alloc | apply pw_below_drewN | apply below_drew1) | exact HB.out))) A5.out).mono ?_); rintro e w' ⟨rfl, ⟨nd, rfl⟩⟩; refine ⟨_, rfl, ?_⟩))
    go_ret
    exact ⟨by first | rfl | (simp; done) | (simp [*]; done), by repeat (first | exact Drawn0.refl _ | apply Drawn0.step)⟩
  · rw [if_neg c3] at H
    have c3b0 : decide (0 ≤ t118) = false := decide_eq_false c3
    clear c3
    replace H := Option.bind_eq_some_iff.mp H
    obtain ⟨t121, A60, H⟩ := H
    replace H : (some (wrap64 (32 * t121))) = some r := H
    have A6 := Aside0.mk A60
    clear A60
    obtain rfl := Option.some.inj H
    simp only [Option.some.injEq, Prod.mk.injEq] at H
    obtain ⟨rfl⟩ := H
    go_enter Tryd.func18, Tryd.ntmps18
    go_wp2_with (first | ((with_reducible refine gate_callee (f := 14) rfl ?_); refine goesL_ (some 4) rfl rfl Tryd.func14 (by kernel_rfl) rfl #[.int .i64 a0] rfl (by (try simp only [List.map_toArray, List.map_cons, List.map_nil]); first | done | rfl | (simp only [List.length_drop, List.length_take]; rfl)) ?_; (with_reducible refine (lockfastref09_Of.calls k a0 t118 _ (by first | ((repeat (first | (with_reducible exact HG) | apply GL_drewN | apply GL_drew)); done) | exact GL_below HG (by repeat (first | (with_reducible first | exact HB.out | apply below_alloc | apply pw_below_drewN | apply below_drew1) | exact HB.out))) A2.out).mono ?_); rintro e w' ⟨rfl, ⟨nd, rfl⟩⟩; refine ⟨_, rfl, ?_⟩) | ((with_reducible refine gate_callee (f := 16) rfl ?_); refine goesL_ (some 10) rfl rfl Tryd.func16 (by kernel_rfl) rfl #[.int .i64 a0] rfl (by (try simp only [List.map_toArray, List.map_cons, List.map_nil]); first | done | rfl | (simp only [List.length_drop, List.length_take]; rfl)) ?_; (with_reducible refine (lockfastref09_Chunks.calls k a0 t121 _ (by first | ((repeat (first | (with_reducible exact HG) | apply GL_drewN | apply GL_drew)); done) | exact GL_below HG (by repeat (first | (with_reducible first | exact HB.out | apply below_alloc | apply pw_below_drewN | apply below_drew1) | exact HB.out))) A6.out).mono ?_); rintro e w' ⟨rfl, ⟨nd, rfl⟩⟩; refine ⟨_, rfl, ?_⟩))
    go_ret
    exact ⟨by first | rfl | (simp; done) | (simp [*]; done), by repeat (first | exact Drawn0.refl _ | apply Drawn0.step)⟩

end Go.Proofs.YtnkigdcicnhepaaDoor.PClassTells
