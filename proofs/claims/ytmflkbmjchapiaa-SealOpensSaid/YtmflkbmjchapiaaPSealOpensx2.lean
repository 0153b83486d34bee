-- WRITTEN FOR THIS CLAIM by given.py, a program of this session's: the kit's printer, run with contracts of the session's own. It is not a text of print.sh's.
import Derived.Test.YtmflkbmjchapiaaPSealOpensx0
namespace Go.Proofs.Ytmflkbmjchapiaa.PSealOpens
open Go.RowKit Go.Proofs.YtmflkbmjchapiaaW.PrintWords Go.Proofs.YtmflkbmjchapiaaW.PrintLast Go.Proofs.YtmflkbmjchapiaaW.PrintMore
attribute [local go_sem] max2_int min2_int max_two min_two max_three min_three max_four min_four   -- for this text's walks alone
set_option linter.unusedVariables false
set_option linter.unusedSimpArgs false
open Go.Proofs.YtmflkbmjchapiaaX

/-! ### lockfastref02_xor: function 35 -/
def lockfastref02_xor.l0 : Nat → Int → Int → Int → Int → Int → Option (Int)
  | 0, _, _, _, _, _ => none
  | k + 1, x0, x1, x5, x6, x7 => if x7 < 32 then (if x6 = 0 then (none) else (if (((Int.tdiv x0 x6) % 4294967296) % 2) = (((Int.tdiv x1 x6) % 4294967296) % 2) then (if x7 < 31 then (lockfastref02_xor.l0 k x0 x1 x5 ((2 * x6) % 4294967296) (wrap64 (x7 + 1))) else (lockfastref02_xor.l0 k x0 x1 x5 x6 (wrap64 (x7 + 1)))) else (if x7 < 31 then (lockfastref02_xor.l0 k x0 x1 ((x5 + x6) % 4294967296) ((2 * x6) % 4294967296) (wrap64 (x7 + 1))) else (lockfastref02_xor.l0 k x0 x1 ((x5 + x6) % 4294967296) x6 (wrap64 (x7 + 1)))))) else (some x5)
def lockfastref02_xor.f (k : Nat) (a0 : Int) (a1 : Int) : Option (Int) := lockfastref02_xor.l0 k a0 a1 0 1 0
theorem lockfastref02_xor.mono_l : ∀ k, (∀ y0 y1 y2 y3 y4, LeO (lockfastref02_xor.l0 k y0 y1 y2 y3 y4) (lockfastref02_xor.l0 (k + 1) y0 y1 y2 y3 y4))
  | 0 => fun _ _ _ _ _ r h => by simp [lockfastref02_xor.l0] at h
  | k + 1 => by
    have ih0 := lockfastref02_xor.mono_l k
    · intro y0 y1 y2 y3 y4
      unfold lockfastref02_xor.l0
      repeat' first
      | (with_reducible exact ih0 _ _ _ _ _)
      | (with_reducible exact LeO.refl _)
      | (with_reducible exact LeO.none _)
      | (with_reducible refine LeO.ite ?_ ?_)
      | (with_reducible refine LeO.bind ?_ (fun _ => ?_))
      | exact ih0 _ _ _ _ _
      | exact LeO.none _
      | refine LeO.ite ?_ ?_
      | refine LeO.bind ?_ (fun _ => ?_)
theorem lockfastref02_xor.mono : ∀ a0 a1 k, LeO (lockfastref02_xor.f k a0 a1) (lockfastref02_xor.f (k + 1) a0 a1) := by
  intro a0 a1 k
  have ih0 := lockfastref02_xor.mono_l k
  unfold lockfastref02_xor.f
  repeat' first
      | (with_reducible exact ih0 _ _ _ _ _)
      | (with_reducible exact LeO.refl _)
      | (with_reducible exact LeO.none _)
      | (with_reducible refine LeO.ite ?_ ?_)
      | (with_reducible refine LeO.bind ?_ (fun _ => ?_))
      | exact ih0 _ _ _ _ _
      | exact LeO.none _
      | refine LeO.ite ?_ ?_
      | refine LeO.bind ?_ (fun _ => ?_)
set_option maxHeartbeats 8000000 in
set_option maxRecDepth 100000 in
theorem lockfastref02_xor.calls (k : Nat) (a0 : Int) (a1 : Int) (r : Int) (w : World) (h : lockfastref02_xor.f k a0 a1 = some r) :
    Calls Try.prog 35 #[.int .u32 a0, .int .u32 a1] w fun e w' => e = .returned (.int .u32 r) ∧ Drawn0 w w' := by
  have H : (lockfastref02_xor.l0 k a0 a1 0 1 0) = some r := h
  clear h
  have H' := Aside0.mk H
  clear H
  go_enter Try.func35, Try.ntmps35
  go_wp2
  repeat (go_quiet (fail); try go_wp2)
  go_loopg [5, 6, 7] k (fun kq v5 v6 v7 w' => ∃ (x5_1 : Int) (x6_1 : Int) (x7_1 : Int), v5 = .int .u32 x5_1 ∧ v6 = .int .u32 x6_1 ∧ v7 = .int .i64 x7_1 ∧ Aside0 (lockfastref02_xor.l0 kq a0 a1 x5_1 x6_1 x7_1 = some r) ∧ Aside0 (kq ≤ k) ∧ Drawn0 w w')
  case atStart => exact ⟨(0), (1), (0), (by first | rfl | (simp; done) | (simp [*]; done)), (by first | rfl | (simp; done) | (simp [*]; done)), (by first | rfl | (simp; done) | (simp [*]; done)), H', ⟨Nat.le_refl _⟩, by repeat (first | exact Drawn0.refl _ | apply Drawn0.step)⟩
  case round =>
    clear H'
    try clear p2
    obtain ⟨x5_1, x6_1, x7_1, rfl, rfl, rfl, HA, HK1, ⟨m1, rfl⟩⟩ := hrel
    cases gk with
    | zero => exact absurd HA.out (by simp [lockfastref02_xor.l0])
    | succ k1 =>
      have H := HA.out
      clear HA
      simp only [lockfastref02_xor.l0] at H
      by_cases c3 : x7_1 < 32
      · rw [if_pos c3] at H
        have c3b0 : decide (x7_1 < 32) = true := decide_eq_true c3
        clear c3
        by_cases c4 : x6_1 = 0
        · rw [if_pos c4] at H
          exact absurd H (by simp)
        · rw [if_neg c4] at H
          have c4b0 : (x6_1 == 0) = false := beq_eq_false_iff_ne.mpr c4
          have c4b1 : (x6_1 != 0) = true := bne_iff_ne.mpr c4
          by_cases c5 : (((Int.tdiv a0 x6_1) % 4294967296) % 2) = (((Int.tdiv a1 x6_1) % 4294967296) % 2)
          · rw [if_pos c5] at H
            have c5b0 : ((((Int.tdiv a0 x6_1) % 4294967296) % 2) == (((Int.tdiv a1 x6_1) % 4294967296) % 2)) = true := beq_iff_eq.mpr c5
            have c5b1 : ((((Int.tdiv a0 x6_1) % 4294967296) % 2) != (((Int.tdiv a1 x6_1) % 4294967296) % 2)) = false := bne_eq_false_iff_eq.mpr c5
            clear c5
            by_cases c6 : x7_1 < 31
            · rw [if_pos c6] at H
              have c6b0 : decide (x7_1 < 31) = true := decide_eq_true c6
              clear c6
              have H' := Aside0.mk H
              clear H
              go_wp2
              repeat (go_quiet (fail); try go_wp2)
              go_roundg k1
              case measure => have := HK1.out; omega
              case rel => exact ⟨(x5_1), ((2 * x6_1) % 4294967296), (wrap64 (x7_1 + 1)), (by first | rfl | (simp; done) | (simp [*]; done)), (by first | rfl | (simp; done) | (simp [*]; done)), (by first | rfl | (simp; done) | (simp [*]; done)), H', ⟨by have := HK1.out; omega⟩, by repeat (first | exact Drawn0.refl _ | apply Drawn0.step)⟩
            · rw [if_neg c6] at H
              have c6b0 : decide (x7_1 < 31) = false := decide_eq_false c6
              clear c6
              have H' := Aside0.mk H
              clear H
              go_wp2
              repeat (go_quiet (fail); try go_wp2)
              go_roundg k1
              case measure => have := HK1.out; omega
              case rel => exact ⟨(x5_1), (x6_1), (wrap64 (x7_1 + 1)), (by first | rfl | (simp; done) | (simp [*]; done)), (by first | rfl | (simp; done) | (simp [*]; done)), (by first | rfl | (simp; done) | (simp [*]; done)), H', ⟨by have := HK1.out; omega⟩, by repeat (first | exact Drawn0.refl _ | apply Drawn0.step)⟩
          · rw [if_neg c5] at H
            have c5b0 : ((((Int.tdiv a0 x6_1) % 4294967296) % 2) == (((Int.tdiv a1 x6_1) % 4294967296) % 2)) = false := beq_eq_false_iff_ne.mpr c5
            have c5b1 : ((((Int.tdiv a0 x6_1) % 4294967296) % 2) != (((Int.tdiv a1 x6_1) % 4294967296) % 2)) = true := bne_iff_ne.mpr c5
            by_cases c7 : x7_1 < 31
            · rw [if_pos c7] at H
              have c7b0 : decide (x7_1 < 31) = true := decide_eq_true c7
              clear c7
              have H' := Aside0.mk H
              clear H
              go_wp2
              repeat (go_quiet (fail); try go_wp2)
              go_roundg k1
              case measure => have := HK1.out; omega
              case rel => exact ⟨((x5_1 + x6_1) % 4294967296), ((2 * x6_1) % 4294967296), (wrap64 (x7_1 + 1)), (by first | rfl | (simp; done) | (simp [*]; done)), (by first | rfl | (simp; done) | (simp [*]; done)), (by first | rfl | (simp; done) | (simp [*]; done)), H', ⟨by have := HK1.out; omega⟩, by repeat (first | exact Drawn0.refl _ | apply Drawn0.step)⟩
            · rw [if_neg c7] at H
              have c7b0 : decide (x7_1 < 31) = false := decide_eq_false c7
              clear c7
              have H' := Aside0.mk H
              clear H
              go_wp2
              repeat (go_quiet (fail); try go_wp2)
              go_roundg k1
              case measure => have := HK1.out; omega
              case rel => exact ⟨((x5_1 + x6_1) % 4294967296), (x6_1), (wrap64 (x7_1 + 1)), (by first | rfl | (simp; done) | (simp [*]; done)), (by first | rfl | (simp; done) | (simp [*]; done)), (by first | rfl | (simp; done) | (simp [*]; done)), H', ⟨by have := HK1.out; omega⟩, by repeat (first | exact Drawn0.refl _ | apply Drawn0.step)⟩
      · rw [if_neg c3] at H
        have c3b0 : decide (x7_1 < 32) = false := decide_eq_false c3
        clear c3
        obtain rfl := Option.some.inj H
        simp only [Option.some.injEq, Prod.mk.injEq] at H
        obtain ⟨rfl⟩ := H
        go_wp2
        repeat (go_quiet (fail); try go_wp2)
        go_ret
        exact ⟨by first | rfl | (simp; done) | (simp [*]; done), by repeat (first | exact Drawn0.refl _ | apply Drawn0.step)⟩

/-! ### lockfastref02_On: function 29 -/
def lockfastref02_On.l0 : Nat → Int → Int → Int → Option (Int)
  | 0, _, _, _ => none
  | k + 1, x0, x1, x5 => if x5 < 64 then (if (IntKind.u64.wrap (Int.tmod x0 2)) = (Int.tmod x1 2) then (lockfastref02_On.l0 k ((Int.tdiv x0 2) % 4294967296) (IntKind.u64.wrap (Int.tdiv x1 2)) (wrap64 (x5 + 1))) else ((lockfastref02_xor.f k ((Int.tdiv x0 2) % 4294967296) 3988292384).bind fun t125 => (lockfastref02_On.l0 k t125 (IntKind.u64.wrap (Int.tdiv x1 2)) (wrap64 (x5 + 1))))) else (some x0)
def lockfastref02_On.f (k : Nat) (a0 : Int) (a1 : Int) : Option (Int) := lockfastref02_On.l0 k a0 a1 0
theorem lockfastref02_On.mono_l : ∀ k, (∀ y0 y1 y2, LeO (lockfastref02_On.l0 k y0 y1 y2) (lockfastref02_On.l0 (k + 1) y0 y1 y2))
  | 0 => fun _ _ _ r h => by simp [lockfastref02_On.l0] at h
  | k + 1 => by
    have ih0 := lockfastref02_On.mono_l k
    · intro y0 y1 y2
      unfold lockfastref02_On.l0
      repeat' first
      | (with_reducible exact ih0 _ _ _)
      | (with_reducible exact lockfastref02_xor.mono _ _ _)
      | (with_reducible exact LeO.refl _)
      | (with_reducible exact LeO.none _)
      | (with_reducible refine LeO.ite ?_ ?_)
      | (with_reducible refine LeO.bind ?_ (fun _ => ?_))
      | exact ih0 _ _ _
      | exact lockfastref02_xor.mono _ _ _
      | exact LeO.none _
      | refine LeO.ite ?_ ?_
      | refine LeO.bind ?_ (fun _ => ?_)
theorem lockfastref02_On.mono : ∀ a0 a1 k, LeO (lockfastref02_On.f k a0 a1) (lockfastref02_On.f (k + 1) a0 a1) := by
  intro a0 a1 k
  have ih0 := lockfastref02_On.mono_l k
  unfold lockfastref02_On.f
  repeat' first
      | (with_reducible exact ih0 _ _ _)
      | (with_reducible exact lockfastref02_xor.mono _ _ _)
      | (with_reducible exact LeO.refl _)
      | (with_reducible exact LeO.none _)
      | (with_reducible refine LeO.ite ?_ ?_)
      | (with_reducible refine LeO.bind ?_ (fun _ => ?_))
      | exact ih0 _ _ _
      | exact lockfastref02_xor.mono _ _ _
      | exact LeO.none _
      | refine LeO.ite ?_ ?_
      | refine LeO.bind ?_ (fun _ => ?_)
set_option maxHeartbeats 8000000 in
set_option maxRecDepth 100000 in
theorem lockfastref02_On.calls (k : Nat) (a0 : Int) (a1 : Int) (r : Int) (w : World) (h : lockfastref02_On.f k a0 a1 = some r) :
    Calls Try.prog 29 #[.int .u32 a0, .int .u64 a1] w fun e w' => e = .returned (.int .u32 r) ∧ Drawn0 w w' := by
  have H : (lockfastref02_On.l0 k a0 a1 0) = some r := h
  clear h
  have H' := Aside0.mk H
  clear H
  go_enter Try.func29, Try.ntmps29
  go_wp2
  go_loopg [0, 1, 5] k (fun kq v0 v1 v5 w' => ∃ (x0_1 : Int) (x1_1 : Int) (x5_1 : Int), v0 = .int .u32 x0_1 ∧ v1 = .int .u64 x1_1 ∧ v5 = .int .i64 x5_1 ∧ Aside0 (lockfastref02_On.l0 kq x0_1 x1_1 x5_1 = some r) ∧ Aside0 (kq ≤ k) ∧ Drawn0 w w')
  case atStart => exact ⟨(a0), (a1), (0), (by first | rfl | (simp; done) | (simp [*]; done)), (by first | rfl | (simp; done) | (simp [*]; done)), (by first | rfl | (simp; done) | (simp [*]; done)), H', ⟨Nat.le_refl _⟩, by repeat (first | exact Drawn0.refl _ | apply Drawn0.step)⟩
  case round =>
    clear H'
    try clear c2
    try clear p2
    obtain ⟨x0_1, x1_1, x5_1, rfl, rfl, rfl, HA, HK1, ⟨m1, rfl⟩⟩ := hrel
    cases gk with
    | zero => exact absurd HA.out (by simp [lockfastref02_On.l0])
    | succ k1 =>
      have H := HA.out
      clear HA
      simp only [lockfastref02_On.l0] at H
      by_cases c3 : x5_1 < 64
      · rw [if_pos c3] at H
        have c3b0 : decide (x5_1 < 64) = true := decide_eq_true c3
        clear c3
        by_cases c4 : (IntKind.u64.wrap (Int.tmod x0_1 2)) = (Int.tmod x1_1 2)
        · rw [if_pos c4] at H
          have c4b0 : ((IntKind.u64.wrap (Int.tmod x0_1 2)) == (Int.tmod x1_1 2)) = true := beq_iff_eq.mpr c4
          have c4b1 : ((IntKind.u64.wrap (Int.tmod x0_1 2)) != (Int.tmod x1_1 2)) = false := bne_eq_false_iff_eq.mpr c4
          clear c4
          have H' := Aside0.mk H
          clear H
          go_wp2
          go_roundg k1
          case measure => have := HK1.out; omega
          case rel => exact ⟨((Int.tdiv x0_1 2) % 4294967296), (IntKind.u64.wrap (Int.tdiv x1_1 2)), (wrap64 (x5_1 + 1)), (by first | rfl | (simp; done) | (simp [*]; done)), (by first | rfl | (simp; done) | (simp [*]; done)), (by first | rfl | (simp; done) | (simp [*]; done)), H', ⟨by have := HK1.out; omega⟩, by repeat (first | exact Drawn0.refl _ | apply Drawn0.step)⟩
        · rw [if_neg c4] at H
          have c4b0 : ((IntKind.u64.wrap (Int.tmod x0_1 2)) == (Int.tmod x1_1 2)) = false := beq_eq_false_iff_ne.mpr c4
          have c4b1 : ((IntKind.u64.wrap (Int.tmod x0_1 2)) != (Int.tmod x1_1 2)) = true := bne_iff_ne.mpr c4
          replace H := Option.bind_eq_some_iff.mp H
          obtain ⟨t125, A50, H⟩ := H
          replace H : (lockfastref02_On.l0 k1 t125 (IntKind.u64.wrap (Int.tdiv x1_1 2)) (wrap64 (x5_1 + 1))) = some r := H
          have A5 := Aside0.mk A50
          clear A50
          have H' := Aside0.mk H
          clear H
          go_wp2_with (first | ((with_reducible refine gate_callee (f := 35) rfl ?_); refine goesL_ (some 21) rfl rfl Try.func35 (by kernel_rfl) rfl #[.int .u32 ((Int.tdiv x0_1 2) % 4294967296), .int .u32 3988292384] rfl (by (try simp only [List.map_toArray, List.map_cons, List.map_nil]); first | done | rfl | (simp only [List.length_drop, List.length_take]; rfl)) ?_; (with_reducible refine (lockfastref02_xor.calls k1 ((Int.tdiv x0_1 2) % 4294967296) 3988292384 t125 _ A5.out).mono ?_); rintro e w' ⟨rfl, ⟨nd, rfl⟩⟩; refine ⟨_, rfl, ?_⟩))
          go_roundg k1
          case measure => have := HK1.out; omega
          case rel => exact ⟨(t125), (IntKind.u64.wrap (Int.tdiv x1_1 2)), (wrap64 (x5_1 + 1)), (by first | rfl | (simp; done) | (simp [*]; done)), (by first | rfl | (simp; done) | (simp [*]; done)), (by first | rfl | (simp; done) | (simp [*]; done)), H', ⟨by have := HK1.out; omega⟩, by repeat (first | exact Drawn0.refl _ | apply Drawn0.step)⟩
      · rw [if_neg c3] at H
        have c3b0 : decide (x5_1 < 64) = false := decide_eq_false c3
        clear c3
        obtain rfl := Option.some.inj H
        simp only [Option.some.injEq, Prod.mk.injEq] at H
        obtain ⟨rfl⟩ := H
        go_wp2
        go_ret
        exact ⟨by first | rfl | (simp; done) | (simp [*]; done), by repeat (first | exact Drawn0.refl _ | apply Drawn0.step)⟩

/-! ### lockfastref02_More: function 18 -/
def lockfastref02_More.l0 : Nat → List Int → Int → Int → Option (Int)
  | 0, _, _, _ => none
  | k + 1, x1, x5, x6 => if x6 < (x1.length : Int) then (if 0 ≤ x6 then ((lockfastref02_On.f k x5 (rd x1 x6)).bind fun t127 => (lockfastref02_More.l0 k x1 t127 (wrap64 (x6 + 1)))) else (none)) else (some ((4294967295 - x5) % 4294967296))
def lockfastref02_More.f (k : Nat) (a0 : Int) (l1 : List Int) : Option (Int) := lockfastref02_More.l0 k l1 ((4294967295 - a0) % 4294967296) 0
theorem lockfastref02_More.mono_l : ∀ k, (∀ y0 y1 y2, LeO (lockfastref02_More.l0 k y0 y1 y2) (lockfastref02_More.l0 (k + 1) y0 y1 y2))
  | 0 => fun _ _ _ r h => by simp [lockfastref02_More.l0] at h
  | k + 1 => by
    have ih0 := lockfastref02_More.mono_l k
    · intro y0 y1 y2
      unfold lockfastref02_More.l0
      repeat' first
      | (with_reducible exact ih0 _ _ _)
      | (with_reducible exact lockfastref02_On.mono _ _ _)
      | (with_reducible exact LeO.refl _)
      | (with_reducible exact LeO.none _)
      | (with_reducible refine LeO.ite ?_ ?_)
      | (with_reducible refine LeO.bind ?_ (fun _ => ?_))
      | exact ih0 _ _ _
      | exact lockfastref02_On.mono _ _ _
      | exact LeO.none _
      | refine LeO.ite ?_ ?_
      | refine LeO.bind ?_ (fun _ => ?_)
theorem lockfastref02_More.mono : ∀ a0 a1 k, LeO (lockfastref02_More.f k a0 a1) (lockfastref02_More.f (k + 1) a0 a1) := by
  intro a0 a1 k
  have ih0 := lockfastref02_More.mono_l k
  unfold lockfastref02_More.f
  repeat' first
      | (with_reducible exact ih0 _ _ _)
      | (with_reducible exact lockfastref02_On.mono _ _ _)
      | (with_reducible exact LeO.refl _)
      | (with_reducible exact LeO.none _)
      | (with_reducible refine LeO.ite ?_ ?_)
      | (with_reducible refine LeO.bind ?_ (fun _ => ?_))
      | exact ih0 _ _ _
      | exact lockfastref02_On.mono _ _ _
      | exact LeO.none _
      | refine LeO.ite ?_ ?_
      | refine LeO.bind ?_ (fun _ => ?_)
set_option maxHeartbeats 8000000 in
set_option maxRecDepth 100000 in
theorem lockfastref02_More.calls (k : Nat) (a0 : Int) (A1 : Option Addr) (c1 : Nat) (l1 : List Int) (r : Int) (w : World) (hr1 : Kd.C (Kd.int .u64) w A1 l1.length l1) (hc1 : l1.length ≤ c1) (h : lockfastref02_More.f k a0 l1 = some r) :
    Calls Try.prog 18 #[.int .u32 a0, .slice A1 l1.length c1] w fun e w' => e = .returned (.int .u32 r) ∧ Drawn0 w w' := by
  have HR1 := Aside0.mk hr1
  have HC1 := Aside0.mk hc1
  clear hr1 hc1
  have H : (lockfastref02_More.l0 k l1 ((4294967295 - a0) % 4294967296) 0) = some r := h
  clear h
  have H' := Aside0.mk H
  clear H
  go_enter Try.func18, Try.ntmps18
  go_wp2
  go_loopg [5, 6] k (fun kq v5 v6 w' => ∃ (x5_1 : Int) (x6_1 : Int), v5 = .int .u32 x5_1 ∧ v6 = .int .i64 x6_1 ∧ Aside0 (lockfastref02_More.l0 kq l1 x5_1 x6_1 = some r) ∧ Aside0 (kq ≤ k) ∧ Drawn0 w w')
  case atStart => exact ⟨((4294967295 - a0) % 4294967296), (0), (by first | rfl | (simp; done) | (simp [*]; done)), (by first | rfl | (simp; done) | (simp [*]; done)), H', ⟨Nat.le_refl _⟩, by repeat (first | exact Drawn0.refl _ | apply Drawn0.step)⟩
  case round =>
    clear H'
    try clear c1
    try clear p2
    obtain ⟨x5_1, x6_1, rfl, rfl, HA, HK1, ⟨m1, rfl⟩⟩ := hrel
    cases gk with
    | zero => exact absurd HA.out (by simp [lockfastref02_More.l0])
    | succ k1 =>
      have H := HA.out
      clear HA
      simp only [lockfastref02_More.l0] at H
      by_cases c3 : x6_1 < (l1.length : Int)
      · rw [if_pos c3] at H
        have c3b0 : decide (x6_1 < (l1.length : Int)) = true := decide_eq_true c3
        clear c3
        by_cases c4 : 0 ≤ x6_1
        · rw [if_pos c4] at H
          have c4b0 : decide (0 ≤ x6_1) = true := decide_eq_true c4
          clear c4
          replace H := Option.bind_eq_some_iff.mp H
          obtain ⟨t127, A50, H⟩ := H
          replace H : (lockfastref02_More.l0 k1 l1 t127 (wrap64 (x6_1 + 1))) = some r := H
          have A5 := Aside0.mk A50
          clear A50
          have H' := Aside0.mk H
          clear H
          have p126 : 0 ≤ (x6_1 : Int) := of_decide_eq_true (by first | (with_reducible assumption) | assumption)
          have q126 : x6_1 < (l1.length : Int) := of_decide_eq_true (by first | (with_reducible assumption) | assumption)
          obtain ⟨ad126, e126, hx126_0⟩ := Kd.at_int HR1.out x6_1 p126 q126
          cases e126
          replace p126 := eq_true p126
          replace q126 := eq_true q126
          go_wp2_with (first | ((with_reducible refine gate_callee (f := 29) rfl ?_); refine goesL_ (some 20) rfl rfl Try.func29 (by kernel_rfl) rfl #[.int .u32 x5_1, .int .u64 (rd l1 x6_1)] rfl (by (try simp only [List.map_toArray, List.map_cons, List.map_nil]); first | done | rfl | (simp only [List.length_drop, List.length_take]; rfl)) ?_; (with_reducible refine (lockfastref02_On.calls k1 x5_1 (rd l1 x6_1) t127 _ A5.out).mono ?_); rintro e w' ⟨rfl, ⟨nd, rfl⟩⟩; refine ⟨_, rfl, ?_⟩))
          go_roundg k1
          case measure => have := HK1.out; omega
          case rel => exact ⟨(t127), (wrap64 (x6_1 + 1)), (by first | rfl | (simp; done) | (simp [*]; done)), (by first | rfl | (simp; done) | (simp [*]; done)), H', ⟨by have := HK1.out; omega⟩, by repeat (first | exact Drawn0.refl _ | apply Drawn0.step)⟩
        · rw [if_neg c4] at H
          exact absurd H (by simp)
      · rw [if_neg c3] at H
        have c3b0 : decide (x6_1 < (l1.length : Int)) = false := decide_eq_false c3
        clear c3
        obtain rfl := Option.some.inj H
        simp only [Option.some.injEq, Prod.mk.injEq] at H
        obtain ⟨rfl⟩ := H
        go_wp2
        go_ret
        exact ⟨by first | rfl | (simp; done) | (simp [*]; done), by repeat (first | exact Drawn0.refl _ | apply Drawn0.step)⟩

/-! ### lockfastref02_Of: function 16 -/
def lockfastref02_Of.f (k : Nat) (l0 : List Int) : Option (Int) := (lockfastref02_More.f k 0 l0).bind fun t128 => (some t128)
theorem lockfastref02_Of.mono : ∀ a0 k, LeO (lockfastref02_Of.f k a0) (lockfastref02_Of.f (k + 1) a0) := by
  intro a0 k
  unfold lockfastref02_Of.f
  repeat' first
      | (with_reducible exact lockfastref02_More.mono _ _ _)
      | (with_reducible exact LeO.refl _)
      | (with_reducible exact LeO.none _)
      | (with_reducible refine LeO.ite ?_ ?_)
      | (with_reducible refine LeO.bind ?_ (fun _ => ?_))
      | exact lockfastref02_More.mono _ _ _
      | exact LeO.none _
      | refine LeO.ite ?_ ?_
      | refine LeO.bind ?_ (fun _ => ?_)
set_option maxHeartbeats 8000000 in
set_option maxRecDepth 100000 in
theorem lockfastref02_Of.calls (k : Nat) (A0 : Option Addr) (c0 : Nat) (l0 : List Int) (r : Int) (w : World) (hr0 : Kd.C (Kd.int .u64) w A0 l0.length l0) (hc0 : l0.length ≤ c0) (h : lockfastref02_Of.f k l0 = some r) :
    Calls Try.prog 16 #[.slice A0 l0.length c0] w fun e w' => e = .returned (.int .u32 r) ∧ Drawn0 w w' := by
  have HR0 := Aside0.mk hr0
  have HC0 := Aside0.mk hc0
  clear hr0 hc0
  have H : ((lockfastref02_More.f k 0 l0).bind fun t128 => (some t128)) = some r := h
  clear h
  replace H := Option.bind_eq_some_iff.mp H
  obtain ⟨t128, A20, H⟩ := H
  replace H : (some t128) = some r := H
  have A2 := Aside0.mk A20
  clear A20
  obtain rfl := Option.some.inj H
  simp only [Option.some.injEq, Prod.mk.injEq] at H
  obtain ⟨rfl⟩ := H
  go_enter Try.func16, Try.ntmps16
  go_wp2_with (first | ((with_reducible refine gate_callee (f := 18) rfl ?_); refine goesL_ (some 4) rfl rfl Try.func18 (by kernel_rfl) rfl #[.int .u32 0, .slice A0 l0.length c0] rfl (by (try simp only [List.map_toArray, List.map_cons, List.map_nil]); first | done | rfl | (simp only [List.length_drop, List.length_take]; rfl)) ?_; (with_reducible refine (lockfastref02_More.calls k 0 _ _ l0 t128 _ ?side1 ?side2 A2.out).mono ?_); (case side1 => repeat (first | exact HR0.out | (with_reducible refine Kd.C_alloc ?_ _) | (with_reducible refine Kd.C_drewN ?_ _) | (with_reducible refine Kd.C_drew ?_))); (case side2 => exact HC0.out); rintro e w' ⟨rfl, ⟨nd, rfl⟩⟩; refine ⟨_, rfl, ?_⟩))
  go_ret
  exact ⟨by first | rfl | (simp; done) | (simp [*]; done), by repeat (first | exact Drawn0.refl _ | apply Drawn0.step)⟩

/-! ### lockfastref01_Words: function 20 -/
def lockfastref01_Words.l0 : Nat → List Int → List Int → Int → Option (Bool)
  | 0, _, _, _ => none
  | k + 1, x0, x1, x5 => if x5 < (x0.length : Int) then (if 0 ≤ x5 then (if x5 < (x1.length : Int) then (if (rd x0 x5) = (rd x1 x5) then (lockfastref01_Words.l0 k x0 x1 (wrap64 (x5 + 1))) else (some false)) else (none)) else (none)) else (some true)
def lockfastref01_Words.f (k : Nat) (l0 : List Int) (l1 : List Int) : Option (Bool) := if (l0.length : Int) = (l1.length : Int) then (lockfastref01_Words.l0 k l0 l1 0) else (some false)
theorem lockfastref01_Words.mono_l : ∀ k, (∀ y0 y1 y2, LeO (lockfastref01_Words.l0 k y0 y1 y2) (lockfastref01_Words.l0 (k + 1) y0 y1 y2))
  | 0 => fun _ _ _ r h => by simp [lockfastref01_Words.l0] at h
  | k + 1 => by
    have ih0 := lockfastref01_Words.mono_l k
    · intro y0 y1 y2
      unfold lockfastref01_Words.l0
      repeat' first
      | (with_reducible exact ih0 _ _ _)
      | (with_reducible exact LeO.refl _)
      | (with_reducible exact LeO.none _)
      | (with_reducible refine LeO.ite ?_ ?_)
      | (with_reducible refine LeO.bind ?_ (fun _ => ?_))
      | exact ih0 _ _ _
      | exact LeO.none _
      | refine LeO.ite ?_ ?_
      | refine LeO.bind ?_ (fun _ => ?_)
theorem lockfastref01_Words.mono : ∀ a0 a1 k, LeO (lockfastref01_Words.f k a0 a1) (lockfastref01_Words.f (k + 1) a0 a1) := by
  intro a0 a1 k
  have ih0 := lockfastref01_Words.mono_l k
  unfold lockfastref01_Words.f
  repeat' first
      | (with_reducible exact ih0 _ _ _)
      | (with_reducible exact LeO.refl _)
      | (with_reducible exact LeO.none _)
      | (with_reducible refine LeO.ite ?_ ?_)
      | (with_reducible refine LeO.bind ?_ (fun _ => ?_))
      | exact ih0 _ _ _
      | exact LeO.none _
      | refine LeO.ite ?_ ?_
      | refine LeO.bind ?_ (fun _ => ?_)
set_option maxHeartbeats 8000000 in
set_option maxRecDepth 100000 in
theorem lockfastref01_Words.calls (k : Nat) (A0 : Option Addr) (c0 : Nat) (l0 : List Int) (A1 : Option Addr) (c1 : Nat) (l1 : List Int) (r : Bool) (w : World) (hr0 : Kd.C (Kd.int .u64) w A0 l0.length l0) (hc0 : l0.length ≤ c0) (hr1 : Kd.C (Kd.int .u64) w A1 l1.length l1) (hc1 : l1.length ≤ c1) (h : lockfastref01_Words.f k l0 l1 = some r) :
    Calls Try.prog 20 #[.slice A0 l0.length c0, .slice A1 l1.length c1] w fun e w' => e = .returned (.bool r) ∧ Drawn0 w w' := by
  have HR0 := Aside0.mk hr0
  have HC0 := Aside0.mk hc0
  clear hr0 hc0
  have HR1 := Aside0.mk hr1
  have HC1 := Aside0.mk hc1
  clear hr1 hc1
  have H : (if (l0.length : Int) = (l1.length : Int) then (lockfastref01_Words.l0 k l0 l1 0) else (some false)) = some r := h
  clear h
  by_cases c3 : (l0.length : Int) = (l1.length : Int)
  · rw [if_pos c3] at H
    have c3b0 : ((l0.length : Int) == (l1.length : Int)) = true := beq_iff_eq.mpr c3
    have c3b1 : ((l0.length : Int) != (l1.length : Int)) = false := bne_eq_false_iff_eq.mpr c3
    have c3b2 : (l0.length == l1.length) = true := by first | simpa using c3 | (simp at c3 ⊢; omega)
    clear c3
    have H' := Aside0.mk H
    clear H
    go_enter Try.func20, Try.ntmps20
    go_wp2
    repeat (go_quiet (fail); try go_wp2)
    go_loopg [5] k (fun kq v5 w' => ∃ (x5_1 : Int), v5 = .int .i64 x5_1 ∧ Aside0 (lockfastref01_Words.l0 kq l0 l1 x5_1 = some r) ∧ Aside0 (kq ≤ k) ∧ Drawn0 w w')
    case atStart => exact ⟨(0), (by first | rfl | (simp; done) | (simp [*]; done)), H', ⟨Nat.le_refl _⟩, by repeat (first | exact Drawn0.refl _ | apply Drawn0.step)⟩
    case round =>
      clear H'
      try clear c1
      try clear c2
      try clear p2
      try clear c3
      try clear c3b0
      try clear c3b1
      try clear c3b2
      obtain ⟨x5_1, rfl, HA, HK1, ⟨m1, rfl⟩⟩ := hrel
      cases gk with
      | zero => exact absurd HA.out (by simp [lockfastref01_Words.l0])
      | succ k1 =>
        have H := HA.out
        clear HA
        simp only [lockfastref01_Words.l0] at H
        by_cases c4 : x5_1 < (l0.length : Int)
        · rw [if_pos c4] at H
          have c4b0 : decide (x5_1 < (l0.length : Int)) = true := decide_eq_true c4
          clear c4
          by_cases c5 : 0 ≤ x5_1
          · rw [if_pos c5] at H
            have c5b0 : decide (0 ≤ x5_1) = true := decide_eq_true c5
            clear c5
            by_cases c6 : x5_1 < (l1.length : Int)
            · rw [if_pos c6] at H
              have c6b0 : decide (x5_1 < (l1.length : Int)) = true := decide_eq_true c6
              clear c6
              by_cases c7 : (rd l0 x5_1) = (rd l1 x5_1)
              · rw [if_pos c7] at H
                have c7b0 : ((rd l0 x5_1) == (rd l1 x5_1)) = true := beq_iff_eq.mpr c7
                have c7b1 : ((rd l0 x5_1) != (rd l1 x5_1)) = false := bne_eq_false_iff_eq.mpr c7
                clear c7
                have H' := Aside0.mk H
                clear H
                have p129 : 0 ≤ (x5_1 : Int) := of_decide_eq_true (by first | (with_reducible assumption) | assumption)
                have q129 : x5_1 < (l0.length : Int) := of_decide_eq_true (by first | (with_reducible assumption) | assumption)
                obtain ⟨ad129, e129, hx129_0⟩ := Kd.at_int HR0.out x5_1 p129 q129
                cases e129
                replace p129 := eq_true p129
                replace q129 := eq_true q129
                have p130 : 0 ≤ (x5_1 : Int) := of_decide_eq_true (by first | (with_reducible assumption) | assumption)
                have q130 : x5_1 < (l1.length : Int) := of_decide_eq_true (by first | (with_reducible assumption) | assumption)
                obtain ⟨ad130, e130, hx130_0⟩ := Kd.at_int HR1.out x5_1 p130 q130
                cases e130
                replace p130 := eq_true p130
                replace q130 := eq_true q130
                go_wp2
                repeat (go_quiet (fail); try go_wp2)
                go_roundg k1
                case measure => have := HK1.out; omega
                case rel => exact ⟨(wrap64 (x5_1 + 1)), (by first | rfl | (simp; done) | (simp [*]; done)), H', ⟨by have := HK1.out; omega⟩, by repeat (first | exact Drawn0.refl _ | apply Drawn0.step)⟩
              · rw [if_neg c7] at H
                have c7b0 : ((rd l0 x5_1) == (rd l1 x5_1)) = false := beq_eq_false_iff_ne.mpr c7
                have c7b1 : ((rd l0 x5_1) != (rd l1 x5_1)) = true := bne_iff_ne.mpr c7
                obtain rfl := Option.some.inj H
                simp only [Option.some.injEq, Prod.mk.injEq] at H
                obtain ⟨rfl⟩ := H
                have p129 : 0 ≤ (x5_1 : Int) := of_decide_eq_true (by first | (with_reducible assumption) | assumption)
                have q129 : x5_1 < (l0.length : Int) := of_decide_eq_true (by first | (with_reducible assumption) | assumption)
                obtain ⟨ad129, e129, hx129_0⟩ := Kd.at_int HR0.out x5_1 p129 q129
                cases e129
                replace p129 := eq_true p129
                replace q129 := eq_true q129
                have p130 : 0 ≤ (x5_1 : Int) := of_decide_eq_true (by first | (with_reducible assumption) | assumption)
                have q130 : x5_1 < (l1.length : Int) := of_decide_eq_true (by first | (with_reducible assumption) | assumption)
                obtain ⟨ad130, e130, hx130_0⟩ := Kd.at_int HR1.out x5_1 p130 q130
                cases e130
                replace p130 := eq_true p130
                replace q130 := eq_true q130
                go_wp2
                repeat (go_quiet (fail); try go_wp2)
                go_ret
                exact ⟨by first | rfl | (simp; done) | (simp [*]; done), by repeat (first | exact Drawn0.refl _ | apply Drawn0.step)⟩
            · rw [if_neg c6] at H
              exact absurd H (by simp)
          · rw [if_neg c5] at H
            exact absurd H (by simp)
        · rw [if_neg c4] at H
          have c4b0 : decide (x5_1 < (l0.length : Int)) = false := decide_eq_false c4
          clear c4
          obtain rfl := Option.some.inj H
          simp only [Option.some.injEq, Prod.mk.injEq] at H
          obtain ⟨rfl⟩ := H
          go_wp2
          repeat (go_quiet (fail); try go_wp2)
          go_ret
          exact ⟨by first | rfl | (simp; done) | (simp [*]; done), by repeat (first | exact Drawn0.refl _ | apply Drawn0.step)⟩
  · rw [if_neg c3] at H
    have c3b0 : ((l0.length : Int) == (l1.length : Int)) = false := beq_eq_false_iff_ne.mpr c3
    have c3b1 : ((l0.length : Int) != (l1.length : Int)) = true := bne_iff_ne.mpr c3
    have c3b2 : (l0.length == l1.length) = false := by first | simpa using c3 | (simp at c3 ⊢; omega)
    obtain rfl := Option.some.inj H
    simp only [Option.some.injEq, Prod.mk.injEq] at H
    obtain ⟨rfl⟩ := H
    go_enter Try.func20, Try.ntmps20
    go_wp2
    repeat (go_quiet (fail); try go_wp2)
    go_ret
    exact ⟨by first | rfl | (simp; done) | (simp [*]; done), by repeat (first | exact Drawn0.refl _ | apply Drawn0.step)⟩

end Go.Proofs.Ytmflkbmjchapiaa.PSealOpens
