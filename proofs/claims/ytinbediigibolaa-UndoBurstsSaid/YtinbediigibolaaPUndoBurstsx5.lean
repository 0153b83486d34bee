-- WRITTEN FOR THIS CLAIM by given.py, a program of this session's: the kit's printer, run with contracts of the session's own. It is not a text of print.sh's.
import Derived.Test.YtinbediigibolaaPUndoBurstsx0
import Derived.Test.YtinbediigibolaaPUndoBurstsx1
import Derived.Test.YtinbediigibolaaPUndoBurstsx4
namespace Go.Proofs.Ytinbediigibolaa.PUndoBursts
open Go.RowKit Go.Proofs.YtinbediigibolaaW.PrintWords Go.Proofs.YtinbediigibolaaW.PrintLast Go.Proofs.YtinbediigibolaaW.PrintMore
attribute [local go_sem] max2_int min2_int max_two min_two max_three min_three max_four min_four   -- for this text's walks alone
set_option linter.unusedVariables false
set_option linter.unusedSimpArgs false
open Go.Proofs.YtinbediigibolaaX

/-! ### lockfastref13_Same: function 18 -/
def lockfastref13_Same.l0 : Nat → List (S25) → List (S25) → Int → Option (Bool)
  | 0, _, _, _ => none
  | k + 1, x0, x1, x5 => if x5 < (x0.length : Int) then (if 0 ≤ x5 then (if x5 < (x1.length : Int) then (if ((rd_T25 x0 x5).f0) = ((rd_T25 x1 x5).f0) then ((lockfastref01_Words.f k ((rd_T25 x0 x5).f1) ((rd_T25 x1 x5).f1)).bind fun t137 => (if t137 = true then (lockfastref13_Same.l0 k x0 x1 (wrap64 (x5 + 1))) else (some false))) else (some false)) else (none)) else (none)) else (some true)
def lockfastref13_Same.f (k : Nat) (l0 : List (S25)) (l1 : List (S25)) : Option (Bool) := if (l0.length : Int) = (l1.length : Int) then (lockfastref13_Same.l0 k l0 l1 0) else (some false)
theorem lockfastref13_Same.mono_l : ∀ k, (∀ y0 y1 y2, LeO (lockfastref13_Same.l0 k y0 y1 y2) (lockfastref13_Same.l0 (k + 1) y0 y1 y2))
  | 0 => fun _ _ _ r h => by simp [lockfastref13_Same.l0] at h
  | k + 1 => by
    have ih0 := lockfastref13_Same.mono_l k
    · intro y0 y1 y2
      unfold lockfastref13_Same.l0
      repeat' first
      | (with_reducible exact ih0 _ _ _)
      | (with_reducible exact lockfastref01_Words.mono _ _ _)
      | (with_reducible exact LeO.refl _)
      | (with_reducible exact LeO.none _)
      | (with_reducible refine LeO.ite ?_ ?_)
      | (with_reducible refine LeO.bind ?_ (fun _ => ?_))
      | exact ih0 _ _ _
      | exact lockfastref01_Words.mono _ _ _
      | exact LeO.none _
      | refine LeO.ite ?_ ?_
      | refine LeO.bind ?_ (fun _ => ?_)
theorem lockfastref13_Same.mono : ∀ a0 a1 k, LeO (lockfastref13_Same.f k a0 a1) (lockfastref13_Same.f (k + 1) a0 a1) := by
  intro a0 a1 k
  have ih0 := lockfastref13_Same.mono_l k
  unfold lockfastref13_Same.f
  repeat' first
      | (with_reducible exact ih0 _ _ _)
      | (with_reducible exact lockfastref01_Words.mono _ _ _)
      | (with_reducible exact LeO.refl _)
      | (with_reducible exact LeO.none _)
      | (with_reducible refine LeO.ite ?_ ?_)
      | (with_reducible refine LeO.bind ?_ (fun _ => ?_))
      | exact ih0 _ _ _
      | exact lockfastref01_Words.mono _ _ _
      | exact LeO.none _
      | refine LeO.ite ?_ ?_
      | refine LeO.bind ?_ (fun _ => ?_)
set_option maxHeartbeats 8000000 in
set_option maxRecDepth 100000 in
theorem lockfastref13_Same.calls (k : Nat) (A0 : Option Addr) (c0 : Nat) (l0 : List (S25)) (A1 : Option Addr) (c1 : Nat) (l1 : List (S25)) (r : Bool) (w : World) (hr0 : Kd.C k25 w A0 l0.length l0) (hc0 : l0.length ≤ c0) (hr1 : Kd.C k25 w A1 l1.length l1) (hc1 : l1.length ≤ c1) (h : lockfastref13_Same.f k l0 l1 = some r) :
    Calls Try.prog 18 #[.slice A0 l0.length c0, .slice A1 l1.length c1] w fun e w' => e = .returned (.bool r) ∧ Drawn0 w w' := by
  have HR0 := Aside0.mk hr0
  have HC0 := Aside0.mk hc0
  clear hr0 hc0
  have HR1 := Aside0.mk hr1
  have HC1 := Aside0.mk hc1
  clear hr1 hc1
  have H : (if (l0.length : Int) = (l1.length : Int) then (lockfastref13_Same.l0 k l0 l1 0) else (some false)) = some r := h
  clear h
  by_cases c3 : (l0.length : Int) = (l1.length : Int)
  · rw [if_pos c3] at H
    have c3b0 : ((l0.length : Int) == (l1.length : Int)) = true := beq_iff_eq.mpr c3
    have c3b1 : ((l0.length : Int) != (l1.length : Int)) = false := bne_eq_false_iff_eq.mpr c3
    have c3b2 : (l0.length == l1.length) = true := by first | simpa using c3 | (simp at c3 ⊢; omega)
    clear c3
    have H' := Aside0.mk H
    clear H
    go_enter Try.func18, Try.ntmps18
    go_wp2
    repeat (go_quiet (fail); try go_wp2)
    go_loopg [5] k (fun kq v5 w' => ∃ (x5_1 : Int), v5 = .int .i64 x5_1 ∧ Aside0 (lockfastref13_Same.l0 kq l0 l1 x5_1 = some r) ∧ Aside0 (kq ≤ k) ∧ Drawn0 w w')
    case atStart => exact ⟨(0), (by first | rfl | (simp; done) | (simp [*]; done)), H', ⟨Nat.le_refl _⟩, by repeat (first | exact Drawn0.refl _ | apply Drawn0.step)⟩
    case round =>
      clear H'
      try clear c1
      try clear p2
      try clear c3
      try clear c3b0
      try clear c3b1
      try clear c3b2
      obtain ⟨x5_1, rfl, HA, HK1, ⟨m1, rfl⟩⟩ := hrel
      cases gk with
      | zero => exact absurd HA.out (by simp [lockfastref13_Same.l0])
      | succ k1 =>
        have H := HA.out
        clear HA
        simp only [lockfastref13_Same.l0] at H
        by_cases c4 : x5_1 < (l0.length : Int)
        · rw [if_pos c4] at H
          have c4b0 : decide (x5_1 < (l0.length : Int)) = true := decide_eq_true c4
          clear c4
          by_cases c5 : 0 ≤ x5_1
          · rw [if_pos c5] at H
            have c5b0 : decide (0 ≤ x5_1) = true := decide_eq_true c5
            clear c5
            by_cases c6 : x5_1 < (l1.length : Int)
            · rw [if_pos c6] at H
              have c6b0 : decide (x5_1 < (l1.length : Int)) = true := decide_eq_true c6
              clear c6
              by_cases c7 : ((rd_T25 l0 x5_1).f0) = ((rd_T25 l1 x5_1).f0)
              · rw [if_pos c7] at H
                have c7b0 : (((rd_T25 l0 x5_1).f0) == ((rd_T25 l1 x5_1).f0)) = true := beq_iff_eq.mpr c7
                have c7b1 : (((rd_T25 l0 x5_1).f0) != ((rd_T25 l1 x5_1).f0)) = false := bne_eq_false_iff_eq.mpr c7
                clear c7
                replace H := Option.bind_eq_some_iff.mp H
                obtain ⟨t137, A80, H⟩ := H
                replace H : (if t137 = true then (lockfastref13_Same.l0 k1 l0 l1 (wrap64 (x5_1 + 1))) else (some false)) = some r := H
                have A8 := Aside0.mk A80
                clear A80
                by_cases c9 : t137 = true
                · subst c9
                  have H1 : (lockfastref13_Same.l0 k1 l0 l1 (wrap64 (x5_1 + 1))) = some r := by rw [if_pos rfl] at H; exact H
                  clear H
                  have H := H1
                  clear H1
                  have H' := Aside0.mk H
                  clear H
                  have p133 : 0 ≤ (x5_1 : Int) := of_decide_eq_true (by first | (with_reducible assumption) | assumption)
                  have q133 : x5_1 < (l0.length : Int) := of_decide_eq_true (by first | (with_reducible assumption) | assumption)
                  obtain ⟨ad133, A133_1, c133_1, e133, hx133_0, hx133_1, hl133_1, hi133_1⟩ := at_T25 HR0.out x5_1 p133 q133
                  cases e133
                  have HR133_1 := Aside0.mk hi133_1
                  have HC133_1 := Aside0.mk hl133_1
                  clear hi133_1 hl133_1
                  replace p133 := eq_true p133
                  replace q133 := eq_true q133
                  have p134 : 0 ≤ (x5_1 : Int) := of_decide_eq_true (by first | (with_reducible assumption) | assumption)
                  have q134 : x5_1 < (l1.length : Int) := of_decide_eq_true (by first | (with_reducible assumption) | assumption)
                  obtain ⟨ad134, A134_1, c134_1, e134, hx134_0, hx134_1, hl134_1, hi134_1⟩ := at_T25 HR1.out x5_1 p134 q134
                  cases e134
                  have HR134_1 := Aside0.mk hi134_1
                  have HC134_1 := Aside0.mk hl134_1
                  clear hi134_1 hl134_1
                  replace p134 := eq_true p134
                  replace q134 := eq_true q134
                  have p135 : 0 ≤ (x5_1 : Int) := of_decide_eq_true (by first | (with_reducible assumption) | assumption)
                  have q135 : x5_1 < (l0.length : Int) := of_decide_eq_true (by first | (with_reducible assumption) | assumption)
                  obtain ⟨ad135, A135_1, c135_1, e135, hx135_0, hx135_1, hl135_1, hi135_1⟩ := at_T25 HR0.out x5_1 p135 q135
                  obtain rfl : ad133 = ad135 := (by injection e135)
                  have HR135_1 := Aside0.mk hi135_1
                  have HC135_1 := Aside0.mk hl135_1
                  clear hi135_1 hl135_1
                  replace p135 := eq_true p135
                  replace q135 := eq_true q135
                  have ea_ := Option.some.inj (hx133_1.symm.trans hx135_1)
                  injection ea_ with ea_ en_ ec_
                  subst ea_
                  subst ec_
                  clear en_
                  have p136 : 0 ≤ (x5_1 : Int) := of_decide_eq_true (by first | (with_reducible assumption) | assumption)
                  have q136 : x5_1 < (l1.length : Int) := of_decide_eq_true (by first | (with_reducible assumption) | assumption)
                  obtain ⟨ad136, A136_1, c136_1, e136, hx136_0, hx136_1, hl136_1, hi136_1⟩ := at_T25 HR1.out x5_1 p136 q136
                  obtain rfl : ad134 = ad136 := (by injection e136)
                  have HR136_1 := Aside0.mk hi136_1
                  have HC136_1 := Aside0.mk hl136_1
                  clear hi136_1 hl136_1
                  replace p136 := eq_true p136
                  replace q136 := eq_true q136
                  have ea_ := Option.some.inj (hx134_1.symm.trans hx136_1)
                  injection ea_ with ea_ en_ ec_
                  subst ea_
                  subst ec_
                  clear en_
                  go_wp2_with (first | (go_at_call 13; (with_reducible refine (lockfastref01_Words.calls k1 _ _ ((rd_T25 l0 x5_1).f1) _ _ ((rd_T25 l1 x5_1).f1) true _ ?side1 ?side2 ?side3 ?side4 A8.out).mono ?_); (case side1 => repeat (first | exact HR135_1.out | (with_reducible refine Kd.C_alloc ?_ _) | (with_reducible refine Kd.C_drewN ?_ _) | (with_reducible refine Kd.C_drew ?_))); (case side2 => exact HC135_1.out); (case side3 => repeat (first | exact HR136_1.out | (with_reducible refine Kd.C_alloc ?_ _) | (with_reducible refine Kd.C_drewN ?_ _) | (with_reducible refine Kd.C_drew ?_))); (case side4 => exact HC136_1.out); rintro e w' ⟨rfl, ⟨nd, rfl⟩⟩; (try first | exact ⟨rfl, _, World.drewN_drewN _ _ _⟩ | exact ⟨rfl, _, Eq.trans (World.drewN_drewN _ _ _) (congrArg (World.drewN _) (Nat.add_assoc _ _ _))⟩)))
                  repeat (go_quiet (first | (go_at_call 13; (with_reducible refine (lockfastref01_Words.calls k1 _ _ ((rd_T25 l0 x5_1).f1) _ _ ((rd_T25 l1 x5_1).f1) true _ ?side1 ?side2 ?side3 ?side4 A8.out).mono ?_); (case side1 => repeat (first | exact HR135_1.out | (with_reducible refine Kd.C_alloc ?_ _) | (with_reducible refine Kd.C_drewN ?_ _) | (with_reducible refine Kd.C_drew ?_))); (case side2 => exact HC135_1.out); (case side3 => repeat (first | exact HR136_1.out | (with_reducible refine Kd.C_alloc ?_ _) | (with_reducible refine Kd.C_drewN ?_ _) | (with_reducible refine Kd.C_drew ?_))); (case side4 => exact HC136_1.out); rintro e w' ⟨rfl, ⟨nd, rfl⟩⟩; (try first | exact ⟨rfl, _, World.drewN_drewN _ _ _⟩ | exact ⟨rfl, _, Eq.trans (World.drewN_drewN _ _ _) (congrArg (World.drewN _) (Nat.add_assoc _ _ _))⟩))); try go_wp2_with (first | (go_at_call 13; (with_reducible refine (lockfastref01_Words.calls k1 _ _ ((rd_T25 l0 x5_1).f1) _ _ ((rd_T25 l1 x5_1).f1) true _ ?side1 ?side2 ?side3 ?side4 A8.out).mono ?_); (case side1 => repeat (first | exact HR135_1.out | (with_reducible refine Kd.C_alloc ?_ _) | (with_reducible refine Kd.C_drewN ?_ _) | (with_reducible refine Kd.C_drew ?_))); (case side2 => exact HC135_1.out); (case side3 => repeat (first | exact HR136_1.out | (with_reducible refine Kd.C_alloc ?_ _) | (with_reducible refine Kd.C_drewN ?_ _) | (with_reducible refine Kd.C_drew ?_))); (case side4 => exact HC136_1.out); rintro e w' ⟨rfl, ⟨nd, rfl⟩⟩; (try first | exact ⟨rfl, _, World.drewN_drewN _ _ _⟩ | exact ⟨rfl, _, Eq.trans (World.drewN_drewN _ _ _) (congrArg (World.drewN _) (Nat.add_assoc _ _ _))⟩))))
                  go_roundg k1
                  case measure => have := HK1.out; omega
                  case rel => exact ⟨(wrap64 (x5_1 + 1)), (by first | rfl | (simp; done) | (simp [*]; done)), (by first | exact H' | (subst_vars; exact H')), ⟨by have := HK1.out; omega⟩, by repeat (first | exact Drawn0.refl _ | apply Drawn0.step)⟩
                · replace c9 := Bool.eq_false_iff.mpr c9
                  subst c9
                  have H1 : (some false) = some r := by rw [if_neg (show ¬ (false = true) by decide)] at H; exact H
                  clear H
                  have H := H1
                  clear H1
                  obtain rfl := Option.some.inj H
                  simp only [Option.some.injEq, Prod.mk.injEq] at H
                  obtain ⟨rfl⟩ := H
                  have p133 : 0 ≤ (x5_1 : Int) := of_decide_eq_true (by first | (with_reducible assumption) | assumption)
                  have q133 : x5_1 < (l0.length : Int) := of_decide_eq_true (by first | (with_reducible assumption) | assumption)
                  obtain ⟨ad133, A133_1, c133_1, e133, hx133_0, hx133_1, hl133_1, hi133_1⟩ := at_T25 HR0.out x5_1 p133 q133
                  cases e133
                  have HR133_1 := Aside0.mk hi133_1
                  have HC133_1 := Aside0.mk hl133_1
                  clear hi133_1 hl133_1
                  replace p133 := eq_true p133
                  replace q133 := eq_true q133
                  have p134 : 0 ≤ (x5_1 : Int) := of_decide_eq_true (by first | (with_reducible assumption) | assumption)
                  have q134 : x5_1 < (l1.length : Int) := of_decide_eq_true (by first | (with_reducible assumption) | assumption)
                  obtain ⟨ad134, A134_1, c134_1, e134, hx134_0, hx134_1, hl134_1, hi134_1⟩ := at_T25 HR1.out x5_1 p134 q134
                  cases e134
                  have HR134_1 := Aside0.mk hi134_1
                  have HC134_1 := Aside0.mk hl134_1
                  clear hi134_1 hl134_1
                  replace p134 := eq_true p134
                  replace q134 := eq_true q134
                  have p135 : 0 ≤ (x5_1 : Int) := of_decide_eq_true (by first | (with_reducible assumption) | assumption)
                  have q135 : x5_1 < (l0.length : Int) := of_decide_eq_true (by first | (with_reducible assumption) | assumption)
                  obtain ⟨ad135, A135_1, c135_1, e135, hx135_0, hx135_1, hl135_1, hi135_1⟩ := at_T25 HR0.out x5_1 p135 q135
                  obtain rfl : ad133 = ad135 := (by injection e135)
                  have HR135_1 := Aside0.mk hi135_1
                  have HC135_1 := Aside0.mk hl135_1
                  clear hi135_1 hl135_1
                  replace p135 := eq_true p135
                  replace q135 := eq_true q135
                  have ea_ := Option.some.inj (hx133_1.symm.trans hx135_1)
                  injection ea_ with ea_ en_ ec_
                  subst ea_
                  subst ec_
                  clear en_
                  have p136 : 0 ≤ (x5_1 : Int) := of_decide_eq_true (by first | (with_reducible assumption) | assumption)
                  have q136 : x5_1 < (l1.length : Int) := of_decide_eq_true (by first | (with_reducible assumption) | assumption)
                  obtain ⟨ad136, A136_1, c136_1, e136, hx136_0, hx136_1, hl136_1, hi136_1⟩ := at_T25 HR1.out x5_1 p136 q136
                  obtain rfl : ad134 = ad136 := (by injection e136)
                  have HR136_1 := Aside0.mk hi136_1
                  have HC136_1 := Aside0.mk hl136_1
                  clear hi136_1 hl136_1
                  replace p136 := eq_true p136
                  replace q136 := eq_true q136
                  have ea_ := Option.some.inj (hx134_1.symm.trans hx136_1)
                  injection ea_ with ea_ en_ ec_
                  subst ea_
                  subst ec_
                  clear en_
                  go_wp2_with (first | (go_at_call 13; (with_reducible refine (lockfastref01_Words.calls k1 _ _ ((rd_T25 l0 x5_1).f1) _ _ ((rd_T25 l1 x5_1).f1) false _ ?side1 ?side2 ?side3 ?side4 A8.out).mono ?_); (case side1 => repeat (first | exact HR135_1.out | (with_reducible refine Kd.C_alloc ?_ _) | (with_reducible refine Kd.C_drewN ?_ _) | (with_reducible refine Kd.C_drew ?_))); (case side2 => exact HC135_1.out); (case side3 => repeat (first | exact HR136_1.out | (with_reducible refine Kd.C_alloc ?_ _) | (with_reducible refine Kd.C_drewN ?_ _) | (with_reducible refine Kd.C_drew ?_))); (case side4 => exact HC136_1.out); rintro e w' ⟨rfl, ⟨nd, rfl⟩⟩; (try first | exact ⟨rfl, _, World.drewN_drewN _ _ _⟩ | exact ⟨rfl, _, Eq.trans (World.drewN_drewN _ _ _) (congrArg (World.drewN _) (Nat.add_assoc _ _ _))⟩)))
                  repeat (go_quiet (first | (go_at_call 13; (with_reducible refine (lockfastref01_Words.calls k1 _ _ ((rd_T25 l0 x5_1).f1) _ _ ((rd_T25 l1 x5_1).f1) false _ ?side1 ?side2 ?side3 ?side4 A8.out).mono ?_); (case side1 => repeat (first | exact HR135_1.out | (with_reducible refine Kd.C_alloc ?_ _) | (with_reducible refine Kd.C_drewN ?_ _) | (with_reducible refine Kd.C_drew ?_))); (case side2 => exact HC135_1.out); (case side3 => repeat (first | exact HR136_1.out | (with_reducible refine Kd.C_alloc ?_ _) | (with_reducible refine Kd.C_drewN ?_ _) | (with_reducible refine Kd.C_drew ?_))); (case side4 => exact HC136_1.out); rintro e w' ⟨rfl, ⟨nd, rfl⟩⟩; (try first | exact ⟨rfl, _, World.drewN_drewN _ _ _⟩ | exact ⟨rfl, _, Eq.trans (World.drewN_drewN _ _ _) (congrArg (World.drewN _) (Nat.add_assoc _ _ _))⟩))); try go_wp2_with (first | (go_at_call 13; (with_reducible refine (lockfastref01_Words.calls k1 _ _ ((rd_T25 l0 x5_1).f1) _ _ ((rd_T25 l1 x5_1).f1) false _ ?side1 ?side2 ?side3 ?side4 A8.out).mono ?_); (case side1 => repeat (first | exact HR135_1.out | (with_reducible refine Kd.C_alloc ?_ _) | (with_reducible refine Kd.C_drewN ?_ _) | (with_reducible refine Kd.C_drew ?_))); (case side2 => exact HC135_1.out); (case side3 => repeat (first | exact HR136_1.out | (with_reducible refine Kd.C_alloc ?_ _) | (with_reducible refine Kd.C_drewN ?_ _) | (with_reducible refine Kd.C_drew ?_))); (case side4 => exact HC136_1.out); rintro e w' ⟨rfl, ⟨nd, rfl⟩⟩; (try first | exact ⟨rfl, _, World.drewN_drewN _ _ _⟩ | exact ⟨rfl, _, Eq.trans (World.drewN_drewN _ _ _) (congrArg (World.drewN _) (Nat.add_assoc _ _ _))⟩))))
                  go_ret
                  exact ⟨by first | rfl | (simp; done) | (simp [*]; done), by repeat (first | exact Drawn0.refl _ | apply Drawn0.step)⟩
              · rw [if_neg c7] at H
                have c7b0 : (((rd_T25 l0 x5_1).f0) == ((rd_T25 l1 x5_1).f0)) = false := beq_eq_false_iff_ne.mpr c7
                have c7b1 : (((rd_T25 l0 x5_1).f0) != ((rd_T25 l1 x5_1).f0)) = true := bne_iff_ne.mpr c7
                obtain rfl := Option.some.inj H
                simp only [Option.some.injEq, Prod.mk.injEq] at H
                obtain ⟨rfl⟩ := H
                have p133 : 0 ≤ (x5_1 : Int) := of_decide_eq_true (by first | (with_reducible assumption) | assumption)
                have q133 : x5_1 < (l0.length : Int) := of_decide_eq_true (by first | (with_reducible assumption) | assumption)
                obtain ⟨ad133, A133_1, c133_1, e133, hx133_0, hx133_1, hl133_1, hi133_1⟩ := at_T25 HR0.out x5_1 p133 q133
                cases e133
                have HR133_1 := Aside0.mk hi133_1
                have HC133_1 := Aside0.mk hl133_1
                clear hi133_1 hl133_1
                replace p133 := eq_true p133
                replace q133 := eq_true q133
                have p134 : 0 ≤ (x5_1 : Int) := of_decide_eq_true (by first | (with_reducible assumption) | assumption)
                have q134 : x5_1 < (l1.length : Int) := of_decide_eq_true (by first | (with_reducible assumption) | assumption)
                obtain ⟨ad134, A134_1, c134_1, e134, hx134_0, hx134_1, hl134_1, hi134_1⟩ := at_T25 HR1.out x5_1 p134 q134
                cases e134
                have HR134_1 := Aside0.mk hi134_1
                have HC134_1 := Aside0.mk hl134_1
                clear hi134_1 hl134_1
                replace p134 := eq_true p134
                replace q134 := eq_true q134
                go_wp2
                repeat (go_quiet (fail); try go_wp2)
                go_ret
                exact ⟨by first | rfl | (simp; done) | (simp [*]; done), by repeat (first | exact Drawn0.refl _ | apply Drawn0.step)⟩
            · rw [if_neg c6] at H
              exact absurd H (by simp)
          · rw [if_neg c5] at H
            exact absurd H (by simp)
        · rw [if_neg c4] at H
          have c4b0 : decide (x5_1 < (l0.length : Int)) = false := decide_eq_false c4
          clear c4
          obtain rfl := Option.some.inj H
          simp only [Option.some.injEq, Prod.mk.injEq] at H
          obtain ⟨rfl⟩ := H
          go_wp2
          repeat (go_quiet (fail); try go_wp2)
          go_ret
          exact ⟨by first | rfl | (simp; done) | (simp [*]; done), by repeat (first | exact Drawn0.refl _ | apply Drawn0.step)⟩
  · rw [if_neg c3] at H
    have c3b0 : ((l0.length : Int) == (l1.length : Int)) = false := beq_eq_false_iff_ne.mpr c3
    have c3b1 : ((l0.length : Int) != (l1.length : Int)) = true := bne_iff_ne.mpr c3
    have c3b2 : (l0.length == l1.length) = false := by first | simpa using c3 | (simp at c3 ⊢; omega)
    obtain rfl := Option.some.inj H
    simp only [Option.some.injEq, Prod.mk.injEq] at H
    obtain ⟨rfl⟩ := H
    go_enter Try.func18, Try.ntmps18
    go_wp2
    repeat (go_quiet (fail); try go_wp2)
    go_ret
    exact ⟨by first | rfl | (simp; done) | (simp [*]; done), by repeat (first | exact Drawn0.refl _ | apply Drawn0.step)⟩

/-! ### slices_Clone_uint64_uint64: function 29: a contract of the session's own -/
def slices_Clone_uint64_uint64.f (l0 : List Int) : Option (List Int) := if l0.length < 17592186044416 then some l0 else none
set_option maxHeartbeats 4000000 in
theorem slices_Clone_uint64_uint64.calls (A0 : Option Addr) (c0 : Nat) (l0 : List Int) (r1 : List Int) (w : World) (hr0 : Kd.C (Kd.int .u64) w A0 l0.length l0) (hc0 : l0.length ≤ c0) (h : slices_Clone_uint64_uint64.f l0 = some r1) :
    Calls Try.prog 29 #[.slice A0 l0.length c0] w fun e w' => ∃ v0_ : Value, e = .returned v0_ ∧ Kd.R (Kd.int .u64) 22 w' w.heap.size (fun _ => True) v0_ r1 ∧ Below w.heap.size w w' := by
  unfold slices_Clone_uint64_uint64.f at h
  by_cases hl : l0.length < 17592186044416
  · rw [if_pos hl] at h
    obtain rfl := Option.some.inj h
    clear h
    have HR0 := Aside0.mk hr0
    clear hr0
    have hu := Try.underlying23
    cases A0 with
    | none =>
      have hq : ∀ W, (binOp .eql 23 (.slice none l0.length c0) (.slice none 0 0)).run Try.prog W = .ok (.bool true) W := fun W => run_eql_slice_nil (P := Try.prog) W 23 22 none l0.length c0 hu
      have HL0 : Aside0 (l0 = []) := Aside0.mk <| by
        by_cases hz : 0 < l0.length
        · obtain ⟨_, e, _⟩ := HR0.out.2.2 hz
          cases e
        · exact List.length_eq_zero_iff.1 (by omega)
      go_enter Try.func29, Try.ntmps29
      go_wp2
      go_ret
      exact ⟨_, rfl, by rw [HL0.out]; exact Kd.R_nil _ _ _ _ _, Below.refl _ _⟩
    | some a =>
      have hq : ∀ W, (binOp .eql 23 (.slice (some a) l0.length c0) (.slice none 0 0)).run Try.prog W = .ok (.bool false) W := fun W => run_eql_slice_nil (P := Try.prog) W 23 22 (some a) l0.length c0 hu
      go_enter Try.func29, Try.ntmps29
      go_wp2_with (at_builtin; refine Kd.R_append_rows (Kd.int .u64) (w0 := w) w.heap.size rfl (.tmp 5) (.tmp 6) 23 22 (.int .u64 0) 8 rfl Try.underlying23 info22 rfl (by decide) (by omega) (.slice (some ⟨w.heap.size, 0, none⟩) 0 0) ([] : List Int) l0 _ _ _ (fun _ => True) (fun _ => False) rfl rfl ?aO ?aR (fun _ _ h => h) (fun _ h => h.elim) ?aF ?aB ?aS ?aL ?_; (case aR => exact Kd.C_alloc HR0.out _); (case aB => exact (Below.refl _ w).alloc (Nat.le_refl _) _); (case aF => exact (fun _ _ => trivial)); (case aO => exact ⟨fun _ _ => trivial, [], own_lit w w.heap.size 22 .u64 [] (Nat.le_refl _) (by simp), Reps.none _ _⟩); (case aS => simp); (case aL => simp; omega); intro v w2 ho hb hg hat; have HO := Aside0.mk ho; have HB := Aside0.mk hb; clear ho hb hg hat)
      go_ret
      exact ⟨_, rfl, HO.out, HB.out⟩
  · rw [if_neg hl] at h
    cases h

-- NOT PRINTED: function 30 (api_Entry)

/-! ### undo_Back: function 20: a contract of the session's own -/
def undo_put (at_ : Int) (w : Int) (o : List Int) : List Int := if 0 ≤ at_ then (if at_ < (o.length : Int) then o.set at_.toNat w else o) else o
def undo_backN (at0 : Int) (old : List Int) : Nat → List Int → List Int
  | 0, o => o
  | k + 1, o => undo_put (wrap64 (at0 + (k : Int))) (rd old (k : Int)) (undo_backN at0 old k o)
def undo_back1 (x : S25) (o : List Int) : List Int := undo_backN x.f0 x.f1 x.f1.length o
def undo_Back.f (l0 : List Int) (l1 : List S25) : Option (List Int) := if l0.length < 17592186044416 then (if l1.length ≤ 1000000 then some (l1.foldr undo_back1 l0) else none) else none
theorem undo_put_length (a w : Int) (o : List Int) : (undo_put a w o).length = o.length := by
  unfold undo_put
  split
  · split
    · simp
    · rfl
  · rfl
theorem undo_backN_length (a : Int) (old : List Int) : ∀ (k : Nat) (o : List Int), (undo_backN a old k o).length = o.length
  | 0, _ => rfl
  | k + 1, o => by rw [undo_backN, undo_put_length, undo_backN_length a old k o]
def outAfter (l1 : List S25) (l0 : List Int) (pre : List Nat) : List Int := pre.foldl (fun o (x : Nat) => undo_back1 (rd_T25 l1 (x : Int)) o) l0
theorem outAfter_length (l1 : List S25) (l0 : List Int) : ∀ (pre : List Nat), (outAfter l1 l0 pre).length = l0.length := by
  intro pre
  unfold outAfter
  induction pre generalizing l0 with
  | nil => rfl
  | cons x pre ih =>
    rw [List.foldl_cons, ih]
    exact undo_backN_length _ _ _ _
theorem outAfter_all (l1 : List S25) (l0 : List Int) : outAfter l1 l0 (lastFirst l1.length l1.length) = l1.foldr undo_back1 l0 := by
  have h : (lastFirst l1.length l1.length).map (fun (x : Nat) => rd_T25 l1 (x : Int)) = l1.reverse := by
    apply List.ext_getElem
    · simp [lastFirst]
    · intro i h1 h2
      simp [lastFirst] at h1 h2 ⊢
      simp [rd_T25, List.getD_eq_getElem?_getD, List.getElem?_eq_getElem (show l1.length - 1 - i < l1.length by omega)]
  have h2 := List.foldl_map (f := fun (x : Nat) => rd_T25 l1 (x : Int)) (g := fun o x => undo_back1 x o) (l := lastFirst l1.length l1.length) (init := l0)
  rw [h, List.foldl_reverse] at h2
  exact h2.symm
structure CoreB (w0 : World) (bo B : Nat) (vo : Value) (n : Nat) (o : List Int) (W : World) : Prop where
  out : Boxed W bo 23 vo
  row : W.ownsRow w0.heap.size 22 1 vo n (nums .u64 o)
  bel : Below w0.heap.size w0 W
  size : B ≤ W.heap.size
theorem CoreB.move {w0 : World} {bo B : Nat} {vo : Value} {n : Nat} {o : List Int} {W W' : World} (h : CoreB w0 bo B vo n o W) (hbel : Below w0.heap.size w0 W') (hsz : W.heap.size ≤ W'.heap.size)
    (hm : ∀ (k : Nat) (o : Obj), W.heap[k]? = some o → o.isCells = true → W'.heap[k]? = some o) : CoreB w0 bo B vo n o W' :=
  ⟨hm _ _ h.out rfl, own_move h.row (fun k hk => by
    obtain ⟨cells, hc⟩ := own_typed h.row k hk
    rw [hc]
    exact hm _ _ hc rfl), hbel, by have := h.size; omega⟩
theorem CoreB.turn {w0 : World} {bo B : Nat} {vo : Value} {n : Nat} {o : List Int} {W W' : World} {row : Option Nat} (h : CoreB w0 bo B vo n o W) (hB : w0.heap.size ≤ B) (hg : W.grownBy W' row) (hr : ∀ r, row = some r → B ≤ r ∧ ∃ o : Obj, W.heap[r]? = some o ∧ o.isCells = false) : CoreB w0 bo B vo n o W' :=
  h.move (h.bel.grown hg (by have := h.size; omega) (fun k e => by have := (hr k e).1; omega)) hg.size (fun k o hk hc => (hg.block k (Array.getElem?_eq_some_iff.1 hk).1 (fun e => by
    obtain ⟨_, o', ho', hc'⟩ := hr k e.symm
    rw [hk] at ho'
    cases ho'
    rw [hc] at hc'
    cases hc')).trans hk)
theorem CoreB.alloc {w0 : World} {bo B : Nat} {vo : Value} {n : Nat} {o : List Int} {W : World} (h : CoreB w0 bo B vo n o W) (hB : w0.heap.size ≤ B) (ob : Obj) : CoreB w0 bo B vo n o (W.alloc ob) :=
  h.turn hB (World.grownBy_alloc W ob none) (fun r e => by cases e)
theorem CoreB.store {w0 : World} {bo B g cap : Nat} {n : Nat} {o : List Int} {W : World} (h : CoreB w0 bo B (.slice (some ⟨g, 0, none⟩) n cap) n o W) (i x : Int) :
    CoreB w0 bo B (.slice (some ⟨g, 0, none⟩) n cap) n (o.set i.toNat x) (W.setCell ⟨g, i.toNat, none⟩ (.int .u64 x)) := by
  obtain ⟨h1, h2⟩ := own_store h.row i x
  have hg : w0.heap.size ≤ g := own_base h.row g rfl
  exact ⟨h.out.kept h2 (h.out.not_row (by decide) h.row), h1, h.bel.setCell (p := ⟨g, i.toNat, none⟩) hg _, by simpa using h.size⟩
set_option maxHeartbeats 1000000 in
theorem back_in (n : Nat) (A : Option Addr) (k c : Nat) (w : World) :
    CallsIn Fence.wide n Try.prog 30 #[.slice A k c] w fun e w' => e = .returned (.func (.func 38) #[] #[.pointer (some ⟨w.heap.size, 0, none⟩)]) ∧ w' = w.alloc (.cells #[.slice A k c] 34) := by
  refine callsIn_of_wp Try.func30 rfl trivial ?_ rfl
  simp only [Try.ntmps30, List.size_toArray, List.length_cons, List.length_nil, Nat.reduceAdd, Nat.reduceSub, Array.replicate_succ, Array.replicate_zero, List.push_toArray, List.append_toArray, List.nil_append, List.cons_append]
  gi_wp2
  go_ret
  exact ⟨rfl, rfl⟩
theorem back_seq (n : Nat) (hn : 1 ≤ n) (B1 : Nat) (ad : Addr) (A : Option Addr) (m c : Nat) (hA : 0 < m → A = some ad) (hm : m ≤ 1000000) (va vb : Nat → Value) (w : World) (h1 : B1 < w.heap.size) (had : 0 < m → ad.block < w.heap.size)
    (hB1 : w.cell? ⟨B1, 0, none⟩ = some (.slice A m c)) (hcl : ∀ i, i < m → w.cell? (ad.add (i * 2)) = some (va i) ∧ w.cell? (ad.add (i * 2 + 1)) = some (vb i)) :
    SeqT2 Fence.wide n Try.prog 38 #[.pointer (some ⟨B1, 0, none⟩)] (fun x : Nat => #[.int .i64 (x : Int), .agg #[va x, vb x]]) (fun _ => KpE B1 m ad) (fun _ _ => False) (fun pre x _ _ => pre.length < m ∧ x = m - 1 - pre.length) (fun ys _ => ys = lastFirst m m) (fun _ _ => True) w :=
  fun l J Jx W hW _ _ _ hY h0 => (back1_in n hn l B1 ad A m c hA hm va vb J Jx (fun pre x W1 hJ hE => hY pre x W1 W1 hJ hJ hE) W ((hW.cell (p := ⟨B1, 0, none⟩) h1).trans hB1)
    (fun i hi => ⟨(hW.cell (by rw [add_block]; exact had (by omega))).trans (hcl i hi).1, (hW.cell (by rw [add_block]; exact had (by omega))).trans (hcl i hi).2⟩) h0).mono fun _ _ h => ⟨h.1, h.2.elim (fun ⟨ys, e, hj⟩ => .inl ⟨ys, e, hj⟩) (fun ⟨pre, _, hj⟩ => .inr ⟨pre, trivial, hj⟩)⟩
def AxB (w0 : World) (bo B : Nat) (vo : Value) (n m : Nat) (ou : List Nat → List Int) (va vb : Nat → Value) (fr : Nat → Nat → Act) (pre : List Nat) (x : Nat) (_W0 : World) (a' : Act) (W : World) : Prop :=
  ∃ xb, a' = fr xb x ∧ CoreB w0 bo B vo n (ou pre) W ∧ pre.length < m ∧ x = m - 1 - pre.length ∧ W.heap[xb]? = some (.cells #[va x, vb x] 25 (0, 0)) ∧ B ≤ xb
attribute [local go_sem] Oper.semAt_some
theorem undo_Back.fin (tmps : Array Value) (W : World) (v : Value) (e1 : tmps.getD 4 undef = v) : (results Try.f20 tmps).run Try.prog W = .ok v W := by
  have h5 : tmps[4]?.getD undef = v := by simpa using e1
  simp [results, Try.f20, go_sem, h5]
theorem undo_put_out (a w : Int) (o : List Int) (h : ¬ (0 ≤ a ∧ a < (o.length : Int))) : undo_put a w o = o := by
  unfold undo_put
  split
  · rw [if_neg (by omega)]
  · rfl
theorem undo_put_in (a w : Int) (o : List Int) (h0 : 0 ≤ a) (h1 : a < (o.length : Int)) : undo_put a w o = o.set a.toNat w := by
  unfold undo_put
  rw [if_pos h0, if_pos h1]
set_option maxHeartbeats 8000000 in
set_option maxRecDepth 100000 in
theorem undo_Back.in_ (A0 : Option Addr) (c0 : Nat) (l0 : List Int) (A1 : Option Addr) (c1 : Nat) (l1 : List S25) (r : List Int) (w0 : World) (hr0 : Kd.C (Kd.int .u64) w0 A0 l0.length l0) (hc0 : l0.length ≤ c0) (hr1 : Kd.C k25 w0 A1 l1.length l1) (hc1 : l1.length ≤ c1) (h : undo_Back.f l0 l1 = some r) :
    CallsIn Fence.wide 6 Try.prog 20 #[.slice A0 l0.length c0, .slice A1 l1.length c1] w0 fun e w0' => ∃ v0_ : Value, e = .returned v0_ ∧ Kd.R (Kd.int .u64) 22 w0' w0.heap.size (fun _ => True) v0_ r ∧ Below w0.heap.size w0 w0' := by
  unfold undo_Back.f at h
  by_cases hl0 : l0.length < 17592186044416
  · rw [if_pos hl0] at h
    by_cases hl1 : l1.length ≤ 1000000
    · rw [if_pos hl1] at h
      injection h with h
      subst h
      have hclone : slices_Clone_uint64_uint64.f l0 = some l0 := by unfold slices_Clone_uint64_uint64.f; rw [if_pos hl0]
      have HCL := Aside0.mk (fun (W : World) hC => slices_Clone_uint64_uint64.calls A0 c0 l0 l0 W hC hc0 hclone)
      have HR0 := Aside0.mk hr0
      have HR1 := Aside0.mk hr1
      have hu := Try.underlying25
      clear hclone hr0 hr1
      refine callsIn_of_wp_marks Try.func20 rfl trivial ?_ rfl
      simp only [Try.ntmps20, List.size_toArray, List.length_cons, List.length_nil, Nat.reduceAdd, Nat.reduceSub, Array.replicate_succ, Array.replicate_zero, List.push_toArray, List.append_toArray, List.nil_append, List.cons_append]
      gi_wp2_with (first | (refine ⟨trivial, ?_⟩; gi_at_call 29; refine (callsIn_wide.2 (HCL.out _ HR0.out)).mono ?_; rintro e w1 ⟨vo, rfl, hvo, hb1⟩; obtain ⟨Ao, co, rfl⟩ := Kd.R_slice hvo; have HVO := Aside0.mk hvo; have HB1 := Aside0.mk hb1; clear hvo hb1) | (refine ⟨trivial, ?_⟩; gi_at_call 30; refine (back_in (6 - 1) _ _ _ _).mono ?_; rintro e w0' ⟨rfl, rfl⟩))
      obtain ⟨adl, hadl⟩ : ∃ ad, 0 < l1.length → A1 = some ad := ⟨A1.getD ⟨0, 0, none⟩, fun h0 => by obtain ⟨ad, e, _⟩ := HR1.out.2.2 h0; rw [e]; rfl⟩
      have hex : ∀ i : Nat, ∃ q : Option Addr × Nat, i < l1.length → w0.cell? (adl.add (i * 2)) = some (.int .i64 (rd_T25 l1 (i : Int)).f0) ∧ w0.cell? (adl.add (i * 2 + 1)) = some (.slice q.1 (rd_T25 l1 (i : Int)).f1.length q.2) ∧ (rd_T25 l1 (i : Int)).f1.length ≤ q.2 ∧ Kd.C (Kd.int .u64) w0 q.1 (rd_T25 l1 (i : Int)).f1.length (rd_T25 l1 (i : Int)).f1 ∧ adl.block < w0.heap.size := by
        intro i
        by_cases hi : i < l1.length
        · obtain ⟨ad, A', c', e0, h0, h1, hle, hC⟩ := at_T25 HR1.out (i : Int) (by omega) (by omega)
          simp only [Int.toNat_natCast] at h0 h1
          rw [hadl (by omega)] at e0
          injection e0 with e0
          subst e0
          have hb := World.block_lt_of_cell? w0 _ h0
          rw [add_block] at hb
          exact ⟨(A', c'), fun _ => ⟨h0, by rw [add_field _ _ 1 (by omega)]; exact h1, hle, hC, hb⟩⟩
        · exact ⟨(none, 0), fun h => absurd h hi⟩
      obtain ⟨q, hq⟩ := Classical.axiomOfChoice hex
      have HQ := Aside0.mk hq
      have HADL := Aside0.mk hadl
      clear hex hq hadl
      obtain ⟨w3, hw3⟩ : ∃ w3, ((w1.alloc (.cells #[.slice Ao l0.length co] 23)).alloc (.cells #[.slice A1 l1.length c1] 34)) = w3 := ⟨_, rfl⟩
      have b1 : Boxed w3 w1.heap.size 23 (.slice Ao l0.length co) := by rw [← hw3]; exact (Boxed.new w1 23 _).alloc _
      have b2 : Boxed w3 (w1.heap.size + 1) 34 (.slice A1 l1.length c1) := by
        rw [← hw3]
        have := Boxed.new (w1.alloc (.cells #[.slice Ao l0.length co] 23)) 34 (.slice A1 l1.length c1)
        rw [World.size_alloc] at this
        exact this
      have hsz : w3.heap.size = w1.heap.size + 2 := by rw [← hw3]; simp
      have hrow1 : w1.ownsRow w0.heap.size 22 1 (.slice Ao l0.length co) l0.length (nums .u64 l0) := Kd.own_of_R HVO.out
      have hrow3 : w3.ownsRow w0.heap.size 22 1 (.slice Ao l0.length co) l0.length (nums .u64 l0) := by rw [← hw3]; exact own_alloc (own_alloc hrow1 _) _
      have hs1 := HB1.out.size
      have hB3 : Below w0.heap.size w0 w3 := by rw [← hw3]; exact (HB1.out.alloc hs1 _).alloc (by simp; omega) _
      have hg1 : ∀ k, (Value.slice Ao l0.length co).ownBlock = some k → k < w1.heap.size := fun k hk => own_lt hrow1 k hk
      rw [hw3]
      clear hw3
      obtain ⟨bo, hbo⟩ : ∃ b, b = w1.heap.size := ⟨_, rfl⟩
      obtain ⟨bl, hbl⟩ : ∃ b, b = w1.heap.size + 1 := ⟨_, rfl⟩
      rw [← hbl, ← hbo]
      rw [← hbo] at b1
      rw [← hbl] at b2
      have HB : Aside0 (w0.heap.size ≤ bo ∧ bo < bl ∧ bl < w3.heap.size ∧ ∀ k, (Value.slice Ao l0.length co).ownBlock = some k → k < bo) := ⟨by omega, by omega, by omega, fun k hk => by have := hg1 k hk; omega⟩
      clear hbo hbl hsz hs1 hg1 hrow1
      refine wpIn_rangeT2 rfl (by decide) (gf := 38) (lb := #[.pointer (some ⟨bl, 0, none⟩)]) rfl trivial (enters_of Try.func38 (by kernel_rfl) rfl)
        (back_seq (6 - 1) (by decide) bl adl A1 l1.length c1 HADL.out hl1 (fun x => .int .i64 (rd_T25 l1 (x : Int)).f0) (fun x => .slice (q x).1 (rd_T25 l1 (x : Int)).f1.length (q x).2) w3 b2.lt (fun h0 => by have := (HQ.out 0 h0).2.2.2.2; have := hB3.size; omega) b2.cell
          (fun i hi => ⟨(hB3.cell (by rw [add_block]; exact (HQ.out i hi).2.2.2.2)).trans (HQ.out i hi).1, (hB3.cell (by rw [add_block]; exact (HQ.out i hi).2.2.2.2)).trans (HQ.out i hi).2.1⟩))
        (fun _ => KpE_t _ _ _) (fun _ W l o o' _ h1 h2 _ => ?hKb) (fun _ _ h => h.elim) (Below.refl _ _) (fun _ => rfl)
        (fun pre W => CoreB w0 bo w3.heap.size (.slice Ao l0.length co) l0.length (outAfter l1 l0 pre) W)
        (fun _ _ _ => False)
        ?hI ?hIx (fun _ _ _ _ h => h.elim) ⟨b1, hrow3, hB3, Nat.le_refl _⟩
        (AxB w0 bo w3.heap.size (.slice Ao l0.length co) l0.length l1.length (outAfter l1 l0) (fun x => .int .i64 (rd_T25 l1 (x : Int)).f0) (fun x => .slice (q x).1 (rd_T25 l1 (x : Int)).f1.length (q x).2) (fun xb x => { tmps := #[.slice A0 l0.length c0, .slice A1 l1.length c1, undef, undef, .slice none 0 0, .pointer (some ⟨bo, 0, none⟩), undef, .pointer (some ⟨xb, 0, none⟩), undef, undef, undef, .slice A0 l0.length c0, .slice Ao l0.length co, .slice A1 l1.length c1, .func (.func 38) #[] #[.pointer (some ⟨bl, 0, none⟩)], .int .i64 (x : Int), .agg #[.int .i64 (rd_T25 l1 (x : Int)).f0, .slice (q x).1 (rd_T25 l1 (x : Int)).f1.length (q x).2], undef, undef, undef, undef, undef, undef, undef, undef, undef, undef, undef, undef, undef, undef, undef, undef, undef, undef, undef, undef, undef, undef, undef, undef, undef, undef], defers := [] })) ?hAx ?assign ?body ?done ?stop
      case hKb => exact ⟨fun v hv => cell_kept hv (grownBy_putObj' W l o') (fun r e => by cases e; exact ⟨o, h1, h2⟩), fun i _ v hv => cell_kept hv (grownBy_putObj' W l o') (fun r e => by cases e; exact ⟨o, h1, h2⟩)⟩
      case hI =>
        intro pre W W' row hc hg hr
        have hb := HB.out
        exact hc.turn (by omega) hg hr
      case hIx => exact fun _ _ _ _ _ h _ _ => h
      case hAx =>
        rintro pre x W0 a' W l o o' hl ho hc ⟨xb, h1, h2, h3, h4, h5, h6⟩
        have hb := HB.out
        refine ⟨xb, h1, h2.turn (by omega) (grownBy_putObj' W l o') (fun r e => by cases e; exact ⟨hl, o, ho, hc⟩), h3, h4, ?_, h6⟩
        rw [World.putObj_heap_other (fun e => by subst e; rw [h5] at ho; cases ho; cases hc)]
        exact h5
      case assign =>
        rintro l pre x W0 W - hc ⟨e1, e2⟩
        have hb := HB.out
        have hsW := hc.size
        have E2 := Aside0.mk e2
        clear hb e2
        gi_wp2
        have hb := HB.out
        exact ⟨(KeepsOthers.alloc W _).from _, ⟨fun v hv => (Below.cell (below_alloc (Below.refl _ W) _) (World.block_lt_of_cell? W _ hv)).trans hv, fun i _ v hv => (Below.cell (below_alloc (Below.refl _ W) _) (World.block_lt_of_cell? W _ hv)).trans hv⟩, W.heap.size, rfl, hc.alloc (by omega) _, e1, E2.out, World.alloc_heap_new W _, hsW⟩
      case body =>
        rintro l pre x W0 a' W ⟨xb, rfl, hc, hpm, hxm, hxb, hBx⟩
        have hxl : x < l1.length := by omega
        obtain ⟨e, he⟩ : ∃ e, e = rd_T25 l1 (x : Int) := ⟨_, rfl⟩
        obtain ⟨hq1, hq2, hq3, hq4, hq5⟩ := HQ.out x hxl
        obtain ⟨⟨Ax, cx⟩, hqx⟩ : ∃ p, p = q x := ⟨_, rfl⟩
        have hxb2 : W.heap[xb]? = some (.cells #[.int .i64 (rd_T25 l1 (x : Int)).f0, .slice (q x).1 (rd_T25 l1 (x : Int)).f1.length (q x).2] 25 (0, 0)) := hxb
        dsimp only
        rw [← hqx, ← he] at hxb2 ⊢
        rw [← hqx, ← he] at hq3 hq4
        dsimp only at hxb2 hq3 hq4 ⊢
        obtain ⟨at0, old⟩ := e
        dsimp only at hxb2 hq3 hq4 ⊢
        have HE := Aside0.mk he
        have HC4 := Aside0.mk hq4
        have HXM := Aside0.mk hxm
        have HPM := Aside0.mk hpm
        have hox := hq4.2.1
        clear he hq1 hq2 hq4 hq5 hqx hxb hxm hpm
        have hx0 : W.cell? ⟨xb, 0, none⟩ = some (.int .i64 at0) := (blk_cell hxb2 0).trans rfl
        have hx1 : W.cell? ⟨xb, 1, none⟩ = some (.slice Ax old.length cx) := (blk_cell hxb2 1).trans rfl
        gi_wp2
        gi_loopw [20] (fun i wr => ∃ k : Nat, k ≤ old.length ∧ i = .int .i64 k ∧ CoreB w0 bo w3.heap.size (.slice Ao l0.length co) l0.length (undo_backN at0 old k (outAfter l1 l0 pre)) wr ∧ wr.heap[xb]? = some (.cells #[.int .i64 at0, .slice Ax old.length cx] 25 (0, 0)) ∧ KeepsOthers W wr ∧ (∀ (b : Nat) (ob : Obj), W.heap[b]? = some ob → some b ≠ (Value.slice Ao l0.length co).ownBlock → wr.heap[b]? = some ob)) (fun i _ => old.length - (intOf i).toNat)
        case atStart => exact ⟨0, Nat.zero_le _, rfl, hc, hxb2, KeepsOthers.refl _, fun _ _ h _ => h⟩
        case round =>
          obtain ⟨k, hk, rfl, hck, hxk, hkk, hfar⟩ := hrel
          have HCK := Aside0.mk hck
          have HFAR := Aside0.mk hfar
          have hcb := hck.out.cell
          have hx0 : wr.cell? ⟨xb, 0, none⟩ = some (.int .i64 at0) := (blk_cell hxk 0).trans rfl
          by_cases hlt : k < old.length
          · have hCx := Kd.C_below HC4.out hck.bel
            obtain ⟨adx, hadx, hcx⟩ := Kd.at_int hCx (k : Int) (by omega) (by omega)
            subst hadx
            rw [Int.toNat_natCast] at hcx
            obtain ⟨at1, hat1⟩ : ∃ a, a = wrap64 (at0 + (k : Int)) := ⟨_, rfl⟩
            have hatw : IntKind.i64.wrap (at0 + (k : Int)) = at1 := (i64_w _).trans hat1.symm
            have HAT := Aside0.mk hat1
            have hlen : (undo_backN at0 old k (outAfter l1 l0 pre)).length = l0.length := by rw [undo_backN_length, outAfter_length]
            have HLEN := Aside0.mk hlen
            clear hat1 hlen hCx hfar hck
            by_cases hin : 0 ≤ at1 ∧ at1 < (l0.length : Int)
            · obtain ⟨hin0, hin1⟩ := hin
              obtain ⟨a, rfl⟩ := Int.eq_ofNat_of_zero_le hin0
              rcases HCK.out.row.2 with ⟨e, _⟩ | ⟨g, cap, cur, e, hbg, hgh, _⟩
              · injection e with _ e
                omega
              · injection e with e1 e2 e3
                subst e1
                subst e3
                obtain ⟨hgc, hgf⟩ := own_at HCK.out.row (a : Int) (by omega) hin1
                rw [Int.toNat_natCast] at hgc hgf
                have hal : a < l0.length := by omega
                have cb0 : decide (0 ≤ (a : Int)) = true := decide_eq_true hin0
                have cb1 : decide ((a : Int) < (l0.length : Int)) = true := decide_eq_true hin1
                gi_wp2
                go_roundw
                case rel =>
                  have hb := HB.out
                  have hgo : g < bo := hb.2.2.2 g rfl
                  have hst := HCK.out.store (a : Int) (rd old (k : Int))
                  rw [Int.toNat_natCast] at hst
                  refine ⟨k + 1, by omega, by go_num, ?_, (Below.heap_setCell wr ⟨g, a, none⟩ _ xb (by show xb ≠ g; omega)).trans hxk, hkk.trans (KeepsOthers.setCell _ _ _), fun b ob h1 h2 => (Below.heap_setCell wr ⟨g, a, none⟩ _ b (by show b ≠ g; intro e; exact h2 (by rw [e]; rfl))).trans (HFAR.out b ob h1 h2)⟩
                  rw [undo_backN, ← HAT.out, undo_put_in _ _ _ (by omega) (by rw [HLEN.out]; exact hin1), Int.toNat_natCast]
                  exact hst
                case measure => simp [intOf]; omega
            · have hput : undo_backN at0 old (k + 1) (outAfter l1 l0 pre) = undo_backN at0 old k (outAfter l1 l0 pre) := by
                rw [undo_backN, ← HAT.out, undo_put_out _ _ _ (by rw [HLEN.out]; exact hin)]
              have HPUT := Aside0.mk hput
              clear hput
              by_cases h0 : 0 ≤ at1
              · have cb0 : decide (0 ≤ at1) = true := decide_eq_true h0
                have cb1 : decide (at1 < (l0.length : Int)) = false := decide_eq_false (by omega)
                clear hin
                gi_wp2
                go_roundw
                case rel => exact ⟨k + 1, by omega, by go_num, by rw [HPUT.out]; exact HCK.out, hxk, hkk, HFAR.out⟩
                case measure => simp [intOf]; omega
              · have cb0 : decide (0 ≤ at1) = false := decide_eq_false h0
                clear hin
                gi_wp2
                go_roundw
                case rel => exact ⟨k + 1, by omega, by go_num, by rw [HPUT.out]; exact HCK.out, hxk, hkk, HFAR.out⟩
                case measure => simp [intOf]; omega
          · obtain rfl : k = old.length := by omega
            have hb := HB.out
            clear hb
            gi_wp2
            have hb := HB.out
            have hcell : ∀ (p : Addr) v, W.cell? p = some v → some p.block ≠ (Value.slice Ao l0.length co).ownBlock → wr.cell? p = some v := fun p v hv hne => by
              obtain ⟨ob, ho, _⟩ := cells_of_cell hv
              rw [← hv]
              unfold World.cell?
              rw [ho, HFAR.out _ ob ho hne]
            refine ⟨hkk.from _, ⟨fun v hv => hcell _ v hv (fun e => ?_), fun i hi v hv => hcell _ v hv (fun e => ?_)⟩, ?_⟩
            · have := hb.2.2.2 _ e.symm
              have h2 : bl < bo := this
              omega
            · rw [add_block] at e
              have h1 := own_base HCK.out.row _ e.symm
              have h2 := (HQ.out x hxl).2.2.2.2
              omega
            · have hou : outAfter l1 l0 (pre ++ [x]) = undo_backN at0 old old.length (outAfter l1 l0 pre) := by
                unfold outAfter
                rw [List.foldl_append, List.foldl_cons, List.foldl_nil, ← HE.out]
                rfl
              show CoreB w0 bo w3.heap.size (.slice Ao l0.length co) l0.length (outAfter l1 l0 (pre ++ [x])) wr
              rw [hou]
              exact HCK.out
      case done =>
        rintro D xs W0 W hD rfl hc hK
        have hcb := hc.out.cell
        have hb := HB.out
        clear hb
        gi_wp2
        have hb := HB.out
        refine ⟨by simp, .inl ⟨_, _, rfl, run_takeDeferred hK, ?_⟩⟩
        have hcf := hc.turn (by omega) (grownBy_putObj' W D (.deferred none)) (fun r e => by cases e; exact ⟨hD, _, hK, rfl⟩)
        have hrow := hcf.row
        rw [outAfter_all] at hrow
        have hln : (l1.foldr undo_back1 l0).length = l0.length := by rw [← outAfter_all, outAfter_length]
        refine ⟨.slice Ao l0.length co, undo_Back.fin _ _ _ rfl, _, rfl, Kd.R_of_own (by rw [hln]; exact hrow) (fun _ _ => trivial), hcf.bel⟩
      case stop => rintro D c pre W0 W _ _ h; exact h.elim
    · rw [if_neg hl1] at h
      cases h
  · rw [if_neg hl0] at h
    cases h
theorem undo_Back.calls (A0 : Option Addr) (c0 : Nat) (l0 : List Int) (A1 : Option Addr) (c1 : Nat) (l1 : List S25) (r : List Int) (w : World) (hr0 : Kd.C (Kd.int .u64) w A0 l0.length l0) (hc0 : l0.length ≤ c0) (hr1 : Kd.C k25 w A1 l1.length l1) (hc1 : l1.length ≤ c1) (h : undo_Back.f l0 l1 = some r) :
    Calls Try.prog 20 #[.slice A0 l0.length c0, .slice A1 l1.length c1] w fun e w' => ∃ v0_ : Value, e = .returned v0_ ∧ Kd.R (Kd.int .u64) 22 w' w.heap.size (fun _ => True) v0_ r ∧ Below w.heap.size w w' :=
  callsIn_wide.1 (undo_Back.in_ A0 c0 l0 A1 c1 l1 r w hr0 hc0 hr1 hc1 h)

/-! ### lockfastlaw13_awake: function 10: a contract of the session's own -/
def lockfastlaw13_awake.f : Option Bool := some true
theorem awake_enc : undo_Encode.f 3 5 [7, 8] = some ([844424932229125, 7, 8, 132619577], 0) := by kernel_rfl
theorem awake_dec : undo_Decode.f 3 [844424932229125, 7, 8, 132619577] = some ([⟨5, [7, 8]⟩], true) := by kernel_rfl
theorem awake_back : undo_Back.f [0, 0, 0, 0, 0, 0, 0] [⟨5, [7, 8]⟩] = some [0, 0, 0, 0, 0, 7, 8] := by kernel_rfl
theorem awake_same : lockfastref13_Same.f 5 [⟨5, [7, 8]⟩] [⟨5, [7, 8]⟩] = some true := by kernel_rfl
theorem awake_size : undo_Size.f 5 [7, 8] = some 4 := by kernel_rfl
theorem C_lit (W : World) (xs : List Int) (hm : xs.length ≤ 9223372036854775807) : Kd.C (Kd.int .u64) (W.alloc (.cells (nums .u64 xs).toArray 22)) (some ⟨W.heap.size, 0, none⟩) xs.length xs :=
  Kd.C_of_reads (d := (0 : Int)) (h1 := fun _ => rfl) (own_reads' (own_lit W W.heap.size 22 .u64 xs (Nat.le_refl _) hm))
theorem C_one (W : World) (x : S25) (A : Option Addr) (c : Nat) (hc : x.f1.length ≤ c) (hC : Kd.C (Kd.int .u64) (W.alloc (.cells #[.int .i64 x.f0, .slice A x.f1.length c] 25)) A x.f1.length x.f1) :
    Kd.C k25 (W.alloc (.cells #[.int .i64 x.f0, .slice A x.f1.length c] 25)) (some ⟨W.heap.size, 0, none⟩) 1 [x] := by
  refine ⟨rfl, by omega, fun _ => ⟨_, rfl, fun j p hj => ?_⟩⟩
  have hj0 : j = 0 := by
    have := (List.getElem?_eq_some_iff.1 hj).1
    simpa using this
  subst hj0
  simp only [List.getElem?_cons_zero, Option.some.injEq] at hj
  subst hj
  refine ⟨[.int .i64 x.f0, .slice A x.f1.length c], rfl, k25_mk _ x hc hC, fun i u hu => ?_⟩
  have := cell_two_new W (.int .i64 x.f0) (.slice A x.f1.length c) 25 i u hu
  simpa using this
theorem add_lit (a : Addr) (n : Nat) (h : n ≠ 0) : a.add n = ⟨a.block, a.off + n, none⟩ := by
  have := add_field a 0 n (by omega)
  rw [Nat.zero_add, Addr.add_zero'] at this
  exact this
set_option maxHeartbeats 8000000 in
set_option maxRecDepth 100000 in
theorem lockfastlaw13_awake.calls (r : Bool) (w : World) (h : lockfastlaw13_awake.f = some r) :
    Calls Try.prog 10 #[] w fun e w' => e = .returned (.bool r) ∧ Below w.heap.size w w' := by
  obtain rfl := Option.some.inj h
  have hu25 := Try.underlying25
  go_enter Try.func10, Try.ntmps10
  go_wp2_with (go_at_call 11; refine Aside0.out ?_)
  refine ⟨?_⟩
  have hC0 : Kd.C (Kd.int .u64) (w.alloc (.cells #[.int .u64 7, .int .u64 8] 22)) (some ⟨w.heap.size, 0, none⟩) 2 [7, 8] := C_lit w [7, 8] (by decide)
  have hx0 : ((w.alloc (.cells #[.int .u64 7, .int .u64 8] 22)).alloc (.cells #[.int .i64 5, .slice (some ⟨w.heap.size, 0, none⟩) 2 2] 25)).heap[w.heap.size + 1]? = some (.cells #[.int .i64 5, .slice (some ⟨w.heap.size, 0, none⟩) 2 2] 25 (0, 0)) := by
    have := World.alloc_heap_new (w.alloc (.cells #[.int .u64 7, .int .u64 8] 22)) (.cells #[.int .i64 5, .slice (some ⟨w.heap.size, 0, none⟩) 2 2] 25)
    rwa [World.size_alloc] at this
  have hC2 := Kd.C_alloc hC0 (.cells #[.int .i64 5, .slice (some ⟨w.heap.size, 0, none⟩) 2 2] 25)
  have hB2 : Below w.heap.size w ((w.alloc (.cells #[.int .u64 7, .int .u64 8] 22)).alloc (.cells #[.int .i64 5, .slice (some ⟨w.heap.size, 0, none⟩) 2 2] 25)) := ((Below.refl _ w).alloc (Nat.le_refl _) _).alloc (by simp) _
  obtain ⟨w2, hw2⟩ : ∃ w2, ((w.alloc (.cells #[.int .u64 7, .int .u64 8] 22)).alloc (.cells #[.int .i64 5, .slice (some ⟨w.heap.size, 0, none⟩) 2 2] 25)) = w2 := ⟨_, rfl⟩
  rw [hw2] at hx0 hC2 hB2 ⊢
  clear hw2 hC0
  obtain ⟨b7, hb7⟩ : ∃ b, b = w.heap.size := ⟨_, rfl⟩
  rw [← hb7] at hx0 hC2 ⊢
  clear hb7
  refine (undo_Encode.calls 3 5 _ 2 [7, 8] _ 0 w2 hC2 (by decide) awake_enc).mono ?_
  rintro e w3 ⟨v3, rfl, hv3, hb3⟩
  obtain ⟨A3, c3, rfl⟩ := Kd.R_slice hv3
  have hx3 : w3.heap[b7 + 1]? = some (.cells #[.int .i64 5, .slice (some ⟨b7, 0, none⟩) 2 2] 25 (0, 0)) := blk_below hx0 hb3
  have hC3 := Kd.C_below hC2 hb3
  have hB3 := below_step hB2 hb3
  obtain ⟨_, hle3, hR3⟩ := Kd.R_reads' hv3
  have hs3 : (Value.slice A3 [844424932229125, 7, 8, 132619577].length c3) = .slice A3 4 c3 := rfl
  simp only [List.length_cons, List.length_nil, Nat.reduceAdd] at hR3 hle3
  clear hx0 hC2 hB2 hb3 hv3
  have hxc0 : w3.cell? ⟨b7 + 1, 0, none⟩ = some (.int .i64 5) := (blk_cell hx3 0).trans rfl
  have hxc1 : w3.cell? ⟨b7 + 1, 1, none⟩ = some (.slice (some ⟨b7, 0, none⟩) 2 2) := (blk_cell hx3 1).trans rfl
  go_wp2_with (go_at_call 16; refine Aside0.out ?_)
  refine ⟨?_⟩
  refine (undo_Decode.calls 3 A3 c3 [844424932229125, 7, 8, 132619577] _ true w3 hR3 hle3 awake_dec).mono ?_
  rintro e w4 ⟨v4, rfl, hv4, hb4⟩
  obtain ⟨A4, c4, rfl⟩ := Kd.V_slice hv4
  obtain ⟨_, hle4, hR4⟩ := Kd.V_reads' hv4
  simp only [List.length_cons, List.length_nil, Nat.reduceAdd] at hR4 hle4
  have hx4 := blk_below hx3 hb4
  have hC4 := Kd.C_below hC3 hb4
  have hR34 := Kd.C_below hR3 hb4
  have hB4 := below_step hB3 hb4
  clear hx3 hC3 hR3 hB3 hb4 hv4 hxc0 hxc1
  have hxc0 : w4.cell? ⟨b7 + 1, 0, none⟩ = some (.int .i64 5) := (blk_cell hx4 0).trans rfl
  have hxc1 : w4.cell? ⟨b7 + 1, 1, none⟩ = some (.slice (some ⟨b7, 0, none⟩) 2 2) := (blk_cell hx4 1).trans rfl
  have hxz := blk_alloc hx4 (.cells #[.int .u64 0, .int .u64 0, .int .u64 0, .int .u64 0, .int .u64 0, .int .u64 0, .int .u64 0] 22)
  have hxa0 : (w4.alloc (.cells #[.int .u64 0, .int .u64 0, .int .u64 0, .int .u64 0, .int .u64 0, .int .u64 0, .int .u64 0] 22)).cell? ⟨b7 + 1, 0, none⟩ = some (.int .i64 5) := (blk_cell hxz 0).trans rfl
  have hxa1 : (w4.alloc (.cells #[.int .u64 0, .int .u64 0, .int .u64 0, .int .u64 0, .int .u64 0, .int .u64 0, .int .u64 0] 22)).cell? ⟨b7 + 1, 1, none⟩ = some (.slice (some ⟨b7, 0, none⟩) 2 2) := (blk_cell hxz 1).trans rfl
  go_wp2_with (go_at_call 20; refine Aside0.out ?_)
  refine ⟨?_⟩
  have hCz : Kd.C (Kd.int .u64) (w4.alloc (.cells #[.int .u64 0, .int .u64 0, .int .u64 0, .int .u64 0, .int .u64 0, .int .u64 0, .int .u64 0] 22)) (some ⟨w4.heap.size, 0, none⟩) 7 [0, 0, 0, 0, 0, 0, 0] := C_lit w4 [0, 0, 0, 0, 0, 0, 0] (by decide)
  have hC4a := Kd.C_alloc hC4 (.cells #[.int .u64 0, .int .u64 0, .int .u64 0, .int .u64 0, .int .u64 0, .int .u64 0, .int .u64 0] 22)
  have hR4a := Kd.C_alloc hR4 (.cells #[.int .u64 0, .int .u64 0, .int .u64 0, .int .u64 0, .int .u64 0, .int .u64 0, .int .u64 0] 22)
  have hR34a := Kd.C_alloc hR34 (.cells #[.int .u64 0, .int .u64 0, .int .u64 0, .int .u64 0, .int .u64 0, .int .u64 0, .int .u64 0] 22)
  have hB4a := hB4.alloc hB4.size (.cells #[.int .u64 0, .int .u64 0, .int .u64 0, .int .u64 0, .int .u64 0, .int .u64 0, .int .u64 0] 22)
  have hsz4 : (w4.alloc (.cells #[.int .u64 0, .int .u64 0, .int .u64 0, .int .u64 0, .int .u64 0, .int .u64 0, .int .u64 0] 22)).heap.size = w4.heap.size + 1 := by simp
  obtain ⟨w5, hw5⟩ : ∃ w5, (w4.alloc (.cells #[.int .u64 0, .int .u64 0, .int .u64 0, .int .u64 0, .int .u64 0, .int .u64 0, .int .u64 0] 22)) = w5 := ⟨_, rfl⟩
  rw [hw5] at hxz hCz hC4a hR4a hR34a hB4a hsz4 ⊢
  have hone := C_one w5 ⟨5, [7, 8]⟩ (some ⟨b7, 0, none⟩) 2 (by decide) (Kd.C_alloc hC4a _)
  have hCz6 := Kd.C_alloc hCz (.cells #[.int .i64 5, .slice (some ⟨b7, 0, none⟩) 2 2] 25)
  have hC6 := Kd.C_alloc hC4a (.cells #[.int .i64 5, .slice (some ⟨b7, 0, none⟩) 2 2] 25)
  have hR6 := Kd.C_alloc hR4a (.cells #[.int .i64 5, .slice (some ⟨b7, 0, none⟩) 2 2] 25)
  have hR36 := Kd.C_alloc hR34a (.cells #[.int .i64 5, .slice (some ⟨b7, 0, none⟩) 2 2] 25)
  have hx6 := blk_alloc hxz (.cells #[.int .i64 5, .slice (some ⟨b7, 0, none⟩) 2 2] 25)
  have hB6 := hB4a.alloc hB4a.size (.cells #[.int .i64 5, .slice (some ⟨b7, 0, none⟩) 2 2] 25)
  have hone' : Kd.C k25 (w5.alloc (.cells #[.int .i64 5, .slice (some ⟨b7, 0, none⟩) 2 2] 25)) (some ⟨w5.heap.size, 0, none⟩) 1 [⟨5, [7, 8]⟩] := hone
  rw [hsz4] at hone'
  obtain ⟨w6, hw6⟩ : ∃ w6, (w5.alloc (.cells #[.int .i64 5, .slice (some ⟨b7, 0, none⟩) 2 2] 25)) = w6 := ⟨_, rfl⟩
  rw [hw6] at hone' hCz6 hC6 hR6 hR36 hx6 hB6 ⊢
  clear hone hw6 hw5 hxz hCz hC4a hR4a hR34a hB4a hsz4 hxa0 hxa1 hxc0 hxc1 hC4 hR4 hR34 hB4 hx4
  obtain ⟨z4, hz4⟩ : ∃ b, b = w4.heap.size := ⟨_, rfl⟩
  rw [← hz4] at hone' hCz6 ⊢
  clear hz4
  refine (undo_Back.calls _ 7 [0, 0, 0, 0, 0, 0, 0] _ 1 [⟨5, [7, 8]⟩] _ w6 hCz6 (by decide) hone' (by decide) awake_back).mono ?_
  rintro e w7 ⟨v7, rfl, hv7, hb7⟩
  obtain ⟨A7, c7, rfl⟩ := Kd.R_slice hv7
  obtain ⟨_, hle7, hR7⟩ := Kd.R_reads' hv7
  simp only [List.length_cons, List.length_nil, Nat.reduceAdd] at hR7 hle7
  have hx7 := blk_below hx6 hb7
  have hC7 := Kd.C_below hC6 hb7
  have hR47 := Kd.C_below hR6 hb7
  have hR37 := Kd.C_below hR36 hb7
  have hB7 := below_step hB6 hb7
  clear hone' hCz6 hC6 hR6 hR36 hx6 hB6 hb7 hv7
  obtain ⟨a3, ea3, hw0⟩ := Kd.at_int hR37 0 (by decide) (by decide)
  subst ea3
  obtain ⟨a3', ea3', hw2⟩ := Kd.at_int hR37 2 (by decide) (by decide)
  injection ea3' with ea3'
  subst ea3'
  obtain ⟨a7, ea7, hb5⟩ := Kd.at_int hR7 5 (by decide) (by decide)
  subst ea7
  have hw0' : w7.cell? a3 = some (.int .u64 844424932229125) := by
    have := hw0
    rw [show ((0 : Int)).toNat = 0 from rfl, Addr.add_zero'] at this
    exact this
  have hw2' : w7.cell? ⟨a3.block, a3.off + 2, none⟩ = some (.int .u64 8) := by rw [← add_lit a3 2 (by decide)]; exact hw2
  have hb5' : w7.cell? ⟨a7.block, a7.off + 5, none⟩ = some (.int .u64 7) := by rw [← add_lit a7 5 (by decide)]; exact hb5
  clear hw0 hw2 hb5
  have hxc0 : w7.cell? ⟨b7 + 1, 0, none⟩ = some (.int .i64 5) := (blk_cell hx7 0).trans rfl
  have hxc1 : w7.cell? ⟨b7 + 1, 1, none⟩ = some (.slice (some ⟨b7, 0, none⟩) 2 2) := (blk_cell hx7 1).trans rfl
  go_wp2_with (go_at_call 18; refine Aside0.out ?_)
  refine ⟨?_⟩
  have hone := C_one w7 ⟨5, [7, 8]⟩ (some ⟨b7, 0, none⟩) 2 (by decide) (Kd.C_alloc hC7 _)
  have hC8 := Kd.C_alloc hC7 (.cells #[.int .i64 5, .slice (some ⟨b7, 0, none⟩) 2 2] 25)
  have hR48 := Kd.C_alloc hR47 (.cells #[.int .i64 5, .slice (some ⟨b7, 0, none⟩) 2 2] 25)
  have hR8 := Kd.C_alloc hR7 (.cells #[.int .i64 5, .slice (some ⟨b7, 0, none⟩) 2 2] 25)
  have hx8 := blk_alloc hx7 (.cells #[.int .i64 5, .slice (some ⟨b7, 0, none⟩) 2 2] 25)
  have hB8 := hB7.alloc hB7.size (.cells #[.int .i64 5, .slice (some ⟨b7, 0, none⟩) 2 2] 25)
  have hone' : Kd.C k25 (w7.alloc (.cells #[.int .i64 5, .slice (some ⟨b7, 0, none⟩) 2 2] 25)) (some ⟨w7.heap.size, 0, none⟩) 1 [⟨5, [7, 8]⟩] := hone
  obtain ⟨w8, hw8⟩ : ∃ w8, (w7.alloc (.cells #[.int .i64 5, .slice (some ⟨b7, 0, none⟩) 2 2] 25)) = w8 := ⟨_, rfl⟩
  rw [hw8] at hone' hC8 hR48 hR8 hx8 hB8 ⊢
  obtain ⟨z7, hz7⟩ : ∃ b, b = w7.heap.size := ⟨_, rfl⟩
  rw [← hz7] at hone' ⊢
  clear hone hw8 hz7 hxc0 hxc1 hw0' hw2' hb5' hR7 hC7 hR47 hx7 hB7 hR37
  refine (lockfastref13_Same.calls 5 A4 c4 [⟨5, [7, 8]⟩] _ 1 [⟨5, [7, 8]⟩] true w8 hR48 hle4 hone' (by decide) awake_same).mono ?_
  rintro e w9 ⟨rfl, hd⟩
  have hb9 := hd.below
  have hC9 := Kd.C_below hC8 hb9
  have hR9 := Kd.C_below hR8 hb9
  have hx9 := blk_below hx8 hb9
  have hB9 := below_step hB8 hb9
  obtain ⟨a7', ea7', hb5⟩ := Kd.at_int hR9 5 (by decide) (by decide)
  injection ea7' with ea7'
  subst ea7'
  have hb5' : w9.cell? ⟨a7.block, a7.off + 5, none⟩ = some (.int .u64 7) := by rw [← add_lit a7 5 (by decide)]; exact hb5
  have hxc0 : w9.cell? ⟨b7 + 1, 0, none⟩ = some (.int .i64 5) := (blk_cell hx9 0).trans rfl
  have hxc1 : w9.cell? ⟨b7 + 1, 1, none⟩ = some (.slice (some ⟨b7, 0, none⟩) 2 2) := (blk_cell hx9 1).trans rfl
  clear hb5 hone' hC8 hR48 hR8 hx8 hB8 hd hb9
  go_wp2_with (go_at_call 15; refine Aside0.out ?_)
  refine ⟨?_⟩
  refine (undo_Size.calls 5 _ 2 [7, 8] 4 w9 hC9 (by decide) awake_size).mono ?_
  rintro e w10 ⟨rfl, hb10⟩
  have hB10 := below_step hB9 hb10
  clear hC9 hR9 hx9 hB9 hxc0 hxc1 hb5' hb10
  go_wp2
  go_ret
  exact ⟨rfl, hB10⟩

end Go.Proofs.Ytinbediigibolaa.PUndoBursts
