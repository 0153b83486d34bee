-- WRITTEN FOR THIS CLAIM by given.py, a program of this session's: the kit's printer, run with contracts of the session's own. It is not a text of print.sh's.
import Derived.Test.YtinbediigibolaaPUndoDecodesx0
import Derived.Test.YtinbediigibolaaPUndoDecodesx4
import Derived.Test.YtinbediigibolaaPUndoDecodesx6
namespace Go.Proofs.Ytinbediigibolaa.PUndoDecodes
open Go.RowKit Go.Proofs.YtinbediigibolaaW.PrintWords Go.Proofs.YtinbediigibolaaW.PrintLast Go.Proofs.YtinbediigibolaaW.PrintMore
attribute [local go_sem] max2_int min2_int max_two min_two max_three min_three max_four min_four   -- for this text's walks alone
set_option linter.unusedVariables false
set_option linter.unusedSimpArgs false
open Go.Proofs.YtinbediigibolaaX

/-! ### lockfastref13_Decode: function 17 -/
def lockfastref13_Decode.l0 : Nat → Int → List Int → List (S25) → Int → Option ((List (S25)) × Bool)
  | 0, _, _, _, _ => none
  | k + 1, x0, x1, x6, x7 => if x7 < (x1.length : Int) then (if 0 ≤ x7 then (if (wrap64 ((wrap64 (x7 + (wrap64 (Int.tmod (IntKind.u64.wrap (Int.tdiv (rd x1 x7) 1048576)) 65536)))) + 2)) > (x1.length : Int) then (some (([] : List (S25)), false)) else ((some (([] : List Int) : List Int)).bind fun y157 => (if 0 ≤ (wrap64 (x7 + 1)) then (if (wrap64 (x7 + 1)) ≤ (wrap64 ((wrap64 (x7 + 1)) + (wrap64 (Int.tmod (IntKind.u64.wrap (Int.tdiv (rd x1 x7) 1048576)) 65536)))) then (if (wrap64 ((wrap64 (x7 + 1)) + (wrap64 (Int.tmod (IntKind.u64.wrap (Int.tdiv (rd x1 x7) 1048576)) 65536)))) ≤ (x1.length : Int) then (if y157.length + ((x1.take ((wrap64 ((wrap64 (x7 + 1)) + (wrap64 (Int.tmod (IntKind.u64.wrap (Int.tdiv (rd x1 x7) 1048576)) 65536)))) : Int).toNat).drop ((wrap64 (x7 + 1)) : Int).toNat).length < 17592186044416 then ((some (y157 ++ ((x1.take ((wrap64 ((wrap64 (x7 + 1)) + (wrap64 (Int.tmod (IntKind.u64.wrap (Int.tdiv (rd x1 x7) 1048576)) 65536)))) : Int).toNat).drop ((wrap64 (x7 + 1)) : Int).toNat) : List Int)).bind fun y161 => ((lockfastref13_Encode.f k x0 (wrap64 (Int.tmod (rd x1 x7) 1048576)) y161).bind fun bt165 => (if bt165.2 = 0 then (if x7 ≤ (wrap64 ((wrap64 (x7 + (wrap64 (Int.tmod (IntKind.u64.wrap (Int.tdiv (rd x1 x7) 1048576)) 65536)))) + 2)) then (if (wrap64 ((wrap64 (x7 + (wrap64 (Int.tmod (IntKind.u64.wrap (Int.tdiv (rd x1 x7) 1048576)) 65536)))) + 2)) ≤ (x1.length : Int) then ((lockfastref01_Words.f k bt165.1 ((x1.take ((wrap64 ((wrap64 (x7 + (wrap64 (Int.tmod (IntKind.u64.wrap (Int.tdiv (rd x1 x7) 1048576)) 65536)))) + 2)) : Int).toNat).drop (x7 : Int).toNat)).bind fun t170 => (if t170 = true then (if x6.length < 4398046511104 then (lockfastref13_Decode.l0 k x0 x1 (x6 ++ [(⟨wrap64 (Int.tmod (rd x1 x7) 1048576), y161⟩ : S25)]) (wrap64 ((wrap64 (x7 + (wrap64 (Int.tmod (IntKind.u64.wrap (Int.tdiv (rd x1 x7) 1048576)) 65536)))) + 2))) else (none)) else (some (([] : List (S25)), false)))) else (none)) else (none)) else (some (([] : List (S25)), false))))) else (none)) else (none)) else (none)) else (none)))) else (none)) else (some (x6, true))
def lockfastref13_Decode.f (k : Nat) (a0 : Int) (l1 : List Int) : Option ((List (S25)) × Bool) := lockfastref13_Decode.l0 k a0 l1 ([] : List (S25)) 0
theorem lockfastref13_Decode.mono_l : ∀ k, (∀ y0 y1 y2 y3, LeO (lockfastref13_Decode.l0 k y0 y1 y2 y3) (lockfastref13_Decode.l0 (k + 1) y0 y1 y2 y3))
  | 0 => fun _ _ _ _ r h => by simp [lockfastref13_Decode.l0] at h
  | k + 1 => by
    have ih0 := lockfastref13_Decode.mono_l k
    · intro y0 y1 y2 y3
      unfold lockfastref13_Decode.l0
      repeat' first
      | (with_reducible exact ih0 _ _ _ _)
      | (with_reducible exact lockfastref01_Words.mono _ _ _)
      | (with_reducible exact lockfastref13_Encode.mono _ _ _ _)
      | (with_reducible exact LeO.refl _)
      | (with_reducible exact LeO.none _)
      | (with_reducible refine LeO.ite ?_ ?_)
      | (with_reducible refine LeO.bind ?_ (fun _ => ?_))
      | exact ih0 _ _ _ _
      | exact lockfastref01_Words.mono _ _ _
      | exact lockfastref13_Encode.mono _ _ _ _
      | exact LeO.none _
      | refine LeO.ite ?_ ?_
      | refine LeO.bind ?_ (fun _ => ?_)
theorem lockfastref13_Decode.mono : ∀ a0 a1 k, LeO (lockfastref13_Decode.f k a0 a1) (lockfastref13_Decode.f (k + 1) a0 a1) := by
  intro a0 a1 k
  have ih0 := lockfastref13_Decode.mono_l k
  unfold lockfastref13_Decode.f
  repeat' first
      | (with_reducible exact ih0 _ _ _ _)
      | (with_reducible exact lockfastref01_Words.mono _ _ _)
      | (with_reducible exact lockfastref13_Encode.mono _ _ _ _)
      | (with_reducible exact LeO.refl _)
      | (with_reducible exact LeO.none _)
      | (with_reducible refine LeO.ite ?_ ?_)
      | (with_reducible refine LeO.bind ?_ (fun _ => ?_))
      | exact ih0 _ _ _ _
      | exact lockfastref01_Words.mono _ _ _
      | exact lockfastref13_Encode.mono _ _ _ _
      | exact LeO.none _
      | refine LeO.ite ?_ ?_
      | refine LeO.bind ?_ (fun _ => ?_)
def lockfastref13_Decode.T7 : Bool × List (List Nat × List Nat) := (true, [([], []), ([], []), ([0, 1], [0, 1]), ([2], [2]), ([3], [3]), ([4], [4]), ([], []), ([], []), ([], []), ([8], [8]), ([], []), ([10], [10]), ([], []), ([11, 12], [11, 12]), ([7, 9, 13], [7, 9, 13]), ([6, 14], [6, 14]), ([5, 15], [5, 15]), ([], []), ([17, 16, 15, 0, 1, 2, 3, 4, 5, 6, 7, 8, 9, 10, 11, 12, 13, 14, 15, 16, 17], [16, 17])])
def lockfastref13_Decode.B7 : List Nat := [0, 0, 3, 7, 15, 31, 0, 0, 0, 256, 0, 1024, 0, 7168, 16256, 32704, 65535, 0, 262143]
theorem lockfastref13_Decode.tab7 : rtab .any (opsOf Try.f17 7) = lockfastref13_Decode.T7 := by kernel_rfl
theorem lockfastref13_Decode.bits7 : waitsOk lockfastref13_Decode.T7.2 lockfastref13_Decode.B7 = true := by kernel_rfl
set_option maxHeartbeats 8000000 in
set_option maxRecDepth 100000 in
theorem lockfastref13_Decode.calls (k : Nat) (a0 : Int) (A1 : Option Addr) (c1 : Nat) (l1 : List Int) (r1 : List (S25)) (r2 : Bool) (w : World) (hr1 : Kd.C (Kd.int .u64) w A1 l1.length l1) (hc1 : l1.length ≤ c1) (h : lockfastref13_Decode.f k a0 l1 = some (r1, r2)) :
    Calls Try.prog 17 #[.int .u64 a0, .slice A1 l1.length c1] w fun e w' => ∃ v0_ : Value, e = .returned (.tuple #[v0_, .bool r2]) ∧ Kd.S k25 25 w' w.heap.size (fun _ => True) v0_ r1 ∧ Below w.heap.size w w' := by
  have hu25 := Try.underlying25
  have HR1 := Aside0.mk hr1
  have HC1 := Aside0.mk hc1
  clear hr1 hc1
  have HB := Aside0.mk (Below.refl w.heap.size w)
  have H : (lockfastref13_Decode.l0 k a0 l1 ([] : List (S25)) 0) = some (r1, r2) := h
  clear h
  have H' := Aside0.mk H
  clear H
  go_enter Try.func17, Try.ntmps17
  go_wp2
  go_loopg [6, 7] k (fun kq v6 v7 w' => ∃ (x6_1 : List (S25)) (x7_1 : Int), v7 = .int .i64 x7_1 ∧ Aside0 (lockfastref13_Decode.l0 kq a0 l1 x6_1 x7_1 = some (r1, r2)) ∧ Aside0 (kq ≤ k) ∧ Aside0 (Kd.S k25 25 w' w.heap.size (fun _ => True) v6 x6_1) ∧ Aside0 (Below w.heap.size w w'))
  case atStart => exact ⟨(([] : List (S25))), (0), (by first | rfl | (simp; done) | (simp [*]; done)), H', ⟨Nat.le_refl _⟩, ⟨by first | exact Kd.S_nil _ _ _ _ _ | exact Kd.N_nil _ _ _ _ _ | exact Kd.V_nil _ _ _ _ _ | exact Kd.Q_nil _ _ _ _ _ | exact Kd.R_nil _ _ _ _ _⟩, ⟨by repeat (first | (with_reducible first | exact HB.out | apply below_alloc | apply pw_below_drewN | apply below_drew1) | exact HB.out)⟩⟩
  case round =>
    clear H'
    try clear c1
    try clear p2
    obtain ⟨x6_1, x7_1, rfl, HA, HK1, HO_6, HB⟩ := hrel
    cases gk with
    | zero => exact absurd HA.out (by simp [lockfastref13_Decode.l0])
    | succ k1 =>
      have H := HA.out
      clear HA
      simp only [lockfastref13_Decode.l0] at H
      by_cases c3 : x7_1 < (l1.length : Int)
      · rw [if_pos c3] at H
        have c3b0 : decide (x7_1 < (l1.length : Int)) = true := decide_eq_true c3
        clear c3
        by_cases c4 : 0 ≤ x7_1
        · rw [if_pos c4] at H
          have c4b0 : decide (0 ≤ x7_1) = true := decide_eq_true c4
          clear c4
          by_cases c5 : (wrap64 ((wrap64 (x7_1 + (wrap64 (Int.tmod (IntKind.u64.wrap (Int.tdiv (rd l1 x7_1) 1048576)) 65536)))) + 2)) > (l1.length : Int)
          · rw [if_pos c5] at H
            have c5b0 : decide ((l1.length : Int) < (wrap64 ((wrap64 (x7_1 + (wrap64 (Int.tmod (IntKind.u64.wrap (Int.tdiv (rd l1 x7_1) 1048576)) 65536)))) + 2))) = true := decide_eq_true c5
            clear c5
            simp only [Option.some.injEq, Prod.mk.injEq] at H
            obtain ⟨rfl, rfl⟩ := H
            have p155 : 0 ≤ (x7_1 : Int) := of_decide_eq_true (by first | (with_reducible assumption) | assumption)
            have q155 : x7_1 < (l1.length : Int) := of_decide_eq_true (by first | (with_reducible assumption) | assumption)
            obtain ⟨ad155, e155, hx155_0⟩ := Kd.at_int HR1.out x7_1 p155 q155
            cases e155
            replace hx155_0 := (HB.out.cell (World.block_lt_of_cell? w _ hx155_0)).trans hx155_0
            replace p155 := eq_true p155
            replace q155 := eq_true q155
            go_wp2
            go_ret2
            exact ⟨_, by first | rfl | (simp [errW_none, errW_some] <;> rfl) | (simp [*, errW_none, errW_some] <;> rfl), by first | exact Kd.S_nil _ _ _ _ _ | exact Kd.N_nil _ _ _ _ _ | exact Kd.V_nil _ _ _ _ _ | exact Kd.Q_nil _ _ _ _ _ | exact Kd.R_nil _ _ _ _ _, by repeat (first | (with_reducible first | exact HB.out | apply below_alloc | apply pw_below_drewN | apply below_drew1) | exact HB.out)⟩
          · rw [if_neg c5] at H
            have c5b0 : decide ((l1.length : Int) < (wrap64 ((wrap64 (x7_1 + (wrap64 (Int.tmod (IntKind.u64.wrap (Int.tdiv (rd l1 x7_1) 1048576)) 65536)))) + 2))) = false := decide_eq_false c5
            clear c5
            obtain ⟨y157, hy157⟩ : ∃ y_ : List Int, y_ = (([] : List Int)) := ⟨_, rfl⟩
            replace H : (if 0 ≤ (wrap64 (x7_1 + 1)) then (if (wrap64 (x7_1 + 1)) ≤ (wrap64 ((wrap64 (x7_1 + 1)) + (wrap64 (Int.tmod (IntKind.u64.wrap (Int.tdiv (rd l1 x7_1) 1048576)) 65536)))) then (if (wrap64 ((wrap64 (x7_1 + 1)) + (wrap64 (Int.tmod (IntKind.u64.wrap (Int.tdiv (rd l1 x7_1) 1048576)) 65536)))) ≤ (l1.length : Int) then (if y157.length + ((l1.take ((wrap64 ((wrap64 (x7_1 + 1)) + (wrap64 (Int.tmod (IntKind.u64.wrap (Int.tdiv (rd l1 x7_1) 1048576)) 65536)))) : Int).toNat).drop ((wrap64 (x7_1 + 1)) : Int).toNat).length < 17592186044416 then ((some (y157 ++ ((l1.take ((wrap64 ((wrap64 (x7_1 + 1)) + (wrap64 (Int.tmod (IntKind.u64.wrap (Int.tdiv (rd l1 x7_1) 1048576)) 65536)))) : Int).toNat).drop ((wrap64 (x7_1 + 1)) : Int).toNat) : List Int)).bind fun y161 => ((lockfastref13_Encode.f k1 a0 (wrap64 (Int.tmod (rd l1 x7_1) 1048576)) y161).bind fun bt165 => (if bt165.2 = 0 then (if x7_1 ≤ (wrap64 ((wrap64 (x7_1 + (wrap64 (Int.tmod (IntKind.u64.wrap (Int.tdiv (rd l1 x7_1) 1048576)) 65536)))) + 2)) then (if (wrap64 ((wrap64 (x7_1 + (wrap64 (Int.tmod (IntKind.u64.wrap (Int.tdiv (rd l1 x7_1) 1048576)) 65536)))) + 2)) ≤ (l1.length : Int) then ((lockfastref01_Words.f k1 bt165.1 ((l1.take ((wrap64 ((wrap64 (x7_1 + (wrap64 (Int.tmod (IntKind.u64.wrap (Int.tdiv (rd l1 x7_1) 1048576)) 65536)))) + 2)) : Int).toNat).drop (x7_1 : Int).toNat)).bind fun t170 => (if t170 = true then (if x6_1.length < 4398046511104 then (lockfastref13_Decode.l0 k1 a0 l1 (x6_1 ++ [(⟨wrap64 (Int.tmod (rd l1 x7_1) 1048576), y161⟩ : S25)]) (wrap64 ((wrap64 (x7_1 + (wrap64 (Int.tmod (IntKind.u64.wrap (Int.tdiv (rd l1 x7_1) 1048576)) 65536)))) + 2))) else (none)) else (some (([] : List (S25)), false)))) else (none)) else (none)) else (some (([] : List (S25)), false))))) else (none)) else (none)) else (none)) else (none)) = some (r1, r2) := by first | (rw [hy157]; with_reducible exact H) | (have H2_ := (Option.bind_some _ _).symm.trans H; rw [hy157]; with_reducible exact H2_) | (have H2_ := (Option.bind_some _ _).symm.trans H; with_reducible exact H2_) | with_reducible exact H | (rw [hy157]; exact H) | exact H
            have Ny157 := Aside0.mk hy157
            clear hy157
            obtain ⟨ji6, hji6⟩ : ∃ j_ : Int, (wrap64 (x7_1 + 1)) = j_ := ⟨_, rfl⟩
            replace H : (if 0 ≤ (ji6) then (if (ji6) ≤ (wrap64 ((ji6) + (wrap64 (Int.tmod (IntKind.u64.wrap (Int.tdiv (rd l1 x7_1) 1048576)) 65536)))) then (if (wrap64 ((ji6) + (wrap64 (Int.tmod (IntKind.u64.wrap (Int.tdiv (rd l1 x7_1) 1048576)) 65536)))) ≤ (l1.length : Int) then (if y157.length + ((l1.take ((wrap64 ((ji6) + (wrap64 (Int.tmod (IntKind.u64.wrap (Int.tdiv (rd l1 x7_1) 1048576)) 65536)))) : Int).toNat).drop ((ji6) : Int).toNat).length < 17592186044416 then ((some (y157 ++ ((l1.take ((wrap64 ((ji6) + (wrap64 (Int.tmod (IntKind.u64.wrap (Int.tdiv (rd l1 x7_1) 1048576)) 65536)))) : Int).toNat).drop ((ji6) : Int).toNat) : List Int)).bind fun y161 => ((lockfastref13_Encode.f k1 a0 (wrap64 (Int.tmod (rd l1 x7_1) 1048576)) y161).bind fun bt165 => (if bt165.2 = 0 then (if x7_1 ≤ (wrap64 ((wrap64 (x7_1 + (wrap64 (Int.tmod (IntKind.u64.wrap (Int.tdiv (rd l1 x7_1) 1048576)) 65536)))) + 2)) then (if (wrap64 ((wrap64 (x7_1 + (wrap64 (Int.tmod (IntKind.u64.wrap (Int.tdiv (rd l1 x7_1) 1048576)) 65536)))) + 2)) ≤ (l1.length : Int) then ((lockfastref01_Words.f k1 bt165.1 ((l1.take ((wrap64 ((wrap64 (x7_1 + (wrap64 (Int.tmod (IntKind.u64.wrap (Int.tdiv (rd l1 x7_1) 1048576)) 65536)))) + 2)) : Int).toNat).drop (x7_1 : Int).toNat)).bind fun t170 => (if t170 = true then (if x6_1.length < 4398046511104 then (lockfastref13_Decode.l0 k1 a0 l1 (x6_1 ++ [(⟨wrap64 (Int.tmod (rd l1 x7_1) 1048576), y161⟩ : S25)]) (wrap64 ((wrap64 (x7_1 + (wrap64 (Int.tmod (IntKind.u64.wrap (Int.tdiv (rd l1 x7_1) 1048576)) 65536)))) + 2))) else (none)) else (some (([] : List (S25)), false)))) else (none)) else (none)) else (some (([] : List (S25)), false))))) else (none)) else (none)) else (none)) else (none)) = some (r1, r2) := by first | (rw [hji6] at H; exact H) | (simp only [hji6] at H ⊢; exact H)
            have hji6w : (IntKind.i64.wrap (x7_1 + 1)) = ji6 := (i64_w _).trans hji6
            by_cases c7 : 0 ≤ (ji6)
            · rw [if_pos c7] at H
              have c7b0 := eq_true c7
              have c7b1 : decide (0 ≤ (ji6)) = true := decide_eq_true c7
              clear c7
              by_cases c8 : (ji6) ≤ (wrap64 ((ji6) + (wrap64 (Int.tmod (IntKind.u64.wrap (Int.tdiv (rd l1 x7_1) 1048576)) 65536))))
              · rw [if_pos c8] at H
                have c8b0 := eq_true c8
                have c8b1 : decide ((ji6) ≤ (wrap64 ((ji6) + (wrap64 (Int.tmod (IntKind.u64.wrap (Int.tdiv (rd l1 x7_1) 1048576)) 65536))))) = true := decide_eq_true c8
                by_cases c9 : (wrap64 ((ji6) + (wrap64 (Int.tmod (IntKind.u64.wrap (Int.tdiv (rd l1 x7_1) 1048576)) 65536)))) ≤ (l1.length : Int)
                · rw [if_pos c9] at H
                  have c9b0 := eq_true c9
                  have c9b1 : decide ((wrap64 ((ji6) + (wrap64 (Int.tmod (IntKind.u64.wrap (Int.tdiv (rd l1 x7_1) 1048576)) 65536)))) ≤ (l1.length : Int)) = true := decide_eq_true c9
                  by_cases c10 : y157.length + ((l1.take ((wrap64 ((ji6) + (wrap64 (Int.tmod (IntKind.u64.wrap (Int.tdiv (rd l1 x7_1) 1048576)) 65536)))) : Int).toNat).drop ((ji6) : Int).toNat).length < 17592186044416
                  · rw [if_pos c10] at H
                    have LMc10 := Aside0.mk c10
                    clear c10
                    obtain ⟨y161, hy161⟩ : ∃ y_ : List Int, y_ = (y157 ++ ((l1.take ((wrap64 ((ji6) + (wrap64 (Int.tmod (IntKind.u64.wrap (Int.tdiv (rd l1 x7_1) 1048576)) 65536)))) : Int).toNat).drop ((ji6) : Int).toNat)) := ⟨_, rfl⟩
                    replace H : ((lockfastref13_Encode.f k1 a0 (wrap64 (Int.tmod (rd l1 x7_1) 1048576)) y161).bind fun bt165 => (if bt165.2 = 0 then (if x7_1 ≤ (wrap64 ((wrap64 (x7_1 + (wrap64 (Int.tmod (IntKind.u64.wrap (Int.tdiv (rd l1 x7_1) 1048576)) 65536)))) + 2)) then (if (wrap64 ((wrap64 (x7_1 + (wrap64 (Int.tmod (IntKind.u64.wrap (Int.tdiv (rd l1 x7_1) 1048576)) 65536)))) + 2)) ≤ (l1.length : Int) then ((lockfastref01_Words.f k1 bt165.1 ((l1.take ((wrap64 ((wrap64 (x7_1 + (wrap64 (Int.tmod (IntKind.u64.wrap (Int.tdiv (rd l1 x7_1) 1048576)) 65536)))) + 2)) : Int).toNat).drop (x7_1 : Int).toNat)).bind fun t170 => (if t170 = true then (if x6_1.length < 4398046511104 then (lockfastref13_Decode.l0 k1 a0 l1 (x6_1 ++ [(⟨wrap64 (Int.tmod (rd l1 x7_1) 1048576), y161⟩ : S25)]) (wrap64 ((wrap64 (x7_1 + (wrap64 (Int.tmod (IntKind.u64.wrap (Int.tdiv (rd l1 x7_1) 1048576)) 65536)))) + 2))) else (none)) else (some (([] : List (S25)), false)))) else (none)) else (none)) else (some (([] : List (S25)), false)))) = some (r1, r2) := by first | (rw [hy161]; with_reducible exact H) | (have H2_ := (Option.bind_some _ _).symm.trans H; rw [hy161]; with_reducible exact H2_) | (have H2_ := (Option.bind_some _ _).symm.trans H; with_reducible exact H2_) | with_reducible exact H | (rw [hy161]; exact H) | exact H
                    have Ny161 := Aside0.mk hy161
                    clear hy161
                    replace H := Option.bind_eq_some_iff.mp H
                    obtain ⟨⟨t165, t168⟩, A110, H⟩ := H
                    replace H : (if t168 = 0 then (if x7_1 ≤ (wrap64 ((wrap64 (x7_1 + (wrap64 (Int.tmod (IntKind.u64.wrap (Int.tdiv (rd l1 x7_1) 1048576)) 65536)))) + 2)) then (if (wrap64 ((wrap64 (x7_1 + (wrap64 (Int.tmod (IntKind.u64.wrap (Int.tdiv (rd l1 x7_1) 1048576)) 65536)))) + 2)) ≤ (l1.length : Int) then ((lockfastref01_Words.f k1 t165 ((l1.take ((wrap64 ((wrap64 (x7_1 + (wrap64 (Int.tmod (IntKind.u64.wrap (Int.tdiv (rd l1 x7_1) 1048576)) 65536)))) + 2)) : Int).toNat).drop (x7_1 : Int).toNat)).bind fun t170 => (if t170 = true then (if x6_1.length < 4398046511104 then (lockfastref13_Decode.l0 k1 a0 l1 (x6_1 ++ [(⟨wrap64 (Int.tmod (rd l1 x7_1) 1048576), y161⟩ : S25)]) (wrap64 ((wrap64 (x7_1 + (wrap64 (Int.tmod (IntKind.u64.wrap (Int.tdiv (rd l1 x7_1) 1048576)) 65536)))) + 2))) else (none)) else (some (([] : List (S25)), false)))) else (none)) else (none)) else (some (([] : List (S25)), false))) = some (r1, r2) := H
                    have A11 := Aside0.mk A110
                    clear A110
                    by_cases c12 : t168 = 0
                    · rw [if_pos c12] at H
                      have c12b0 : (t168 == 0) = true := beq_iff_eq.mpr c12
                      have c12b1 : (t168 != 0) = false := bne_eq_false_iff_eq.mpr c12
                      clear c12
                      have c13b0 := eq_true (of_decide_eq_true (by first | (with_reducible assumption) | assumption) : 0 ≤ x7_1)
                      by_cases c14 : x7_1 ≤ (wrap64 ((wrap64 (x7_1 + (wrap64 (Int.tmod (IntKind.u64.wrap (Int.tdiv (rd l1 x7_1) 1048576)) 65536)))) + 2))
                      · rw [if_pos c14] at H
                        have c14b0 := eq_true c14
                        have c14b1 : decide (x7_1 ≤ (wrap64 ((wrap64 (x7_1 + (wrap64 (Int.tmod (IntKind.u64.wrap (Int.tdiv (rd l1 x7_1) 1048576)) 65536)))) + 2))) = true := decide_eq_true c14
                        by_cases c15 : (wrap64 ((wrap64 (x7_1 + (wrap64 (Int.tmod (IntKind.u64.wrap (Int.tdiv (rd l1 x7_1) 1048576)) 65536)))) + 2)) ≤ (l1.length : Int)
                        · rw [if_pos c15] at H
                          have c15b0 := eq_true c15
                          have c15b1 : decide ((wrap64 ((wrap64 (x7_1 + (wrap64 (Int.tmod (IntKind.u64.wrap (Int.tdiv (rd l1 x7_1) 1048576)) 65536)))) + 2)) ≤ (l1.length : Int)) = true := decide_eq_true c15
                          replace H := Option.bind_eq_some_iff.mp H
                          obtain ⟨t170, A160, H⟩ := H
                          replace H : (if t170 = true then (if x6_1.length < 4398046511104 then (lockfastref13_Decode.l0 k1 a0 l1 (x6_1 ++ [(⟨wrap64 (Int.tmod (rd l1 x7_1) 1048576), y161⟩ : S25)]) (wrap64 ((wrap64 (x7_1 + (wrap64 (Int.tmod (IntKind.u64.wrap (Int.tdiv (rd l1 x7_1) 1048576)) 65536)))) + 2))) else (none)) else (some (([] : List (S25)), false))) = some (r1, r2) := H
                          have A16 := Aside0.mk A160
                          clear A160
                          by_cases c17 : t170 = true
                          · subst c17
                            have H1 : (if x6_1.length < 4398046511104 then (lockfastref13_Decode.l0 k1 a0 l1 (x6_1 ++ [(⟨wrap64 (Int.tmod (rd l1 x7_1) 1048576), y161⟩ : S25)]) (wrap64 ((wrap64 (x7_1 + (wrap64 (Int.tmod (IntKind.u64.wrap (Int.tdiv (rd l1 x7_1) 1048576)) 65536)))) + 2))) else (none)) = some (r1, r2) := by rw [if_pos rfl] at H; exact H
                            clear H
                            have H := H1
                            clear H1
                            by_cases c18 : x6_1.length < 4398046511104
                            · rw [if_pos c18] at H
                              have LMc18 := Aside0.mk c18
                              clear c18
                              obtain ⟨y171, hy171⟩ : ∃ y_ : List (S25), y_ = (x6_1 ++ [(⟨wrap64 (Int.tmod (rd l1 x7_1) 1048576), y161⟩ : S25)]) := ⟨_, rfl⟩
                              replace H : (lockfastref13_Decode.l0 k1 a0 l1 y171 (wrap64 ((wrap64 (x7_1 + (wrap64 (Int.tmod (IntKind.u64.wrap (Int.tdiv (rd l1 x7_1) 1048576)) 65536)))) + 2))) = some (r1, r2) := by first | (rw [hy171]; with_reducible exact H) | (have H2_ := (Option.bind_some _ _).symm.trans H; rw [hy171]; with_reducible exact H2_) | (have H2_ := (Option.bind_some _ _).symm.trans H; with_reducible exact H2_) | with_reducible exact H | (rw [hy171]; exact H) | exact H
                              have Ny171 := Aside0.mk hy171
                              clear hy171
                              have H' := Aside0.mk H
                              clear H
                              have p155 : 0 ≤ (x7_1 : Int) := of_decide_eq_true (by first | (with_reducible assumption) | assumption)
                              have q155 : x7_1 < (l1.length : Int) := of_decide_eq_true (by first | (with_reducible assumption) | assumption)
                              obtain ⟨ad155, e155, hx155_0⟩ := Kd.at_int HR1.out x7_1 p155 q155
                              cases e155
                              replace hx155_0 := (HB.out.cell (World.block_lt_of_cell? w _ hx155_0)).trans hx155_0
                              replace p155 := eq_true p155
                              replace q155 := eq_true q155
                              try go_wp2
                              have n0_ := Aside0.mk (Kd.S_drew HO_6.out)
                              have n1_ := Aside0.mk (below_drew1 HB.out)
                              clear HO_6
                              clear HB
                              have HO_6 := n0_
                              have HB := n1_
                              clear n0_ n1_
                              have p156 : 0 ≤ (x7_1 : Int) := of_decide_eq_true (by first | (with_reducible assumption) | assumption)
                              have q156 : x7_1 < (l1.length : Int) := of_decide_eq_true (by first | (with_reducible assumption) | assumption)
                              obtain ⟨ad156, e156, hx156_0⟩ := Kd.at_int HR1.out x7_1 p156 q156
                              have hw156_0 := hx156_0
                              obtain rfl : ad155 = ad156 := (by injection e156)
                              replace hx156_0 := (HB.out.cell (World.block_lt_of_cell? w _ hx156_0)).trans hx156_0
                              replace p156 := eq_true p156
                              replace q156 := eq_true q156
                              obtain ⟨i020, hi020, _, hsz20, _⟩ := info_parts info22
                              obtain ⟨A20, hcut20, hA20, hC20⟩ := print_mid_of (P := Try.prog) (Value.int .u64) 0 23 22 .i64 .i64 Try.underlying23 hi020 hsz20 (some ad155) c1 l1 (ji6) (wrap64 ((ji6) + (wrap64 (Int.tmod (IntKind.u64.wrap (Int.tdiv (rd l1 x7_1) 1048576)) 65536)))) (of_decide_eq_true (by first | (with_reducible assumption) | assumption)) (by first | omega | exact of_decide_eq_true (by first | (with_reducible assumption) | assumption)) (of_decide_eq_true (by first | (with_reducible assumption) | assumption)) HC1.out
                              have HR160 := Aside0.mk (Kd.C_of_reads (h1 := fun _ => rfl) (hA20 _ (Kd.reads_of_C HR1.out)))
                              have HC160 := Aside0.mk hC20
                              clear hA20 hC20 hi020 hsz20
                              refine start_ (n := 19) (S := fun w' => w'.cell? (ad155.add (x7_1).toNat) = some (.int .u64 (rd l1 x7_1))) (ds := []) #[false, false, false, false, false, false, false, false, false, false, false, false, false, false, false, false, false, false, false] (by kernel_rfl) rfl rfl (((HB.out.cell (World.block_lt_of_cell? w _ hw156_0)).trans hw156_0)) (fun hHeld => ?_); refine with_tabW lockfastref13_Decode.tab7 lockfastref13_Decode.bits7 (fun HT_ HW_ => ?_)
                              generalize wr.drew = w19 at HO_6 HB HR160 hx156_0 hHeld ⊢
                              refine pure_ (i := 0) (N := some 30) (v := ?_) (a' := ?_) #[true, false, false, false, false, false, false, false, false, false, false, false, false, false, false, false, false, false, false] rfl rfl (any_of HT_.out (by kernel_rfl)) (fun _ _ _ h => h) (Or.inl ⟨by rfl, ?_⟩) ?_ ?_
                              rotate_left
                              · intro w'
                                go_simp
                                with_reducible rfl
                              rotate_left
                              · simp only [Act.put, List.setIfInBounds_toArray, List.set_cons_zero, List.set_cons_succ, i64_w, i32_w]
                                rfl
                              refine pure_ (i := 1) (N := some 31) (v := ?_) (a' := ?_) #[true, true, false, false, false, false, false, false, false, false, false, false, false, false, false, false, false, false, false] rfl rfl (any_of HT_.out (by kernel_rfl)) (fun _ _ _ h => h) (Or.inl ⟨by rfl, ?_⟩) ?_ ?_
                              rotate_left
                              · intro w'
                                go_simp
                                with_reducible rfl
                              rotate_left
                              · simp only [Act.put, List.setIfInBounds_toArray, List.set_cons_zero, List.set_cons_succ, i64_w, i32_w]
                                rfl
                              refine pure_ (i := 2) (N := some 32) (v := ?_) (a' := ?_) #[true, true, true, false, false, false, false, false, false, false, false, false, false, false, false, false, false, false, false] rfl rfl (any_of HT_.out (by kernel_rfl)) (fun _ _ _ h => h) (Or.inl ⟨by rfl, ?_⟩) ?_ ?_
                              rotate_left
                              · intro w'
                                go_simp
                                with_reducible rfl
                              rotate_left
                              · simp only [Act.put, List.setIfInBounds_toArray, List.set_cons_zero, List.set_cons_succ, i64_w, i32_w]
                                rfl
                              refine pure_ (i := 7) (N := some 37) (v := ?_) (a' := ?_) #[true, true, true, false, false, false, false, true, false, false, false, false, false, false, false, false, false, false, false] rfl rfl (any_of HT_.out (by kernel_rfl)) (fun _ _ _ h => h) (Or.inl ⟨by rfl, ?_⟩) ?_ ?_
                              rotate_left
                              · intro w'
                                go_simp
                                with_reducible rfl
                              rotate_left
                              · simp only [Act.put, List.setIfInBounds_toArray, List.set_cons_zero, List.set_cons_succ, i64_w, i32_w]
                                rfl
                              refine pure_ (i := 8) (N := some 38) (v := ?_) (a' := ?_) #[true, true, true, false, false, false, false, true, true, false, false, false, false, false, false, false, false, false, false] rfl rfl (any_of HT_.out (by kernel_rfl)) (fun _ _ _ h => h) (Or.inl ⟨by rfl, ?_⟩) ?_ ?_
                              rotate_left
                              · intro w'
                                go_simp
                                with_reducible rfl
                              rotate_left
                              · simp only [Act.put, List.setIfInBounds_toArray, List.set_cons_zero, List.set_cons_succ, i64_w, i32_w]
                                rfl
                              refine pure_ (i := 9) (N := some 39) (v := ?_) (a' := ?_) #[true, true, true, false, false, false, false, true, true, true, false, false, false, false, false, false, false, false, false] rfl rfl (any_of HT_.out (by kernel_rfl)) (fun _ _ _ h => h) (Or.inl ⟨by rfl, ?_⟩) ?_ ?_
                              rotate_left
                              · intro w'
                                go_simp
                                with_reducible rfl
                              rotate_left
                              · simp only [Act.put, List.setIfInBounds_toArray, List.set_cons_zero, List.set_cons_succ, i64_w, i32_w]
                                rfl
                              refine pure_ (i := 10) (N := some 40) (v := ?_) (a' := ?_) #[true, true, true, false, false, false, false, true, true, true, true, false, false, false, false, false, false, false, false] rfl rfl (any_of HT_.out (by kernel_rfl)) (fun _ _ _ h => h) (Or.inl ⟨by rfl, ?_⟩) ?_ ?_
                              rotate_left
                              · intro w'
                                go_simp
                                with_reducible rfl
                              rotate_left
                              · simp only [Act.put, List.setIfInBounds_toArray, List.set_cons_zero, List.set_cons_succ, i64_w, i32_w]
                                rfl
                              refine pure_ (i := 11) (N := some 41) (v := ?_) (a' := ?_) #[true, true, true, false, false, false, false, true, true, true, true, true, false, false, false, false, false, false, false] rfl rfl (any_of HT_.out (by kernel_rfl)) (fun _ _ _ h => h) (Or.inl ⟨by rfl, ?_⟩) ?_ ?_
                              rotate_left
                              · intro w'
                                go_simp
                                with_reducible rfl
                              rotate_left
                              · simp only [Act.put, List.setIfInBounds_toArray, List.set_cons_zero, List.set_cons_succ, i64_w, i32_w]
                                rfl
                              refine pure_ (i := 12) (N := some 42) (v := ?_) (a' := ?_) #[true, true, true, false, false, false, false, true, true, true, true, true, true, false, false, false, false, false, false] rfl rfl (any_of HT_.out (by kernel_rfl)) (fun _ _ _ h => h) (Or.inl ⟨by rfl, ?_⟩) ?_ ?_
                              rotate_left
                              · intro w'
                                go_simp
                                with_reducible rfl
                              rotate_left
                              · simp only [Act.put, List.setIfInBounds_toArray, List.set_cons_zero, List.set_cons_succ, i64_w, i32_w]
                                rfl
                              refine pure_ (i := 13) (N := some 43) (v := ?_) (a' := ?_) #[true, true, true, false, false, false, false, true, true, true, true, true, true, true, false, false, false, false, false] rfl rfl (any_of HT_.out (by kernel_rfl)) (fun _ _ _ h => h) (Or.inl ⟨by rfl, ?_⟩) ?_ ?_
                              rotate_left
                              · intro w'
                                go_simp
                                with_reducible rfl
                              rotate_left
                              · simp only [Act.put, List.setIfInBounds_toArray, List.set_cons_zero, List.set_cons_succ, i64_w, i32_w]
                                rfl
                              refine pure_ (i := 14) (N := some 44) (v := ?_) (a' := ?_) #[true, true, true, false, false, false, false, true, true, true, true, true, true, true, true, false, false, false, false] rfl rfl (any_of HT_.out (by kernel_rfl)) (fun _ _ _ h => h) (Or.inl ⟨by rfl, ?_⟩) ?_ ?_
                              rotate_left
                              · intro w'
                                go_simp
                                with_reducible rfl
                              rotate_left
                              · simp only [Act.put, List.setIfInBounds_toArray, List.set_cons_zero, List.set_cons_succ, i64_w, i32_w]
                                rfl
                              refine take_ (i := 3) (N := some 33) (v := ?_) (a' := ?_) #[true, true, true, true, false, false, false, true, true, true, true, true, true, true, true, false, false, false, false] rfl rfl (take_ofW HT_.out HW_.out (by kernel_rfl)) (fun _ _ _ h => h) (Or.inl ⟨by rfl, ?_⟩) hHeld ?_ ?_
                              rotate_left
                              · intro w' s0
                                go_simp
                                with_reducible rfl
                              rotate_left
                              · simp only [Act.put, List.setIfInBounds_toArray, List.set_cons_zero, List.set_cons_succ, i64_w, i32_w]
                                rfl
                              refine pure_ (i := 4) (N := some 34) (v := ?_) (a' := ?_) #[true, true, true, true, true, false, false, true, true, true, true, true, true, true, true, false, false, false, false] rfl rfl (any_of HT_.out (by kernel_rfl)) (fun _ _ _ h => h) (Or.inl ⟨by rfl, ?_⟩) ?_ ?_
                              rotate_left
                              · intro w'
                                go_simp
                                with_reducible rfl
                              rotate_left
                              · simp only [Act.put, List.setIfInBounds_toArray, List.set_cons_zero, List.set_cons_succ, i64_w, i32_w]
                                rfl
                              refine pure_ (i := 5) (N := some 35) (v := ?_) (a' := ?_) #[true, true, true, true, true, true, false, true, true, true, true, true, true, true, true, false, false, false, false] rfl rfl (any_of HT_.out (by kernel_rfl)) (fun _ _ _ h => h) (Or.inl ⟨by rfl, ?_⟩) ?_ ?_
                              rotate_left
                              · intro w'
                                go_simp
                                with_reducible rfl
                              rotate_left
                              · simp only [Act.put, List.setIfInBounds_toArray, List.set_cons_zero, List.set_cons_succ, i64_w, i32_w]
                                rfl
                              refine join_ (σ := Value × Value × Nat) 1 #[true, true, true, true, true, true, true, true, true, true, true, true, true, true, true, true, true, true, false] (fun s_ => [(36, s_.1), (45, s_.2.1), (9, .pointer (some ⟨s_.2.2, 0, none⟩)), (46, .agg #[.int .i64 (wrap64 (Int.tmod (rd l1 x7_1) 1048576)), s_.2.1])]) (fun s_ w' => (w'.cell? (ad155.add (x7_1).toNat) = some (.int .u64 (rd l1 x7_1))) ∧ (Kd.R (Kd.int .u64) 22 w' w.heap.size (fun _ => True) s_.2.1 y161) ∧ (Kd.S k25 25 w' w.heap.size (fun k_ => some k_ ≠ (s_.2.1 : Value).ownBlock ∧ k_ ≠ s_.2.2) u6 x6_1) ∧ (w'.heap[s_.2.2]? = some (.cells #[.int .i64 0, .slice none 0 0] 25 (0, 0))) ∧ (w.heap.size ≤ s_.2.2) ∧ (w.heap.size ≤ s_.2.2) ∧ (Below w.heap.size w w')) ?_ ?_
                              rotate_left
                              · intro hCont
                                refine two_ (i := 6) (j := 17) (Ni := some 36) (Nj := some 9) #[true, true, true, true, true, true, true, true, true, true, true, true, true, true, true, false, false, false, false] #[true, true, true, true, true, true, false, true, true, true, true, true, true, true, true, false, false, true, false] rfl rfl rfl rfl (two_of HT_.out (by kernel_rfl)) (by decide) (by decide) (fun K hK => ?_) (fun K hK => ?_)
                                · skip
                                  refine Kd.R_lit_step (Kd.int .u64) _ 22 ?hg (N := 36) ?hd (xs := ([] : List Int)) (inner := []) (ok := fun _ => True) (okp := fun _ => True) ?hr ?hp (fun _ hk => hk) trivial (Below.refl _ _) (Nat.le_refl _) (by simp) ?_; (case hd => rfl); (case hg => rfl); (case hr => first | (go_simp; done) | (go_simp; rfl)); (case hp => exact (Reps.none _ _))
                                  intro v158 w21 ho22 hb hg_ hnew_
                                  clear hg_ hnew_
                                  (first | rw [← Ny157.out] at ho22 | (simp only [Int.reduceToNat] at ho22; rw [← Ny157.out] at ho22))
                                  have n0_ := Aside0.mk (Kd.S_elder' (by (with_reducible repeat (first | apply Kd.S_alloc | apply Kd.S_drewN | apply Kd.S_drew)); exact HO_6.out) (Kd.R_base ho22) hb)
                                  have n1_ := Aside0.mk (Kd.R_lower ho22 (below_size (by repeat (first | (with_reducible first | exact HB.out | apply below_alloc | apply pw_below_drewN | apply below_drew1) | exact HB.out))))
                                  have n2_ := Aside0.mk (below_step (by repeat (first | (with_reducible first | exact HB.out | apply below_alloc | apply pw_below_drewN | apply below_drew1) | exact HB.out)) hb)
                                  clear HO_6
                                  clear HB
                                  have HO_6 := n0_
                                  have HO159 := n1_
                                  have HB := n2_
                                  clear n0_ n1_ n2_
                                  clear hb ho22
                                  refine hK.out _ _ (((HB.out.cell (World.block_lt_of_cell? w _ hw156_0)).trans hw156_0)) (fun hHeld => ?_)
                                  clear hK K
                                  refine norm_ (a' := ?_) ?_ ?_
                                  rotate_left
                                  · show Act.put _ (some 36) _ = _
                                    simp only [Act.put, List.setIfInBounds_toArray, List.set_cons_zero, List.set_cons_succ, i64_w, i32_w]
                                    rfl
                                  refine two_ (i := 15) (j := 17) (Ni := some 45) (Nj := some 9) #[true, true, true, true, true, true, true, true, true, true, true, true, true, true, true, true, false, false, false] #[true, true, true, true, true, true, true, true, true, true, true, true, true, true, true, false, false, true, false] rfl rfl rfl rfl (two_of HT_.out (by kernel_rfl)) (by decide) (by decide) (fun K hK => ?_) (fun K hK => ?_)
                                  · skip
                                    refine Kd.R_append_rows_step (Kd.int .u64) (w0 := w) w.heap.size (by rfl) (.tmp 36) (.tmp 44) 23 22 (.int .u64 0) 8 rfl Try.underlying23 info22 rfl (by decide) (by omega) v158 y157 ((l1.take ((wrap64 ((ji6) + (wrap64 (Int.tmod (IntKind.u64.wrap (Int.tdiv (rd l1 x7_1) 1048576)) 65536)))) : Int).toNat).drop ((ji6) : Int).toNat) _ _ _ (fun _ => True) (fun _ => False) rfl rfl ?aO ?aR (fun _ _ h => h) (fun _ h => h.elim) ?aF ?aB ?aS ?aL ?_
                                    (case aR => first | (rw [← show ((l1.take ((wrap64 ((ji6) + (wrap64 (Int.tmod (IntKind.u64.wrap (Int.tdiv (rd l1 x7_1) 1048576)) 65536)))) : Int).toNat).drop ((ji6) : Int).toNat).length = ((wrap64 ((ji6) + (wrap64 (Int.tmod (IntKind.u64.wrap (Int.tdiv (rd l1 x7_1) 1048576)) 65536)))).toNat - (ji6).toNat) from (by rw [List.length_drop, List.length_take]; have h_ : ((wrap64 ((ji6) + (wrap64 (Int.tmod (IntKind.u64.wrap (Int.tdiv (rd l1 x7_1) 1048576)) 65536)))) : Int) ≤ (l1.length : Int) := of_decide_eq_true (by first | (with_reducible assumption) | assumption); omega)]; repeat (first | exact (Kd.C_below HR160.out HB.out) | (with_reducible refine Kd.C_alloc ?_ _) | (with_reducible refine Kd.C_drewN ?_ _) | (with_reducible refine Kd.C_drew ?_))) | (repeat (first | exact (Kd.C_below HR160.out HB.out) | (with_reducible refine Kd.C_alloc ?_ _) | (with_reducible refine Kd.C_drewN ?_ _) | (with_reducible refine Kd.C_drew ?_))))
                                    (case aB => exact (by repeat (first | (with_reducible first | exact HB.out | apply below_alloc | apply pw_below_drewN | apply below_drew1) | exact HB.out)))
                                    (case aF => exact (fun _ _ => trivial))
                                    (case aO => exact (by (with_reducible repeat (first | apply Kd.R_alloc | apply Kd.R_drewN | apply Kd.R_drew)); exact HO159.out))
                                    (case aS => exact (below_size (by repeat (first | (with_reducible first | exact HB.out | apply below_alloc | apply pw_below_drewN | apply below_drew1) | exact HB.out))))
                                    (case aL => have := LMc10.out; have hlx_ := (show ((l1.take ((wrap64 ((ji6) + (wrap64 (Int.tmod (IntKind.u64.wrap (Int.tdiv (rd l1 x7_1) 1048576)) 65536)))) : Int).toNat).drop ((ji6) : Int).toNat).length = ((wrap64 ((ji6) + (wrap64 (Int.tmod (IntKind.u64.wrap (Int.tdiv (rd l1 x7_1) 1048576)) 65536)))).toNat - (ji6).toNat) from (by rw [List.length_drop, List.length_take]; have h_ : ((wrap64 ((ji6) + (wrap64 (Int.tmod (IntKind.u64.wrap (Int.tdiv (rd l1 x7_1) 1048576)) 65536)))) : Int) ≤ (l1.length : Int) := of_decide_eq_true (by first | (with_reducible assumption) | assumption); omega)); omega)
                                    intro v162 w23 ho hb hg hat
                                    rw [← Ny161.out] at ho
                                    have n0_ := Aside0.mk (Kd.S_after (ok := (fun _ => True)) (by (with_reducible repeat (first | apply Kd.S_alloc | apply Kd.S_drewN | apply Kd.S_drew)); exact HO_6.out) hg hat)
                                    have n1_ := Aside0.mk (hb)
                                    have n2_ := Aside0.mk (ho)
                                    clear HO_6
                                    clear HB
                                    clear HO159
                                    have HO_6 := n0_
                                    have HB := n1_
                                    have HO163 := n2_
                                    clear n0_ n1_ n2_
                                    clear ho hb hg hat
                                    obtain ⟨Ao24, co24, eo24⟩ := Kd.R_slice HO163.out
                                    (first | subst eo24 | (injection eo24 with f1_ f2_ f3_; have f4_ := f1_.symm; have f5_ := f3_.symm; clear f1_ f2_ f3_; subst f4_; subst f5_))
                                    refine hK.out _ _ (((HB.out.cell (World.block_lt_of_cell? w _ hw156_0)).trans hw156_0)) (fun hHeld => ?_)
                                    clear hK K
                                    refine norm_ (a' := ?_) ?_ ?_
                                    rotate_left
                                    · show Act.put _ (some 45) _ = _
                                      simp only [Act.put, List.setIfInBounds_toArray, List.set_cons_zero, List.set_cons_succ, i64_w, i32_w]
                                      rfl
                                    refine pure_ (i := 16) (N := some 46) (v := ?_) (a' := ?_) #[true, true, true, true, true, true, true, true, true, true, true, true, true, true, true, true, true, false, false] rfl rfl (any_of HT_.out (by kernel_rfl)) (fun _ _ _ h => h) (Or.inl ⟨by rfl, ?_⟩) ?_ ?_
                                    rotate_left
                                    · intro w'
                                      go_simp
                                      with_reducible rfl
                                    rotate_left
                                    · simp only [Act.put, List.setIfInBounds_toArray, List.set_cons_zero, List.set_cons_succ, i64_w, i32_w]
                                      rfl
                                    refine one_ (i := 17) (N := some 9) #[true, true, true, true, true, true, true, true, true, true, true, true, true, true, true, true, true, true, false] rfl rfl (one_of HT_.out (by kernel_rfl)) (by decide) (fun K hK => ?_)
                                    refine box_step ?hg (N := 9) ?hd (cs := #[.int .i64 0, .slice none 0 0]) (t := 25) ?hr ?_; (case hd => rfl); (case hg => rfl); (case hr => first | (go_simp; done) | (go_simp; rfl))
                                    intro gb164 hg w25 hbox hb
                                    have n0_ := Aside0.mk (Kd.S_below (Kd.S_elderB (by (with_reducible repeat (first | apply Kd.S_alloc | apply Kd.S_drewN | apply Kd.S_drew)); exact HO_6.out) gb164 (Nat.le_of_eq hg.symm)) hb)
                                    have n1_ := Aside0.mk (Kd.R_below (by (with_reducible repeat (first | apply Kd.R_alloc | apply Kd.R_drewN | apply Kd.R_drew)); exact HO163.out) hb)
                                    have n2_ := Aside0.mk (below_step (by repeat (first | (with_reducible first | exact HB.out | apply below_alloc | apply pw_below_drewN | apply below_drew1) | exact HB.out)) hb)
                                    have n3_ := Aside0.mk (hbox)
                                    have n4_ := Aside0.mk ((by rw [hg]; exact (below_size (by repeat (first | (with_reducible first | exact HB.out | apply below_alloc | apply pw_below_drewN | apply below_drew1) | exact HB.out))) : w.heap.size ≤ gb164))
                                    have n5_ := Aside0.mk ((by rw [hg]; exact (below_size (by repeat (first | (with_reducible first | exact HB.out | apply below_alloc | apply pw_below_drewN | apply below_drew1) | exact HB.out))) : w.heap.size ≤ gb164))
                                    clear HO_6
                                    clear HO163
                                    clear HB
                                    have HO_6 := n0_
                                    have HO163 := n1_
                                    have HB := n2_
                                    have BK164 := n3_
                                    have GW164 := n4_
                                    have GE164 := n5_
                                    clear n0_ n1_ n2_ n3_ n4_ n5_
                                    clear hb hbox hg
                                    refine hK.out _ _ (((HB.out.cell (World.block_lt_of_cell? w _ hw156_0)).trans hw156_0)) (fun hHeld => ?_)
                                    clear hK K
                                    refine norm_ (a' := ?_) ?_ ?_
                                    rotate_left
                                    · show Act.put _ (some 9) _ = _
                                      simp only [Act.put, List.setIfInBounds_toArray, List.set_cons_zero, List.set_cons_succ, i64_w, i32_w]
                                      rfl
                                    exact norm_ (by simp only [putAll, Act.put, List.setIfInBounds_toArray, List.set_cons_zero, List.set_cons_succ]) (hCont (v158, .slice Ao24 y161.length co24, gb164) _ ⟨hHeld, (by (with_reducible repeat (first | apply Kd.R_alloc | apply Kd.R_drewN | apply Kd.R_drew)); exact HO163.out), (by (with_reducible repeat (first | apply Kd.S_alloc | apply Kd.S_drewN | apply Kd.S_drew)); exact Kd.S_mono HO_6.out (fun _ hk => ⟨hk.1.2, hk.2⟩)), (by (with_reducible repeat (first | refine blk_drewN ?_ _ | refine blk_drew ?_ | refine blk_alloc ?_ _)); exact BK164.out), GW164.out, GE164.out, (by repeat (first | (with_reducible first | exact HB.out | apply below_alloc | apply pw_below_drewN | apply below_drew1 | refine below_set ?_ GE164.out) | exact HB.out))⟩)
                                  · skip
                                    refine box_step ?hg (N := 9) ?hd (cs := #[.int .i64 0, .slice none 0 0]) (t := 25) ?hr ?_; (case hd => rfl); (case hg => rfl); (case hr => first | (go_simp; done) | (go_simp; rfl))
                                    intro gb164 hg w23 hbox hb
                                    have n0_ := Aside0.mk (Kd.S_below (Kd.S_elderB (by (with_reducible repeat (first | apply Kd.S_alloc | apply Kd.S_drewN | apply Kd.S_drew)); exact HO_6.out) gb164 (Nat.le_of_eq hg.symm)) hb)
                                    have n1_ := Aside0.mk (Kd.R_below (by (with_reducible repeat (first | apply Kd.R_alloc | apply Kd.R_drewN | apply Kd.R_drew)); exact HO159.out) hb)
                                    have n2_ := Aside0.mk (below_step (by repeat (first | (with_reducible first | exact HB.out | apply below_alloc | apply pw_below_drewN | apply below_drew1) | exact HB.out)) hb)
                                    have n3_ := Aside0.mk (hbox)
                                    have n4_ := Aside0.mk ((by rw [hg]; exact (below_size (by repeat (first | (with_reducible first | exact HB.out | apply below_alloc | apply pw_below_drewN | apply below_drew1) | exact HB.out))) : w.heap.size ≤ gb164))
                                    have n5_ := Aside0.mk ((by rw [hg]; exact (below_size (by repeat (first | (with_reducible first | exact HB.out | apply below_alloc | apply pw_below_drewN | apply below_drew1) | exact HB.out))) : w.heap.size ≤ gb164))
                                    clear HO_6
                                    clear HO159
                                    clear HB
                                    have HO_6 := n0_
                                    have HO159 := n1_
                                    have HB := n2_
                                    have BK164 := n3_
                                    have GW164 := n4_
                                    have GE164 := n5_
                                    clear n0_ n1_ n2_ n3_ n4_ n5_
                                    clear hb hbox hg
                                    refine hK.out _ _ (((HB.out.cell (World.block_lt_of_cell? w _ hw156_0)).trans hw156_0)) (fun hHeld => ?_)
                                    clear hK K
                                    refine norm_ (a' := ?_) ?_ ?_
                                    rotate_left
                                    · show Act.put _ (some 9) _ = _
                                      simp only [Act.put, List.setIfInBounds_toArray, List.set_cons_zero, List.set_cons_succ, i64_w, i32_w]
                                      rfl
                                    refine one_ (i := 15) (N := some 45) #[true, true, true, true, true, true, true, true, true, true, true, true, true, true, true, true, false, true, false] rfl rfl (one_of HT_.out (by kernel_rfl)) (by decide) (fun K hK => ?_)
                                    refine Kd.R_append_rows_step (Kd.int .u64) (w0 := w) w.heap.size (by rfl) (.tmp 36) (.tmp 44) 23 22 (.int .u64 0) 8 rfl Try.underlying23 info22 rfl (by decide) (by omega) v158 y157 ((l1.take ((wrap64 ((ji6) + (wrap64 (Int.tmod (IntKind.u64.wrap (Int.tdiv (rd l1 x7_1) 1048576)) 65536)))) : Int).toNat).drop ((ji6) : Int).toNat) _ _ _ (fun _ => True) (fun _ => False) rfl rfl ?aO ?aR (fun _ _ h => h) (fun _ h => h.elim) ?aF ?aB ?aS ?aL ?_
                                    (case aR => first | (rw [← show ((l1.take ((wrap64 ((ji6) + (wrap64 (Int.tmod (IntKind.u64.wrap (Int.tdiv (rd l1 x7_1) 1048576)) 65536)))) : Int).toNat).drop ((ji6) : Int).toNat).length = ((wrap64 ((ji6) + (wrap64 (Int.tmod (IntKind.u64.wrap (Int.tdiv (rd l1 x7_1) 1048576)) 65536)))).toNat - (ji6).toNat) from (by rw [List.length_drop, List.length_take]; have h_ : ((wrap64 ((ji6) + (wrap64 (Int.tmod (IntKind.u64.wrap (Int.tdiv (rd l1 x7_1) 1048576)) 65536)))) : Int) ≤ (l1.length : Int) := of_decide_eq_true (by first | (with_reducible assumption) | assumption); omega)]; repeat (first | exact (Kd.C_below HR160.out HB.out) | (with_reducible refine Kd.C_alloc ?_ _) | (with_reducible refine Kd.C_drewN ?_ _) | (with_reducible refine Kd.C_drew ?_))) | (repeat (first | exact (Kd.C_below HR160.out HB.out) | (with_reducible refine Kd.C_alloc ?_ _) | (with_reducible refine Kd.C_drewN ?_ _) | (with_reducible refine Kd.C_drew ?_))))
                                    (case aB => exact (by repeat (first | (with_reducible first | exact HB.out | apply below_alloc | apply pw_below_drewN | apply below_drew1 | refine below_set ?_ GE164.out) | exact HB.out)))
                                    (case aF => exact (fun _ _ => trivial))
                                    (case aO => exact (by (with_reducible repeat (first | apply Kd.R_alloc | apply Kd.R_drewN | apply Kd.R_drew)); exact HO159.out))
                                    (case aS => exact (below_size (by repeat (first | (with_reducible first | exact HB.out | apply below_alloc | apply pw_below_drewN | apply below_drew1 | refine below_set ?_ GE164.out) | exact HB.out))))
                                    (case aL => have := LMc10.out; have hlx_ := (show ((l1.take ((wrap64 ((ji6) + (wrap64 (Int.tmod (IntKind.u64.wrap (Int.tdiv (rd l1 x7_1) 1048576)) 65536)))) : Int).toNat).drop ((ji6) : Int).toNat).length = ((wrap64 ((ji6) + (wrap64 (Int.tmod (IntKind.u64.wrap (Int.tdiv (rd l1 x7_1) 1048576)) 65536)))).toNat - (ji6).toNat) from (by rw [List.length_drop, List.length_take]; have h_ : ((wrap64 ((ji6) + (wrap64 (Int.tmod (IntKind.u64.wrap (Int.tdiv (rd l1 x7_1) 1048576)) 65536)))) : Int) ≤ (l1.length : Int) := of_decide_eq_true (by first | (with_reducible assumption) | assumption); omega)); omega)
                                    intro v162 w24 ho hb hg hat
                                    rw [← Ny161.out] at ho
                                    have n0_ := Aside0.mk (Kd.S_after (ok := (fun k_ => k_ ≠ gb164)) (by (with_reducible repeat (first | apply Kd.S_alloc | apply Kd.S_drewN | apply Kd.S_drew)); exact Kd.S_mono HO_6.out (fun _ hk => ⟨hk.2, hk.1.2⟩)) hg hat)
                                    have n1_ := Aside0.mk (blk_grown (g := gb164) (o := .cells #[.int .i64 0, .slice none 0 0] 25 (0, 0)) (by (with_reducible repeat (first | refine blk_drewN ?_ _ | refine blk_drew ?_ | refine blk_alloc ?_ _)); exact BK164.out) hg (Kd.R_ne HO159.out BK164.out (by decide)))
                                    have n2_ := Aside0.mk (hb)
                                    have n3_ := Aside0.mk (ho)
                                    clear HO_6
                                    clear BK164
                                    clear HB
                                    clear HO159
                                    have HO_6 := n0_
                                    have BK164 := n1_
                                    have HB := n2_
                                    have HO163 := n3_
                                    clear n0_ n1_ n2_ n3_
                                    clear ho hb hg hat
                                    obtain ⟨Ao25, co25, eo25⟩ := Kd.R_slice HO163.out
                                    (first | subst eo25 | (injection eo25 with f1_ f2_ f3_; have f4_ := f1_.symm; have f5_ := f3_.symm; clear f1_ f2_ f3_; subst f4_; subst f5_))
                                    refine hK.out _ _ (((HB.out.cell (World.block_lt_of_cell? w _ hw156_0)).trans hw156_0)) (fun hHeld => ?_)
                                    clear hK K
                                    refine norm_ (a' := ?_) ?_ ?_
                                    rotate_left
                                    · show Act.put _ (some 45) _ = _
                                      simp only [Act.put, List.setIfInBounds_toArray, List.set_cons_zero, List.set_cons_succ, i64_w, i32_w]
                                      rfl
                                    refine pure_ (i := 16) (N := some 46) (v := ?_) (a' := ?_) #[true, true, true, true, true, true, true, true, true, true, true, true, true, true, true, true, true, true, false] rfl rfl (any_of HT_.out (by kernel_rfl)) (fun _ _ _ h => h) (Or.inl ⟨by rfl, ?_⟩) ?_ ?_
                                    rotate_left
                                    · intro w'
                                      go_simp
                                      with_reducible rfl
                                    rotate_left
                                    · simp only [Act.put, List.setIfInBounds_toArray, List.set_cons_zero, List.set_cons_succ, i64_w, i32_w]
                                      rfl
                                    exact norm_ (by simp only [putAll, Act.put, List.setIfInBounds_toArray, List.set_cons_zero, List.set_cons_succ]) (hCont (v158, .slice Ao25 y161.length co25, gb164) _ ⟨hHeld, (by (with_reducible repeat (first | apply Kd.R_alloc | apply Kd.R_drewN | apply Kd.R_drew)); exact HO163.out), (by (with_reducible repeat (first | apply Kd.S_alloc | apply Kd.S_drewN | apply Kd.S_drew)); exact Kd.S_mono HO_6.out (fun _ hk => ⟨hk.2, hk.1⟩)), (by (with_reducible repeat (first | refine blk_drewN ?_ _ | refine blk_drew ?_ | refine blk_alloc ?_ _)); exact BK164.out), GW164.out, GE164.out, (by repeat (first | (with_reducible first | exact HB.out | apply below_alloc | apply pw_below_drewN | apply below_drew1 | refine below_set ?_ GE164.out) | exact HB.out))⟩)
                                · skip
                                  refine box_step ?hg (N := 9) ?hd (cs := #[.int .i64 0, .slice none 0 0]) (t := 25) ?hr ?_; (case hd => rfl); (case hg => rfl); (case hr => first | (go_simp; done) | (go_simp; rfl))
                                  intro gb164 hg w21 hbox hb
                                  have n0_ := Aside0.mk (Kd.S_below (Kd.S_elderB (by (with_reducible repeat (first | apply Kd.S_alloc | apply Kd.S_drewN | apply Kd.S_drew)); exact HO_6.out) gb164 (Nat.le_of_eq hg.symm)) hb)
                                  have n1_ := Aside0.mk (below_step (by repeat (first | (with_reducible first | exact HB.out | apply below_alloc | apply pw_below_drewN | apply below_drew1) | exact HB.out)) hb)
                                  have n2_ := Aside0.mk (hbox)
                                  have n3_ := Aside0.mk ((by rw [hg]; exact (below_size (by repeat (first | (with_reducible first | exact HB.out | apply below_alloc | apply pw_below_drewN | apply below_drew1) | exact HB.out))) : w.heap.size ≤ gb164))
                                  have n4_ := Aside0.mk ((by rw [hg]; exact (below_size (by repeat (first | (with_reducible first | exact HB.out | apply below_alloc | apply pw_below_drewN | apply below_drew1) | exact HB.out))) : w.heap.size ≤ gb164))
                                  clear HO_6
                                  clear HB
                                  have HO_6 := n0_
                                  have HB := n1_
                                  have BK164 := n2_
                                  have GW164 := n3_
                                  have GE164 := n4_
                                  clear n0_ n1_ n2_ n3_ n4_
                                  clear hb hbox hg
                                  refine hK.out _ _ (((HB.out.cell (World.block_lt_of_cell? w _ hw156_0)).trans hw156_0)) (fun hHeld => ?_)
                                  clear hK K
                                  refine norm_ (a' := ?_) ?_ ?_
                                  rotate_left
                                  · show Act.put _ (some 9) _ = _
                                    simp only [Act.put, List.setIfInBounds_toArray, List.set_cons_zero, List.set_cons_succ, i64_w, i32_w]
                                    rfl
                                  refine one_ (i := 6) (N := some 36) #[true, true, true, true, true, true, true, true, true, true, true, true, true, true, true, false, false, true, false] rfl rfl (one_of HT_.out (by kernel_rfl)) (by decide) (fun K hK => ?_)
                                  refine Kd.R_lit_step (Kd.int .u64) _ 22 ?hg (N := 36) ?hd (xs := ([] : List Int)) (inner := []) (ok := fun _ => True) (okp := fun _ => True) ?hr ?hp (fun _ hk => hk) trivial (Below.refl _ _) (Nat.le_refl _) (by simp) ?_; (case hd => rfl); (case hg => rfl); (case hr => first | (go_simp; done) | (go_simp; rfl)); (case hp => exact (Reps.none _ _))
                                  intro v158 w22 ho23 hb hg_ hnew_
                                  clear hg_ hnew_
                                  (first | rw [← Ny157.out] at ho23 | (simp only [Int.reduceToNat] at ho23; rw [← Ny157.out] at ho23))
                                  have n0_ := Aside0.mk (Kd.S_elder' (by (with_reducible repeat (first | apply Kd.S_alloc | apply Kd.S_drewN | apply Kd.S_drew)); exact HO_6.out) (Kd.R_base ho23) hb)
                                  have n1_ := Aside0.mk (Kd.R_lower ho23 (below_size (by repeat (first | (with_reducible first | exact HB.out | apply below_alloc | apply pw_below_drewN | apply below_drew1 | refine below_set ?_ GE164.out) | exact HB.out))))
                                  have n2_ := Aside0.mk (blk_below (g := gb164) (o := .cells #[.int .i64 0, .slice none 0 0] 25 (0, 0)) (by (with_reducible repeat (first | refine blk_drewN ?_ _ | refine blk_drew ?_ | refine blk_alloc ?_ _)); exact BK164.out) hb)
                                  have n3_ := Aside0.mk (below_step (by repeat (first | (with_reducible first | exact HB.out | apply below_alloc | apply pw_below_drewN | apply below_drew1 | refine below_set ?_ GE164.out) | exact HB.out)) hb)
                                  clear HO_6
                                  clear BK164
                                  clear HB
                                  have HO_6 := n0_
                                  have HO159 := n1_
                                  have BK164 := n2_
                                  have HB := n3_
                                  clear n0_ n1_ n2_ n3_
                                  clear hb ho23
                                  refine hK.out _ _ (((HB.out.cell (World.block_lt_of_cell? w _ hw156_0)).trans hw156_0)) (fun hHeld => ?_)
                                  clear hK K
                                  refine norm_ (a' := ?_) ?_ ?_
                                  rotate_left
                                  · show Act.put _ (some 36) _ = _
                                    simp only [Act.put, List.setIfInBounds_toArray, List.set_cons_zero, List.set_cons_succ, i64_w, i32_w]
                                    rfl
                                  refine one_ (i := 15) (N := some 45) #[true, true, true, true, true, true, true, true, true, true, true, true, true, true, true, true, false, true, false] rfl rfl (one_of HT_.out (by kernel_rfl)) (by decide) (fun K hK => ?_)
                                  refine Kd.R_append_rows_step (Kd.int .u64) (w0 := w) w.heap.size (by rfl) (.tmp 36) (.tmp 44) 23 22 (.int .u64 0) 8 rfl Try.underlying23 info22 rfl (by decide) (by omega) v158 y157 ((l1.take ((wrap64 ((ji6) + (wrap64 (Int.tmod (IntKind.u64.wrap (Int.tdiv (rd l1 x7_1) 1048576)) 65536)))) : Int).toNat).drop ((ji6) : Int).toNat) _ _ _ (fun _ => True) (fun _ => False) rfl rfl ?aO ?aR (fun _ _ h => h) (fun _ h => h.elim) ?aF ?aB ?aS ?aL ?_
                                  (case aR => first | (rw [← show ((l1.take ((wrap64 ((ji6) + (wrap64 (Int.tmod (IntKind.u64.wrap (Int.tdiv (rd l1 x7_1) 1048576)) 65536)))) : Int).toNat).drop ((ji6) : Int).toNat).length = ((wrap64 ((ji6) + (wrap64 (Int.tmod (IntKind.u64.wrap (Int.tdiv (rd l1 x7_1) 1048576)) 65536)))).toNat - (ji6).toNat) from (by rw [List.length_drop, List.length_take]; have h_ : ((wrap64 ((ji6) + (wrap64 (Int.tmod (IntKind.u64.wrap (Int.tdiv (rd l1 x7_1) 1048576)) 65536)))) : Int) ≤ (l1.length : Int) := of_decide_eq_true (by first | (with_reducible assumption) | assumption); omega)]; repeat (first | exact (Kd.C_below HR160.out HB.out) | (with_reducible refine Kd.C_alloc ?_ _) | (with_reducible refine Kd.C_drewN ?_ _) | (with_reducible refine Kd.C_drew ?_))) | (repeat (first | exact (Kd.C_below HR160.out HB.out) | (with_reducible refine Kd.C_alloc ?_ _) | (with_reducible refine Kd.C_drewN ?_ _) | (with_reducible refine Kd.C_drew ?_))))
                                  (case aB => exact (by repeat (first | (with_reducible first | exact HB.out | apply below_alloc | apply pw_below_drewN | apply below_drew1 | refine below_set ?_ GE164.out) | exact HB.out)))
                                  (case aF => exact (fun _ _ => trivial))
                                  (case aO => exact (by (with_reducible repeat (first | apply Kd.R_alloc | apply Kd.R_drewN | apply Kd.R_drew)); exact HO159.out))
                                  (case aS => exact (below_size (by repeat (first | (with_reducible first | exact HB.out | apply below_alloc | apply pw_below_drewN | apply below_drew1 | refine below_set ?_ GE164.out) | exact HB.out))))
                                  (case aL => have := LMc10.out; have hlx_ := (show ((l1.take ((wrap64 ((ji6) + (wrap64 (Int.tmod (IntKind.u64.wrap (Int.tdiv (rd l1 x7_1) 1048576)) 65536)))) : Int).toNat).drop ((ji6) : Int).toNat).length = ((wrap64 ((ji6) + (wrap64 (Int.tmod (IntKind.u64.wrap (Int.tdiv (rd l1 x7_1) 1048576)) 65536)))).toNat - (ji6).toNat) from (by rw [List.length_drop, List.length_take]; have h_ : ((wrap64 ((ji6) + (wrap64 (Int.tmod (IntKind.u64.wrap (Int.tdiv (rd l1 x7_1) 1048576)) 65536)))) : Int) ≤ (l1.length : Int) := of_decide_eq_true (by first | (with_reducible assumption) | assumption); omega)); omega)
                                  intro v162 w24 ho hb hg hat
                                  rw [← Ny161.out] at ho
                                  have n0_ := Aside0.mk (Kd.S_after (ok := (fun k_ => k_ ≠ gb164)) (by (with_reducible repeat (first | apply Kd.S_alloc | apply Kd.S_drewN | apply Kd.S_drew)); exact Kd.S_mono HO_6.out (fun _ hk => ⟨hk.1.2, hk.2⟩)) hg hat)
                                  have n1_ := Aside0.mk (blk_grown (g := gb164) (o := .cells #[.int .i64 0, .slice none 0 0] 25 (0, 0)) (by (with_reducible repeat (first | refine blk_drewN ?_ _ | refine blk_drew ?_ | refine blk_alloc ?_ _)); exact BK164.out) hg (Kd.R_ne HO159.out BK164.out (by decide)))
                                  have n2_ := Aside0.mk (hb)
                                  have n3_ := Aside0.mk (ho)
                                  clear HO_6
                                  clear BK164
                                  clear HB
                                  clear HO159
                                  have HO_6 := n0_
                                  have BK164 := n1_
                                  have HB := n2_
                                  have HO163 := n3_
                                  clear n0_ n1_ n2_ n3_
                                  clear ho hb hg hat
                                  obtain ⟨Ao25, co25, eo25⟩ := Kd.R_slice HO163.out
                                  (first | subst eo25 | (injection eo25 with f1_ f2_ f3_; have f4_ := f1_.symm; have f5_ := f3_.symm; clear f1_ f2_ f3_; subst f4_; subst f5_))
                                  refine hK.out _ _ (((HB.out.cell (World.block_lt_of_cell? w _ hw156_0)).trans hw156_0)) (fun hHeld => ?_)
                                  clear hK K
                                  refine norm_ (a' := ?_) ?_ ?_
                                  rotate_left
                                  · show Act.put _ (some 45) _ = _
                                    simp only [Act.put, List.setIfInBounds_toArray, List.set_cons_zero, List.set_cons_succ, i64_w, i32_w]
                                    rfl
                                  refine pure_ (i := 16) (N := some 46) (v := ?_) (a' := ?_) #[true, true, true, true, true, true, true, true, true, true, true, true, true, true, true, true, true, true, false] rfl rfl (any_of HT_.out (by kernel_rfl)) (fun _ _ _ h => h) (Or.inl ⟨by rfl, ?_⟩) ?_ ?_
                                  rotate_left
                                  · intro w'
                                    go_simp
                                    with_reducible rfl
                                  rotate_left
                                  · simp only [Act.put, List.setIfInBounds_toArray, List.set_cons_zero, List.set_cons_succ, i64_w, i32_w]
                                    rfl
                                  exact norm_ (by simp only [putAll, Act.put, List.setIfInBounds_toArray, List.set_cons_zero, List.set_cons_succ]) (hCont (v158, .slice Ao25 y161.length co25, gb164) _ ⟨hHeld, (by (with_reducible repeat (first | apply Kd.R_alloc | apply Kd.R_drewN | apply Kd.R_drew)); exact HO163.out), (by (with_reducible repeat (first | apply Kd.S_alloc | apply Kd.S_drewN | apply Kd.S_drew)); exact Kd.S_mono HO_6.out (fun _ hk => ⟨hk.2, hk.1⟩)), (by (with_reducible repeat (first | refine blk_drewN ?_ _ | refine blk_drew ?_ | refine blk_alloc ?_ _)); exact BK164.out), GW164.out, GE164.out, (by repeat (first | (with_reducible first | exact HB.out | apply below_alloc | apply pw_below_drewN | apply below_drew1 | refine below_set ?_ GE164.out) | exact HB.out))⟩)
                              rintro ⟨v158, v162, gb164⟩ w26 ⟨hS_, h0_, h1_, h2_, h3_, h4_, h5_⟩
                              have n0_ : Aside0 (Kd.R (Kd.int .u64) 22 w26 w.heap.size (fun _ => True) v162 y161) := ⟨h0_⟩
                              have n1_ : Aside0 (Kd.S k25 25 w26 w.heap.size (fun k_ => some k_ ≠ (v162 : Value).ownBlock ∧ k_ ≠ gb164) u6 x6_1) := ⟨h1_⟩
                              have n2_ : Aside0 (w26.heap[gb164]? = some (.cells #[.int .i64 0, .slice none 0 0] 25 (0, 0))) := ⟨h2_⟩
                              have n3_ : Aside0 (w.heap.size ≤ gb164) := ⟨h3_⟩
                              have n4_ : Aside0 (w.heap.size ≤ gb164) := ⟨h4_⟩
                              have n5_ : Aside0 (Below w.heap.size w w26) := ⟨h5_⟩
                              clear HO_6
                              clear HB
                              clear h0_ h1_ h2_ h3_ h4_ h5_
                              have HO163 := n0_
                              have HO_6 := n1_
                              have BK164 := n2_
                              have GW164 := n3_
                              have GE164 := n4_
                              have HB := n5_
                              clear n0_ n1_ n2_ n3_ n4_ n5_
                              have hHeld : w26.cell? (ad155.add (x7_1).toNat) = some (.int .u64 (rd l1 x7_1)) := hS_
                              obtain ⟨Ao27, co27, eo27⟩ := Kd.R_slice HO163.out
                              (first | subst eo27 | (injection eo27 with f1_ f2_ f3_; have f4_ := f1_.symm; have f5_ := f3_.symm; clear f1_ f2_ f3_; subst f4_; subst f5_))
                              refine norm_ (a' := ?_) ?_ ?_
                              rotate_left
                              · simp only [putAll, Act.put, List.setIfInBounds_toArray, List.set_cons_zero, List.set_cons_succ]
                                rfl
                              refine one_ (i := 18) (N := none) #[true, true, true, true, true, true, true, true, true, true, true, true, true, true, true, true, true, true, true] rfl rfl (one_of HT_.out (by kernel_rfl)) (by decide) (fun K hK => ?_)
                              have hs28 : w26.cell? ⟨gb164, 0, none⟩ = some (.int .i64 0) := (blk_cell BK164.out 0).trans rfl
                              have hfs28 := blk_frozen BK164.out 0
                              have hs29 : w26.cell? ⟨gb164, 1, none⟩ = some (.slice none 0 0) := (blk_cell BK164.out 1).trans rfl
                              have hfs29 := blk_frozen BK164.out 1
                              refine skip_ (w1 := ?_) (by rfl) rfl ?_ ?_
                              rotate_left
                              · go_simp
                                rfl
                              refine hK.out _ _ (((cell_far (p := ⟨gb164, _, none⟩) (by first | exact Nat.ne_of_lt (Nat.lt_of_lt_of_le (by have := World.block_lt_of_cell? _ _ hw156_0; first | rwa [add_block] at this | exact this) GW164.out) | (rw [add_block]; exact Nat.ne_of_lt (Nat.lt_of_lt_of_le (by have := World.block_lt_of_cell? _ _ hw156_0; first | rwa [add_block] at this | exact this) GW164.out)) | (show (Addr.add _ _).block ≠ _; rw [add_block]; exact Nat.ne_of_lt (Nat.lt_of_lt_of_le (by have := World.block_lt_of_cell? _ _ hw156_0; first | rwa [add_block] at this | exact this) GW164.out)) | (dsimp only; exact Nat.ne_of_lt (Nat.lt_of_lt_of_le (by have := World.block_lt_of_cell? _ _ hw156_0; first | rwa [add_block] at this | exact this) GW164.out))) _).trans (((cell_far (p := ⟨gb164, _, none⟩) (by first | exact Nat.ne_of_lt (Nat.lt_of_lt_of_le (by have := World.block_lt_of_cell? _ _ hw156_0; first | rwa [add_block] at this | exact this) GW164.out) | (rw [add_block]; exact Nat.ne_of_lt (Nat.lt_of_lt_of_le (by have := World.block_lt_of_cell? _ _ hw156_0; first | rwa [add_block] at this | exact this) GW164.out)) | (show (Addr.add _ _).block ≠ _; rw [add_block]; exact Nat.ne_of_lt (Nat.lt_of_lt_of_le (by have := World.block_lt_of_cell? _ _ hw156_0; first | rwa [add_block] at this | exact this) GW164.out)) | (dsimp only; exact Nat.ne_of_lt (Nat.lt_of_lt_of_le (by have := World.block_lt_of_cell? _ _ hw156_0; first | rwa [add_block] at this | exact this) GW164.out))) _).trans (hHeld))))) (fun hHeld => ?_)
                              clear hK K
                              refine done_ (done_of HT_.out (by kernel_rfl)) ?_
                              have hcz30_0 : w26.cell? ⟨gb164, 0, none⟩ = some (.int .i64 0) := (blk_cell BK164.out 0).trans rfl
                              have hcz30_1 : w26.cell? ⟨gb164, 1, none⟩ = some (.slice none 0 0) := (blk_cell BK164.out 1).trans rfl
                              have hfz30_0 := blk_frozen BK164.out 0
                              have hfz30_1 := blk_frozen BK164.out 1
                              try go_wp2_with (first | ((with_reducible refine gate_callee (f := 12) rfl ?_); refine goesL_ (some 50) rfl rfl Try.func12 (by kernel_rfl) rfl #[.int .u64 a0, .agg #[.int .i64 (wrap64 (Int.tmod (rd l1 x7_1) 1048576)), .slice Ao27 y161.length co27]] rfl (by (try simp only [List.map_toArray, List.map_cons, List.map_nil]); first | done | rfl | (simp only [List.length_drop, List.length_take]; rfl)) ?_; (with_reducible refine (lockfastref13_Encode.calls k1 a0 (wrap64 (Int.tmod (rd l1 x7_1) 1048576)) _ _ y161 t165 t168 _ ?side1 ?side2 A11.out).mono ?_); (case side1 => refine (Kd.R_reads' (e := 22) (base := w.heap.size) (ok := fun k_ => True) (n := y161.length) (c := co27) ?_).2.2; exact (by (with_reducible repeat (first | apply Kd.R_alloc | apply Kd.R_drewN | apply Kd.R_drew)); exact (Kd.R_mono (Kd.R_far (p := ⟨gb164, 1, none⟩) (Kd.R_far (p := ⟨gb164, 0, none⟩) (Kd.R_types HO163.out BK164.out (by decide)) (fun _ hk => hk.2) (.int .i64 (wrap64 (Int.tmod (rd l1 x7_1) 1048576)))) (fun _ hk => hk.2) (.slice Ao27 y161.length co27)) (fun _ h_ => h_.1)))); (case side2 => exact (Kd.R_reads' HO163.out).2.1); rintro e w31 ⟨v166, rfl, ho0, hb⟩; refine ⟨_, rfl, ?_⟩; have n0_ := Aside0.mk (Kd.S_elder' (by (with_reducible repeat (first | apply Kd.S_alloc | apply Kd.S_drewN | apply Kd.S_drew)); exact (Kd.S_mono (Kd.S_far (p := ⟨gb164, 1, none⟩) (Kd.S_far (p := ⟨gb164, 0, none⟩) (Kd.S_mono HO_6.out (fun k_ hk => (⟨hk, hk.2⟩ : _ ∧ k_ ≠ gb164))) (fun _ hk => hk.2) (.int .i64 (wrap64 (Int.tmod (rd l1 x7_1) 1048576)))) (fun _ hk => hk.2) (.slice Ao27 y161.length co27)) (fun _ h_ => h_.1))) (Kd.R_base ho0) hb); have n1_ := Aside0.mk (Kd.R_elder' (by (with_reducible repeat (first | apply Kd.R_alloc | apply Kd.R_drewN | apply Kd.R_drew)); exact (Kd.R_mono (Kd.R_far (p := ⟨gb164, 1, none⟩) (Kd.R_far (p := ⟨gb164, 0, none⟩) (Kd.R_types HO163.out BK164.out (by decide)) (fun _ hk => hk.2) (.int .i64 (wrap64 (Int.tmod (rd l1 x7_1) 1048576)))) (fun _ hk => hk.2) (.slice Ao27 y161.length co27)) (fun _ h_ => h_.1))) (Kd.R_base ho0) hb); have n2_ := Aside0.mk (Kd.R_lower (Kd.R_new' ho0 (Kd.R_lt (by (with_reducible repeat (first | apply Kd.R_alloc | apply Kd.R_drewN | apply Kd.R_drew)); exact (Kd.R_mono (Kd.R_far (p := ⟨gb164, 1, none⟩) (Kd.R_far (p := ⟨gb164, 0, none⟩) (Kd.R_types HO163.out BK164.out (by decide)) (fun _ hk => hk.2) (.int .i64 (wrap64 (Int.tmod (rd l1 x7_1) 1048576)))) (fun _ hk => hk.2) (.slice Ao27 y161.length co27)) (fun _ h_ => h_.1))))) (below_size (by repeat (first | (with_reducible first | exact HB.out | apply below_alloc | apply pw_below_drewN | apply below_drew1 | refine below_set ?_ GE164.out) | exact HB.out)))); have n3_ := Aside0.mk (blk_below (g := gb164) (o := .cells #[.int .i64 (wrap64 (Int.tmod (rd l1 x7_1) 1048576)), .slice Ao27 y161.length co27] 25 (0, 0)) (by (with_reducible repeat (first | refine blk_drewN ?_ _ | refine blk_drew ?_ | refine blk_alloc ?_ _)); refine blk_put (cs := #[.int .i64 (wrap64 (Int.tmod (rd l1 x7_1) 1048576)), .slice none 0 0]) ?_ 1 _ rfl; (with_reducible repeat (first | refine blk_drewN ?_ _ | refine blk_drew ?_ | refine blk_alloc ?_ _)); refine blk_put (cs := #[.int .i64 0, .slice none 0 0]) ?_ 0 _ rfl; (with_reducible repeat (first | refine blk_drewN ?_ _ | refine blk_drew ?_ | refine blk_alloc ?_ _)); exact BK164.out) hb); have n4_ := Aside0.mk (below_step (by repeat (first | (with_reducible first | exact HB.out | apply below_alloc | apply pw_below_drewN | apply below_drew1 | refine below_set ?_ GE164.out) | exact HB.out)) hb); clear HO_6; clear HO163; clear BK164; clear HB; have HO_6 := n0_; have HO163 := n1_; have HO167 := n2_; have BK164 := n3_; have HB := n4_; clear n0_ n1_ n2_ n3_ n4_; (try clear hb); (try clear hb2); (try clear hk); (try clear hi); (try clear ho0); obtain ⟨i032, hi032, _, hsz32, _⟩ := info_parts info22; obtain ⟨A32, hcut32, hA32, hC32⟩ := print_mid_of (P := Try.prog) (Value.int .u64) 0 23 22 .i64 .i64 Try.underlying23 hi032 hsz32 (some ad155) c1 l1 x7_1 (wrap64 ((wrap64 (x7_1 + (wrap64 (Int.tmod (IntKind.u64.wrap (Int.tdiv (rd l1 x7_1) 1048576)) 65536)))) + 2)) (of_decide_eq_true (by first | (with_reducible assumption) | assumption)) (by first | omega | exact of_decide_eq_true (by first | (with_reducible assumption) | assumption)) (of_decide_eq_true (by first | (with_reducible assumption) | assumption)) HC1.out; have HR169 := Aside0.mk (Kd.C_of_reads (h1 := fun _ => rfl) (hA32 _ (Kd.reads_of_C HR1.out))); have HC169 := Aside0.mk hC32; clear hA32 hC32 hi032 hsz32; obtain ⟨Ao33, co33, eo33⟩ := Kd.R_slice HO167.out; subst eo33) | (go_at_call 13; (first | (with_reducible refine (lockfastref01_Words.calls k1 _ _ t165 _ _ ((l1.take ((wrap64 ((wrap64 (x7_1 + (wrap64 (Int.tmod (IntKind.u64.wrap (Int.tdiv (rd l1 x7_1) 1048576)) 65536)))) + 2)) : Int).toNat).drop (x7_1 : Int).toNat) true _ ?side1 ?side2 ?side3 ?side4 A16.out).mono ?_) | (rw [← (show ((l1.take ((wrap64 ((wrap64 (x7_1 + (wrap64 (Int.tmod (IntKind.u64.wrap (Int.tdiv (rd l1 x7_1) 1048576)) 65536)))) + 2)) : Int).toNat).drop (x7_1 : Int).toNat).length = ((wrap64 ((wrap64 (x7_1 + (wrap64 (Int.tmod (IntKind.u64.wrap (Int.tdiv (rd l1 x7_1) 1048576)) 65536)))) + 2)) : Int).toNat - (x7_1 : Int).toNat from (by rw [List.length_drop, List.length_take]; have h_ : ((wrap64 ((wrap64 (x7_1 + (wrap64 (Int.tmod (IntKind.u64.wrap (Int.tdiv (rd l1 x7_1) 1048576)) 65536)))) + 2)) : Int) ≤ (l1.length : Int) := of_decide_eq_true (by first | (with_reducible assumption) | assumption); omega))]; (with_reducible refine (lockfastref01_Words.calls k1 _ _ t165 _ _ ((l1.take ((wrap64 ((wrap64 (x7_1 + (wrap64 (Int.tmod (IntKind.u64.wrap (Int.tdiv (rd l1 x7_1) 1048576)) 65536)))) + 2)) : Int).toNat).drop (x7_1 : Int).toNat) true _ ?side1 ?side2 ?side3 ?side4 A16.out).mono ?_))); (case side1 => repeat (first | exact (Kd.R_reads' HO167.out).2.2 | (with_reducible refine Kd.C_alloc ?_ _) | (with_reducible refine Kd.C_drewN ?_ _) | (with_reducible refine Kd.C_drew ?_))); (case side2 => exact (Kd.R_reads' HO167.out).2.1); (case side3 => repeat (first | exact (Kd.C_below HR169.out HB.out) | (with_reducible refine Kd.C_alloc ?_ _) | (with_reducible refine Kd.C_drewN ?_ _) | (with_reducible refine Kd.C_drew ?_))); (case side4 => exact HC169.out); rintro e w' ⟨rfl, ⟨nd, rfl⟩⟩; have hcz34_0 : w31.cell? ⟨gb164, 0, none⟩ = some (.int .i64 (wrap64 (Int.tmod (rd l1 x7_1) 1048576))) := (blk_cell BK164.out 0).trans rfl; have hcz34_1 : w31.cell? ⟨gb164, 1, none⟩ = some (.slice Ao27 y161.length co27) := (blk_cell BK164.out 1).trans rfl; have hfz34_0 := blk_frozen BK164.out 0; have hfz34_1 := blk_frozen BK164.out 1) | ((with_reducible refine gate_builtin (b := .append) (xs := #[.tmp 67, .tmp 69]) rfl ?_); at_builtin; refine Kd.S_append k25 (w0 := w) w.heap.size rfl (.tmp 67) (.tmp 69) 34 25 (.agg #[(.int .i64 0), (.slice none 0 0)]) 32 rfl Try.underlying34 info25 rfl (by decide) (by omega) u6 x6_1 (⟨wrap64 (Int.tmod (rd l1 x7_1) 1048576), y161⟩ : S25) [.int .i64 (wrap64 (Int.tmod (rd l1 x7_1) 1048576)), .slice Ao27 y161.length co27] (fun k_ => some k_ ≠ (.slice Ao33 t165.length co33 : Value).ownBlock ∧ k_ ≠ gb164) (fun k_ => some k_ = (.slice Ao27 y161.length co27 : Value).ownBlock) rfl rfl ?aP (fun k_ hk_ => ((Kd.R_mono (ok' := fun k_ => ((fun k_ => some k_ ≠ (.slice Ao33 t165.length co33 : Value).ownBlock ∧ k_ ≠ gb164)) k_ ∧ some k_ ≠ (u6 : Value).ownBlock) (Kd.R_types (Kd.R_apart' (HO163.out) (Kd.S_typed HO_6.out) (by decide)) BK164.out (by decide)) (fun k_ hk => ⟨⟨hk.1.1.2, hk.2⟩, hk.1.2⟩))).1 k_ hk_.symm) ?aF ?aO ?aB ?aS ?aL ?_; (case aP => exact k25_mkM _ _ _ (⟨wrap64 (Int.tmod (rd l1 x7_1) 1048576), y161⟩ : S25) (Kd.R_mono (Kd.R_tight rfl (Kd.R_mono (ok' := fun k_ => ((fun k_ => some k_ ≠ (.slice Ao33 t165.length co33 : Value).ownBlock ∧ k_ ≠ gb164)) k_ ∧ some k_ ≠ (u6 : Value).ownBlock) (Kd.R_types (Kd.R_apart' (HO163.out) (Kd.S_typed HO_6.out) (by decide)) BK164.out (by decide)) (fun k_ hk => ⟨⟨hk.1.1.2, hk.2⟩, hk.1.2⟩))) (fun _ h_ => h_))); (case aB => exact (by repeat (first | (with_reducible first | exact HB.out | apply below_alloc | apply pw_below_drewN | apply below_drew1 | refine below_set ?_ GE164.out) | exact HB.out))); (case aF => exact (fun k_ hk => ⟨Kd.fresh' (Kd.R_lt (by (with_reducible repeat (first | apply Kd.R_alloc | apply Kd.R_drewN | apply Kd.R_drew)); exact HO167.out)) k_ hk, Kd.freshB (g := gb164) (o := .cells #[.int .i64 (wrap64 (Int.tmod (rd l1 x7_1) 1048576)), .slice Ao27 y161.length co27] 25 (0, 0)) (by (with_reducible repeat (first | refine blk_drewN ?_ _ | refine blk_drew ?_ | refine blk_alloc ?_ _)); exact BK164.out) k_ hk⟩)); (case aO => exact (by (with_reducible repeat (first | apply Kd.S_alloc | apply Kd.S_drewN | apply Kd.S_drew)); exact Kd.S_mono HO_6.out (fun k_ hk => ⟨⟨hk.2, hk.1.2⟩, fun e_ => hk.1.1 e_⟩))); (case aS => exact (below_size (by repeat (first | (with_reducible first | exact HB.out | apply below_alloc | apply pw_below_drewN | apply below_drew1 | refine below_set ?_ GE164.out) | exact HB.out)))); (case aL => have := LMc18.out; omega); intro v172 w35 ho hb hg hat; rw [← Ny171.out] at ho; have n0_ := Aside0.mk (blk_grown (g := gb164) (o := .cells #[.int .i64 (wrap64 (Int.tmod (rd l1 x7_1) 1048576)), .slice Ao27 y161.length co27] 25 (0, 0)) (by (with_reducible repeat (first | refine blk_drewN ?_ _ | refine blk_drew ?_ | refine blk_alloc ?_ _)); exact BK164.out) hg (Kd.S_away HO_6.out (fun _ hk => hk.1.2))); have n1_ := Aside0.mk (Kd.R_over' (by (with_reducible repeat (first | apply Kd.R_alloc | apply Kd.R_drewN | apply Kd.R_drew)); exact HO167.out) (Kd.S_typed (by (with_reducible repeat (first | apply Kd.S_alloc | apply Kd.S_drewN | apply Kd.S_drew)); exact HO_6.out)) (by decide) hg); have n2_ := Aside0.mk (hb); have n3_ := Aside0.mk (ho); clear BK164; clear HO167; clear HB; clear HO_6; clear HO163; have BK164 := n0_; have HO167 := n1_; have HB := n2_; have HO173 := n3_; clear n0_ n1_ n2_ n3_; clear ho hb hg hat))
                              go_roundg k1
                              case measure => have := HK1.out; omega
                              case rel => exact ⟨(y171), (wrap64 ((wrap64 (x7_1 + (wrap64 (Int.tmod (IntKind.u64.wrap (Int.tdiv (rd l1 x7_1) 1048576)) 65536)))) + 2)), (by first | rfl | (simp; done) | (simp [*]; done)), (by first | exact H' | (subst_vars; exact H')), ⟨by have := HK1.out; omega⟩, ⟨by (with_reducible repeat (first | apply Kd.S_alloc | apply Kd.S_drewN | apply Kd.S_drew)); exact Kd.S_mono HO173.out (fun _ hk => trivial)⟩, ⟨by repeat (first | (with_reducible first | exact HB.out | apply below_alloc | apply pw_below_drewN | apply below_drew1 | refine below_set ?_ GE164.out) | exact HB.out)⟩⟩
                            · rw [if_neg c18] at H
                              exact absurd H (by simp)
                          · replace c17 := Bool.eq_false_iff.mpr c17
                            subst c17
                            have H1 : (some (([] : List (S25)), false)) = some (r1, r2) := by rw [if_neg (show ¬ (false = true) by decide)] at H; exact H
                            clear H
                            have H := H1
                            clear H1
                            simp only [Option.some.injEq, Prod.mk.injEq] at H
                            obtain ⟨rfl, rfl⟩ := H
                            have p155 : 0 ≤ (x7_1 : Int) := of_decide_eq_true (by first | (with_reducible assumption) | assumption)
                            have q155 : x7_1 < (l1.length : Int) := of_decide_eq_true (by first | (with_reducible assumption) | assumption)
                            obtain ⟨ad155, e155, hx155_0⟩ := Kd.at_int HR1.out x7_1 p155 q155
                            cases e155
                            replace hx155_0 := (HB.out.cell (World.block_lt_of_cell? w _ hx155_0)).trans hx155_0
                            replace p155 := eq_true p155
                            replace q155 := eq_true q155
                            try go_wp2
                            have n0_ := Aside0.mk (Kd.S_drew HO_6.out)
                            have n1_ := Aside0.mk (below_drew1 HB.out)
                            clear HO_6
                            clear HB
                            have HO_6 := n0_
                            have HB := n1_
                            clear n0_ n1_
                            have p156 : 0 ≤ (x7_1 : Int) := of_decide_eq_true (by first | (with_reducible assumption) | assumption)
                            have q156 : x7_1 < (l1.length : Int) := of_decide_eq_true (by first | (with_reducible assumption) | assumption)
                            obtain ⟨ad156, e156, hx156_0⟩ := Kd.at_int HR1.out x7_1 p156 q156
                            have hw156_0 := hx156_0
                            obtain rfl : ad155 = ad156 := (by injection e156)
                            replace hx156_0 := (HB.out.cell (World.block_lt_of_cell? w _ hx156_0)).trans hx156_0
                            replace p156 := eq_true p156
                            replace q156 := eq_true q156
                            obtain ⟨i037, hi037, _, hsz37, _⟩ := info_parts info22
                            obtain ⟨A37, hcut37, hA37, hC37⟩ := print_mid_of (P := Try.prog) (Value.int .u64) 0 23 22 .i64 .i64 Try.underlying23 hi037 hsz37 (some ad155) c1 l1 (ji6) (wrap64 ((ji6) + (wrap64 (Int.tmod (IntKind.u64.wrap (Int.tdiv (rd l1 x7_1) 1048576)) 65536)))) (of_decide_eq_true (by first | (with_reducible assumption) | assumption)) (by first | omega | exact of_decide_eq_true (by first | (with_reducible assumption) | assumption)) (of_decide_eq_true (by first | (with_reducible assumption) | assumption)) HC1.out
                            have HR160 := Aside0.mk (Kd.C_of_reads (h1 := fun _ => rfl) (hA37 _ (Kd.reads_of_C HR1.out)))
                            have HC160 := Aside0.mk hC37
                            clear hA37 hC37 hi037 hsz37
                            refine start_ (n := 19) (S := fun w' => w'.cell? (ad155.add (x7_1).toNat) = some (.int .u64 (rd l1 x7_1))) (ds := []) #[false, false, false, false, false, false, false, false, false, false, false, false, false, false, false, false, false, false, false] (by kernel_rfl) rfl rfl (((HB.out.cell (World.block_lt_of_cell? w _ hw156_0)).trans hw156_0)) (fun hHeld => ?_); refine with_tabW lockfastref13_Decode.tab7 lockfastref13_Decode.bits7 (fun HT_ HW_ => ?_)
                            generalize wr.drew = w36 at HO_6 HB HR160 hx156_0 hHeld ⊢
                            refine pure_ (i := 0) (N := some 30) (v := ?_) (a' := ?_) #[true, false, false, false, false, false, false, false, false, false, false, false, false, false, false, false, false, false, false] rfl rfl (any_of HT_.out (by kernel_rfl)) (fun _ _ _ h => h) (Or.inl ⟨by rfl, ?_⟩) ?_ ?_
                            rotate_left
                            · intro w'
                              go_simp
                              with_reducible rfl
                            rotate_left
                            · simp only [Act.put, List.setIfInBounds_toArray, List.set_cons_zero, List.set_cons_succ, i64_w, i32_w]
                              rfl
                            refine pure_ (i := 1) (N := some 31) (v := ?_) (a' := ?_) #[true, true, false, false, false, false, false, false, false, false, false, false, false, false, false, false, false, false, false] rfl rfl (any_of HT_.out (by kernel_rfl)) (fun _ _ _ h => h) (Or.inl ⟨by rfl, ?_⟩) ?_ ?_
                            rotate_left
                            · intro w'
                              go_simp
                              with_reducible rfl
                            rotate_left
                            · simp only [Act.put, List.setIfInBounds_toArray, List.set_cons_zero, List.set_cons_succ, i64_w, i32_w]
                              rfl
                            refine pure_ (i := 2) (N := some 32) (v := ?_) (a' := ?_) #[true, true, true, false, false, false, false, false, false, false, false, false, false, false, false, false, false, false, false] rfl rfl (any_of HT_.out (by kernel_rfl)) (fun _ _ _ h => h) (Or.inl ⟨by rfl, ?_⟩) ?_ ?_
                            rotate_left
                            · intro w'
                              go_simp
                              with_reducible rfl
                            rotate_left
                            · simp only [Act.put, List.setIfInBounds_toArray, List.set_cons_zero, List.set_cons_succ, i64_w, i32_w]
                              rfl
                            refine pure_ (i := 7) (N := some 37) (v := ?_) (a' := ?_) #[true, true, true, false, false, false, false, true, false, false, false, false, false, false, false, false, false, false, false] rfl rfl (any_of HT_.out (by kernel_rfl)) (fun _ _ _ h => h) (Or.inl ⟨by rfl, ?_⟩) ?_ ?_
                            rotate_left
                            · intro w'
                              go_simp
                              with_reducible rfl
                            rotate_left
                            · simp only [Act.put, List.setIfInBounds_toArray, List.set_cons_zero, List.set_cons_succ, i64_w, i32_w]
                              rfl
                            refine pure_ (i := 8) (N := some 38) (v := ?_) (a' := ?_) #[true, true, true, false, false, false, false, true, true, false, false, false, false, false, false, false, false, false, false] rfl rfl (any_of HT_.out (by kernel_rfl)) (fun _ _ _ h => h) (Or.inl ⟨by rfl, ?_⟩) ?_ ?_
                            rotate_left
                            · intro w'
                              go_simp
                              with_reducible rfl
                            rotate_left
                            · simp only [Act.put, List.setIfInBounds_toArray, List.set_cons_zero, List.set_cons_succ, i64_w, i32_w]
                              rfl
                            refine pure_ (i := 9) (N := some 39) (v := ?_) (a' := ?_) #[true, true, true, false, false, false, false, true, true, true, false, false, false, false, false, false, false, false, false] rfl rfl (any_of HT_.out (by kernel_rfl)) (fun _ _ _ h => h) (Or.inl ⟨by rfl, ?_⟩) ?_ ?_
                            rotate_left
                            · intro w'
                              go_simp
                              with_reducible rfl
                            rotate_left
                            · simp only [Act.put, List.setIfInBounds_toArray, List.set_cons_zero, List.set_cons_succ, i64_w, i32_w]
                              rfl
                            refine pure_ (i := 10) (N := some 40) (v := ?_) (a' := ?_) #[true, true, true, false, false, false, false, true, true, true, true, false, false, false, false, false, false, false, false] rfl rfl (any_of HT_.out (by kernel_rfl)) (fun _ _ _ h => h) (Or.inl ⟨by rfl, ?_⟩) ?_ ?_
                            rotate_left
                            · intro w'
                              go_simp
                              with_reducible rfl
                            rotate_left
                            · simp only [Act.put, List.setIfInBounds_toArray, List.set_cons_zero, List.set_cons_succ, i64_w, i32_w]
                              rfl
                            refine pure_ (i := 11) (N := some 41) (v := ?_) (a' := ?_) #[true, true, true, false, false, false, false, true, true, true, true, true, false, false, false, false, false, false, false] rfl rfl (any_of HT_.out (by kernel_rfl)) (fun _ _ _ h => h) (Or.inl ⟨by rfl, ?_⟩) ?_ ?_
                            rotate_left
                            · intro w'
                              go_simp
                              with_reducible rfl
                            rotate_left
                            · simp only [Act.put, List.setIfInBounds_toArray, List.set_cons_zero, List.set_cons_succ, i64_w, i32_w]
                              rfl
                            refine pure_ (i := 12) (N := some 42) (v := ?_) (a' := ?_) #[true, true, true, false, false, false, false, true, true, true, true, true, true, false, false, false, false, false, false] rfl rfl (any_of HT_.out (by kernel_rfl)) (fun _ _ _ h => h) (Or.inl ⟨by rfl, ?_⟩) ?_ ?_
                            rotate_left
                            · intro w'
                              go_simp
                              with_reducible rfl
                            rotate_left
                            · simp only [Act.put, List.setIfInBounds_toArray, List.set_cons_zero, List.set_cons_succ, i64_w, i32_w]
                              rfl
                            refine pure_ (i := 13) (N := some 43) (v := ?_) (a' := ?_) #[true, true, true, false, false, false, false, true, true, true, true, true, true, true, false, false, false, false, false] rfl rfl (any_of HT_.out (by kernel_rfl)) (fun _ _ _ h => h) (Or.inl ⟨by rfl, ?_⟩) ?_ ?_
                            rotate_left
                            · intro w'
                              go_simp
                              with_reducible rfl
                            rotate_left
                            · simp only [Act.put, List.setIfInBounds_toArray, List.set_cons_zero, List.set_cons_succ, i64_w, i32_w]
                              rfl
                            refine pure_ (i := 14) (N := some 44) (v := ?_) (a' := ?_) #[true, true, true, false, false, false, false, true, true, true, true, true, true, true, true, false, false, false, false] rfl rfl (any_of HT_.out (by kernel_rfl)) (fun _ _ _ h => h) (Or.inl ⟨by rfl, ?_⟩) ?_ ?_
                            rotate_left
                            · intro w'
                              go_simp
                              with_reducible rfl
                            rotate_left
                            · simp only [Act.put, List.setIfInBounds_toArray, List.set_cons_zero, List.set_cons_succ, i64_w, i32_w]
                              rfl
                            refine take_ (i := 3) (N := some 33) (v := ?_) (a' := ?_) #[true, true, true, true, false, false, false, true, true, true, true, true, true, true, true, false, false, false, false] rfl rfl (take_ofW HT_.out HW_.out (by kernel_rfl)) (fun _ _ _ h => h) (Or.inl ⟨by rfl, ?_⟩) hHeld ?_ ?_
                            rotate_left
                            · intro w' s0
                              go_simp
                              with_reducible rfl
                            rotate_left
                            · simp only [Act.put, List.setIfInBounds_toArray, List.set_cons_zero, List.set_cons_succ, i64_w, i32_w]
                              rfl
                            refine pure_ (i := 4) (N := some 34) (v := ?_) (a' := ?_) #[true, true, true, true, true, false, false, true, true, true, true, true, true, true, true, false, false, false, false] rfl rfl (any_of HT_.out (by kernel_rfl)) (fun _ _ _ h => h) (Or.inl ⟨by rfl, ?_⟩) ?_ ?_
                            rotate_left
                            · intro w'
                              go_simp
                              with_reducible rfl
                            rotate_left
                            · simp only [Act.put, List.setIfInBounds_toArray, List.set_cons_zero, List.set_cons_succ, i64_w, i32_w]
                              rfl
                            refine pure_ (i := 5) (N := some 35) (v := ?_) (a' := ?_) #[true, true, true, true, true, true, false, true, true, true, true, true, true, true, true, false, false, false, false] rfl rfl (any_of HT_.out (by kernel_rfl)) (fun _ _ _ h => h) (Or.inl ⟨by rfl, ?_⟩) ?_ ?_
                            rotate_left
                            · intro w'
                              go_simp
                              with_reducible rfl
                            rotate_left
                            · simp only [Act.put, List.setIfInBounds_toArray, List.set_cons_zero, List.set_cons_succ, i64_w, i32_w]
                              rfl
                            refine join_ (σ := Value × Value × Nat) 1 #[true, true, true, true, true, true, true, true, true, true, true, true, true, true, true, true, true, true, false] (fun s_ => [(36, s_.1), (45, s_.2.1), (9, .pointer (some ⟨s_.2.2, 0, none⟩)), (46, .agg #[.int .i64 (wrap64 (Int.tmod (rd l1 x7_1) 1048576)), s_.2.1])]) (fun s_ w' => (w'.cell? (ad155.add (x7_1).toNat) = some (.int .u64 (rd l1 x7_1))) ∧ (Kd.R (Kd.int .u64) 22 w' w.heap.size (fun _ => True) s_.2.1 y161) ∧ (Kd.S k25 25 w' w.heap.size (fun k_ => some k_ ≠ (s_.2.1 : Value).ownBlock ∧ k_ ≠ s_.2.2) u6 x6_1) ∧ (w'.heap[s_.2.2]? = some (.cells #[.int .i64 0, .slice none 0 0] 25 (0, 0))) ∧ (w.heap.size ≤ s_.2.2) ∧ (w.heap.size ≤ s_.2.2) ∧ (Below w.heap.size w w')) ?_ ?_
                            rotate_left
                            · intro hCont
                              refine two_ (i := 6) (j := 17) (Ni := some 36) (Nj := some 9) #[true, true, true, true, true, true, true, true, true, true, true, true, true, true, true, false, false, false, false] #[true, true, true, true, true, true, false, true, true, true, true, true, true, true, true, false, false, true, false] rfl rfl rfl rfl (two_of HT_.out (by kernel_rfl)) (by decide) (by decide) (fun K hK => ?_) (fun K hK => ?_)
                              · skip
                                refine Kd.R_lit_step (Kd.int .u64) _ 22 ?hg (N := 36) ?hd (xs := ([] : List Int)) (inner := []) (ok := fun _ => True) (okp := fun _ => True) ?hr ?hp (fun _ hk => hk) trivial (Below.refl _ _) (Nat.le_refl _) (by simp) ?_; (case hd => rfl); (case hg => rfl); (case hr => first | (go_simp; done) | (go_simp; rfl)); (case hp => exact (Reps.none _ _))
                                intro v158 w38 ho39 hb hg_ hnew_
                                clear hg_ hnew_
                                (first | rw [← Ny157.out] at ho39 | (simp only [Int.reduceToNat] at ho39; rw [← Ny157.out] at ho39))
                                have n0_ := Aside0.mk (Kd.S_elder' (by (with_reducible repeat (first | apply Kd.S_alloc | apply Kd.S_drewN | apply Kd.S_drew)); exact HO_6.out) (Kd.R_base ho39) hb)
                                have n1_ := Aside0.mk (Kd.R_lower ho39 (below_size (by repeat (first | (with_reducible first | exact HB.out | apply below_alloc | apply pw_below_drewN | apply below_drew1) | exact HB.out))))
                                have n2_ := Aside0.mk (below_step (by repeat (first | (with_reducible first | exact HB.out | apply below_alloc | apply pw_below_drewN | apply below_drew1) | exact HB.out)) hb)
                                clear HO_6
                                clear HB
                                have HO_6 := n0_
                                have HO159 := n1_
                                have HB := n2_
                                clear n0_ n1_ n2_
                                clear hb ho39
                                refine hK.out _ _ (((HB.out.cell (World.block_lt_of_cell? w _ hw156_0)).trans hw156_0)) (fun hHeld => ?_)
                                clear hK K
                                refine norm_ (a' := ?_) ?_ ?_
                                rotate_left
                                · show Act.put _ (some 36) _ = _
                                  simp only [Act.put, List.setIfInBounds_toArray, List.set_cons_zero, List.set_cons_succ, i64_w, i32_w]
                                  rfl
                                refine two_ (i := 15) (j := 17) (Ni := some 45) (Nj := some 9) #[true, true, true, true, true, true, true, true, true, true, true, true, true, true, true, true, false, false, false] #[true, true, true, true, true, true, true, true, true, true, true, true, true, true, true, false, false, true, false] rfl rfl rfl rfl (two_of HT_.out (by kernel_rfl)) (by decide) (by decide) (fun K hK => ?_) (fun K hK => ?_)
                                · skip
                                  refine Kd.R_append_rows_step (Kd.int .u64) (w0 := w) w.heap.size (by rfl) (.tmp 36) (.tmp 44) 23 22 (.int .u64 0) 8 rfl Try.underlying23 info22 rfl (by decide) (by omega) v158 y157 ((l1.take ((wrap64 ((ji6) + (wrap64 (Int.tmod (IntKind.u64.wrap (Int.tdiv (rd l1 x7_1) 1048576)) 65536)))) : Int).toNat).drop ((ji6) : Int).toNat) _ _ _ (fun _ => True) (fun _ => False) rfl rfl ?aO ?aR (fun _ _ h => h) (fun _ h => h.elim) ?aF ?aB ?aS ?aL ?_
                                  (case aR => first | (rw [← show ((l1.take ((wrap64 ((ji6) + (wrap64 (Int.tmod (IntKind.u64.wrap (Int.tdiv (rd l1 x7_1) 1048576)) 65536)))) : Int).toNat).drop ((ji6) : Int).toNat).length = ((wrap64 ((ji6) + (wrap64 (Int.tmod (IntKind.u64.wrap (Int.tdiv (rd l1 x7_1) 1048576)) 65536)))).toNat - (ji6).toNat) from (by rw [List.length_drop, List.length_take]; have h_ : ((wrap64 ((ji6) + (wrap64 (Int.tmod (IntKind.u64.wrap (Int.tdiv (rd l1 x7_1) 1048576)) 65536)))) : Int) ≤ (l1.length : Int) := of_decide_eq_true (by first | (with_reducible assumption) | assumption); omega)]; repeat (first | exact (Kd.C_below HR160.out HB.out) | (with_reducible refine Kd.C_alloc ?_ _) | (with_reducible refine Kd.C_drewN ?_ _) | (with_reducible refine Kd.C_drew ?_))) | (repeat (first | exact (Kd.C_below HR160.out HB.out) | (with_reducible refine Kd.C_alloc ?_ _) | (with_reducible refine Kd.C_drewN ?_ _) | (with_reducible refine Kd.C_drew ?_))))
                                  (case aB => exact (by repeat (first | (with_reducible first | exact HB.out | apply below_alloc | apply pw_below_drewN | apply below_drew1) | exact HB.out)))
                                  (case aF => exact (fun _ _ => trivial))
                                  (case aO => exact (by (with_reducible repeat (first | apply Kd.R_alloc | apply Kd.R_drewN | apply Kd.R_drew)); exact HO159.out))
                                  (case aS => exact (below_size (by repeat (first | (with_reducible first | exact HB.out | apply below_alloc | apply pw_below_drewN | apply below_drew1) | exact HB.out))))
                                  (case aL => have := LMc10.out; have hlx_ := (show ((l1.take ((wrap64 ((ji6) + (wrap64 (Int.tmod (IntKind.u64.wrap (Int.tdiv (rd l1 x7_1) 1048576)) 65536)))) : Int).toNat).drop ((ji6) : Int).toNat).length = ((wrap64 ((ji6) + (wrap64 (Int.tmod (IntKind.u64.wrap (Int.tdiv (rd l1 x7_1) 1048576)) 65536)))).toNat - (ji6).toNat) from (by rw [List.length_drop, List.length_take]; have h_ : ((wrap64 ((ji6) + (wrap64 (Int.tmod (IntKind.u64.wrap (Int.tdiv (rd l1 x7_1) 1048576)) 65536)))) : Int) ≤ (l1.length : Int) := of_decide_eq_true (by first | (with_reducible assumption) | assumption); omega)); omega)
                                  intro v162 w40 ho hb hg hat
                                  rw [← Ny161.out] at ho
                                  have n0_ := Aside0.mk (Kd.S_after (ok := (fun _ => True)) (by (with_reducible repeat (first | apply Kd.S_alloc | apply Kd.S_drewN | apply Kd.S_drew)); exact HO_6.out) hg hat)
                                  have n1_ := Aside0.mk (hb)
                                  have n2_ := Aside0.mk (ho)
                                  clear HO_6
                                  clear HB
                                  clear HO159
                                  have HO_6 := n0_
                                  have HB := n1_
                                  have HO163 := n2_
                                  clear n0_ n1_ n2_
                                  clear ho hb hg hat
                                  obtain ⟨Ao41, co41, eo41⟩ := Kd.R_slice HO163.out
                                  (first | subst eo41 | (injection eo41 with f1_ f2_ f3_; have f4_ := f1_.symm; have f5_ := f3_.symm; clear f1_ f2_ f3_; subst f4_; subst f5_))
                                  refine hK.out _ _ (((HB.out.cell (World.block_lt_of_cell? w _ hw156_0)).trans hw156_0)) (fun hHeld => ?_)
                                  clear hK K
                                  refine norm_ (a' := ?_) ?_ ?_
                                  rotate_left
                                  · show Act.put _ (some 45) _ = _
                                    simp only [Act.put, List.setIfInBounds_toArray, List.set_cons_zero, List.set_cons_succ, i64_w, i32_w]
                                    rfl
                                  refine pure_ (i := 16) (N := some 46) (v := ?_) (a' := ?_) #[true, true, true, true, true, true, true, true, true, true, true, true, true, true, true, true, true, false, false] rfl rfl (any_of HT_.out (by kernel_rfl)) (fun _ _ _ h => h) (Or.inl ⟨by rfl, ?_⟩) ?_ ?_
                                  rotate_left
                                  · intro w'
                                    go_simp
                                    with_reducible rfl
                                  rotate_left
                                  · simp only [Act.put, List.setIfInBounds_toArray, List.set_cons_zero, List.set_cons_succ, i64_w, i32_w]
                                    rfl
                                  refine one_ (i := 17) (N := some 9) #[true, true, true, true, true, true, true, true, true, true, true, true, true, true, true, true, true, true, false] rfl rfl (one_of HT_.out (by kernel_rfl)) (by decide) (fun K hK => ?_)
                                  refine box_step ?hg (N := 9) ?hd (cs := #[.int .i64 0, .slice none 0 0]) (t := 25) ?hr ?_; (case hd => rfl); (case hg => rfl); (case hr => first | (go_simp; done) | (go_simp; rfl))
                                  intro gb164 hg w42 hbox hb
                                  have n0_ := Aside0.mk (Kd.S_below (Kd.S_elderB (by (with_reducible repeat (first | apply Kd.S_alloc | apply Kd.S_drewN | apply Kd.S_drew)); exact HO_6.out) gb164 (Nat.le_of_eq hg.symm)) hb)
                                  have n1_ := Aside0.mk (Kd.R_below (by (with_reducible repeat (first | apply Kd.R_alloc | apply Kd.R_drewN | apply Kd.R_drew)); exact HO163.out) hb)
                                  have n2_ := Aside0.mk (below_step (by repeat (first | (with_reducible first | exact HB.out | apply below_alloc | apply pw_below_drewN | apply below_drew1) | exact HB.out)) hb)
                                  have n3_ := Aside0.mk (hbox)
                                  have n4_ := Aside0.mk ((by rw [hg]; exact (below_size (by repeat (first | (with_reducible first | exact HB.out | apply below_alloc | apply pw_below_drewN | apply below_drew1) | exact HB.out))) : w.heap.size ≤ gb164))
                                  have n5_ := Aside0.mk ((by rw [hg]; exact (below_size (by repeat (first | (with_reducible first | exact HB.out | apply below_alloc | apply pw_below_drewN | apply below_drew1) | exact HB.out))) : w.heap.size ≤ gb164))
                                  clear HO_6
                                  clear HO163
                                  clear HB
                                  have HO_6 := n0_
                                  have HO163 := n1_
                                  have HB := n2_
                                  have BK164 := n3_
                                  have GW164 := n4_
                                  have GE164 := n5_
                                  clear n0_ n1_ n2_ n3_ n4_ n5_
                                  clear hb hbox hg
                                  refine hK.out _ _ (((HB.out.cell (World.block_lt_of_cell? w _ hw156_0)).trans hw156_0)) (fun hHeld => ?_)
                                  clear hK K
                                  refine norm_ (a' := ?_) ?_ ?_
                                  rotate_left
                                  · show Act.put _ (some 9) _ = _
                                    simp only [Act.put, List.setIfInBounds_toArray, List.set_cons_zero, List.set_cons_succ, i64_w, i32_w]
                                    rfl
                                  exact norm_ (by simp only [putAll, Act.put, List.setIfInBounds_toArray, List.set_cons_zero, List.set_cons_succ]) (hCont (v158, .slice Ao41 y161.length co41, gb164) _ ⟨hHeld, (by (with_reducible repeat (first | apply Kd.R_alloc | apply Kd.R_drewN | apply Kd.R_drew)); exact HO163.out), (by (with_reducible repeat (first | apply Kd.S_alloc | apply Kd.S_drewN | apply Kd.S_drew)); exact Kd.S_mono HO_6.out (fun _ hk => ⟨hk.1.2, hk.2⟩)), (by (with_reducible repeat (first | refine blk_drewN ?_ _ | refine blk_drew ?_ | refine blk_alloc ?_ _)); exact BK164.out), GW164.out, GE164.out, (by repeat (first | (with_reducible first | exact HB.out | apply below_alloc | apply pw_below_drewN | apply below_drew1 | refine below_set ?_ GE164.out) | exact HB.out))⟩)
                                · skip
                                  refine box_step ?hg (N := 9) ?hd (cs := #[.int .i64 0, .slice none 0 0]) (t := 25) ?hr ?_; (case hd => rfl); (case hg => rfl); (case hr => first | (go_simp; done) | (go_simp; rfl))
                                  intro gb164 hg w40 hbox hb
                                  have n0_ := Aside0.mk (Kd.S_below (Kd.S_elderB (by (with_reducible repeat (first | apply Kd.S_alloc | apply Kd.S_drewN | apply Kd.S_drew)); exact HO_6.out) gb164 (Nat.le_of_eq hg.symm)) hb)
                                  have n1_ := Aside0.mk (Kd.R_below (by (with_reducible repeat (first | apply Kd.R_alloc | apply Kd.R_drewN | apply Kd.R_drew)); exact HO159.out) hb)
                                  have n2_ := Aside0.mk (below_step (by repeat (first | (with_reducible first | exact HB.out | apply below_alloc | apply pw_below_drewN | apply below_drew1) | exact HB.out)) hb)
                                  have n3_ := Aside0.mk (hbox)
                                  have n4_ := Aside0.mk ((by rw [hg]; exact (below_size (by repeat (first | (with_reducible first | exact HB.out | apply below_alloc | apply pw_below_drewN | apply below_drew1) | exact HB.out))) : w.heap.size ≤ gb164))
                                  have n5_ := Aside0.mk ((by rw [hg]; exact (below_size (by repeat (first | (with_reducible first | exact HB.out | apply below_alloc | apply pw_below_drewN | apply below_drew1) | exact HB.out))) : w.heap.size ≤ gb164))
                                  clear HO_6
                                  clear HO159
                                  clear HB
                                  have HO_6 := n0_
                                  have HO159 := n1_
                                  have HB := n2_
                                  have BK164 := n3_
                                  have GW164 := n4_
                                  have GE164 := n5_
                                  clear n0_ n1_ n2_ n3_ n4_ n5_
                                  clear hb hbox hg
                                  refine hK.out _ _ (((HB.out.cell (World.block_lt_of_cell? w _ hw156_0)).trans hw156_0)) (fun hHeld => ?_)
                                  clear hK K
                                  refine norm_ (a' := ?_) ?_ ?_
                                  rotate_left
                                  · show Act.put _ (some 9) _ = _
                                    simp only [Act.put, List.setIfInBounds_toArray, List.set_cons_zero, List.set_cons_succ, i64_w, i32_w]
                                    rfl
                                  refine one_ (i := 15) (N := some 45) #[true, true, true, true, true, true, true, true, true, true, true, true, true, true, true, true, false, true, false] rfl rfl (one_of HT_.out (by kernel_rfl)) (by decide) (fun K hK => ?_)
                                  refine Kd.R_append_rows_step (Kd.int .u64) (w0 := w) w.heap.size (by rfl) (.tmp 36) (.tmp 44) 23 22 (.int .u64 0) 8 rfl Try.underlying23 info22 rfl (by decide) (by omega) v158 y157 ((l1.take ((wrap64 ((ji6) + (wrap64 (Int.tmod (IntKind.u64.wrap (Int.tdiv (rd l1 x7_1) 1048576)) 65536)))) : Int).toNat).drop ((ji6) : Int).toNat) _ _ _ (fun _ => True) (fun _ => False) rfl rfl ?aO ?aR (fun _ _ h => h) (fun _ h => h.elim) ?aF ?aB ?aS ?aL ?_
                                  (case aR => first | (rw [← show ((l1.take ((wrap64 ((ji6) + (wrap64 (Int.tmod (IntKind.u64.wrap (Int.tdiv (rd l1 x7_1) 1048576)) 65536)))) : Int).toNat).drop ((ji6) : Int).toNat).length = ((wrap64 ((ji6) + (wrap64 (Int.tmod (IntKind.u64.wrap (Int.tdiv (rd l1 x7_1) 1048576)) 65536)))).toNat - (ji6).toNat) from (by rw [List.length_drop, List.length_take]; have h_ : ((wrap64 ((ji6) + (wrap64 (Int.tmod (IntKind.u64.wrap (Int.tdiv (rd l1 x7_1) 1048576)) 65536)))) : Int) ≤ (l1.length : Int) := of_decide_eq_true (by first | (with_reducible assumption) | assumption); omega)]; repeat (first | exact (Kd.C_below HR160.out HB.out) | (with_reducible refine Kd.C_alloc ?_ _) | (with_reducible refine Kd.C_drewN ?_ _) | (with_reducible refine Kd.C_drew ?_))) | (repeat (first | exact (Kd.C_below HR160.out HB.out) | (with_reducible refine Kd.C_alloc ?_ _) | (with_reducible refine Kd.C_drewN ?_ _) | (with_reducible refine Kd.C_drew ?_))))
                                  (case aB => exact (by repeat (first | (with_reducible first | exact HB.out | apply below_alloc | apply pw_below_drewN | apply below_drew1 | refine below_set ?_ GE164.out) | exact HB.out)))
                                  (case aF => exact (fun _ _ => trivial))
                                  (case aO => exact (by (with_reducible repeat (first | apply Kd.R_alloc | apply Kd.R_drewN | apply Kd.R_drew)); exact HO159.out))
                                  (case aS => exact (below_size (by repeat (first | (with_reducible first | exact HB.out | apply below_alloc | apply pw_below_drewN | apply below_drew1 | refine below_set ?_ GE164.out) | exact HB.out))))
                                  (case aL => have := LMc10.out; have hlx_ := (show ((l1.take ((wrap64 ((ji6) + (wrap64 (Int.tmod (IntKind.u64.wrap (Int.tdiv (rd l1 x7_1) 1048576)) 65536)))) : Int).toNat).drop ((ji6) : Int).toNat).length = ((wrap64 ((ji6) + (wrap64 (Int.tmod (IntKind.u64.wrap (Int.tdiv (rd l1 x7_1) 1048576)) 65536)))).toNat - (ji6).toNat) from (by rw [List.length_drop, List.length_take]; have h_ : ((wrap64 ((ji6) + (wrap64 (Int.tmod (IntKind.u64.wrap (Int.tdiv (rd l1 x7_1) 1048576)) 65536)))) : Int) ≤ (l1.length : Int) := of_decide_eq_true (by first | (with_reducible assumption) | assumption); omega)); omega)
                                  intro v162 w41 ho hb hg hat
                                  rw [← Ny161.out] at ho
                                  have n0_ := Aside0.mk (Kd.S_after (ok := (fun k_ => k_ ≠ gb164)) (by (with_reducible repeat (first | apply Kd.S_alloc | apply Kd.S_drewN | apply Kd.S_drew)); exact Kd.S_mono HO_6.out (fun _ hk => ⟨hk.2, hk.1.2⟩)) hg hat)
                                  have n1_ := Aside0.mk (blk_grown (g := gb164) (o := .cells #[.int .i64 0, .slice none 0 0] 25 (0, 0)) (by (with_reducible repeat (first | refine blk_drewN ?_ _ | refine blk_drew ?_ | refine blk_alloc ?_ _)); exact BK164.out) hg (Kd.R_ne HO159.out BK164.out (by decide)))
                                  have n2_ := Aside0.mk (hb)
                                  have n3_ := Aside0.mk (ho)
                                  clear HO_6
                                  clear BK164
                                  clear HB
                                  clear HO159
                                  have HO_6 := n0_
                                  have BK164 := n1_
                                  have HB := n2_
                                  have HO163 := n3_
                                  clear n0_ n1_ n2_ n3_
                                  clear ho hb hg hat
                                  obtain ⟨Ao42, co42, eo42⟩ := Kd.R_slice HO163.out
                                  (first | subst eo42 | (injection eo42 with f1_ f2_ f3_; have f4_ := f1_.symm; have f5_ := f3_.symm; clear f1_ f2_ f3_; subst f4_; subst f5_))
                                  refine hK.out _ _ (((HB.out.cell (World.block_lt_of_cell? w _ hw156_0)).trans hw156_0)) (fun hHeld => ?_)
                                  clear hK K
                                  refine norm_ (a' := ?_) ?_ ?_
                                  rotate_left
                                  · show Act.put _ (some 45) _ = _
                                    simp only [Act.put, List.setIfInBounds_toArray, List.set_cons_zero, List.set_cons_succ, i64_w, i32_w]
                                    rfl
                                  refine pure_ (i := 16) (N := some 46) (v := ?_) (a' := ?_) #[true, true, true, true, true, true, true, true, true, true, true, true, true, true, true, true, true, true, false] rfl rfl (any_of HT_.out (by kernel_rfl)) (fun _ _ _ h => h) (Or.inl ⟨by rfl, ?_⟩) ?_ ?_
                                  rotate_left
                                  · intro w'
                                    go_simp
                                    with_reducible rfl
                                  rotate_left
                                  · simp only [Act.put, List.setIfInBounds_toArray, List.set_cons_zero, List.set_cons_succ, i64_w, i32_w]
                                    rfl
                                  exact norm_ (by simp only [putAll, Act.put, List.setIfInBounds_toArray, List.set_cons_zero, List.set_cons_succ]) (hCont (v158, .slice Ao42 y161.length co42, gb164) _ ⟨hHeld, (by (with_reducible repeat (first | apply Kd.R_alloc | apply Kd.R_drewN | apply Kd.R_drew)); exact HO163.out), (by (with_reducible repeat (first | apply Kd.S_alloc | apply Kd.S_drewN | apply Kd.S_drew)); exact Kd.S_mono HO_6.out (fun _ hk => ⟨hk.2, hk.1⟩)), (by (with_reducible repeat (first | refine blk_drewN ?_ _ | refine blk_drew ?_ | refine blk_alloc ?_ _)); exact BK164.out), GW164.out, GE164.out, (by repeat (first | (with_reducible first | exact HB.out | apply below_alloc | apply pw_below_drewN | apply below_drew1 | refine below_set ?_ GE164.out) | exact HB.out))⟩)
                              · skip
                                refine box_step ?hg (N := 9) ?hd (cs := #[.int .i64 0, .slice none 0 0]) (t := 25) ?hr ?_; (case hd => rfl); (case hg => rfl); (case hr => first | (go_simp; done) | (go_simp; rfl))
                                intro gb164 hg w38 hbox hb
                                have n0_ := Aside0.mk (Kd.S_below (Kd.S_elderB (by (with_reducible repeat (first | apply Kd.S_alloc | apply Kd.S_drewN | apply Kd.S_drew)); exact HO_6.out) gb164 (Nat.le_of_eq hg.symm)) hb)
                                have n1_ := Aside0.mk (below_step (by repeat (first | (with_reducible first | exact HB.out | apply below_alloc | apply pw_below_drewN | apply below_drew1) | exact HB.out)) hb)
                                have n2_ := Aside0.mk (hbox)
                                have n3_ := Aside0.mk ((by rw [hg]; exact (below_size (by repeat (first | (with_reducible first | exact HB.out | apply below_alloc | apply pw_below_drewN | apply below_drew1) | exact HB.out))) : w.heap.size ≤ gb164))
                                have n4_ := Aside0.mk ((by rw [hg]; exact (below_size (by repeat (first | (with_reducible first | exact HB.out | apply below_alloc | apply pw_below_drewN | apply below_drew1) | exact HB.out))) : w.heap.size ≤ gb164))
                                clear HO_6
                                clear HB
                                have HO_6 := n0_
                                have HB := n1_
                                have BK164 := n2_
                                have GW164 := n3_
                                have GE164 := n4_
                                clear n0_ n1_ n2_ n3_ n4_
                                clear hb hbox hg
                                refine hK.out _ _ (((HB.out.cell (World.block_lt_of_cell? w _ hw156_0)).trans hw156_0)) (fun hHeld => ?_)
                                clear hK K
                                refine norm_ (a' := ?_) ?_ ?_
                                rotate_left
                                · show Act.put _ (some 9) _ = _
                                  simp only [Act.put, List.setIfInBounds_toArray, List.set_cons_zero, List.set_cons_succ, i64_w, i32_w]
                                  rfl
                                refine one_ (i := 6) (N := some 36) #[true, true, true, true, true, true, true, true, true, true, true, true, true, true, true, false, false, true, false] rfl rfl (one_of HT_.out (by kernel_rfl)) (by decide) (fun K hK => ?_)
                                refine Kd.R_lit_step (Kd.int .u64) _ 22 ?hg (N := 36) ?hd (xs := ([] : List Int)) (inner := []) (ok := fun _ => True) (okp := fun _ => True) ?hr ?hp (fun _ hk => hk) trivial (Below.refl _ _) (Nat.le_refl _) (by simp) ?_; (case hd => rfl); (case hg => rfl); (case hr => first | (go_simp; done) | (go_simp; rfl)); (case hp => exact (Reps.none _ _))
                                intro v158 w39 ho40 hb hg_ hnew_
                                clear hg_ hnew_
                                (first | rw [← Ny157.out] at ho40 | (simp only [Int.reduceToNat] at ho40; rw [← Ny157.out] at ho40))
                                have n0_ := Aside0.mk (Kd.S_elder' (by (with_reducible repeat (first | apply Kd.S_alloc | apply Kd.S_drewN | apply Kd.S_drew)); exact HO_6.out) (Kd.R_base ho40) hb)
                                have n1_ := Aside0.mk (Kd.R_lower ho40 (below_size (by repeat (first | (with_reducible first | exact HB.out | apply below_alloc | apply pw_below_drewN | apply below_drew1 | refine below_set ?_ GE164.out) | exact HB.out))))
                                have n2_ := Aside0.mk (blk_below (g := gb164) (o := .cells #[.int .i64 0, .slice none 0 0] 25 (0, 0)) (by (with_reducible repeat (first | refine blk_drewN ?_ _ | refine blk_drew ?_ | refine blk_alloc ?_ _)); exact BK164.out) hb)
                                have n3_ := Aside0.mk (below_step (by repeat (first | (with_reducible first | exact HB.out | apply below_alloc | apply pw_below_drewN | apply below_drew1 | refine below_set ?_ GE164.out) | exact HB.out)) hb)
                                clear HO_6
                                clear BK164
                                clear HB
                                have HO_6 := n0_
                                have HO159 := n1_
                                have BK164 := n2_
                                have HB := n3_
                                clear n0_ n1_ n2_ n3_
                                clear hb ho40
                                refine hK.out _ _ (((HB.out.cell (World.block_lt_of_cell? w _ hw156_0)).trans hw156_0)) (fun hHeld => ?_)
                                clear hK K
                                refine norm_ (a' := ?_) ?_ ?_
                                rotate_left
                                · show Act.put _ (some 36) _ = _
                                  simp only [Act.put, List.setIfInBounds_toArray, List.set_cons_zero, List.set_cons_succ, i64_w, i32_w]
                                  rfl
                                refine one_ (i := 15) (N := some 45) #[true, true, true, true, true, true, true, true, true, true, true, true, true, true, true, true, false, true, false] rfl rfl (one_of HT_.out (by kernel_rfl)) (by decide) (fun K hK => ?_)
                                refine Kd.R_append_rows_step (Kd.int .u64) (w0 := w) w.heap.size (by rfl) (.tmp 36) (.tmp 44) 23 22 (.int .u64 0) 8 rfl Try.underlying23 info22 rfl (by decide) (by omega) v158 y157 ((l1.take ((wrap64 ((ji6) + (wrap64 (Int.tmod (IntKind.u64.wrap (Int.tdiv (rd l1 x7_1) 1048576)) 65536)))) : Int).toNat).drop ((ji6) : Int).toNat) _ _ _ (fun _ => True) (fun _ => False) rfl rfl ?aO ?aR (fun _ _ h => h) (fun _ h => h.elim) ?aF ?aB ?aS ?aL ?_
                                (case aR => first | (rw [← show ((l1.take ((wrap64 ((ji6) + (wrap64 (Int.tmod (IntKind.u64.wrap (Int.tdiv (rd l1 x7_1) 1048576)) 65536)))) : Int).toNat).drop ((ji6) : Int).toNat).length = ((wrap64 ((ji6) + (wrap64 (Int.tmod (IntKind.u64.wrap (Int.tdiv (rd l1 x7_1) 1048576)) 65536)))).toNat - (ji6).toNat) from (by rw [List.length_drop, List.length_take]; have h_ : ((wrap64 ((ji6) + (wrap64 (Int.tmod (IntKind.u64.wrap (Int.tdiv (rd l1 x7_1) 1048576)) 65536)))) : Int) ≤ (l1.length : Int) := of_decide_eq_true (by first | (with_reducible assumption) | assumption); omega)]; repeat (first | exact (Kd.C_below HR160.out HB.out) | (with_reducible refine Kd.C_alloc ?_ _) | (with_reducible refine Kd.C_drewN ?_ _) | (with_reducible refine Kd.C_drew ?_))) | (repeat (first | exact (Kd.C_below HR160.out HB.out) | (with_reducible refine Kd.C_alloc ?_ _) | (with_reducible refine Kd.C_drewN ?_ _) | (with_reducible refine Kd.C_drew ?_))))
                                (case aB => exact (by repeat (first | (with_reducible first | exact HB.out | apply below_alloc | apply pw_below_drewN | apply below_drew1 | refine below_set ?_ GE164.out) | exact HB.out)))
                                (case aF => exact (fun _ _ => trivial))
                                (case aO => exact (by (with_reducible repeat (first | apply Kd.R_alloc | apply Kd.R_drewN | apply Kd.R_drew)); exact HO159.out))
                                (case aS => exact (below_size (by repeat (first | (with_reducible first | exact HB.out | apply below_alloc | apply pw_below_drewN | apply below_drew1 | refine below_set ?_ GE164.out) | exact HB.out))))
                                (case aL => have := LMc10.out; have hlx_ := (show ((l1.take ((wrap64 ((ji6) + (wrap64 (Int.tmod (IntKind.u64.wrap (Int.tdiv (rd l1 x7_1) 1048576)) 65536)))) : Int).toNat).drop ((ji6) : Int).toNat).length = ((wrap64 ((ji6) + (wrap64 (Int.tmod (IntKind.u64.wrap (Int.tdiv (rd l1 x7_1) 1048576)) 65536)))).toNat - (ji6).toNat) from (by rw [List.length_drop, List.length_take]; have h_ : ((wrap64 ((ji6) + (wrap64 (Int.tmod (IntKind.u64.wrap (Int.tdiv (rd l1 x7_1) 1048576)) 65536)))) : Int) ≤ (l1.length : Int) := of_decide_eq_true (by first | (with_reducible assumption) | assumption); omega)); omega)
                                intro v162 w41 ho hb hg hat
                                rw [← Ny161.out] at ho
                                have n0_ := Aside0.mk (Kd.S_after (ok := (fun k_ => k_ ≠ gb164)) (by (with_reducible repeat (first | apply Kd.S_alloc | apply Kd.S_drewN | apply Kd.S_drew)); exact Kd.S_mono HO_6.out (fun _ hk => ⟨hk.1.2, hk.2⟩)) hg hat)
                                have n1_ := Aside0.mk (blk_grown (g := gb164) (o := .cells #[.int .i64 0, .slice none 0 0] 25 (0, 0)) (by (with_reducible repeat (first | refine blk_drewN ?_ _ | refine blk_drew ?_ | refine blk_alloc ?_ _)); exact BK164.out) hg (Kd.R_ne HO159.out BK164.out (by decide)))
                                have n2_ := Aside0.mk (hb)
                                have n3_ := Aside0.mk (ho)
                                clear HO_6
                                clear BK164
                                clear HB
                                clear HO159
                                have HO_6 := n0_
                                have BK164 := n1_
                                have HB := n2_
                                have HO163 := n3_
                                clear n0_ n1_ n2_ n3_
                                clear ho hb hg hat
                                obtain ⟨Ao42, co42, eo42⟩ := Kd.R_slice HO163.out
                                (first | subst eo42 | (injection eo42 with f1_ f2_ f3_; have f4_ := f1_.symm; have f5_ := f3_.symm; clear f1_ f2_ f3_; subst f4_; subst f5_))
                                refine hK.out _ _ (((HB.out.cell (World.block_lt_of_cell? w _ hw156_0)).trans hw156_0)) (fun hHeld => ?_)
                                clear hK K
                                refine norm_ (a' := ?_) ?_ ?_
                                rotate_left
                                · show Act.put _ (some 45) _ = _
                                  simp only [Act.put, List.setIfInBounds_toArray, List.set_cons_zero, List.set_cons_succ, i64_w, i32_w]
                                  rfl
                                refine pure_ (i := 16) (N := some 46) (v := ?_) (a' := ?_) #[true, true, true, true, true, true, true, true, true, true, true, true, true, true, true, true, true, true, false] rfl rfl (any_of HT_.out (by kernel_rfl)) (fun _ _ _ h => h) (Or.inl ⟨by rfl, ?_⟩) ?_ ?_
                                rotate_left
                                · intro w'
                                  go_simp
                                  with_reducible rfl
                                rotate_left
                                · simp only [Act.put, List.setIfInBounds_toArray, List.set_cons_zero, List.set_cons_succ, i64_w, i32_w]
                                  rfl
                                exact norm_ (by simp only [putAll, Act.put, List.setIfInBounds_toArray, List.set_cons_zero, List.set_cons_succ]) (hCont (v158, .slice Ao42 y161.length co42, gb164) _ ⟨hHeld, (by (with_reducible repeat (first | apply Kd.R_alloc | apply Kd.R_drewN | apply Kd.R_drew)); exact HO163.out), (by (with_reducible repeat (first | apply Kd.S_alloc | apply Kd.S_drewN | apply Kd.S_drew)); exact Kd.S_mono HO_6.out (fun _ hk => ⟨hk.2, hk.1⟩)), (by (with_reducible repeat (first | refine blk_drewN ?_ _ | refine blk_drew ?_ | refine blk_alloc ?_ _)); exact BK164.out), GW164.out, GE164.out, (by repeat (first | (with_reducible first | exact HB.out | apply below_alloc | apply pw_below_drewN | apply below_drew1 | refine below_set ?_ GE164.out) | exact HB.out))⟩)
                            rintro ⟨v158, v162, gb164⟩ w43 ⟨hS_, h0_, h1_, h2_, h3_, h4_, h5_⟩
                            have n0_ : Aside0 (Kd.R (Kd.int .u64) 22 w43 w.heap.size (fun _ => True) v162 y161) := ⟨h0_⟩
                            have n1_ : Aside0 (Kd.S k25 25 w43 w.heap.size (fun k_ => some k_ ≠ (v162 : Value).ownBlock ∧ k_ ≠ gb164) u6 x6_1) := ⟨h1_⟩
                            have n2_ : Aside0 (w43.heap[gb164]? = some (.cells #[.int .i64 0, .slice none 0 0] 25 (0, 0))) := ⟨h2_⟩
                            have n3_ : Aside0 (w.heap.size ≤ gb164) := ⟨h3_⟩
                            have n4_ : Aside0 (w.heap.size ≤ gb164) := ⟨h4_⟩
                            have n5_ : Aside0 (Below w.heap.size w w43) := ⟨h5_⟩
                            clear HO_6
                            clear HB
                            clear h0_ h1_ h2_ h3_ h4_ h5_
                            have HO163 := n0_
                            have HO_6 := n1_
                            have BK164 := n2_
                            have GW164 := n3_
                            have GE164 := n4_
                            have HB := n5_
                            clear n0_ n1_ n2_ n3_ n4_ n5_
                            have hHeld : w43.cell? (ad155.add (x7_1).toNat) = some (.int .u64 (rd l1 x7_1)) := hS_
                            obtain ⟨Ao44, co44, eo44⟩ := Kd.R_slice HO163.out
                            (first | subst eo44 | (injection eo44 with f1_ f2_ f3_; have f4_ := f1_.symm; have f5_ := f3_.symm; clear f1_ f2_ f3_; subst f4_; subst f5_))
                            refine norm_ (a' := ?_) ?_ ?_
                            rotate_left
                            · simp only [putAll, Act.put, List.setIfInBounds_toArray, List.set_cons_zero, List.set_cons_succ]
                              rfl
                            refine one_ (i := 18) (N := none) #[true, true, true, true, true, true, true, true, true, true, true, true, true, true, true, true, true, true, true] rfl rfl (one_of HT_.out (by kernel_rfl)) (by decide) (fun K hK => ?_)
                            have hs45 : w43.cell? ⟨gb164, 0, none⟩ = some (.int .i64 0) := (blk_cell BK164.out 0).trans rfl
                            have hfs45 := blk_frozen BK164.out 0
                            have hs46 : w43.cell? ⟨gb164, 1, none⟩ = some (.slice none 0 0) := (blk_cell BK164.out 1).trans rfl
                            have hfs46 := blk_frozen BK164.out 1
                            refine skip_ (w1 := ?_) (by rfl) rfl ?_ ?_
                            rotate_left
                            · go_simp
                              rfl
                            refine hK.out _ _ (((cell_far (p := ⟨gb164, _, none⟩) (by first | exact Nat.ne_of_lt (Nat.lt_of_lt_of_le (by have := World.block_lt_of_cell? _ _ hw156_0; first | rwa [add_block] at this | exact this) GW164.out) | (rw [add_block]; exact Nat.ne_of_lt (Nat.lt_of_lt_of_le (by have := World.block_lt_of_cell? _ _ hw156_0; first | rwa [add_block] at this | exact this) GW164.out)) | (show (Addr.add _ _).block ≠ _; rw [add_block]; exact Nat.ne_of_lt (Nat.lt_of_lt_of_le (by have := World.block_lt_of_cell? _ _ hw156_0; first | rwa [add_block] at this | exact this) GW164.out)) | (dsimp only; exact Nat.ne_of_lt (Nat.lt_of_lt_of_le (by have := World.block_lt_of_cell? _ _ hw156_0; first | rwa [add_block] at this | exact this) GW164.out))) _).trans (((cell_far (p := ⟨gb164, _, none⟩) (by first | exact Nat.ne_of_lt (Nat.lt_of_lt_of_le (by have := World.block_lt_of_cell? _ _ hw156_0; first | rwa [add_block] at this | exact this) GW164.out) | (rw [add_block]; exact Nat.ne_of_lt (Nat.lt_of_lt_of_le (by have := World.block_lt_of_cell? _ _ hw156_0; first | rwa [add_block] at this | exact this) GW164.out)) | (show (Addr.add _ _).block ≠ _; rw [add_block]; exact Nat.ne_of_lt (Nat.lt_of_lt_of_le (by have := World.block_lt_of_cell? _ _ hw156_0; first | rwa [add_block] at this | exact this) GW164.out)) | (dsimp only; exact Nat.ne_of_lt (Nat.lt_of_lt_of_le (by have := World.block_lt_of_cell? _ _ hw156_0; first | rwa [add_block] at this | exact this) GW164.out))) _).trans (hHeld))))) (fun hHeld => ?_)
                            clear hK K
                            refine done_ (done_of HT_.out (by kernel_rfl)) ?_
                            have hcz47_0 : w43.cell? ⟨gb164, 0, none⟩ = some (.int .i64 0) := (blk_cell BK164.out 0).trans rfl
                            have hcz47_1 : w43.cell? ⟨gb164, 1, none⟩ = some (.slice none 0 0) := (blk_cell BK164.out 1).trans rfl
                            have hfz47_0 := blk_frozen BK164.out 0
                            have hfz47_1 := blk_frozen BK164.out 1
                            try go_wp2_with (first | ((with_reducible refine gate_callee (f := 12) rfl ?_); refine goesL_ (some 50) rfl rfl Try.func12 (by kernel_rfl) rfl #[.int .u64 a0, .agg #[.int .i64 (wrap64 (Int.tmod (rd l1 x7_1) 1048576)), .slice Ao44 y161.length co44]] rfl (by (try simp only [List.map_toArray, List.map_cons, List.map_nil]); first | done | rfl | (simp only [List.length_drop, List.length_take]; rfl)) ?_; (with_reducible refine (lockfastref13_Encode.calls k1 a0 (wrap64 (Int.tmod (rd l1 x7_1) 1048576)) _ _ y161 t165 t168 _ ?side1 ?side2 A11.out).mono ?_); (case side1 => refine (Kd.R_reads' (e := 22) (base := w.heap.size) (ok := fun k_ => True) (n := y161.length) (c := co44) ?_).2.2; exact (by (with_reducible repeat (first | apply Kd.R_alloc | apply Kd.R_drewN | apply Kd.R_drew)); exact (Kd.R_mono (Kd.R_far (p := ⟨gb164, 1, none⟩) (Kd.R_far (p := ⟨gb164, 0, none⟩) (Kd.R_types HO163.out BK164.out (by decide)) (fun _ hk => hk.2) (.int .i64 (wrap64 (Int.tmod (rd l1 x7_1) 1048576)))) (fun _ hk => hk.2) (.slice Ao44 y161.length co44)) (fun _ h_ => h_.1)))); (case side2 => exact (Kd.R_reads' HO163.out).2.1); rintro e w48 ⟨v166, rfl, ho0, hb⟩; refine ⟨_, rfl, ?_⟩; have n0_ := Aside0.mk (Kd.S_elder' (by (with_reducible repeat (first | apply Kd.S_alloc | apply Kd.S_drewN | apply Kd.S_drew)); exact (Kd.S_mono (Kd.S_far (p := ⟨gb164, 1, none⟩) (Kd.S_far (p := ⟨gb164, 0, none⟩) (Kd.S_mono HO_6.out (fun k_ hk => (⟨hk, hk.2⟩ : _ ∧ k_ ≠ gb164))) (fun _ hk => hk.2) (.int .i64 (wrap64 (Int.tmod (rd l1 x7_1) 1048576)))) (fun _ hk => hk.2) (.slice Ao44 y161.length co44)) (fun _ h_ => h_.1))) (Kd.R_base ho0) hb); have n1_ := Aside0.mk (Kd.R_elder' (by (with_reducible repeat (first | apply Kd.R_alloc | apply Kd.R_drewN | apply Kd.R_drew)); exact (Kd.R_mono (Kd.R_far (p := ⟨gb164, 1, none⟩) (Kd.R_far (p := ⟨gb164, 0, none⟩) (Kd.R_types HO163.out BK164.out (by decide)) (fun _ hk => hk.2) (.int .i64 (wrap64 (Int.tmod (rd l1 x7_1) 1048576)))) (fun _ hk => hk.2) (.slice Ao44 y161.length co44)) (fun _ h_ => h_.1))) (Kd.R_base ho0) hb); have n2_ := Aside0.mk (Kd.R_lower (Kd.R_new' ho0 (Kd.R_lt (by (with_reducible repeat (first | apply Kd.R_alloc | apply Kd.R_drewN | apply Kd.R_drew)); exact (Kd.R_mono (Kd.R_far (p := ⟨gb164, 1, none⟩) (Kd.R_far (p := ⟨gb164, 0, none⟩) (Kd.R_types HO163.out BK164.out (by decide)) (fun _ hk => hk.2) (.int .i64 (wrap64 (Int.tmod (rd l1 x7_1) 1048576)))) (fun _ hk => hk.2) (.slice Ao44 y161.length co44)) (fun _ h_ => h_.1))))) (below_size (by repeat (first | (with_reducible first | exact HB.out | apply below_alloc | apply pw_below_drewN | apply below_drew1 | refine below_set ?_ GE164.out) | exact HB.out)))); have n3_ := Aside0.mk (blk_below (g := gb164) (o := .cells #[.int .i64 (wrap64 (Int.tmod (rd l1 x7_1) 1048576)), .slice Ao44 y161.length co44] 25 (0, 0)) (by (with_reducible repeat (first | refine blk_drewN ?_ _ | refine blk_drew ?_ | refine blk_alloc ?_ _)); refine blk_put (cs := #[.int .i64 (wrap64 (Int.tmod (rd l1 x7_1) 1048576)), .slice none 0 0]) ?_ 1 _ rfl; (with_reducible repeat (first | refine blk_drewN ?_ _ | refine blk_drew ?_ | refine blk_alloc ?_ _)); refine blk_put (cs := #[.int .i64 0, .slice none 0 0]) ?_ 0 _ rfl; (with_reducible repeat (first | refine blk_drewN ?_ _ | refine blk_drew ?_ | refine blk_alloc ?_ _)); exact BK164.out) hb); have n4_ := Aside0.mk (below_step (by repeat (first | (with_reducible first | exact HB.out | apply below_alloc | apply pw_below_drewN | apply below_drew1 | refine below_set ?_ GE164.out) | exact HB.out)) hb); clear HO_6; clear HO163; clear BK164; clear HB; have HO_6 := n0_; have HO163 := n1_; have HO167 := n2_; have BK164 := n3_; have HB := n4_; clear n0_ n1_ n2_ n3_ n4_; (try clear hb); (try clear hb2); (try clear hk); (try clear hi); (try clear ho0); obtain ⟨i049, hi049, _, hsz49, _⟩ := info_parts info22; obtain ⟨A49, hcut49, hA49, hC49⟩ := print_mid_of (P := Try.prog) (Value.int .u64) 0 23 22 .i64 .i64 Try.underlying23 hi049 hsz49 (some ad155) c1 l1 x7_1 (wrap64 ((wrap64 (x7_1 + (wrap64 (Int.tmod (IntKind.u64.wrap (Int.tdiv (rd l1 x7_1) 1048576)) 65536)))) + 2)) (of_decide_eq_true (by first | (with_reducible assumption) | assumption)) (by first | omega | exact of_decide_eq_true (by first | (with_reducible assumption) | assumption)) (of_decide_eq_true (by first | (with_reducible assumption) | assumption)) HC1.out; have HR169 := Aside0.mk (Kd.C_of_reads (h1 := fun _ => rfl) (hA49 _ (Kd.reads_of_C HR1.out))); have HC169 := Aside0.mk hC49; clear hA49 hC49 hi049 hsz49; obtain ⟨Ao50, co50, eo50⟩ := Kd.R_slice HO167.out; subst eo50) | (go_at_call 13; (first | (with_reducible refine (lockfastref01_Words.calls k1 _ _ t165 _ _ ((l1.take ((wrap64 ((wrap64 (x7_1 + (wrap64 (Int.tmod (IntKind.u64.wrap (Int.tdiv (rd l1 x7_1) 1048576)) 65536)))) + 2)) : Int).toNat).drop (x7_1 : Int).toNat) false _ ?side1 ?side2 ?side3 ?side4 A16.out).mono ?_) | (rw [← (show ((l1.take ((wrap64 ((wrap64 (x7_1 + (wrap64 (Int.tmod (IntKind.u64.wrap (Int.tdiv (rd l1 x7_1) 1048576)) 65536)))) + 2)) : Int).toNat).drop (x7_1 : Int).toNat).length = ((wrap64 ((wrap64 (x7_1 + (wrap64 (Int.tmod (IntKind.u64.wrap (Int.tdiv (rd l1 x7_1) 1048576)) 65536)))) + 2)) : Int).toNat - (x7_1 : Int).toNat from (by rw [List.length_drop, List.length_take]; have h_ : ((wrap64 ((wrap64 (x7_1 + (wrap64 (Int.tmod (IntKind.u64.wrap (Int.tdiv (rd l1 x7_1) 1048576)) 65536)))) + 2)) : Int) ≤ (l1.length : Int) := of_decide_eq_true (by first | (with_reducible assumption) | assumption); omega))]; (with_reducible refine (lockfastref01_Words.calls k1 _ _ t165 _ _ ((l1.take ((wrap64 ((wrap64 (x7_1 + (wrap64 (Int.tmod (IntKind.u64.wrap (Int.tdiv (rd l1 x7_1) 1048576)) 65536)))) + 2)) : Int).toNat).drop (x7_1 : Int).toNat) false _ ?side1 ?side2 ?side3 ?side4 A16.out).mono ?_))); (case side1 => repeat (first | exact (Kd.R_reads' HO167.out).2.2 | (with_reducible refine Kd.C_alloc ?_ _) | (with_reducible refine Kd.C_drewN ?_ _) | (with_reducible refine Kd.C_drew ?_))); (case side2 => exact (Kd.R_reads' HO167.out).2.1); (case side3 => repeat (first | exact (Kd.C_below HR169.out HB.out) | (with_reducible refine Kd.C_alloc ?_ _) | (with_reducible refine Kd.C_drewN ?_ _) | (with_reducible refine Kd.C_drew ?_))); (case side4 => exact HC169.out); rintro e w' ⟨rfl, ⟨nd, rfl⟩⟩))
                            go_ret2
                            exact ⟨_, by first | rfl | (simp [errW_none, errW_some] <;> rfl) | (simp only [← hji6]; first | rfl | (simp [errW_none, errW_some] <;> rfl)) | (simp [*, errW_none, errW_some] <;> rfl), by first | exact Kd.S_nil _ _ _ _ _ | exact Kd.N_nil _ _ _ _ _ | exact Kd.V_nil _ _ _ _ _ | exact Kd.Q_nil _ _ _ _ _ | exact Kd.R_nil _ _ _ _ _, by repeat (first | (with_reducible first | exact HB.out | apply below_alloc | apply pw_below_drewN | apply below_drew1 | refine below_set ?_ GE164.out) | exact HB.out)⟩
                        · rw [if_neg c15] at H
                          exact absurd H (by simp)
                      · rw [if_neg c14] at H
                        exact absurd H (by simp)
                    · rw [if_neg c12] at H
                      have c12b0 : (t168 == 0) = false := beq_eq_false_iff_ne.mpr c12
                      have c12b1 : (t168 != 0) = true := bne_iff_ne.mpr c12
                      simp only [Option.some.injEq, Prod.mk.injEq] at H
                      obtain ⟨rfl, rfl⟩ := H
                      have p155 : 0 ≤ (x7_1 : Int) := of_decide_eq_true (by first | (with_reducible assumption) | assumption)
                      have q155 : x7_1 < (l1.length : Int) := of_decide_eq_true (by first | (with_reducible assumption) | assumption)
                      obtain ⟨ad155, e155, hx155_0⟩ := Kd.at_int HR1.out x7_1 p155 q155
                      cases e155
                      replace hx155_0 := (HB.out.cell (World.block_lt_of_cell? w _ hx155_0)).trans hx155_0
                      replace p155 := eq_true p155
                      replace q155 := eq_true q155
                      try go_wp2
                      have n0_ := Aside0.mk (Kd.S_drew HO_6.out)
                      have n1_ := Aside0.mk (below_drew1 HB.out)
                      clear HO_6
                      clear HB
                      have HO_6 := n0_
                      have HB := n1_
                      clear n0_ n1_
                      have p156 : 0 ≤ (x7_1 : Int) := of_decide_eq_true (by first | (with_reducible assumption) | assumption)
                      have q156 : x7_1 < (l1.length : Int) := of_decide_eq_true (by first | (with_reducible assumption) | assumption)
                      obtain ⟨ad156, e156, hx156_0⟩ := Kd.at_int HR1.out x7_1 p156 q156
                      have hw156_0 := hx156_0
                      obtain rfl : ad155 = ad156 := (by injection e156)
                      replace hx156_0 := (HB.out.cell (World.block_lt_of_cell? w _ hx156_0)).trans hx156_0
                      replace p156 := eq_true p156
                      replace q156 := eq_true q156
                      obtain ⟨i052, hi052, _, hsz52, _⟩ := info_parts info22
                      obtain ⟨A52, hcut52, hA52, hC52⟩ := print_mid_of (P := Try.prog) (Value.int .u64) 0 23 22 .i64 .i64 Try.underlying23 hi052 hsz52 (some ad155) c1 l1 (ji6) (wrap64 ((ji6) + (wrap64 (Int.tmod (IntKind.u64.wrap (Int.tdiv (rd l1 x7_1) 1048576)) 65536)))) (of_decide_eq_true (by first | (with_reducible assumption) | assumption)) (by first | omega | exact of_decide_eq_true (by first | (with_reducible assumption) | assumption)) (of_decide_eq_true (by first | (with_reducible assumption) | assumption)) HC1.out
                      have HR160 := Aside0.mk (Kd.C_of_reads (h1 := fun _ => rfl) (hA52 _ (Kd.reads_of_C HR1.out)))
                      have HC160 := Aside0.mk hC52
                      clear hA52 hC52 hi052 hsz52
                      refine start_ (n := 19) (S := fun w' => w'.cell? (ad155.add (x7_1).toNat) = some (.int .u64 (rd l1 x7_1))) (ds := []) #[false, false, false, false, false, false, false, false, false, false, false, false, false, false, false, false, false, false, false] (by kernel_rfl) rfl rfl (((HB.out.cell (World.block_lt_of_cell? w _ hw156_0)).trans hw156_0)) (fun hHeld => ?_); refine with_tabW lockfastref13_Decode.tab7 lockfastref13_Decode.bits7 (fun HT_ HW_ => ?_)
                      generalize wr.drew = w51 at HO_6 HB HR160 hx156_0 hHeld ⊢
                      refine pure_ (i := 0) (N := some 30) (v := ?_) (a' := ?_) #[true, false, false, false, false, false, false, false, false, false, false, false, false, false, false, false, false, false, false] rfl rfl (any_of HT_.out (by kernel_rfl)) (fun _ _ _ h => h) (Or.inl ⟨by rfl, ?_⟩) ?_ ?_
                      rotate_left
                      · intro w'
                        go_simp
                        with_reducible rfl
                      rotate_left
                      · simp only [Act.put, List.setIfInBounds_toArray, List.set_cons_zero, List.set_cons_succ, i64_w, i32_w]
                        rfl
                      refine pure_ (i := 1) (N := some 31) (v := ?_) (a' := ?_) #[true, true, false, false, false, false, false, false, false, false, false, false, false, false, false, false, false, false, false] rfl rfl (any_of HT_.out (by kernel_rfl)) (fun _ _ _ h => h) (Or.inl ⟨by rfl, ?_⟩) ?_ ?_
                      rotate_left
                      · intro w'
                        go_simp
                        with_reducible rfl
                      rotate_left
                      · simp only [Act.put, List.setIfInBounds_toArray, List.set_cons_zero, List.set_cons_succ, i64_w, i32_w]
                        rfl
                      refine pure_ (i := 2) (N := some 32) (v := ?_) (a' := ?_) #[true, true, true, false, false, false, false, false, false, false, false, false, false, false, false, false, false, false, false] rfl rfl (any_of HT_.out (by kernel_rfl)) (fun _ _ _ h => h) (Or.inl ⟨by rfl, ?_⟩) ?_ ?_
                      rotate_left
                      · intro w'
                        go_simp
                        with_reducible rfl
                      rotate_left
                      · simp only [Act.put, List.setIfInBounds_toArray, List.set_cons_zero, List.set_cons_succ, i64_w, i32_w]
                        rfl
                      refine pure_ (i := 7) (N := some 37) (v := ?_) (a' := ?_) #[true, true, true, false, false, false, false, true, false, false, false, false, false, false, false, false, false, false, false] rfl rfl (any_of HT_.out (by kernel_rfl)) (fun _ _ _ h => h) (Or.inl ⟨by rfl, ?_⟩) ?_ ?_
                      rotate_left
                      · intro w'
                        go_simp
                        with_reducible rfl
                      rotate_left
                      · simp only [Act.put, List.setIfInBounds_toArray, List.set_cons_zero, List.set_cons_succ, i64_w, i32_w]
                        rfl
                      refine pure_ (i := 8) (N := some 38) (v := ?_) (a' := ?_) #[true, true, true, false, false, false, false, true, true, false, false, false, false, false, false, false, false, false, false] rfl rfl (any_of HT_.out (by kernel_rfl)) (fun _ _ _ h => h) (Or.inl ⟨by rfl, ?_⟩) ?_ ?_
                      rotate_left
                      · intro w'
                        go_simp
                        with_reducible rfl
                      rotate_left
                      · simp only [Act.put, List.setIfInBounds_toArray, List.set_cons_zero, List.set_cons_succ, i64_w, i32_w]
                        rfl
                      refine pure_ (i := 9) (N := some 39) (v := ?_) (a' := ?_) #[true, true, true, false, false, false, false, true, true, true, false, false, false, false, false, false, false, false, false] rfl rfl (any_of HT_.out (by kernel_rfl)) (fun _ _ _ h => h) (Or.inl ⟨by rfl, ?_⟩) ?_ ?_
                      rotate_left
                      · intro w'
                        go_simp
                        with_reducible rfl
                      rotate_left
                      · simp only [Act.put, List.setIfInBounds_toArray, List.set_cons_zero, List.set_cons_succ, i64_w, i32_w]
                        rfl
                      refine pure_ (i := 10) (N := some 40) (v := ?_) (a' := ?_) #[true, true, true, false, false, false, false, true, true, true, true, false, false, false, false, false, false, false, false] rfl rfl (any_of HT_.out (by kernel_rfl)) (fun _ _ _ h => h) (Or.inl ⟨by rfl, ?_⟩) ?_ ?_
                      rotate_left
                      · intro w'
                        go_simp
                        with_reducible rfl
                      rotate_left
                      · simp only [Act.put, List.setIfInBounds_toArray, List.set_cons_zero, List.set_cons_succ, i64_w, i32_w]
                        rfl
                      refine pure_ (i := 11) (N := some 41) (v := ?_) (a' := ?_) #[true, true, true, false, false, false, false, true, true, true, true, true, false, false, false, false, false, false, false] rfl rfl (any_of HT_.out (by kernel_rfl)) (fun _ _ _ h => h) (Or.inl ⟨by rfl, ?_⟩) ?_ ?_
                      rotate_left
                      · intro w'
                        go_simp
                        with_reducible rfl
                      rotate_left
                      · simp only [Act.put, List.setIfInBounds_toArray, List.set_cons_zero, List.set_cons_succ, i64_w, i32_w]
                        rfl
                      refine pure_ (i := 12) (N := some 42) (v := ?_) (a' := ?_) #[true, true, true, false, false, false, false, true, true, true, true, true, true, false, false, false, false, false, false] rfl rfl (any_of HT_.out (by kernel_rfl)) (fun _ _ _ h => h) (Or.inl ⟨by rfl, ?_⟩) ?_ ?_
                      rotate_left
                      · intro w'
                        go_simp
                        with_reducible rfl
                      rotate_left
                      · simp only [Act.put, List.setIfInBounds_toArray, List.set_cons_zero, List.set_cons_succ, i64_w, i32_w]
                        rfl
                      refine pure_ (i := 13) (N := some 43) (v := ?_) (a' := ?_) #[true, true, true, false, false, false, false, true, true, true, true, true, true, true, false, false, false, false, false] rfl rfl (any_of HT_.out (by kernel_rfl)) (fun _ _ _ h => h) (Or.inl ⟨by rfl, ?_⟩) ?_ ?_
                      rotate_left
                      · intro w'
                        go_simp
                        with_reducible rfl
                      rotate_left
                      · simp only [Act.put, List.setIfInBounds_toArray, List.set_cons_zero, List.set_cons_succ, i64_w, i32_w]
                        rfl
                      refine pure_ (i := 14) (N := some 44) (v := ?_) (a' := ?_) #[true, true, true, false, false, false, false, true, true, true, true, true, true, true, true, false, false, false, false] rfl rfl (any_of HT_.out (by kernel_rfl)) (fun _ _ _ h => h) (Or.inl ⟨by rfl, ?_⟩) ?_ ?_
                      rotate_left
                      · intro w'
                        go_simp
                        with_reducible rfl
                      rotate_left
                      · simp only [Act.put, List.setIfInBounds_toArray, List.set_cons_zero, List.set_cons_succ, i64_w, i32_w]
                        rfl
                      refine take_ (i := 3) (N := some 33) (v := ?_) (a' := ?_) #[true, true, true, true, false, false, false, true, true, true, true, true, true, true, true, false, false, false, false] rfl rfl (take_ofW HT_.out HW_.out (by kernel_rfl)) (fun _ _ _ h => h) (Or.inl ⟨by rfl, ?_⟩) hHeld ?_ ?_
                      rotate_left
                      · intro w' s0
                        go_simp
                        with_reducible rfl
                      rotate_left
                      · simp only [Act.put, List.setIfInBounds_toArray, List.set_cons_zero, List.set_cons_succ, i64_w, i32_w]
                        rfl
                      refine pure_ (i := 4) (N := some 34) (v := ?_) (a' := ?_) #[true, true, true, true, true, false, false, true, true, true, true, true, true, true, true, false, false, false, false] rfl rfl (any_of HT_.out (by kernel_rfl)) (fun _ _ _ h => h) (Or.inl ⟨by rfl, ?_⟩) ?_ ?_
                      rotate_left
                      · intro w'
                        go_simp
                        with_reducible rfl
                      rotate_left
                      · simp only [Act.put, List.setIfInBounds_toArray, List.set_cons_zero, List.set_cons_succ, i64_w, i32_w]
                        rfl
                      refine pure_ (i := 5) (N := some 35) (v := ?_) (a' := ?_) #[true, true, true, true, true, true, false, true, true, true, true, true, true, true, true, false, false, false, false] rfl rfl (any_of HT_.out (by kernel_rfl)) (fun _ _ _ h => h) (Or.inl ⟨by rfl, ?_⟩) ?_ ?_
                      rotate_left
                      · intro w'
                        go_simp
                        with_reducible rfl
                      rotate_left
                      · simp only [Act.put, List.setIfInBounds_toArray, List.set_cons_zero, List.set_cons_succ, i64_w, i32_w]
                        rfl
                      refine join_ (σ := Value × Value × Nat) 1 #[true, true, true, true, true, true, true, true, true, true, true, true, true, true, true, true, true, true, false] (fun s_ => [(36, s_.1), (45, s_.2.1), (9, .pointer (some ⟨s_.2.2, 0, none⟩)), (46, .agg #[.int .i64 (wrap64 (Int.tmod (rd l1 x7_1) 1048576)), s_.2.1])]) (fun s_ w' => (w'.cell? (ad155.add (x7_1).toNat) = some (.int .u64 (rd l1 x7_1))) ∧ (Kd.R (Kd.int .u64) 22 w' w.heap.size (fun _ => True) s_.2.1 y161) ∧ (Kd.S k25 25 w' w.heap.size (fun k_ => some k_ ≠ (s_.2.1 : Value).ownBlock ∧ k_ ≠ s_.2.2) u6 x6_1) ∧ (w'.heap[s_.2.2]? = some (.cells #[.int .i64 0, .slice none 0 0] 25 (0, 0))) ∧ (w.heap.size ≤ s_.2.2) ∧ (w.heap.size ≤ s_.2.2) ∧ (Below w.heap.size w w')) ?_ ?_
                      rotate_left
                      · intro hCont
                        refine two_ (i := 6) (j := 17) (Ni := some 36) (Nj := some 9) #[true, true, true, true, true, true, true, true, true, true, true, true, true, true, true, false, false, false, false] #[true, true, true, true, true, true, false, true, true, true, true, true, true, true, true, false, false, true, false] rfl rfl rfl rfl (two_of HT_.out (by kernel_rfl)) (by decide) (by decide) (fun K hK => ?_) (fun K hK => ?_)
                        · skip
                          refine Kd.R_lit_step (Kd.int .u64) _ 22 ?hg (N := 36) ?hd (xs := ([] : List Int)) (inner := []) (ok := fun _ => True) (okp := fun _ => True) ?hr ?hp (fun _ hk => hk) trivial (Below.refl _ _) (Nat.le_refl _) (by simp) ?_; (case hd => rfl); (case hg => rfl); (case hr => first | (go_simp; done) | (go_simp; rfl)); (case hp => exact (Reps.none _ _))
                          intro v158 w53 ho54 hb hg_ hnew_
                          clear hg_ hnew_
                          (first | rw [← Ny157.out] at ho54 | (simp only [Int.reduceToNat] at ho54; rw [← Ny157.out] at ho54))
                          have n0_ := Aside0.mk (Kd.S_elder' (by (with_reducible repeat (first | apply Kd.S_alloc | apply Kd.S_drewN | apply Kd.S_drew)); exact HO_6.out) (Kd.R_base ho54) hb)
                          have n1_ := Aside0.mk (Kd.R_lower ho54 (below_size (by repeat (first | (with_reducible first | exact HB.out | apply below_alloc | apply pw_below_drewN | apply below_drew1) | exact HB.out))))
                          have n2_ := Aside0.mk (below_step (by repeat (first | (with_reducible first | exact HB.out | apply below_alloc | apply pw_below_drewN | apply below_drew1) | exact HB.out)) hb)
                          clear HO_6
                          clear HB
                          have HO_6 := n0_
                          have HO159 := n1_
                          have HB := n2_
                          clear n0_ n1_ n2_
                          clear hb ho54
                          refine hK.out _ _ (((HB.out.cell (World.block_lt_of_cell? w _ hw156_0)).trans hw156_0)) (fun hHeld => ?_)
                          clear hK K
                          refine norm_ (a' := ?_) ?_ ?_
                          rotate_left
                          · show Act.put _ (some 36) _ = _
                            simp only [Act.put, List.setIfInBounds_toArray, List.set_cons_zero, List.set_cons_succ, i64_w, i32_w]
                            rfl
                          refine two_ (i := 15) (j := 17) (Ni := some 45) (Nj := some 9) #[true, true, true, true, true, true, true, true, true, true, true, true, true, true, true, true, false, false, false] #[true, true, true, true, true, true, true, true, true, true, true, true, true, true, true, false, false, true, false] rfl rfl rfl rfl (two_of HT_.out (by kernel_rfl)) (by decide) (by decide) (fun K hK => ?_) (fun K hK => ?_)
                          · skip
                            refine Kd.R_append_rows_step (Kd.int .u64) (w0 := w) w.heap.size (by rfl) (.tmp 36) (.tmp 44) 23 22 (.int .u64 0) 8 rfl Try.underlying23 info22 rfl (by decide) (by omega) v158 y157 ((l1.take ((wrap64 ((ji6) + (wrap64 (Int.tmod (IntKind.u64.wrap (Int.tdiv (rd l1 x7_1) 1048576)) 65536)))) : Int).toNat).drop ((ji6) : Int).toNat) _ _ _ (fun _ => True) (fun _ => False) rfl rfl ?aO ?aR (fun _ _ h => h) (fun _ h => h.elim) ?aF ?aB ?aS ?aL ?_
                            (case aR => first | (rw [← show ((l1.take ((wrap64 ((ji6) + (wrap64 (Int.tmod (IntKind.u64.wrap (Int.tdiv (rd l1 x7_1) 1048576)) 65536)))) : Int).toNat).drop ((ji6) : Int).toNat).length = ((wrap64 ((ji6) + (wrap64 (Int.tmod (IntKind.u64.wrap (Int.tdiv (rd l1 x7_1) 1048576)) 65536)))).toNat - (ji6).toNat) from (by rw [List.length_drop, List.length_take]; have h_ : ((wrap64 ((ji6) + (wrap64 (Int.tmod (IntKind.u64.wrap (Int.tdiv (rd l1 x7_1) 1048576)) 65536)))) : Int) ≤ (l1.length : Int) := of_decide_eq_true (by first | (with_reducible assumption) | assumption); omega)]; repeat (first | exact (Kd.C_below HR160.out HB.out) | (with_reducible refine Kd.C_alloc ?_ _) | (with_reducible refine Kd.C_drewN ?_ _) | (with_reducible refine Kd.C_drew ?_))) | (repeat (first | exact (Kd.C_below HR160.out HB.out) | (with_reducible refine Kd.C_alloc ?_ _) | (with_reducible refine Kd.C_drewN ?_ _) | (with_reducible refine Kd.C_drew ?_))))
                            (case aB => exact (by repeat (first | (with_reducible first | exact HB.out | apply below_alloc | apply pw_below_drewN | apply below_drew1) | exact HB.out)))
                            (case aF => exact (fun _ _ => trivial))
                            (case aO => exact (by (with_reducible repeat (first | apply Kd.R_alloc | apply Kd.R_drewN | apply Kd.R_drew)); exact HO159.out))
                            (case aS => exact (below_size (by repeat (first | (with_reducible first | exact HB.out | apply below_alloc | apply pw_below_drewN | apply below_drew1) | exact HB.out))))
                            (case aL => have := LMc10.out; have hlx_ := (show ((l1.take ((wrap64 ((ji6) + (wrap64 (Int.tmod (IntKind.u64.wrap (Int.tdiv (rd l1 x7_1) 1048576)) 65536)))) : Int).toNat).drop ((ji6) : Int).toNat).length = ((wrap64 ((ji6) + (wrap64 (Int.tmod (IntKind.u64.wrap (Int.tdiv (rd l1 x7_1) 1048576)) 65536)))).toNat - (ji6).toNat) from (by rw [List.length_drop, List.length_take]; have h_ : ((wrap64 ((ji6) + (wrap64 (Int.tmod (IntKind.u64.wrap (Int.tdiv (rd l1 x7_1) 1048576)) 65536)))) : Int) ≤ (l1.length : Int) := of_decide_eq_true (by first | (with_reducible assumption) | assumption); omega)); omega)
                            intro v162 w55 ho hb hg hat
                            rw [← Ny161.out] at ho
                            have n0_ := Aside0.mk (Kd.S_after (ok := (fun _ => True)) (by (with_reducible repeat (first | apply Kd.S_alloc | apply Kd.S_drewN | apply Kd.S_drew)); exact HO_6.out) hg hat)
                            have n1_ := Aside0.mk (hb)
                            have n2_ := Aside0.mk (ho)
                            clear HO_6
                            clear HB
                            clear HO159
                            have HO_6 := n0_
                            have HB := n1_
                            have HO163 := n2_
                            clear n0_ n1_ n2_
                            clear ho hb hg hat
                            obtain ⟨Ao56, co56, eo56⟩ := Kd.R_slice HO163.out
                            (first | subst eo56 | (injection eo56 with f1_ f2_ f3_; have f4_ := f1_.symm; have f5_ := f3_.symm; clear f1_ f2_ f3_; subst f4_; subst f5_))
                            refine hK.out _ _ (((HB.out.cell (World.block_lt_of_cell? w _ hw156_0)).trans hw156_0)) (fun hHeld => ?_)
                            clear hK K
                            refine norm_ (a' := ?_) ?_ ?_
                            rotate_left
                            · show Act.put _ (some 45) _ = _
                              simp only [Act.put, List.setIfInBounds_toArray, List.set_cons_zero, List.set_cons_succ, i64_w, i32_w]
                              rfl
                            refine pure_ (i := 16) (N := some 46) (v := ?_) (a' := ?_) #[true, true, true, true, true, true, true, true, true, true, true, true, true, true, true, true, true, false, false] rfl rfl (any_of HT_.out (by kernel_rfl)) (fun _ _ _ h => h) (Or.inl ⟨by rfl, ?_⟩) ?_ ?_
                            rotate_left
                            · intro w'
                              go_simp
                              with_reducible rfl
                            rotate_left
                            · simp only [Act.put, List.setIfInBounds_toArray, List.set_cons_zero, List.set_cons_succ, i64_w, i32_w]
                              rfl
                            refine one_ (i := 17) (N := some 9) #[true, true, true, true, true, true, true, true, true, true, true, true, true, true, true, true, true, true, false] rfl rfl (one_of HT_.out (by kernel_rfl)) (by decide) (fun K hK => ?_)
                            refine box_step ?hg (N := 9) ?hd (cs := #[.int .i64 0, .slice none 0 0]) (t := 25) ?hr ?_; (case hd => rfl); (case hg => rfl); (case hr => first | (go_simp; done) | (go_simp; rfl))
                            intro gb164 hg w57 hbox hb
                            have n0_ := Aside0.mk (Kd.S_below (Kd.S_elderB (by (with_reducible repeat (first | apply Kd.S_alloc | apply Kd.S_drewN | apply Kd.S_drew)); exact HO_6.out) gb164 (Nat.le_of_eq hg.symm)) hb)
                            have n1_ := Aside0.mk (Kd.R_below (by (with_reducible repeat (first | apply Kd.R_alloc | apply Kd.R_drewN | apply Kd.R_drew)); exact HO163.out) hb)
                            have n2_ := Aside0.mk (below_step (by repeat (first | (with_reducible first | exact HB.out | apply below_alloc | apply pw_below_drewN | apply below_drew1) | exact HB.out)) hb)
                            have n3_ := Aside0.mk (hbox)
                            have n4_ := Aside0.mk ((by rw [hg]; exact (below_size (by repeat (first | (with_reducible first | exact HB.out | apply below_alloc | apply pw_below_drewN | apply below_drew1) | exact HB.out))) : w.heap.size ≤ gb164))
                            have n5_ := Aside0.mk ((by rw [hg]; exact (below_size (by repeat (first | (with_reducible first | exact HB.out | apply below_alloc | apply pw_below_drewN | apply below_drew1) | exact HB.out))) : w.heap.size ≤ gb164))
                            clear HO_6
                            clear HO163
                            clear HB
                            have HO_6 := n0_
                            have HO163 := n1_
                            have HB := n2_
                            have BK164 := n3_
                            have GW164 := n4_
                            have GE164 := n5_
                            clear n0_ n1_ n2_ n3_ n4_ n5_
                            clear hb hbox hg
                            refine hK.out _ _ (((HB.out.cell (World.block_lt_of_cell? w _ hw156_0)).trans hw156_0)) (fun hHeld => ?_)
                            clear hK K
                            refine norm_ (a' := ?_) ?_ ?_
                            rotate_left
                            · show Act.put _ (some 9) _ = _
                              simp only [Act.put, List.setIfInBounds_toArray, List.set_cons_zero, List.set_cons_succ, i64_w, i32_w]
                              rfl
                            exact norm_ (by simp only [putAll, Act.put, List.setIfInBounds_toArray, List.set_cons_zero, List.set_cons_succ]) (hCont (v158, .slice Ao56 y161.length co56, gb164) _ ⟨hHeld, (by (with_reducible repeat (first | apply Kd.R_alloc | apply Kd.R_drewN | apply Kd.R_drew)); exact HO163.out), (by (with_reducible repeat (first | apply Kd.S_alloc | apply Kd.S_drewN | apply Kd.S_drew)); exact Kd.S_mono HO_6.out (fun _ hk => ⟨hk.1.2, hk.2⟩)), (by (with_reducible repeat (first | refine blk_drewN ?_ _ | refine blk_drew ?_ | refine blk_alloc ?_ _)); exact BK164.out), GW164.out, GE164.out, (by repeat (first | (with_reducible first | exact HB.out | apply below_alloc | apply pw_below_drewN | apply below_drew1 | refine below_set ?_ GE164.out) | exact HB.out))⟩)
                          · skip
                            refine box_step ?hg (N := 9) ?hd (cs := #[.int .i64 0, .slice none 0 0]) (t := 25) ?hr ?_; (case hd => rfl); (case hg => rfl); (case hr => first | (go_simp; done) | (go_simp; rfl))
                            intro gb164 hg w55 hbox hb
                            have n0_ := Aside0.mk (Kd.S_below (Kd.S_elderB (by (with_reducible repeat (first | apply Kd.S_alloc | apply Kd.S_drewN | apply Kd.S_drew)); exact HO_6.out) gb164 (Nat.le_of_eq hg.symm)) hb)
                            have n1_ := Aside0.mk (Kd.R_below (by (with_reducible repeat (first | apply Kd.R_alloc | apply Kd.R_drewN | apply Kd.R_drew)); exact HO159.out) hb)
                            have n2_ := Aside0.mk (below_step (by repeat (first | (with_reducible first | exact HB.out | apply below_alloc | apply pw_below_drewN | apply below_drew1) | exact HB.out)) hb)
                            have n3_ := Aside0.mk (hbox)
                            have n4_ := Aside0.mk ((by rw [hg]; exact (below_size (by repeat (first | (with_reducible first | exact HB.out | apply below_alloc | apply pw_below_drewN | apply below_drew1) | exact HB.out))) : w.heap.size ≤ gb164))
                            have n5_ := Aside0.mk ((by rw [hg]; exact (below_size (by repeat (first | (with_reducible first | exact HB.out | apply below_alloc | apply pw_below_drewN | apply below_drew1) | exact HB.out))) : w.heap.size ≤ gb164))
                            clear HO_6
                            clear HO159
                            clear HB
                            have HO_6 := n0_
                            have HO159 := n1_
                            have HB := n2_
                            have BK164 := n3_
                            have GW164 := n4_
                            have GE164 := n5_
                            clear n0_ n1_ n2_ n3_ n4_ n5_
                            clear hb hbox hg
                            refine hK.out _ _ (((HB.out.cell (World.block_lt_of_cell? w _ hw156_0)).trans hw156_0)) (fun hHeld => ?_)
                            clear hK K
                            refine norm_ (a' := ?_) ?_ ?_
                            rotate_left
                            · show Act.put _ (some 9) _ = _
                              simp only [Act.put, List.setIfInBounds_toArray, List.set_cons_zero, List.set_cons_succ, i64_w, i32_w]
                              rfl
                            refine one_ (i := 15) (N := some 45) #[true, true, true, true, true, true, true, true, true, true, true, true, true, true, true, true, false, true, false] rfl rfl (one_of HT_.out (by kernel_rfl)) (by decide) (fun K hK => ?_)
                            refine Kd.R_append_rows_step (Kd.int .u64) (w0 := w) w.heap.size (by rfl) (.tmp 36) (.tmp 44) 23 22 (.int .u64 0) 8 rfl Try.underlying23 info22 rfl (by decide) (by omega) v158 y157 ((l1.take ((wrap64 ((ji6) + (wrap64 (Int.tmod (IntKind.u64.wrap (Int.tdiv (rd l1 x7_1) 1048576)) 65536)))) : Int).toNat).drop ((ji6) : Int).toNat) _ _ _ (fun _ => True) (fun _ => False) rfl rfl ?aO ?aR (fun _ _ h => h) (fun _ h => h.elim) ?aF ?aB ?aS ?aL ?_
                            (case aR => first | (rw [← show ((l1.take ((wrap64 ((ji6) + (wrap64 (Int.tmod (IntKind.u64.wrap (Int.tdiv (rd l1 x7_1) 1048576)) 65536)))) : Int).toNat).drop ((ji6) : Int).toNat).length = ((wrap64 ((ji6) + (wrap64 (Int.tmod (IntKind.u64.wrap (Int.tdiv (rd l1 x7_1) 1048576)) 65536)))).toNat - (ji6).toNat) from (by rw [List.length_drop, List.length_take]; have h_ : ((wrap64 ((ji6) + (wrap64 (Int.tmod (IntKind.u64.wrap (Int.tdiv (rd l1 x7_1) 1048576)) 65536)))) : Int) ≤ (l1.length : Int) := of_decide_eq_true (by first | (with_reducible assumption) | assumption); omega)]; repeat (first | exact (Kd.C_below HR160.out HB.out) | (with_reducible refine Kd.C_alloc ?_ _) | (with_reducible refine Kd.C_drewN ?_ _) | (with_reducible refine Kd.C_drew ?_))) | (repeat (first | exact (Kd.C_below HR160.out HB.out) | (with_reducible refine Kd.C_alloc ?_ _) | (with_reducible refine Kd.C_drewN ?_ _) | (with_reducible refine Kd.C_drew ?_))))
                            (case aB => exact (by repeat (first | (with_reducible first | exact HB.out | apply below_alloc | apply pw_below_drewN | apply below_drew1 | refine below_set ?_ GE164.out) | exact HB.out)))
                            (case aF => exact (fun _ _ => trivial))
                            (case aO => exact (by (with_reducible repeat (first | apply Kd.R_alloc | apply Kd.R_drewN | apply Kd.R_drew)); exact HO159.out))
                            (case aS => exact (below_size (by repeat (first | (with_reducible first | exact HB.out | apply below_alloc | apply pw_below_drewN | apply below_drew1 | refine below_set ?_ GE164.out) | exact HB.out))))
                            (case aL => have := LMc10.out; have hlx_ := (show ((l1.take ((wrap64 ((ji6) + (wrap64 (Int.tmod (IntKind.u64.wrap (Int.tdiv (rd l1 x7_1) 1048576)) 65536)))) : Int).toNat).drop ((ji6) : Int).toNat).length = ((wrap64 ((ji6) + (wrap64 (Int.tmod (IntKind.u64.wrap (Int.tdiv (rd l1 x7_1) 1048576)) 65536)))).toNat - (ji6).toNat) from (by rw [List.length_drop, List.length_take]; have h_ : ((wrap64 ((ji6) + (wrap64 (Int.tmod (IntKind.u64.wrap (Int.tdiv (rd l1 x7_1) 1048576)) 65536)))) : Int) ≤ (l1.length : Int) := of_decide_eq_true (by first | (with_reducible assumption) | assumption); omega)); omega)
                            intro v162 w56 ho hb hg hat
                            rw [← Ny161.out] at ho
                            have n0_ := Aside0.mk (Kd.S_after (ok := (fun k_ => k_ ≠ gb164)) (by (with_reducible repeat (first | apply Kd.S_alloc | apply Kd.S_drewN | apply Kd.S_drew)); exact Kd.S_mono HO_6.out (fun _ hk => ⟨hk.2, hk.1.2⟩)) hg hat)
                            have n1_ := Aside0.mk (blk_grown (g := gb164) (o := .cells #[.int .i64 0, .slice none 0 0] 25 (0, 0)) (by (with_reducible repeat (first | refine blk_drewN ?_ _ | refine blk_drew ?_ | refine blk_alloc ?_ _)); exact BK164.out) hg (Kd.R_ne HO159.out BK164.out (by decide)))
                            have n2_ := Aside0.mk (hb)
                            have n3_ := Aside0.mk (ho)
                            clear HO_6
                            clear BK164
                            clear HB
                            clear HO159
                            have HO_6 := n0_
                            have BK164 := n1_
                            have HB := n2_
                            have HO163 := n3_
                            clear n0_ n1_ n2_ n3_
                            clear ho hb hg hat
                            obtain ⟨Ao57, co57, eo57⟩ := Kd.R_slice HO163.out
                            (first | subst eo57 | (injection eo57 with f1_ f2_ f3_; have f4_ := f1_.symm; have f5_ := f3_.symm; clear f1_ f2_ f3_; subst f4_; subst f5_))
                            refine hK.out _ _ (((HB.out.cell (World.block_lt_of_cell? w _ hw156_0)).trans hw156_0)) (fun hHeld => ?_)
                            clear hK K
                            refine norm_ (a' := ?_) ?_ ?_
                            rotate_left
                            · show Act.put _ (some 45) _ = _
                              simp only [Act.put, List.setIfInBounds_toArray, List.set_cons_zero, List.set_cons_succ, i64_w, i32_w]
                              rfl
                            refine pure_ (i := 16) (N := some 46) (v := ?_) (a' := ?_) #[true, true, true, true, true, true, true, true, true, true, true, true, true, true, true, true, true, true, false] rfl rfl (any_of HT_.out (by kernel_rfl)) (fun _ _ _ h => h) (Or.inl ⟨by rfl, ?_⟩) ?_ ?_
                            rotate_left
                            · intro w'
                              go_simp
                              with_reducible rfl
                            rotate_left
                            · simp only [Act.put, List.setIfInBounds_toArray, List.set_cons_zero, List.set_cons_succ, i64_w, i32_w]
                              rfl
                            exact norm_ (by simp only [putAll, Act.put, List.setIfInBounds_toArray, List.set_cons_zero, List.set_cons_succ]) (hCont (v158, .slice Ao57 y161.length co57, gb164) _ ⟨hHeld, (by (with_reducible repeat (first | apply Kd.R_alloc | apply Kd.R_drewN | apply Kd.R_drew)); exact HO163.out), (by (with_reducible repeat (first | apply Kd.S_alloc | apply Kd.S_drewN | apply Kd.S_drew)); exact Kd.S_mono HO_6.out (fun _ hk => ⟨hk.2, hk.1⟩)), (by (with_reducible repeat (first | refine blk_drewN ?_ _ | refine blk_drew ?_ | refine blk_alloc ?_ _)); exact BK164.out), GW164.out, GE164.out, (by repeat (first | (with_reducible first | exact HB.out | apply below_alloc | apply pw_below_drewN | apply below_drew1 | refine below_set ?_ GE164.out) | exact HB.out))⟩)
                        · skip
                          refine box_step ?hg (N := 9) ?hd (cs := #[.int .i64 0, .slice none 0 0]) (t := 25) ?hr ?_; (case hd => rfl); (case hg => rfl); (case hr => first | (go_simp; done) | (go_simp; rfl))
                          intro gb164 hg w53 hbox hb
                          have n0_ := Aside0.mk (Kd.S_below (Kd.S_elderB (by (with_reducible repeat (first | apply Kd.S_alloc | apply Kd.S_drewN | apply Kd.S_drew)); exact HO_6.out) gb164 (Nat.le_of_eq hg.symm)) hb)
                          have n1_ := Aside0.mk (below_step (by repeat (first | (with_reducible first | exact HB.out | apply below_alloc | apply pw_below_drewN | apply below_drew1) | exact HB.out)) hb)
                          have n2_ := Aside0.mk (hbox)
                          have n3_ := Aside0.mk ((by rw [hg]; exact (below_size (by repeat (first | (with_reducible first | exact HB.out | apply below_alloc | apply pw_below_drewN | apply below_drew1) | exact HB.out))) : w.heap.size ≤ gb164))
                          have n4_ := Aside0.mk ((by rw [hg]; exact (below_size (by repeat (first | (with_reducible first | exact HB.out | apply below_alloc | apply pw_below_drewN | apply below_drew1) | exact HB.out))) : w.heap.size ≤ gb164))
                          clear HO_6
                          clear HB
                          have HO_6 := n0_
                          have HB := n1_
                          have BK164 := n2_
                          have GW164 := n3_
                          have GE164 := n4_
                          clear n0_ n1_ n2_ n3_ n4_
                          clear hb hbox hg
                          refine hK.out _ _ (((HB.out.cell (World.block_lt_of_cell? w _ hw156_0)).trans hw156_0)) (fun hHeld => ?_)
                          clear hK K
                          refine norm_ (a' := ?_) ?_ ?_
                          rotate_left
                          · show Act.put _ (some 9) _ = _
                            simp only [Act.put, List.setIfInBounds_toArray, List.set_cons_zero, List.set_cons_succ, i64_w, i32_w]
                            rfl
                          refine one_ (i := 6) (N := some 36) #[true, true, true, true, true, true, true, true, true, true, true, true, true, true, true, false, false, true, false] rfl rfl (one_of HT_.out (by kernel_rfl)) (by decide) (fun K hK => ?_)
                          refine Kd.R_lit_step (Kd.int .u64) _ 22 ?hg (N := 36) ?hd (xs := ([] : List Int)) (inner := []) (ok := fun _ => True) (okp := fun _ => True) ?hr ?hp (fun _ hk => hk) trivial (Below.refl _ _) (Nat.le_refl _) (by simp) ?_; (case hd => rfl); (case hg => rfl); (case hr => first | (go_simp; done) | (go_simp; rfl)); (case hp => exact (Reps.none _ _))
                          intro v158 w54 ho55 hb hg_ hnew_
                          clear hg_ hnew_
                          (first | rw [← Ny157.out] at ho55 | (simp only [Int.reduceToNat] at ho55; rw [← Ny157.out] at ho55))
                          have n0_ := Aside0.mk (Kd.S_elder' (by (with_reducible repeat (first | apply Kd.S_alloc | apply Kd.S_drewN | apply Kd.S_drew)); exact HO_6.out) (Kd.R_base ho55) hb)
                          have n1_ := Aside0.mk (Kd.R_lower ho55 (below_size (by repeat (first | (with_reducible first | exact HB.out | apply below_alloc | apply pw_below_drewN | apply below_drew1 | refine below_set ?_ GE164.out) | exact HB.out))))
                          have n2_ := Aside0.mk (blk_below (g := gb164) (o := .cells #[.int .i64 0, .slice none 0 0] 25 (0, 0)) (by (with_reducible repeat (first | refine blk_drewN ?_ _ | refine blk_drew ?_ | refine blk_alloc ?_ _)); exact BK164.out) hb)
                          have n3_ := Aside0.mk (below_step (by repeat (first | (with_reducible first | exact HB.out | apply below_alloc | apply pw_below_drewN | apply below_drew1 | refine below_set ?_ GE164.out) | exact HB.out)) hb)
                          clear HO_6
                          clear BK164
                          clear HB
                          have HO_6 := n0_
                          have HO159 := n1_
                          have BK164 := n2_
                          have HB := n3_
                          clear n0_ n1_ n2_ n3_
                          clear hb ho55
                          refine hK.out _ _ (((HB.out.cell (World.block_lt_of_cell? w _ hw156_0)).trans hw156_0)) (fun hHeld => ?_)
                          clear hK K
                          refine norm_ (a' := ?_) ?_ ?_
                          rotate_left
                          · show Act.put _ (some 36) _ = _
                            simp only [Act.put, List.setIfInBounds_toArray, List.set_cons_zero, List.set_cons_succ, i64_w, i32_w]
                            rfl
                          refine one_ (i := 15) (N := some 45) #[true, true, true, true, true, true, true, true, true, true, true, true, true, true, true, true, false, true, false] rfl rfl (one_of HT_.out (by kernel_rfl)) (by decide) (fun K hK => ?_)
                          refine Kd.R_append_rows_step (Kd.int .u64) (w0 := w) w.heap.size (by rfl) (.tmp 36) (.tmp 44) 23 22 (.int .u64 0) 8 rfl Try.underlying23 info22 rfl (by decide) (by omega) v158 y157 ((l1.take ((wrap64 ((ji6) + (wrap64 (Int.tmod (IntKind.u64.wrap (Int.tdiv (rd l1 x7_1) 1048576)) 65536)))) : Int).toNat).drop ((ji6) : Int).toNat) _ _ _ (fun _ => True) (fun _ => False) rfl rfl ?aO ?aR (fun _ _ h => h) (fun _ h => h.elim) ?aF ?aB ?aS ?aL ?_
                          (case aR => first | (rw [← show ((l1.take ((wrap64 ((ji6) + (wrap64 (Int.tmod (IntKind.u64.wrap (Int.tdiv (rd l1 x7_1) 1048576)) 65536)))) : Int).toNat).drop ((ji6) : Int).toNat).length = ((wrap64 ((ji6) + (wrap64 (Int.tmod (IntKind.u64.wrap (Int.tdiv (rd l1 x7_1) 1048576)) 65536)))).toNat - (ji6).toNat) from (by rw [List.length_drop, List.length_take]; have h_ : ((wrap64 ((ji6) + (wrap64 (Int.tmod (IntKind.u64.wrap (Int.tdiv (rd l1 x7_1) 1048576)) 65536)))) : Int) ≤ (l1.length : Int) := of_decide_eq_true (by first | (with_reducible assumption) | assumption); omega)]; repeat (first | exact (Kd.C_below HR160.out HB.out) | (with_reducible refine Kd.C_alloc ?_ _) | (with_reducible refine Kd.C_drewN ?_ _) | (with_reducible refine Kd.C_drew ?_))) | (repeat (first | exact (Kd.C_below HR160.out HB.out) | (with_reducible refine Kd.C_alloc ?_ _) | (with_reducible refine Kd.C_drewN ?_ _) | (with_reducible refine Kd.C_drew ?_))))
                          (case aB => exact (by repeat (first | (with_reducible first | exact HB.out | apply below_alloc | apply pw_below_drewN | apply below_drew1 | refine below_set ?_ GE164.out) | exact HB.out)))
                          (case aF => exact (fun _ _ => trivial))
                          (case aO => exact (by (with_reducible repeat (first | apply Kd.R_alloc | apply Kd.R_drewN | apply Kd.R_drew)); exact HO159.out))
                          (case aS => exact (below_size (by repeat (first | (with_reducible first | exact HB.out | apply below_alloc | apply pw_below_drewN | apply below_drew1 | refine below_set ?_ GE164.out) | exact HB.out))))
                          (case aL => have := LMc10.out; have hlx_ := (show ((l1.take ((wrap64 ((ji6) + (wrap64 (Int.tmod (IntKind.u64.wrap (Int.tdiv (rd l1 x7_1) 1048576)) 65536)))) : Int).toNat).drop ((ji6) : Int).toNat).length = ((wrap64 ((ji6) + (wrap64 (Int.tmod (IntKind.u64.wrap (Int.tdiv (rd l1 x7_1) 1048576)) 65536)))).toNat - (ji6).toNat) from (by rw [List.length_drop, List.length_take]; have h_ : ((wrap64 ((ji6) + (wrap64 (Int.tmod (IntKind.u64.wrap (Int.tdiv (rd l1 x7_1) 1048576)) 65536)))) : Int) ≤ (l1.length : Int) := of_decide_eq_true (by first | (with_reducible assumption) | assumption); omega)); omega)
                          intro v162 w56 ho hb hg hat
                          rw [← Ny161.out] at ho
                          have n0_ := Aside0.mk (Kd.S_after (ok := (fun k_ => k_ ≠ gb164)) (by (with_reducible repeat (first | apply Kd.S_alloc | apply Kd.S_drewN | apply Kd.S_drew)); exact Kd.S_mono HO_6.out (fun _ hk => ⟨hk.1.2, hk.2⟩)) hg hat)
                          have n1_ := Aside0.mk (blk_grown (g := gb164) (o := .cells #[.int .i64 0, .slice none 0 0] 25 (0, 0)) (by (with_reducible repeat (first | refine blk_drewN ?_ _ | refine blk_drew ?_ | refine blk_alloc ?_ _)); exact BK164.out) hg (Kd.R_ne HO159.out BK164.out (by decide)))
                          have n2_ := Aside0.mk (hb)
                          have n3_ := Aside0.mk (ho)
                          clear HO_6
                          clear BK164
                          clear HB
                          clear HO159
                          have HO_6 := n0_
                          have BK164 := n1_
                          have HB := n2_
                          have HO163 := n3_
                          clear n0_ n1_ n2_ n3_
                          clear ho hb hg hat
                          obtain ⟨Ao57, co57, eo57⟩ := Kd.R_slice HO163.out
                          (first | subst eo57 | (injection eo57 with f1_ f2_ f3_; have f4_ := f1_.symm; have f5_ := f3_.symm; clear f1_ f2_ f3_; subst f4_; subst f5_))
                          refine hK.out _ _ (((HB.out.cell (World.block_lt_of_cell? w _ hw156_0)).trans hw156_0)) (fun hHeld => ?_)
                          clear hK K
                          refine norm_ (a' := ?_) ?_ ?_
                          rotate_left
                          · show Act.put _ (some 45) _ = _
                            simp only [Act.put, List.setIfInBounds_toArray, List.set_cons_zero, List.set_cons_succ, i64_w, i32_w]
                            rfl
                          refine pure_ (i := 16) (N := some 46) (v := ?_) (a' := ?_) #[true, true, true, true, true, true, true, true, true, true, true, true, true, true, true, true, true, true, false] rfl rfl (any_of HT_.out (by kernel_rfl)) (fun _ _ _ h => h) (Or.inl ⟨by rfl, ?_⟩) ?_ ?_
                          rotate_left
                          · intro w'
                            go_simp
                            with_reducible rfl
                          rotate_left
                          · simp only [Act.put, List.setIfInBounds_toArray, List.set_cons_zero, List.set_cons_succ, i64_w, i32_w]
                            rfl
                          exact norm_ (by simp only [putAll, Act.put, List.setIfInBounds_toArray, List.set_cons_zero, List.set_cons_succ]) (hCont (v158, .slice Ao57 y161.length co57, gb164) _ ⟨hHeld, (by (with_reducible repeat (first | apply Kd.R_alloc | apply Kd.R_drewN | apply Kd.R_drew)); exact HO163.out), (by (with_reducible repeat (first | apply Kd.S_alloc | apply Kd.S_drewN | apply Kd.S_drew)); exact Kd.S_mono HO_6.out (fun _ hk => ⟨hk.2, hk.1⟩)), (by (with_reducible repeat (first | refine blk_drewN ?_ _ | refine blk_drew ?_ | refine blk_alloc ?_ _)); exact BK164.out), GW164.out, GE164.out, (by repeat (first | (with_reducible first | exact HB.out | apply below_alloc | apply pw_below_drewN | apply below_drew1 | refine below_set ?_ GE164.out) | exact HB.out))⟩)
                      rintro ⟨v158, v162, gb164⟩ w58 ⟨hS_, h0_, h1_, h2_, h3_, h4_, h5_⟩
                      have n0_ : Aside0 (Kd.R (Kd.int .u64) 22 w58 w.heap.size (fun _ => True) v162 y161) := ⟨h0_⟩
                      have n1_ : Aside0 (Kd.S k25 25 w58 w.heap.size (fun k_ => some k_ ≠ (v162 : Value).ownBlock ∧ k_ ≠ gb164) u6 x6_1) := ⟨h1_⟩
                      have n2_ : Aside0 (w58.heap[gb164]? = some (.cells #[.int .i64 0, .slice none 0 0] 25 (0, 0))) := ⟨h2_⟩
                      have n3_ : Aside0 (w.heap.size ≤ gb164) := ⟨h3_⟩
                      have n4_ : Aside0 (w.heap.size ≤ gb164) := ⟨h4_⟩
                      have n5_ : Aside0 (Below w.heap.size w w58) := ⟨h5_⟩
                      clear HO_6
                      clear HB
                      clear h0_ h1_ h2_ h3_ h4_ h5_
                      have HO163 := n0_
                      have HO_6 := n1_
                      have BK164 := n2_
                      have GW164 := n3_
                      have GE164 := n4_
                      have HB := n5_
                      clear n0_ n1_ n2_ n3_ n4_ n5_
                      have hHeld : w58.cell? (ad155.add (x7_1).toNat) = some (.int .u64 (rd l1 x7_1)) := hS_
                      obtain ⟨Ao59, co59, eo59⟩ := Kd.R_slice HO163.out
                      (first | subst eo59 | (injection eo59 with f1_ f2_ f3_; have f4_ := f1_.symm; have f5_ := f3_.symm; clear f1_ f2_ f3_; subst f4_; subst f5_))
                      refine norm_ (a' := ?_) ?_ ?_
                      rotate_left
                      · simp only [putAll, Act.put, List.setIfInBounds_toArray, List.set_cons_zero, List.set_cons_succ]
                        rfl
                      refine one_ (i := 18) (N := none) #[true, true, true, true, true, true, true, true, true, true, true, true, true, true, true, true, true, true, true] rfl rfl (one_of HT_.out (by kernel_rfl)) (by decide) (fun K hK => ?_)
                      have hs60 : w58.cell? ⟨gb164, 0, none⟩ = some (.int .i64 0) := (blk_cell BK164.out 0).trans rfl
                      have hfs60 := blk_frozen BK164.out 0
                      have hs61 : w58.cell? ⟨gb164, 1, none⟩ = some (.slice none 0 0) := (blk_cell BK164.out 1).trans rfl
                      have hfs61 := blk_frozen BK164.out 1
                      refine skip_ (w1 := ?_) (by rfl) rfl ?_ ?_
                      rotate_left
                      · go_simp
                        rfl
                      refine hK.out _ _ (((cell_far (p := ⟨gb164, _, none⟩) (by first | exact Nat.ne_of_lt (Nat.lt_of_lt_of_le (by have := World.block_lt_of_cell? _ _ hw156_0; first | rwa [add_block] at this | exact this) GW164.out) | (rw [add_block]; exact Nat.ne_of_lt (Nat.lt_of_lt_of_le (by have := World.block_lt_of_cell? _ _ hw156_0; first | rwa [add_block] at this | exact this) GW164.out)) | (show (Addr.add _ _).block ≠ _; rw [add_block]; exact Nat.ne_of_lt (Nat.lt_of_lt_of_le (by have := World.block_lt_of_cell? _ _ hw156_0; first | rwa [add_block] at this | exact this) GW164.out)) | (dsimp only; exact Nat.ne_of_lt (Nat.lt_of_lt_of_le (by have := World.block_lt_of_cell? _ _ hw156_0; first | rwa [add_block] at this | exact this) GW164.out))) _).trans (((cell_far (p := ⟨gb164, _, none⟩) (by first | exact Nat.ne_of_lt (Nat.lt_of_lt_of_le (by have := World.block_lt_of_cell? _ _ hw156_0; first | rwa [add_block] at this | exact this) GW164.out) | (rw [add_block]; exact Nat.ne_of_lt (Nat.lt_of_lt_of_le (by have := World.block_lt_of_cell? _ _ hw156_0; first | rwa [add_block] at this | exact this) GW164.out)) | (show (Addr.add _ _).block ≠ _; rw [add_block]; exact Nat.ne_of_lt (Nat.lt_of_lt_of_le (by have := World.block_lt_of_cell? _ _ hw156_0; first | rwa [add_block] at this | exact this) GW164.out)) | (dsimp only; exact Nat.ne_of_lt (Nat.lt_of_lt_of_le (by have := World.block_lt_of_cell? _ _ hw156_0; first | rwa [add_block] at this | exact this) GW164.out))) _).trans (hHeld))))) (fun hHeld => ?_)
                      clear hK K
                      refine done_ (done_of HT_.out (by kernel_rfl)) ?_
                      have hcz62_0 : w58.cell? ⟨gb164, 0, none⟩ = some (.int .i64 0) := (blk_cell BK164.out 0).trans rfl
                      have hcz62_1 : w58.cell? ⟨gb164, 1, none⟩ = some (.slice none 0 0) := (blk_cell BK164.out 1).trans rfl
                      have hfz62_0 := blk_frozen BK164.out 0
                      have hfz62_1 := blk_frozen BK164.out 1
                      try go_wp2_with (first | ((with_reducible refine gate_callee (f := 12) rfl ?_); refine goesL_ (some 50) rfl rfl Try.func12 (by kernel_rfl) rfl #[.int .u64 a0, .agg #[.int .i64 (wrap64 (Int.tmod (rd l1 x7_1) 1048576)), .slice Ao59 y161.length co59]] rfl (by (try simp only [List.map_toArray, List.map_cons, List.map_nil]); first | done | rfl | (simp only [List.length_drop, List.length_take]; rfl)) ?_; (with_reducible refine (lockfastref13_Encode.calls k1 a0 (wrap64 (Int.tmod (rd l1 x7_1) 1048576)) _ _ y161 t165 t168 _ ?side1 ?side2 A11.out).mono ?_); (case side1 => refine (Kd.R_reads' (e := 22) (base := w.heap.size) (ok := fun k_ => True) (n := y161.length) (c := co59) ?_).2.2; exact (by (with_reducible repeat (first | apply Kd.R_alloc | apply Kd.R_drewN | apply Kd.R_drew)); exact (Kd.R_mono (Kd.R_far (p := ⟨gb164, 1, none⟩) (Kd.R_far (p := ⟨gb164, 0, none⟩) (Kd.R_types HO163.out BK164.out (by decide)) (fun _ hk => hk.2) (.int .i64 (wrap64 (Int.tmod (rd l1 x7_1) 1048576)))) (fun _ hk => hk.2) (.slice Ao59 y161.length co59)) (fun _ h_ => h_.1)))); (case side2 => exact (Kd.R_reads' HO163.out).2.1); rintro e w63 ⟨v166, rfl, ho0, hb⟩; refine ⟨_, rfl, ?_⟩; have n0_ := Aside0.mk (Kd.S_elder' (by (with_reducible repeat (first | apply Kd.S_alloc | apply Kd.S_drewN | apply Kd.S_drew)); exact (Kd.S_mono (Kd.S_far (p := ⟨gb164, 1, none⟩) (Kd.S_far (p := ⟨gb164, 0, none⟩) (Kd.S_mono HO_6.out (fun k_ hk => (⟨hk, hk.2⟩ : _ ∧ k_ ≠ gb164))) (fun _ hk => hk.2) (.int .i64 (wrap64 (Int.tmod (rd l1 x7_1) 1048576)))) (fun _ hk => hk.2) (.slice Ao59 y161.length co59)) (fun _ h_ => h_.1))) (Kd.R_base ho0) hb); have n1_ := Aside0.mk (Kd.R_elder' (by (with_reducible repeat (first | apply Kd.R_alloc | apply Kd.R_drewN | apply Kd.R_drew)); exact (Kd.R_mono (Kd.R_far (p := ⟨gb164, 1, none⟩) (Kd.R_far (p := ⟨gb164, 0, none⟩) (Kd.R_types HO163.out BK164.out (by decide)) (fun _ hk => hk.2) (.int .i64 (wrap64 (Int.tmod (rd l1 x7_1) 1048576)))) (fun _ hk => hk.2) (.slice Ao59 y161.length co59)) (fun _ h_ => h_.1))) (Kd.R_base ho0) hb); have n2_ := Aside0.mk (Kd.R_lower (Kd.R_new' ho0 (Kd.R_lt (by (with_reducible repeat (first | apply Kd.R_alloc | apply Kd.R_drewN | apply Kd.R_drew)); exact (Kd.R_mono (Kd.R_far (p := ⟨gb164, 1, none⟩) (Kd.R_far (p := ⟨gb164, 0, none⟩) (Kd.R_types HO163.out BK164.out (by decide)) (fun _ hk => hk.2) (.int .i64 (wrap64 (Int.tmod (rd l1 x7_1) 1048576)))) (fun _ hk => hk.2) (.slice Ao59 y161.length co59)) (fun _ h_ => h_.1))))) (below_size (by repeat (first | (with_reducible first | exact HB.out | apply below_alloc | apply pw_below_drewN | apply below_drew1 | refine below_set ?_ GE164.out) | exact HB.out)))); have n3_ := Aside0.mk (blk_below (g := gb164) (o := .cells #[.int .i64 (wrap64 (Int.tmod (rd l1 x7_1) 1048576)), .slice Ao59 y161.length co59] 25 (0, 0)) (by (with_reducible repeat (first | refine blk_drewN ?_ _ | refine blk_drew ?_ | refine blk_alloc ?_ _)); refine blk_put (cs := #[.int .i64 (wrap64 (Int.tmod (rd l1 x7_1) 1048576)), .slice none 0 0]) ?_ 1 _ rfl; (with_reducible repeat (first | refine blk_drewN ?_ _ | refine blk_drew ?_ | refine blk_alloc ?_ _)); refine blk_put (cs := #[.int .i64 0, .slice none 0 0]) ?_ 0 _ rfl; (with_reducible repeat (first | refine blk_drewN ?_ _ | refine blk_drew ?_ | refine blk_alloc ?_ _)); exact BK164.out) hb); have n4_ := Aside0.mk (below_step (by repeat (first | (with_reducible first | exact HB.out | apply below_alloc | apply pw_below_drewN | apply below_drew1 | refine below_set ?_ GE164.out) | exact HB.out)) hb); clear HO_6; clear HO163; clear BK164; clear HB; have HO_6 := n0_; have HO163 := n1_; have HO167 := n2_; have BK164 := n3_; have HB := n4_; clear n0_ n1_ n2_ n3_ n4_; (try clear hb); (try clear hb2); (try clear hk); (try clear hi); (try clear ho0)))
                      go_ret2
                      exact ⟨_, by first | rfl | (simp [errW_none, errW_some] <;> rfl) | (simp only [← hji6]; first | rfl | (simp [errW_none, errW_some] <;> rfl)) | (simp [*, errW_none, errW_some] <;> rfl), by first | exact Kd.S_nil _ _ _ _ _ | exact Kd.N_nil _ _ _ _ _ | exact Kd.V_nil _ _ _ _ _ | exact Kd.Q_nil _ _ _ _ _ | exact Kd.R_nil _ _ _ _ _, by repeat (first | (with_reducible first | exact HB.out | apply below_alloc | apply pw_below_drewN | apply below_drew1 | refine below_set ?_ GE164.out) | exact HB.out)⟩
                  · rw [if_neg c10] at H
                    exact absurd H (by simp)
                · rw [if_neg c9] at H
                  exact absurd H (by simp)
              · rw [if_neg c8] at H
                exact absurd H (by simp)
            · rw [if_neg c7] at H
              exact absurd H (by simp)
        · rw [if_neg c4] at H
          exact absurd H (by simp)
      · rw [if_neg c3] at H
        have c3b0 : decide (x7_1 < (l1.length : Int)) = false := decide_eq_false c3
        clear c3
        simp only [Option.some.injEq, Prod.mk.injEq] at H
        obtain ⟨rfl, rfl⟩ := H
        go_wp2
        go_ret2
        exact ⟨_, by first | rfl | (simp [errW_none, errW_some] <;> rfl) | (simp [*, errW_none, errW_some] <;> rfl), by (with_reducible repeat (first | apply Kd.S_alloc | apply Kd.S_drewN | apply Kd.S_drew)); exact HO_6.out, by repeat (first | (with_reducible first | exact HB.out | apply below_alloc | apply pw_below_drewN | apply below_drew1) | exact HB.out)⟩

end Go.Proofs.Ytinbediigibolaa.PUndoDecodes
