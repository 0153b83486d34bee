-- WRITTEN FOR THIS CLAIM by given.py, a program of this session's: the kit's printer, run with contracts of the session's own. It is not a text of print.sh's.
import Derived.Test.YtinbediigibolaaPUndoBacksx0
namespace Go.Proofs.Ytinbediigibolaa.PUndoBacks
open Go.RowKit Go.Proofs.YtinbediigibolaaW.PrintWords Go.Proofs.YtinbediigibolaaW.PrintLast Go.Proofs.YtinbediigibolaaW.PrintMore
attribute [local go_sem] max2_int min2_int max_two min_two max_three min_three max_four min_four   -- for this text's walks alone
set_option linter.unusedVariables false
set_option linter.unusedSimpArgs false
open Go.Proofs.YtinbediigibolaaX

/-! ### lockfastref13_Back: function 21 -/
mutual
def lockfastref13_Back.l0 : Nat → List Int → List (S25) → List Int → Int → Option (List Int)
  | 0, _, _, _, _ => none
  | k + 1, x0, x1, x5, x6 => if x6 < (x0.length : Int) then (if 0 ≤ x6 then (lockfastref13_Back.l1 k x0 x1 x5 x6 (rd x0 x6) false 0) else (none)) else (some x5)
def lockfastref13_Back.l1 : Nat → List Int → List (S25) → List Int → Int → Int → Bool → Int → Option (List Int)
  | 0, _, _, _, _, _, _, _ => none
  | k + 1, x0, x1, x5, x6, x7, x8, x9 => if x9 < (x1.length : Int) then (lockfastref13_Back.j2 k x0 x1 x5 x6 x7 x8 x9 (!x8)) else (lockfastref13_Back.j2 k x0 x1 x5 x6 x7 x8 x9 false)
def lockfastref13_Back.j2 : Nat → List Int → List (S25) → List Int → Int → Int → Bool → Int → Bool → Option (List Int)
  | 0, _, _, _, _, _, _, _, _ => none
  | k + 1, x0, x1, x5, x6, x7, x8, x9, x28 => if x28 = true then (lockfastref13_Back.l2 k x0 x1 x5 x6 x7 x8 x9 0) else (if x5.length < 17592186044416 then (lockfastref13_Back.l0 k x0 x1 (x5 ++ [x7]) (wrap64 (x6 + 1))) else (none))
def lockfastref13_Back.l2 : Nat → List Int → List (S25) → List Int → Int → Int → Bool → Int → Int → Option (List Int)
  | 0, _, _, _, _, _, _, _, _ => none
  | k + 1, x0, x1, x5, x6, x7, x8, x9, x10 => if 0 ≤ x9 then (if x9 < (x1.length : Int) then (if x10 < (((rd_T25 x1 x9).f1).length : Int) then (if (wrap64 (((rd_T25 x1 x9).f0) + x10)) = x6 then (if 0 ≤ x10 then (lockfastref13_Back.l2 k x0 x1 x5 x6 (rd ((rd_T25 x1 x9).f1) x10) true x9 (wrap64 (x10 + 1))) else (none)) else (lockfastref13_Back.l2 k x0 x1 x5 x6 x7 x8 x9 (wrap64 (x10 + 1)))) else (lockfastref13_Back.l1 k x0 x1 x5 x6 x7 x8 (wrap64 (x9 + 1)))) else (none)) else (none)
end
def lockfastref13_Back.f (k : Nat) (l0 : List Int) (l1 : List (S25)) : Option (List Int) := lockfastref13_Back.l0 k l0 l1 ([] : List Int) 0
theorem lockfastref13_Back.mono_l : ∀ k, (∀ y0 y1 y2 y3, LeO (lockfastref13_Back.l0 k y0 y1 y2 y3) (lockfastref13_Back.l0 (k + 1) y0 y1 y2 y3)) ∧ (∀ y0 y1 y2 y3 y4 y5 y6, LeO (lockfastref13_Back.l1 k y0 y1 y2 y3 y4 y5 y6) (lockfastref13_Back.l1 (k + 1) y0 y1 y2 y3 y4 y5 y6)) ∧ (∀ y0 y1 y2 y3 y4 y5 y6 y7, LeO (lockfastref13_Back.j2 k y0 y1 y2 y3 y4 y5 y6 y7) (lockfastref13_Back.j2 (k + 1) y0 y1 y2 y3 y4 y5 y6 y7)) ∧ (∀ y0 y1 y2 y3 y4 y5 y6 y7, LeO (lockfastref13_Back.l2 k y0 y1 y2 y3 y4 y5 y6 y7) (lockfastref13_Back.l2 (k + 1) y0 y1 y2 y3 y4 y5 y6 y7))
  | 0 => ⟨fun _ _ _ _ r h => by simp [lockfastref13_Back.l0] at h, fun _ _ _ _ _ _ _ r h => by simp [lockfastref13_Back.l1] at h, fun _ _ _ _ _ _ _ _ r h => by simp [lockfastref13_Back.j2] at h, fun _ _ _ _ _ _ _ _ r h => by simp [lockfastref13_Back.l2] at h⟩
  | k + 1 => by
    obtain ⟨ih0, ih1, ih2, ih3⟩ := lockfastref13_Back.mono_l k
    refine ⟨?_, ?_, ?_, ?_⟩
    · intro y0 y1 y2 y3
      unfold lockfastref13_Back.l0
      repeat' first
      | (with_reducible exact ih0 _ _ _ _)
      | (with_reducible exact ih1 _ _ _ _ _ _ _)
      | (with_reducible exact ih2 _ _ _ _ _ _ _ _)
      | (with_reducible exact ih3 _ _ _ _ _ _ _ _)
      | (with_reducible exact LeO.refl _)
      | (with_reducible exact LeO.none _)
      | (with_reducible refine LeO.ite ?_ ?_)
      | (with_reducible refine LeO.bind ?_ (fun _ => ?_))
      | exact ih0 _ _ _ _
      | exact ih1 _ _ _ _ _ _ _
      | exact ih2 _ _ _ _ _ _ _ _
      | exact ih3 _ _ _ _ _ _ _ _
      | exact LeO.none _
      | refine LeO.ite ?_ ?_
      | refine LeO.bind ?_ (fun _ => ?_)
    · intro y0 y1 y2 y3 y4 y5 y6
      unfold lockfastref13_Back.l1
      repeat' first
      | (with_reducible exact ih0 _ _ _ _)
      | (with_reducible exact ih1 _ _ _ _ _ _ _)
      | (with_reducible exact ih2 _ _ _ _ _ _ _ _)
      | (with_reducible exact ih3 _ _ _ _ _ _ _ _)
      | (with_reducible exact LeO.refl _)
      | (with_reducible exact LeO.none _)
      | (with_reducible refine LeO.ite ?_ ?_)
      | (with_reducible refine LeO.bind ?_ (fun _ => ?_))
      | exact ih0 _ _ _ _
      | exact ih1 _ _ _ _ _ _ _
      | exact ih2 _ _ _ _ _ _ _ _
      | exact ih3 _ _ _ _ _ _ _ _
      | exact LeO.none _
      | refine LeO.ite ?_ ?_
      | refine LeO.bind ?_ (fun _ => ?_)
    · intro y0 y1 y2 y3 y4 y5 y6 y7
      unfold lockfastref13_Back.j2
      repeat' first
      | (with_reducible exact ih0 _ _ _ _)
      | (with_reducible exact ih1 _ _ _ _ _ _ _)
      | (with_reducible exact ih2 _ _ _ _ _ _ _ _)
      | (with_reducible exact ih3 _ _ _ _ _ _ _ _)
      | (with_reducible exact LeO.refl _)
      | (with_reducible exact LeO.none _)
      | (with_reducible refine LeO.ite ?_ ?_)
      | (with_reducible refine LeO.bind ?_ (fun _ => ?_))
      | exact ih0 _ _ _ _
      | exact ih1 _ _ _ _ _ _ _
      | exact ih2 _ _ _ _ _ _ _ _
      | exact ih3 _ _ _ _ _ _ _ _
      | exact LeO.none _
      | refine LeO.ite ?_ ?_
      | refine LeO.bind ?_ (fun _ => ?_)
    · intro y0 y1 y2 y3 y4 y5 y6 y7
      unfold lockfastref13_Back.l2
      repeat' first
      | (with_reducible exact ih0 _ _ _ _)
      | (with_reducible exact ih1 _ _ _ _ _ _ _)
      | (with_reducible exact ih2 _ _ _ _ _ _ _ _)
      | (with_reducible exact ih3 _ _ _ _ _ _ _ _)
      | (with_reducible exact LeO.refl _)
      | (with_reducible exact LeO.none _)
      | (with_reducible refine LeO.ite ?_ ?_)
      | (with_reducible refine LeO.bind ?_ (fun _ => ?_))
      | exact ih0 _ _ _ _
      | exact ih1 _ _ _ _ _ _ _
      | exact ih2 _ _ _ _ _ _ _ _
      | exact ih3 _ _ _ _ _ _ _ _
      | exact LeO.none _
      | refine LeO.ite ?_ ?_
      | refine LeO.bind ?_ (fun _ => ?_)
theorem lockfastref13_Back.mono : ∀ a0 a1 k, LeO (lockfastref13_Back.f k a0 a1) (lockfastref13_Back.f (k + 1) a0 a1) := by
  intro a0 a1 k
  obtain ⟨ih0, ih1, ih2, ih3⟩ := lockfastref13_Back.mono_l k
  unfold lockfastref13_Back.f
  repeat' first
      | (with_reducible exact ih0 _ _ _ _)
      | (with_reducible exact ih1 _ _ _ _ _ _ _)
      | (with_reducible exact ih2 _ _ _ _ _ _ _ _)
      | (with_reducible exact ih3 _ _ _ _ _ _ _ _)
      | (with_reducible exact LeO.refl _)
      | (with_reducible exact LeO.none _)
      | (with_reducible refine LeO.ite ?_ ?_)
      | (with_reducible refine LeO.bind ?_ (fun _ => ?_))
      | exact ih0 _ _ _ _
      | exact ih1 _ _ _ _ _ _ _
      | exact ih2 _ _ _ _ _ _ _ _
      | exact ih3 _ _ _ _ _ _ _ _
      | exact LeO.none _
      | refine LeO.ite ?_ ?_
      | refine LeO.bind ?_ (fun _ => ?_)
set_option maxHeartbeats 8000000 in
set_option maxRecDepth 100000 in
theorem lockfastref13_Back.calls (k : Nat) (A0 : Option Addr) (c0 : Nat) (l0 : List Int) (A1 : Option Addr) (c1 : Nat) (l1 : List (S25)) (r : List Int) (w : World) (hr0 : Kd.C (Kd.int .u64) w A0 l0.length l0) (hc0 : l0.length ≤ c0) (hr1 : Kd.C k25 w A1 l1.length l1) (hc1 : l1.length ≤ c1) (h : lockfastref13_Back.f k l0 l1 = some r) :
    Calls Try.prog 21 #[.slice A0 l0.length c0, .slice A1 l1.length c1] w fun e w' => ∃ v0_ : Value, e = .returned (v0_) ∧ Kd.R (Kd.int .u64) 22 w' w.heap.size (fun _ => True) v0_ r ∧ Below w.heap.size w w' := by
  have HR0 := Aside0.mk hr0
  have HC0 := Aside0.mk hc0
  clear hr0 hc0
  have HR1 := Aside0.mk hr1
  have HC1 := Aside0.mk hc1
  clear hr1 hc1
  have HB := Aside0.mk (Below.refl w.heap.size w)
  have H : (lockfastref13_Back.l0 k l0 l1 ([] : List Int) 0) = some r := h
  clear h
  have H' := Aside0.mk H
  clear H
  go_enter Try.func21, Try.ntmps21
  go_wp2
  go_loopg [5, 6] k (fun kq v5 v6 w' => ∃ (x5_1 : List Int) (x6_1 : Int), v6 = .int .i64 x6_1 ∧ Aside0 (lockfastref13_Back.l0 kq l0 l1 x5_1 x6_1 = some r) ∧ Aside0 (kq ≤ k) ∧ Aside0 (Kd.R (Kd.int .u64) 22 w' w.heap.size (fun _ => True) v5 x5_1) ∧ Aside0 (Below w.heap.size w w'))
  case atStart => exact ⟨(([] : List Int)), (0), (by first | rfl | (simp; done) | (simp [*]; done)), H', ⟨Nat.le_refl _⟩, ⟨by first | exact Kd.R_nil _ _ _ _ _ | exact Kd.N_nil _ _ _ _ _ | exact Kd.V_nil _ _ _ _ _ | exact Kd.Q_nil _ _ _ _ _ | exact Kd.S_nil _ _ _ _ _⟩, ⟨by repeat (first | (with_reducible first | exact HB.out | apply below_alloc | apply pw_below_drewN | apply below_drew1) | exact HB.out)⟩⟩
  case round =>
    clear H'
    try clear c1
    try clear c2
    try clear p2
    obtain ⟨x5_1, x6_1, rfl, HA, HK1, HO_5, HB⟩ := hrel
    cases gk with
    | zero => exact absurd HA.out (by simp [lockfastref13_Back.l0])
    | succ k1 =>
      have H := HA.out
      clear HA
      simp only [lockfastref13_Back.l0] at H
      by_cases c3 : x6_1 < (l0.length : Int)
      · rw [if_pos c3] at H
        have c3b0 : decide (x6_1 < (l0.length : Int)) = true := decide_eq_true c3
        clear c3
        by_cases c4 : 0 ≤ x6_1
        · rw [if_pos c4] at H
          have c4b0 : decide (0 ≤ x6_1) = true := decide_eq_true c4
          clear c4
          have H' := Aside0.mk H
          clear H
          have p139 : 0 ≤ (x6_1 : Int) := of_decide_eq_true (by first | (with_reducible assumption) | assumption)
          have q139 : x6_1 < (l0.length : Int) := of_decide_eq_true (by first | (with_reducible assumption) | assumption)
          obtain ⟨ad139, e139, hx139_0⟩ := Kd.at_int HR0.out x6_1 p139 q139
          cases e139
          replace hx139_0 := (HB.out.cell (World.block_lt_of_cell? w _ hx139_0)).trans hx139_0
          replace p139 := eq_true p139
          replace q139 := eq_true q139
          go_wp2
          go_loopg [7, 8, 9] k1 (fun kq v7 v8 v9 w' => ∃ (x7_2 : Int) (x8_2 : Bool) (x9_2 : Int), v7 = .int .u64 x7_2 ∧ v8 = .bool x8_2 ∧ v9 = .int .i64 x9_2 ∧ Aside0 (lockfastref13_Back.l1 kq l0 l1 x5_1 x6_1 x7_2 x8_2 x9_2 = some r) ∧ Aside0 (kq ≤ k1) ∧ Aside0 (Kd.R (Kd.int .u64) 22 w' w.heap.size (fun _ => True) u5 x5_1) ∧ Aside0 (Below w.heap.size w w'))
          case atStart => exact ⟨(rd l0 x6_1), (false), (0), (by first | rfl | (simp; done) | (simp [*]; done)), (by first | rfl | (simp; done) | (simp [*]; done)), (by first | rfl | (simp; done) | (simp [*]; done)), H', ⟨Nat.le_refl _⟩, ⟨by (with_reducible repeat (first | apply Kd.R_alloc | apply Kd.R_drewN | apply Kd.R_drew)); exact HO_5.out⟩, ⟨by repeat (first | (with_reducible first | exact HB.out | apply below_alloc | apply pw_below_drewN | apply below_drew1) | exact HB.out)⟩⟩
          case round =>
            clear H'
            try clear c1
            try clear p1
            try clear q1
            try clear hx1
            try clear c2
            try clear p2
            try clear c3
            try clear c3b0
            try clear c4
            try clear c4b0
            try clear hx139_0
            try clear p139
            try clear p2
            try clear q139
            obtain ⟨x7_2, x8_2, x9_2, rfl, rfl, rfl, HA, HK2, HO_5, HB⟩ := hrel
            cases gk with
            | zero => exact absurd HA.out (by simp [lockfastref13_Back.l1])
            | succ k2 =>
              have H := HA.out
              clear HA
              simp only [lockfastref13_Back.l1] at H
              have HC5 := Aside0.mk H
              clear H
              go_upto_region 8 with (fail)
              go_cut [28] (fun v28 wc => ∃ (kq : Nat) (x28_4 : Bool), v28 = .bool x28_4 ∧ Aside0 (lockfastref13_Back.j2 kq l0 l1 x5_1 x6_1 x7_2 x8_2 x9_2 x28_4 = some r) ∧ Aside0 (kq ≤ k2) ∧ Aside0 (Kd.R (Kd.int .u64) 22 wc w.heap.size (fun _ => True) u5 x5_1) ∧ Aside0 (Below w.heap.size w wc))
              case first =>
                have H := HC5.out
                clear HC5
                by_cases c6 : x9_2 < (l1.length : Int)
                · rw [if_pos c6] at H
                  have c6b0 : decide (x9_2 < (l1.length : Int)) = true := decide_eq_true c6
                  clear c6
                  (first | rw [c6b0] | (simp only [i64_w, i32_w]; rw [c6b0]) | skip)
                  have H' := Aside0.mk H
                  clear H
                  go_wp2
                  go_meet
                  case rel => exact ⟨_, (!x8_2), (by first | rfl | (simp; done) | (simp [*]; done)), (by first | exact H' | (subst_vars; exact H')), ⟨by have := HK1.out; have := HK2.out; first | omega | exact Nat.le_refl _⟩, ⟨by (with_reducible repeat (first | apply Kd.R_alloc | apply Kd.R_drewN | apply Kd.R_drew)); exact HO_5.out⟩, ⟨by repeat (first | (with_reducible first | exact HB.out | apply below_alloc | apply pw_below_drewN | apply below_drew1) | exact HB.out)⟩⟩
                · rw [if_neg c6] at H
                  have c6b0 : decide (x9_2 < (l1.length : Int)) = false := decide_eq_false c6
                  clear c6
                  (first | rw [c6b0] | (simp only [i64_w, i32_w]; rw [c6b0]) | skip)
                  have H' := Aside0.mk H
                  clear H
                  go_wp2
                  go_meet
                  case rel => exact ⟨_, (false), (by first | rfl | (simp; done) | (simp [*]; done)), (by first | exact H' | (subst_vars; exact H')), ⟨by have := HK1.out; have := HK2.out; first | omega | exact Nat.le_refl _⟩, ⟨by (with_reducible repeat (first | apply Kd.R_alloc | apply Kd.R_drewN | apply Kd.R_drew)); exact HO_5.out⟩, ⟨by repeat (first | (with_reducible first | exact HB.out | apply below_alloc | apply pw_below_drewN | apply below_drew1) | exact HB.out)⟩⟩
              case rest =>
                clear HC5
                try clear c1
                try clear p1
                try clear q1
                try clear hx1
                try clear c2
                try clear p2
                try clear c3
                try clear c3b0
                try clear c4
                try clear c4b0
                try clear c6
                try clear c6b0
                try clear hx139_0
                try clear p1
                try clear p139
                try clear p2
                try clear q1
                try clear q139
                obtain ⟨kq, x28_4, rfl, HA, HJ4, HO_5, HB⟩ := hcut
                cases kq with
                | zero => exact absurd HA.out (by simp [lockfastref13_Back.j2])
                | succ kj4 =>
                  have H := HA.out
                  clear HA
                  simp only [lockfastref13_Back.j2] at H
                  by_cases c7 : x28_4 = true
                  · subst c7
                    have H1 : (lockfastref13_Back.l2 kj4 l0 l1 x5_1 x6_1 x7_2 x8_2 x9_2 0) = some r := by rw [if_pos rfl] at H; exact H
                    clear H
                    have H := H1
                    clear H1
                    have H' := Aside0.mk H
                    clear H
                    go_wp2
                    go_loopg [7, 8, 10] kj4 (fun kq v7 v8 v10 w' => ∃ (x7_4 : Int) (x8_4 : Bool) (x10_4 : Int), v7 = .int .u64 x7_4 ∧ v8 = .bool x8_4 ∧ v10 = .int .i64 x10_4 ∧ Aside0 (lockfastref13_Back.l2 kq l0 l1 x5_1 x6_1 x7_4 x8_4 x9_2 x10_4 = some r) ∧ Aside0 (kq ≤ kj4) ∧ Aside0 (Kd.R (Kd.int .u64) 22 w' w.heap.size (fun _ => True) u5 x5_1) ∧ Aside0 (Below w.heap.size w w'))
                    case atStart => exact ⟨(x7_2), (x8_2), (0), (by first | rfl | (simp; done) | (simp [*]; done)), (by first | rfl | (simp; done) | (simp [*]; done)), (by first | rfl | (simp; done) | (simp [*]; done)), H', ⟨Nat.le_refl _⟩, ⟨by (with_reducible repeat (first | apply Kd.R_alloc | apply Kd.R_drewN | apply Kd.R_drew)); exact HO_5.out⟩, ⟨by repeat (first | (with_reducible first | exact HB.out | apply below_alloc | apply pw_below_drewN | apply below_drew1) | exact HB.out)⟩⟩
                    case round =>
                      clear H'
                      try clear c1
                      try clear p1
                      try clear q1
                      try clear hx1
                      try clear c2
                      try clear p2
                      try clear c3
                      try clear c3b0
                      try clear c4
                      try clear c4b0
                      try clear c6
                      try clear c6b0
                      try clear c7
                      try clear hx139_0
                      try clear p1
                      try clear p139
                      try clear p2
                      try clear q1
                      try clear q139
                      obtain ⟨x7_4, x8_4, x10_4, rfl, rfl, rfl, HA, HK4, HO_5, HB⟩ := hrel
                      cases gk with
                      | zero => exact absurd HA.out (by simp [lockfastref13_Back.l2])
                      | succ k4 =>
                        have H := HA.out
                        clear HA
                        simp only [lockfastref13_Back.l2] at H
                        by_cases c8 : 0 ≤ x9_2
                        · rw [if_pos c8] at H
                          have c8b0 : decide (0 ≤ x9_2) = true := decide_eq_true c8
                          clear c8
                          by_cases c9 : x9_2 < (l1.length : Int)
                          · rw [if_pos c9] at H
                            have c9b0 : decide (x9_2 < (l1.length : Int)) = true := decide_eq_true c9
                            clear c9
                            by_cases c10 : x10_4 < (((rd_T25 l1 x9_2).f1).length : Int)
                            · rw [if_pos c10] at H
                              have c10b0 : decide (x10_4 < (((rd_T25 l1 x9_2).f1).length : Int)) = true := decide_eq_true c10
                              clear c10
                              by_cases c11 : (wrap64 (((rd_T25 l1 x9_2).f0) + x10_4)) = x6_1
                              · rw [if_pos c11] at H
                                have c11b0 : ((wrap64 (((rd_T25 l1 x9_2).f0) + x10_4)) == x6_1) = true := beq_iff_eq.mpr c11
                                have c11b1 : ((wrap64 (((rd_T25 l1 x9_2).f0) + x10_4)) != x6_1) = false := bne_eq_false_iff_eq.mpr c11
                                clear c11
                                by_cases c12 : 0 ≤ x10_4
                                · rw [if_pos c12] at H
                                  have c12b0 : decide (0 ≤ x10_4) = true := decide_eq_true c12
                                  clear c12
                                  have H' := Aside0.mk H
                                  clear H
                                  have p143 : 0 ≤ (x9_2 : Int) := of_decide_eq_true (by first | (with_reducible assumption) | assumption)
                                  have q143 : x9_2 < (l1.length : Int) := of_decide_eq_true (by first | (with_reducible assumption) | assumption)
                                  obtain ⟨ad143, A143_1, c143_1, e143, hx143_0, hx143_1, hl143_1, hi143_1⟩ := at_T25 HR1.out x9_2 p143 q143
                                  cases e143
                                  replace hx143_0 := (HB.out.cell (World.block_lt_of_cell? w _ hx143_0)).trans hx143_0
                                  replace hx143_1 := (HB.out.cell (World.block_lt_of_cell? w _ hx143_1)).trans hx143_1
                                  have HR143_1 := Aside0.mk hi143_1
                                  have HC143_1 := Aside0.mk hl143_1
                                  clear hi143_1 hl143_1
                                  replace p143 := eq_true p143
                                  replace q143 := eq_true q143
                                  have p144 : 0 ≤ (x9_2 : Int) := of_decide_eq_true (by first | (with_reducible assumption) | assumption)
                                  have q144 : x9_2 < (l1.length : Int) := of_decide_eq_true (by first | (with_reducible assumption) | assumption)
                                  obtain ⟨ad144, A144_1, c144_1, e144, hx144_0, hx144_1, hl144_1, hi144_1⟩ := at_T25 HR1.out x9_2 p144 q144
                                  obtain rfl : ad143 = ad144 := (by injection e144)
                                  replace hx144_0 := (HB.out.cell (World.block_lt_of_cell? w _ hx144_0)).trans hx144_0
                                  replace hx144_1 := (HB.out.cell (World.block_lt_of_cell? w _ hx144_1)).trans hx144_1
                                  have HR144_1 := Aside0.mk hi144_1
                                  have HC144_1 := Aside0.mk hl144_1
                                  clear hi144_1 hl144_1
                                  replace p144 := eq_true p144
                                  replace q144 := eq_true q144
                                  have ea_ := Option.some.inj (hx143_1.symm.trans hx144_1)
                                  injection ea_ with ea_ en_ ec_
                                  subst ea_
                                  subst ec_
                                  clear en_
                                  have p145 : 0 ≤ (x9_2 : Int) := of_decide_eq_true (by first | (with_reducible assumption) | assumption)
                                  have q145 : x9_2 < (l1.length : Int) := of_decide_eq_true (by first | (with_reducible assumption) | assumption)
                                  obtain ⟨ad145, A145_1, c145_1, e145, hx145_0, hx145_1, hl145_1, hi145_1⟩ := at_T25 HR1.out x9_2 p145 q145
                                  obtain rfl : ad143 = ad145 := (by injection e145)
                                  replace hx145_0 := (HB.out.cell (World.block_lt_of_cell? w _ hx145_0)).trans hx145_0
                                  replace hx145_1 := (HB.out.cell (World.block_lt_of_cell? w _ hx145_1)).trans hx145_1
                                  have HR145_1 := Aside0.mk hi145_1
                                  have HC145_1 := Aside0.mk hl145_1
                                  clear hi145_1 hl145_1
                                  replace p145 := eq_true p145
                                  replace q145 := eq_true q145
                                  have ea_ := Option.some.inj (hx143_1.symm.trans hx145_1)
                                  injection ea_ with ea_ en_ ec_
                                  subst ea_
                                  subst ec_
                                  clear en_
                                  have p146 : 0 ≤ (x10_4 : Int) := of_decide_eq_true (by first | (with_reducible assumption) | assumption)
                                  have q146 : x10_4 < (((rd_T25 l1 x9_2).f1).length : Int) := of_decide_eq_true (by first | (with_reducible assumption) | assumption)
                                  obtain ⟨ad146, e146, hx146_0⟩ := Kd.at_int HR145_1.out x10_4 p146 q146
                                  cases e146
                                  replace hx146_0 := (HB.out.cell (World.block_lt_of_cell? w _ hx146_0)).trans hx146_0
                                  replace p146 := eq_true p146
                                  replace q146 := eq_true q146
                                  go_wp2
                                  go_roundg k4
                                  case measure => have := HK1.out; have := HK2.out; have := HJ4.out; have := HK4.out; omega
                                  case rel => exact ⟨(rd ((rd_T25 l1 x9_2).f1) x10_4), (true), (wrap64 (x10_4 + 1)), (by first | rfl | (simp; done) | (simp [*]; done)), (by first | rfl | (simp; done) | (simp [*]; done)), (by first | rfl | (simp; done) | (simp [*]; done)), (by first | exact H' | (subst_vars; exact H')), ⟨by have := HK1.out; have := HK2.out; have := HJ4.out; have := HK4.out; omega⟩, ⟨by (with_reducible repeat (first | apply Kd.R_alloc | apply Kd.R_drewN | apply Kd.R_drew)); exact HO_5.out⟩, ⟨by repeat (first | (with_reducible first | exact HB.out | apply below_alloc | apply pw_below_drewN | apply below_drew1) | exact HB.out)⟩⟩
                                · rw [if_neg c12] at H
                                  exact absurd H (by simp)
                              · rw [if_neg c11] at H
                                have c11b0 : ((wrap64 (((rd_T25 l1 x9_2).f0) + x10_4)) == x6_1) = false := beq_eq_false_iff_ne.mpr c11
                                have c11b1 : ((wrap64 (((rd_T25 l1 x9_2).f0) + x10_4)) != x6_1) = true := bne_iff_ne.mpr c11
                                have H' := Aside0.mk H
                                clear H
                                have p143 : 0 ≤ (x9_2 : Int) := of_decide_eq_true (by first | (with_reducible assumption) | assumption)
                                have q143 : x9_2 < (l1.length : Int) := of_decide_eq_true (by first | (with_reducible assumption) | assumption)
                                obtain ⟨ad143, A143_1, c143_1, e143, hx143_0, hx143_1, hl143_1, hi143_1⟩ := at_T25 HR1.out x9_2 p143 q143
                                cases e143
                                replace hx143_0 := (HB.out.cell (World.block_lt_of_cell? w _ hx143_0)).trans hx143_0
                                replace hx143_1 := (HB.out.cell (World.block_lt_of_cell? w _ hx143_1)).trans hx143_1
                                have HR143_1 := Aside0.mk hi143_1
                                have HC143_1 := Aside0.mk hl143_1
                                clear hi143_1 hl143_1
                                replace p143 := eq_true p143
                                replace q143 := eq_true q143
                                have p144 : 0 ≤ (x9_2 : Int) := of_decide_eq_true (by first | (with_reducible assumption) | assumption)
                                have q144 : x9_2 < (l1.length : Int) := of_decide_eq_true (by first | (with_reducible assumption) | assumption)
                                obtain ⟨ad144, A144_1, c144_1, e144, hx144_0, hx144_1, hl144_1, hi144_1⟩ := at_T25 HR1.out x9_2 p144 q144
                                obtain rfl : ad143 = ad144 := (by injection e144)
                                replace hx144_0 := (HB.out.cell (World.block_lt_of_cell? w _ hx144_0)).trans hx144_0
                                replace hx144_1 := (HB.out.cell (World.block_lt_of_cell? w _ hx144_1)).trans hx144_1
                                have HR144_1 := Aside0.mk hi144_1
                                have HC144_1 := Aside0.mk hl144_1
                                clear hi144_1 hl144_1
                                replace p144 := eq_true p144
                                replace q144 := eq_true q144
                                have ea_ := Option.some.inj (hx143_1.symm.trans hx144_1)
                                injection ea_ with ea_ en_ ec_
                                subst ea_
                                subst ec_
                                clear en_
                                go_wp2
                                go_roundg k4
                                case measure => have := HK1.out; have := HK2.out; have := HJ4.out; have := HK4.out; omega
                                case rel => exact ⟨(x7_4), (x8_4), (wrap64 (x10_4 + 1)), (by first | rfl | (simp; done) | (simp [*]; done)), (by first | rfl | (simp; done) | (simp [*]; done)), (by first | rfl | (simp; done) | (simp [*]; done)), (by first | exact H' | (subst_vars; exact H')), ⟨by have := HK1.out; have := HK2.out; have := HJ4.out; have := HK4.out; omega⟩, ⟨by (with_reducible repeat (first | apply Kd.R_alloc | apply Kd.R_drewN | apply Kd.R_drew)); exact HO_5.out⟩, ⟨by repeat (first | (with_reducible first | exact HB.out | apply below_alloc | apply pw_below_drewN | apply below_drew1) | exact HB.out)⟩⟩
                            · rw [if_neg c10] at H
                              have c10b0 : decide (x10_4 < (((rd_T25 l1 x9_2).f1).length : Int)) = false := decide_eq_false c10
                              clear c10
                              have H' := Aside0.mk H
                              clear H
                              have p143 : 0 ≤ (x9_2 : Int) := of_decide_eq_true (by first | (with_reducible assumption) | assumption)
                              have q143 : x9_2 < (l1.length : Int) := of_decide_eq_true (by first | (with_reducible assumption) | assumption)
                              obtain ⟨ad143, A143_1, c143_1, e143, hx143_0, hx143_1, hl143_1, hi143_1⟩ := at_T25 HR1.out x9_2 p143 q143
                              cases e143
                              replace hx143_0 := (HB.out.cell (World.block_lt_of_cell? w _ hx143_0)).trans hx143_0
                              replace hx143_1 := (HB.out.cell (World.block_lt_of_cell? w _ hx143_1)).trans hx143_1
                              have HR143_1 := Aside0.mk hi143_1
                              have HC143_1 := Aside0.mk hl143_1
                              clear hi143_1 hl143_1
                              replace p143 := eq_true p143
                              replace q143 := eq_true q143
                              go_wp2
                              go_roundg k4
                              case measure => have := HK1.out; have := HK2.out; have := HJ4.out; have := HK4.out; omega
                              case rel => exact ⟨(x7_4), (x8_4), (wrap64 (x9_2 + 1)), (by first | rfl | (simp; done) | (simp [*]; done)), (by first | rfl | (simp; done) | (simp [*]; done)), (by first | rfl | (simp; done) | (simp [*]; done)), (by first | exact H' | (subst_vars; exact H')), ⟨by have := HK1.out; have := HK2.out; have := HJ4.out; have := HK4.out; omega⟩, ⟨by (with_reducible repeat (first | apply Kd.R_alloc | apply Kd.R_drewN | apply Kd.R_drew)); exact HO_5.out⟩, ⟨by repeat (first | (with_reducible first | exact HB.out | apply below_alloc | apply pw_below_drewN | apply below_drew1) | exact HB.out)⟩⟩
                          · rw [if_neg c9] at H
                            exact absurd H (by simp)
                        · rw [if_neg c8] at H
                          exact absurd H (by simp)
                  · replace c7 := Bool.eq_false_iff.mpr c7
                    subst c7
                    have H1 : (if x5_1.length < 17592186044416 then (lockfastref13_Back.l0 kj4 l0 l1 (x5_1 ++ [x7_2]) (wrap64 (x6_1 + 1))) else (none)) = some r := by rw [if_neg (show ¬ (false = true) by decide)] at H; exact H
                    clear H
                    have H := H1
                    clear H1
                    by_cases c13 : x5_1.length < 17592186044416
                    · rw [if_pos c13] at H
                      have LMc13 := Aside0.mk c13
                      clear c13
                      obtain ⟨y140, hy140⟩ : ∃ y_ : List Int, y_ = (x5_1 ++ [x7_2]) := ⟨_, rfl⟩
                      replace H : (lockfastref13_Back.l0 kj4 l0 l1 y140 (wrap64 (x6_1 + 1))) = some r := by first | (rw [hy140]; with_reducible exact H) | (have H2_ := (Option.bind_some _ _).symm.trans H; rw [hy140]; with_reducible exact H2_) | (have H2_ := (Option.bind_some _ _).symm.trans H; with_reducible exact H2_) | with_reducible exact H | (rw [hy140]; exact H) | exact H
                      have Ny140 := Aside0.mk hy140
                      clear hy140
                      have H' := Aside0.mk H
                      clear H
                      go_wp2_with (first | ((with_reducible refine gate_builtin (b := .append) (xs := #[.tmp 58, .tmp 60]) rfl ?_); at_builtin; refine R_append_keep .u64 (w0 := w) w.heap.size rfl (.tmp 58) (.tmp 60) 23 22 (.int .u64 0) 8 rfl Try.underlying23 info22 rfl (by omega) u5 x5_1 x7_2 [.int .u64 x7_2] (fun _ => True) (fun _ => False) rfl rfl ?aP (fun _ hk => hk.elim) ?aF ?aO ?aB ?aS ?aL ?_; (case aP => exact rfl); (case aB => exact (by repeat (first | (with_reducible first | exact HB.out | apply below_alloc | apply pw_below_drewN | apply below_drew1) | exact HB.out))); (case aF => exact (fun _ _ => trivial)); (case aO => exact (by (with_reducible repeat (first | apply Kd.R_alloc | apply Kd.R_drewN | apply Kd.R_drew)); exact HO_5.out)); (case aS => exact (below_size (by repeat (first | (with_reducible first | exact HB.out | apply below_alloc | apply pw_below_drewN | apply below_drew1) | exact HB.out)))); (case aL => have := LMc13.out; omega); intro v141 w14 ho hb hg hat hkeep_; (try (have KPHO_5 := Aside0.mk (hkeep_ _ _ _ rfl).2; have KPHO_5c := Aside0.mk (hkeep_ _ _ _ rfl).1)); clear hkeep_; rw [← Ny140.out] at ho; have n0_ := Aside0.mk (hb); have n1_ := Aside0.mk (ho); clear HB; clear HO_5; have HB := n0_; have HO142 := n1_; clear n0_ n1_; clear ho hb hg hat))
                      go_roundg kj4
                      case measure => have := HK1.out; have := HK2.out; have := HJ4.out; omega
                      case rel => exact ⟨(y140), (wrap64 (x6_1 + 1)), (by first | rfl | (simp; done) | (simp [*]; done)), (by first | exact H' | (subst_vars; exact H')), ⟨by have := HK1.out; have := HK2.out; have := HJ4.out; omega⟩, ⟨by (with_reducible repeat (first | apply Kd.R_alloc | apply Kd.R_drewN | apply Kd.R_drew)); exact HO142.out⟩, ⟨by repeat (first | (with_reducible first | exact HB.out | apply below_alloc | apply pw_below_drewN | apply below_drew1) | exact HB.out)⟩⟩
                    · rw [if_neg c13] at H
                      exact absurd H (by simp)
        · rw [if_neg c4] at H
          exact absurd H (by simp)
      · rw [if_neg c3] at H
        have c3b0 : decide (x6_1 < (l0.length : Int)) = false := decide_eq_false c3
        clear c3
        obtain rfl := Option.some.inj H
        simp only [Option.some.injEq, Prod.mk.injEq] at H
        obtain ⟨rfl⟩ := H
        go_wp2
        go_ret
        exact ⟨_, by first | rfl | (simp [errW_none, errW_some] <;> rfl) | (simp [*, errW_none, errW_some] <;> rfl), by (with_reducible repeat (first | apply Kd.R_alloc | apply Kd.R_drewN | apply Kd.R_drew)); exact HO_5.out, by repeat (first | (with_reducible first | exact HB.out | apply below_alloc | apply pw_below_drewN | apply below_drew1) | exact HB.out)⟩

-- NOT PRINTED: function 39 (api_Entry_39)

-- NOT PRINTED: function 31 (api_Entry_31)

/-! ### undo_Within: function 22: a contract of the session's own -/
def idxOf (p : S25 → Bool) (l : List S25) : Int := ((l.findIdx? p).map Int.ofNat).getD (-1)
theorem idxOf_none (p : S25 → Bool) (l : List S25) (h : ∀ j, j < l.length → p (rd_T25 l (j : Int)) = false) : idxOf p l = -1 := by
  have : l.findIdx? p = none := by
    rw [List.findIdx?_eq_none_iff]
    intro x hx
    obtain ⟨j, hj, rfl⟩ := List.mem_iff_getElem.1 hx
    have := h j hj
    simpa [rd_T25, List.getD_eq_getElem?_getD, List.getElem?_eq_getElem hj] using this
  rw [idxOf, this]; rfl
theorem idxOf_some (p : S25 → Bool) (l : List S25) (k : Nat) (hk : k < l.length) (h : ∀ j, j < k → p (rd_T25 l (j : Int)) = false) (hp : p (rd_T25 l (k : Int)) = true) : idxOf p l = (k : Int) := by
  have : l.findIdx? p = some k := by
    rw [List.findIdx?_eq_some_iff_getElem]
    refine ⟨hk, ?_, fun j hj => ?_⟩
    · simpa [rd_T25, List.getD_eq_getElem?_getD, List.getElem?_eq_getElem hk] using hp
    · have := h j hj
      simpa [rd_T25, List.getD_eq_getElem?_getD, List.getElem?_eq_getElem (show j < l.length by omega)] using this
  rw [idxOf, this]; rfl
theorem idxOf_any (p : S25 → Bool) (l : List S25) : decide (0 ≤ idxOf p l) = l.any p := by
  rw [idxOf]
  cases h : l.findIdx? p with
  | none =>
    rw [List.findIdx?_eq_none_iff] at h
    have : l.any p = false := by
      rw [List.any_eq_false]
      intro x hx
      rw [h x hx]; decide
    rw [this]; rfl
  | some k =>
    rw [List.findIdx?_eq_some_iff_getElem] at h
    obtain ⟨hk, hp, _⟩ := h
    have : l.any p = true := List.any_eq_true.2 ⟨l[k], List.getElem_mem hk, hp⟩
    rw [this]
    simp
/-- What is not within so many words. -/
def outB (n : Int) (x : S25) : Bool := decide (x.f0 < 0) || decide (wrap64 (n - (x.f1.length : Int)) < x.f0)
set_option maxHeartbeats 4000000 in
theorem within1_calls (n0 : Int) (b0 : Nat) (x : S25) (A1 : Option Addr) (c1 : Nat) (w : World) (hn : w.cell? ⟨b0, 0, none⟩ = some (.int .i64 n0)) (bb : Bool) (hbb : outB n0 x = bb) :
    Calls Try.prog 32 #[.agg #[.int .i64 x.f0, .slice A1 x.f1.length c1], .pointer (some ⟨b0, 0, none⟩)] w fun e w' => e = .returned (.bool bb) ∧ Below w.heap.size w w' := by
  have hu := Try.underlying25
  have HN := Aside0.mk hn
  clear hn
  subst hbb
  obtain ⟨f0, f1⟩ := x
  unfold outB
  dsimp only
  by_cases c : f0 < 0
  · have cb : decide (f0 < 0) = true := decide_eq_true c
    rw [cb, Bool.true_or]
    go_enter Try.func32, Try.ntmps32
    go_wp2_with ((with_reducible refine gate_dst (N := 2) rfl ?_); refine box_event ?hg (N := 2) ?hd (cs := #[.int .i64 f0, .slice A1 f1.length c1]) (t := 25) ?hr ?_; (case hd => rfl); (case hg => rfl); (case hr => first | (go_simp; done) | (go_simp; rfl)); intro gb hg w5 hbox hb; have hcz0 : w5.cell? ⟨gb, 0, none⟩ = some (.int .i64 f0) := (blk_cell hbox 0).trans rfl; have hcz1 : w5.cell? ⟨gb, 1, none⟩ = some (.slice A1 f1.length c1) := (blk_cell hbox 1).trans rfl; have hcn := (hb.cell (p := ⟨b0, 0, none⟩) (World.block_lt_of_cell? w _ HN.out)).trans HN.out; have HB := Aside0.mk hb; clear hb hbox hg)
    go_ret
    exact ⟨rfl, HB.out⟩
  · have cb : decide (f0 < 0) = false := decide_eq_false c
    rw [cb, Bool.false_or]
    go_enter Try.func32, Try.ntmps32
    go_wp2_with ((with_reducible refine gate_dst (N := 2) rfl ?_); refine box_event ?hg (N := 2) ?hd (cs := #[.int .i64 f0, .slice A1 f1.length c1]) (t := 25) ?hr ?_; (case hd => rfl); (case hg => rfl); (case hr => first | (go_simp; done) | (go_simp; rfl)); intro gb hg w5 hbox hb; have hcz0 : w5.cell? ⟨gb, 0, none⟩ = some (.int .i64 f0) := (blk_cell hbox 0).trans rfl; have hcz1 : w5.cell? ⟨gb, 1, none⟩ = some (.slice A1 f1.length c1) := (blk_cell hbox 1).trans rfl; have hcn := (hb.cell (p := ⟨b0, 0, none⟩) (World.block_lt_of_cell? w _ HN.out)).trans HN.out; have HB := Aside0.mk hb; clear hb hbox hg)
    go_ret
    exact ⟨rfl, HB.out⟩
set_option maxHeartbeats 4000000 in
set_option maxRecDepth 100000 in
theorem index_within (n0 : Int) (b0 : Nat) (A0 : Option Addr) (c0 : Nat) (l0 : List S25) (w : World) (hr0 : Kd.C k25 w A0 l0.length l0) (hc0 : l0.length ≤ c0) (hn0 : w.cell? ⟨b0, 0, none⟩ = some (.int .i64 n0)) :
    Calls Try.prog 39 #[.slice A0 l0.length c0, .func (.func 32) #[] #[.pointer (some ⟨b0, 0, none⟩)]] w fun e w' => e = .returned (.int .i64 (idxOf (outB n0) l0)) ∧ Below w.heap.size w w' := by
  have hu := Try.underlying25
  have hm : l0.length ≤ 9223372036854775807 := hr0.2.1
  have HR0 := Aside0.mk hr0
  clear hr0
  have eg := fun args (W : World) => enters_ (P := Try.prog) Try.func32 (by kernel_rfl) rfl args W
  go_enter Try.func39, Try.ntmps39
  go_wp2
  go_loopw [5, 8] (fun _ i wr => ∃ k : Nat, k ≤ l0.length ∧ i = .int .i64 k ∧ Aside0 (∀ j, j < k → (outB n0) (rd_T25 l0 (j : Int)) = false) ∧ Aside0 (Below w.heap.size w wr)) (fun _ i _ => l0.length - (intOf i).toNat)
  case atStart => exact ⟨0, Nat.zero_le _, rfl, ⟨fun j hj => by omega⟩, ⟨Below.refl _ _⟩⟩
  case round =>
    obtain ⟨k, hk, rfl, hno, hB⟩ := hrel
    by_cases hlt : k < l0.length
    · obtain ⟨ad, A1, c1, e0, h0, h1, hle, hC1⟩ := at_T25 (Kd.C_below HR0.out hB.out) (k : Int) (by omega) (by omega)
      subst e0
      simp only [Int.toNat_natCast] at h0 h1 hle hC1
      have hnw := (hB.out.cell (p := ⟨b0, 0, none⟩) (World.block_lt_of_cell? w _ hn0)).trans hn0
      obtain ⟨x, hx⟩ : ∃ x, x = rd_T25 l0 (k : Int) := ⟨_, rfl⟩
      rw [← hx] at h0 h1 hle hC1
      have HX := Aside0.mk hx
      clear hx
      cases hp : (outB n0) x with
      | true =>
        go_wp2_with (go_at_call 32; refine (within1_calls n0 b0 x A1 c1 _ hnw _ hp).mono ?_; rintro e w2 ⟨rfl, hb2⟩; have HB2 := Aside0.mk hb2; clear hb2)
        go_ret
        exact ⟨by rw [idxOf_some (outB n0) l0 k hlt hno.out (by rw [← HX.out]; exact hp)]; rfl, below_step hB.out HB2.out⟩
      | false =>
        go_wp2_with (go_at_call 32; refine (within1_calls n0 b0 x A1 c1 _ hnw _ hp).mono ?_; rintro e w2 ⟨rfl, hb2⟩; have HB2 := Aside0.mk hb2; clear hb2)
        go_roundw
        case rel => exact ⟨k + 1, by omega, by go_num, ⟨fun j hj => by
          by_cases e : j = k
          · subst e; rw [← HX.out]; exact hp
          · exact hno.out j (by omega)⟩, ⟨below_step hB.out HB2.out⟩⟩
        case measure => simp [intOf]; omega
    · obtain rfl : k = l0.length := by omega
      go_wp2
      go_ret
      exact ⟨by rw [idxOf_none (outB n0) l0 hno.out]; rfl, hB.out⟩
theorem contains_within (n0 : Int) (b0 : Nat) (A0 : Option Addr) (c0 : Nat) (l0 : List S25) (w : World) (hr0 : Kd.C k25 w A0 l0.length l0) (hc0 : l0.length ≤ c0) (hn0 : w.cell? ⟨b0, 0, none⟩ = some (.int .i64 n0)) :
    Calls Try.prog 31 #[.slice A0 l0.length c0, .func (.func 32) #[] #[.pointer (some ⟨b0, 0, none⟩)]] w fun e w' => e = .returned (.bool (l0.any (outB n0))) ∧ Below w.heap.size w w' := by
  have hany := idxOf_any (outB n0) l0
  obtain ⟨z, hz⟩ : ∃ z, z = idxOf (outB n0) l0 := ⟨_, rfl⟩
  have HZ := Aside0.mk hz
  rw [← hz] at hany
  have HA := Aside0.mk hany
  clear hz hany
  go_enter Try.func31, Try.ntmps31
  go_wp2_with (go_at_call 39; refine (index_within n0 b0 A0 c0 l0 _ hr0 hc0 hn0).mono ?_; rintro e w2 ⟨rfl, hb2⟩; rw [← HZ.out])
  go_ret
  exact ⟨by rw [← HA.out]; rfl, hb2⟩
def undo_Within.f (l0 : List S25) (a1 : Int) : Option Bool := some (!(l0.any (outB a1)))
set_option maxHeartbeats 1000000 in
theorem undo_Within.calls (A0 : Option Addr) (c0 : Nat) (l0 : List S25) (a1 : Int) (r : Bool) (w : World) (hr0 : Kd.C k25 w A0 l0.length l0) (hc0 : l0.length ≤ c0) (h : undo_Within.f l0 a1 = some r) :
    Calls Try.prog 22 #[.slice A0 l0.length c0, .int .i64 a1] w fun e w' => e = .returned (.bool r) ∧ Below w.heap.size w w' := by
  obtain rfl := Option.some.inj h
  clear h
  obtain ⟨b, hb⟩ : ∃ b, b = l0.any (outB a1) := ⟨_, rfl⟩
  have HB := Aside0.mk hb
  rw [← hb]
  clear hb
  have hz : Below w.heap.size w (w.alloc (.cells #[.int .i64 a1] 3)) := (Below.refl _ w).alloc (Nat.le_refl _) _
  have hcz : (w.alloc (.cells #[.int .i64 a1] 3)).cell? ⟨w.heap.size, 0, none⟩ = some (.int .i64 a1) := (blk_cell (World.alloc_heap_new w (.cells #[.int .i64 a1] 3)) 0).trans rfl
  have hCz := Kd.C_below hr0 hz
  go_enter Try.func22, Try.ntmps22
  go_wp2_with (go_at_call 31; refine (contains_within a1 w.heap.size A0 c0 l0 _ hCz hc0 hcz).mono ?_; rintro e w2 ⟨rfl, hb2⟩; rw [← HB.out])
  go_ret
  exact ⟨rfl, hz.trans (hb2.mono (by simp))⟩

/-! ### lockfastref13_Within: function 23 -/
def lockfastref13_Within.l0 : Nat → List (S25) → Int → Int → Option (Bool)
  | 0, _, _, _ => none
  | k + 1, x0, x1, x5 => if x5 < (x0.length : Int) then (if 0 ≤ x5 then (if ((rd_T25 x0 x5).f0) < 0 then (some false) else (if (wrap64 (x1 - ((rd_T25 x0 x5).f0))) < (((rd_T25 x0 x5).f1).length : Int) then (some false) else (lockfastref13_Within.l0 k x0 x1 (wrap64 (x5 + 1))))) else (none)) else (some true)
def lockfastref13_Within.f (k : Nat) (l0 : List (S25)) (a1 : Int) : Option (Bool) := lockfastref13_Within.l0 k l0 a1 0
theorem lockfastref13_Within.mono_l : ∀ k, (∀ y0 y1 y2, LeO (lockfastref13_Within.l0 k y0 y1 y2) (lockfastref13_Within.l0 (k + 1) y0 y1 y2))
  | 0 => fun _ _ _ r h => by simp [lockfastref13_Within.l0] at h
  | k + 1 => by
    have ih0 := lockfastref13_Within.mono_l k
    · intro y0 y1 y2
      unfold lockfastref13_Within.l0
      repeat' first
      | (with_reducible exact ih0 _ _ _)
      | (with_reducible exact LeO.refl _)
      | (with_reducible exact LeO.none _)
      | (with_reducible refine LeO.ite ?_ ?_)
      | (with_reducible refine LeO.bind ?_ (fun _ => ?_))
      | exact ih0 _ _ _
      | exact LeO.none _
      | refine LeO.ite ?_ ?_
      | refine LeO.bind ?_ (fun _ => ?_)
theorem lockfastref13_Within.mono : ∀ a0 a1 k, LeO (lockfastref13_Within.f k a0 a1) (lockfastref13_Within.f (k + 1) a0 a1) := by
  intro a0 a1 k
  have ih0 := lockfastref13_Within.mono_l k
  unfold lockfastref13_Within.f
  repeat' first
      | (with_reducible exact ih0 _ _ _)
      | (with_reducible exact LeO.refl _)
      | (with_reducible exact LeO.none _)
      | (with_reducible refine LeO.ite ?_ ?_)
      | (with_reducible refine LeO.bind ?_ (fun _ => ?_))
      | exact ih0 _ _ _
      | exact LeO.none _
      | refine LeO.ite ?_ ?_
      | refine LeO.bind ?_ (fun _ => ?_)
set_option maxHeartbeats 8000000 in
set_option maxRecDepth 100000 in
theorem lockfastref13_Within.calls (k : Nat) (A0 : Option Addr) (c0 : Nat) (l0 : List (S25)) (a1 : Int) (r : Bool) (w : World) (hr0 : Kd.C k25 w A0 l0.length l0) (hc0 : l0.length ≤ c0) (h : lockfastref13_Within.f k l0 a1 = some r) :
    Calls Try.prog 23 #[.slice A0 l0.length c0, .int .i64 a1] w fun e w' => e = .returned (.bool r) ∧ Drawn0 w w' := by
  have HR0 := Aside0.mk hr0
  have HC0 := Aside0.mk hc0
  clear hr0 hc0
  have H : (lockfastref13_Within.l0 k l0 a1 0) = some r := h
  clear h
  have H' := Aside0.mk H
  clear H
  go_enter Try.func23, Try.ntmps23
  go_wp2
  repeat (go_quiet (fail); try go_wp2)
  go_loopg [5] k (fun kq v5 w' => ∃ (x5_1 : Int), v5 = .int .i64 x5_1 ∧ Aside0 (lockfastref13_Within.l0 kq l0 a1 x5_1 = some r) ∧ Aside0 (kq ≤ k) ∧ Drawn0 w w')
  case atStart => exact ⟨(0), (by first | rfl | (simp; done) | (simp [*]; done)), H', ⟨Nat.le_refl _⟩, by repeat (first | exact Drawn0.refl _ | apply Drawn0.step)⟩
  case round =>
    clear H'
    try clear c2
    try clear p2
    obtain ⟨x5_1, rfl, HA, HK1, ⟨m1, rfl⟩⟩ := hrel
    cases gk with
    | zero => exact absurd HA.out (by simp [lockfastref13_Within.l0])
    | succ k1 =>
      have H := HA.out
      clear HA
      simp only [lockfastref13_Within.l0] at H
      by_cases c3 : x5_1 < (l0.length : Int)
      · rw [if_pos c3] at H
        have c3b0 : decide (x5_1 < (l0.length : Int)) = true := decide_eq_true c3
        clear c3
        by_cases c4 : 0 ≤ x5_1
        · rw [if_pos c4] at H
          have c4b0 : decide (0 ≤ x5_1) = true := decide_eq_true c4
          clear c4
          by_cases c5 : ((rd_T25 l0 x5_1).f0) < 0
          · rw [if_pos c5] at H
            have c5b0 : decide (((rd_T25 l0 x5_1).f0) < 0) = true := decide_eq_true c5
            clear c5
            obtain rfl := Option.some.inj H
            simp only [Option.some.injEq, Prod.mk.injEq] at H
            obtain ⟨rfl⟩ := H
            have p147 : 0 ≤ (x5_1 : Int) := of_decide_eq_true (by first | (with_reducible assumption) | assumption)
            have q147 : x5_1 < (l0.length : Int) := of_decide_eq_true (by first | (with_reducible assumption) | assumption)
            obtain ⟨ad147, A147_1, c147_1, e147, hx147_0, hx147_1, hl147_1, hi147_1⟩ := at_T25 HR0.out x5_1 p147 q147
            cases e147
            have HR147_1 := Aside0.mk hi147_1
            have HC147_1 := Aside0.mk hl147_1
            clear hi147_1 hl147_1
            replace p147 := eq_true p147
            replace q147 := eq_true q147
            go_wp2
            repeat (go_quiet (fail); try go_wp2)
            go_ret
            exact ⟨by first | rfl | (simp; done) | (simp [*]; done), by repeat (first | exact Drawn0.refl _ | apply Drawn0.step)⟩
          · rw [if_neg c5] at H
            have c5b0 : decide (((rd_T25 l0 x5_1).f0) < 0) = false := decide_eq_false c5
            clear c5
            by_cases c6 : (wrap64 (a1 - ((rd_T25 l0 x5_1).f0))) < (((rd_T25 l0 x5_1).f1).length : Int)
            · rw [if_pos c6] at H
              have c6b0 : decide ((wrap64 (a1 - ((rd_T25 l0 x5_1).f0))) < (((rd_T25 l0 x5_1).f1).length : Int)) = true := decide_eq_true c6
              clear c6
              obtain rfl := Option.some.inj H
              simp only [Option.some.injEq, Prod.mk.injEq] at H
              obtain ⟨rfl⟩ := H
              have p147 : 0 ≤ (x5_1 : Int) := of_decide_eq_true (by first | (with_reducible assumption) | assumption)
              have q147 : x5_1 < (l0.length : Int) := of_decide_eq_true (by first | (with_reducible assumption) | assumption)
              obtain ⟨ad147, A147_1, c147_1, e147, hx147_0, hx147_1, hl147_1, hi147_1⟩ := at_T25 HR0.out x5_1 p147 q147
              cases e147
              have HR147_1 := Aside0.mk hi147_1
              have HC147_1 := Aside0.mk hl147_1
              clear hi147_1 hl147_1
              replace p147 := eq_true p147
              replace q147 := eq_true q147
              have p148 : 0 ≤ (x5_1 : Int) := of_decide_eq_true (by first | (with_reducible assumption) | assumption)
              have q148 : x5_1 < (l0.length : Int) := of_decide_eq_true (by first | (with_reducible assumption) | assumption)
              obtain ⟨ad148, A148_1, c148_1, e148, hx148_0, hx148_1, hl148_1, hi148_1⟩ := at_T25 HR0.out x5_1 p148 q148
              obtain rfl : ad147 = ad148 := (by injection e148)
              have HR148_1 := Aside0.mk hi148_1
              have HC148_1 := Aside0.mk hl148_1
              clear hi148_1 hl148_1
              replace p148 := eq_true p148
              replace q148 := eq_true q148
              have ea_ := Option.some.inj (hx147_1.symm.trans hx148_1)
              injection ea_ with ea_ en_ ec_
              subst ea_
              subst ec_
              clear en_
              have p149 : 0 ≤ (x5_1 : Int) := of_decide_eq_true (by first | (with_reducible assumption) | assumption)
              have q149 : x5_1 < (l0.length : Int) := of_decide_eq_true (by first | (with_reducible assumption) | assumption)
              obtain ⟨ad149, A149_1, c149_1, e149, hx149_0, hx149_1, hl149_1, hi149_1⟩ := at_T25 HR0.out x5_1 p149 q149
              obtain rfl : ad147 = ad149 := (by injection e149)
              have HR149_1 := Aside0.mk hi149_1
              have HC149_1 := Aside0.mk hl149_1
              clear hi149_1 hl149_1
              replace p149 := eq_true p149
              replace q149 := eq_true q149
              have ea_ := Option.some.inj (hx147_1.symm.trans hx149_1)
              injection ea_ with ea_ en_ ec_
              subst ea_
              subst ec_
              clear en_
              go_wp2
              repeat (go_quiet (fail); try go_wp2)
              go_ret
              exact ⟨by first | rfl | (simp; done) | (simp [*]; done), by repeat (first | exact Drawn0.refl _ | apply Drawn0.step)⟩
            · rw [if_neg c6] at H
              have c6b0 : decide ((wrap64 (a1 - ((rd_T25 l0 x5_1).f0))) < (((rd_T25 l0 x5_1).f1).length : Int)) = false := decide_eq_false c6
              clear c6
              have H' := Aside0.mk H
              clear H
              have p147 : 0 ≤ (x5_1 : Int) := of_decide_eq_true (by first | (with_reducible assumption) | assumption)
              have q147 : x5_1 < (l0.length : Int) := of_decide_eq_true (by first | (with_reducible assumption) | assumption)
              obtain ⟨ad147, A147_1, c147_1, e147, hx147_0, hx147_1, hl147_1, hi147_1⟩ := at_T25 HR0.out x5_1 p147 q147
              cases e147
              have HR147_1 := Aside0.mk hi147_1
              have HC147_1 := Aside0.mk hl147_1
              clear hi147_1 hl147_1
              replace p147 := eq_true p147
              replace q147 := eq_true q147
              have p148 : 0 ≤ (x5_1 : Int) := of_decide_eq_true (by first | (with_reducible assumption) | assumption)
              have q148 : x5_1 < (l0.length : Int) := of_decide_eq_true (by first | (with_reducible assumption) | assumption)
              obtain ⟨ad148, A148_1, c148_1, e148, hx148_0, hx148_1, hl148_1, hi148_1⟩ := at_T25 HR0.out x5_1 p148 q148
              obtain rfl : ad147 = ad148 := (by injection e148)
              have HR148_1 := Aside0.mk hi148_1
              have HC148_1 := Aside0.mk hl148_1
              clear hi148_1 hl148_1
              replace p148 := eq_true p148
              replace q148 := eq_true q148
              have ea_ := Option.some.inj (hx147_1.symm.trans hx148_1)
              injection ea_ with ea_ en_ ec_
              subst ea_
              subst ec_
              clear en_
              have p149 : 0 ≤ (x5_1 : Int) := of_decide_eq_true (by first | (with_reducible assumption) | assumption)
              have q149 : x5_1 < (l0.length : Int) := of_decide_eq_true (by first | (with_reducible assumption) | assumption)
              obtain ⟨ad149, A149_1, c149_1, e149, hx149_0, hx149_1, hl149_1, hi149_1⟩ := at_T25 HR0.out x5_1 p149 q149
              obtain rfl : ad147 = ad149 := (by injection e149)
              have HR149_1 := Aside0.mk hi149_1
              have HC149_1 := Aside0.mk hl149_1
              clear hi149_1 hl149_1
              replace p149 := eq_true p149
              replace q149 := eq_true q149
              have ea_ := Option.some.inj (hx147_1.symm.trans hx149_1)
              injection ea_ with ea_ en_ ec_
              subst ea_
              subst ec_
              clear en_
              go_wp2
              repeat (go_quiet (fail); try go_wp2)
              go_roundg k1
              case measure => have := HK1.out; omega
              case rel => exact ⟨(wrap64 (x5_1 + 1)), (by first | rfl | (simp; done) | (simp [*]; done)), (by first | exact H' | (subst_vars; exact H')), ⟨by have := HK1.out; omega⟩, by repeat (first | exact Drawn0.refl _ | apply Drawn0.step)⟩
        · rw [if_neg c4] at H
          exact absurd H (by simp)
      · rw [if_neg c3] at H
        have c3b0 : decide (x5_1 < (l0.length : Int)) = false := decide_eq_false c3
        clear c3
        obtain rfl := Option.some.inj H
        simp only [Option.some.injEq, Prod.mk.injEq] at H
        obtain ⟨rfl⟩ := H
        go_wp2
        repeat (go_quiet (fail); try go_wp2)
        go_ret
        exact ⟨by first | rfl | (simp; done) | (simp [*]; done), by repeat (first | exact Drawn0.refl _ | apply Drawn0.step)⟩

end Go.Proofs.Ytinbediigibolaa.PUndoBacks
