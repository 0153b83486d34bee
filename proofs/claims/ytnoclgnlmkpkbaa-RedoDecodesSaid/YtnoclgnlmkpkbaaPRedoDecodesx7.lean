-- WRITTEN FOR THIS CLAIM by given.py, a program of this session's: the kit's printer, run with contracts of the session's own. It is not a text of print.sh's.
import Derived.Test.YtnoclgnlmkpkbaaPRedoDecodesx0
import Derived.Test.YtnoclgnlmkpkbaaPRedoDecodesx4
import Derived.Test.YtnoclgnlmkpkbaaPRedoDecodesx5
import Derived.Test.YtnoclgnlmkpkbaaPRedoDecodesx6
namespace Go.Proofs.Ytnoclgnlmkpkbaa.PRedoDecodes
open Go.RowKit Go.Proofs.YtnoclgnlmkpkbaaW.PrintWords Go.Proofs.YtnoclgnlmkpkbaaW.PrintLast Go.Proofs.YtnoclgnlmkpkbaaW.PrintMore
attribute [local go_sem] max2_int min2_int max_two min_two max_three min_three max_four min_four   -- for this text's walks alone
set_option linter.unusedVariables false
set_option linter.unusedSimpArgs false
open Go.Proofs.YtnoclgnlmkpkbaaX

/-! ### lockfastref12_Decode: function 15 -/
mutual
def lockfastref12_Decode.j0 : Nat → List Int → Int → Bool → Option ((List (S38)) × Bool)
  | 0, _, _, _ => none
  | k + 1, x0, x1, x24 => if x24 = true then (some (([] : List (S38)), false)) else (lockfastref12_Decode.l0 k x0 x1 ([] : List (S38)) 0)
def lockfastref12_Decode.l0 : Nat → List Int → Int → List (S38) → Int → Option ((List (S38)) × Bool)
  | 0, _, _, _, _ => none
  | k + 1, x0, x1, x6, x7 => if x7 < x1 then (if 0 ≤ (wrap64 (2 * x7)) then (if (wrap64 (2 * x7)) < (x0.length : Int) then (if 0 ≤ (wrap64 ((wrap64 (2 * x7)) + 1)) then (if (wrap64 ((wrap64 (2 * x7)) + 1)) < (x0.length : Int) then ((lockfastref12_can.f (wrap64 (Int.tmod (rd x0 (wrap64 (2 * x7))) 4)) (wrap64 (Int.tmod (IntKind.u64.wrap (Int.tdiv (rd x0 (wrap64 (2 * x7))) 4)) 1048576)) (rd x0 (wrap64 ((wrap64 (2 * x7)) + 1)))).bind fun t174 => (if t174 = true then (if (rd x0 (wrap64 (2 * x7))) ≥ 4194304 then (some (([] : List (S38)), false)) else (if x6.length < 5864062014805 then (lockfastref12_Decode.l0 k x0 x1 (x6 ++ [(⟨wrap64 (Int.tmod (rd x0 (wrap64 (2 * x7))) 4), wrap64 (Int.tmod (IntKind.u64.wrap (Int.tdiv (rd x0 (wrap64 (2 * x7))) 4)) 1048576), rd x0 (wrap64 ((wrap64 (2 * x7)) + 1))⟩ : S38)]) (wrap64 (x7 + 1))) else (none))) else (some (([] : List (S38)), false)))) else (none)) else (none)) else (none)) else (none)) else (if 0 ≤ (wrap64 (2 * x1)) then (if (wrap64 (2 * x1)) < (x0.length : Int) then (if (wrap64 (2 * x1)) ≤ (x0.length : Int) then ((lockfastref02_Of.f k (x0.take ((wrap64 (2 * x1)) : Int).toNat)).bind fun t180 => (if (rd x0 (wrap64 (2 * x1))) = (IntKind.u64.wrap (t180)) then (some (x6, true)) else (some (([] : List (S38)), false)))) else (none)) else (none)) else (none))
end
def lockfastref12_Decode.f (k : Nat) (l0 : List Int) (a1 : Int) : Option ((List (S38)) × Bool) := if a1 < 0 then (lockfastref12_Decode.j0 k l0 a1 true) else (if a1 > 19 then (lockfastref12_Decode.j0 k l0 a1 true) else (lockfastref12_Decode.j0 k l0 a1 (decide ((l0.length : Int) < (wrap64 ((wrap64 (2 * a1)) + 1))))))
theorem lockfastref12_Decode.mono_l : ∀ k, (∀ y0 y1 y2, LeO (lockfastref12_Decode.j0 k y0 y1 y2) (lockfastref12_Decode.j0 (k + 1) y0 y1 y2)) ∧ (∀ y0 y1 y2 y3, LeO (lockfastref12_Decode.l0 k y0 y1 y2 y3) (lockfastref12_Decode.l0 (k + 1) y0 y1 y2 y3))
  | 0 => ⟨fun _ _ _ r h => by simp [lockfastref12_Decode.j0] at h, fun _ _ _ _ r h => by simp [lockfastref12_Decode.l0] at h⟩
  | k + 1 => by
    obtain ⟨ih0, ih1⟩ := lockfastref12_Decode.mono_l k
    refine ⟨?_, ?_⟩
    · intro y0 y1 y2
      unfold lockfastref12_Decode.j0
      repeat' first
      | (with_reducible exact ih0 _ _ _)
      | (with_reducible exact ih1 _ _ _ _)
      | (with_reducible exact lockfastref02_Of.mono _ _)
      | (with_reducible exact LeO.refl _)
      | (with_reducible exact LeO.none _)
      | (with_reducible refine LeO.ite ?_ ?_)
      | (with_reducible refine LeO.bind ?_ (fun _ => ?_))
      | exact ih0 _ _ _
      | exact ih1 _ _ _ _
      | exact lockfastref02_Of.mono _ _
      | exact LeO.none _
      | refine LeO.ite ?_ ?_
      | refine LeO.bind ?_ (fun _ => ?_)
    · intro y0 y1 y2 y3
      unfold lockfastref12_Decode.l0
      repeat' first
      | (with_reducible exact ih0 _ _ _)
      | (with_reducible exact ih1 _ _ _ _)
      | (with_reducible exact lockfastref02_Of.mono _ _)
      | (with_reducible exact LeO.refl _)
      | (with_reducible exact LeO.none _)
      | (with_reducible refine LeO.ite ?_ ?_)
      | (with_reducible refine LeO.bind ?_ (fun _ => ?_))
      | exact ih0 _ _ _
      | exact ih1 _ _ _ _
      | exact lockfastref02_Of.mono _ _
      | exact LeO.none _
      | refine LeO.ite ?_ ?_
      | refine LeO.bind ?_ (fun _ => ?_)
theorem lockfastref12_Decode.mono : ∀ a0 a1 k, LeO (lockfastref12_Decode.f k a0 a1) (lockfastref12_Decode.f (k + 1) a0 a1) := by
  intro a0 a1 k
  obtain ⟨ih0, ih1⟩ := lockfastref12_Decode.mono_l k
  unfold lockfastref12_Decode.f
  repeat' first
      | (with_reducible exact ih0 _ _ _)
      | (with_reducible exact ih1 _ _ _ _)
      | (with_reducible exact lockfastref02_Of.mono _ _)
      | (with_reducible exact LeO.refl _)
      | (with_reducible exact LeO.none _)
      | (with_reducible refine LeO.ite ?_ ?_)
      | (with_reducible refine LeO.bind ?_ (fun _ => ?_))
      | exact ih0 _ _ _
      | exact ih1 _ _ _ _
      | exact lockfastref02_Of.mono _ _
      | exact LeO.none _
      | refine LeO.ite ?_ ?_
      | refine LeO.bind ?_ (fun _ => ?_)
set_option maxHeartbeats 8000000 in
set_option maxRecDepth 100000 in
theorem lockfastref12_Decode.calls (k : Nat) (A0 : Option Addr) (c0 : Nat) (l0 : List Int) (a1 : Int) (r1 : List (S38)) (r2 : Bool) (w : World) (hr0 : Kd.C (Kd.int .u64) w A0 l0.length l0) (hc0 : l0.length ≤ c0) (h : lockfastref12_Decode.f k l0 a1 = some (r1, r2)) :
    Calls Try.prog 15 #[.slice A0 l0.length c0, .int .i64 a1] w fun e w' => ∃ v0_ : Value, e = .returned (.tuple #[v0_, .bool r2]) ∧ Kd.R k38 38 w' w.heap.size (fun _ => True) v0_ r1 ∧ Below w.heap.size w w' := by
  have hu38 := Try.underlying38
  have HR0 := Aside0.mk hr0
  have HC0 := Aside0.mk hc0
  clear hr0 hc0
  have HB := Aside0.mk (Below.refl w.heap.size w)
  have H : (if a1 < 0 then (lockfastref12_Decode.j0 k l0 a1 true) else (if a1 > 19 then (lockfastref12_Decode.j0 k l0 a1 true) else (lockfastref12_Decode.j0 k l0 a1 (decide ((l0.length : Int) < (wrap64 ((wrap64 (2 * a1)) + 1))))))) = some (r1, r2) := h
  clear h
  have HC3 := Aside0.mk H
  clear H
  go_enter Try.func15, Try.ntmps15
  go_upto_region 1 with (fail)
  repeat (go_quiet (fail); go_upto_region 1 with (fail))
  go_cut [24] (fun v24 wc => ∃ (kq : Nat) (x24_2 : Bool), v24 = .bool x24_2 ∧ Aside0 (lockfastref12_Decode.j0 kq l0 a1 x24_2 = some (r1, r2)) ∧ Aside0 (kq ≤ k) ∧ Aside0 (Below w.heap.size w wc))
  case first =>
    have H := HC3.out
    clear HC3
    by_cases c4 : a1 < 0
    · rw [if_pos c4] at H
      have c4b0 : decide (a1 < 0) = true := decide_eq_true c4
      clear c4
      (first | rw [c4b0] | (simp only [i64_w, i32_w]; rw [c4b0]) | skip)
      have H' := Aside0.mk H
      clear H
      go_wp2
      repeat (go_quiet (fail); try go_wp2)
      go_meet
      case rel => exact ⟨_, (true), (by first | rfl | (simp; done) | (simp [*]; done)), (by first | exact H' | (subst_vars; exact H')), ⟨by first | omega | exact Nat.le_refl _⟩, ⟨by repeat (first | (with_reducible first | exact HB.out | apply below_alloc | apply pw_below_drewN | apply below_drew1) | exact HB.out)⟩⟩
    · rw [if_neg c4] at H
      have c4b0 : decide (a1 < 0) = false := decide_eq_false c4
      clear c4
      (first | rw [c4b0] | (simp only [i64_w, i32_w]; rw [c4b0]) | skip)
      by_cases c5 : a1 > 19
      · rw [if_pos c5] at H
        have c5b0 : decide (19 < a1) = true := decide_eq_true c5
        clear c5
        have H' := Aside0.mk H
        clear H
        go_wp2
        repeat (go_quiet (fail); try go_wp2)
        go_meet
        case rel => exact ⟨_, (true), (by first | rfl | (simp; done) | (simp [*]; done)), (by first | exact H' | (subst_vars; exact H')), ⟨by first | omega | exact Nat.le_refl _⟩, ⟨by repeat (first | (with_reducible first | exact HB.out | apply below_alloc | apply pw_below_drewN | apply below_drew1) | exact HB.out)⟩⟩
      · rw [if_neg c5] at H
        have c5b0 : decide (19 < a1) = false := decide_eq_false c5
        clear c5
        have H' := Aside0.mk H
        clear H
        go_wp2
        repeat (go_quiet (fail); try go_wp2)
        go_meet
        case rel => exact ⟨_, (decide ((l0.length : Int) < (wrap64 ((wrap64 (2 * a1)) + 1)))), (by first | rfl | (simp; done) | (simp [*]; done)), (by first | exact H' | (subst_vars; exact H')), ⟨by first | omega | exact Nat.le_refl _⟩, ⟨by repeat (first | (with_reducible first | exact HB.out | apply below_alloc | apply pw_below_drewN | apply below_drew1) | exact HB.out)⟩⟩
  case rest =>
    clear HC3
    try clear c1
    try clear p2
    try clear c4
    try clear c4b0
    try clear c5
    try clear c5b0
    obtain ⟨kq, x24_2, rfl, HA, HJ2, HB⟩ := hcut
    cases kq with
    | zero => exact absurd HA.out (by simp [lockfastref12_Decode.j0])
    | succ kj2 =>
      have H := HA.out
      clear HA
      simp only [lockfastref12_Decode.j0] at H
      by_cases c6 : x24_2 = true
      · subst c6
        have H1 : (some (([] : List (S38)), false)) = some (r1, r2) := by rw [if_pos rfl] at H; exact H
        clear H
        have H := H1
        clear H1
        simp only [Option.some.injEq, Prod.mk.injEq] at H
        obtain ⟨rfl, rfl⟩ := H
        go_wp2
        repeat (go_quiet (fail); try go_wp2)
        go_ret2
        exact ⟨_, by first | rfl | (simp [errW_none, errW_some] <;> rfl) | (simp [*, errW_none, errW_some] <;> rfl), by first | exact Kd.R_nil _ _ _ _ _ | exact Kd.N_nil _ _ _ _ _ | exact Kd.V_nil _ _ _ _ _ | exact Kd.Q_nil _ _ _ _ _ | exact Kd.S_nil _ _ _ _ _, by repeat (first | (with_reducible first | exact HB.out | apply below_alloc | apply pw_below_drewN | apply below_drew1) | exact HB.out)⟩
      · replace c6 := Bool.eq_false_iff.mpr c6
        subst c6
        have H1 : (lockfastref12_Decode.l0 kj2 l0 a1 ([] : List (S38)) 0) = some (r1, r2) := by rw [if_neg (show ¬ (false = true) by decide)] at H; exact H
        clear H
        have H := H1
        clear H1
        have H' := Aside0.mk H
        clear H
        go_wp2
        repeat (go_quiet (fail); try go_wp2)
        go_loopg [6, 7] kj2 (fun kq v6 v7 w' => ∃ (x6_2 : List (S38)) (x7_2 : Int), v7 = .int .i64 x7_2 ∧ Aside0 (lockfastref12_Decode.l0 kq l0 a1 x6_2 x7_2 = some (r1, r2)) ∧ Aside0 (kq ≤ kj2) ∧ Aside0 (Kd.R k38 38 w' w.heap.size (fun _ => True) v6 x6_2) ∧ Aside0 (Below w.heap.size w w'))
        case atStart => exact ⟨(([] : List (S38))), (0), (by first | rfl | (simp; done) | (simp [*]; done)), H', ⟨Nat.le_refl _⟩, ⟨by first | exact Kd.R_nil _ _ _ _ _ | exact Kd.N_nil _ _ _ _ _ | exact Kd.V_nil _ _ _ _ _ | exact Kd.Q_nil _ _ _ _ _ | exact Kd.S_nil _ _ _ _ _⟩, ⟨by repeat (first | (with_reducible first | exact HB.out | apply below_alloc | apply pw_below_drewN | apply below_drew1) | exact HB.out)⟩⟩
        case round =>
          clear H'
          try clear c1
          try clear p2
          try clear c4
          try clear c4b0
          try clear c5
          try clear c5b0
          try clear c6
          try clear p6
          try clear p2
          obtain ⟨x6_2, x7_2, rfl, HA, HK2, HO_6, HB⟩ := hrel
          cases gk with
          | zero => exact absurd HA.out (by simp [lockfastref12_Decode.l0])
          | succ k2 =>
            have H := HA.out
            clear HA
            simp only [lockfastref12_Decode.l0] at H
            by_cases c7 : x7_2 < a1
            · rw [if_pos c7] at H
              have c7b0 : decide (x7_2 < a1) = true := decide_eq_true c7
              clear c7
              obtain ⟨ji8, hji8⟩ : ∃ j_ : Int, (wrap64 (2 * x7_2)) = j_ := ⟨_, rfl⟩
              replace H : (if 0 ≤ (ji8) then (if (ji8) < (l0.length : Int) then (if 0 ≤ (wrap64 ((ji8) + 1)) then (if (wrap64 ((ji8) + 1)) < (l0.length : Int) then ((lockfastref12_can.f (wrap64 (Int.tmod (rd l0 (ji8)) 4)) (wrap64 (Int.tmod (IntKind.u64.wrap (Int.tdiv (rd l0 (ji8)) 4)) 1048576)) (rd l0 (wrap64 ((ji8) + 1)))).bind fun t174 => (if t174 = true then (if (rd l0 (ji8)) ≥ 4194304 then (some (([] : List (S38)), false)) else (if x6_2.length < 5864062014805 then (lockfastref12_Decode.l0 k2 l0 a1 (x6_2 ++ [(⟨wrap64 (Int.tmod (rd l0 (ji8)) 4), wrap64 (Int.tmod (IntKind.u64.wrap (Int.tdiv (rd l0 (ji8)) 4)) 1048576), rd l0 (wrap64 ((ji8) + 1))⟩ : S38)]) (wrap64 (x7_2 + 1))) else (none))) else (some (([] : List (S38)), false)))) else (none)) else (none)) else (none)) else (none)) = some (r1, r2) := by first | (rw [hji8] at H; exact H) | (simp only [hji8] at H ⊢; exact H)
              have hji8w : (IntKind.i64.wrap (2 * x7_2)) = ji8 := (i64_w _).trans hji8
              by_cases c9 : 0 ≤ (ji8)
              · rw [if_pos c9] at H
                have c9b0 : decide (0 ≤ (ji8)) = true := decide_eq_true c9
                clear c9
                by_cases c10 : (ji8) < (l0.length : Int)
                · rw [if_pos c10] at H
                  have c10b0 : decide ((ji8) < (l0.length : Int)) = true := decide_eq_true c10
                  clear c10
                  obtain ⟨ji11, hji11⟩ : ∃ j_ : Int, (wrap64 ((ji8) + 1)) = j_ := ⟨_, rfl⟩
                  replace H : (if 0 ≤ (ji11) then (if (ji11) < (l0.length : Int) then ((lockfastref12_can.f (wrap64 (Int.tmod (rd l0 (ji8)) 4)) (wrap64 (Int.tmod (IntKind.u64.wrap (Int.tdiv (rd l0 (ji8)) 4)) 1048576)) (rd l0 (ji11))).bind fun t174 => (if t174 = true then (if (rd l0 (ji8)) ≥ 4194304 then (some (([] : List (S38)), false)) else (if x6_2.length < 5864062014805 then (lockfastref12_Decode.l0 k2 l0 a1 (x6_2 ++ [(⟨wrap64 (Int.tmod (rd l0 (ji8)) 4), wrap64 (Int.tmod (IntKind.u64.wrap (Int.tdiv (rd l0 (ji8)) 4)) 1048576), rd l0 (ji11)⟩ : S38)]) (wrap64 (x7_2 + 1))) else (none))) else (some (([] : List (S38)), false)))) else (none)) else (none)) = some (r1, r2) := by first | (rw [hji11] at H; exact H) | (simp only [hji11] at H ⊢; exact H)
                  have hji11w : (IntKind.i64.wrap ((ji8) + 1)) = ji11 := (i64_w _).trans hji11
                  by_cases c12 : 0 ≤ (ji11)
                  · rw [if_pos c12] at H
                    have c12b0 : decide (0 ≤ (ji11)) = true := decide_eq_true c12
                    clear c12
                    by_cases c13 : (ji11) < (l0.length : Int)
                    · rw [if_pos c13] at H
                      have c13b0 : decide ((ji11) < (l0.length : Int)) = true := decide_eq_true c13
                      clear c13
                      replace H := Option.bind_eq_some_iff.mp H
                      obtain ⟨t174, A140, H⟩ := H
                      replace H : (if t174 = true then (if (rd l0 (ji8)) ≥ 4194304 then (some (([] : List (S38)), false)) else (if x6_2.length < 5864062014805 then (lockfastref12_Decode.l0 k2 l0 a1 (x6_2 ++ [(⟨wrap64 (Int.tmod (rd l0 (ji8)) 4), wrap64 (Int.tmod (IntKind.u64.wrap (Int.tdiv (rd l0 (ji8)) 4)) 1048576), rd l0 (ji11)⟩ : S38)]) (wrap64 (x7_2 + 1))) else (none))) else (some (([] : List (S38)), false))) = some (r1, r2) := H
                      have A14 := Aside0.mk A140
                      clear A140
                      by_cases c15 : t174 = true
                      · subst c15
                        have H1 : (if (rd l0 (ji8)) ≥ 4194304 then (some (([] : List (S38)), false)) else (if x6_2.length < 5864062014805 then (lockfastref12_Decode.l0 k2 l0 a1 (x6_2 ++ [(⟨wrap64 (Int.tmod (rd l0 (ji8)) 4), wrap64 (Int.tmod (IntKind.u64.wrap (Int.tdiv (rd l0 (ji8)) 4)) 1048576), rd l0 (ji11)⟩ : S38)]) (wrap64 (x7_2 + 1))) else (none))) = some (r1, r2) := by rw [if_pos rfl] at H; exact H
                        clear H
                        have H := H1
                        clear H1
                        by_cases c16 : (rd l0 (ji8)) ≥ 4194304
                        · rw [if_pos c16] at H
                          have c16b0 : decide (4194304 ≤ (rd l0 (ji8))) = true := decide_eq_true c16
                          clear c16
                          simp only [Option.some.injEq, Prod.mk.injEq] at H
                          obtain ⟨rfl, rfl⟩ := H
                          have p171 : 0 ≤ ((ji8) : Int) := of_decide_eq_true (by first | (with_reducible assumption) | assumption)
                          have q171 : (ji8) < (l0.length : Int) := of_decide_eq_true (by first | (with_reducible assumption) | assumption)
                          obtain ⟨ad171, e171, hx171_0⟩ := Kd.at_int HR0.out (ji8) p171 q171
                          cases e171
                          replace hx171_0 := (HB.out.cell (World.block_lt_of_cell? w _ hx171_0)).trans hx171_0
                          replace p171 := eq_true p171
                          replace q171 := eq_true q171
                          have p172 : 0 ≤ ((ji11) : Int) := of_decide_eq_true (by first | (with_reducible assumption) | assumption)
                          have q172 : (ji11) < (l0.length : Int) := of_decide_eq_true (by first | (with_reducible assumption) | assumption)
                          obtain ⟨ad172, e172, hx172_0⟩ := Kd.at_int HR0.out (ji11) p172 q172
                          obtain rfl : ad171 = ad172 := (by injection e172)
                          replace hx172_0 := (HB.out.cell (World.block_lt_of_cell? w _ hx172_0)).trans hx172_0
                          replace p172 := eq_true p172
                          replace q172 := eq_true q172
                          go_wp2_with (first | ((with_reducible refine gate_dst (N := 9) rfl ?_); (try (refine gate_guard (by rfl) ?_; dsimp only)); refine box_event ?hg (N := 9) ?hd (cs := #[.int .i64 0, .int .i64 0, .int .u64 0]) (t := 38) ?hr ?_; (case hd => rfl); (case hg => rfl); (case hr => first | (go_simp; done) | (go_simp; rfl)); intro gb173 hg w17 hbox hb; have n0_ := Aside0.mk (Kd.R_below (Kd.R_elderB (by (with_reducible repeat (first | apply Kd.R_alloc | apply Kd.R_drewN | apply Kd.R_drew)); exact HO_6.out) gb173 (Nat.le_of_eq hg.symm)) hb); have n1_ := Aside0.mk (below_step (by repeat (first | (with_reducible first | exact HB.out | apply below_alloc | apply pw_below_drewN | apply below_drew1) | exact HB.out)) hb); have n2_ := Aside0.mk (hbox); have n3_ := Aside0.mk ((by rw [hg]; exact (below_size (by repeat (first | (with_reducible first | exact HB.out | apply below_alloc | apply pw_below_drewN | apply below_drew1) | exact HB.out))) : w.heap.size ≤ gb173)); have n4_ := Aside0.mk ((by rw [hg]; exact (below_size (by repeat (first | (with_reducible first | exact HB.out | apply below_alloc | apply pw_below_drewN | apply below_drew1) | exact HB.out))) : w.heap.size ≤ gb173)); clear HO_6; clear HB; have HO_6 := n0_; have HB := n1_; have BK173 := n2_; have GW173 := n3_; have GE173 := n4_; clear n0_ n1_ n2_ n3_ n4_; clear hb hbox hg; have hcz18_0 : w17.cell? ⟨gb173, 0, none⟩ = some (.int .i64 0) := (blk_cell BK173.out 0).trans rfl; have hcz18_1 : w17.cell? ⟨gb173, 1, none⟩ = some (.int .i64 0) := (blk_cell BK173.out 1).trans rfl; have hcz18_2 : w17.cell? ⟨gb173, 2, none⟩ = some (.int .u64 0) := (blk_cell BK173.out 2).trans rfl; have hfz18_0 := blk_frozen BK173.out 0; have hfz18_1 := blk_frozen BK173.out 1; have hfz18_2 := blk_frozen BK173.out 2) | (go_at_call 26; (with_reducible refine (lockfastref12_can.calls (wrap64 (Int.tmod (rd l0 (ji8)) 4)) (wrap64 (Int.tmod (IntKind.u64.wrap (Int.tdiv (rd l0 (ji8)) 4)) 1048576)) (rd l0 (ji11)) true _ A14.out).mono ?_); rintro e w19 ⟨rfl, hb⟩; have n0_ := Aside0.mk (Kd.R_below (by (with_reducible repeat (first | apply Kd.R_alloc | apply Kd.R_drewN | apply Kd.R_drew)); exact (Kd.R_mono (Kd.R_far (p := ⟨gb173, 2, none⟩) (Kd.R_far (p := ⟨gb173, 1, none⟩) (Kd.R_far (p := ⟨gb173, 0, none⟩) (Kd.R_mono HO_6.out (fun k_ hk => (⟨hk, hk.2⟩ : _ ∧ k_ ≠ gb173))) (fun _ hk => hk.2) (.int .i64 (wrap64 (Int.tmod (rd l0 (ji8)) 4)))) (fun _ hk => hk.2) (.int .i64 (wrap64 (Int.tmod (IntKind.u64.wrap (Int.tdiv (rd l0 (ji8)) 4)) 1048576)))) (fun _ hk => hk.2) (.int .u64 (rd l0 (ji11)))) (fun _ h_ => h_.1))) hb); have n1_ := Aside0.mk (blk_below (g := gb173) (o := .cells #[.int .i64 (wrap64 (Int.tmod (rd l0 (ji8)) 4)), .int .i64 (wrap64 (Int.tmod (IntKind.u64.wrap (Int.tdiv (rd l0 (ji8)) 4)) 1048576)), .int .u64 (rd l0 (ji11))] 38 (0, 0)) (by (with_reducible repeat (first | refine blk_drewN ?_ _ | refine blk_drew ?_ | refine blk_alloc ?_ _)); refine blk_put (cs := #[.int .i64 (wrap64 (Int.tmod (rd l0 (ji8)) 4)), .int .i64 (wrap64 (Int.tmod (IntKind.u64.wrap (Int.tdiv (rd l0 (ji8)) 4)) 1048576)), .int .u64 0]) ?_ 2 _ rfl; (with_reducible repeat (first | refine blk_drewN ?_ _ | refine blk_drew ?_ | refine blk_alloc ?_ _)); refine blk_put (cs := #[.int .i64 (wrap64 (Int.tmod (rd l0 (ji8)) 4)), .int .i64 0, .int .u64 0]) ?_ 1 _ rfl; (with_reducible repeat (first | refine blk_drewN ?_ _ | refine blk_drew ?_ | refine blk_alloc ?_ _)); refine blk_put (cs := #[.int .i64 0, .int .i64 0, .int .u64 0]) ?_ 0 _ rfl; (with_reducible repeat (first | refine blk_drewN ?_ _ | refine blk_drew ?_ | refine blk_alloc ?_ _)); exact BK173.out) hb); have n2_ := Aside0.mk (below_step (by repeat (first | (with_reducible first | exact HB.out | apply below_alloc | apply pw_below_drewN | apply below_drew1 | refine below_set ?_ GE173.out) | exact HB.out)) hb); clear HO_6; clear BK173; clear HB; have HO_6 := n0_; have BK173 := n1_; have HB := n2_; clear n0_ n1_ n2_; (try clear hb); (try clear hb2); (try clear hk); (try clear hi)))
                          repeat (go_quiet (first | ((with_reducible refine gate_dst (N := 9) rfl ?_); (try (refine gate_guard (by rfl) ?_; dsimp only)); refine box_event ?hg (N := 9) ?hd (cs := #[.int .i64 0, .int .i64 0, .int .u64 0]) (t := 38) ?hr ?_; (case hd => rfl); (case hg => rfl); (case hr => first | (go_simp; done) | (go_simp; rfl)); intro gb173 hg w17 hbox hb; have n0_ := Aside0.mk (Kd.R_below (Kd.R_elderB (by (with_reducible repeat (first | apply Kd.R_alloc | apply Kd.R_drewN | apply Kd.R_drew)); exact HO_6.out) gb173 (Nat.le_of_eq hg.symm)) hb); have n1_ := Aside0.mk (below_step (by repeat (first | (with_reducible first | exact HB.out | apply below_alloc | apply pw_below_drewN | apply below_drew1) | exact HB.out)) hb); have n2_ := Aside0.mk (hbox); have n3_ := Aside0.mk ((by rw [hg]; exact (below_size (by repeat (first | (with_reducible first | exact HB.out | apply below_alloc | apply pw_below_drewN | apply below_drew1) | exact HB.out))) : w.heap.size ≤ gb173)); have n4_ := Aside0.mk ((by rw [hg]; exact (below_size (by repeat (first | (with_reducible first | exact HB.out | apply below_alloc | apply pw_below_drewN | apply below_drew1) | exact HB.out))) : w.heap.size ≤ gb173)); clear HO_6; clear HB; have HO_6 := n0_; have HB := n1_; have BK173 := n2_; have GW173 := n3_; have GE173 := n4_; clear n0_ n1_ n2_ n3_ n4_; clear hb hbox hg; have hcz18_0 : w17.cell? ⟨gb173, 0, none⟩ = some (.int .i64 0) := (blk_cell BK173.out 0).trans rfl; have hcz18_1 : w17.cell? ⟨gb173, 1, none⟩ = some (.int .i64 0) := (blk_cell BK173.out 1).trans rfl; have hcz18_2 : w17.cell? ⟨gb173, 2, none⟩ = some (.int .u64 0) := (blk_cell BK173.out 2).trans rfl; have hfz18_0 := blk_frozen BK173.out 0; have hfz18_1 := blk_frozen BK173.out 1; have hfz18_2 := blk_frozen BK173.out 2) | (go_at_call 26; (with_reducible refine (lockfastref12_can.calls (wrap64 (Int.tmod (rd l0 (ji8)) 4)) (wrap64 (Int.tmod (IntKind.u64.wrap (Int.tdiv (rd l0 (ji8)) 4)) 1048576)) (rd l0 (ji11)) true _ A14.out).mono ?_); rintro e w19 ⟨rfl, hb⟩; have n0_ := Aside0.mk (Kd.R_below (by (with_reducible repeat (first | apply Kd.R_alloc | apply Kd.R_drewN | apply Kd.R_drew)); exact (Kd.R_mono (Kd.R_far (p := ⟨gb173, 2, none⟩) (Kd.R_far (p := ⟨gb173, 1, none⟩) (Kd.R_far (p := ⟨gb173, 0, none⟩) (Kd.R_mono HO_6.out (fun k_ hk => (⟨hk, hk.2⟩ : _ ∧ k_ ≠ gb173))) (fun _ hk => hk.2) (.int .i64 (wrap64 (Int.tmod (rd l0 (ji8)) 4)))) (fun _ hk => hk.2) (.int .i64 (wrap64 (Int.tmod (IntKind.u64.wrap (Int.tdiv (rd l0 (ji8)) 4)) 1048576)))) (fun _ hk => hk.2) (.int .u64 (rd l0 (ji11)))) (fun _ h_ => h_.1))) hb); have n1_ := Aside0.mk (blk_below (g := gb173) (o := .cells #[.int .i64 (wrap64 (Int.tmod (rd l0 (ji8)) 4)), .int .i64 (wrap64 (Int.tmod (IntKind.u64.wrap (Int.tdiv (rd l0 (ji8)) 4)) 1048576)), .int .u64 (rd l0 (ji11))] 38 (0, 0)) (by (with_reducible repeat (first | refine blk_drewN ?_ _ | refine blk_drew ?_ | refine blk_alloc ?_ _)); refine blk_put (cs := #[.int .i64 (wrap64 (Int.tmod (rd l0 (ji8)) 4)), .int .i64 (wrap64 (Int.tmod (IntKind.u64.wrap (Int.tdiv (rd l0 (ji8)) 4)) 1048576)), .int .u64 0]) ?_ 2 _ rfl; (with_reducible repeat (first | refine blk_drewN ?_ _ | refine blk_drew ?_ | refine blk_alloc ?_ _)); refine blk_put (cs := #[.int .i64 (wrap64 (Int.tmod (rd l0 (ji8)) 4)), .int .i64 0, .int .u64 0]) ?_ 1 _ rfl; (with_reducible repeat (first | refine blk_drewN ?_ _ | refine blk_drew ?_ | refine blk_alloc ?_ _)); refine blk_put (cs := #[.int .i64 0, .int .i64 0, .int .u64 0]) ?_ 0 _ rfl; (with_reducible repeat (first | refine blk_drewN ?_ _ | refine blk_drew ?_ | refine blk_alloc ?_ _)); exact BK173.out) hb); have n2_ := Aside0.mk (below_step (by repeat (first | (with_reducible first | exact HB.out | apply below_alloc | apply pw_below_drewN | apply below_drew1 | refine below_set ?_ GE173.out) | exact HB.out)) hb); clear HO_6; clear BK173; clear HB; have HO_6 := n0_; have BK173 := n1_; have HB := n2_; clear n0_ n1_ n2_; (try clear hb); (try clear hb2); (try clear hk); (try clear hi))); try go_wp2_with (first | ((with_reducible refine gate_dst (N := 9) rfl ?_); (try (refine gate_guard (by rfl) ?_; dsimp only)); refine box_event ?hg (N := 9) ?hd (cs := #[.int .i64 0, .int .i64 0, .int .u64 0]) (t := 38) ?hr ?_; (case hd => rfl); (case hg => rfl); (case hr => first | (go_simp; done) | (go_simp; rfl)); intro gb173 hg w17 hbox hb; have n0_ := Aside0.mk (Kd.R_below (Kd.R_elderB (by (with_reducible repeat (first | apply Kd.R_alloc | apply Kd.R_drewN | apply Kd.R_drew)); exact HO_6.out) gb173 (Nat.le_of_eq hg.symm)) hb); have n1_ := Aside0.mk (below_step (by repeat (first | (with_reducible first | exact HB.out | apply below_alloc | apply pw_below_drewN | apply below_drew1) | exact HB.out)) hb); have n2_ := Aside0.mk (hbox); have n3_ := Aside0.mk ((by rw [hg]; exact (below_size (by repeat (first | (with_reducible first | exact HB.out | apply below_alloc | apply pw_below_drewN | apply below_drew1) | exact HB.out))) : w.heap.size ≤ gb173)); have n4_ := Aside0.mk ((by rw [hg]; exact (below_size (by repeat (first | (with_reducible first | exact HB.out | apply below_alloc | apply pw_below_drewN | apply below_drew1) | exact HB.out))) : w.heap.size ≤ gb173)); clear HO_6; clear HB; have HO_6 := n0_; have HB := n1_; have BK173 := n2_; have GW173 := n3_; have GE173 := n4_; clear n0_ n1_ n2_ n3_ n4_; clear hb hbox hg; have hcz18_0 : w17.cell? ⟨gb173, 0, none⟩ = some (.int .i64 0) := (blk_cell BK173.out 0).trans rfl; have hcz18_1 : w17.cell? ⟨gb173, 1, none⟩ = some (.int .i64 0) := (blk_cell BK173.out 1).trans rfl; have hcz18_2 : w17.cell? ⟨gb173, 2, none⟩ = some (.int .u64 0) := (blk_cell BK173.out 2).trans rfl; have hfz18_0 := blk_frozen BK173.out 0; have hfz18_1 := blk_frozen BK173.out 1; have hfz18_2 := blk_frozen BK173.out 2) | (go_at_call 26; (with_reducible refine (lockfastref12_can.calls (wrap64 (Int.tmod (rd l0 (ji8)) 4)) (wrap64 (Int.tmod (IntKind.u64.wrap (Int.tdiv (rd l0 (ji8)) 4)) 1048576)) (rd l0 (ji11)) true _ A14.out).mono ?_); rintro e w19 ⟨rfl, hb⟩; have n0_ := Aside0.mk (Kd.R_below (by (with_reducible repeat (first | apply Kd.R_alloc | apply Kd.R_drewN | apply Kd.R_drew)); exact (Kd.R_mono (Kd.R_far (p := ⟨gb173, 2, none⟩) (Kd.R_far (p := ⟨gb173, 1, none⟩) (Kd.R_far (p := ⟨gb173, 0, none⟩) (Kd.R_mono HO_6.out (fun k_ hk => (⟨hk, hk.2⟩ : _ ∧ k_ ≠ gb173))) (fun _ hk => hk.2) (.int .i64 (wrap64 (Int.tmod (rd l0 (ji8)) 4)))) (fun _ hk => hk.2) (.int .i64 (wrap64 (Int.tmod (IntKind.u64.wrap (Int.tdiv (rd l0 (ji8)) 4)) 1048576)))) (fun _ hk => hk.2) (.int .u64 (rd l0 (ji11)))) (fun _ h_ => h_.1))) hb); have n1_ := Aside0.mk (blk_below (g := gb173) (o := .cells #[.int .i64 (wrap64 (Int.tmod (rd l0 (ji8)) 4)), .int .i64 (wrap64 (Int.tmod (IntKind.u64.wrap (Int.tdiv (rd l0 (ji8)) 4)) 1048576)), .int .u64 (rd l0 (ji11))] 38 (0, 0)) (by (with_reducible repeat (first | refine blk_drewN ?_ _ | refine blk_drew ?_ | refine blk_alloc ?_ _)); refine blk_put (cs := #[.int .i64 (wrap64 (Int.tmod (rd l0 (ji8)) 4)), .int .i64 (wrap64 (Int.tmod (IntKind.u64.wrap (Int.tdiv (rd l0 (ji8)) 4)) 1048576)), .int .u64 0]) ?_ 2 _ rfl; (with_reducible repeat (first | refine blk_drewN ?_ _ | refine blk_drew ?_ | refine blk_alloc ?_ _)); refine blk_put (cs := #[.int .i64 (wrap64 (Int.tmod (rd l0 (ji8)) 4)), .int .i64 0, .int .u64 0]) ?_ 1 _ rfl; (with_reducible repeat (first | refine blk_drewN ?_ _ | refine blk_drew ?_ | refine blk_alloc ?_ _)); refine blk_put (cs := #[.int .i64 0, .int .i64 0, .int .u64 0]) ?_ 0 _ rfl; (with_reducible repeat (first | refine blk_drewN ?_ _ | refine blk_drew ?_ | refine blk_alloc ?_ _)); exact BK173.out) hb); have n2_ := Aside0.mk (below_step (by repeat (first | (with_reducible first | exact HB.out | apply below_alloc | apply pw_below_drewN | apply below_drew1 | refine below_set ?_ GE173.out) | exact HB.out)) hb); clear HO_6; clear BK173; clear HB; have HO_6 := n0_; have BK173 := n1_; have HB := n2_; clear n0_ n1_ n2_; (try clear hb); (try clear hb2); (try clear hk); (try clear hi))))
                          go_ret2
                          exact ⟨_, by first | rfl | (simp [errW_none, errW_some] <;> rfl) | (simp only [← hji8, ← hji11]; first | rfl | (simp [errW_none, errW_some] <;> rfl)) | (simp [*, errW_none, errW_some] <;> rfl), by first | exact Kd.R_nil _ _ _ _ _ | exact Kd.N_nil _ _ _ _ _ | exact Kd.V_nil _ _ _ _ _ | exact Kd.Q_nil _ _ _ _ _ | exact Kd.S_nil _ _ _ _ _, by repeat (first | (with_reducible first | exact HB.out | apply below_alloc | apply pw_below_drewN | apply below_drew1 | refine below_set ?_ GE173.out) | exact HB.out)⟩
                        · rw [if_neg c16] at H
                          have c16b0 : decide (4194304 ≤ (rd l0 (ji8))) = false := decide_eq_false c16
                          clear c16
                          by_cases c20 : x6_2.length < 5864062014805
                          · rw [if_pos c20] at H
                            have LMc20 := Aside0.mk c20
                            clear c20
                            obtain ⟨y175, hy175⟩ : ∃ y_ : List (S38), y_ = (x6_2 ++ [(⟨wrap64 (Int.tmod (rd l0 (ji8)) 4), wrap64 (Int.tmod (IntKind.u64.wrap (Int.tdiv (rd l0 (ji8)) 4)) 1048576), rd l0 (ji11)⟩ : S38)]) := ⟨_, rfl⟩
                            replace H : (lockfastref12_Decode.l0 k2 l0 a1 y175 (wrap64 (x7_2 + 1))) = some (r1, r2) := by first | (rw [hy175]; with_reducible exact H) | (have H2_ := (Option.bind_some _ _).symm.trans H; rw [hy175]; with_reducible exact H2_) | (have H2_ := (Option.bind_some _ _).symm.trans H; with_reducible exact H2_) | with_reducible exact H | (rw [hy175]; exact H) | exact H
                            have Ny175 := Aside0.mk hy175
                            clear hy175
                            have H' := Aside0.mk H
                            clear H
                            have p171 : 0 ≤ ((ji8) : Int) := of_decide_eq_true (by first | (with_reducible assumption) | assumption)
                            have q171 : (ji8) < (l0.length : Int) := of_decide_eq_true (by first | (with_reducible assumption) | assumption)
                            obtain ⟨ad171, e171, hx171_0⟩ := Kd.at_int HR0.out (ji8) p171 q171
                            cases e171
                            replace hx171_0 := (HB.out.cell (World.block_lt_of_cell? w _ hx171_0)).trans hx171_0
                            replace p171 := eq_true p171
                            replace q171 := eq_true q171
                            have p172 : 0 ≤ ((ji11) : Int) := of_decide_eq_true (by first | (with_reducible assumption) | assumption)
                            have q172 : (ji11) < (l0.length : Int) := of_decide_eq_true (by first | (with_reducible assumption) | assumption)
                            obtain ⟨ad172, e172, hx172_0⟩ := Kd.at_int HR0.out (ji11) p172 q172
                            obtain rfl : ad171 = ad172 := (by injection e172)
                            replace hx172_0 := (HB.out.cell (World.block_lt_of_cell? w _ hx172_0)).trans hx172_0
                            replace p172 := eq_true p172
                            replace q172 := eq_true q172
                            go_wp2_with (first | ((with_reducible refine gate_dst (N := 9) rfl ?_); (try (refine gate_guard (by rfl) ?_; dsimp only)); refine box_event ?hg (N := 9) ?hd (cs := #[.int .i64 0, .int .i64 0, .int .u64 0]) (t := 38) ?hr ?_; (case hd => rfl); (case hg => rfl); (case hr => first | (go_simp; done) | (go_simp; rfl)); intro gb173 hg w21 hbox hb; have n0_ := Aside0.mk (Kd.R_below (Kd.R_elderB (by (with_reducible repeat (first | apply Kd.R_alloc | apply Kd.R_drewN | apply Kd.R_drew)); exact HO_6.out) gb173 (Nat.le_of_eq hg.symm)) hb); have n1_ := Aside0.mk (below_step (by repeat (first | (with_reducible first | exact HB.out | apply below_alloc | apply pw_below_drewN | apply below_drew1) | exact HB.out)) hb); have n2_ := Aside0.mk (hbox); have n3_ := Aside0.mk ((by rw [hg]; exact (below_size (by repeat (first | (with_reducible first | exact HB.out | apply below_alloc | apply pw_below_drewN | apply below_drew1) | exact HB.out))) : w.heap.size ≤ gb173)); have n4_ := Aside0.mk ((by rw [hg]; exact (below_size (by repeat (first | (with_reducible first | exact HB.out | apply below_alloc | apply pw_below_drewN | apply below_drew1) | exact HB.out))) : w.heap.size ≤ gb173)); clear HO_6; clear HB; have HO_6 := n0_; have HB := n1_; have BK173 := n2_; have GW173 := n3_; have GE173 := n4_; clear n0_ n1_ n2_ n3_ n4_; clear hb hbox hg; have hcz22_0 : w21.cell? ⟨gb173, 0, none⟩ = some (.int .i64 0) := (blk_cell BK173.out 0).trans rfl; have hcz22_1 : w21.cell? ⟨gb173, 1, none⟩ = some (.int .i64 0) := (blk_cell BK173.out 1).trans rfl; have hcz22_2 : w21.cell? ⟨gb173, 2, none⟩ = some (.int .u64 0) := (blk_cell BK173.out 2).trans rfl; have hfz22_0 := blk_frozen BK173.out 0; have hfz22_1 := blk_frozen BK173.out 1; have hfz22_2 := blk_frozen BK173.out 2) | (go_at_call 26; (with_reducible refine (lockfastref12_can.calls (wrap64 (Int.tmod (rd l0 (ji8)) 4)) (wrap64 (Int.tmod (IntKind.u64.wrap (Int.tdiv (rd l0 (ji8)) 4)) 1048576)) (rd l0 (ji11)) true _ A14.out).mono ?_); rintro e w23 ⟨rfl, hb⟩; have n0_ := Aside0.mk (Kd.R_below (by (with_reducible repeat (first | apply Kd.R_alloc | apply Kd.R_drewN | apply Kd.R_drew)); exact (Kd.R_mono (Kd.R_far (p := ⟨gb173, 2, none⟩) (Kd.R_far (p := ⟨gb173, 1, none⟩) (Kd.R_far (p := ⟨gb173, 0, none⟩) (Kd.R_mono HO_6.out (fun k_ hk => (⟨hk, hk.2⟩ : _ ∧ k_ ≠ gb173))) (fun _ hk => hk.2) (.int .i64 (wrap64 (Int.tmod (rd l0 (ji8)) 4)))) (fun _ hk => hk.2) (.int .i64 (wrap64 (Int.tmod (IntKind.u64.wrap (Int.tdiv (rd l0 (ji8)) 4)) 1048576)))) (fun _ hk => hk.2) (.int .u64 (rd l0 (ji11)))) (fun _ h_ => h_.1))) hb); have n1_ := Aside0.mk (blk_below (g := gb173) (o := .cells #[.int .i64 (wrap64 (Int.tmod (rd l0 (ji8)) 4)), .int .i64 (wrap64 (Int.tmod (IntKind.u64.wrap (Int.tdiv (rd l0 (ji8)) 4)) 1048576)), .int .u64 (rd l0 (ji11))] 38 (0, 0)) (by (with_reducible repeat (first | refine blk_drewN ?_ _ | refine blk_drew ?_ | refine blk_alloc ?_ _)); refine blk_put (cs := #[.int .i64 (wrap64 (Int.tmod (rd l0 (ji8)) 4)), .int .i64 (wrap64 (Int.tmod (IntKind.u64.wrap (Int.tdiv (rd l0 (ji8)) 4)) 1048576)), .int .u64 0]) ?_ 2 _ rfl; (with_reducible repeat (first | refine blk_drewN ?_ _ | refine blk_drew ?_ | refine blk_alloc ?_ _)); refine blk_put (cs := #[.int .i64 (wrap64 (Int.tmod (rd l0 (ji8)) 4)), .int .i64 0, .int .u64 0]) ?_ 1 _ rfl; (with_reducible repeat (first | refine blk_drewN ?_ _ | refine blk_drew ?_ | refine blk_alloc ?_ _)); refine blk_put (cs := #[.int .i64 0, .int .i64 0, .int .u64 0]) ?_ 0 _ rfl; (with_reducible repeat (first | refine blk_drewN ?_ _ | refine blk_drew ?_ | refine blk_alloc ?_ _)); exact BK173.out) hb); have n2_ := Aside0.mk (below_step (by repeat (first | (with_reducible first | exact HB.out | apply below_alloc | apply pw_below_drewN | apply below_drew1 | refine below_set ?_ GE173.out) | exact HB.out)) hb); clear HO_6; clear BK173; clear HB; have HO_6 := n0_; have BK173 := n1_; have HB := n2_; clear n0_ n1_ n2_; (try clear hb); (try clear hb2); (try clear hk); (try clear hi); have hcz24_0 : w23.cell? ⟨gb173, 0, none⟩ = some (.int .i64 (wrap64 (Int.tmod (rd l0 (ji8)) 4))) := (blk_cell BK173.out 0).trans rfl; have hcz24_1 : w23.cell? ⟨gb173, 1, none⟩ = some (.int .i64 (wrap64 (Int.tmod (IntKind.u64.wrap (Int.tdiv (rd l0 (ji8)) 4)) 1048576))) := (blk_cell BK173.out 1).trans rfl; have hcz24_2 : w23.cell? ⟨gb173, 2, none⟩ = some (.int .u64 (rd l0 (ji11))) := (blk_cell BK173.out 2).trans rfl; have hfz24_0 := blk_frozen BK173.out 0; have hfz24_1 := blk_frozen BK173.out 1; have hfz24_2 := blk_frozen BK173.out 2) | ((with_reducible refine gate_builtin (b := .append) (xs := #[.tmp 57, .tmp 59]) rfl ?_); (try (refine gate_guard (by rfl) ?_; dsimp only)); at_builtin; refine Kd.R_append k38 (w0 := w) w.heap.size rfl (.tmp 57) (.tmp 59) 22 38 (.agg #[(.int .i64 0), (.int .i64 0), (.int .u64 0)]) 24 rfl Try.underlying22 info38 rfl (by decide) (by omega) u6 x6_2 (⟨wrap64 (Int.tmod (rd l0 (ji8)) 4), wrap64 (Int.tmod (IntKind.u64.wrap (Int.tdiv (rd l0 (ji8)) 4)) 1048576), rd l0 (ji11)⟩ : S38) [.int .i64 (wrap64 (Int.tmod (rd l0 (ji8)) 4)), .int .i64 (wrap64 (Int.tmod (IntKind.u64.wrap (Int.tdiv (rd l0 (ji8)) 4)) 1048576)), .int .u64 (rd l0 (ji11))] (fun k_ => k_ ≠ gb173) (fun _ => False) rfl rfl ?aP (fun _ hk => hk.elim) ?aF ?aO ?aB ?aS ?aL ?_; (case aP => exact k38_mkM _ _ _ (⟨wrap64 (Int.tmod (rd l0 (ji8)) 4), wrap64 (Int.tmod (IntKind.u64.wrap (Int.tdiv (rd l0 (ji8)) 4)) 1048576), rd l0 (ji11)⟩ : S38)); (case aB => exact (by repeat (first | (with_reducible first | exact HB.out | apply below_alloc | apply pw_below_drewN | apply below_drew1 | refine below_set ?_ GE173.out) | exact HB.out))); (case aF => exact (fun k_ hk => Kd.freshB (g := gb173) (o := .cells #[.int .i64 (wrap64 (Int.tmod (rd l0 (ji8)) 4)), .int .i64 (wrap64 (Int.tmod (IntKind.u64.wrap (Int.tdiv (rd l0 (ji8)) 4)) 1048576)), .int .u64 (rd l0 (ji11))] 38 (0, 0)) (by (with_reducible repeat (first | refine blk_drewN ?_ _ | refine blk_drew ?_ | refine blk_alloc ?_ _)); exact BK173.out) k_ hk)); (case aO => exact (by (with_reducible repeat (first | apply Kd.R_alloc | apply Kd.R_drewN | apply Kd.R_drew)); exact Kd.R_mono HO_6.out (fun _ hk => hk.2))); (case aS => exact (below_size (by repeat (first | (with_reducible first | exact HB.out | apply below_alloc | apply pw_below_drewN | apply below_drew1 | refine below_set ?_ GE173.out) | exact HB.out)))); (case aL => have := LMc20.out; omega); intro v176 w25 ho hb hg hat; rw [← Ny175.out] at ho; have n0_ := Aside0.mk (blk_grown (g := gb173) (o := .cells #[.int .i64 (wrap64 (Int.tmod (rd l0 (ji8)) 4)), .int .i64 (wrap64 (Int.tmod (IntKind.u64.wrap (Int.tdiv (rd l0 (ji8)) 4)) 1048576)), .int .u64 (rd l0 (ji11))] 38 (0, 0)) (by (with_reducible repeat (first | refine blk_drewN ?_ _ | refine blk_drew ?_ | refine blk_alloc ?_ _)); exact BK173.out) hg (Kd.R_away HO_6.out (fun _ hk => hk.2))); have n1_ := Aside0.mk (hb); have n2_ := Aside0.mk (ho); clear BK173; clear HB; clear HO_6; have BK173 := n0_; have HB := n1_; have HO177 := n2_; clear n0_ n1_ n2_; clear ho hb hg hat))
                            repeat (go_quiet (first | ((with_reducible refine gate_dst (N := 9) rfl ?_); (try (refine gate_guard (by rfl) ?_; dsimp only)); refine box_event ?hg (N := 9) ?hd (cs := #[.int .i64 0, .int .i64 0, .int .u64 0]) (t := 38) ?hr ?_; (case hd => rfl); (case hg => rfl); (case hr => first | (go_simp; done) | (go_simp; rfl)); intro gb173 hg w21 hbox hb; have n0_ := Aside0.mk (Kd.R_below (Kd.R_elderB (by (with_reducible repeat (first | apply Kd.R_alloc | apply Kd.R_drewN | apply Kd.R_drew)); exact HO_6.out) gb173 (Nat.le_of_eq hg.symm)) hb); have n1_ := Aside0.mk (below_step (by repeat (first | (with_reducible first | exact HB.out | apply below_alloc | apply pw_below_drewN | apply below_drew1) | exact HB.out)) hb); have n2_ := Aside0.mk (hbox); have n3_ := Aside0.mk ((by rw [hg]; exact (below_size (by repeat (first | (with_reducible first | exact HB.out | apply below_alloc | apply pw_below_drewN | apply below_drew1) | exact HB.out))) : w.heap.size ≤ gb173)); have n4_ := Aside0.mk ((by rw [hg]; exact (below_size (by repeat (first | (with_reducible first | exact HB.out | apply below_alloc | apply pw_below_drewN | apply below_drew1) | exact HB.out))) : w.heap.size ≤ gb173)); clear HO_6; clear HB; have HO_6 := n0_; have HB := n1_; have BK173 := n2_; have GW173 := n3_; have GE173 := n4_; clear n0_ n1_ n2_ n3_ n4_; clear hb hbox hg; have hcz22_0 : w21.cell? ⟨gb173, 0, none⟩ = some (.int .i64 0) := (blk_cell BK173.out 0).trans rfl; have hcz22_1 : w21.cell? ⟨gb173, 1, none⟩ = some (.int .i64 0) := (blk_cell BK173.out 1).trans rfl; have hcz22_2 : w21.cell? ⟨gb173, 2, none⟩ = some (.int .u64 0) := (blk_cell BK173.out 2).trans rfl; have hfz22_0 := blk_frozen BK173.out 0; have hfz22_1 := blk_frozen BK173.out 1; have hfz22_2 := blk_frozen BK173.out 2) | (go_at_call 26; (with_reducible refine (lockfastref12_can.calls (wrap64 (Int.tmod (rd l0 (ji8)) 4)) (wrap64 (Int.tmod (IntKind.u64.wrap (Int.tdiv (rd l0 (ji8)) 4)) 1048576)) (rd l0 (ji11)) true _ A14.out).mono ?_); rintro e w23 ⟨rfl, hb⟩; have n0_ := Aside0.mk (Kd.R_below (by (with_reducible repeat (first | apply Kd.R_alloc | apply Kd.R_drewN | apply Kd.R_drew)); exact (Kd.R_mono (Kd.R_far (p := ⟨gb173, 2, none⟩) (Kd.R_far (p := ⟨gb173, 1, none⟩) (Kd.R_far (p := ⟨gb173, 0, none⟩) (Kd.R_mono HO_6.out (fun k_ hk => (⟨hk, hk.2⟩ : _ ∧ k_ ≠ gb173))) (fun _ hk => hk.2) (.int .i64 (wrap64 (Int.tmod (rd l0 (ji8)) 4)))) (fun _ hk => hk.2) (.int .i64 (wrap64 (Int.tmod (IntKind.u64.wrap (Int.tdiv (rd l0 (ji8)) 4)) 1048576)))) (fun _ hk => hk.2) (.int .u64 (rd l0 (ji11)))) (fun _ h_ => h_.1))) hb); have n1_ := Aside0.mk (blk_below (g := gb173) (o := .cells #[.int .i64 (wrap64 (Int.tmod (rd l0 (ji8)) 4)), .int .i64 (wrap64 (Int.tmod (IntKind.u64.wrap (Int.tdiv (rd l0 (ji8)) 4)) 1048576)), .int .u64 (rd l0 (ji11))] 38 (0, 0)) (by (with_reducible repeat (first | refine blk_drewN ?_ _ | refine blk_drew ?_ | refine blk_alloc ?_ _)); refine blk_put (cs := #[.int .i64 (wrap64 (Int.tmod (rd l0 (ji8)) 4)), .int .i64 (wrap64 (Int.tmod (IntKind.u64.wrap (Int.tdiv (rd l0 (ji8)) 4)) 1048576)), .int .u64 0]) ?_ 2 _ rfl; (with_reducible repeat (first | refine blk_drewN ?_ _ | refine blk_drew ?_ | refine blk_alloc ?_ _)); refine blk_put (cs := #[.int .i64 (wrap64 (Int.tmod (rd l0 (ji8)) 4)), .int .i64 0, .int .u64 0]) ?_ 1 _ rfl; (with_reducible repeat (first | refine blk_drewN ?_ _ | refine blk_drew ?_ | refine blk_alloc ?_ _)); refine blk_put (cs := #[.int .i64 0, .int .i64 0, .int .u64 0]) ?_ 0 _ rfl; (with_reducible repeat (first | refine blk_drewN ?_ _ | refine blk_drew ?_ | refine blk_alloc ?_ _)); exact BK173.out) hb); have n2_ := Aside0.mk (below_step (by repeat (first | (with_reducible first | exact HB.out | apply below_alloc | apply pw_below_drewN | apply below_drew1 | refine below_set ?_ GE173.out) | exact HB.out)) hb); clear HO_6; clear BK173; clear HB; have HO_6 := n0_; have BK173 := n1_; have HB := n2_; clear n0_ n1_ n2_; (try clear hb); (try clear hb2); (try clear hk); (try clear hi); have hcz24_0 : w23.cell? ⟨gb173, 0, none⟩ = some (.int .i64 (wrap64 (Int.tmod (rd l0 (ji8)) 4))) := (blk_cell BK173.out 0).trans rfl; have hcz24_1 : w23.cell? ⟨gb173, 1, none⟩ = some (.int .i64 (wrap64 (Int.tmod (IntKind.u64.wrap (Int.tdiv (rd l0 (ji8)) 4)) 1048576))) := (blk_cell BK173.out 1).trans rfl; have hcz24_2 : w23.cell? ⟨gb173, 2, none⟩ = some (.int .u64 (rd l0 (ji11))) := (blk_cell BK173.out 2).trans rfl; have hfz24_0 := blk_frozen BK173.out 0; have hfz24_1 := blk_frozen BK173.out 1; have hfz24_2 := blk_frozen BK173.out 2) | ((with_reducible refine gate_builtin (b := .append) (xs := #[.tmp 57, .tmp 59]) rfl ?_); (try (refine gate_guard (by rfl) ?_; dsimp only)); at_builtin; refine Kd.R_append k38 (w0 := w) w.heap.size rfl (.tmp 57) (.tmp 59) 22 38 (.agg #[(.int .i64 0), (.int .i64 0), (.int .u64 0)]) 24 rfl Try.underlying22 info38 rfl (by decide) (by omega) u6 x6_2 (⟨wrap64 (Int.tmod (rd l0 (ji8)) 4), wrap64 (Int.tmod (IntKind.u64.wrap (Int.tdiv (rd l0 (ji8)) 4)) 1048576), rd l0 (ji11)⟩ : S38) [.int .i64 (wrap64 (Int.tmod (rd l0 (ji8)) 4)), .int .i64 (wrap64 (Int.tmod (IntKind.u64.wrap (Int.tdiv (rd l0 (ji8)) 4)) 1048576)), .int .u64 (rd l0 (ji11))] (fun k_ => k_ ≠ gb173) (fun _ => False) rfl rfl ?aP (fun _ hk => hk.elim) ?aF ?aO ?aB ?aS ?aL ?_; (case aP => exact k38_mkM _ _ _ (⟨wrap64 (Int.tmod (rd l0 (ji8)) 4), wrap64 (Int.tmod (IntKind.u64.wrap (Int.tdiv (rd l0 (ji8)) 4)) 1048576), rd l0 (ji11)⟩ : S38)); (case aB => exact (by repeat (first | (with_reducible first | exact HB.out | apply below_alloc | apply pw_below_drewN | apply below_drew1 | refine below_set ?_ GE173.out) | exact HB.out))); (case aF => exact (fun k_ hk => Kd.freshB (g := gb173) (o := .cells #[.int .i64 (wrap64 (Int.tmod (rd l0 (ji8)) 4)), .int .i64 (wrap64 (Int.tmod (IntKind.u64.wrap (Int.tdiv (rd l0 (ji8)) 4)) 1048576)), .int .u64 (rd l0 (ji11))] 38 (0, 0)) (by (with_reducible repeat (first | refine blk_drewN ?_ _ | refine blk_drew ?_ | refine blk_alloc ?_ _)); exact BK173.out) k_ hk)); (case aO => exact (by (with_reducible repeat (first | apply Kd.R_alloc | apply Kd.R_drewN | apply Kd.R_drew)); exact Kd.R_mono HO_6.out (fun _ hk => hk.2))); (case aS => exact (below_size (by repeat (first | (with_reducible first | exact HB.out | apply below_alloc | apply pw_below_drewN | apply below_drew1 | refine below_set ?_ GE173.out) | exact HB.out)))); (case aL => have := LMc20.out; omega); intro v176 w25 ho hb hg hat; rw [← Ny175.out] at ho; have n0_ := Aside0.mk (blk_grown (g := gb173) (o := .cells #[.int .i64 (wrap64 (Int.tmod (rd l0 (ji8)) 4)), .int .i64 (wrap64 (Int.tmod (IntKind.u64.wrap (Int.tdiv (rd l0 (ji8)) 4)) 1048576)), .int .u64 (rd l0 (ji11))] 38 (0, 0)) (by (with_reducible repeat (first | refine blk_drewN ?_ _ | refine blk_drew ?_ | refine blk_alloc ?_ _)); exact BK173.out) hg (Kd.R_away HO_6.out (fun _ hk => hk.2))); have n1_ := Aside0.mk (hb); have n2_ := Aside0.mk (ho); clear BK173; clear HB; clear HO_6; have BK173 := n0_; have HB := n1_; have HO177 := n2_; clear n0_ n1_ n2_; clear ho hb hg hat)); try go_wp2_with (first | ((with_reducible refine gate_dst (N := 9) rfl ?_); (try (refine gate_guard (by rfl) ?_; dsimp only)); refine box_event ?hg (N := 9) ?hd (cs := #[.int .i64 0, .int .i64 0, .int .u64 0]) (t := 38) ?hr ?_; (case hd => rfl); (case hg => rfl); (case hr => first | (go_simp; done) | (go_simp; rfl)); intro gb173 hg w21 hbox hb; have n0_ := Aside0.mk (Kd.R_below (Kd.R_elderB (by (with_reducible repeat (first | apply Kd.R_alloc | apply Kd.R_drewN | apply Kd.R_drew)); exact HO_6.out) gb173 (Nat.le_of_eq hg.symm)) hb); have n1_ := Aside0.mk (below_step (by repeat (first | (with_reducible first | exact HB.out | apply below_alloc | apply pw_below_drewN | apply below_drew1) | exact HB.out)) hb); have n2_ := Aside0.mk (hbox); have n3_ := Aside0.mk ((by rw [hg]; exact (below_size (by repeat (first | (with_reducible first | exact HB.out | apply below_alloc | apply pw_below_drewN | apply below_drew1) | exact HB.out))) : w.heap.size ≤ gb173)); have n4_ := Aside0.mk ((by rw [hg]; exact (below_size (by repeat (first | (with_reducible first | exact HB.out | apply below_alloc | apply pw_below_drewN | apply below_drew1) | exact HB.out))) : w.heap.size ≤ gb173)); clear HO_6; clear HB; have HO_6 := n0_; have HB := n1_; have BK173 := n2_; have GW173 := n3_; have GE173 := n4_; clear n0_ n1_ n2_ n3_ n4_; clear hb hbox hg; have hcz22_0 : w21.cell? ⟨gb173, 0, none⟩ = some (.int .i64 0) := (blk_cell BK173.out 0).trans rfl; have hcz22_1 : w21.cell? ⟨gb173, 1, none⟩ = some (.int .i64 0) := (blk_cell BK173.out 1).trans rfl; have hcz22_2 : w21.cell? ⟨gb173, 2, none⟩ = some (.int .u64 0) := (blk_cell BK173.out 2).trans rfl; have hfz22_0 := blk_frozen BK173.out 0; have hfz22_1 := blk_frozen BK173.out 1; have hfz22_2 := blk_frozen BK173.out 2) | (go_at_call 26; (with_reducible refine (lockfastref12_can.calls (wrap64 (Int.tmod (rd l0 (ji8)) 4)) (wrap64 (Int.tmod (IntKind.u64.wrap (Int.tdiv (rd l0 (ji8)) 4)) 1048576)) (rd l0 (ji11)) true _ A14.out).mono ?_); rintro e w23 ⟨rfl, hb⟩; have n0_ := Aside0.mk (Kd.R_below (by (with_reducible repeat (first | apply Kd.R_alloc | apply Kd.R_drewN | apply Kd.R_drew)); exact (Kd.R_mono (Kd.R_far (p := ⟨gb173, 2, none⟩) (Kd.R_far (p := ⟨gb173, 1, none⟩) (Kd.R_far (p := ⟨gb173, 0, none⟩) (Kd.R_mono HO_6.out (fun k_ hk => (⟨hk, hk.2⟩ : _ ∧ k_ ≠ gb173))) (fun _ hk => hk.2) (.int .i64 (wrap64 (Int.tmod (rd l0 (ji8)) 4)))) (fun _ hk => hk.2) (.int .i64 (wrap64 (Int.tmod (IntKind.u64.wrap (Int.tdiv (rd l0 (ji8)) 4)) 1048576)))) (fun _ hk => hk.2) (.int .u64 (rd l0 (ji11)))) (fun _ h_ => h_.1))) hb); have n1_ := Aside0.mk (blk_below (g := gb173) (o := .cells #[.int .i64 (wrap64 (Int.tmod (rd l0 (ji8)) 4)), .int .i64 (wrap64 (Int.tmod (IntKind.u64.wrap (Int.tdiv (rd l0 (ji8)) 4)) 1048576)), .int .u64 (rd l0 (ji11))] 38 (0, 0)) (by (with_reducible repeat (first | refine blk_drewN ?_ _ | refine blk_drew ?_ | refine blk_alloc ?_ _)); refine blk_put (cs := #[.int .i64 (wrap64 (Int.tmod (rd l0 (ji8)) 4)), .int .i64 (wrap64 (Int.tmod (IntKind.u64.wrap (Int.tdiv (rd l0 (ji8)) 4)) 1048576)), .int .u64 0]) ?_ 2 _ rfl; (with_reducible repeat (first | refine blk_drewN ?_ _ | refine blk_drew ?_ | refine blk_alloc ?_ _)); refine blk_put (cs := #[.int .i64 (wrap64 (Int.tmod (rd l0 (ji8)) 4)), .int .i64 0, .int .u64 0]) ?_ 1 _ rfl; (with_reducible repeat (first | refine blk_drewN ?_ _ | refine blk_drew ?_ | refine blk_alloc ?_ _)); refine blk_put (cs := #[.int .i64 0, .int .i64 0, .int .u64 0]) ?_ 0 _ rfl; (with_reducible repeat (first | refine blk_drewN ?_ _ | refine blk_drew ?_ | refine blk_alloc ?_ _)); exact BK173.out) hb); have n2_ := Aside0.mk (below_step (by repeat (first | (with_reducible first | exact HB.out | apply below_alloc | apply pw_below_drewN | apply below_drew1 | refine below_set ?_ GE173.out) | exact HB.out)) hb); clear HO_6; clear BK173; clear HB; have HO_6 := n0_; have BK173 := n1_; have HB := n2_; clear n0_ n1_ n2_; (try clear hb); (try clear hb2); (try clear hk); (try clear hi); have hcz24_0 : w23.cell? ⟨gb173, 0, none⟩ = some (.int .i64 (wrap64 (Int.tmod (rd l0 (ji8)) 4))) := (blk_cell BK173.out 0).trans rfl; have hcz24_1 : w23.cell? ⟨gb173, 1, none⟩ = some (.int .i64 (wrap64 (Int.tmod (IntKind.u64.wrap (Int.tdiv (rd l0 (ji8)) 4)) 1048576))) := (blk_cell BK173.out 1).trans rfl; have hcz24_2 : w23.cell? ⟨gb173, 2, none⟩ = some (.int .u64 (rd l0 (ji11))) := (blk_cell BK173.out 2).trans rfl; have hfz24_0 := blk_frozen BK173.out 0; have hfz24_1 := blk_frozen BK173.out 1; have hfz24_2 := blk_frozen BK173.out 2) | ((with_reducible refine gate_builtin (b := .append) (xs := #[.tmp 57, .tmp 59]) rfl ?_); (try (refine gate_guard (by rfl) ?_; dsimp only)); at_builtin; refine Kd.R_append k38 (w0 := w) w.heap.size rfl (.tmp 57) (.tmp 59) 22 38 (.agg #[(.int .i64 0), (.int .i64 0), (.int .u64 0)]) 24 rfl Try.underlying22 info38 rfl (by decide) (by omega) u6 x6_2 (⟨wrap64 (Int.tmod (rd l0 (ji8)) 4), wrap64 (Int.tmod (IntKind.u64.wrap (Int.tdiv (rd l0 (ji8)) 4)) 1048576), rd l0 (ji11)⟩ : S38) [.int .i64 (wrap64 (Int.tmod (rd l0 (ji8)) 4)), .int .i64 (wrap64 (Int.tmod (IntKind.u64.wrap (Int.tdiv (rd l0 (ji8)) 4)) 1048576)), .int .u64 (rd l0 (ji11))] (fun k_ => k_ ≠ gb173) (fun _ => False) rfl rfl ?aP (fun _ hk => hk.elim) ?aF ?aO ?aB ?aS ?aL ?_; (case aP => exact k38_mkM _ _ _ (⟨wrap64 (Int.tmod (rd l0 (ji8)) 4), wrap64 (Int.tmod (IntKind.u64.wrap (Int.tdiv (rd l0 (ji8)) 4)) 1048576), rd l0 (ji11)⟩ : S38)); (case aB => exact (by repeat (first | (with_reducible first | exact HB.out | apply below_alloc | apply pw_below_drewN | apply below_drew1 | refine below_set ?_ GE173.out) | exact HB.out))); (case aF => exact (fun k_ hk => Kd.freshB (g := gb173) (o := .cells #[.int .i64 (wrap64 (Int.tmod (rd l0 (ji8)) 4)), .int .i64 (wrap64 (Int.tmod (IntKind.u64.wrap (Int.tdiv (rd l0 (ji8)) 4)) 1048576)), .int .u64 (rd l0 (ji11))] 38 (0, 0)) (by (with_reducible repeat (first | refine blk_drewN ?_ _ | refine blk_drew ?_ | refine blk_alloc ?_ _)); exact BK173.out) k_ hk)); (case aO => exact (by (with_reducible repeat (first | apply Kd.R_alloc | apply Kd.R_drewN | apply Kd.R_drew)); exact Kd.R_mono HO_6.out (fun _ hk => hk.2))); (case aS => exact (below_size (by repeat (first | (with_reducible first | exact HB.out | apply below_alloc | apply pw_below_drewN | apply below_drew1 | refine below_set ?_ GE173.out) | exact HB.out)))); (case aL => have := LMc20.out; omega); intro v176 w25 ho hb hg hat; rw [← Ny175.out] at ho; have n0_ := Aside0.mk (blk_grown (g := gb173) (o := .cells #[.int .i64 (wrap64 (Int.tmod (rd l0 (ji8)) 4)), .int .i64 (wrap64 (Int.tmod (IntKind.u64.wrap (Int.tdiv (rd l0 (ji8)) 4)) 1048576)), .int .u64 (rd l0 (ji11))] 38 (0, 0)) (by (with_reducible repeat (first | refine blk_drewN ?_ _ | refine blk_drew ?_ | refine blk_alloc ?_ _)); exact BK173.out) hg (Kd.R_away HO_6.out (fun _ hk => hk.2))); have n1_ := Aside0.mk (hb); have n2_ := Aside0.mk (ho); clear BK173; clear HB; clear HO_6; have BK173 := n0_; have HB := n1_; have HO177 := n2_; clear n0_ n1_ n2_; clear ho hb hg hat)))
                            go_roundg k2
                            case measure => have := HJ2.out; have := HK2.out; omega
                            case rel => exact ⟨(y175), (wrap64 (x7_2 + 1)), (by first | rfl | (simp; done) | (simp [*]; done)), (by first | exact H' | (subst_vars; exact H')), ⟨by have := HJ2.out; have := HK2.out; omega⟩, ⟨by (with_reducible repeat (first | apply Kd.R_alloc | apply Kd.R_drewN | apply Kd.R_drew)); exact Kd.R_mono HO177.out (fun _ hk => trivial)⟩, ⟨by repeat (first | (with_reducible first | exact HB.out | apply below_alloc | apply pw_below_drewN | apply below_drew1 | refine below_set ?_ GE173.out) | exact HB.out)⟩⟩
                          · rw [if_neg c20] at H
                            exact absurd H (by simp)
                      · replace c15 := Bool.eq_false_iff.mpr c15
                        subst c15
                        have H1 : (some (([] : List (S38)), false)) = some (r1, r2) := by rw [if_neg (show ¬ (false = true) by decide)] at H; exact H
                        clear H
                        have H := H1
                        clear H1
                        simp only [Option.some.injEq, Prod.mk.injEq] at H
                        obtain ⟨rfl, rfl⟩ := H
                        have p171 : 0 ≤ ((ji8) : Int) := of_decide_eq_true (by first | (with_reducible assumption) | assumption)
                        have q171 : (ji8) < (l0.length : Int) := of_decide_eq_true (by first | (with_reducible assumption) | assumption)
                        obtain ⟨ad171, e171, hx171_0⟩ := Kd.at_int HR0.out (ji8) p171 q171
                        cases e171
                        replace hx171_0 := (HB.out.cell (World.block_lt_of_cell? w _ hx171_0)).trans hx171_0
                        replace p171 := eq_true p171
                        replace q171 := eq_true q171
                        have p172 : 0 ≤ ((ji11) : Int) := of_decide_eq_true (by first | (with_reducible assumption) | assumption)
                        have q172 : (ji11) < (l0.length : Int) := of_decide_eq_true (by first | (with_reducible assumption) | assumption)
                        obtain ⟨ad172, e172, hx172_0⟩ := Kd.at_int HR0.out (ji11) p172 q172
                        obtain rfl : ad171 = ad172 := (by injection e172)
                        replace hx172_0 := (HB.out.cell (World.block_lt_of_cell? w _ hx172_0)).trans hx172_0
                        replace p172 := eq_true p172
                        replace q172 := eq_true q172
                        go_wp2_with (first | ((with_reducible refine gate_dst (N := 9) rfl ?_); (try (refine gate_guard (by rfl) ?_; dsimp only)); refine box_event ?hg (N := 9) ?hd (cs := #[.int .i64 0, .int .i64 0, .int .u64 0]) (t := 38) ?hr ?_; (case hd => rfl); (case hg => rfl); (case hr => first | (go_simp; done) | (go_simp; rfl)); intro gb173 hg w26 hbox hb; have n0_ := Aside0.mk (Kd.R_below (Kd.R_elderB (by (with_reducible repeat (first | apply Kd.R_alloc | apply Kd.R_drewN | apply Kd.R_drew)); exact HO_6.out) gb173 (Nat.le_of_eq hg.symm)) hb); have n1_ := Aside0.mk (below_step (by repeat (first | (with_reducible first | exact HB.out | apply below_alloc | apply pw_below_drewN | apply below_drew1) | exact HB.out)) hb); have n2_ := Aside0.mk (hbox); have n3_ := Aside0.mk ((by rw [hg]; exact (below_size (by repeat (first | (with_reducible first | exact HB.out | apply below_alloc | apply pw_below_drewN | apply below_drew1) | exact HB.out))) : w.heap.size ≤ gb173)); have n4_ := Aside0.mk ((by rw [hg]; exact (below_size (by repeat (first | (with_reducible first | exact HB.out | apply below_alloc | apply pw_below_drewN | apply below_drew1) | exact HB.out))) : w.heap.size ≤ gb173)); clear HO_6; clear HB; have HO_6 := n0_; have HB := n1_; have BK173 := n2_; have GW173 := n3_; have GE173 := n4_; clear n0_ n1_ n2_ n3_ n4_; clear hb hbox hg; have hcz27_0 : w26.cell? ⟨gb173, 0, none⟩ = some (.int .i64 0) := (blk_cell BK173.out 0).trans rfl; have hcz27_1 : w26.cell? ⟨gb173, 1, none⟩ = some (.int .i64 0) := (blk_cell BK173.out 1).trans rfl; have hcz27_2 : w26.cell? ⟨gb173, 2, none⟩ = some (.int .u64 0) := (blk_cell BK173.out 2).trans rfl; have hfz27_0 := blk_frozen BK173.out 0; have hfz27_1 := blk_frozen BK173.out 1; have hfz27_2 := blk_frozen BK173.out 2) | (go_at_call 26; (with_reducible refine (lockfastref12_can.calls (wrap64 (Int.tmod (rd l0 (ji8)) 4)) (wrap64 (Int.tmod (IntKind.u64.wrap (Int.tdiv (rd l0 (ji8)) 4)) 1048576)) (rd l0 (ji11)) false _ A14.out).mono ?_); rintro e w28 ⟨rfl, hb⟩; have n0_ := Aside0.mk (Kd.R_below (by (with_reducible repeat (first | apply Kd.R_alloc | apply Kd.R_drewN | apply Kd.R_drew)); exact (Kd.R_mono (Kd.R_far (p := ⟨gb173, 2, none⟩) (Kd.R_far (p := ⟨gb173, 1, none⟩) (Kd.R_far (p := ⟨gb173, 0, none⟩) (Kd.R_mono HO_6.out (fun k_ hk => (⟨hk, hk.2⟩ : _ ∧ k_ ≠ gb173))) (fun _ hk => hk.2) (.int .i64 (wrap64 (Int.tmod (rd l0 (ji8)) 4)))) (fun _ hk => hk.2) (.int .i64 (wrap64 (Int.tmod (IntKind.u64.wrap (Int.tdiv (rd l0 (ji8)) 4)) 1048576)))) (fun _ hk => hk.2) (.int .u64 (rd l0 (ji11)))) (fun _ h_ => h_.1))) hb); have n1_ := Aside0.mk (blk_below (g := gb173) (o := .cells #[.int .i64 (wrap64 (Int.tmod (rd l0 (ji8)) 4)), .int .i64 (wrap64 (Int.tmod (IntKind.u64.wrap (Int.tdiv (rd l0 (ji8)) 4)) 1048576)), .int .u64 (rd l0 (ji11))] 38 (0, 0)) (by (with_reducible repeat (first | refine blk_drewN ?_ _ | refine blk_drew ?_ | refine blk_alloc ?_ _)); refine blk_put (cs := #[.int .i64 (wrap64 (Int.tmod (rd l0 (ji8)) 4)), .int .i64 (wrap64 (Int.tmod (IntKind.u64.wrap (Int.tdiv (rd l0 (ji8)) 4)) 1048576)), .int .u64 0]) ?_ 2 _ rfl; (with_reducible repeat (first | refine blk_drewN ?_ _ | refine blk_drew ?_ | refine blk_alloc ?_ _)); refine blk_put (cs := #[.int .i64 (wrap64 (Int.tmod (rd l0 (ji8)) 4)), .int .i64 0, .int .u64 0]) ?_ 1 _ rfl; (with_reducible repeat (first | refine blk_drewN ?_ _ | refine blk_drew ?_ | refine blk_alloc ?_ _)); refine blk_put (cs := #[.int .i64 0, .int .i64 0, .int .u64 0]) ?_ 0 _ rfl; (with_reducible repeat (first | refine blk_drewN ?_ _ | refine blk_drew ?_ | refine blk_alloc ?_ _)); exact BK173.out) hb); have n2_ := Aside0.mk (below_step (by repeat (first | (with_reducible first | exact HB.out | apply below_alloc | apply pw_below_drewN | apply below_drew1 | refine below_set ?_ GE173.out) | exact HB.out)) hb); clear HO_6; clear BK173; clear HB; have HO_6 := n0_; have BK173 := n1_; have HB := n2_; clear n0_ n1_ n2_; (try clear hb); (try clear hb2); (try clear hk); (try clear hi)))
                        repeat (go_quiet (first | ((with_reducible refine gate_dst (N := 9) rfl ?_); (try (refine gate_guard (by rfl) ?_; dsimp only)); refine box_event ?hg (N := 9) ?hd (cs := #[.int .i64 0, .int .i64 0, .int .u64 0]) (t := 38) ?hr ?_; (case hd => rfl); (case hg => rfl); (case hr => first | (go_simp; done) | (go_simp; rfl)); intro gb173 hg w26 hbox hb; have n0_ := Aside0.mk (Kd.R_below (Kd.R_elderB (by (with_reducible repeat (first | apply Kd.R_alloc | apply Kd.R_drewN | apply Kd.R_drew)); exact HO_6.out) gb173 (Nat.le_of_eq hg.symm)) hb); have n1_ := Aside0.mk (below_step (by repeat (first | (with_reducible first | exact HB.out | apply below_alloc | apply pw_below_drewN | apply below_drew1) | exact HB.out)) hb); have n2_ := Aside0.mk (hbox); have n3_ := Aside0.mk ((by rw [hg]; exact (below_size (by repeat (first | (with_reducible first | exact HB.out | apply below_alloc | apply pw_below_drewN | apply below_drew1) | exact HB.out))) : w.heap.size ≤ gb173)); have n4_ := Aside0.mk ((by rw [hg]; exact (below_size (by repeat (first | (with_reducible first | exact HB.out | apply below_alloc | apply pw_below_drewN | apply below_drew1) | exact HB.out))) : w.heap.size ≤ gb173)); clear HO_6; clear HB; have HO_6 := n0_; have HB := n1_; have BK173 := n2_; have GW173 := n3_; have GE173 := n4_; clear n0_ n1_ n2_ n3_ n4_; clear hb hbox hg; have hcz27_0 : w26.cell? ⟨gb173, 0, none⟩ = some (.int .i64 0) := (blk_cell BK173.out 0).trans rfl; have hcz27_1 : w26.cell? ⟨gb173, 1, none⟩ = some (.int .i64 0) := (blk_cell BK173.out 1).trans rfl; have hcz27_2 : w26.cell? ⟨gb173, 2, none⟩ = some (.int .u64 0) := (blk_cell BK173.out 2).trans rfl; have hfz27_0 := blk_frozen BK173.out 0; have hfz27_1 := blk_frozen BK173.out 1; have hfz27_2 := blk_frozen BK173.out 2) | (go_at_call 26; (with_reducible refine (lockfastref12_can.calls (wrap64 (Int.tmod (rd l0 (ji8)) 4)) (wrap64 (Int.tmod (IntKind.u64.wrap (Int.tdiv (rd l0 (ji8)) 4)) 1048576)) (rd l0 (ji11)) false _ A14.out).mono ?_); rintro e w28 ⟨rfl, hb⟩; have n0_ := Aside0.mk (Kd.R_below (by (with_reducible repeat (first | apply Kd.R_alloc | apply Kd.R_drewN | apply Kd.R_drew)); exact (Kd.R_mono (Kd.R_far (p := ⟨gb173, 2, none⟩) (Kd.R_far (p := ⟨gb173, 1, none⟩) (Kd.R_far (p := ⟨gb173, 0, none⟩) (Kd.R_mono HO_6.out (fun k_ hk => (⟨hk, hk.2⟩ : _ ∧ k_ ≠ gb173))) (fun _ hk => hk.2) (.int .i64 (wrap64 (Int.tmod (rd l0 (ji8)) 4)))) (fun _ hk => hk.2) (.int .i64 (wrap64 (Int.tmod (IntKind.u64.wrap (Int.tdiv (rd l0 (ji8)) 4)) 1048576)))) (fun _ hk => hk.2) (.int .u64 (rd l0 (ji11)))) (fun _ h_ => h_.1))) hb); have n1_ := Aside0.mk (blk_below (g := gb173) (o := .cells #[.int .i64 (wrap64 (Int.tmod (rd l0 (ji8)) 4)), .int .i64 (wrap64 (Int.tmod (IntKind.u64.wrap (Int.tdiv (rd l0 (ji8)) 4)) 1048576)), .int .u64 (rd l0 (ji11))] 38 (0, 0)) (by (with_reducible repeat (first | refine blk_drewN ?_ _ | refine blk_drew ?_ | refine blk_alloc ?_ _)); refine blk_put (cs := #[.int .i64 (wrap64 (Int.tmod (rd l0 (ji8)) 4)), .int .i64 (wrap64 (Int.tmod (IntKind.u64.wrap (Int.tdiv (rd l0 (ji8)) 4)) 1048576)), .int .u64 0]) ?_ 2 _ rfl; (with_reducible repeat (first | refine blk_drewN ?_ _ | refine blk_drew ?_ | refine blk_alloc ?_ _)); refine blk_put (cs := #[.int .i64 (wrap64 (Int.tmod (rd l0 (ji8)) 4)), .int .i64 0, .int .u64 0]) ?_ 1 _ rfl; (with_reducible repeat (first | refine blk_drewN ?_ _ | refine blk_drew ?_ | refine blk_alloc ?_ _)); refine blk_put (cs := #[.int .i64 0, .int .i64 0, .int .u64 0]) ?_ 0 _ rfl; (with_reducible repeat (first | refine blk_drewN ?_ _ | refine blk_drew ?_ | refine blk_alloc ?_ _)); exact BK173.out) hb); have n2_ := Aside0.mk (below_step (by repeat (first | (with_reducible first | exact HB.out | apply below_alloc | apply pw_below_drewN | apply below_drew1 | refine below_set ?_ GE173.out) | exact HB.out)) hb); clear HO_6; clear BK173; clear HB; have HO_6 := n0_; have BK173 := n1_; have HB := n2_; clear n0_ n1_ n2_; (try clear hb); (try clear hb2); (try clear hk); (try clear hi))); try go_wp2_with (first | ((with_reducible refine gate_dst (N := 9) rfl ?_); (try (refine gate_guard (by rfl) ?_; dsimp only)); refine box_event ?hg (N := 9) ?hd (cs := #[.int .i64 0, .int .i64 0, .int .u64 0]) (t := 38) ?hr ?_; (case hd => rfl); (case hg => rfl); (case hr => first | (go_simp; done) | (go_simp; rfl)); intro gb173 hg w26 hbox hb; have n0_ := Aside0.mk (Kd.R_below (Kd.R_elderB (by (with_reducible repeat (first | apply Kd.R_alloc | apply Kd.R_drewN | apply Kd.R_drew)); exact HO_6.out) gb173 (Nat.le_of_eq hg.symm)) hb); have n1_ := Aside0.mk (below_step (by repeat (first | (with_reducible first | exact HB.out | apply below_alloc | apply pw_below_drewN | apply below_drew1) | exact HB.out)) hb); have n2_ := Aside0.mk (hbox); have n3_ := Aside0.mk ((by rw [hg]; exact (below_size (by repeat (first | (with_reducible first | exact HB.out | apply below_alloc | apply pw_below_drewN | apply below_drew1) | exact HB.out))) : w.heap.size ≤ gb173)); have n4_ := Aside0.mk ((by rw [hg]; exact (below_size (by repeat (first | (with_reducible first | exact HB.out | apply below_alloc | apply pw_below_drewN | apply below_drew1) | exact HB.out))) : w.heap.size ≤ gb173)); clear HO_6; clear HB; have HO_6 := n0_; have HB := n1_; have BK173 := n2_; have GW173 := n3_; have GE173 := n4_; clear n0_ n1_ n2_ n3_ n4_; clear hb hbox hg; have hcz27_0 : w26.cell? ⟨gb173, 0, none⟩ = some (.int .i64 0) := (blk_cell BK173.out 0).trans rfl; have hcz27_1 : w26.cell? ⟨gb173, 1, none⟩ = some (.int .i64 0) := (blk_cell BK173.out 1).trans rfl; have hcz27_2 : w26.cell? ⟨gb173, 2, none⟩ = some (.int .u64 0) := (blk_cell BK173.out 2).trans rfl; have hfz27_0 := blk_frozen BK173.out 0; have hfz27_1 := blk_frozen BK173.out 1; have hfz27_2 := blk_frozen BK173.out 2) | (go_at_call 26; (with_reducible refine (lockfastref12_can.calls (wrap64 (Int.tmod (rd l0 (ji8)) 4)) (wrap64 (Int.tmod (IntKind.u64.wrap (Int.tdiv (rd l0 (ji8)) 4)) 1048576)) (rd l0 (ji11)) false _ A14.out).mono ?_); rintro e w28 ⟨rfl, hb⟩; have n0_ := Aside0.mk (Kd.R_below (by (with_reducible repeat (first | apply Kd.R_alloc | apply Kd.R_drewN | apply Kd.R_drew)); exact (Kd.R_mono (Kd.R_far (p := ⟨gb173, 2, none⟩) (Kd.R_far (p := ⟨gb173, 1, none⟩) (Kd.R_far (p := ⟨gb173, 0, none⟩) (Kd.R_mono HO_6.out (fun k_ hk => (⟨hk, hk.2⟩ : _ ∧ k_ ≠ gb173))) (fun _ hk => hk.2) (.int .i64 (wrap64 (Int.tmod (rd l0 (ji8)) 4)))) (fun _ hk => hk.2) (.int .i64 (wrap64 (Int.tmod (IntKind.u64.wrap (Int.tdiv (rd l0 (ji8)) 4)) 1048576)))) (fun _ hk => hk.2) (.int .u64 (rd l0 (ji11)))) (fun _ h_ => h_.1))) hb); have n1_ := Aside0.mk (blk_below (g := gb173) (o := .cells #[.int .i64 (wrap64 (Int.tmod (rd l0 (ji8)) 4)), .int .i64 (wrap64 (Int.tmod (IntKind.u64.wrap (Int.tdiv (rd l0 (ji8)) 4)) 1048576)), .int .u64 (rd l0 (ji11))] 38 (0, 0)) (by (with_reducible repeat (first | refine blk_drewN ?_ _ | refine blk_drew ?_ | refine blk_alloc ?_ _)); refine blk_put (cs := #[.int .i64 (wrap64 (Int.tmod (rd l0 (ji8)) 4)), .int .i64 (wrap64 (Int.tmod (IntKind.u64.wrap (Int.tdiv (rd l0 (ji8)) 4)) 1048576)), .int .u64 0]) ?_ 2 _ rfl; (with_reducible repeat (first | refine blk_drewN ?_ _ | refine blk_drew ?_ | refine blk_alloc ?_ _)); refine blk_put (cs := #[.int .i64 (wrap64 (Int.tmod (rd l0 (ji8)) 4)), .int .i64 0, .int .u64 0]) ?_ 1 _ rfl; (with_reducible repeat (first | refine blk_drewN ?_ _ | refine blk_drew ?_ | refine blk_alloc ?_ _)); refine blk_put (cs := #[.int .i64 0, .int .i64 0, .int .u64 0]) ?_ 0 _ rfl; (with_reducible repeat (first | refine blk_drewN ?_ _ | refine blk_drew ?_ | refine blk_alloc ?_ _)); exact BK173.out) hb); have n2_ := Aside0.mk (below_step (by repeat (first | (with_reducible first | exact HB.out | apply below_alloc | apply pw_below_drewN | apply below_drew1 | refine below_set ?_ GE173.out) | exact HB.out)) hb); clear HO_6; clear BK173; clear HB; have HO_6 := n0_; have BK173 := n1_; have HB := n2_; clear n0_ n1_ n2_; (try clear hb); (try clear hb2); (try clear hk); (try clear hi))))
                        go_ret2
                        exact ⟨_, by first | rfl | (simp [errW_none, errW_some] <;> rfl) | (simp only [← hji8, ← hji11]; first | rfl | (simp [errW_none, errW_some] <;> rfl)) | (simp [*, errW_none, errW_some] <;> rfl), by first | exact Kd.R_nil _ _ _ _ _ | exact Kd.N_nil _ _ _ _ _ | exact Kd.V_nil _ _ _ _ _ | exact Kd.Q_nil _ _ _ _ _ | exact Kd.S_nil _ _ _ _ _, by repeat (first | (with_reducible first | exact HB.out | apply below_alloc | apply pw_below_drewN | apply below_drew1 | refine below_set ?_ GE173.out) | exact HB.out)⟩
                    · rw [if_neg c13] at H
                      exact absurd H (by simp)
                  · rw [if_neg c12] at H
                    exact absurd H (by simp)
                · rw [if_neg c10] at H
                  exact absurd H (by simp)
              · rw [if_neg c9] at H
                exact absurd H (by simp)
            · rw [if_neg c7] at H
              have c7b0 : decide (x7_2 < a1) = false := decide_eq_false c7
              clear c7
              obtain ⟨ji29, hji29⟩ : ∃ j_ : Int, (wrap64 (2 * a1)) = j_ := ⟨_, rfl⟩
              replace H : (if 0 ≤ (ji29) then (if (ji29) < (l0.length : Int) then (if (ji29) ≤ (l0.length : Int) then ((lockfastref02_Of.f k2 (l0.take ((ji29) : Int).toNat)).bind fun t180 => (if (rd l0 (ji29)) = (IntKind.u64.wrap (t180)) then (some (x6_2, true)) else (some (([] : List (S38)), false)))) else (none)) else (none)) else (none)) = some (r1, r2) := by first | (rw [hji29] at H; exact H) | (simp only [hji29] at H ⊢; exact H)
              have hji29w : (IntKind.i64.wrap (2 * a1)) = ji29 := (i64_w _).trans hji29
              by_cases c30 : 0 ≤ (ji29)
              · rw [if_pos c30] at H
                have c30b0 : decide (0 ≤ (ji29)) = true := decide_eq_true c30
                clear c30
                by_cases c31 : (ji29) < (l0.length : Int)
                · rw [if_pos c31] at H
                  have c31b0 : decide ((ji29) < (l0.length : Int)) = true := decide_eq_true c31
                  clear c31
                  have c32b0 := eq_true (of_decide_eq_true (by first | (with_reducible assumption) | assumption) : 0 ≤ (ji29))
                  by_cases c33 : (ji29) ≤ (l0.length : Int)
                  · rw [if_pos c33] at H
                    have c33b0 := eq_true c33
                    have c33b1 : decide ((ji29) ≤ (l0.length : Int)) = true := decide_eq_true c33
                    clear c33
                    replace H := Option.bind_eq_some_iff.mp H
                    obtain ⟨t180, A340, H⟩ := H
                    replace H : (if (rd l0 (ji29)) = (IntKind.u64.wrap (t180)) then (some (x6_2, true)) else (some (([] : List (S38)), false))) = some (r1, r2) := H
                    have A34 := Aside0.mk A340
                    clear A340
                    by_cases c35 : (rd l0 (ji29)) = (IntKind.u64.wrap (t180))
                    · rw [if_pos c35] at H
                      have c35b0 : ((rd l0 (ji29)) == (IntKind.u64.wrap (t180))) = true := beq_iff_eq.mpr c35
                      have c35b1 : ((rd l0 (ji29)) != (IntKind.u64.wrap (t180))) = false := bne_eq_false_iff_eq.mpr c35
                      clear c35
                      simp only [Option.some.injEq, Prod.mk.injEq] at H
                      obtain ⟨rfl, rfl⟩ := H
                      have p178 : 0 ≤ ((ji29) : Int) := of_decide_eq_true (by first | (with_reducible assumption) | assumption)
                      have q178 : (ji29) < (l0.length : Int) := of_decide_eq_true (by first | (with_reducible assumption) | assumption)
                      obtain ⟨ad178, e178, hx178_0⟩ := Kd.at_int HR0.out (ji29) p178 q178
                      cases e178
                      replace hx178_0 := (HB.out.cell (World.block_lt_of_cell? w _ hx178_0)).trans hx178_0
                      replace p178 := eq_true p178
                      replace q178 := eq_true q178
                      obtain ⟨i036, hi036, _, hsz36, _⟩ := info_parts info33
                      obtain ⟨hcut36, hA36, hC36⟩ := print_take_of (P := Try.prog) (Value.int .u64) 0 24 33 .i64 Try.underlying24 hi036 hsz36 (some ad178) c0 l0 (ji29) (of_decide_eq_true (by first | (with_reducible assumption) | assumption)) (of_decide_eq_true (by first | (with_reducible assumption) | assumption)) HC0.out
                      have HR179 := Aside0.mk (Kd.C_of_reads (h1 := fun _ => rfl) (hA36 _ (Kd.reads_of_C HR0.out)))
                      have HC179 := Aside0.mk hC36
                      clear hA36 hC36 hi036 hsz36
                      go_wp2_with (first | (go_at_call 17; (first | (with_reducible refine (lockfastref02_Of.calls k2 _ _ (l0.take ((ji29) : Int).toNat) t180 _ ?side1 ?side2 A34.out).mono ?_) | (rw [← (show (l0.take ((ji29) : Int).toNat).length = ((ji29) : Int).toNat from (by rw [List.length_take]; have h_ : ((ji29) : Int) ≤ (l0.length : Int) := of_decide_eq_true (by first | (with_reducible assumption) | assumption); omega))]; (with_reducible refine (lockfastref02_Of.calls k2 _ _ (l0.take ((ji29) : Int).toNat) t180 _ ?side1 ?side2 A34.out).mono ?_))); (case side1 => repeat (first | exact (Kd.C_below HR179.out HB.out) | (with_reducible refine Kd.C_alloc ?_ _) | (with_reducible refine Kd.C_drewN ?_ _) | (with_reducible refine Kd.C_drew ?_))); (case side2 => exact HC179.out); rintro e w' ⟨rfl, ⟨nd, rfl⟩⟩; (try first | exact ⟨rfl, _, World.drewN_drewN _ _ _⟩ | exact ⟨rfl, _, Eq.trans (World.drewN_drewN _ _ _) (congrArg (World.drewN _) (Nat.add_assoc _ _ _))⟩)))
                      repeat (go_quiet (first | (go_at_call 17; (first | (with_reducible refine (lockfastref02_Of.calls k2 _ _ (l0.take ((ji29) : Int).toNat) t180 _ ?side1 ?side2 A34.out).mono ?_) | (rw [← (show (l0.take ((ji29) : Int).toNat).length = ((ji29) : Int).toNat from (by rw [List.length_take]; have h_ : ((ji29) : Int) ≤ (l0.length : Int) := of_decide_eq_true (by first | (with_reducible assumption) | assumption); omega))]; (with_reducible refine (lockfastref02_Of.calls k2 _ _ (l0.take ((ji29) : Int).toNat) t180 _ ?side1 ?side2 A34.out).mono ?_))); (case side1 => repeat (first | exact (Kd.C_below HR179.out HB.out) | (with_reducible refine Kd.C_alloc ?_ _) | (with_reducible refine Kd.C_drewN ?_ _) | (with_reducible refine Kd.C_drew ?_))); (case side2 => exact HC179.out); rintro e w' ⟨rfl, ⟨nd, rfl⟩⟩; (try first | exact ⟨rfl, _, World.drewN_drewN _ _ _⟩ | exact ⟨rfl, _, Eq.trans (World.drewN_drewN _ _ _) (congrArg (World.drewN _) (Nat.add_assoc _ _ _))⟩))); try go_wp2_with (first | (go_at_call 17; (first | (with_reducible refine (lockfastref02_Of.calls k2 _ _ (l0.take ((ji29) : Int).toNat) t180 _ ?side1 ?side2 A34.out).mono ?_) | (rw [← (show (l0.take ((ji29) : Int).toNat).length = ((ji29) : Int).toNat from (by rw [List.length_take]; have h_ : ((ji29) : Int) ≤ (l0.length : Int) := of_decide_eq_true (by first | (with_reducible assumption) | assumption); omega))]; (with_reducible refine (lockfastref02_Of.calls k2 _ _ (l0.take ((ji29) : Int).toNat) t180 _ ?side1 ?side2 A34.out).mono ?_))); (case side1 => repeat (first | exact (Kd.C_below HR179.out HB.out) | (with_reducible refine Kd.C_alloc ?_ _) | (with_reducible refine Kd.C_drewN ?_ _) | (with_reducible refine Kd.C_drew ?_))); (case side2 => exact HC179.out); rintro e w' ⟨rfl, ⟨nd, rfl⟩⟩; (try first | exact ⟨rfl, _, World.drewN_drewN _ _ _⟩ | exact ⟨rfl, _, Eq.trans (World.drewN_drewN _ _ _) (congrArg (World.drewN _) (Nat.add_assoc _ _ _))⟩))))
                      go_ret2
                      exact ⟨_, by first | rfl | (simp [errW_none, errW_some] <;> rfl) | (simp only [← hji29]; first | rfl | (simp [errW_none, errW_some] <;> rfl)) | (simp [*, errW_none, errW_some] <;> rfl), by (with_reducible repeat (first | apply Kd.R_alloc | apply Kd.R_drewN | apply Kd.R_drew)); exact HO_6.out, by repeat (first | (with_reducible first | exact HB.out | apply below_alloc | apply pw_below_drewN | apply below_drew1) | exact HB.out)⟩
                    · rw [if_neg c35] at H
                      have c35b0 : ((rd l0 (ji29)) == (IntKind.u64.wrap (t180))) = false := beq_eq_false_iff_ne.mpr c35
                      have c35b1 : ((rd l0 (ji29)) != (IntKind.u64.wrap (t180))) = true := bne_iff_ne.mpr c35
                      simp only [Option.some.injEq, Prod.mk.injEq] at H
                      obtain ⟨rfl, rfl⟩ := H
                      have p178 : 0 ≤ ((ji29) : Int) := of_decide_eq_true (by first | (with_reducible assumption) | assumption)
                      have q178 : (ji29) < (l0.length : Int) := of_decide_eq_true (by first | (with_reducible assumption) | assumption)
                      obtain ⟨ad178, e178, hx178_0⟩ := Kd.at_int HR0.out (ji29) p178 q178
                      cases e178
                      replace hx178_0 := (HB.out.cell (World.block_lt_of_cell? w _ hx178_0)).trans hx178_0
                      replace p178 := eq_true p178
                      replace q178 := eq_true q178
                      obtain ⟨i037, hi037, _, hsz37, _⟩ := info_parts info33
                      obtain ⟨hcut37, hA37, hC37⟩ := print_take_of (P := Try.prog) (Value.int .u64) 0 24 33 .i64 Try.underlying24 hi037 hsz37 (some ad178) c0 l0 (ji29) (of_decide_eq_true (by first | (with_reducible assumption) | assumption)) (of_decide_eq_true (by first | (with_reducible assumption) | assumption)) HC0.out
                      have HR179 := Aside0.mk (Kd.C_of_reads (h1 := fun _ => rfl) (hA37 _ (Kd.reads_of_C HR0.out)))
                      have HC179 := Aside0.mk hC37
                      clear hA37 hC37 hi037 hsz37
                      go_wp2_with (first | (go_at_call 17; (first | (with_reducible refine (lockfastref02_Of.calls k2 _ _ (l0.take ((ji29) : Int).toNat) t180 _ ?side1 ?side2 A34.out).mono ?_) | (rw [← (show (l0.take ((ji29) : Int).toNat).length = ((ji29) : Int).toNat from (by rw [List.length_take]; have h_ : ((ji29) : Int) ≤ (l0.length : Int) := of_decide_eq_true (by first | (with_reducible assumption) | assumption); omega))]; (with_reducible refine (lockfastref02_Of.calls k2 _ _ (l0.take ((ji29) : Int).toNat) t180 _ ?side1 ?side2 A34.out).mono ?_))); (case side1 => repeat (first | exact (Kd.C_below HR179.out HB.out) | (with_reducible refine Kd.C_alloc ?_ _) | (with_reducible refine Kd.C_drewN ?_ _) | (with_reducible refine Kd.C_drew ?_))); (case side2 => exact HC179.out); rintro e w' ⟨rfl, ⟨nd, rfl⟩⟩; (try first | exact ⟨rfl, _, World.drewN_drewN _ _ _⟩ | exact ⟨rfl, _, Eq.trans (World.drewN_drewN _ _ _) (congrArg (World.drewN _) (Nat.add_assoc _ _ _))⟩)))
                      repeat (go_quiet (first | (go_at_call 17; (first | (with_reducible refine (lockfastref02_Of.calls k2 _ _ (l0.take ((ji29) : Int).toNat) t180 _ ?side1 ?side2 A34.out).mono ?_) | (rw [← (show (l0.take ((ji29) : Int).toNat).length = ((ji29) : Int).toNat from (by rw [List.length_take]; have h_ : ((ji29) : Int) ≤ (l0.length : Int) := of_decide_eq_true (by first | (with_reducible assumption) | assumption); omega))]; (with_reducible refine (lockfastref02_Of.calls k2 _ _ (l0.take ((ji29) : Int).toNat) t180 _ ?side1 ?side2 A34.out).mono ?_))); (case side1 => repeat (first | exact (Kd.C_below HR179.out HB.out) | (with_reducible refine Kd.C_alloc ?_ _) | (with_reducible refine Kd.C_drewN ?_ _) | (with_reducible refine Kd.C_drew ?_))); (case side2 => exact HC179.out); rintro e w' ⟨rfl, ⟨nd, rfl⟩⟩; (try first | exact ⟨rfl, _, World.drewN_drewN _ _ _⟩ | exact ⟨rfl, _, Eq.trans (World.drewN_drewN _ _ _) (congrArg (World.drewN _) (Nat.add_assoc _ _ _))⟩))); try go_wp2_with (first | (go_at_call 17; (first | (with_reducible refine (lockfastref02_Of.calls k2 _ _ (l0.take ((ji29) : Int).toNat) t180 _ ?side1 ?side2 A34.out).mono ?_) | (rw [← (show (l0.take ((ji29) : Int).toNat).length = ((ji29) : Int).toNat from (by rw [List.length_take]; have h_ : ((ji29) : Int) ≤ (l0.length : Int) := of_decide_eq_true (by first | (with_reducible assumption) | assumption); omega))]; (with_reducible refine (lockfastref02_Of.calls k2 _ _ (l0.take ((ji29) : Int).toNat) t180 _ ?side1 ?side2 A34.out).mono ?_))); (case side1 => repeat (first | exact (Kd.C_below HR179.out HB.out) | (with_reducible refine Kd.C_alloc ?_ _) | (with_reducible refine Kd.C_drewN ?_ _) | (with_reducible refine Kd.C_drew ?_))); (case side2 => exact HC179.out); rintro e w' ⟨rfl, ⟨nd, rfl⟩⟩; (try first | exact ⟨rfl, _, World.drewN_drewN _ _ _⟩ | exact ⟨rfl, _, Eq.trans (World.drewN_drewN _ _ _) (congrArg (World.drewN _) (Nat.add_assoc _ _ _))⟩))))
                      go_ret2
                      exact ⟨_, by first | rfl | (simp [errW_none, errW_some] <;> rfl) | (simp only [← hji29]; first | rfl | (simp [errW_none, errW_some] <;> rfl)) | (simp [*, errW_none, errW_some] <;> rfl), by first | exact Kd.R_nil _ _ _ _ _ | exact Kd.N_nil _ _ _ _ _ | exact Kd.V_nil _ _ _ _ _ | exact Kd.Q_nil _ _ _ _ _ | exact Kd.S_nil _ _ _ _ _, by repeat (first | (with_reducible first | exact HB.out | apply below_alloc | apply pw_below_drewN | apply below_drew1) | exact HB.out)⟩
                  · rw [if_neg c33] at H
                    exact absurd H (by simp)
                · rw [if_neg c31] at H
                  exact absurd H (by simp)
              · rw [if_neg c30] at H
                exact absurd H (by simp)

/-! ### lockfastlaw12_RedoDecodes: function 4 -/
mutual
def lockfastlaw12_RedoDecodes.j0 : Nat → List Int → Int → Bool → Bool → Bool → Option (Bool)
  | 0, _, _, _, _, _ => none
  | k + 1, x0, x1, x5, x7, x40 => if x40 = true then (some false) else (if x1 < 0 then (lockfastlaw12_RedoDecodes.j1 k x0 x1 x5 x7 true) else (if x1 > 19 then (lockfastlaw12_RedoDecodes.j1 k x0 x1 x5 x7 true) else (lockfastlaw12_RedoDecodes.j1 k x0 x1 x5 x7 (decide ((x0.length : Int) < (wrap64 ((wrap64 (2 * x1)) + 1)))))))
def lockfastlaw12_RedoDecodes.j1 : Nat → List Int → Int → Bool → Bool → Bool → Option (Bool)
  | 0, _, _, _, _, _ => none
  | k + 1, x0, x1, x5, x7, x54 => if x54 = true then (if x5 = true then (some (!x7)) else (some false)) else ((some (([] : List Int) : List Int)).bind fun y191 => (if y191.length + x0.length < 17592186044416 then ((some (y191 ++ x0 : List Int)).bind fun y194 => (if 0 ≤ (wrap64 (2 * x1)) then (if (wrap64 (2 * x1)) ≤ (y194.length : Int) then ((lockfastref02_Of.f k (y194.take ((wrap64 (2 * x1)) : Int).toNat)).bind fun t201 => (if (wrap64 (2 * x1)) < (y194.length : Int) then ((some (y194.set ((wrap64 (2 * x1)) : Int).toNat (IntKind.u64.wrap (t201)) : List Int)).bind fun y202 => ((redo_Decode.f y202 x1).bind fun bt203 => ((lockfastref12_Decode.f k y202 x1).bind fun bt207 => (if x5 = true then (if (bt203.2 == bt207.2) = true then ((lockfastref12_Same.f k bt203.1 bt207.1).bind fun t211 => (some t211)) else (some false)) else (some false))))) else (none))) else (none)) else (none))) else (none)))
end
def lockfastlaw12_RedoDecodes.f (k : Nat) (l0 : List Int) (a1 : Int) : Option (Bool) := (lockfastlaw12_awake.f k).bind fun t181 => (if (l0.length : Int) > 50 then (some t181) else ((redo_Decode.f l0 a1).bind fun bt182 => ((lockfastref12_Decode.f k l0 a1).bind fun bt186 => (if (bt182.2 != bt186.2) = true then (lockfastlaw12_RedoDecodes.j0 k l0 a1 t181 bt182.2 true) else ((lockfastref12_Same.f k bt182.1 bt186.1).bind fun t190 => (lockfastlaw12_RedoDecodes.j0 k l0 a1 t181 bt182.2 (!t190)))))))
theorem lockfastlaw12_RedoDecodes.mono_l : ∀ k, (∀ y0 y1 y2 y3 y4, LeO (lockfastlaw12_RedoDecodes.j0 k y0 y1 y2 y3 y4) (lockfastlaw12_RedoDecodes.j0 (k + 1) y0 y1 y2 y3 y4)) ∧ (∀ y0 y1 y2 y3 y4, LeO (lockfastlaw12_RedoDecodes.j1 k y0 y1 y2 y3 y4) (lockfastlaw12_RedoDecodes.j1 (k + 1) y0 y1 y2 y3 y4))
  | 0 => ⟨fun _ _ _ _ _ r h => by simp [lockfastlaw12_RedoDecodes.j0] at h, fun _ _ _ _ _ r h => by simp [lockfastlaw12_RedoDecodes.j1] at h⟩
  | k + 1 => by
    obtain ⟨ih0, ih1⟩ := lockfastlaw12_RedoDecodes.mono_l k
    refine ⟨?_, ?_⟩
    · intro y0 y1 y2 y3 y4
      unfold lockfastlaw12_RedoDecodes.j0
      repeat' first
      | (with_reducible exact ih0 _ _ _ _ _)
      | (with_reducible exact ih1 _ _ _ _ _)
      | (with_reducible exact lockfastlaw12_awake.mono _)
      | (with_reducible exact lockfastref02_Of.mono _ _)
      | (with_reducible exact lockfastref12_Decode.mono _ _ _)
      | (with_reducible exact lockfastref12_Same.mono _ _ _)
      | (with_reducible exact LeO.refl _)
      | (with_reducible exact LeO.none _)
      | (with_reducible refine LeO.ite ?_ ?_)
      | (with_reducible refine LeO.bind ?_ (fun _ => ?_))
      | exact ih0 _ _ _ _ _
      | exact ih1 _ _ _ _ _
      | exact lockfastlaw12_awake.mono _
      | exact lockfastref02_Of.mono _ _
      | exact lockfastref12_Decode.mono _ _ _
      | exact lockfastref12_Same.mono _ _ _
      | exact LeO.none _
      | refine LeO.ite ?_ ?_
      | refine LeO.bind ?_ (fun _ => ?_)
    · intro y0 y1 y2 y3 y4
      unfold lockfastlaw12_RedoDecodes.j1
      repeat' first
      | (with_reducible exact ih0 _ _ _ _ _)
      | (with_reducible exact ih1 _ _ _ _ _)
      | (with_reducible exact lockfastlaw12_awake.mono _)
      | (with_reducible exact lockfastref02_Of.mono _ _)
      | (with_reducible exact lockfastref12_Decode.mono _ _ _)
      | (with_reducible exact lockfastref12_Same.mono _ _ _)
      | (with_reducible exact LeO.refl _)
      | (with_reducible exact LeO.none _)
      | (with_reducible refine LeO.ite ?_ ?_)
      | (with_reducible refine LeO.bind ?_ (fun _ => ?_))
      | exact ih0 _ _ _ _ _
      | exact ih1 _ _ _ _ _
      | exact lockfastlaw12_awake.mono _
      | exact lockfastref02_Of.mono _ _
      | exact lockfastref12_Decode.mono _ _ _
      | exact lockfastref12_Same.mono _ _ _
      | exact LeO.none _
      | refine LeO.ite ?_ ?_
      | refine LeO.bind ?_ (fun _ => ?_)
theorem lockfastlaw12_RedoDecodes.mono : ∀ a0 a1 k, LeO (lockfastlaw12_RedoDecodes.f k a0 a1) (lockfastlaw12_RedoDecodes.f (k + 1) a0 a1) := by
  intro a0 a1 k
  obtain ⟨ih0, ih1⟩ := lockfastlaw12_RedoDecodes.mono_l k
  unfold lockfastlaw12_RedoDecodes.f
  repeat' first
      | (with_reducible exact ih0 _ _ _ _ _)
      | (with_reducible exact ih1 _ _ _ _ _)
      | (with_reducible exact lockfastlaw12_awake.mono _)
      | (with_reducible exact lockfastref02_Of.mono _ _)
      | (with_reducible exact lockfastref12_Decode.mono _ _ _)
      | (with_reducible exact lockfastref12_Same.mono _ _ _)
      | (with_reducible exact LeO.refl _)
      | (with_reducible exact LeO.none _)
      | (with_reducible refine LeO.ite ?_ ?_)
      | (with_reducible refine LeO.bind ?_ (fun _ => ?_))
      | exact ih0 _ _ _ _ _
      | exact ih1 _ _ _ _ _
      | exact lockfastlaw12_awake.mono _
      | exact lockfastref02_Of.mono _ _
      | exact lockfastref12_Decode.mono _ _ _
      | exact lockfastref12_Same.mono _ _ _
      | exact LeO.none _
      | refine LeO.ite ?_ ?_
      | refine LeO.bind ?_ (fun _ => ?_)
set_option maxHeartbeats 8000000 in
set_option maxRecDepth 100000 in
theorem lockfastlaw12_RedoDecodes.calls (k : Nat) (A0 : Option Addr) (c0 : Nat) (l0 : List Int) (a1 : Int) (r : Bool) (w : World) (hrt : r = true) (hr0 : Kd.C (Kd.int .u64) w A0 l0.length l0) (hc0 : l0.length ≤ c0) (h : lockfastlaw12_RedoDecodes.f k l0 a1 = some r) :
    Calls Try.prog 4 #[.slice A0 l0.length c0, .int .i64 a1] w fun e w' => e = .returned (.bool r) ∧ Below w.heap.size w w' := by
  have HR0 := Aside0.mk hr0
  have HC0 := Aside0.mk hc0
  clear hr0 hc0
  have HB := Aside0.mk (Below.refl w.heap.size w)
  have H : ((lockfastlaw12_awake.f k).bind fun t181 => (if (l0.length : Int) > 50 then (some t181) else ((redo_Decode.f l0 a1).bind fun bt182 => ((lockfastref12_Decode.f k l0 a1).bind fun bt186 => (if (bt182.2 != bt186.2) = true then (lockfastlaw12_RedoDecodes.j0 k l0 a1 t181 bt182.2 true) else ((lockfastref12_Same.f k bt182.1 bt186.1).bind fun t190 => (lockfastlaw12_RedoDecodes.j0 k l0 a1 t181 bt182.2 (!t190)))))))) = some r := h
  clear h
  have HRT := Aside0.mk hrt
  clear hrt
  replace H := Option.bind_eq_some_iff.mp H
  obtain ⟨t181, A30, H⟩ := H
  replace H : (if (l0.length : Int) > 50 then (some t181) else ((redo_Decode.f l0 a1).bind fun bt182 => ((lockfastref12_Decode.f k l0 a1).bind fun bt186 => (if (bt182.2 != bt186.2) = true then (lockfastlaw12_RedoDecodes.j0 k l0 a1 t181 bt182.2 true) else ((lockfastref12_Same.f k bt182.1 bt186.1).bind fun t190 => (lockfastlaw12_RedoDecodes.j0 k l0 a1 t181 bt182.2 (!t190))))))) = some r := H
  have A3 := Aside0.mk A30
  clear A30
  by_cases c4 : (l0.length : Int) > 50
  · rw [if_pos c4] at H
    have c4b0 : decide (50 < (l0.length : Int)) = true := decide_eq_true c4
    have c4b1 : decide (50 < l0.length) = true := decide_eq_true (by omega)
    clear c4
    obtain rfl := Option.some.inj H
    simp only [Option.some.injEq, Prod.mk.injEq] at H
    obtain ⟨rfl⟩ := H
    go_enter Try.func4, Try.ntmps4
    go_wp2_with (first | ((with_reducible refine gate_callee (f := 9) rfl ?_); refine goesL_ (some 15) rfl rfl Try.func9 (by kernel_rfl) rfl #[] rfl (by (try simp only [List.map_toArray, List.map_cons, List.map_nil]); first | done | rfl | (simp only [List.length_drop, List.length_take]; rfl)) ?_; (with_reducible refine (lockfastlaw12_awake.calls k  t181 _ A3.out).mono ?_); rintro e w5 ⟨rfl, hb⟩; refine ⟨_, rfl, ?_⟩; have n0_ := Aside0.mk (below_step (by repeat (first | (with_reducible first | exact HB.out | apply below_alloc | apply pw_below_drewN | apply below_drew1) | exact HB.out)) hb); clear HB; have HB := n0_; clear n0_; (try clear hb); (try clear hb2); (try clear hk); (try clear hi)))
    go_ret
    exact ⟨by first | rfl | (simp [errW_none, errW_some] <;> rfl) | (simp [*, errW_none, errW_some] <;> rfl), by repeat (first | (with_reducible first | exact HB.out | apply below_alloc | apply pw_below_drewN | apply below_drew1) | exact HB.out)⟩
  · rw [if_neg c4] at H
    have c4b0 : decide (50 < (l0.length : Int)) = false := decide_eq_false c4
    have c4b1 : decide (50 < l0.length) = false := decide_eq_false (by omega)
    clear c4
    replace H := Option.bind_eq_some_iff.mp H
    obtain ⟨⟨t182, t183⟩, A60, H⟩ := H
    replace H : ((lockfastref12_Decode.f k l0 a1).bind fun bt186 => (if (t183 != bt186.2) = true then (lockfastlaw12_RedoDecodes.j0 k l0 a1 t181 t183 true) else ((lockfastref12_Same.f k t182 bt186.1).bind fun t190 => (lockfastlaw12_RedoDecodes.j0 k l0 a1 t181 t183 (!t190))))) = some r := H
    have A6 := Aside0.mk A60
    clear A60
    replace H := Option.bind_eq_some_iff.mp H
    obtain ⟨⟨t186, t187⟩, A70, H⟩ := H
    replace H : (if (t183 != t187) = true then (lockfastlaw12_RedoDecodes.j0 k l0 a1 t181 t183 true) else ((lockfastref12_Same.f k t182 t186).bind fun t190 => (lockfastlaw12_RedoDecodes.j0 k l0 a1 t181 t183 (!t190)))) = some r := H
    have A7 := Aside0.mk A70
    clear A70
    have HC8 := Aside0.mk H
    clear H
    go_enter Try.func4, Try.ntmps4
    go_upto_region 6 with (first | ((with_reducible refine gate_callee (f := 9) rfl ?_); refine goesL_ (some 15) rfl rfl Try.func9 (by kernel_rfl) rfl #[] rfl (by (try simp only [List.map_toArray, List.map_cons, List.map_nil]); first | done | rfl | (simp only [List.length_drop, List.length_take]; rfl)) ?_; (with_reducible refine (lockfastlaw12_awake.calls k  t181 _ A3.out).mono ?_); rintro e w9 ⟨rfl, hb⟩; refine ⟨_, rfl, ?_⟩; have n0_ := Aside0.mk (below_step (by repeat (first | (with_reducible first | exact HB.out | apply below_alloc | apply pw_below_drewN | apply below_drew1) | exact HB.out)) hb); clear HB; have HB := n0_; clear n0_; (try clear hb); (try clear hb2); (try clear hk); (try clear hi)) | ((with_reducible refine gate_callee (f := 14) rfl ?_); refine goesL_ (some 23) rfl rfl Try.func14 (by kernel_rfl) rfl #[.slice A0 l0.length c0, .int .i64 a1] rfl (by (try simp only [List.map_toArray, List.map_cons, List.map_nil]); first | done | rfl | (simp only [List.length_drop, List.length_take]; rfl)) ?_; (with_reducible refine (redo_Decode.calls _ _ l0 a1 t182 t183 _ ?side1 ?side2 A6.out).mono ?_); (case side1 => repeat (first | exact (Kd.C_below HR0.out HB.out) | (with_reducible refine Kd.C_alloc ?_ _) | (with_reducible refine Kd.C_drewN ?_ _) | (with_reducible refine Kd.C_drew ?_))); (case side2 => exact HC0.out); rintro e w10 ⟨v184, rfl, ho0, hb⟩; refine ⟨_, rfl, ?_⟩; have n0_ := Aside0.mk (Kd.R_lower ho0 (below_size (by repeat (first | (with_reducible first | exact HB.out | apply below_alloc | apply pw_below_drewN | apply below_drew1) | exact HB.out)))); have n1_ := Aside0.mk (below_step (by repeat (first | (with_reducible first | exact HB.out | apply below_alloc | apply pw_below_drewN | apply below_drew1) | exact HB.out)) hb); clear HB; have HO185 := n0_; have HB := n1_; clear n0_ n1_; (try clear hb); (try clear hb2); (try clear hk); (try clear hi); (try clear ho0)) | ((with_reducible refine gate_callee (f := 15) rfl ?_); refine goesL_ (some 29) rfl rfl Try.func15 (by kernel_rfl) rfl #[.slice A0 l0.length c0, .int .i64 a1] rfl (by (try simp only [List.map_toArray, List.map_cons, List.map_nil]); first | done | rfl | (simp only [List.length_drop, List.length_take]; rfl)) ?_; (with_reducible refine (lockfastref12_Decode.calls k _ _ l0 a1 t186 t187 _ ?side1 ?side2 A7.out).mono ?_); (case side1 => repeat (first | exact (Kd.C_below HR0.out HB.out) | (with_reducible refine Kd.C_alloc ?_ _) | (with_reducible refine Kd.C_drewN ?_ _) | (with_reducible refine Kd.C_drew ?_))); (case side2 => exact HC0.out); rintro e w11 ⟨v188, rfl, ho0, hb⟩; refine ⟨_, rfl, ?_⟩; have n0_ := Aside0.mk (Kd.R_elder' (by (with_reducible repeat (first | apply Kd.R_alloc | apply Kd.R_drewN | apply Kd.R_drew)); exact HO185.out) (Kd.R_base ho0) hb); have n1_ := Aside0.mk (Kd.R_lower (Kd.R_new' ho0 (Kd.R_lt (by (with_reducible repeat (first | apply Kd.R_alloc | apply Kd.R_drewN | apply Kd.R_drew)); exact HO185.out))) (below_size (by repeat (first | (with_reducible first | exact HB.out | apply below_alloc | apply pw_below_drewN | apply below_drew1) | exact HB.out)))); have n2_ := Aside0.mk (below_step (by repeat (first | (with_reducible first | exact HB.out | apply below_alloc | apply pw_below_drewN | apply below_drew1) | exact HB.out)) hb); clear HO185; clear HB; have HO185 := n0_; have HO189 := n1_; have HB := n2_; clear n0_ n1_ n2_; (try clear hb); (try clear hb2); (try clear hk); (try clear hi); (try clear ho0)))
    (try simp only [Act.put, List.setIfInBounds_toArray, List.set_cons_zero, List.set_cons_succ])
    go_cut [40] (fun v40 wc => ∃ (kq : Nat) (x40_7 : Bool), v40 = .bool x40_7 ∧ Aside0 (lockfastlaw12_RedoDecodes.j0 kq l0 a1 t181 t183 x40_7 = some r) ∧ Aside0 (kq ≤ k) ∧ Aside0 (Below w.heap.size w wc))
    case first =>
      have H := HC8.out
      clear HC8
      by_cases c12 : (t183 != t187) = true
      · rw [if_pos c12] at H
        have c12b0 : (t183 != t187) = true := c12
        (try (have c12b1 : decide (t183 = t187) = false := by simpa using c12))
        (try (have c12b2 : (t183 == t187) = false := by simpa using c12))
        (try (have c12b3 : ¬ (t183 = t187) := by simpa using c12))
        clear c12
        (first | rw [c12b0] | (simp only [i64_w, i32_w]; rw [c12b0]) | skip)
        have H' := Aside0.mk H
        clear H
        go_wp2
        go_meet
        case rel => exact ⟨_, (true), (by first | rfl | (simp; done) | (simp [*]; done)), (by first | exact H' | (subst_vars; exact H')), ⟨by first | omega | exact Nat.le_refl _⟩, ⟨by repeat (first | (with_reducible first | exact HB.out | apply below_alloc | apply pw_below_drewN | apply below_drew1) | exact HB.out)⟩⟩
      · rw [if_neg c12] at H
        have c12b0 : (t183 != t187) = false := by simpa using c12
        (try (have c12b1 : decide (t183 = t187) = true := by simpa using c12))
        (try (have c12b2 : (t183 == t187) = true := by simpa using c12))
        clear c12
        (first | rw [c12b0] | (simp only [i64_w, i32_w]; rw [c12b0]) | skip)
        replace H := Option.bind_eq_some_iff.mp H
        obtain ⟨t190, A130, H⟩ := H
        replace H : (lockfastlaw12_RedoDecodes.j0 k l0 a1 t181 t183 (!t190)) = some r := H
        have A13 := Aside0.mk A130
        clear A130
        have H' := Aside0.mk H
        clear H
        obtain ⟨Ao14, co14, eo14⟩ := Kd.R_slice HO185.out
        subst eo14
        obtain ⟨Ao15, co15, eo15⟩ := Kd.R_slice HO189.out
        subst eo15
        go_wp2_with (first | (go_at_call 16; (with_reducible refine (lockfastref12_Same.calls k _ _ t182 _ _ t186 t190 _ ?side1 ?side2 ?side3 ?side4 A13.out).mono ?_); (case side1 => repeat (first | exact (Kd.R_reads' HO185.out).2.2 | (with_reducible refine Kd.C_alloc ?_ _) | (with_reducible refine Kd.C_drewN ?_ _) | (with_reducible refine Kd.C_drew ?_))); (case side2 => exact (Kd.R_reads' HO185.out).2.1); (case side3 => repeat (first | exact (Kd.R_reads' HO189.out).2.2 | (with_reducible refine Kd.C_alloc ?_ _) | (with_reducible refine Kd.C_drewN ?_ _) | (with_reducible refine Kd.C_drew ?_))); (case side4 => exact (Kd.R_reads' HO189.out).2.1); rintro e w' ⟨rfl, ⟨nd, rfl⟩⟩))
        go_meet
        case rel => exact ⟨_, (!t190), (by first | rfl | (simp; done) | (simp [*]; done)), (by first | exact H' | (subst_vars; exact H')), ⟨by first | omega | exact Nat.le_refl _⟩, ⟨by repeat (first | (with_reducible first | exact HB.out | apply below_alloc | apply pw_below_drewN | apply below_drew1) | exact HB.out)⟩⟩
    case rest =>
      clear HC8
      try clear c1
      try clear p2
      try clear c4
      try clear c4b0
      try clear c4b1
      try clear c9
      try clear c12
      try clear c12b0
      try clear c12b1
      try clear c12b2
      try clear c14
      try clear c15
      obtain ⟨kq, x40_7, rfl, HA, HJ7, HB⟩ := hcut
      cases kq with
      | zero => exact absurd HA.out (by simp [lockfastlaw12_RedoDecodes.j0])
      | succ kj7 =>
        have H := HA.out
        clear HA
        simp only [lockfastlaw12_RedoDecodes.j0] at H
        by_cases c16 : x40_7 = true
        · subst c16
          have H1 : (some false) = some r := by rw [if_pos rfl] at H; exact H
          clear H
          have H := H1
          clear H1
          obtain rfl := Option.some.inj H
          exact absurd HRT.out (by decide)
        · replace c16 := Bool.eq_false_iff.mpr c16
          subst c16
          have H1 : (if a1 < 0 then (lockfastlaw12_RedoDecodes.j1 kj7 l0 a1 t181 t183 true) else (if a1 > 19 then (lockfastlaw12_RedoDecodes.j1 kj7 l0 a1 t181 t183 true) else (lockfastlaw12_RedoDecodes.j1 kj7 l0 a1 t181 t183 (decide ((l0.length : Int) < (wrap64 ((wrap64 (2 * a1)) + 1))))))) = some r := by rw [if_neg (show ¬ (false = true) by decide)] at H; exact H
          clear H
          have H := H1
          clear H1
          have HC17 := Aside0.mk H
          clear H
          go_upto_region 8 with (fail)
          go_cut [54] (fun v54 wc => ∃ (kq : Nat) (x54_16 : Bool), v54 = .bool x54_16 ∧ Aside0 (lockfastlaw12_RedoDecodes.j1 kq l0 a1 t181 t183 x54_16 = some r) ∧ Aside0 (kq ≤ kj7) ∧ Aside0 (Below w.heap.size w wc))
          case first =>
            have H := HC17.out
            clear HC17
            by_cases c18 : a1 < 0
            · rw [if_pos c18] at H
              have c18b0 : decide (a1 < 0) = true := decide_eq_true c18
              clear c18
              (first | rw [c18b0] | (simp only [i64_w, i32_w]; rw [c18b0]) | skip)
              have H' := Aside0.mk H
              clear H
              go_wp2
              go_meet
              case rel => exact ⟨_, (true), (by first | rfl | (simp; done) | (simp [*]; done)), (by first | exact H' | (subst_vars; exact H')), ⟨by have := HJ7.out; first | omega | exact Nat.le_refl _⟩, ⟨by repeat (first | (with_reducible first | exact HB.out | apply below_alloc | apply pw_below_drewN | apply below_drew1) | exact HB.out)⟩⟩
            · rw [if_neg c18] at H
              have c18b0 : decide (a1 < 0) = false := decide_eq_false c18
              clear c18
              (first | rw [c18b0] | (simp only [i64_w, i32_w]; rw [c18b0]) | skip)
              by_cases c19 : a1 > 19
              · rw [if_pos c19] at H
                have c19b0 : decide (19 < a1) = true := decide_eq_true c19
                clear c19
                have H' := Aside0.mk H
                clear H
                go_wp2
                go_meet
                case rel => exact ⟨_, (true), (by first | rfl | (simp; done) | (simp [*]; done)), (by first | exact H' | (subst_vars; exact H')), ⟨by have := HJ7.out; first | omega | exact Nat.le_refl _⟩, ⟨by repeat (first | (with_reducible first | exact HB.out | apply below_alloc | apply pw_below_drewN | apply below_drew1) | exact HB.out)⟩⟩
              · rw [if_neg c19] at H
                have c19b0 : decide (19 < a1) = false := decide_eq_false c19
                clear c19
                have H' := Aside0.mk H
                clear H
                go_wp2
                go_meet
                case rel => exact ⟨_, (decide ((l0.length : Int) < (wrap64 ((wrap64 (2 * a1)) + 1)))), (by first | rfl | (simp; done) | (simp [*]; done)), (by first | exact H' | (subst_vars; exact H')), ⟨by have := HJ7.out; first | omega | exact Nat.le_refl _⟩, ⟨by repeat (first | (with_reducible first | exact HB.out | apply below_alloc | apply pw_below_drewN | apply below_drew1) | exact HB.out)⟩⟩
          case rest =>
            clear HC17
            try clear c1
            try clear p2
            try clear c4
            try clear c4b0
            try clear c4b1
            try clear p6
            try clear c9
            try clear c12
            try clear c12b0
            try clear c12b1
            try clear c12b2
            try clear c14
            try clear c15
            try clear c16
            try clear c18
            try clear c18b0
            try clear c19
            try clear c19b0
            try clear p2
            obtain ⟨kq, x54_16, rfl, HA, HJ16, HB⟩ := hcut
            cases kq with
            | zero => exact absurd HA.out (by simp [lockfastlaw12_RedoDecodes.j1])
            | succ kj16 =>
              have H := HA.out
              clear HA
              simp only [lockfastlaw12_RedoDecodes.j1] at H
              by_cases c20 : x54_16 = true
              · subst c20
                have H1 : (if t181 = true then (some (!t183)) else (some false)) = some r := by rw [if_pos rfl] at H; exact H
                clear H
                have H := H1
                clear H1
                by_cases c21 : t181 = true
                · subst c21
                  have H1 : (some (!t183)) = some r := by rw [if_pos rfl] at H; exact H
                  clear H
                  have H := H1
                  clear H1
                  obtain rfl := Option.some.inj H
                  simp only [Option.some.injEq, Prod.mk.injEq] at H
                  obtain ⟨rfl⟩ := H
                  go_wp2
                  go_ret
                  exact ⟨by first | rfl | (simp [errW_none, errW_some] <;> rfl) | (simp [*, errW_none, errW_some] <;> rfl), by repeat (first | (with_reducible first | exact HB.out | apply below_alloc | apply pw_below_drewN | apply below_drew1) | exact HB.out)⟩
                · replace c21 := Bool.eq_false_iff.mpr c21
                  subst c21
                  have H1 : (some false) = some r := by rw [if_neg (show ¬ (false = true) by decide)] at H; exact H
                  clear H
                  have H := H1
                  clear H1
                  obtain rfl := Option.some.inj H
                  exact absurd HRT.out (by decide)
              · replace c20 := Bool.eq_false_iff.mpr c20
                subst c20
                have H1 : ((some (([] : List Int) : List Int)).bind fun y191 => (if y191.length + l0.length < 17592186044416 then ((some (y191 ++ l0 : List Int)).bind fun y194 => (if 0 ≤ (wrap64 (2 * a1)) then (if (wrap64 (2 * a1)) ≤ (y194.length : Int) then ((lockfastref02_Of.f kj16 (y194.take ((wrap64 (2 * a1)) : Int).toNat)).bind fun t201 => (if (wrap64 (2 * a1)) < (y194.length : Int) then ((some (y194.set ((wrap64 (2 * a1)) : Int).toNat (IntKind.u64.wrap (t201)) : List Int)).bind fun y202 => ((redo_Decode.f y202 a1).bind fun bt203 => ((lockfastref12_Decode.f kj16 y202 a1).bind fun bt207 => (if t181 = true then (if (bt203.2 == bt207.2) = true then ((lockfastref12_Same.f kj16 bt203.1 bt207.1).bind fun t211 => (some t211)) else (some false)) else (some false))))) else (none))) else (none)) else (none))) else (none))) = some r := by rw [if_neg (show ¬ (false = true) by decide)] at H; exact H
                clear H
                have H := H1
                clear H1
                obtain ⟨y191, hy191⟩ : ∃ y_ : List Int, y_ = (([] : List Int)) := ⟨_, rfl⟩
                replace H : (if y191.length + l0.length < 17592186044416 then ((some (y191 ++ l0 : List Int)).bind fun y194 => (if 0 ≤ (wrap64 (2 * a1)) then (if (wrap64 (2 * a1)) ≤ (y194.length : Int) then ((lockfastref02_Of.f kj16 (y194.take ((wrap64 (2 * a1)) : Int).toNat)).bind fun t201 => (if (wrap64 (2 * a1)) < (y194.length : Int) then ((some (y194.set ((wrap64 (2 * a1)) : Int).toNat (IntKind.u64.wrap (t201)) : List Int)).bind fun y202 => ((redo_Decode.f y202 a1).bind fun bt203 => ((lockfastref12_Decode.f kj16 y202 a1).bind fun bt207 => (if t181 = true then (if (bt203.2 == bt207.2) = true then ((lockfastref12_Same.f kj16 bt203.1 bt207.1).bind fun t211 => (some t211)) else (some false)) else (some false))))) else (none))) else (none)) else (none))) else (none)) = some r := by first | (rw [hy191]; with_reducible exact H) | (have H2_ := (Option.bind_some _ _).symm.trans H; rw [hy191]; with_reducible exact H2_) | (have H2_ := (Option.bind_some _ _).symm.trans H; with_reducible exact H2_) | with_reducible exact H | (rw [hy191]; exact H) | exact H
                have Ny191 := Aside0.mk hy191
                clear hy191
                by_cases c22 : y191.length + l0.length < 17592186044416
                · rw [if_pos c22] at H
                  have LMc22 := Aside0.mk c22
                  clear c22
                  obtain ⟨y194, hy194⟩ : ∃ y_ : List Int, y_ = (y191 ++ l0) := ⟨_, rfl⟩
                  replace H : (if 0 ≤ (wrap64 (2 * a1)) then (if (wrap64 (2 * a1)) ≤ (y194.length : Int) then ((lockfastref02_Of.f kj16 (y194.take ((wrap64 (2 * a1)) : Int).toNat)).bind fun t201 => (if (wrap64 (2 * a1)) < (y194.length : Int) then ((some (y194.set ((wrap64 (2 * a1)) : Int).toNat (IntKind.u64.wrap (t201)) : List Int)).bind fun y202 => ((redo_Decode.f y202 a1).bind fun bt203 => ((lockfastref12_Decode.f kj16 y202 a1).bind fun bt207 => (if t181 = true then (if (bt203.2 == bt207.2) = true then ((lockfastref12_Same.f kj16 bt203.1 bt207.1).bind fun t211 => (some t211)) else (some false)) else (some false))))) else (none))) else (none)) else (none)) = some r := by first | (rw [hy194]; with_reducible exact H) | (have H2_ := (Option.bind_some _ _).symm.trans H; rw [hy194]; with_reducible exact H2_) | (have H2_ := (Option.bind_some _ _).symm.trans H; with_reducible exact H2_) | with_reducible exact H | (rw [hy194]; exact H) | exact H
                  have Ny194 := Aside0.mk hy194
                  clear hy194
                  obtain ⟨ji23, hji23⟩ : ∃ j_ : Int, (wrap64 (2 * a1)) = j_ := ⟨_, rfl⟩
                  replace H : (if 0 ≤ (ji23) then (if (ji23) ≤ (y194.length : Int) then ((lockfastref02_Of.f kj16 (y194.take ((ji23) : Int).toNat)).bind fun t201 => (if (ji23) < (y194.length : Int) then ((some (y194.set ((ji23) : Int).toNat (IntKind.u64.wrap (t201)) : List Int)).bind fun y202 => ((redo_Decode.f y202 a1).bind fun bt203 => ((lockfastref12_Decode.f kj16 y202 a1).bind fun bt207 => (if t181 = true then (if (bt203.2 == bt207.2) = true then ((lockfastref12_Same.f kj16 bt203.1 bt207.1).bind fun t211 => (some t211)) else (some false)) else (some false))))) else (none))) else (none)) else (none)) = some r := by first | (rw [hji23] at H; exact H) | (simp only [hji23] at H ⊢; exact H)
                  have hji23w : (IntKind.i64.wrap (2 * a1)) = ji23 := (i64_w _).trans hji23
                  by_cases c24 : 0 ≤ (ji23)
                  · rw [if_pos c24] at H
                    have c24b0 := eq_true c24
                    have c24b1 : decide (0 ≤ (ji23)) = true := decide_eq_true c24
                    clear c24
                    by_cases c25 : (ji23) ≤ (y194.length : Int)
                    · rw [if_pos c25] at H
                      have c25b0 := eq_true c25
                      have c25b1 : decide ((ji23) ≤ (y194.length : Int)) = true := decide_eq_true c25
                      clear c25
                      obtain ⟨y197, hy197⟩ : ∃ y_ : List Int, y_ = (y194.take ((ji23) : Int).toNat) := ⟨_, rfl⟩
                      replace H : ((lockfastref02_Of.f kj16 y197).bind fun t201 => (if (ji23) < (y194.length : Int) then ((some (y194.set ((ji23) : Int).toNat (IntKind.u64.wrap (t201)) : List Int)).bind fun y202 => ((redo_Decode.f y202 a1).bind fun bt203 => ((lockfastref12_Decode.f kj16 y202 a1).bind fun bt207 => (if t181 = true then (if (bt203.2 == bt207.2) = true then ((lockfastref12_Same.f kj16 bt203.1 bt207.1).bind fun t211 => (some t211)) else (some false)) else (some false))))) else (none))) = some r := by first | (rw [hy197]; with_reducible exact H) | (have H2_ := (Option.bind_some _ _).symm.trans H; rw [hy197]; with_reducible exact H2_) | (have H2_ := (Option.bind_some _ _).symm.trans H; with_reducible exact H2_) | with_reducible exact H | (rw [hy197]; exact H) | exact H
                      have Ny197 := Aside0.mk hy197
                      clear hy197
                      replace H := Option.bind_eq_some_iff.mp H
                      obtain ⟨t201, A260, H⟩ := H
                      replace H : (if (ji23) < (y194.length : Int) then ((some (y194.set ((ji23) : Int).toNat (IntKind.u64.wrap (t201)) : List Int)).bind fun y202 => ((redo_Decode.f y202 a1).bind fun bt203 => ((lockfastref12_Decode.f kj16 y202 a1).bind fun bt207 => (if t181 = true then (if (bt203.2 == bt207.2) = true then ((lockfastref12_Same.f kj16 bt203.1 bt207.1).bind fun t211 => (some t211)) else (some false)) else (some false))))) else (none)) = some r := H
                      have A26 := Aside0.mk A260
                      clear A260
                      by_cases c27 : (ji23) < (y194.length : Int)
                      · rw [if_pos c27] at H
                        have c27b0 : decide ((ji23) < (y194.length : Int)) = true := decide_eq_true c27
                        clear c27
                        obtain ⟨y202, hy202⟩ : ∃ y_ : List Int, y_ = (y194.set ((ji23) : Int).toNat (IntKind.u64.wrap (t201))) := ⟨_, rfl⟩
                        replace H : ((redo_Decode.f y202 a1).bind fun bt203 => ((lockfastref12_Decode.f kj16 y202 a1).bind fun bt207 => (if t181 = true then (if (bt203.2 == bt207.2) = true then ((lockfastref12_Same.f kj16 bt203.1 bt207.1).bind fun t211 => (some t211)) else (some false)) else (some false)))) = some r := by first | (rw [hy202]; with_reducible exact H) | (have H2_ := (Option.bind_some _ _).symm.trans H; rw [hy202]; with_reducible exact H2_) | (have H2_ := (Option.bind_some _ _).symm.trans H; with_reducible exact H2_) | with_reducible exact H | (rw [hy202]; exact H) | exact H
                        have Ny202 := Aside0.mk hy202
                        clear hy202
                        replace H := Option.bind_eq_some_iff.mp H
                        obtain ⟨⟨t203, t204⟩, A290, H⟩ := H
                        replace H : ((lockfastref12_Decode.f kj16 y202 a1).bind fun bt207 => (if t181 = true then (if (t204 == bt207.2) = true then ((lockfastref12_Same.f kj16 t203 bt207.1).bind fun t211 => (some t211)) else (some false)) else (some false))) = some r := H
                        have A29 := Aside0.mk A290
                        clear A290
                        replace H := Option.bind_eq_some_iff.mp H
                        obtain ⟨⟨t207, t208⟩, A300, H⟩ := H
                        replace H : (if t181 = true then (if (t204 == t208) = true then ((lockfastref12_Same.f kj16 t203 t207).bind fun t211 => (some t211)) else (some false)) else (some false)) = some r := H
                        have A30 := Aside0.mk A300
                        clear A300
                        by_cases c31 : t181 = true
                        · subst c31
                          have H1 : (if (t204 == t208) = true then ((lockfastref12_Same.f kj16 t203 t207).bind fun t211 => (some t211)) else (some false)) = some r := by rw [if_pos rfl] at H; exact H
                          clear H
                          have H := H1
                          clear H1
                          by_cases c32 : (t204 == t208) = true
                          · rw [if_pos c32] at H
                            have c32b0 : (t204 == t208) = true := c32
                            (try (have c32b1 : decide (t204 = t208) = true := by simpa using c32))
                            (try (have c32b2 : (t204 == t208) = true := by simpa using c32))
                            clear c32
                            replace H := Option.bind_eq_some_iff.mp H
                            obtain ⟨t211, A330, H⟩ := H
                            replace H : (some t211) = some r := H
                            have A33 := Aside0.mk A330
                            clear A330
                            obtain rfl := Option.some.inj H
                            simp only [Option.some.injEq, Prod.mk.injEq] at H
                            obtain ⟨rfl⟩ := H
                            go_wp2_with (first | ((with_reducible refine gate_dst (N := 60) rfl ?_); (try (refine gate_guard (by rfl) ?_; dsimp only)); refine Kd.R_lit (Kd.int .u64) _ 33 ?hg (N := 60) ?hd (xs := ([] : List Int)) (inner := []) (ok := fun _ => True) (okp := fun _ => True) ?hr ?hp (fun _ hk => hk) trivial (Below.refl _ _) (Nat.le_refl _) (by simp) ?_; (case hd => rfl); (case hg => rfl); (case hr => first | (go_simp; done) | (go_simp; rfl)); (case hp => exact (Reps.none _ _)); intro v192 w34 ho35 hb hg_ hnew_; clear hg_ hnew_; (first | rw [← Ny191.out] at ho35 | (simp only [Int.reduceToNat] at ho35; rw [← Ny191.out] at ho35)); have n0_ := Aside0.mk (Kd.R_lower ho35 (below_size (by repeat (first | (with_reducible first | exact HB.out | apply below_alloc | apply pw_below_drewN | apply below_drew1) | exact HB.out)))); have n1_ := Aside0.mk (below_step (by repeat (first | (with_reducible first | exact HB.out | apply below_alloc | apply pw_below_drewN | apply below_drew1) | exact HB.out)) hb); clear HB; have HO193 := n0_; have HB := n1_; clear n0_ n1_; clear hb ho35) | ((with_reducible refine gate_builtin (b := .append) (xs := #[.tmp 60, .tmp 61]) rfl ?_); (try (refine gate_guard (by rfl) ?_; dsimp only)); at_builtin; refine Kd.R_append_rows (Kd.int .u64) (w0 := w) w.heap.size rfl (.tmp 60) (.tmp 61) 24 33 (.int .u64 0) 8 rfl Try.underlying24 info33 rfl (by decide) (by omega) v192 y191 l0 _ _ _ (fun _ => True) (fun _ => False) rfl rfl ?aO ?aR (fun _ _ h => h) (fun _ h => h.elim) ?aF ?aB ?aS ?aL ?_; (case aR => repeat (first | exact (Kd.C_below HR0.out HB.out) | (with_reducible refine Kd.C_alloc ?_ _) | (with_reducible refine Kd.C_drewN ?_ _) | (with_reducible refine Kd.C_drew ?_))); (case aB => exact (by repeat (first | (with_reducible first | exact HB.out | apply below_alloc | apply pw_below_drewN | apply below_drew1) | exact HB.out))); (case aF => exact (fun _ _ => trivial)); (case aO => exact (by (with_reducible repeat (first | apply Kd.R_alloc | apply Kd.R_drewN | apply Kd.R_drew)); exact HO193.out)); (case aS => exact (below_size (by repeat (first | (with_reducible first | exact HB.out | apply below_alloc | apply pw_below_drewN | apply below_drew1) | exact HB.out)))); (case aL => have := LMc22.out; omega); intro v195 w36 ho hb hg hat; rw [← Ny194.out] at ho; have n0_ := Aside0.mk (hb); have n1_ := Aside0.mk (ho); clear HB; clear HO193; have HB := n0_; have HO196 := n1_; clear n0_ n1_; clear ho hb hg hat; obtain ⟨Ao38, co38, eo38⟩ := Kd.R_slice HO196.out; subst eo38; have q37 : ((ji23) : Int) ≤ ((y194.length : Int) : Int) := of_decide_eq_true (by first | (with_reducible assumption) | assumption); obtain ⟨i037, hi037, _, hsz37, _⟩ := info_parts info33; have hroom37 : y194.length ≤ co38 := (Kd.R_reads' HO196.out).2.1; have hC37 : Kd.C (Kd.int .u64) _ Ao38 y194.length y194 := (Kd.R_reads' HO196.out).2.2; have hcut37 := cut_to (P := Try.prog) 24 33 .i64 Try.underlying24 hi037 Ao38 y194.length co38 (ji23) (of_decide_eq_true (by first | (with_reducible assumption) | assumption)) q37 hroom37; have hr37 := Kd.C_take (m := ((ji23) : Int).toNat) hC37 (by omega); have hy37 : y197.length = ((ji23) : Int).toNat := (by rw [Ny197.out, List.length_take]; omega); rw [← Ny197.out] at hr37; rw [← hy37] at hcut37; have HR200 := Aside0.mk hr37; have HC200 := Aside0.mk (show y197.length ≤ co38 from by omega); clear hr37 hC37 hroom37 hi037 hsz37; have KY37 := Aside0.mk hy37; clear hy37; have KL37 := Aside0.mk (show ((ji23) : Int).toNat ≤ y194.length from by omega); replace q37 := eq_true q37) | ((with_reducible refine gate_callee (f := 17) rfl ?_); refine goesL_ (some 70) rfl rfl Try.func17 (by kernel_rfl) rfl #[.slice Ao38 y197.length co38] rfl (by (try simp only [List.map_toArray, List.map_cons, List.map_nil]); first | done | rfl | (simp only [List.length_drop, List.length_take]; rfl)) ?_; (with_reducible refine (lockfastref02_Of.calls kj16 _ _ y197 t201 _ ?side1 ?side2 A26.out).mono ?_); (case side1 => repeat (first | exact (by repeat (first | (with_reducible exact HR200.out) | (with_reducible refine Kd.C_alloc ?_ _) | (with_reducible refine Kd.C_drewN ?_ _) | (with_reducible refine Kd.C_drew ?_) | exact HR200.out)) | (with_reducible refine Kd.C_alloc ?_ _) | (with_reducible refine Kd.C_drewN ?_ _) | (with_reducible refine Kd.C_drew ?_))); (case side2 => exact HC200.out); rintro e w' ⟨rfl, ⟨nd, rfl⟩⟩; refine ⟨_, rfl, ?_⟩; (try (rw [drewN_self w36]; generalize hq_ : World.drewN w36 _ = w36; have n0_ : Aside0 (Kd.R (Kd.int .u64) 33 w36 w.heap.size (fun _ => True) (.slice Ao38 y194.length co38) y194) := ⟨by rw [← hq_]; exact (by (with_reducible repeat (first | apply Kd.R_alloc | apply Kd.R_drewN | apply Kd.R_drew)); exact HO196.out)⟩; have n1_ : Aside0 (Below w.heap.size w w36) := ⟨by rw [← hq_]; exact (by repeat (first | (with_reducible first | exact HB.out | apply below_alloc | apply pw_below_drewN | apply below_drew1) | exact HB.out))⟩; have n2_ : Aside0 (Kd.C (Kd.int .u64) w36 Ao38 y197.length y197) := ⟨by rw [← hq_]; exact (by repeat (first | (with_reducible exact HR200.out) | (with_reducible refine Kd.C_alloc ?_ _) | (with_reducible refine Kd.C_drewN ?_ _) | (with_reducible refine Kd.C_drew ?_) | exact HR200.out))⟩; clear HO196 HB HR200 hq_; have HO196 := n0_; have HB := n1_; have HR200 := n2_; clear n0_ n1_ n2_)); have p28 : 0 ≤ ((ji23) : Int) := of_decide_eq_true (by first | (with_reducible assumption) | assumption); have q28 : ((ji23) : Int) < ((y194.length : Int) : Int) := of_decide_eq_true (by first | (with_reducible assumption) | assumption); obtain ⟨go28, co28, eo28, gb28, gl28, cl28, HG28⟩ := Kd.R_form HO196.out (by omega); (first | cases eo28 | (injection eo28 with ea_ en_ ec_; (first | subst ea_ | (injection ea_ with ea_; subst ea_)); subst ec_; clear en_)); have GB28 := Aside0.mk gb28; have GG28 := Aside0.mk HG28; clear gb28 gl28 HG28; obtain ⟨hx28_0, hf28_0⟩ := Kd.R_celln 0 HO196.out ((ji23) : Int) p28 q28; replace p28 := eq_true p28; replace q28 := eq_true q28; obtain ⟨hy39_, hz39_⟩ := Kd.R_celln 0 HO196.out ((ji23) : Int) (of_decide_eq_true (by first | (with_reducible assumption) | assumption)) (of_decide_eq_true (by first | (with_reducible assumption) | assumption)); have HP39 := Kd.R_putg HO196.out ((ji23) : Int) (IntKind.u64.wrap (t201))) | ((with_reducible refine gate_store (t := 33) (p := 72) rfl ?_); refine store_event (t := 33) (p := 72) (v := ?vo_w40) (w1 := (w36.setCell ⟨go28, ((ji23) : Int).toNat, none⟩ (.int .u64 (IntKind.u64.wrap (t201))))) ?hg ?ho ?hn ?hr ?_; (case ho => rfl); (case hg => rfl); (case hn => rfl); (case hr => first | (go_simp; done) | (go_simp; rfl)); intro w40 hw; have hg : w36.grownBy w40 (some go28) := (by rw [hw]; exact HP39.2); have hp_ : Kd.R (Kd.int .u64) 33 w40 w.heap.size (fun _ => True) (.slice (some ⟨go28, 0, none⟩) y194.length co38) y202 := (by rw [hw, Ny202.out]; exact HP39.1); clear HP39; have n0_ := Aside0.mk (hp_); have n1_ := Aside0.mk ((by rw [hw]; exact below_set (HB.out) GB28.out : Below w.heap.size w w40)); clear HO196; clear HB; have HO196 := n0_; have HB := n1_; clear n0_ n1_; clear hg hw hp_) | ((with_reducible refine gate_callee (f := 14) rfl ?_); refine goesL_ (some 76) rfl rfl Try.func14 (by kernel_rfl) rfl #[.slice (some ⟨go28, 0, none⟩) y202.length co38, .int .i64 a1] rfl (by (try simp only [List.map_toArray, List.map_cons, List.map_nil]); first | done | (rw [show y202.length = y194.length from (Kd.R_reads' HO196.out).1.symm] <;> rfl) | rfl | (simp only [List.length_drop, List.length_take]; rfl)) ?_; (with_reducible refine (redo_Decode.calls _ _ y202 a1 t203 t204 _ ?side1 ?side2 A29.out).mono ?_); (case side1 => repeat (first | exact (Kd.R_reads' HO196.out).2.2 | (with_reducible refine Kd.C_alloc ?_ _) | (with_reducible refine Kd.C_drewN ?_ _) | (with_reducible refine Kd.C_drew ?_))); (case side2 => rw [show y202.length = y194.length from (Kd.R_reads' HO196.out).1.symm]; exact (Kd.R_reads' HO196.out).2.1); rintro e w41 ⟨v205, rfl, ho0, hb⟩; refine ⟨_, rfl, ?_⟩; have n0_ := Aside0.mk (Kd.R_below (by (with_reducible repeat (first | apply Kd.R_alloc | apply Kd.R_drewN | apply Kd.R_drew)); exact HO196.out) hb); have n1_ := Aside0.mk (Kd.R_lower ho0 (below_size (by repeat (first | (with_reducible first | exact HB.out | apply below_alloc | apply pw_below_drewN | apply below_drew1) | exact HB.out)))); have n2_ := Aside0.mk (below_step (by repeat (first | (with_reducible first | exact HB.out | apply below_alloc | apply pw_below_drewN | apply below_drew1) | exact HB.out)) hb); clear HO196; clear HB; have HO196 := n0_; have HO206 := n1_; have HB := n2_; clear n0_ n1_ n2_; (try clear hb); (try clear hb2); (try clear hk); (try clear hi); (try clear ho0)) | ((with_reducible refine gate_callee (f := 15) rfl ?_); refine goesL_ (some 82) rfl rfl Try.func15 (by kernel_rfl) rfl #[.slice (some ⟨go28, 0, none⟩) y202.length co38, .int .i64 a1] rfl (by (try simp only [List.map_toArray, List.map_cons, List.map_nil]); first | done | (rw [show y202.length = y194.length from (Kd.R_reads' HO196.out).1.symm] <;> rfl) | rfl | (simp only [List.length_drop, List.length_take]; rfl)) ?_; (with_reducible refine (lockfastref12_Decode.calls kj16 _ _ y202 a1 t207 t208 _ ?side1 ?side2 A30.out).mono ?_); (case side1 => repeat (first | exact (Kd.R_reads' HO196.out).2.2 | (with_reducible refine Kd.C_alloc ?_ _) | (with_reducible refine Kd.C_drewN ?_ _) | (with_reducible refine Kd.C_drew ?_))); (case side2 => rw [show y202.length = y194.length from (Kd.R_reads' HO196.out).1.symm]; exact (Kd.R_reads' HO196.out).2.1); rintro e w42 ⟨v209, rfl, ho0, hb⟩; refine ⟨_, rfl, ?_⟩; have n0_ := Aside0.mk (Kd.R_below (by (with_reducible repeat (first | apply Kd.R_alloc | apply Kd.R_drewN | apply Kd.R_drew)); exact HO196.out) hb); have n1_ := Aside0.mk (Kd.R_elder' (by (with_reducible repeat (first | apply Kd.R_alloc | apply Kd.R_drewN | apply Kd.R_drew)); exact HO206.out) (Kd.R_base ho0) hb); have n2_ := Aside0.mk (Kd.R_lower (Kd.R_new' ho0 (Kd.R_lt (by (with_reducible repeat (first | apply Kd.R_alloc | apply Kd.R_drewN | apply Kd.R_drew)); exact HO206.out))) (below_size (by repeat (first | (with_reducible first | exact HB.out | apply below_alloc | apply pw_below_drewN | apply below_drew1) | exact HB.out)))); have n3_ := Aside0.mk (below_step (by repeat (first | (with_reducible first | exact HB.out | apply below_alloc | apply pw_below_drewN | apply below_drew1) | exact HB.out)) hb); clear HO196; clear HO206; clear HB; have HO196 := n0_; have HO206 := n1_; have HO210 := n2_; have HB := n3_; clear n0_ n1_ n2_ n3_; (try clear hb); (try clear hb2); (try clear hk); (try clear hi); (try clear ho0); obtain ⟨Ao43, co43, eo43⟩ := Kd.R_slice HO206.out; subst eo43; obtain ⟨Ao44, co44, eo44⟩ := Kd.R_slice HO210.out; subst eo44) | (go_at_call 16; (with_reducible refine (lockfastref12_Same.calls kj16 _ _ t203 _ _ t207 t211 _ ?side1 ?side2 ?side3 ?side4 A33.out).mono ?_); (case side1 => repeat (first | exact (Kd.R_reads' HO206.out).2.2 | (with_reducible refine Kd.C_alloc ?_ _) | (with_reducible refine Kd.C_drewN ?_ _) | (with_reducible refine Kd.C_drew ?_))); (case side2 => exact (Kd.R_reads' HO206.out).2.1); (case side3 => repeat (first | exact (Kd.R_reads' HO210.out).2.2 | (with_reducible refine Kd.C_alloc ?_ _) | (with_reducible refine Kd.C_drewN ?_ _) | (with_reducible refine Kd.C_drew ?_))); (case side4 => exact (Kd.R_reads' HO210.out).2.1); rintro e w' ⟨rfl, ⟨nd, rfl⟩⟩))
                            go_ret
                            exact ⟨by first | rfl | (simp [errW_none, errW_some] <;> rfl) | (simp only [← hji23]; first | rfl | (simp [errW_none, errW_some] <;> rfl)) | (simp [*, errW_none, errW_some] <;> rfl), by repeat (first | (with_reducible first | exact HB.out | apply below_alloc | apply pw_below_drewN | apply below_drew1) | exact HB.out)⟩
                          · rw [if_neg c32] at H
                            have c32b0 : (t204 == t208) = false := by simpa using c32
                            (try (have c32b1 : decide (t204 = t208) = false := by simpa using c32))
                            (try (have c32b2 : (t204 == t208) = false := by simpa using c32))
                            (try (have c32b3 : ¬ (t204 = t208) := by simpa using c32))
                            clear c32
                            obtain rfl := Option.some.inj H
                            exact absurd HRT.out (by decide)
                        · replace c31 := Bool.eq_false_iff.mpr c31
                          subst c31
                          have H1 : (some false) = some r := by rw [if_neg (show ¬ (false = true) by decide)] at H; exact H
                          clear H
                          have H := H1
                          clear H1
                          obtain rfl := Option.some.inj H
                          exact absurd HRT.out (by decide)
                      · rw [if_neg c27] at H
                        exact absurd H (by simp)
                    · rw [if_neg c25] at H
                      exact absurd H (by simp)
                  · rw [if_neg c24] at H
                    exact absurd H (by simp)
                · rw [if_neg c22] at H
                  exact absurd H (by simp)

/-- THE ONE PURE STATEMENT of lockfastlaw12_RedoDecodes: yours. -/
def lockfastlaw12_RedoDecodes.Pure : Prop := ∀ (l0 : List Int) (a1 : Int), l0.length ≤ maxLen → l0.length * 8 ≤ 140737488351232 → (∀ x ∈ l0, (Lit.int .u64 x).wf = true) → (Lit.int .i64 a1).wf = true → ∃ k, lockfastlaw12_RedoDecodes.f k l0 a1 = some true
theorem lockfastlaw12_RedoDecodes.walk (P : lockfastlaw12_RedoDecodes.Pure) (a0 : Option Addr) (len0 cap0 : Nat) (z0 : List Int) (a1 : Int) (w : World) (w0 : (a0 = none ∧ len0 = 0 ∧ cap0 = 0 ∧ z0 = []) ∨ ∃ x, a0 = some x ∧ len0 ≤ cap0 ∧ cap0 ≤ maxLen ∧ z0.length = cap0 ∧ (∀ i, i < z0.length → w.cell? (x.add i) = some (.int .u64 (z0.getD i 0))) ∧ ∀ n ∈ z0, (Lit.int .u64 n).wf = true) (y0 : len0 * 8 ≤ 140737488351232) (w1 : (Lit.int .i64 a1).wf = true) :
    Calls Try.prog 4 #[.slice a0 len0 cap0, .int .i64 a1] w fun e w' => e = .returned (.bool true) ∧ Below w.heap.size w w' := by
  obtain ⟨l0, rfl, hr0, hm0, hw0, hc0⟩ := ReadsInt.ofRowC w0
  obtain ⟨k, h⟩ := P l0 a1 hm0 y0 hw0 w1
  refine (lockfastlaw12_RedoDecodes.calls k _ _ l0 a1 true w rfl (Kd.C_of_reads (d := (0 : Int)) (h1 := fun _ => rfl) hr0) hc0 h).mono ?_
  rintro e w' ⟨rfl, hd⟩
  exact ⟨rfl, hd⟩

end Go.Proofs.Ytnoclgnlmkpkbaa.PRedoDecodes
