-- WRITTEN FOR THIS CLAIM by given.py, a program of this session's: the kit's printer, run with contracts of the session's own. It is not a text of print.sh's.
import Derived.Test.YtinbediigibolaaPUndoBurstsx0
import Derived.Test.YtinbediigibolaaPUndoBurstsx1
import Derived.Test.YtinbediigibolaaPUndoBurstsx4
import Derived.Test.YtinbediigibolaaPUndoBurstsx5
namespace Go.Proofs.Ytinbediigibolaa.PUndoBursts
open Go.RowKit Go.Proofs.YtinbediigibolaaW.PrintWords Go.Proofs.YtinbediigibolaaW.PrintLast Go.Proofs.YtinbediigibolaaW.PrintMore
attribute [local go_sem] max2_int min2_int max_two min_two max_three min_three max_four min_four   -- for this text's walks alone
set_option linter.unusedVariables false
set_option linter.unusedSimpArgs false
open Go.Proofs.YtinbediigibolaaX

/-! ### lockfastlaw13_UndoBursts: function 6 -/
mutual
def lockfastlaw13_UndoBursts.l0 : Nat → Int → Int → Bool → List Int → List Int → Int → Int → Int → Int → List Int → Option (Bool)
  | 0, _, _, _, _, _, _, _, _, _, _ => none
  | k + 1, x0, x3, x9, x10, x12, x13, x14, x15, x139000, x139001 => if x15 < 32 then (lockfastlaw13_UndoBursts.j1 k x0 x3 x9 x10 x12 x13 x14 x15 (decide ((wrap64 (x14 + x15)) < x13)) x139000 x139001) else (lockfastlaw13_UndoBursts.j1 k x0 x3 x9 x10 x12 x13 x14 x15 false x139000 x139001)
def lockfastlaw13_UndoBursts.j1 : Nat → Int → Int → Bool → List Int → List Int → Int → Int → Int → Bool → Int → List Int → Option (Bool)
  | 0, _, _, _, _, _, _, _, _, _, _, _ => none
  | k + 1, x0, x3, x9, x10, x12, x13, x14, x15, x55, x139000, x139001 => if x55 = true then (if 0 ≤ x15 then (if (Go.bits .and .u32 (shr .u32 x3 x15) 1) = 1 then (if 0 ≤ (wrap64 (1 + (wrap64 (Int.tdiv (wrap64 (x14 + x15)) 64)))) then (if (wrap64 (1 + (wrap64 (Int.tdiv (wrap64 (x14 + x15)) 64)))) < (x12.length : Int) then (if 0 ≤ (Int.tmod (wrap64 (x14 + x15)) 64) then (lockfastlaw13_UndoBursts.l0 k x0 x3 x9 x10 (x12.set ((wrap64 (1 + (wrap64 (Int.tdiv (wrap64 (x14 + x15)) 64)))) : Int).toNat (Go.bits .xor .u64 (rd x12 (wrap64 (1 + (wrap64 (Int.tdiv (wrap64 (x14 + x15)) 64))))) (shl .u64 1 (Int.tmod (wrap64 (x14 + x15)) 64)))) x13 x14 (wrap64 (x15 + 1)) x139000 x139001) else (none)) else (none)) else (none)) else (lockfastlaw13_UndoBursts.l0 k x0 x3 x9 x10 x12 x13 x14 (wrap64 (x15 + 1)) x139000 x139001)) else (none)) else ((undo_Decode.f x0 x12).bind fun bt152 => ((lockfastref01_Words.f k x10 x12).bind fun t156 => (if x9 = true then (if (bt152.2 == t156) = true then (if bt152.2 = true then ((lockfastref13_Same.f k bt152.1 (([(⟨x139000, x139001⟩ : S25)] : List (S25)))).bind fun t160 => (some t160)) else (some true)) else (some false)) else (some false))))
end
def lockfastlaw13_UndoBursts.f (k : Nat) (a0 : Int) (a1_0 : Int) (l1_1 : List Int) (a2 : Int) (a3 : Int) : Option (Bool) := (lockfastlaw13_awake.f).bind fun t139 => (if (l1_1.length : Int) > 20 then (some t139) else ((undo_Encode.f a0 a1_0 l1_1).bind fun bt140 => (if bt140.2 = 0 then ((some (([] : List Int) : List Int)).bind fun y144 => (if y144.length + bt140.1.length < 17592186044416 then (if (wrap64 (64 * (wrap64 ((bt140.1.length : Int) - 1)))) < 64 then (some false) else (if (wrap64 (64 * (wrap64 ((bt140.1.length : Int) - 1)))) = 0 then (none) else (lockfastlaw13_UndoBursts.l0 k a0 a3 t139 bt140.1 (y144 ++ bt140.1) (wrap64 (64 * (wrap64 ((bt140.1.length : Int) - 1)))) (Int.tmod (wrap64 (a2)) (wrap64 (64 * (wrap64 ((bt140.1.length : Int) - 1))))) 0 a1_0 l1_1))) else (none))) else (some t139))))
theorem lockfastlaw13_UndoBursts.mono_l : ∀ k, (∀ y0 y1 y2 y3 y4 y5 y6 y7 y8 y9, LeO (lockfastlaw13_UndoBursts.l0 k y0 y1 y2 y3 y4 y5 y6 y7 y8 y9) (lockfastlaw13_UndoBursts.l0 (k + 1) y0 y1 y2 y3 y4 y5 y6 y7 y8 y9)) ∧ (∀ y0 y1 y2 y3 y4 y5 y6 y7 y8 y9 y10, LeO (lockfastlaw13_UndoBursts.j1 k y0 y1 y2 y3 y4 y5 y6 y7 y8 y9 y10) (lockfastlaw13_UndoBursts.j1 (k + 1) y0 y1 y2 y3 y4 y5 y6 y7 y8 y9 y10))
  | 0 => ⟨fun _ _ _ _ _ _ _ _ _ _ r h => by simp [lockfastlaw13_UndoBursts.l0] at h, fun _ _ _ _ _ _ _ _ _ _ _ r h => by simp [lockfastlaw13_UndoBursts.j1] at h⟩
  | k + 1 => by
    obtain ⟨ih0, ih1⟩ := lockfastlaw13_UndoBursts.mono_l k
    refine ⟨?_, ?_⟩
    · intro y0 y1 y2 y3 y4 y5 y6 y7 y8 y9
      unfold lockfastlaw13_UndoBursts.l0
      repeat' first
      | (with_reducible exact ih0 _ _ _ _ _ _ _ _ _ _)
      | (with_reducible exact ih1 _ _ _ _ _ _ _ _ _ _ _)
      | (with_reducible exact lockfastref01_Words.mono _ _ _)
      | (with_reducible exact lockfastref13_Same.mono _ _ _)
      | (with_reducible exact LeO.refl _)
      | (with_reducible exact LeO.none _)
      | (with_reducible refine LeO.ite ?_ ?_)
      | (with_reducible refine LeO.bind ?_ (fun _ => ?_))
      | exact ih0 _ _ _ _ _ _ _ _ _ _
      | exact ih1 _ _ _ _ _ _ _ _ _ _ _
      | exact lockfastref01_Words.mono _ _ _
      | exact lockfastref13_Same.mono _ _ _
      | exact LeO.none _
      | refine LeO.ite ?_ ?_
      | refine LeO.bind ?_ (fun _ => ?_)
    · intro y0 y1 y2 y3 y4 y5 y6 y7 y8 y9 y10
      unfold lockfastlaw13_UndoBursts.j1
      repeat' first
      | (with_reducible exact ih0 _ _ _ _ _ _ _ _ _ _)
      | (with_reducible exact ih1 _ _ _ _ _ _ _ _ _ _ _)
      | (with_reducible exact lockfastref01_Words.mono _ _ _)
      | (with_reducible exact lockfastref13_Same.mono _ _ _)
      | (with_reducible exact LeO.refl _)
      | (with_reducible exact LeO.none _)
      | (with_reducible refine LeO.ite ?_ ?_)
      | (with_reducible refine LeO.bind ?_ (fun _ => ?_))
      | exact ih0 _ _ _ _ _ _ _ _ _ _
      | exact ih1 _ _ _ _ _ _ _ _ _ _ _
      | exact lockfastref01_Words.mono _ _ _
      | exact lockfastref13_Same.mono _ _ _
      | exact LeO.none _
      | refine LeO.ite ?_ ?_
      | refine LeO.bind ?_ (fun _ => ?_)
theorem lockfastlaw13_UndoBursts.mono : ∀ a0 a1 a2 a3 a4 k, LeO (lockfastlaw13_UndoBursts.f k a0 a1 a2 a3 a4) (lockfastlaw13_UndoBursts.f (k + 1) a0 a1 a2 a3 a4) := by
  intro a0 a1 a2 a3 a4 k
  obtain ⟨ih0, ih1⟩ := lockfastlaw13_UndoBursts.mono_l k
  unfold lockfastlaw13_UndoBursts.f
  repeat' first
      | (with_reducible exact ih0 _ _ _ _ _ _ _ _ _ _)
      | (with_reducible exact ih1 _ _ _ _ _ _ _ _ _ _ _)
      | (with_reducible exact lockfastref01_Words.mono _ _ _)
      | (with_reducible exact lockfastref13_Same.mono _ _ _)
      | (with_reducible exact LeO.refl _)
      | (with_reducible exact LeO.none _)
      | (with_reducible refine LeO.ite ?_ ?_)
      | (with_reducible refine LeO.bind ?_ (fun _ => ?_))
      | exact ih0 _ _ _ _ _ _ _ _ _ _
      | exact ih1 _ _ _ _ _ _ _ _ _ _ _
      | exact lockfastref01_Words.mono _ _ _
      | exact lockfastref13_Same.mono _ _ _
      | exact LeO.none _
      | refine LeO.ite ?_ ?_
      | refine LeO.bind ?_ (fun _ => ?_)
def lockfastlaw13_UndoBursts.T16 : Bool × List (List Nat × List Nat) := (true, [([], []), ([], []), ([], []), ([1, 2], [1, 2]), ([3], [3]), ([4], [4]), ([], []), ([], []), ([], []), ([7, 8], [7, 8]), ([9], [9]), ([10], [10]), ([6, 11], [6, 11]), ([12], [12]), ([], []), ([], []), ([14, 15], [14, 15]), ([16], [16]), ([17], [17]), ([13, 18], [13, 18]), ([0, 5, 0, 1, 2, 3, 4, 5, 6, 7, 8, 9, 10, 11, 12, 13, 14, 15, 16, 17, 18, 19], [0, 5]), ([20, 19, 0, 1, 2, 3, 4, 5, 6, 7, 8, 9, 10, 11, 12, 13, 14, 15, 16, 17, 18, 19], [19, 20])])
def lockfastlaw13_UndoBursts.B16 : List Nat := [0, 0, 0, 6, 14, 30, 0, 0, 0, 384, 896, 1920, 4032, 8128, 0, 0, 49152, 114688, 245760, 524224, 1048575, 2097151]
theorem lockfastlaw13_UndoBursts.tab16 : rtab .any (opsOf Try.f6 16) = lockfastlaw13_UndoBursts.T16 := by kernel_rfl
theorem lockfastlaw13_UndoBursts.bits16 : waitsOk lockfastlaw13_UndoBursts.T16.2 lockfastlaw13_UndoBursts.B16 = true := by kernel_rfl
set_option maxHeartbeats 8000000 in
set_option maxRecDepth 100000 in
theorem lockfastlaw13_UndoBursts.calls (k : Nat) (a0 : Int) (a1_0 : Int) (P1_1_ : Nat → Prop) (A1_1 : Option Addr) (c1_1 : Nat) (l1_1 : List Int) (a2 : Int) (a3 : Int) (r : Bool) (w : World) (hrt : r = true) (hs1_1 : Kd.V (Kd.int .u64) 22 w w.heap.size (fun k_ => P1_1_ k_) (.slice A1_1 l1_1.length c1_1) l1_1) (h : lockfastlaw13_UndoBursts.f k a0 a1_0 l1_1 a2 a3 = some r) :
    Calls Try.prog 6 #[.int .u64 a0, .agg #[.int .i64 a1_0, .slice A1_1 l1_1.length c1_1], .int .u16 a2, .int .u32 a3] w fun e w' => e = .returned (.bool r) ∧ Below w.heap.size w w' := by
  have hu25 := Try.underlying25
  have HO1_1 := Aside0.mk (show Kd.V (Kd.int .u64) 22 w w.heap.size (fun k_ => (P1_1_ k_ ∨ w.heap.size ≤ k_)) (.slice A1_1 l1_1.length c1_1) l1_1 from Kd.V_mono hs1_1 (fun k_ hk => .inl hk))
  have HB := Aside0.mk (Below.refl w.heap.size w)
  have H : ((lockfastlaw13_awake.f).bind fun t139 => (if (l1_1.length : Int) > 20 then (some t139) else ((undo_Encode.f a0 a1_0 l1_1).bind fun bt140 => (if bt140.2 = 0 then ((some (([] : List Int) : List Int)).bind fun y144 => (if y144.length + bt140.1.length < 17592186044416 then (if (wrap64 (64 * (wrap64 ((bt140.1.length : Int) - 1)))) < 64 then (some false) else (if (wrap64 (64 * (wrap64 ((bt140.1.length : Int) - 1)))) = 0 then (none) else (lockfastlaw13_UndoBursts.l0 k a0 a3 t139 bt140.1 (y144 ++ bt140.1) (wrap64 (64 * (wrap64 ((bt140.1.length : Int) - 1)))) (Int.tmod (wrap64 (a2)) (wrap64 (64 * (wrap64 ((bt140.1.length : Int) - 1))))) 0 a1_0 l1_1))) else (none))) else (some t139))))) = some r := h
  clear h
  have HRT := Aside0.mk hrt
  clear hrt
  replace H := Option.bind_eq_some_iff.mp H
  obtain ⟨t139, A50, H⟩ := H
  replace H : (if (l1_1.length : Int) > 20 then (some t139) else ((undo_Encode.f a0 a1_0 l1_1).bind fun bt140 => (if bt140.2 = 0 then ((some (([] : List Int) : List Int)).bind fun y144 => (if y144.length + bt140.1.length < 17592186044416 then (if (wrap64 (64 * (wrap64 ((bt140.1.length : Int) - 1)))) < 64 then (some false) else (if (wrap64 (64 * (wrap64 ((bt140.1.length : Int) - 1)))) = 0 then (none) else (lockfastlaw13_UndoBursts.l0 k a0 a3 t139 bt140.1 (y144 ++ bt140.1) (wrap64 (64 * (wrap64 ((bt140.1.length : Int) - 1)))) (Int.tmod (wrap64 (a2)) (wrap64 (64 * (wrap64 ((bt140.1.length : Int) - 1))))) 0 a1_0 l1_1))) else (none))) else (some t139)))) = some r := H
  have A5 := Aside0.mk A50
  clear A50
  by_cases c6 : (l1_1.length : Int) > 20
  · rw [if_pos c6] at H
    have c6b0 : decide (20 < (l1_1.length : Int)) = true := decide_eq_true c6
    have c6b1 : decide (20 < l1_1.length) = true := decide_eq_true (by omega)
    clear c6
    obtain rfl := Option.some.inj H
    simp only [Option.some.injEq, Prod.mk.injEq] at H
    obtain ⟨rfl⟩ := H
    go_enter Try.func6, Try.ntmps6
    go_wp2_with (first | ((with_reducible refine gate_dst (N := 5) rfl ?_); (try (refine gate_guard (by rfl) ?_; dsimp only)); refine box_event ?hg (N := 5) ?hd (cs := #[.int .i64 a1_0, .slice A1_1 l1_1.length c1_1]) (t := 25) ?hr ?_; (case hd => rfl); (case hg => rfl); (case hr => first | (go_simp; done) | (go_simp; rfl)); intro gb138 hg w7 hbox hb; have n0_ := Aside0.mk (Kd.V_below (Kd.V_elderB (by (with_reducible repeat (first | apply Kd.V_alloc | apply Kd.V_drewN | apply Kd.V_drew)); exact HO1_1.out) gb138 (Nat.le_of_eq hg.symm)) hb); have n1_ := Aside0.mk (below_step (by repeat (first | (with_reducible first | exact HB.out | apply below_alloc | apply pw_below_drewN | apply below_drew1) | exact HB.out)) hb); have n2_ := Aside0.mk (hbox); have n3_ := Aside0.mk ((by rw [hg]; exact (below_size (by repeat (first | (with_reducible first | exact HB.out | apply below_alloc | apply pw_below_drewN | apply below_drew1) | exact HB.out))) : w.heap.size ≤ gb138)); have n4_ := Aside0.mk ((by rw [hg]; exact (below_size (by repeat (first | (with_reducible first | exact HB.out | apply below_alloc | apply pw_below_drewN | apply below_drew1) | exact HB.out))) : w.heap.size ≤ gb138)); clear HO1_1; clear HB; have HO1_1 := n0_; have HB := n1_; have BK138 := n2_; have GW138 := n3_; have GE138 := n4_; clear n0_ n1_ n2_ n3_ n4_; clear hb hbox hg) | ((with_reducible refine gate_callee (f := 10) rfl ?_); refine goesL_ (some 19) rfl rfl Try.func10 (by kernel_rfl) rfl #[] rfl (by (try simp only [List.map_toArray, List.map_cons, List.map_nil]); first | done | rfl | (simp only [List.length_drop, List.length_take]; rfl)) ?_; (with_reducible refine (lockfastlaw13_awake.calls  t139 _ A5.out).mono ?_); rintro e w8 ⟨rfl, hb⟩; refine ⟨_, rfl, ?_⟩; have n0_ := Aside0.mk (Kd.V_below (by (with_reducible repeat (first | apply Kd.V_alloc | apply Kd.V_drewN | apply Kd.V_drew)); exact HO1_1.out) hb); have n1_ := Aside0.mk (blk_below (g := gb138) (o := .cells #[.int .i64 a1_0, .slice A1_1 l1_1.length c1_1] 25 (0, 0)) (by (with_reducible repeat (first | refine blk_drewN ?_ _ | refine blk_drew ?_ | refine blk_alloc ?_ _)); exact BK138.out) hb); have n2_ := Aside0.mk (below_step (by repeat (first | (with_reducible first | exact HB.out | apply below_alloc | apply pw_below_drewN | apply below_drew1 | refine below_set ?_ GE138.out) | exact HB.out)) hb); clear HO1_1; clear BK138; clear HB; have HO1_1 := n0_; have BK138 := n1_; have HB := n2_; clear n0_ n1_ n2_; (try clear hb); (try clear hb2); (try clear hk); (try clear hi); have hcz9_0 : w8.cell? ⟨gb138, 0, none⟩ = some (.int .i64 a1_0) := (blk_cell BK138.out 0).trans rfl; have hcz9_1 : w8.cell? ⟨gb138, 1, none⟩ = some (.slice A1_1 l1_1.length c1_1) := (blk_cell BK138.out 1).trans rfl; have hfz9_0 := blk_frozen BK138.out 0; have hfz9_1 := blk_frozen BK138.out 1))
    go_ret
    exact ⟨by first | rfl | (simp [errW_none, errW_some] <;> rfl) | (simp [*, errW_none, errW_some] <;> rfl), by repeat (first | (with_reducible first | exact HB.out | apply below_alloc | apply pw_below_drewN | apply below_drew1 | refine below_set ?_ GE138.out) | exact HB.out)⟩
  · rw [if_neg c6] at H
    have c6b0 : decide (20 < (l1_1.length : Int)) = false := decide_eq_false c6
    have c6b1 : decide (20 < l1_1.length) = false := decide_eq_false (by omega)
    clear c6
    replace H := Option.bind_eq_some_iff.mp H
    obtain ⟨⟨t140, t143⟩, A100, H⟩ := H
    replace H : (if t143 = 0 then ((some (([] : List Int) : List Int)).bind fun y144 => (if y144.length + t140.length < 17592186044416 then (if (wrap64 (64 * (wrap64 ((t140.length : Int) - 1)))) < 64 then (some false) else (if (wrap64 (64 * (wrap64 ((t140.length : Int) - 1)))) = 0 then (none) else (lockfastlaw13_UndoBursts.l0 k a0 a3 t139 t140 (y144 ++ t140) (wrap64 (64 * (wrap64 ((t140.length : Int) - 1)))) (Int.tmod (wrap64 (a2)) (wrap64 (64 * (wrap64 ((t140.length : Int) - 1))))) 0 a1_0 l1_1))) else (none))) else (some t139)) = some r := H
    have A10 := Aside0.mk A100
    clear A100
    by_cases c11 : t143 = 0
    · rw [if_pos c11] at H
      have c11b0 : (t143 == 0) = true := beq_iff_eq.mpr c11
      have c11b1 : (t143 != 0) = false := bne_eq_false_iff_eq.mpr c11
      clear c11
      obtain ⟨y144, hy144⟩ : ∃ y_ : List Int, y_ = (([] : List Int)) := ⟨_, rfl⟩
      replace H : (if y144.length + t140.length < 17592186044416 then (if (wrap64 (64 * (wrap64 ((t140.length : Int) - 1)))) < 64 then (some false) else (if (wrap64 (64 * (wrap64 ((t140.length : Int) - 1)))) = 0 then (none) else (lockfastlaw13_UndoBursts.l0 k a0 a3 t139 t140 (y144 ++ t140) (wrap64 (64 * (wrap64 ((t140.length : Int) - 1)))) (Int.tmod (wrap64 (a2)) (wrap64 (64 * (wrap64 ((t140.length : Int) - 1))))) 0 a1_0 l1_1))) else (none)) = some r := by first | (rw [hy144]; with_reducible exact H) | (have H2_ := (Option.bind_some _ _).symm.trans H; rw [hy144]; with_reducible exact H2_) | (have H2_ := (Option.bind_some _ _).symm.trans H; with_reducible exact H2_) | with_reducible exact H | (rw [hy144]; exact H) | exact H
      have Ny144 := Aside0.mk hy144
      clear hy144
      by_cases c12 : y144.length + t140.length < 17592186044416
      · rw [if_pos c12] at H
        have LMc12 := Aside0.mk c12
        clear c12
        obtain ⟨y147, hy147⟩ : ∃ y_ : List Int, y_ = (y144 ++ t140) := ⟨_, rfl⟩
        replace H : (if (wrap64 (64 * (wrap64 ((t140.length : Int) - 1)))) < 64 then (some false) else (if (wrap64 (64 * (wrap64 ((t140.length : Int) - 1)))) = 0 then (none) else (lockfastlaw13_UndoBursts.l0 k a0 a3 t139 t140 y147 (wrap64 (64 * (wrap64 ((t140.length : Int) - 1)))) (Int.tmod (wrap64 (a2)) (wrap64 (64 * (wrap64 ((t140.length : Int) - 1))))) 0 a1_0 l1_1))) = some r := by first | (rw [hy147]; with_reducible exact H) | (have H2_ := (Option.bind_some _ _).symm.trans H; rw [hy147]; with_reducible exact H2_) | (have H2_ := (Option.bind_some _ _).symm.trans H; with_reducible exact H2_) | with_reducible exact H | (rw [hy147]; exact H) | exact H
        have Ny147 := Aside0.mk hy147
        clear hy147
        by_cases c13 : (wrap64 (64 * (wrap64 ((t140.length : Int) - 1)))) < 64
        · rw [if_pos c13] at H
          have c13b0 : decide ((wrap64 (64 * (wrap64 ((t140.length : Int) - 1)))) < 64) = true := decide_eq_true c13
          clear c13
          obtain rfl := Option.some.inj H
          exact absurd HRT.out (by decide)
        · rw [if_neg c13] at H
          have c13b0 : decide ((wrap64 (64 * (wrap64 ((t140.length : Int) - 1)))) < 64) = false := decide_eq_false c13
          clear c13
          by_cases c14 : (wrap64 (64 * (wrap64 ((t140.length : Int) - 1)))) = 0
          · rw [if_pos c14] at H
            exact absurd H (by simp)
          · rw [if_neg c14] at H
            have c14b0 : ((wrap64 (64 * (wrap64 ((t140.length : Int) - 1)))) == 0) = false := beq_eq_false_iff_ne.mpr c14
            have c14b1 : ((wrap64 (64 * (wrap64 ((t140.length : Int) - 1)))) != 0) = true := bne_iff_ne.mpr c14
            have H' := Aside0.mk H
            clear H
            go_enter Try.func6, Try.ntmps6
            go_wp2_with (first | ((with_reducible refine gate_dst (N := 5) rfl ?_); (try (refine gate_guard (by rfl) ?_; dsimp only)); refine box_event ?hg (N := 5) ?hd (cs := #[.int .i64 a1_0, .slice A1_1 l1_1.length c1_1]) (t := 25) ?hr ?_; (case hd => rfl); (case hg => rfl); (case hr => first | (go_simp; done) | (go_simp; rfl)); intro gb138 hg w15 hbox hb; have n0_ := Aside0.mk (Kd.V_below (Kd.V_elderB (by (with_reducible repeat (first | apply Kd.V_alloc | apply Kd.V_drewN | apply Kd.V_drew)); exact HO1_1.out) gb138 (Nat.le_of_eq hg.symm)) hb); have n1_ := Aside0.mk (below_step (by repeat (first | (with_reducible first | exact HB.out | apply below_alloc | apply pw_below_drewN | apply below_drew1) | exact HB.out)) hb); have n2_ := Aside0.mk (hbox); have n3_ := Aside0.mk ((by rw [hg]; exact (below_size (by repeat (first | (with_reducible first | exact HB.out | apply below_alloc | apply pw_below_drewN | apply below_drew1) | exact HB.out))) : w.heap.size ≤ gb138)); have n4_ := Aside0.mk ((by rw [hg]; exact (below_size (by repeat (first | (with_reducible first | exact HB.out | apply below_alloc | apply pw_below_drewN | apply below_drew1) | exact HB.out))) : w.heap.size ≤ gb138)); clear HO1_1; clear HB; have HO1_1 := n0_; have HB := n1_; have BK138 := n2_; have GW138 := n3_; have GE138 := n4_; clear n0_ n1_ n2_ n3_ n4_; clear hb hbox hg) | ((with_reducible refine gate_callee (f := 10) rfl ?_); refine goesL_ (some 19) rfl rfl Try.func10 (by kernel_rfl) rfl #[] rfl (by (try simp only [List.map_toArray, List.map_cons, List.map_nil]); first | done | rfl | (simp only [List.length_drop, List.length_take]; rfl)) ?_; (with_reducible refine (lockfastlaw13_awake.calls  t139 _ A5.out).mono ?_); rintro e w16 ⟨rfl, hb⟩; refine ⟨_, rfl, ?_⟩; have n0_ := Aside0.mk (Kd.V_below (by (with_reducible repeat (first | apply Kd.V_alloc | apply Kd.V_drewN | apply Kd.V_drew)); exact HO1_1.out) hb); have n1_ := Aside0.mk (blk_below (g := gb138) (o := .cells #[.int .i64 a1_0, .slice A1_1 l1_1.length c1_1] 25 (0, 0)) (by (with_reducible repeat (first | refine blk_drewN ?_ _ | refine blk_drew ?_ | refine blk_alloc ?_ _)); exact BK138.out) hb); have n2_ := Aside0.mk (below_step (by repeat (first | (with_reducible first | exact HB.out | apply below_alloc | apply pw_below_drewN | apply below_drew1 | refine below_set ?_ GE138.out) | exact HB.out)) hb); clear HO1_1; clear BK138; clear HB; have HO1_1 := n0_; have BK138 := n1_; have HB := n2_; clear n0_ n1_ n2_; (try clear hb); (try clear hb2); (try clear hk); (try clear hi); have hcz17_0 : w16.cell? ⟨gb138, 0, none⟩ = some (.int .i64 a1_0) := (blk_cell BK138.out 0).trans rfl; have hcz17_1 : w16.cell? ⟨gb138, 1, none⟩ = some (.slice A1_1 l1_1.length c1_1) := (blk_cell BK138.out 1).trans rfl; have hfz17_0 := blk_frozen BK138.out 0; have hfz17_1 := blk_frozen BK138.out 1) | ((with_reducible refine gate_callee (f := 11) rfl ?_); refine goesL_ (some 28) rfl rfl Try.func11 (by kernel_rfl) rfl #[.int .u64 a0, .agg #[.int .i64 a1_0, .slice A1_1 l1_1.length c1_1]] rfl (by (try simp only [List.map_toArray, List.map_cons, List.map_nil]); first | done | rfl | (simp only [List.length_drop, List.length_take]; rfl)) ?_; (with_reducible refine (undo_Encode.calls a0 a1_0 _ _ l1_1 t140 t143 _ ?side1 ?side2 A10.out).mono ?_); (case side1 => repeat (first | exact (Kd.V_reads' HO1_1.out).2.2 | (with_reducible refine Kd.C_alloc ?_ _) | (with_reducible refine Kd.C_drewN ?_ _) | (with_reducible refine Kd.C_drew ?_))); (case side2 => exact (Kd.V_reads' HO1_1.out).2.1); rintro e w18 ⟨v141, rfl, ho0, hb⟩; refine ⟨_, rfl, ?_⟩; have n0_ := Aside0.mk (Kd.V_elder' (by (with_reducible repeat (first | apply Kd.V_alloc | apply Kd.V_drewN | apply Kd.V_drew)); exact HO1_1.out) (Kd.R_base ho0) hb); have n1_ := Aside0.mk (Kd.R_lower (Kd.R_newM (M := fun k_ => (w.heap.size ≤ k_)) ho0 (below_size (by repeat (first | (with_reducible first | exact HB.out | apply below_alloc | apply pw_below_drewN | apply below_drew1 | refine below_set ?_ GE138.out) | exact HB.out))) (fun k_ h_ => h_)) (below_size (by repeat (first | (with_reducible first | exact HB.out | apply below_alloc | apply pw_below_drewN | apply below_drew1 | refine below_set ?_ GE138.out) | exact HB.out)))); have n2_ := Aside0.mk (blk_below (g := gb138) (o := .cells #[.int .i64 a1_0, .slice A1_1 l1_1.length c1_1] 25 (0, 0)) (by (with_reducible repeat (first | refine blk_drewN ?_ _ | refine blk_drew ?_ | refine blk_alloc ?_ _)); exact BK138.out) hb); have n3_ := Aside0.mk (below_step (by repeat (first | (with_reducible first | exact HB.out | apply below_alloc | apply pw_below_drewN | apply below_drew1 | refine below_set ?_ GE138.out) | exact HB.out)) hb); clear HO1_1; clear BK138; clear HB; have HO1_1 := n0_; have HO142 := n1_; have BK138 := n2_; have HB := n3_; clear n0_ n1_ n2_ n3_; (try clear hb); (try clear hb2); (try clear hk); (try clear hi); (try clear ho0)) | ((with_reducible refine gate_dst (N := 34) rfl ?_); (try (refine gate_guard (by rfl) ?_; dsimp only)); refine Kd.R_lit (Kd.int .u64) _ 22 ?hg (N := 34) ?hd (xs := ([] : List Int)) (inner := []) (ok := fun _ => True) (okp := fun _ => True) ?hr ?hp (fun _ hk => hk) trivial (Below.refl _ _) (Nat.le_refl _) (by simp) ?_; (case hd => rfl); (case hg => rfl); (case hr => first | (go_simp; done) | (go_simp; rfl)); (case hp => exact (Reps.none _ _)); intro v145 w19 ho20 hb hg_ hnew_; clear hg_ hnew_; (first | rw [← Ny144.out] at ho20 | (simp only [Int.reduceToNat] at ho20; rw [← Ny144.out] at ho20)); have n0_ := Aside0.mk (Kd.V_elder' (by (with_reducible repeat (first | apply Kd.V_alloc | apply Kd.V_drewN | apply Kd.V_drew)); exact HO1_1.out) (Kd.R_base ho20) hb); have n1_ := Aside0.mk (Kd.R_elder' (by (with_reducible repeat (first | apply Kd.R_alloc | apply Kd.R_drewN | apply Kd.R_drew)); exact HO142.out) (Kd.R_base ho20) hb); have n2_ := Aside0.mk (Kd.R_lower (Kd.R_new' (Kd.R_newM (M := fun k_ => (w.heap.size ≤ k_)) ho20 (below_size (by repeat (first | (with_reducible first | exact HB.out | apply below_alloc | apply pw_below_drewN | apply below_drew1 | refine below_set ?_ GE138.out) | exact HB.out))) (fun k_ h_ => h_)) (Kd.R_lt (by (with_reducible repeat (first | apply Kd.R_alloc | apply Kd.R_drewN | apply Kd.R_drew)); exact HO142.out))) (below_size (by repeat (first | (with_reducible first | exact HB.out | apply below_alloc | apply pw_below_drewN | apply below_drew1 | refine below_set ?_ GE138.out) | exact HB.out)))); have n3_ := Aside0.mk (blk_below (g := gb138) (o := .cells #[.int .i64 a1_0, .slice A1_1 l1_1.length c1_1] 25 (0, 0)) (by (with_reducible repeat (first | refine blk_drewN ?_ _ | refine blk_drew ?_ | refine blk_alloc ?_ _)); exact BK138.out) hb); have n4_ := Aside0.mk (below_step (by repeat (first | (with_reducible first | exact HB.out | apply below_alloc | apply pw_below_drewN | apply below_drew1 | refine below_set ?_ GE138.out) | exact HB.out)) hb); clear HO1_1; clear HO142; clear BK138; clear HB; have HO1_1 := n0_; have HO142 := n1_; have HO146 := n2_; have BK138 := n3_; have HB := n4_; clear n0_ n1_ n2_ n3_ n4_; clear hb ho20; obtain ⟨Ao22, co22, eo22⟩ := Kd.R_slice HO142.out; subst eo22) | ((with_reducible refine gate_builtin (b := .append) (xs := #[.tmp 34, .tmp 35]) rfl ?_); (try (refine gate_guard (by rfl) ?_; dsimp only)); at_builtin; refine Kd.R_append_rows (Kd.int .u64) (w0 := w) w.heap.size rfl (.tmp 34) (.tmp 35) 23 22 (.int .u64 0) 8 rfl Try.underlying23 info22 rfl (by decide) (by omega) v145 y144 t140 _ _ _ (fun k_ => (w.heap.size ≤ k_) ∧ some k_ ≠ (.slice Ao22 t140.length co22 : Value).ownBlock) (fun _ => False) rfl rfl ?aO ?aR (fun _ _ h => h) (fun _ h => h.elim) ?aF ?aB ?aS ?aL ?_; (case aR => repeat (first | exact (Kd.R_reads' HO142.out).2.2 | (with_reducible refine Kd.C_alloc ?_ _) | (with_reducible refine Kd.C_drewN ?_ _) | (with_reducible refine Kd.C_drew ?_))); (case aB => exact (by repeat (first | (with_reducible first | exact HB.out | apply below_alloc | apply pw_below_drewN | apply below_drew1 | refine below_set ?_ GE138.out) | exact HB.out))); (case aF => exact (fun k_ hk => ⟨(Nat.le_trans (below_size (by repeat (first | (with_reducible first | exact HB.out | apply below_alloc | apply pw_below_drewN | apply below_drew1 | refine below_set ?_ GE138.out) | exact HB.out))) hk), Kd.fresh' (Kd.R_lt (by (with_reducible repeat (first | apply Kd.R_alloc | apply Kd.R_drewN | apply Kd.R_drew)); exact HO142.out)) k_ hk⟩)); (case aO => exact (by (with_reducible repeat (first | apply Kd.R_alloc | apply Kd.R_drewN | apply Kd.R_drew)); exact Kd.R_mono HO146.out (fun _ hk => ⟨hk.1.1, hk.2⟩))); (case aS => exact (below_size (by repeat (first | (with_reducible first | exact HB.out | apply below_alloc | apply pw_below_drewN | apply below_drew1 | refine below_set ?_ GE138.out) | exact HB.out)))); (case aL => have := LMc12.out; omega); intro v148 w21 ho hb hg hat; rw [← Ny147.out] at ho; have n0_ := Aside0.mk (Kd.V_afterv (ok := (fun k_ => (P1_1_ k_ ∨ w.heap.size ≤ k_) ∧ some k_ ≠ (.slice Ao22 t140.length co22 : Value).ownBlock ∧ k_ ≠ gb138)) (by (with_reducible repeat (first | apply Kd.V_alloc | apply Kd.V_drewN | apply Kd.V_drew)); exact Kd.V_mono HO1_1.out (fun _ hk => ⟨⟨hk.1.1.1, ⟨hk.1.2, hk.1.1.2⟩⟩, hk.2⟩)) hg hat); have n1_ := Aside0.mk (blk_grown (g := gb138) (o := .cells #[.int .i64 a1_0, .slice A1_1 l1_1.length c1_1] 25 (0, 0)) (by (with_reducible repeat (first | refine blk_drewN ?_ _ | refine blk_drew ?_ | refine blk_alloc ?_ _)); exact BK138.out) hg (Kd.R_ne HO146.out BK138.out (by decide))); have n2_ := Aside0.mk (Kd.R_after (ok := (fun k_ => (w.heap.size ≤ k_))) (by (with_reducible repeat (first | apply Kd.R_alloc | apply Kd.R_drewN | apply Kd.R_drew)); exact Kd.R_mono HO142.out (fun _ hk => ⟨hk.1.1, hk.2⟩)) hg hat); have n3_ := Aside0.mk (hb); have n4_ := Aside0.mk (ho); clear HO1_1; clear BK138; clear HO142; clear HB; clear HO146; have HO1_1 := n0_; have BK138 := n1_; have HO142 := n2_; have HB := n3_; have HO149 := n4_; clear n0_ n1_ n2_ n3_ n4_; clear ho hb hg hat))
            go_loopg [15] k (fun kq v15 w' => ∃ (x12_1 : List Int) (x15_1 : Int), v15 = .int .i64 x15_1 ∧ Aside0 (lockfastlaw13_UndoBursts.l0 kq a0 a3 t139 t140 x12_1 (wrap64 (64 * (wrap64 ((t140.length : Int) - 1)))) (Int.tmod (wrap64 (a2)) (wrap64 (64 * (wrap64 ((t140.length : Int) - 1))))) x15_1 a1_0 l1_1 = some r) ∧ Aside0 (kq ≤ k) ∧ Aside0 (Kd.R (Kd.int .u64) 22 w' w.heap.size (fun k_ => (w.heap.size ≤ k_) ∧ some k_ ≠ (v148 : Value).ownBlock) (.slice Ao22 t140.length co22) t140) ∧ Aside0 (Kd.R (Kd.int .u64) 22 w' w.heap.size (fun k_ => (w.heap.size ≤ k_) ∧ some k_ ≠ ((.slice Ao22 t140.length co22) : Value).ownBlock) v148 x12_1) ∧ Aside0 (Kd.V (Kd.int .u64) 22 w' w.heap.size (fun k_ => (P1_1_ k_ ∨ w.heap.size ≤ k_) ∧ some k_ ≠ ((.slice Ao22 t140.length co22) : Value).ownBlock ∧ some k_ ≠ (v148 : Value).ownBlock ∧ k_ ≠ gb138) (.slice A1_1 l1_1.length c1_1) l1_1) ∧ Aside0 (w'.heap[gb138]? = some (.cells #[.int .i64 a1_0, (.slice A1_1 l1_1.length c1_1)] 25 (0, 0))) ∧ Aside0 (Below w.heap.size w w'))
            case atStart => exact ⟨(y147), (0), (by first | rfl | (simp; done) | (simp [*]; done)), H', ⟨Nat.le_refl _⟩, ⟨by (with_reducible repeat (first | apply Kd.R_alloc | apply Kd.R_drewN | apply Kd.R_drew)); exact HO142.out⟩, ⟨by (with_reducible repeat (first | apply Kd.R_alloc | apply Kd.R_drewN | apply Kd.R_drew)); exact HO149.out⟩, ⟨by (with_reducible repeat (first | apply Kd.V_alloc | apply Kd.V_drewN | apply Kd.V_drew)); exact Kd.V_mono HO1_1.out (fun _ hk => ⟨hk.1.1, ⟨hk.1.2.1, ⟨hk.2, hk.1.2.2⟩⟩⟩)⟩, ⟨by (with_reducible repeat (first | refine blk_drewN ?_ _ | refine blk_drew ?_ | refine blk_alloc ?_ _)); exact BK138.out⟩, ⟨by repeat (first | (with_reducible first | exact HB.out | apply below_alloc | apply pw_below_drewN | apply below_drew1 | refine below_set ?_ GE138.out) | exact HB.out)⟩⟩
            case round =>
              clear H'
              try clear c1
              try clear p2
              try clear c6
              try clear c6b0
              try clear c6b1
              try clear p6
              try clear c10
              try clear c11
              try clear c11b0
              try clear c11b1
              try clear c12
              try clear c13
              try clear c13b0
              try clear c14
              try clear c14b0
              try clear c14b1
              try clear hcz17_0
              try clear hcz17_1
              try clear hcz9_0
              try clear hcz9_1
              try clear hfz17_0
              try clear hfz17_1
              try clear hfz9_0
              try clear hfz9_1
              obtain ⟨x12_1, x15_1, rfl, HA, HK1, HO_10, HO_12, HO_139001, BK138, HB⟩ := hrel
              cases gk with
              | zero => exact absurd HA.out (by simp [lockfastlaw13_UndoBursts.l0])
              | succ k1 =>
                have H := HA.out
                clear HA
                simp only [lockfastlaw13_UndoBursts.l0] at H
                have HC23 := Aside0.mk H
                clear H
                go_upto_region 13 with (fail)
                go_cut [55] (fun v55 wc => ∃ (kq : Nat) (x55_22 : Bool), v55 = .bool x55_22 ∧ Aside0 (lockfastlaw13_UndoBursts.j1 kq a0 a3 t139 t140 x12_1 (wrap64 (64 * (wrap64 ((t140.length : Int) - 1)))) (Int.tmod (wrap64 (a2)) (wrap64 (64 * (wrap64 ((t140.length : Int) - 1))))) x15_1 x55_22 a1_0 l1_1 = some r) ∧ Aside0 (kq ≤ k1) ∧ Aside0 (Kd.R (Kd.int .u64) 22 wc w.heap.size (fun k_ => (w.heap.size ≤ k_) ∧ some k_ ≠ (v148 : Value).ownBlock) (.slice Ao22 t140.length co22) t140) ∧ Aside0 (Kd.R (Kd.int .u64) 22 wc w.heap.size (fun k_ => (w.heap.size ≤ k_) ∧ some k_ ≠ ((.slice Ao22 t140.length co22) : Value).ownBlock) v148 x12_1) ∧ Aside0 (Kd.V (Kd.int .u64) 22 wc w.heap.size (fun k_ => (P1_1_ k_ ∨ w.heap.size ≤ k_) ∧ some k_ ≠ ((.slice Ao22 t140.length co22) : Value).ownBlock ∧ some k_ ≠ (v148 : Value).ownBlock ∧ k_ ≠ gb138) (.slice A1_1 l1_1.length c1_1) l1_1) ∧ Aside0 (wc.heap[gb138]? = some (.cells #[.int .i64 a1_0, (.slice A1_1 l1_1.length c1_1)] 25 (0, 0))) ∧ Aside0 (Below w.heap.size w wc))
                case first =>
                  have H := HC23.out
                  clear HC23
                  by_cases c24 : x15_1 < 32
                  · rw [if_pos c24] at H
                    have c24b0 : decide (x15_1 < 32) = true := decide_eq_true c24
                    clear c24
                    (first | rw [c24b0] | (simp only [i64_w, i32_w]; rw [c24b0]) | skip)
                    have H' := Aside0.mk H
                    clear H
                    go_wp2
                    go_meet
                    case rel => exact ⟨_, (decide ((wrap64 ((Int.tmod (wrap64 (a2)) (wrap64 (64 * (wrap64 ((t140.length : Int) - 1))))) + x15_1)) < (wrap64 (64 * (wrap64 ((t140.length : Int) - 1)))))), (by first | rfl | (simp; done) | (simp [*]; done)), (by first | exact H' | (subst_vars; exact H')), ⟨by have := HK1.out; first | omega | exact Nat.le_refl _⟩, ⟨by (with_reducible repeat (first | apply Kd.R_alloc | apply Kd.R_drewN | apply Kd.R_drew)); exact HO_10.out⟩, ⟨by (with_reducible repeat (first | apply Kd.R_alloc | apply Kd.R_drewN | apply Kd.R_drew)); exact HO_12.out⟩, ⟨by (with_reducible repeat (first | apply Kd.V_alloc | apply Kd.V_drewN | apply Kd.V_drew)); exact HO_139001.out⟩, ⟨by (with_reducible repeat (first | refine blk_drewN ?_ _ | refine blk_drew ?_ | refine blk_alloc ?_ _)); exact BK138.out⟩, ⟨by repeat (first | (with_reducible first | exact HB.out | apply below_alloc | apply pw_below_drewN | apply below_drew1 | refine below_set ?_ GE138.out) | exact HB.out)⟩⟩
                  · rw [if_neg c24] at H
                    have c24b0 : decide (x15_1 < 32) = false := decide_eq_false c24
                    clear c24
                    (first | rw [c24b0] | (simp only [i64_w, i32_w]; rw [c24b0]) | skip)
                    have H' := Aside0.mk H
                    clear H
                    go_wp2
                    go_meet
                    case rel => exact ⟨_, (false), (by first | rfl | (simp; done) | (simp [*]; done)), (by first | exact H' | (subst_vars; exact H')), ⟨by have := HK1.out; first | omega | exact Nat.le_refl _⟩, ⟨by (with_reducible repeat (first | apply Kd.R_alloc | apply Kd.R_drewN | apply Kd.R_drew)); exact HO_10.out⟩, ⟨by (with_reducible repeat (first | apply Kd.R_alloc | apply Kd.R_drewN | apply Kd.R_drew)); exact HO_12.out⟩, ⟨by (with_reducible repeat (first | apply Kd.V_alloc | apply Kd.V_drewN | apply Kd.V_drew)); exact HO_139001.out⟩, ⟨by (with_reducible repeat (first | refine blk_drewN ?_ _ | refine blk_drew ?_ | refine blk_alloc ?_ _)); exact BK138.out⟩, ⟨by repeat (first | (with_reducible first | exact HB.out | apply below_alloc | apply pw_below_drewN | apply below_drew1 | refine below_set ?_ GE138.out) | exact HB.out)⟩⟩
                case rest =>
                  clear HC23
                  try clear c1
                  try clear c2
                  try clear p2
                  try clear c6
                  try clear c6b0
                  try clear c6b1
                  try clear p6
                  try clear c10
                  try clear c11
                  try clear c11b0
                  try clear c11b1
                  try clear c12
                  try clear c13
                  try clear c13b0
                  try clear c14
                  try clear c14b0
                  try clear c14b1
                  try clear c24
                  try clear c24b0
                  try clear hcz17_0
                  try clear hcz17_1
                  try clear hcz9_0
                  try clear hcz9_1
                  try clear hfz17_0
                  try clear hfz17_1
                  try clear hfz9_0
                  try clear hfz9_1
                  try clear p2
                  try clear p6
                  obtain ⟨kq, x55_22, rfl, HA, HJ22, HO_10, HO_12, HO_139001, BK138, HB⟩ := hcut
                  cases kq with
                  | zero => exact absurd HA.out (by simp [lockfastlaw13_UndoBursts.j1])
                  | succ kj22 =>
                    have H := HA.out
                    clear HA
                    simp only [lockfastlaw13_UndoBursts.j1] at H
                    by_cases c25 : x55_22 = true
                    · subst c25
                      have H1 : (if 0 ≤ x15_1 then (if (Go.bits .and .u32 (shr .u32 a3 x15_1) 1) = 1 then (if 0 ≤ (wrap64 (1 + (wrap64 (Int.tdiv (wrap64 ((Int.tmod (wrap64 (a2)) (wrap64 (64 * (wrap64 ((t140.length : Int) - 1))))) + x15_1)) 64)))) then (if (wrap64 (1 + (wrap64 (Int.tdiv (wrap64 ((Int.tmod (wrap64 (a2)) (wrap64 (64 * (wrap64 ((t140.length : Int) - 1))))) + x15_1)) 64)))) < (x12_1.length : Int) then (if 0 ≤ (Int.tmod (wrap64 ((Int.tmod (wrap64 (a2)) (wrap64 (64 * (wrap64 ((t140.length : Int) - 1))))) + x15_1)) 64) then (lockfastlaw13_UndoBursts.l0 kj22 a0 a3 t139 t140 (x12_1.set ((wrap64 (1 + (wrap64 (Int.tdiv (wrap64 ((Int.tmod (wrap64 (a2)) (wrap64 (64 * (wrap64 ((t140.length : Int) - 1))))) + x15_1)) 64)))) : Int).toNat (Go.bits .xor .u64 (rd x12_1 (wrap64 (1 + (wrap64 (Int.tdiv (wrap64 ((Int.tmod (wrap64 (a2)) (wrap64 (64 * (wrap64 ((t140.length : Int) - 1))))) + x15_1)) 64))))) (shl .u64 1 (Int.tmod (wrap64 ((Int.tmod (wrap64 (a2)) (wrap64 (64 * (wrap64 ((t140.length : Int) - 1))))) + x15_1)) 64)))) (wrap64 (64 * (wrap64 ((t140.length : Int) - 1)))) (Int.tmod (wrap64 (a2)) (wrap64 (64 * (wrap64 ((t140.length : Int) - 1))))) (wrap64 (x15_1 + 1)) a1_0 l1_1) else (none)) else (none)) else (none)) else (lockfastlaw13_UndoBursts.l0 kj22 a0 a3 t139 t140 x12_1 (wrap64 (64 * (wrap64 ((t140.length : Int) - 1)))) (Int.tmod (wrap64 (a2)) (wrap64 (64 * (wrap64 ((t140.length : Int) - 1))))) (wrap64 (x15_1 + 1)) a1_0 l1_1)) else (none)) = some r := by rw [if_pos rfl] at H; exact H
                      clear H
                      have H := H1
                      clear H1
                      by_cases c26 : 0 ≤ x15_1
                      · rw [if_pos c26] at H
                        have c26b0 := eq_true c26
                        have c26b1 : decide (0 ≤ x15_1) = true := decide_eq_true c26
                        clear c26
                        obtain ⟨ji27, hji27⟩ : ∃ j_ : Int, (shr .u32 a3 x15_1) = j_ := ⟨_, rfl⟩
                        replace H : (if (Go.bits .and .u32 (ji27) 1) = 1 then (if 0 ≤ (wrap64 (1 + (wrap64 (Int.tdiv (wrap64 ((Int.tmod (wrap64 (a2)) (wrap64 (64 * (wrap64 ((t140.length : Int) - 1))))) + x15_1)) 64)))) then (if (wrap64 (1 + (wrap64 (Int.tdiv (wrap64 ((Int.tmod (wrap64 (a2)) (wrap64 (64 * (wrap64 ((t140.length : Int) - 1))))) + x15_1)) 64)))) < (x12_1.length : Int) then (if 0 ≤ (Int.tmod (wrap64 ((Int.tmod (wrap64 (a2)) (wrap64 (64 * (wrap64 ((t140.length : Int) - 1))))) + x15_1)) 64) then (lockfastlaw13_UndoBursts.l0 kj22 a0 a3 t139 t140 (x12_1.set ((wrap64 (1 + (wrap64 (Int.tdiv (wrap64 ((Int.tmod (wrap64 (a2)) (wrap64 (64 * (wrap64 ((t140.length : Int) - 1))))) + x15_1)) 64)))) : Int).toNat (Go.bits .xor .u64 (rd x12_1 (wrap64 (1 + (wrap64 (Int.tdiv (wrap64 ((Int.tmod (wrap64 (a2)) (wrap64 (64 * (wrap64 ((t140.length : Int) - 1))))) + x15_1)) 64))))) (shl .u64 1 (Int.tmod (wrap64 ((Int.tmod (wrap64 (a2)) (wrap64 (64 * (wrap64 ((t140.length : Int) - 1))))) + x15_1)) 64)))) (wrap64 (64 * (wrap64 ((t140.length : Int) - 1)))) (Int.tmod (wrap64 (a2)) (wrap64 (64 * (wrap64 ((t140.length : Int) - 1))))) (wrap64 (x15_1 + 1)) a1_0 l1_1) else (none)) else (none)) else (none)) else (lockfastlaw13_UndoBursts.l0 kj22 a0 a3 t139 t140 x12_1 (wrap64 (64 * (wrap64 ((t140.length : Int) - 1)))) (Int.tmod (wrap64 (a2)) (wrap64 (64 * (wrap64 ((t140.length : Int) - 1))))) (wrap64 (x15_1 + 1)) a1_0 l1_1)) = some r := by first | (rw [hji27] at H; exact H) | (simp only [hji27] at H ⊢; exact H)
                        have hji27_ : (a3 / 2 ^ min x15_1.toNat 32) = ji27 := hji27
                        have hji27z : x15_1 ≤ 32 → (a3 / 2 ^ x15_1.toNat) = ji27 := shr_small hji27
                        by_cases c28 : (Go.bits .and .u32 (ji27) 1) = 1
                        · rw [if_pos c28] at H
                          have c28b0 : ((Go.bits .and .u32 (ji27) 1) == 1) = true := beq_iff_eq.mpr c28
                          have c28b1 : ((Go.bits .and .u32 (ji27) 1) != 1) = false := bne_eq_false_iff_eq.mpr c28
                          clear c28
                          obtain ⟨ji29, hji29⟩ : ∃ j_ : Int, (wrap64 (1 + (wrap64 (Int.tdiv (wrap64 ((Int.tmod (wrap64 (a2)) (wrap64 (64 * (wrap64 ((t140.length : Int) - 1))))) + x15_1)) 64)))) = j_ := ⟨_, rfl⟩
                          replace H : (if 0 ≤ (ji29) then (if (ji29) < (x12_1.length : Int) then (if 0 ≤ (Int.tmod (wrap64 ((Int.tmod (wrap64 (a2)) (wrap64 (64 * (wrap64 ((t140.length : Int) - 1))))) + x15_1)) 64) then (lockfastlaw13_UndoBursts.l0 kj22 a0 a3 t139 t140 (x12_1.set ((ji29) : Int).toNat (Go.bits .xor .u64 (rd x12_1 (ji29)) (shl .u64 1 (Int.tmod (wrap64 ((Int.tmod (wrap64 (a2)) (wrap64 (64 * (wrap64 ((t140.length : Int) - 1))))) + x15_1)) 64)))) (wrap64 (64 * (wrap64 ((t140.length : Int) - 1)))) (Int.tmod (wrap64 (a2)) (wrap64 (64 * (wrap64 ((t140.length : Int) - 1))))) (wrap64 (x15_1 + 1)) a1_0 l1_1) else (none)) else (none)) else (none)) = some r := by first | (rw [hji29] at H; exact H) | (simp only [hji29] at H ⊢; exact H)
                          have hji29w : (IntKind.i64.wrap (1 + (wrap64 (Int.tdiv (wrap64 ((Int.tmod (wrap64 (a2)) (wrap64 (64 * (wrap64 ((t140.length : Int) - 1))))) + x15_1)) 64)))) = ji29 := (i64_w _).trans hji29
                          by_cases c30 : 0 ≤ (ji29)
                          · rw [if_pos c30] at H
                            have c30b0 : decide (0 ≤ (ji29)) = true := decide_eq_true c30
                            clear c30
                            by_cases c31 : (ji29) < (x12_1.length : Int)
                            · rw [if_pos c31] at H
                              have c31b0 : decide ((ji29) < (x12_1.length : Int)) = true := decide_eq_true c31
                              clear c31
                              obtain ⟨ji32, hji32⟩ : ∃ j_ : Int, (Int.tmod (wrap64 ((Int.tmod (wrap64 (a2)) (wrap64 (64 * (wrap64 ((t140.length : Int) - 1))))) + x15_1)) 64) = j_ := ⟨_, rfl⟩
                              replace H : (if 0 ≤ (ji32) then (lockfastlaw13_UndoBursts.l0 kj22 a0 a3 t139 t140 (x12_1.set ((ji29) : Int).toNat (Go.bits .xor .u64 (rd x12_1 (ji29)) (shl .u64 1 (ji32)))) (wrap64 (64 * (wrap64 ((t140.length : Int) - 1)))) (Int.tmod (wrap64 (a2)) (wrap64 (64 * (wrap64 ((t140.length : Int) - 1))))) (wrap64 (x15_1 + 1)) a1_0 l1_1) else (none)) = some r := by first | (rw [hji32] at H; exact H) | (simp only [hji32] at H ⊢; exact H)
                              by_cases c33 : 0 ≤ (ji32)
                              · rw [if_pos c33] at H
                                have c33b0 := eq_true c33
                                have c33b1 : decide (0 ≤ (ji32)) = true := decide_eq_true c33
                                clear c33
                                obtain ⟨ji34, hji34⟩ : ∃ j_ : Int, (shl .u64 1 (ji32)) = j_ := ⟨_, rfl⟩
                                replace H : (lockfastlaw13_UndoBursts.l0 kj22 a0 a3 t139 t140 (x12_1.set ((ji29) : Int).toNat (Go.bits .xor .u64 (rd x12_1 (ji29)) (ji34))) (wrap64 (64 * (wrap64 ((t140.length : Int) - 1)))) (Int.tmod (wrap64 (a2)) (wrap64 (64 * (wrap64 ((t140.length : Int) - 1))))) (wrap64 (x15_1 + 1)) a1_0 l1_1) = some r := by first | (rw [hji34] at H; exact H) | (simp only [hji34] at H ⊢; exact H)
                                have hji34_ : (IntKind.u64.wrap (1 * 2 ^ min (ji32).toNat 64)) = ji34 := hji34
                                have hji34z : (ji32) ≤ 64 → (IntKind.u64.wrap (1 * 2 ^ (ji32).toNat)) = ji34 := shl_small hji34
                                have hji34u : (IntKind.u64.wrap (2 ^ min (ji32).toNat 64)) = ji34 := by have h_ := hji34_; rw [Int.one_mul] at h_; exact h_
                                have hji34v : (ji32) ≤ 64 → (IntKind.u64.wrap (2 ^ (ji32).toNat)) = ji34 := fun hle_ => by have h_ := hji34z hle_; rw [Int.one_mul] at h_; exact h_
                                obtain ⟨y151, hy151⟩ : ∃ y_ : List Int, y_ = (x12_1.set ((ji29) : Int).toNat (Go.bits .xor .u64 (rd x12_1 (ji29)) (ji34))) := ⟨_, rfl⟩
                                replace H : (lockfastlaw13_UndoBursts.l0 kj22 a0 a3 t139 t140 y151 (wrap64 (64 * (wrap64 ((t140.length : Int) - 1)))) (Int.tmod (wrap64 (a2)) (wrap64 (64 * (wrap64 ((t140.length : Int) - 1))))) (wrap64 (x15_1 + 1)) a1_0 l1_1) = some r := by first | (rw [hy151]; with_reducible exact H) | (have H2_ := (Option.bind_some _ _).symm.trans H; rw [hy151]; with_reducible exact H2_) | (have H2_ := (Option.bind_some _ _).symm.trans H; with_reducible exact H2_) | with_reducible exact H | (rw [hy151]; exact H) | exact H
                                have Ny151 := Aside0.mk hy151
                                clear hy151
                                have H' := Aside0.mk H
                                clear H
                                try go_wp2
                                have n0_ := Aside0.mk (Kd.R_drew HO_10.out)
                                have n1_ := Aside0.mk (Kd.R_drew HO_12.out)
                                have n2_ := Aside0.mk (Kd.V_drew HO_139001.out)
                                have n3_ := Aside0.mk (blk_drew BK138.out)
                                have n4_ := Aside0.mk (below_drew1 HB.out)
                                clear HO_10
                                clear HO_12
                                clear HO_139001
                                clear BK138
                                clear HB
                                have HO_10 := n0_
                                have HO_12 := n1_
                                have HO_139001 := n2_
                                have BK138 := n3_
                                have HB := n4_
                                clear n0_ n1_ n2_ n3_ n4_
                                obtain ⟨Ao37, co37, eo37⟩ := Kd.R_slice HO_12.out
                                (first | subst eo37 | (injection eo37 with f1_ f2_ f3_; have f4_ := f1_.symm; have f5_ := f3_.symm; clear f1_ f2_ f3_; subst f4_; subst f5_))
                                have p150 : 0 ≤ ((ji29) : Int) := of_decide_eq_true (by first | (with_reducible assumption) | assumption)
                                have q150 : (ji29) < (x12_1.length : Int) := of_decide_eq_true (by first | (with_reducible assumption) | assumption)
                                obtain ⟨ad150, e150, hx150_0⟩ := Kd.at_int (Kd.R_reads' HO_12.out).2.2 (ji29) p150 q150
                                cases e150
                                replace p150 := eq_true p150
                                replace q150 := eq_true q150
                                have p35 : 0 ≤ ((ji29) : Int) := of_decide_eq_true (by first | (with_reducible assumption) | assumption)
                                have q35 : ((ji29) : Int) < ((x12_1.length : Int) : Int) := of_decide_eq_true (by first | (with_reducible assumption) | assumption)
                                obtain ⟨go35, co35, eo35, gb35, gl35, cl35, HG35⟩ := Kd.R_form HO_12.out (by omega)
                                (first | cases eo35 | (injection eo35 with ea_ en_ ec_; (first | subst ea_ | (injection ea_ with ea_; subst ea_)); subst ec_; clear en_))
                                have GB35 := Aside0.mk gb35
                                have GG35 := Aside0.mk HG35
                                clear gb35 gl35 HG35
                                (first | simp only [add_plain] at hx150_0 | skip)
                                obtain ⟨hx35_0, hf35_0⟩ := Kd.R_celln 0 HO_12.out ((ji29) : Int) p35 q35
                                replace p35 := eq_true p35
                                replace q35 := eq_true q35
                                have HP38 := Kd.R_putn HO_12.out ((ji29) : Int) (Go.bits .xor .u64 (rd x12_1 (ji29)) (ji34))
                                rw [← Ny151.out] at HP38
                                have HQ38 := Aside0.mk HP38
                                clear HP38
                                refine start_ (n := 22) (S := fun w' => w'.cell? ⟨go35, ((ji29)).toNat, none⟩ = some (.int .u64 (rd x12_1 (ji29)))) (ds := [21]) #[false, false, false, false, false, false, false, false, false, false, false, false, false, false, false, false, false, false, false, false, false, false] (by kernel_rfl) rfl rfl (hx150_0) (fun hHeld => ?_); refine with_tabW lockfastlaw13_UndoBursts.tab16 lockfastlaw13_UndoBursts.bits16 (fun HT_ HW_ => ?_)
                                generalize wc.drew = w36 at HO_10 HO_12 HO_139001 BK138 HB GG35 HQ38 hf35_0 hx150_0 hx35_0 hHeld ⊢
                                refine pure_ (i := 0) (N := some 63) (v := ?_) (a' := ?_) #[true, false, false, false, false, false, false, false, false, false, false, false, false, false, false, false, false, false, false, false, false, false] rfl rfl (any_of HT_.out (by kernel_rfl)) (fun _ _ _ h => h) (Or.inl ⟨by rfl, ?_⟩) ?_ ?_
                                rotate_left
                                · intro w'
                                  go_simp
                                  with_reducible rfl
                                rotate_left
                                · simp only [Act.put, List.setIfInBounds_toArray, List.set_cons_zero, List.set_cons_succ, i64_w, i32_w]
                                  rfl
                                refine pure_ (i := 1) (N := some 64) (v := ?_) (a' := ?_) #[true, true, false, false, false, false, false, false, false, false, false, false, false, false, false, false, false, false, false, false, false, false] rfl rfl (any_of HT_.out (by kernel_rfl)) (fun _ _ _ h => h) (Or.inl ⟨by rfl, ?_⟩) ?_ ?_
                                rotate_left
                                · intro w'
                                  go_simp
                                  with_reducible rfl
                                rotate_left
                                · simp only [Act.put, List.setIfInBounds_toArray, List.set_cons_zero, List.set_cons_succ, i64_w, i32_w]
                                  rfl
                                refine pure_ (i := 2) (N := some 65) (v := ?_) (a' := ?_) #[true, true, true, false, false, false, false, false, false, false, false, false, false, false, false, false, false, false, false, false, false, false] rfl rfl (any_of HT_.out (by kernel_rfl)) (fun _ _ _ h => h) (Or.inl ⟨by rfl, ?_⟩) ?_ ?_
                                rotate_left
                                · intro w'
                                  go_simp
                                  with_reducible rfl
                                rotate_left
                                · simp only [Act.put, List.setIfInBounds_toArray, List.set_cons_zero, List.set_cons_succ, i64_w, i32_w]
                                  rfl
                                refine pure_ (i := 3) (N := some 66) (v := ?_) (a' := ?_) #[true, true, true, true, false, false, false, false, false, false, false, false, false, false, false, false, false, false, false, false, false, false] rfl rfl (any_of HT_.out (by kernel_rfl)) (fun _ _ _ h => h) (Or.inl ⟨by rfl, ?_⟩) ?_ ?_
                                rotate_left
                                · intro w'
                                  go_simp
                                  with_reducible rfl
                                rotate_left
                                · simp only [Act.put, List.setIfInBounds_toArray, List.set_cons_zero, List.set_cons_succ, i64_w, i32_w]
                                  rfl
                                refine pure_ (i := 4) (N := some 67) (v := ?_) (a' := ?_) #[true, true, true, true, true, false, false, false, false, false, false, false, false, false, false, false, false, false, false, false, false, false] rfl rfl (any_of HT_.out (by kernel_rfl)) (fun _ _ _ h => h) (Or.inl ⟨by rfl, ?_⟩) ?_ ?_
                                rotate_left
                                · intro w'
                                  go_simp
                                  with_reducible rfl
                                rotate_left
                                · simp only [Act.put, List.setIfInBounds_toArray, List.set_cons_zero, List.set_cons_succ, i64_w, i32_w]
                                  rfl
                                refine pure_ (i := 5) (N := some 68) (v := ?_) (a' := ?_) #[true, true, true, true, true, true, false, false, false, false, false, false, false, false, false, false, false, false, false, false, false, false] rfl rfl (any_of HT_.out (by kernel_rfl)) (fun _ _ _ h => h) (Or.inl ⟨by rfl, ?_⟩) ?_ ?_
                                rotate_left
                                · intro w'
                                  go_simp
                                  with_reducible rfl
                                rotate_left
                                · simp only [Act.put, List.setIfInBounds_toArray, List.set_cons_zero, List.set_cons_succ, i64_w, i32_w]
                                  rfl
                                refine pure_ (i := 6) (N := some 69) (v := ?_) (a' := ?_) #[true, true, true, true, true, true, true, false, false, false, false, false, false, false, false, false, false, false, false, false, false, false] rfl rfl (any_of HT_.out (by kernel_rfl)) (fun _ _ _ h => h) (Or.inl ⟨by rfl, ?_⟩) ?_ ?_
                                rotate_left
                                · intro w'
                                  go_simp
                                  with_reducible rfl
                                rotate_left
                                · simp only [Act.put, List.setIfInBounds_toArray, List.set_cons_zero, List.set_cons_succ, i64_w, i32_w]
                                  rfl
                                refine pure_ (i := 7) (N := some 70) (v := ?_) (a' := ?_) #[true, true, true, true, true, true, true, true, false, false, false, false, false, false, false, false, false, false, false, false, false, false] rfl rfl (any_of HT_.out (by kernel_rfl)) (fun _ _ _ h => h) (Or.inl ⟨by rfl, ?_⟩) ?_ ?_
                                rotate_left
                                · intro w'
                                  go_simp
                                  with_reducible rfl
                                rotate_left
                                · simp only [Act.put, List.setIfInBounds_toArray, List.set_cons_zero, List.set_cons_succ, i64_w, i32_w]
                                  rfl
                                refine pure_ (i := 8) (N := some 71) (v := ?_) (a' := ?_) #[true, true, true, true, true, true, true, true, true, false, false, false, false, false, false, false, false, false, false, false, false, false] rfl rfl (any_of HT_.out (by kernel_rfl)) (fun _ _ _ h => h) (Or.inl ⟨by rfl, ?_⟩) ?_ ?_
                                rotate_left
                                · intro w'
                                  go_simp
                                  with_reducible rfl
                                rotate_left
                                · simp only [Act.put, List.setIfInBounds_toArray, List.set_cons_zero, List.set_cons_succ, i64_w, i32_w]
                                  rfl
                                refine pure_ (i := 9) (N := some 72) (v := ?_) (a' := ?_) #[true, true, true, true, true, true, true, true, true, true, false, false, false, false, false, false, false, false, false, false, false, false] rfl rfl (any_of HT_.out (by kernel_rfl)) (fun _ _ _ h => h) (Or.inl ⟨by rfl, ?_⟩) ?_ ?_
                                rotate_left
                                · intro w'
                                  go_simp
                                  with_reducible rfl
                                rotate_left
                                · simp only [Act.put, List.setIfInBounds_toArray, List.set_cons_zero, List.set_cons_succ, i64_w, i32_w]
                                  rfl
                                refine pure_ (i := 10) (N := some 73) (v := ?_) (a' := ?_) #[true, true, true, true, true, true, true, true, true, true, true, false, false, false, false, false, false, false, false, false, false, false] rfl rfl (any_of HT_.out (by kernel_rfl)) (fun _ _ _ h => h) (Or.inl ⟨by rfl, ?_⟩) ?_ ?_
                                rotate_left
                                · intro w'
                                  go_simp
                                  with_reducible rfl
                                rotate_left
                                · simp only [Act.put, List.setIfInBounds_toArray, List.set_cons_zero, List.set_cons_succ, i64_w, i32_w]
                                  rfl
                                refine pure_ (i := 11) (N := some 74) (v := ?_) (a' := ?_) #[true, true, true, true, true, true, true, true, true, true, true, true, false, false, false, false, false, false, false, false, false, false] rfl rfl (any_of HT_.out (by kernel_rfl)) (fun _ _ _ h => h) (Or.inl ⟨by rfl, ?_⟩) ?_ ?_
                                rotate_left
                                · intro w'
                                  go_simp
                                  with_reducible rfl
                                rotate_left
                                · simp only [Act.put, List.setIfInBounds_toArray, List.set_cons_zero, List.set_cons_succ, i64_w, i32_w]
                                  rfl
                                refine pure_ (i := 12) (N := some 75) (v := ?_) (a' := ?_) #[true, true, true, true, true, true, true, true, true, true, true, true, true, false, false, false, false, false, false, false, false, false] rfl rfl (any_of HT_.out (by kernel_rfl)) (fun _ _ _ h => h) (Or.inl ⟨by rfl, ?_⟩) ?_ ?_
                                rotate_left
                                · intro w'
                                  go_simp
                                  with_reducible rfl
                                rotate_left
                                · simp only [Act.put, List.setIfInBounds_toArray, List.set_cons_zero, List.set_cons_succ, i64_w, i32_w]
                                  rfl
                                refine pure_ (i := 14) (N := some 77) (v := ?_) (a' := ?_) #[true, true, true, true, true, true, true, true, true, true, true, true, true, false, true, false, false, false, false, false, false, false] rfl rfl (any_of HT_.out (by kernel_rfl)) (fun _ _ _ h => h) (Or.inl ⟨by rfl, ?_⟩) ?_ ?_
                                rotate_left
                                · intro w'
                                  go_simp
                                  with_reducible rfl
                                rotate_left
                                · simp only [Act.put, List.setIfInBounds_toArray, List.set_cons_zero, List.set_cons_succ, i64_w, i32_w]
                                  rfl
                                refine pure_ (i := 15) (N := some 78) (v := ?_) (a' := ?_) #[true, true, true, true, true, true, true, true, true, true, true, true, true, false, true, true, false, false, false, false, false, false] rfl rfl (any_of HT_.out (by kernel_rfl)) (fun _ _ _ h => h) (Or.inl ⟨by rfl, ?_⟩) ?_ ?_
                                rotate_left
                                · intro w'
                                  go_simp
                                  with_reducible rfl
                                rotate_left
                                · simp only [Act.put, List.setIfInBounds_toArray, List.set_cons_zero, List.set_cons_succ, i64_w, i32_w]
                                  rfl
                                refine pure_ (i := 16) (N := some 79) (v := ?_) (a' := ?_) #[true, true, true, true, true, true, true, true, true, true, true, true, true, false, true, true, true, false, false, false, false, false] rfl rfl (any_of HT_.out (by kernel_rfl)) (fun _ _ _ h => h) (Or.inl ⟨by rfl, ?_⟩) ?_ ?_
                                rotate_left
                                · intro w'
                                  go_simp
                                  with_reducible rfl
                                rotate_left
                                · simp only [Act.put, List.setIfInBounds_toArray, List.set_cons_zero, List.set_cons_succ, i64_w, i32_w]
                                  rfl
                                refine pure_ (i := 17) (N := some 80) (v := ?_) (a' := ?_) #[true, true, true, true, true, true, true, true, true, true, true, true, true, false, true, true, true, true, false, false, false, false] rfl rfl (any_of HT_.out (by kernel_rfl)) (fun _ _ _ h => h) (Or.inl ⟨by rfl, ?_⟩) ?_ ?_
                                rotate_left
                                · intro w'
                                  go_simp
                                  with_reducible rfl
                                rotate_left
                                · simp only [Act.put, List.setIfInBounds_toArray, List.set_cons_zero, List.set_cons_succ, i64_w, i32_w]
                                  rfl
                                refine pure_ (i := 18) (N := some 81) (v := ?_) (a' := ?_) #[true, true, true, true, true, true, true, true, true, true, true, true, true, false, true, true, true, true, true, false, false, false] rfl rfl (any_of HT_.out (by kernel_rfl)) (fun _ _ _ h => h) (Or.inl ⟨by rfl, ?_⟩) ?_ ?_
                                rotate_left
                                · intro w'
                                  go_simp
                                  with_reducible rfl
                                rotate_left
                                · simp only [Act.put, List.setIfInBounds_toArray, List.set_cons_zero, List.set_cons_succ, i64_w, i32_w]
                                  rfl
                                refine take_ (i := 13) (N := some 76) (v := ?_) (a' := ?_) #[true, true, true, true, true, true, true, true, true, true, true, true, true, true, true, true, true, true, true, false, false, false] rfl rfl (take_ofW HT_.out HW_.out (by kernel_rfl)) (fun _ _ _ h => h) (Or.inl ⟨by rfl, ?_⟩) hHeld ?_ ?_
                                rotate_left
                                · intro w' s0
                                  go_simp
                                  with_reducible rfl
                                rotate_left
                                · simp only [Act.put, List.setIfInBounds_toArray, List.set_cons_zero, List.set_cons_succ, i64_w, i32_w]
                                  rfl
                                refine pure_ (i := 19) (N := some 82) (v := ?_) (a' := ?_) #[true, true, true, true, true, true, true, true, true, true, true, true, true, true, true, true, true, true, true, true, false, false] rfl rfl (any_of HT_.out (by kernel_rfl)) (fun _ _ _ h => h) (Or.inl ⟨by rfl, ?_⟩) ?_ ?_
                                rotate_left
                                · intro w'
                                  go_simp
                                  with_reducible rfl
                                rotate_left
                                · simp only [Act.put, List.setIfInBounds_toArray, List.set_cons_zero, List.set_cons_succ, i64_w, i32_w]
                                  rfl
                                refine pure_ (i := 20) (N := some 83) (v := ?_) (a' := ?_) #[true, true, true, true, true, true, true, true, true, true, true, true, true, true, true, true, true, true, true, true, true, false] rfl rfl (any_of HT_.out (by kernel_rfl)) (fun _ _ _ h => h) (Or.inl ⟨by rfl, ?_⟩) ?_ ?_
                                rotate_left
                                · intro w'
                                  go_simp
                                  with_reducible rfl
                                rotate_left
                                · simp only [Act.put, List.setIfInBounds_toArray, List.set_cons_zero, List.set_cons_succ, i64_w, i32_w]
                                  rfl
                                refine last_ (i := 21) (N := none) #[true, true, true, true, true, true, true, true, true, true, true, true, true, true, true, true, true, true, true, true, true, true] rfl rfl (one_of HT_.out (by kernel_rfl)) (by decide) (fun K hK => ?_)
                                refine skip_ (w1 := ?_) (by rfl) rfl ?_ ?_
                                rotate_left
                                · go_simp
                                  rfl
                                refine hK.out _ _ ?_
                                clear hK K
                                refine done_ (done_of HT_.out (by kernel_rfl)) ?_
                                try go_wp2
                                go_roundg kj22
                                case measure => have := HK1.out; have := HJ22.out; omega
                                case rel => exact ⟨(y151), (wrap64 (x15_1 + 1)), (by first | rfl | (simp; done) | (simp [*]; done)), (by first | exact H' | (subst_vars; exact H')), ⟨by have := HK1.out; have := HJ22.out; omega⟩, ⟨by (with_reducible repeat (first | apply Kd.R_alloc | apply Kd.R_drewN | apply Kd.R_drew)); exact Kd.R_mono (Kd.R_far (p := ⟨go35, ((ji29) : Int).toNat, none⟩) (Kd.R_mono HO_10.out (fun k_ hk => (⟨hk, fun e_ => hk.2 (by rw [e_]; rfl)⟩ : _ ∧ k_ ≠ go35))) (fun _ hk => hk.2) (.int .u64 (Go.bits .xor .u64 (rd x12_1 (ji29)) (ji34)))) (fun _ hk => ⟨hk.1.1, hk.1.2⟩)⟩, ⟨by (with_reducible repeat (first | apply Kd.R_alloc | apply Kd.R_drewN | apply Kd.R_drew)); exact HQ38.out⟩, ⟨by (with_reducible repeat (first | apply Kd.V_alloc | apply Kd.V_drewN | apply Kd.V_drew)); exact Kd.V_mono (Kd.V_far (p := ⟨go35, ((ji29) : Int).toNat, none⟩) (Kd.V_mono HO_139001.out (fun k_ hk => (⟨hk, fun e_ => hk.2.2.1 (by rw [e_]; rfl)⟩ : _ ∧ k_ ≠ go35))) (fun _ hk => hk.2) (.int .u64 (Go.bits .xor .u64 (rd x12_1 (ji29)) (ji34)))) (fun _ hk => ⟨hk.1.1, ⟨hk.1.2.1, ⟨hk.1.2.2.1, hk.1.2.2.2⟩⟩⟩)⟩, ⟨by (with_reducible repeat (first | refine blk_drewN ?_ _ | refine blk_drew ?_ | refine blk_alloc ?_ _)); refine blk_far ?_ (by have h_ := Kd.R_ne HO_12.out BK138.out (by decide); intro e_; exact h_ (by rw [e_]; rfl)) _; (with_reducible repeat (first | refine blk_drewN ?_ _ | refine blk_drew ?_ | refine blk_alloc ?_ _)); exact BK138.out⟩, ⟨by repeat (first | (with_reducible first | exact HB.out | apply below_alloc | apply pw_below_drewN | apply below_drew1 | refine below_set ?_ GB35.out | refine below_set ?_ GE138.out) | exact HB.out)⟩⟩
                              · rw [if_neg c33] at H
                                exact absurd H (by simp)
                            · rw [if_neg c31] at H
                              exact absurd H (by simp)
                          · rw [if_neg c30] at H
                            exact absurd H (by simp)
                        · rw [if_neg c28] at H
                          have c28b0 : ((Go.bits .and .u32 (ji27) 1) == 1) = false := beq_eq_false_iff_ne.mpr c28
                          have c28b1 : ((Go.bits .and .u32 (ji27) 1) != 1) = true := bne_iff_ne.mpr c28
                          have H' := Aside0.mk H
                          clear H
                          go_wp2
                          go_roundg kj22
                          case measure => have := HK1.out; have := HJ22.out; omega
                          case rel => exact ⟨(x12_1), (wrap64 (x15_1 + 1)), (by first | rfl | (simp; done) | (simp [*]; done)), (by first | exact H' | (subst_vars; exact H')), ⟨by have := HK1.out; have := HJ22.out; omega⟩, ⟨by (with_reducible repeat (first | apply Kd.R_alloc | apply Kd.R_drewN | apply Kd.R_drew)); exact HO_10.out⟩, ⟨by (with_reducible repeat (first | apply Kd.R_alloc | apply Kd.R_drewN | apply Kd.R_drew)); exact HO_12.out⟩, ⟨by (with_reducible repeat (first | apply Kd.V_alloc | apply Kd.V_drewN | apply Kd.V_drew)); exact HO_139001.out⟩, ⟨by (with_reducible repeat (first | refine blk_drewN ?_ _ | refine blk_drew ?_ | refine blk_alloc ?_ _)); exact BK138.out⟩, ⟨by repeat (first | (with_reducible first | exact HB.out | apply below_alloc | apply pw_below_drewN | apply below_drew1 | refine below_set ?_ GE138.out) | exact HB.out)⟩⟩
                      · rw [if_neg c26] at H
                        exact absurd H (by simp)
                    · replace c25 := Bool.eq_false_iff.mpr c25
                      subst c25
                      have H1 : ((undo_Decode.f a0 x12_1).bind fun bt152 => ((lockfastref01_Words.f kj22 t140 x12_1).bind fun t156 => (if t139 = true then (if (bt152.2 == t156) = true then (if bt152.2 = true then ((lockfastref13_Same.f kj22 bt152.1 (([(⟨a1_0, l1_1⟩ : S25)] : List (S25)))).bind fun t160 => (some t160)) else (some true)) else (some false)) else (some false)))) = some r := by rw [if_neg (show ¬ (false = true) by decide)] at H; exact H
                      clear H
                      have H := H1
                      clear H1
                      replace H := Option.bind_eq_some_iff.mp H
                      obtain ⟨⟨t152, t155⟩, A390, H⟩ := H
                      replace H : ((lockfastref01_Words.f kj22 t140 x12_1).bind fun t156 => (if t139 = true then (if (t155 == t156) = true then (if t155 = true then ((lockfastref13_Same.f kj22 t152 (([(⟨a1_0, l1_1⟩ : S25)] : List (S25)))).bind fun t160 => (some t160)) else (some true)) else (some false)) else (some false))) = some r := H
                      have A39 := Aside0.mk A390
                      clear A390
                      replace H := Option.bind_eq_some_iff.mp H
                      obtain ⟨t156, A400, H⟩ := H
                      replace H : (if t139 = true then (if (t155 == t156) = true then (if t155 = true then ((lockfastref13_Same.f kj22 t152 (([(⟨a1_0, l1_1⟩ : S25)] : List (S25)))).bind fun t160 => (some t160)) else (some true)) else (some false)) else (some false)) = some r := H
                      have A40 := Aside0.mk A400
                      clear A400
                      by_cases c41 : t139 = true
                      · subst c41
                        have H1 : (if (t155 == t156) = true then (if t155 = true then ((lockfastref13_Same.f kj22 t152 (([(⟨a1_0, l1_1⟩ : S25)] : List (S25)))).bind fun t160 => (some t160)) else (some true)) else (some false)) = some r := by rw [if_pos rfl] at H; exact H
                        clear H
                        have H := H1
                        clear H1
                        by_cases c42 : (t155 == t156) = true
                        · rw [if_pos c42] at H
                          have c42b0 : (t155 == t156) = true := c42
                          (try (have c42b1 : decide (t155 = t156) = true := by simpa using c42))
                          (try (have c42b2 : (t155 == t156) = true := by simpa using c42))
                          clear c42
                          by_cases c43 : t155 = true
                          · subst c43
                            have H1 : ((lockfastref13_Same.f kj22 t152 (([(⟨a1_0, l1_1⟩ : S25)] : List (S25)))).bind fun t160 => (some t160)) = some r := by rw [if_pos rfl] at H; exact H
                            clear H
                            have H := H1
                            clear H1
                            obtain ⟨y157, hy157⟩ : ∃ y_ : List (S25), y_ = (([(⟨a1_0, l1_1⟩ : S25)] : List (S25))) := ⟨_, rfl⟩
                            replace H : ((lockfastref13_Same.f kj22 t152 y157).bind fun t160 => (some t160)) = some r := by first | (rw [hy157]; with_reducible exact H) | (have H2_ := (Option.bind_some _ _).symm.trans H; rw [hy157]; with_reducible exact H2_) | (have H2_ := (Option.bind_some _ _).symm.trans H; with_reducible exact H2_) | with_reducible exact H | (rw [hy157]; exact H) | exact H
                            have Ny157 := Aside0.mk hy157
                            clear hy157
                            replace H := Option.bind_eq_some_iff.mp H
                            obtain ⟨t160, A440, H⟩ := H
                            replace H : (some t160) = some r := H
                            have A44 := Aside0.mk A440
                            clear A440
                            obtain rfl := Option.some.inj H
                            simp only [Option.some.injEq, Prod.mk.injEq] at H
                            obtain ⟨rfl⟩ := H
                            obtain ⟨Ao45, co45, eo45⟩ := Kd.R_slice HO_12.out
                            subst eo45
                            go_wp2_with (first | ((with_reducible refine gate_callee (f := 16) rfl ?_); refine goesL_ (some 87) rfl rfl Try.func16 (by kernel_rfl) rfl #[.int .u64 a0, .slice Ao45 x12_1.length co45] rfl (by (try simp only [List.map_toArray, List.map_cons, List.map_nil]); first | done | rfl | (simp only [List.length_drop, List.length_take]; rfl)) ?_; (with_reducible refine (undo_Decode.calls a0 _ _ x12_1 t152 true _ ?side1 ?side2 A39.out).mono ?_); (case side1 => repeat (first | exact (Kd.R_reads' HO_12.out).2.2 | (with_reducible refine Kd.C_alloc ?_ _) | (with_reducible refine Kd.C_drewN ?_ _) | (with_reducible refine Kd.C_drew ?_))); (case side2 => exact (Kd.R_reads' HO_12.out).2.1); rintro e w46 ⟨v153, rfl, ho0, hb⟩; refine ⟨_, rfl, ?_⟩; have n0_ := Aside0.mk (Kd.R_below (by (with_reducible repeat (first | apply Kd.R_alloc | apply Kd.R_drewN | apply Kd.R_drew)); exact HO_10.out) hb); have n1_ := Aside0.mk (Kd.R_below (by (with_reducible repeat (first | apply Kd.R_alloc | apply Kd.R_drewN | apply Kd.R_drew)); exact HO_12.out) hb); have n2_ := Aside0.mk (Kd.V_below (by (with_reducible repeat (first | apply Kd.V_alloc | apply Kd.V_drewN | apply Kd.V_drew)); exact HO_139001.out) hb); have n3_ := Aside0.mk (Kd.V_lower (Kd.V_mono (ok' := fun k_ => (P1_1_ k_ ∨ w.heap.size ≤ k_) ∧ some k_ ≠ (.slice Ao22 t140.length co22 : Value).ownBlock ∧ some k_ ≠ (.slice Ao45 x12_1.length co45 : Value).ownBlock ∧ k_ ≠ gb138) ho0 (fun k_ hk_ => ⟨(.inr (Nat.le_trans (below_size (by repeat (first | (with_reducible first | exact HB.out | apply below_alloc | apply pw_below_drewN | apply below_drew1 | refine below_set ?_ GE138.out) | exact HB.out))) hk_)), (Kd.fresh' (Kd.R_lt (by (with_reducible repeat (first | apply Kd.R_alloc | apply Kd.R_drewN | apply Kd.R_drew)); exact HO_10.out)) k_ hk_), (Kd.fresh' (Kd.R_lt (by (with_reducible repeat (first | apply Kd.R_alloc | apply Kd.R_drewN | apply Kd.R_drew)); exact HO_12.out)) k_ hk_), (Kd.freshB (g := gb138) (o := .cells #[.int .i64 a1_0, .slice A1_1 l1_1.length c1_1] 25 (0, 0)) (by (with_reducible repeat (first | refine blk_drewN ?_ _ | refine blk_drew ?_ | refine blk_alloc ?_ _)); exact BK138.out) k_ hk_)⟩)) (below_size (by repeat (first | (with_reducible first | exact HB.out | apply below_alloc | apply pw_below_drewN | apply below_drew1 | refine below_set ?_ GE138.out) | exact HB.out)))); have n4_ := Aside0.mk (blk_below (g := gb138) (o := .cells #[.int .i64 a1_0, .slice A1_1 l1_1.length c1_1] 25 (0, 0)) (by (with_reducible repeat (first | refine blk_drewN ?_ _ | refine blk_drew ?_ | refine blk_alloc ?_ _)); exact BK138.out) hb); have n5_ := Aside0.mk (below_step (by repeat (first | (with_reducible first | exact HB.out | apply below_alloc | apply pw_below_drewN | apply below_drew1 | refine below_set ?_ GE138.out) | exact HB.out)) hb); clear HO_10; clear HO_12; clear HO_139001; clear BK138; clear HB; have HO_10 := n0_; have HO_12 := n1_; have HO_139001 := n2_; have HO154 := n3_; have BK138 := n4_; have HB := n5_; clear n0_ n1_ n2_ n3_ n4_ n5_; (try clear hb); (try clear hb2); (try clear hk); (try clear hi); (try clear ho0)) | ((with_reducible refine gate_callee (f := 13) rfl ?_); refine goesL_ (some 92) rfl rfl Try.func13 (by kernel_rfl) rfl #[.slice Ao22 t140.length co22, .slice Ao45 x12_1.length co45] rfl (by (try simp only [List.map_toArray, List.map_cons, List.map_nil]); first | done | rfl | (simp only [List.length_drop, List.length_take]; rfl)) ?_; (with_reducible refine (lockfastref01_Words.calls kj22 _ _ t140 _ _ x12_1 t156 _ ?side1 ?side2 ?side3 ?side4 A40.out).mono ?_); (case side1 => repeat (first | exact (Kd.R_reads' HO_10.out).2.2 | (with_reducible refine Kd.C_alloc ?_ _) | (with_reducible refine Kd.C_drewN ?_ _) | (with_reducible refine Kd.C_drew ?_))); (case side2 => exact (Kd.R_reads' HO_10.out).2.1); (case side3 => repeat (first | exact (Kd.R_reads' HO_12.out).2.2 | (with_reducible refine Kd.C_alloc ?_ _) | (with_reducible refine Kd.C_drewN ?_ _) | (with_reducible refine Kd.C_drew ?_))); (case side4 => exact (Kd.R_reads' HO_12.out).2.1); rintro e w' ⟨rfl, ⟨nd, rfl⟩⟩; refine ⟨_, rfl, ?_⟩; have hcz47_0 : w46.cell? ⟨gb138, 0, none⟩ = some (.int .i64 a1_0) := (blk_cell BK138.out 0).trans rfl; have hcz47_1 : w46.cell? ⟨gb138, 1, none⟩ = some (.slice A1_1 l1_1.length c1_1) := (blk_cell BK138.out 1).trans rfl; have hfz47_0 := blk_frozen BK138.out 0; have hfz47_1 := blk_frozen BK138.out 1) | ((with_reducible refine gate_dst (N := 105) rfl ?_); (try (refine gate_guard (by rfl) ?_; dsimp only)); refine Kd.N_lit k25 _ 25 ?hg (N' := 105) ?hd (xs := ([(⟨a1_0, l1_1⟩ : S25)] : List (S25))) (inner := [.int .i64 a1_0, .slice A1_1 l1_1.length c1_1]) (ok := (fun k_ => (P1_1_ k_ ∨ w.heap.size ≤ k_) ∧ some k_ ≠ (.slice Ao22 t140.length co22 : Value).ownBlock ∧ some k_ ≠ (.slice Ao45 x12_1.length co45 : Value).ownBlock ∧ k_ ≠ gb138)) (okp := (fun k_ => (P1_1_ k_ ∨ w.heap.size ≤ k_) ∧ some k_ ≠ (.slice Ao22 t140.length co22 : Value).ownBlock ∧ some k_ ≠ (.slice Ao45 x12_1.length co45 : Value).ownBlock ∧ k_ ≠ gb138)) ?hr ?hp (fun _ hk => hk) ((show ∀ k_, w46.heap.size ≤ k_ → (fun k_ => (P1_1_ k_ ∨ w.heap.size ≤ k_) ∧ some k_ ≠ (.slice Ao22 t140.length co22 : Value).ownBlock ∧ some k_ ≠ (.slice Ao45 x12_1.length co45 : Value).ownBlock ∧ k_ ≠ gb138) k_ from fun k_ hk => ⟨(.inr (Nat.le_trans (below_size (by repeat (first | (with_reducible first | exact HB.out | apply below_alloc | apply pw_below_drewN | apply below_drew1 | refine below_set ?_ GE138.out) | exact HB.out))) hk)), Kd.fresh' (Kd.R_lt (by (with_reducible repeat (first | apply Kd.R_alloc | apply Kd.R_drewN | apply Kd.R_drew)); exact HO_10.out)) k_ hk, Kd.fresh' (Kd.R_lt (by (with_reducible repeat (first | apply Kd.R_alloc | apply Kd.R_drewN | apply Kd.R_drew)); exact HO_12.out)) k_ hk, Kd.freshB (g := gb138) (o := .cells #[.int .i64 a1_0, .slice A1_1 l1_1.length c1_1] 25 (0, 0)) (by (with_reducible repeat (first | refine blk_drewN ?_ _ | refine blk_drew ?_ | refine blk_alloc ?_ _)); exact BK138.out) k_ hk⟩) _ (Nat.le_refl _)) (Below.refl _ _) (Nat.le_refl _) (by simp) ?_; (case hd => rfl); (case hg => rfl); (case hr => first | (go_simp; done) | (go_simp; rfl)); (case hp => exact (Reps.c2 (show Kd.FK k25 _ _ (⟨a1_0, l1_1⟩ : S25) [.int .i64 a1_0, .slice A1_1 l1_1.length c1_1] from (k25_mkF _ _ (⟨a1_0, l1_1⟩ : S25) (Kd.V_reads' (Kd.V_mono (ok' := (fun k_ => (P1_1_ k_ ∨ w.heap.size ≤ k_) ∧ some k_ ≠ (.slice Ao22 t140.length co22 : Value).ownBlock ∧ some k_ ≠ (.slice Ao45 x12_1.length co45 : Value).ownBlock ∧ k_ ≠ gb138)) (HO_139001.out) (fun k_ hk => ⟨hk.1, ⟨hk.2.1, ⟨hk.2.2.1, hk.2.2.2⟩⟩⟩))).2.1 (Kd.V_F (Kd.V_mono (e := 22) (base := w.heap.size) (ok' := (fun k_ => (P1_1_ k_ ∨ w.heap.size ≤ k_) ∧ some k_ ≠ (.slice Ao22 t140.length co22 : Value).ownBlock ∧ some k_ ≠ (.slice Ao45 x12_1.length co45 : Value).ownBlock ∧ k_ ≠ gb138)) (HO_139001.out) (fun k_ hk => ⟨hk.1, ⟨hk.2.1, ⟨hk.2.2.1, hk.2.2.2⟩⟩⟩))))) (Reps.none _ _))); intro v158 w48 ho49 hb hg_ hnew_; clear hg_ hnew_; (first | rw [← Ny157.out] at ho49 | (simp only [Int.reduceToNat] at ho49; rw [← Ny157.out] at ho49)); have n0_ := Aside0.mk (Kd.R_below (by (with_reducible repeat (first | apply Kd.R_alloc | apply Kd.R_drewN | apply Kd.R_drew)); exact HO_10.out) hb); have n1_ := Aside0.mk (Kd.R_below (by (with_reducible repeat (first | apply Kd.R_alloc | apply Kd.R_drewN | apply Kd.R_drew)); exact HO_12.out) hb); have n2_ := Aside0.mk (Kd.V_elder' (by (with_reducible repeat (first | apply Kd.V_alloc | apply Kd.V_drewN | apply Kd.V_drew)); exact HO_139001.out) (Kd.N_base ho49) hb); have n3_ := Aside0.mk (Kd.V_elder' (by (with_reducible repeat (first | apply Kd.V_alloc | apply Kd.V_drewN | apply Kd.V_drew)); exact HO154.out) (Kd.N_base ho49) hb); have n4_ := Aside0.mk (Kd.N_lower ho49 (below_size (by repeat (first | (with_reducible first | exact HB.out | apply below_alloc | apply pw_below_drewN | apply below_drew1 | refine below_set ?_ GE138.out) | exact HB.out)))); have n5_ := Aside0.mk (blk_below (g := gb138) (o := .cells #[.int .i64 a1_0, .slice A1_1 l1_1.length c1_1] 25 (0, 0)) (by (with_reducible repeat (first | refine blk_drewN ?_ _ | refine blk_drew ?_ | refine blk_alloc ?_ _)); exact BK138.out) hb); have n6_ := Aside0.mk (below_step (by repeat (first | (with_reducible first | exact HB.out | apply below_alloc | apply pw_below_drewN | apply below_drew1 | refine below_set ?_ GE138.out) | exact HB.out)) hb); clear HO_10; clear HO_12; clear HO_139001; clear HO154; clear BK138; clear HB; have HO_10 := n0_; have HO_12 := n1_; have HO_139001 := n2_; have HO154 := n3_; have HO159 := n4_; have BK138 := n5_; have HB := n6_; clear n0_ n1_ n2_ n3_ n4_ n5_ n6_; clear hb ho49; obtain ⟨Ao50, co50, eo50⟩ := Kd.V_slice HO154.out; subst eo50; obtain ⟨Ao51, co51, eo51⟩ := Kd.N_slice HO159.out; subst eo51) | (go_at_call 18; (with_reducible refine (lockfastref13_Same.calls kj22 _ _ t152 _ _ y157 t160 _ ?side1 ?side2 ?side3 ?side4 A44.out).mono ?_); (case side1 => repeat (first | exact (Kd.V_reads' HO154.out).2.2 | (with_reducible refine Kd.C_alloc ?_ _) | (with_reducible refine Kd.C_drewN ?_ _) | (with_reducible refine Kd.C_drew ?_))); (case side2 => exact (Kd.V_reads' HO154.out).2.1); (case side3 => repeat (first | exact (Kd.N_reads' HO159.out).2.2 | (with_reducible refine Kd.C_alloc ?_ _) | (with_reducible refine Kd.C_drewN ?_ _) | (with_reducible refine Kd.C_drew ?_))); (case side4 => exact (Kd.N_reads' HO159.out).2.1); rintro e w' ⟨rfl, ⟨nd, rfl⟩⟩))
                            go_ret
                            exact ⟨by first | rfl | (simp [errW_none, errW_some] <;> rfl) | (simp [*, errW_none, errW_some] <;> rfl), by repeat (first | (with_reducible first | exact HB.out | apply below_alloc | apply pw_below_drewN | apply below_drew1 | refine below_set ?_ GE138.out) | exact HB.out)⟩
                          · replace c43 := Bool.eq_false_iff.mpr c43
                            subst c43
                            have H1 : (some true) = some r := by rw [if_neg (show ¬ (false = true) by decide)] at H; exact H
                            clear H
                            have H := H1
                            clear H1
                            obtain rfl := Option.some.inj H
                            simp only [Option.some.injEq, Prod.mk.injEq] at H
                            obtain ⟨rfl⟩ := H
                            obtain ⟨Ao52, co52, eo52⟩ := Kd.R_slice HO_12.out
                            subst eo52
                            go_wp2_with (first | ((with_reducible refine gate_callee (f := 16) rfl ?_); refine goesL_ (some 87) rfl rfl Try.func16 (by kernel_rfl) rfl #[.int .u64 a0, .slice Ao52 x12_1.length co52] rfl (by (try simp only [List.map_toArray, List.map_cons, List.map_nil]); first | done | rfl | (simp only [List.length_drop, List.length_take]; rfl)) ?_; (with_reducible refine (undo_Decode.calls a0 _ _ x12_1 t152 false _ ?side1 ?side2 A39.out).mono ?_); (case side1 => repeat (first | exact (Kd.R_reads' HO_12.out).2.2 | (with_reducible refine Kd.C_alloc ?_ _) | (with_reducible refine Kd.C_drewN ?_ _) | (with_reducible refine Kd.C_drew ?_))); (case side2 => exact (Kd.R_reads' HO_12.out).2.1); rintro e w53 ⟨v153, rfl, ho0, hb⟩; refine ⟨_, rfl, ?_⟩; have n0_ := Aside0.mk (Kd.R_below (by (with_reducible repeat (first | apply Kd.R_alloc | apply Kd.R_drewN | apply Kd.R_drew)); exact HO_10.out) hb); have n1_ := Aside0.mk (Kd.R_below (by (with_reducible repeat (first | apply Kd.R_alloc | apply Kd.R_drewN | apply Kd.R_drew)); exact HO_12.out) hb); have n2_ := Aside0.mk (Kd.V_below (by (with_reducible repeat (first | apply Kd.V_alloc | apply Kd.V_drewN | apply Kd.V_drew)); exact HO_139001.out) hb); have n3_ := Aside0.mk (Kd.V_lower (Kd.V_mono (ok' := fun k_ => (P1_1_ k_ ∨ w.heap.size ≤ k_) ∧ some k_ ≠ (.slice Ao22 t140.length co22 : Value).ownBlock ∧ some k_ ≠ (.slice Ao52 x12_1.length co52 : Value).ownBlock ∧ k_ ≠ gb138) ho0 (fun k_ hk_ => ⟨(.inr (Nat.le_trans (below_size (by repeat (first | (with_reducible first | exact HB.out | apply below_alloc | apply pw_below_drewN | apply below_drew1 | refine below_set ?_ GE138.out) | exact HB.out))) hk_)), (Kd.fresh' (Kd.R_lt (by (with_reducible repeat (first | apply Kd.R_alloc | apply Kd.R_drewN | apply Kd.R_drew)); exact HO_10.out)) k_ hk_), (Kd.fresh' (Kd.R_lt (by (with_reducible repeat (first | apply Kd.R_alloc | apply Kd.R_drewN | apply Kd.R_drew)); exact HO_12.out)) k_ hk_), (Kd.freshB (g := gb138) (o := .cells #[.int .i64 a1_0, .slice A1_1 l1_1.length c1_1] 25 (0, 0)) (by (with_reducible repeat (first | refine blk_drewN ?_ _ | refine blk_drew ?_ | refine blk_alloc ?_ _)); exact BK138.out) k_ hk_)⟩)) (below_size (by repeat (first | (with_reducible first | exact HB.out | apply below_alloc | apply pw_below_drewN | apply below_drew1 | refine below_set ?_ GE138.out) | exact HB.out)))); have n4_ := Aside0.mk (blk_below (g := gb138) (o := .cells #[.int .i64 a1_0, .slice A1_1 l1_1.length c1_1] 25 (0, 0)) (by (with_reducible repeat (first | refine blk_drewN ?_ _ | refine blk_drew ?_ | refine blk_alloc ?_ _)); exact BK138.out) hb); have n5_ := Aside0.mk (below_step (by repeat (first | (with_reducible first | exact HB.out | apply below_alloc | apply pw_below_drewN | apply below_drew1 | refine below_set ?_ GE138.out) | exact HB.out)) hb); clear HO_10; clear HO_12; clear HO_139001; clear BK138; clear HB; have HO_10 := n0_; have HO_12 := n1_; have HO_139001 := n2_; have HO154 := n3_; have BK138 := n4_; have HB := n5_; clear n0_ n1_ n2_ n3_ n4_ n5_; (try clear hb); (try clear hb2); (try clear hk); (try clear hi); (try clear ho0)) | ((with_reducible refine gate_callee (f := 13) rfl ?_); refine goesL_ (some 92) rfl rfl Try.func13 (by kernel_rfl) rfl #[.slice Ao22 t140.length co22, .slice Ao52 x12_1.length co52] rfl (by (try simp only [List.map_toArray, List.map_cons, List.map_nil]); first | done | rfl | (simp only [List.length_drop, List.length_take]; rfl)) ?_; (with_reducible refine (lockfastref01_Words.calls kj22 _ _ t140 _ _ x12_1 t156 _ ?side1 ?side2 ?side3 ?side4 A40.out).mono ?_); (case side1 => repeat (first | exact (Kd.R_reads' HO_10.out).2.2 | (with_reducible refine Kd.C_alloc ?_ _) | (with_reducible refine Kd.C_drewN ?_ _) | (with_reducible refine Kd.C_drew ?_))); (case side2 => exact (Kd.R_reads' HO_10.out).2.1); (case side3 => repeat (first | exact (Kd.R_reads' HO_12.out).2.2 | (with_reducible refine Kd.C_alloc ?_ _) | (with_reducible refine Kd.C_drewN ?_ _) | (with_reducible refine Kd.C_drew ?_))); (case side4 => exact (Kd.R_reads' HO_12.out).2.1); rintro e w' ⟨rfl, ⟨nd, rfl⟩⟩; refine ⟨_, rfl, ?_⟩))
                            go_ret
                            exact ⟨by first | rfl | (simp [errW_none, errW_some] <;> rfl) | (simp [*, errW_none, errW_some] <;> rfl), by repeat (first | (with_reducible first | exact HB.out | apply below_alloc | apply pw_below_drewN | apply below_drew1 | refine below_set ?_ GE138.out) | exact HB.out)⟩
                        · rw [if_neg c42] at H
                          have c42b0 : (t155 == t156) = false := by simpa using c42
                          (try (have c42b1 : decide (t155 = t156) = false := by simpa using c42))
                          (try (have c42b2 : (t155 == t156) = false := by simpa using c42))
                          (try (have c42b3 : ¬ (t155 = t156) := by simpa using c42))
                          clear c42
                          obtain rfl := Option.some.inj H
                          exact absurd HRT.out (by decide)
                      · replace c41 := Bool.eq_false_iff.mpr c41
                        subst c41
                        have H1 : (some false) = some r := by rw [if_neg (show ¬ (false = true) by decide)] at H; exact H
                        clear H
                        have H := H1
                        clear H1
                        obtain rfl := Option.some.inj H
                        exact absurd HRT.out (by decide)
      · rw [if_neg c12] at H
        exact absurd H (by simp)
    · rw [if_neg c11] at H
      have c11b0 : (t143 == 0) = false := beq_eq_false_iff_ne.mpr c11
      have c11b1 : (t143 != 0) = true := bne_iff_ne.mpr c11
      obtain rfl := Option.some.inj H
      simp only [Option.some.injEq, Prod.mk.injEq] at H
      obtain ⟨rfl⟩ := H
      go_enter Try.func6, Try.ntmps6
      go_wp2_with (first | ((with_reducible refine gate_dst (N := 5) rfl ?_); (try (refine gate_guard (by rfl) ?_; dsimp only)); refine box_event ?hg (N := 5) ?hd (cs := #[.int .i64 a1_0, .slice A1_1 l1_1.length c1_1]) (t := 25) ?hr ?_; (case hd => rfl); (case hg => rfl); (case hr => first | (go_simp; done) | (go_simp; rfl)); intro gb138 hg w54 hbox hb; have n0_ := Aside0.mk (Kd.V_below (Kd.V_elderB (by (with_reducible repeat (first | apply Kd.V_alloc | apply Kd.V_drewN | apply Kd.V_drew)); exact HO1_1.out) gb138 (Nat.le_of_eq hg.symm)) hb); have n1_ := Aside0.mk (below_step (by repeat (first | (with_reducible first | exact HB.out | apply below_alloc | apply pw_below_drewN | apply below_drew1) | exact HB.out)) hb); have n2_ := Aside0.mk (hbox); have n3_ := Aside0.mk ((by rw [hg]; exact (below_size (by repeat (first | (with_reducible first | exact HB.out | apply below_alloc | apply pw_below_drewN | apply below_drew1) | exact HB.out))) : w.heap.size ≤ gb138)); have n4_ := Aside0.mk ((by rw [hg]; exact (below_size (by repeat (first | (with_reducible first | exact HB.out | apply below_alloc | apply pw_below_drewN | apply below_drew1) | exact HB.out))) : w.heap.size ≤ gb138)); clear HO1_1; clear HB; have HO1_1 := n0_; have HB := n1_; have BK138 := n2_; have GW138 := n3_; have GE138 := n4_; clear n0_ n1_ n2_ n3_ n4_; clear hb hbox hg) | ((with_reducible refine gate_callee (f := 10) rfl ?_); refine goesL_ (some 19) rfl rfl Try.func10 (by kernel_rfl) rfl #[] rfl (by (try simp only [List.map_toArray, List.map_cons, List.map_nil]); first | done | rfl | (simp only [List.length_drop, List.length_take]; rfl)) ?_; (with_reducible refine (lockfastlaw13_awake.calls  t139 _ A5.out).mono ?_); rintro e w55 ⟨rfl, hb⟩; refine ⟨_, rfl, ?_⟩; have n0_ := Aside0.mk (Kd.V_below (by (with_reducible repeat (first | apply Kd.V_alloc | apply Kd.V_drewN | apply Kd.V_drew)); exact HO1_1.out) hb); have n1_ := Aside0.mk (blk_below (g := gb138) (o := .cells #[.int .i64 a1_0, .slice A1_1 l1_1.length c1_1] 25 (0, 0)) (by (with_reducible repeat (first | refine blk_drewN ?_ _ | refine blk_drew ?_ | refine blk_alloc ?_ _)); exact BK138.out) hb); have n2_ := Aside0.mk (below_step (by repeat (first | (with_reducible first | exact HB.out | apply below_alloc | apply pw_below_drewN | apply below_drew1 | refine below_set ?_ GE138.out) | exact HB.out)) hb); clear HO1_1; clear BK138; clear HB; have HO1_1 := n0_; have BK138 := n1_; have HB := n2_; clear n0_ n1_ n2_; (try clear hb); (try clear hb2); (try clear hk); (try clear hi); have hcz56_0 : w55.cell? ⟨gb138, 0, none⟩ = some (.int .i64 a1_0) := (blk_cell BK138.out 0).trans rfl; have hcz56_1 : w55.cell? ⟨gb138, 1, none⟩ = some (.slice A1_1 l1_1.length c1_1) := (blk_cell BK138.out 1).trans rfl; have hfz56_0 := blk_frozen BK138.out 0; have hfz56_1 := blk_frozen BK138.out 1) | ((with_reducible refine gate_callee (f := 11) rfl ?_); refine goesL_ (some 28) rfl rfl Try.func11 (by kernel_rfl) rfl #[.int .u64 a0, .agg #[.int .i64 a1_0, .slice A1_1 l1_1.length c1_1]] rfl (by (try simp only [List.map_toArray, List.map_cons, List.map_nil]); first | done | rfl | (simp only [List.length_drop, List.length_take]; rfl)) ?_; (with_reducible refine (undo_Encode.calls a0 a1_0 _ _ l1_1 t140 t143 _ ?side1 ?side2 A10.out).mono ?_); (case side1 => repeat (first | exact (Kd.V_reads' HO1_1.out).2.2 | (with_reducible refine Kd.C_alloc ?_ _) | (with_reducible refine Kd.C_drewN ?_ _) | (with_reducible refine Kd.C_drew ?_))); (case side2 => exact (Kd.V_reads' HO1_1.out).2.1); rintro e w57 ⟨v141, rfl, ho0, hb⟩; refine ⟨_, rfl, ?_⟩; have n0_ := Aside0.mk (Kd.V_elder' (by (with_reducible repeat (first | apply Kd.V_alloc | apply Kd.V_drewN | apply Kd.V_drew)); exact HO1_1.out) (Kd.R_base ho0) hb); have n1_ := Aside0.mk (Kd.R_lower (Kd.R_newM (M := fun k_ => (w.heap.size ≤ k_)) ho0 (below_size (by repeat (first | (with_reducible first | exact HB.out | apply below_alloc | apply pw_below_drewN | apply below_drew1 | refine below_set ?_ GE138.out) | exact HB.out))) (fun k_ h_ => h_)) (below_size (by repeat (first | (with_reducible first | exact HB.out | apply below_alloc | apply pw_below_drewN | apply below_drew1 | refine below_set ?_ GE138.out) | exact HB.out)))); have n2_ := Aside0.mk (blk_below (g := gb138) (o := .cells #[.int .i64 a1_0, .slice A1_1 l1_1.length c1_1] 25 (0, 0)) (by (with_reducible repeat (first | refine blk_drewN ?_ _ | refine blk_drew ?_ | refine blk_alloc ?_ _)); exact BK138.out) hb); have n3_ := Aside0.mk (below_step (by repeat (first | (with_reducible first | exact HB.out | apply below_alloc | apply pw_below_drewN | apply below_drew1 | refine below_set ?_ GE138.out) | exact HB.out)) hb); clear HO1_1; clear BK138; clear HB; have HO1_1 := n0_; have HO142 := n1_; have BK138 := n2_; have HB := n3_; clear n0_ n1_ n2_ n3_; (try clear hb); (try clear hb2); (try clear hk); (try clear hi); (try clear ho0)))
      go_ret
      exact ⟨by first | rfl | (simp [errW_none, errW_some] <;> rfl) | (simp [*, errW_none, errW_some] <;> rfl), by repeat (first | (with_reducible first | exact HB.out | apply below_alloc | apply pw_below_drewN | apply below_drew1 | refine below_set ?_ GE138.out) | exact HB.out)⟩

/-- The one pure statement of lockfastlaw13_UndoBursts. -/
def lockfastlaw13_UndoBursts.Pure : Prop := ∀ (a0 : Int) (a1_0 : Int) (l1_1 : List Int) (a2 : Int) (a3 : Int), (Lit.int .u64 a0).wf = true → (Lit.int .i64 a1_0).wf = true → l1_1.length ≤ maxLen → (∀ z ∈ l1_1, (Lit.int .u64 z).wf = true) → (Lit.int .u16 a2).wf = true → (Lit.int .u32 a3).wf = true → ∃ k, lockfastlaw13_UndoBursts.f k a0 a1_0 l1_1 a2 a3 = some true

end Go.Proofs.Ytinbediigibolaa.PUndoBursts
