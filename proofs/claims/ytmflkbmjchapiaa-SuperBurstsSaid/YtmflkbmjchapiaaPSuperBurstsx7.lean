-- WRITTEN FOR THIS CLAIM by given.py, a program of this session's: the kit's printer, run with contracts of the session's own. It is not a text of print.sh's.
import Derived.Test.YtmflkbmjchapiaaPSuperBurstsx0
import Derived.Test.YtmflkbmjchapiaaPSuperBurstsx3
import Derived.Test.YtmflkbmjchapiaaPSuperBurstsx4
import Derived.Test.YtmflkbmjchapiaaPSuperBurstsx5
import Derived.Test.YtmflkbmjchapiaaPSuperBurstsx6
namespace Go.Proofs.Ytmflkbmjchapiaa.PSuperBursts
open Go.RowKit Go.Proofs.YtmflkbmjchapiaaW.PrintWords Go.Proofs.YtmflkbmjchapiaaW.PrintLast Go.Proofs.YtmflkbmjchapiaaW.PrintMore
attribute [local go_sem] max2_int min2_int max_two min_two max_three min_three max_four min_four   -- for this text's walks alone
set_option linter.unusedVariables false
set_option linter.unusedSimpArgs false
open Go.Proofs.YtmflkbmjchapiaaX

/-! ### lockfastlaw06_SuperBursts: function 12 -/
mutual
def lockfastlaw06_SuperBursts.j0 : Nat → Int → Int → Bool → List Int → Bool → Int → Int → Option (Bool)
  | 0, _, _, _, _, _, _, _ => none
  | k + 1, x3, x4, x11, x13, x37, x168000, x168001 => if x37 = true then (some false) else ((some (([] : List Int) : List Int)).bind fun y172 => (if y172.length + x13.length < 17592186044416 then ((some (y172 ++ x13 : List Int)).bind fun y175 => (if 0 ≤ (wrap64 (x168000 - 8)) then (if y175.length + (wrap64 (x168000 - 8) : Int).toNat < 17592186044416 then (lockfastlaw06_SuperBursts.l0 k x4 x11 x13 (y175 ++ List.replicate (wrap64 (x168000 - 8) : Int).toNat 0) (Int.tmod (wrap64 (x3)) 512) 0) else (none)) else (none))) else (none)))
def lockfastlaw06_SuperBursts.l0 : Nat → Int → Bool → List Int → List Int → Int → Int → Option (Bool)
  | 0, _, _, _, _, _, _ => none
  | k + 1, x4, x11, x13, x15, x16, x17 => if x17 < 32 then (lockfastlaw06_SuperBursts.j2 k x4 x11 x13 x15 x16 x17 (decide ((wrap64 (x16 + x17)) < 512))) else (lockfastlaw06_SuperBursts.j2 k x4 x11 x13 x15 x16 x17 false)
def lockfastlaw06_SuperBursts.j2 : Nat → Int → Bool → List Int → List Int → Int → Int → Bool → Option (Bool)
  | 0, _, _, _, _, _, _, _ => none
  | k + 1, x4, x11, x13, x15, x16, x17, x55 => if x55 = true then (if 0 ≤ x17 then (if (Go.bits .and .u32 (shr .u32 x4 x17) 1) = 1 then (if 0 ≤ (wrap64 (Int.tdiv (wrap64 (x16 + x17)) 64)) then (if (wrap64 (Int.tdiv (wrap64 (x16 + x17)) 64)) < (x15.length : Int) then (if 0 ≤ (Int.tmod (wrap64 (x16 + x17)) 64) then (lockfastlaw06_SuperBursts.l0 k x4 x11 x13 (x15.set ((wrap64 (Int.tdiv (wrap64 (x16 + x17)) 64)) : Int).toNat (Go.bits .xor .u64 (rd x15 (wrap64 (Int.tdiv (wrap64 (x16 + x17)) 64))) (shl .u64 1 (Int.tmod (wrap64 (x16 + x17)) 64)))) x16 (wrap64 (x17 + 1))) else (none)) else (none)) else (none)) else (lockfastlaw06_SuperBursts.l0 k x4 x11 x13 x15 x16 (wrap64 (x17 + 1)))) else (none)) else ((super_Decode.f x15).bind fun bt183 => (if 8 ≤ (x15.length : Int) then ((lockfastref01_Words.f k (x15.take 8) x13).bind fun t191 => (if x11 = true then (if ((bt183.2.2 == 0) == t191) = true then (some ((bt183.2.2 == 7) == (!t191))) else (some false)) else (some false))) else (none)))
end
def lockfastlaw06_SuperBursts.f (k : Nat) (a0 : Int) (a1 : Int) (a2 : Int) (a3 : Int) (a4 : Int) : Option (Bool) := (lockfastlaw06_awake.f).bind fun t164 => ((lockfastref05_Small.f a0 a1 a2).bind fun bt165 => ((super_Encode.f bt165.1 bt165.2).bind fun bt168 => (if bt168.2 = 0 then (lockfastlaw06_SuperBursts.j0 k a3 a4 t164 bt168.1 ((bt168.1.length : Int) != 8) bt165.1 bt165.2) else (lockfastlaw06_SuperBursts.j0 k a3 a4 t164 bt168.1 true bt165.1 bt165.2))))
theorem lockfastlaw06_SuperBursts.mono_l : ∀ k, (∀ y0 y1 y2 y3 y4 y5 y6, LeO (lockfastlaw06_SuperBursts.j0 k y0 y1 y2 y3 y4 y5 y6) (lockfastlaw06_SuperBursts.j0 (k + 1) y0 y1 y2 y3 y4 y5 y6)) ∧ (∀ y0 y1 y2 y3 y4 y5, LeO (lockfastlaw06_SuperBursts.l0 k y0 y1 y2 y3 y4 y5) (lockfastlaw06_SuperBursts.l0 (k + 1) y0 y1 y2 y3 y4 y5)) ∧ (∀ y0 y1 y2 y3 y4 y5 y6, LeO (lockfastlaw06_SuperBursts.j2 k y0 y1 y2 y3 y4 y5 y6) (lockfastlaw06_SuperBursts.j2 (k + 1) y0 y1 y2 y3 y4 y5 y6))
  | 0 => ⟨fun _ _ _ _ _ _ _ r h => by simp [lockfastlaw06_SuperBursts.j0] at h, fun _ _ _ _ _ _ r h => by simp [lockfastlaw06_SuperBursts.l0] at h, fun _ _ _ _ _ _ _ r h => by simp [lockfastlaw06_SuperBursts.j2] at h⟩
  | k + 1 => by
    obtain ⟨ih0, ih1, ih2⟩ := lockfastlaw06_SuperBursts.mono_l k
    refine ⟨?_, ?_, ?_⟩
    · intro y0 y1 y2 y3 y4 y5 y6
      unfold lockfastlaw06_SuperBursts.j0
      repeat' first
      | (with_reducible exact ih0 _ _ _ _ _ _ _)
      | (with_reducible exact ih1 _ _ _ _ _ _)
      | (with_reducible exact ih2 _ _ _ _ _ _ _)
      | (with_reducible exact lockfastref01_Words.mono _ _ _)
      | (with_reducible exact LeO.refl _)
      | (with_reducible exact LeO.none _)
      | (with_reducible refine LeO.ite ?_ ?_)
      | (with_reducible refine LeO.bind ?_ (fun _ => ?_))
      | exact ih0 _ _ _ _ _ _ _
      | exact ih1 _ _ _ _ _ _
      | exact ih2 _ _ _ _ _ _ _
      | exact lockfastref01_Words.mono _ _ _
      | exact LeO.none _
      | refine LeO.ite ?_ ?_
      | refine LeO.bind ?_ (fun _ => ?_)
    · intro y0 y1 y2 y3 y4 y5
      unfold lockfastlaw06_SuperBursts.l0
      repeat' first
      | (with_reducible exact ih0 _ _ _ _ _ _ _)
      | (with_reducible exact ih1 _ _ _ _ _ _)
      | (with_reducible exact ih2 _ _ _ _ _ _ _)
      | (with_reducible exact lockfastref01_Words.mono _ _ _)
      | (with_reducible exact LeO.refl _)
      | (with_reducible exact LeO.none _)
      | (with_reducible refine LeO.ite ?_ ?_)
      | (with_reducible refine LeO.bind ?_ (fun _ => ?_))
      | exact ih0 _ _ _ _ _ _ _
      | exact ih1 _ _ _ _ _ _
      | exact ih2 _ _ _ _ _ _ _
      | exact lockfastref01_Words.mono _ _ _
      | exact LeO.none _
      | refine LeO.ite ?_ ?_
      | refine LeO.bind ?_ (fun _ => ?_)
    · intro y0 y1 y2 y3 y4 y5 y6
      unfold lockfastlaw06_SuperBursts.j2
      repeat' first
      | (with_reducible exact ih0 _ _ _ _ _ _ _)
      | (with_reducible exact ih1 _ _ _ _ _ _)
      | (with_reducible exact ih2 _ _ _ _ _ _ _)
      | (with_reducible exact lockfastref01_Words.mono _ _ _)
      | (with_reducible exact LeO.refl _)
      | (with_reducible exact LeO.none _)
      | (with_reducible refine LeO.ite ?_ ?_)
      | (with_reducible refine LeO.bind ?_ (fun _ => ?_))
      | exact ih0 _ _ _ _ _ _ _
      | exact ih1 _ _ _ _ _ _
      | exact ih2 _ _ _ _ _ _ _
      | exact lockfastref01_Words.mono _ _ _
      | exact LeO.none _
      | refine LeO.ite ?_ ?_
      | refine LeO.bind ?_ (fun _ => ?_)
theorem lockfastlaw06_SuperBursts.mono : ∀ a0 a1 a2 a3 a4 k, LeO (lockfastlaw06_SuperBursts.f k a0 a1 a2 a3 a4) (lockfastlaw06_SuperBursts.f (k + 1) a0 a1 a2 a3 a4) := by
  intro a0 a1 a2 a3 a4 k
  obtain ⟨ih0, ih1, ih2⟩ := lockfastlaw06_SuperBursts.mono_l k
  unfold lockfastlaw06_SuperBursts.f
  repeat' first
      | (with_reducible exact ih0 _ _ _ _ _ _ _)
      | (with_reducible exact ih1 _ _ _ _ _ _)
      | (with_reducible exact ih2 _ _ _ _ _ _ _)
      | (with_reducible exact lockfastref01_Words.mono _ _ _)
      | (with_reducible exact LeO.refl _)
      | (with_reducible exact LeO.none _)
      | (with_reducible refine LeO.ite ?_ ?_)
      | (with_reducible refine LeO.bind ?_ (fun _ => ?_))
      | exact ih0 _ _ _ _ _ _ _
      | exact ih1 _ _ _ _ _ _
      | exact ih2 _ _ _ _ _ _ _
      | exact lockfastref01_Words.mono _ _ _
      | exact LeO.none _
      | refine LeO.ite ?_ ?_
      | refine LeO.bind ?_ (fun _ => ?_)
def lockfastlaw06_SuperBursts.T6 : Bool × List (List Nat × List Nat) := (true, [([], []), ([], []), ([0, 1], [0, 1]), ([], []), ([3], [3]), ([4], [4]), ([2, 5, 2], [2, 5]), ([6, 6, 0, 1, 2, 3, 4, 5, 6], [6])])
def lockfastlaw06_SuperBursts.B6 : List Nat := [0, 0, 3, 0, 8, 24, 63, 127]
theorem lockfastlaw06_SuperBursts.tab6 : rtab .any (opsOf Try.f12 6) = lockfastlaw06_SuperBursts.T6 := by kernel_rfl
theorem lockfastlaw06_SuperBursts.bits6 : waitsOk lockfastlaw06_SuperBursts.T6.2 lockfastlaw06_SuperBursts.B6 = true := by kernel_rfl
def lockfastlaw06_SuperBursts.T12 : Bool × List (List Nat × List Nat) := (true, [([], []), ([], []), ([], []), ([1, 2], [1, 2]), ([3], [3]), ([], []), ([], []), ([], []), ([6, 7], [6, 7]), ([8], [8]), ([5, 9], [5, 9]), ([10], [10]), ([], []), ([], []), ([12, 13], [12, 13]), ([14], [14]), ([15], [15]), ([11, 16], [11, 16]), ([0, 4, 0, 1, 2, 3, 4, 5, 6, 7, 8, 9, 10, 11, 12, 13, 14, 15, 16, 17], [0, 4]), ([18, 17, 0, 1, 2, 3, 4, 5, 6, 7, 8, 9, 10, 11, 12, 13, 14, 15, 16, 17], [17, 18])])
def lockfastlaw06_SuperBursts.B12 : List Nat := [0, 0, 0, 6, 14, 0, 0, 0, 192, 448, 992, 2016, 0, 0, 12288, 28672, 61440, 131040, 262143, 524287]
theorem lockfastlaw06_SuperBursts.tab12 : rtab .any (opsOf Try.f12 12) = lockfastlaw06_SuperBursts.T12 := by kernel_rfl
theorem lockfastlaw06_SuperBursts.bits12 : waitsOk lockfastlaw06_SuperBursts.T12.2 lockfastlaw06_SuperBursts.B12 = true := by kernel_rfl
set_option maxHeartbeats 8000000 in
set_option maxRecDepth 100000 in
theorem lockfastlaw06_SuperBursts.calls (k : Nat) (a0 : Int) (a1 : Int) (a2 : Int) (a3 : Int) (a4 : Int) (r : Bool) (w : World) (hrt : r = true) (h : lockfastlaw06_SuperBursts.f k a0 a1 a2 a3 a4 = some r) :
    Calls Try.prog 12 #[.int .u8 a0, .int .u8 a1, .int .u8 a2, .int .u16 a3, .int .u32 a4] w fun e w' => e = .returned (.bool r) ∧ Below w.heap.size w w' := by
  have hu40 := Try.underlying40
  have HB := Aside0.mk (Below.refl w.heap.size w)
  have H : ((lockfastlaw06_awake.f).bind fun t164 => ((lockfastref05_Small.f a0 a1 a2).bind fun bt165 => ((super_Encode.f bt165.1 bt165.2).bind fun bt168 => (if bt168.2 = 0 then (lockfastlaw06_SuperBursts.j0 k a3 a4 t164 bt168.1 ((bt168.1.length : Int) != 8) bt165.1 bt165.2) else (lockfastlaw06_SuperBursts.j0 k a3 a4 t164 bt168.1 true bt165.1 bt165.2))))) = some r := h
  clear h
  have HRT := Aside0.mk hrt
  clear hrt
  replace H := Option.bind_eq_some_iff.mp H
  obtain ⟨t164, A60, H⟩ := H
  replace H : ((lockfastref05_Small.f a0 a1 a2).bind fun bt165 => ((super_Encode.f bt165.1 bt165.2).bind fun bt168 => (if bt168.2 = 0 then (lockfastlaw06_SuperBursts.j0 k a3 a4 t164 bt168.1 ((bt168.1.length : Int) != 8) bt165.1 bt165.2) else (lockfastlaw06_SuperBursts.j0 k a3 a4 t164 bt168.1 true bt165.1 bt165.2)))) = some r := H
  have A6 := Aside0.mk A60
  clear A60
  replace H := Option.bind_eq_some_iff.mp H
  obtain ⟨⟨t165, t166⟩, A70, H⟩ := H
  replace H : ((super_Encode.f t165 t166).bind fun bt168 => (if bt168.2 = 0 then (lockfastlaw06_SuperBursts.j0 k a3 a4 t164 bt168.1 ((bt168.1.length : Int) != 8) t165 t166) else (lockfastlaw06_SuperBursts.j0 k a3 a4 t164 bt168.1 true t165 t166))) = some r := H
  have A7 := Aside0.mk A70
  clear A70
  replace H := Option.bind_eq_some_iff.mp H
  obtain ⟨⟨t168, t171⟩, A80, H⟩ := H
  replace H : (if t171 = 0 then (lockfastlaw06_SuperBursts.j0 k a3 a4 t164 t168 ((t168.length : Int) != 8) t165 t166) else (lockfastlaw06_SuperBursts.j0 k a3 a4 t164 t168 true t165 t166)) = some r := H
  have A8 := Aside0.mk A80
  clear A80
  have HC9 := Aside0.mk H
  clear H
  go_enter Try.func12, Try.ntmps12
  go_upto_region 4 with (first | ((with_reducible refine gate_callee (f := 22) rfl ?_); refine goesL_ (some 21) rfl rfl Try.func22 (by kernel_rfl) rfl #[] rfl (by (try simp only [List.map_toArray, List.map_cons, List.map_nil]); first | done | rfl | (simp only [List.length_drop, List.length_take]; rfl)) ?_; (with_reducible refine (lockfastlaw06_awake.calls  t164 _ A6.out).mono ?_); rintro e w10 ⟨rfl, hb⟩; refine ⟨_, rfl, ?_⟩; have n0_ := Aside0.mk (below_step (by repeat (first | (with_reducible first | exact HB.out | apply below_alloc | apply pw_below_drewN | apply below_drew1) | exact HB.out)) hb); clear HB; have HB := n0_; clear n0_; (try clear hb); (try clear hb2); (try clear hk); (try clear hi)) | ((with_reducible refine gate_callee (f := 27) rfl ?_); refine goesL_ (some 25) rfl rfl Try.func27 (by kernel_rfl) rfl #[.int .u8 a0, .int .u8 a1, .int .u8 a2] rfl (by (try simp only [List.map_toArray, List.map_cons, List.map_nil]); first | done | rfl | (simp only [List.length_drop, List.length_take]; rfl)) ?_; (with_reducible refine (lockfastref05_Small.calls a0 a1 a2 t165 t166 _ A7.out).mono ?_); rintro e w11 ⟨rfl, hb⟩; refine ⟨_, rfl, ?_⟩; have n0_ := Aside0.mk (below_step (by repeat (first | (with_reducible first | exact HB.out | apply below_alloc | apply pw_below_drewN | apply below_drew1) | exact HB.out)) hb); clear HB; have HB := n0_; clear n0_; (try clear hb); (try clear hb2); (try clear hk); (try clear hi)) | ((with_reducible refine gate_dst (N := 12) rfl ?_); (try (refine gate_guard (by rfl) ?_; dsimp only)); refine box_event ?hg (N := 12) ?hd (cs := #[.int .i64 0, .int .i64 0]) (t := 40) ?hr ?_; (case hd => rfl); (case hg => rfl); (case hr => first | (go_simp; done) | (go_simp; rfl)); intro gb167 hg w12 hbox hb; have n0_ := Aside0.mk (below_step (by repeat (first | (with_reducible first | exact HB.out | apply below_alloc | apply pw_below_drewN | apply below_drew1) | exact HB.out)) hb); have n1_ := Aside0.mk (hbox); have n2_ := Aside0.mk ((by rw [hg]; exact (below_size (by repeat (first | (with_reducible first | exact HB.out | apply below_alloc | apply pw_below_drewN | apply below_drew1) | exact HB.out))) : w.heap.size ≤ gb167)); have n3_ := Aside0.mk ((by rw [hg]; exact (below_size (by repeat (first | (with_reducible first | exact HB.out | apply below_alloc | apply pw_below_drewN | apply below_drew1) | exact HB.out))) : w.heap.size ≤ gb167)); clear HB; have HB := n0_; have BK167 := n1_; have GW167 := n2_; have GE167 := n3_; clear n0_ n1_ n2_ n3_; clear hb hbox hg; have hcz13_0 : w12.cell? ⟨gb167, 0, none⟩ = some (.int .i64 0) := (blk_cell BK167.out 0).trans rfl; have hcz13_1 : w12.cell? ⟨gb167, 1, none⟩ = some (.int .i64 0) := (blk_cell BK167.out 1).trans rfl; have hfz13_0 := blk_frozen BK167.out 0; have hfz13_1 := blk_frozen BK167.out 1) | ((with_reducible refine gate_callee (f := 23) rfl ?_); refine goesL_ (some 28) rfl rfl Try.func23 (by kernel_rfl) rfl #[.agg #[.int .i64 t165, .int .i64 t166]] rfl (by (try simp only [List.map_toArray, List.map_cons, List.map_nil]); first | done | rfl | (simp only [List.length_drop, List.length_take]; rfl)) ?_; (with_reducible refine (super_Encode.calls t165 t166 t168 t171 _ A8.out).mono ?_); rintro e w14 ⟨v169, rfl, ho0, hb⟩; refine ⟨_, rfl, ?_⟩; have n0_ := Aside0.mk (Kd.R_lower ho0 (below_size (by repeat (first | (with_reducible first | exact HB.out | apply below_alloc | apply pw_below_drewN | apply below_drew1 | refine below_set ?_ GE167.out) | exact HB.out)))); have n1_ := Aside0.mk (blk_below (g := gb167) (o := .cells #[.int .i64 t165, .int .i64 t166] 40 (0, 0)) (by (with_reducible repeat (first | refine blk_drewN ?_ _ | refine blk_drew ?_ | refine blk_alloc ?_ _)); refine blk_put (cs := #[.int .i64 t165, .int .i64 0]) ?_ 1 _ rfl; (with_reducible repeat (first | refine blk_drewN ?_ _ | refine blk_drew ?_ | refine blk_alloc ?_ _)); refine blk_put (cs := #[.int .i64 0, .int .i64 0]) ?_ 0 _ rfl; (with_reducible repeat (first | refine blk_drewN ?_ _ | refine blk_drew ?_ | refine blk_alloc ?_ _)); exact BK167.out) hb); have n2_ := Aside0.mk (below_step (by repeat (first | (with_reducible first | exact HB.out | apply below_alloc | apply pw_below_drewN | apply below_drew1 | refine below_set ?_ GE167.out) | exact HB.out)) hb); clear BK167; clear HB; have HO170 := n0_; have BK167 := n1_; have HB := n2_; clear n0_ n1_ n2_; (try clear hb); (try clear hb2); (try clear hk); (try clear hi); (try clear ho0)))
  (try simp only [Act.put, List.setIfInBounds_toArray, List.set_cons_zero, List.set_cons_succ])
  go_cut [37] (fun v37 wc => ∃ (kq : Nat) (x37_8 : Bool), v37 = .bool x37_8 ∧ Aside0 (lockfastlaw06_SuperBursts.j0 kq a3 a4 t164 t168 x37_8 t165 t166 = some r) ∧ Aside0 (kq ≤ k) ∧ Aside0 (Kd.R (Kd.int .u64) 58 wc w.heap.size (fun _ => True) v169 t168) ∧ Aside0 (wc.heap[gb167]? = some (.cells #[.int .i64 t165, .int .i64 t166] 40 (0, 0))) ∧ Aside0 (Below w.heap.size w wc))
  case first =>
    have H := HC9.out
    clear HC9
    by_cases c15 : t171 = 0
    · rw [if_pos c15] at H
      have c15b0 : (t171 == 0) = true := beq_iff_eq.mpr c15
      have c15b1 : (t171 != 0) = false := bne_eq_false_iff_eq.mpr c15
      clear c15
      (first | rw [c15b0] | (simp only [i64_w, i32_w]; rw [c15b0]) | skip)
      have H' := Aside0.mk H
      clear H
      obtain ⟨Ao16, co16, eo16⟩ := Kd.R_slice HO170.out
      subst eo16
      go_wp2
      go_meet
      case rel => exact ⟨_, (((t168.length : Int) != 8)), (by first | rfl | (simp; done) | (simp [*]; done)), (by first | exact H' | (subst_vars; exact H')), ⟨by first | omega | exact Nat.le_refl _⟩, ⟨by (with_reducible repeat (first | apply Kd.R_alloc | apply Kd.R_drewN | apply Kd.R_drew)); exact HO170.out⟩, ⟨by (with_reducible repeat (first | refine blk_drewN ?_ _ | refine blk_drew ?_ | refine blk_alloc ?_ _)); exact BK167.out⟩, ⟨by repeat (first | (with_reducible first | exact HB.out | apply below_alloc | apply pw_below_drewN | apply below_drew1 | refine below_set ?_ GE167.out) | exact HB.out)⟩⟩
    · rw [if_neg c15] at H
      have c15b0 : (t171 == 0) = false := beq_eq_false_iff_ne.mpr c15
      have c15b1 : (t171 != 0) = true := bne_iff_ne.mpr c15
      (first | rw [c15b0] | (simp only [i64_w, i32_w]; rw [c15b0]) | skip)
      have H' := Aside0.mk H
      clear H
      go_wp2
      go_meet
      case rel => exact ⟨_, (true), (by first | rfl | (simp; done) | (simp [*]; done)), (by first | exact H' | (subst_vars; exact H')), ⟨by first | omega | exact Nat.le_refl _⟩, ⟨by (with_reducible repeat (first | apply Kd.R_alloc | apply Kd.R_drewN | apply Kd.R_drew)); exact HO170.out⟩, ⟨by (with_reducible repeat (first | refine blk_drewN ?_ _ | refine blk_drew ?_ | refine blk_alloc ?_ _)); exact BK167.out⟩, ⟨by repeat (first | (with_reducible first | exact HB.out | apply below_alloc | apply pw_below_drewN | apply below_drew1 | refine below_set ?_ GE167.out) | exact HB.out)⟩⟩
  case rest =>
    clear HC9
    try clear c1
    try clear c2
    try clear p2
    try clear c12
    try clear c15
    try clear c15b0
    try clear c15b1
    try clear hcz13_0
    try clear hcz13_1
    try clear hfz13_0
    try clear hfz13_1
    obtain ⟨kq, x37_8, rfl, HA, HJ8, HO_13, BK167, HB⟩ := hcut
    cases kq with
    | zero => exact absurd HA.out (by simp [lockfastlaw06_SuperBursts.j0])
    | succ kj8 =>
      have H := HA.out
      clear HA
      simp only [lockfastlaw06_SuperBursts.j0] at H
      by_cases c17 : x37_8 = true
      · subst c17
        have H1 : (some false) = some r := by rw [if_pos rfl] at H; exact H
        clear H
        have H := H1
        clear H1
        obtain rfl := Option.some.inj H
        exact absurd HRT.out (by decide)
      · replace c17 := Bool.eq_false_iff.mpr c17
        subst c17
        have H1 : ((some (([] : List Int) : List Int)).bind fun y172 => (if y172.length + t168.length < 17592186044416 then ((some (y172 ++ t168 : List Int)).bind fun y175 => (if 0 ≤ (wrap64 (t165 - 8)) then (if y175.length + (wrap64 (t165 - 8) : Int).toNat < 17592186044416 then (lockfastlaw06_SuperBursts.l0 kj8 a4 t164 t168 (y175 ++ List.replicate (wrap64 (t165 - 8) : Int).toNat 0) (Int.tmod (wrap64 (a3)) 512) 0) else (none)) else (none))) else (none))) = some r := by rw [if_neg (show ¬ (false = true) by decide)] at H; exact H
        clear H
        have H := H1
        clear H1
        obtain ⟨y172, hy172⟩ : ∃ y_ : List Int, y_ = (([] : List Int)) := ⟨_, rfl⟩
        replace H : (if y172.length + t168.length < 17592186044416 then ((some (y172 ++ t168 : List Int)).bind fun y175 => (if 0 ≤ (wrap64 (t165 - 8)) then (if y175.length + (wrap64 (t165 - 8) : Int).toNat < 17592186044416 then (lockfastlaw06_SuperBursts.l0 kj8 a4 t164 t168 (y175 ++ List.replicate (wrap64 (t165 - 8) : Int).toNat 0) (Int.tmod (wrap64 (a3)) 512) 0) else (none)) else (none))) else (none)) = some r := by first | (rw [hy172]; with_reducible exact H) | (have H2_ := (Option.bind_some _ _).symm.trans H; rw [hy172]; with_reducible exact H2_) | (have H2_ := (Option.bind_some _ _).symm.trans H; with_reducible exact H2_) | with_reducible exact H | (rw [hy172]; exact H) | exact H
        have Ny172 := Aside0.mk hy172
        clear hy172
        by_cases c18 : y172.length + t168.length < 17592186044416
        · rw [if_pos c18] at H
          have LMc18 := Aside0.mk c18
          clear c18
          obtain ⟨y175, hy175⟩ : ∃ y_ : List Int, y_ = (y172 ++ t168) := ⟨_, rfl⟩
          replace H : (if 0 ≤ (wrap64 (t165 - 8)) then (if y175.length + (wrap64 (t165 - 8) : Int).toNat < 17592186044416 then (lockfastlaw06_SuperBursts.l0 kj8 a4 t164 t168 (y175 ++ List.replicate (wrap64 (t165 - 8) : Int).toNat 0) (Int.tmod (wrap64 (a3)) 512) 0) else (none)) else (none)) = some r := by first | (rw [hy175]; with_reducible exact H) | (have H2_ := (Option.bind_some _ _).symm.trans H; rw [hy175]; with_reducible exact H2_) | (have H2_ := (Option.bind_some _ _).symm.trans H; with_reducible exact H2_) | with_reducible exact H | (rw [hy175]; exact H) | exact H
          have Ny175 := Aside0.mk hy175
          clear hy175
          obtain ⟨ji19, hji19⟩ : ∃ j_ : Int, (wrap64 (t165 - 8)) = j_ := ⟨_, rfl⟩
          replace H : (if 0 ≤ (ji19) then (if y175.length + (ji19 : Int).toNat < 17592186044416 then (lockfastlaw06_SuperBursts.l0 kj8 a4 t164 t168 (y175 ++ List.replicate (ji19 : Int).toNat 0) (Int.tmod (wrap64 (a3)) 512) 0) else (none)) else (none)) = some r := by first | (rw [hji19] at H; exact H) | (simp only [hji19] at H ⊢; exact H)
          have hji19w : (IntKind.i64.wrap (t165 - 8)) = ji19 := (i64_w _).trans hji19
          by_cases c20 : 0 ≤ (ji19)
          · rw [if_pos c20] at H
            have c20b0 := eq_true c20
            have c20b1 : decide (0 ≤ (ji19)) = true := decide_eq_true c20
            clear c20
            by_cases c21 : y175.length + (ji19 : Int).toNat < 17592186044416
            · rw [if_pos c21] at H
              have LMc21 := Aside0.mk c21
              clear c21
              obtain ⟨y178, hy178⟩ : ∃ y_ : List Int, y_ = (y175 ++ List.replicate (ji19 : Int).toNat 0) := ⟨_, rfl⟩
              replace H : (lockfastlaw06_SuperBursts.l0 kj8 a4 t164 t168 y178 (Int.tmod (wrap64 (a3)) 512) 0) = some r := by first | (rw [hy178]; with_reducible exact H) | (have H2_ := (Option.bind_some _ _).symm.trans H; rw [hy178]; with_reducible exact H2_) | (have H2_ := (Option.bind_some _ _).symm.trans H; with_reducible exact H2_) | with_reducible exact H | (rw [hy178]; exact H) | exact H
              have Ny178 := Aside0.mk hy178
              clear hy178
              have H' := Aside0.mk H
              clear H
              try go_wp2
              have n0_ := Aside0.mk (Kd.R_drew HO_13.out)
              have n1_ := Aside0.mk (blk_drew BK167.out)
              have n2_ := Aside0.mk (below_drew1 HB.out)
              clear HO_13
              clear BK167
              clear HB
              have HO_13 := n0_
              have BK167 := n1_
              have HB := n2_
              clear n0_ n1_ n2_
              refine start_ (n := 8) (S := fun w' => w'.cell? ⟨gb167, 0, none⟩ = some (.int .i64 t165) ∧ w'.cell? ⟨gb167, 1, none⟩ = some (.int .i64 t166)) (ds := []) #[false, false, false, false, false, false, false, false] (by kernel_rfl) rfl rfl ⟨(blk_cell BK167.out 0).trans rfl, (blk_cell BK167.out 1).trans rfl⟩ (fun hHeld => ?_); refine with_tabW lockfastlaw06_SuperBursts.tab6 lockfastlaw06_SuperBursts.bits6 (fun HT_ HW_ => ?_)
              generalize wc.drew = w22 at HO_13 BK167 HB hHeld ⊢
              refine pure_ (i := 1) (N := some 39) (v := ?_) (a' := ?_) #[false, true, false, false, false, false, false, false] rfl rfl (any_of HT_.out (by kernel_rfl)) (fun _ _ _ h => h) (Or.inl ⟨by rfl, ?_⟩) ?_ ?_
              rotate_left
              · intro w'
                go_simp
                with_reducible rfl
              rotate_left
              · simp only [Act.put, List.setIfInBounds_toArray, List.set_cons_zero, List.set_cons_succ, i64_w, i32_w]
                rfl
              refine pure_ (i := 3) (N := some 41) (v := ?_) (a' := ?_) #[false, true, false, true, false, false, false, false] rfl rfl (any_of HT_.out (by kernel_rfl)) (fun _ _ _ h => h) (Or.inl ⟨by rfl, ?_⟩) ?_ ?_
              rotate_left
              · intro w'
                go_simp
                with_reducible rfl
              rotate_left
              · simp only [Act.put, List.setIfInBounds_toArray, List.set_cons_zero, List.set_cons_succ, i64_w, i32_w]
                rfl
              refine take_ (i := 4) (N := some 42) (v := ?_) (a' := ?_) #[false, true, false, true, true, false, false, false] rfl rfl (take_ofW HT_.out HW_.out (by kernel_rfl)) (fun _ _ _ h => h) (Or.inl ⟨by rfl, ?_⟩) hHeld ?_ ?_
              rotate_left
              · rintro w' ⟨s0, s1⟩
                go_simp
                with_reducible rfl
              rotate_left
              · simp only [Act.put, List.setIfInBounds_toArray, List.set_cons_zero, List.set_cons_succ, i64_w, i32_w]
                rfl
              refine pure_ (i := 5) (N := some 43) (v := ?_) (a' := ?_) #[false, true, false, true, true, true, false, false] rfl rfl (any_of HT_.out (by kernel_rfl)) (fun _ _ _ h => h) (Or.inl ⟨by rfl, ?_⟩) ?_ ?_
              rotate_left
              · intro w'
                go_simp
                with_reducible rfl
              rotate_left
              · simp only [Act.put, List.setIfInBounds_toArray, List.set_cons_zero, List.set_cons_succ, i64_w, i32_w]
                rfl
              refine one_ (i := 0) (N := some 38) #[true, true, false, true, true, true, false, false] rfl rfl (one_of HT_.out (by kernel_rfl)) (by decide) (fun K hK => ?_)
              refine Kd.R_lit_step (Kd.int .u64) _ 30 ?hg (N := 38) ?hd (xs := ([] : List Int)) (inner := []) (ok := fun _ => True) (okp := fun _ => True) ?hr ?hp (fun _ hk => hk) trivial (Below.refl _ _) (Nat.le_refl _) (by simp) ?_; (case hd => rfl); (case hg => rfl); (case hr => first | (go_simp; done) | (go_simp; rfl)); (case hp => exact (Reps.none _ _))
              intro v173 w23 ho24 hb hg_ hnew_
              clear hg_ hnew_
              (first | rw [← Ny172.out] at ho24 | (simp only [Int.reduceToNat] at ho24; rw [← Ny172.out] at ho24))
              have n0_ := Aside0.mk (Kd.R_below (by (with_reducible repeat (first | apply Kd.R_alloc | apply Kd.R_drewN | apply Kd.R_drew)); exact HO_13.out) hb)
              have n1_ := Aside0.mk (Kd.R_lower ho24 (below_size (by repeat (first | (with_reducible first | exact HB.out | apply below_alloc | apply pw_below_drewN | apply below_drew1 | refine below_set ?_ GE167.out) | exact HB.out))))
              have n2_ := Aside0.mk (blk_below (g := gb167) (o := .cells #[.int .i64 t165, .int .i64 t166] 40 (0, 0)) (by (with_reducible repeat (first | refine blk_drewN ?_ _ | refine blk_drew ?_ | refine blk_alloc ?_ _)); exact BK167.out) hb)
              have n3_ := Aside0.mk (below_step (by repeat (first | (with_reducible first | exact HB.out | apply below_alloc | apply pw_below_drewN | apply below_drew1 | refine below_set ?_ GE167.out) | exact HB.out)) hb)
              clear HO_13
              clear BK167
              clear HB
              have HO_13 := n0_
              have HO174 := n1_
              have BK167 := n2_
              have HB := n3_
              clear n0_ n1_ n2_ n3_
              clear hb ho24
              obtain ⟨Ao26, co26, eo26⟩ := Kd.R_slice HO_13.out
              (first | subst eo26 | (injection eo26 with f1_ f2_ f3_; have f4_ := f1_.symm; have f5_ := f3_.symm; clear f1_ f2_ f3_; subst f4_; subst f5_))
              refine hK.out _ _ ⟨(blk_cell BK167.out 0).trans rfl, (blk_cell BK167.out 1).trans rfl⟩ (fun hHeld => ?_)
              clear hK K
              refine norm_ (a' := ?_) ?_ ?_
              rotate_left
              · show Act.put _ (some 38) _ = _
                simp only [Act.put, List.setIfInBounds_toArray, List.set_cons_zero, List.set_cons_succ, i64_w, i32_w]
                rfl
              refine one_ (i := 2) (N := some 40) #[true, true, true, true, true, true, false, false] rfl rfl (one_of HT_.out (by kernel_rfl)) (by decide) (fun K hK => ?_)
              refine Kd.R_append_rows_step (Kd.int .u64) (w0 := w) w.heap.size (by rfl) (.tmp 38) (.tmp 39) 22 30 (.int .u64 0) 8 rfl Try.underlying22 info30 rfl (by decide) (by omega) v173 y172 t168 _ _ _ (fun _ => True) (fun _ => False) rfl rfl ?aO ?aR (fun _ _ h => h) (fun _ h => h.elim) ?aF ?aB ?aS ?aL ?_
              (case aR => repeat (first | exact (Kd.R_reads' HO_13.out).2.2 | (with_reducible refine Kd.C_alloc ?_ _) | (with_reducible refine Kd.C_drewN ?_ _) | (with_reducible refine Kd.C_drew ?_)))
              (case aB => exact (by repeat (first | (with_reducible first | exact HB.out | apply below_alloc | apply pw_below_drewN | apply below_drew1 | refine below_set ?_ GE167.out) | exact HB.out)))
              (case aF => exact (fun _ _ => trivial))
              (case aO => exact (by (with_reducible repeat (first | apply Kd.R_alloc | apply Kd.R_drewN | apply Kd.R_drew)); exact HO174.out))
              (case aS => exact (below_size (by repeat (first | (with_reducible first | exact HB.out | apply below_alloc | apply pw_below_drewN | apply below_drew1 | refine below_set ?_ GE167.out) | exact HB.out))))
              (case aL => have := LMc18.out; omega)
              intro v176 w25 ho hb hg hat
              rw [← Ny175.out] at ho
              have n0_ := Aside0.mk (Kd.R_over' (by (with_reducible repeat (first | apply Kd.R_alloc | apply Kd.R_drewN | apply Kd.R_drew)); exact HO_13.out) (Kd.R_typed (by (with_reducible repeat (first | apply Kd.R_alloc | apply Kd.R_drewN | apply Kd.R_drew)); exact HO174.out)) (by decide) hg)
              have n1_ := Aside0.mk (blk_grown (g := gb167) (o := .cells #[.int .i64 t165, .int .i64 t166] 40 (0, 0)) (by (with_reducible repeat (first | refine blk_drewN ?_ _ | refine blk_drew ?_ | refine blk_alloc ?_ _)); exact BK167.out) hg (Kd.R_ne HO174.out BK167.out (by decide)))
              have n2_ := Aside0.mk (hb)
              have n3_ := Aside0.mk (ho)
              clear HO_13
              clear BK167
              clear HB
              clear HO174
              have HO_13 := n0_
              have BK167 := n1_
              have HB := n2_
              have HO177 := n3_
              clear n0_ n1_ n2_ n3_
              clear ho hb hg hat
              refine hK.out _ _ ⟨(blk_cell BK167.out 0).trans rfl, (blk_cell BK167.out 1).trans rfl⟩ (fun hHeld => ?_)
              clear hK K
              refine norm_ (a' := ?_) ?_ ?_
              rotate_left
              · show Act.put _ (some 40) _ = _
                simp only [Act.put, List.setIfInBounds_toArray, List.set_cons_zero, List.set_cons_succ, i64_w, i32_w]
                rfl
              refine one_ (i := 6) (N := some 44) #[true, true, true, true, true, true, true, false] rfl rfl (one_of HT_.out (by kernel_rfl)) (by decide) (fun K hK => ?_)
              refine Kd.R_append_zeros_step (Kd.int .u64) (w0 := w) w.heap.size (by rfl) (.tmp 40) (.tmp 43) 22 3 30 (.int .u64 0) 8 rfl Try.underlying22 Try.underlying3 info30 rfl (by decide) (by omega) v176 y175 0 (ji19 : Int) (fun _ => True) rfl rfl rfl ?aF ?aO (of_decide_eq_true (by first | (with_reducible assumption) | assumption)) ?aB ?aS ?aL ?_
              (case aB => exact (by repeat (first | (with_reducible first | exact HB.out | apply below_alloc | apply pw_below_drewN | apply below_drew1 | refine below_set ?_ GE167.out) | exact HB.out)))
              (case aF => exact (fun _ _ => trivial))
              (case aO => exact (by (with_reducible repeat (first | apply Kd.R_alloc | apply Kd.R_drewN | apply Kd.R_drew)); exact HO177.out))
              (case aS => exact (below_size (by repeat (first | (with_reducible first | exact HB.out | apply below_alloc | apply pw_below_drewN | apply below_drew1 | refine below_set ?_ GE167.out) | exact HB.out))))
              (case aL => have := LMc21.out; omega)
              intro v179 w27 ho hb hg hat
              rw [← Ny178.out] at ho
              have n0_ := Aside0.mk (Kd.R_over' (by (with_reducible repeat (first | apply Kd.R_alloc | apply Kd.R_drewN | apply Kd.R_drew)); exact HO_13.out) (Kd.R_typed (by (with_reducible repeat (first | apply Kd.R_alloc | apply Kd.R_drewN | apply Kd.R_drew)); exact HO177.out)) (by decide) hg)
              have n1_ := Aside0.mk (blk_grown (g := gb167) (o := .cells #[.int .i64 t165, .int .i64 t166] 40 (0, 0)) (by (with_reducible repeat (first | refine blk_drewN ?_ _ | refine blk_drew ?_ | refine blk_alloc ?_ _)); exact BK167.out) hg (Kd.R_ne HO177.out BK167.out (by decide)))
              have n2_ := Aside0.mk (hb)
              have n3_ := Aside0.mk (ho)
              clear HO_13
              clear BK167
              clear HB
              clear HO177
              have HO_13 := n0_
              have BK167 := n1_
              have HB := n2_
              have HO180 := n3_
              clear n0_ n1_ n2_ n3_
              clear ho hb hg hat
              refine hK.out _ _ ⟨(blk_cell BK167.out 0).trans rfl, (blk_cell BK167.out 1).trans rfl⟩ (fun hHeld => ?_)
              clear hK K
              refine norm_ (a' := ?_) ?_ ?_
              rotate_left
              · show Act.put _ (some 44) _ = _
                simp only [Act.put, List.setIfInBounds_toArray, List.set_cons_zero, List.set_cons_succ, i64_w, i32_w]
                rfl
              refine pure_ (i := 7) (N := some 15) (v := ?_) (a' := ?_) #[true, true, true, true, true, true, true, true] rfl rfl (any_of HT_.out (by kernel_rfl)) (fun _ _ _ h => h) (Or.inl ⟨by rfl, ?_⟩) ?_ ?_
              rotate_left
              · intro w'
                go_simp
                with_reducible rfl
              rotate_left
              · simp only [Act.put, List.setIfInBounds_toArray, List.set_cons_zero, List.set_cons_succ, i64_w, i32_w]
                rfl
              refine done_ (done_of HT_.out (by kernel_rfl)) ?_
              try go_wp2
              go_loopg [17] kj8 (fun kq v17 w' => ∃ (x15_2 : List Int) (x17_2 : Int), v17 = .int .i64 x17_2 ∧ Aside0 (lockfastlaw06_SuperBursts.l0 kq a4 t164 t168 x15_2 (Int.tmod (wrap64 (a3)) 512) x17_2 = some r) ∧ Aside0 (kq ≤ kj8) ∧ Aside0 (Kd.R (Kd.int .u64) 58 w' w.heap.size (fun _ => True) (.slice Ao26 t168.length co26) t168) ∧ Aside0 (Kd.R (Kd.int .u64) 30 w' w.heap.size (fun _ => True) v179 x15_2) ∧ Aside0 (w'.heap[gb167]? = some (.cells #[.int .i64 t165, .int .i64 t166] 40 (0, 0))) ∧ Aside0 (Below w.heap.size w w'))
              case atStart => exact ⟨(y178), (0), (by first | rfl | (simp; done) | (simp [*]; done)), H', ⟨Nat.le_refl _⟩, ⟨by (with_reducible repeat (first | apply Kd.R_alloc | apply Kd.R_drewN | apply Kd.R_drew)); exact HO_13.out⟩, ⟨by (with_reducible repeat (first | apply Kd.R_alloc | apply Kd.R_drewN | apply Kd.R_drew)); exact HO180.out⟩, ⟨by (with_reducible repeat (first | refine blk_drewN ?_ _ | refine blk_drew ?_ | refine blk_alloc ?_ _)); exact BK167.out⟩, ⟨by repeat (first | (with_reducible first | exact HB.out | apply below_alloc | apply pw_below_drewN | apply below_drew1 | refine below_set ?_ GE167.out) | exact HB.out)⟩⟩
              case round =>
                clear H'
                try clear c1
                try clear c2
                try clear p2
                try clear p6
                try clear c12
                try clear c15
                try clear c15b0
                try clear c15b1
                try clear c17
                try clear c18
                try clear c20
                try clear c20b0
                try clear c20b1
                try clear c21
                try clear c22
                try clear c23
                try clear c27
                try clear hcz13_0
                try clear hcz13_1
                try clear hfz13_0
                try clear hfz13_1
                try clear p2
                obtain ⟨x15_2, x17_2, rfl, HA, HK2, HO_13, HO_15, BK167, HB⟩ := hrel
                cases gk with
                | zero => exact absurd HA.out (by simp [lockfastlaw06_SuperBursts.l0])
                | succ k2 =>
                  have H := HA.out
                  clear HA
                  simp only [lockfastlaw06_SuperBursts.l0] at H
                  have HC28 := Aside0.mk H
                  clear H
                  go_upto_region 9 with (fail)
                  go_cut [55] (fun v55 wc => ∃ (kq : Nat) (x55_27 : Bool), v55 = .bool x55_27 ∧ Aside0 (lockfastlaw06_SuperBursts.j2 kq a4 t164 t168 x15_2 (Int.tmod (wrap64 (a3)) 512) x17_2 x55_27 = some r) ∧ Aside0 (kq ≤ k2) ∧ Aside0 (Kd.R (Kd.int .u64) 58 wc w.heap.size (fun _ => True) (.slice Ao26 t168.length co26) t168) ∧ Aside0 (Kd.R (Kd.int .u64) 30 wc w.heap.size (fun _ => True) v179 x15_2) ∧ Aside0 (wc.heap[gb167]? = some (.cells #[.int .i64 t165, .int .i64 t166] 40 (0, 0))) ∧ Aside0 (Below w.heap.size w wc))
                  case first =>
                    have H := HC28.out
                    clear HC28
                    by_cases c29 : x17_2 < 32
                    · rw [if_pos c29] at H
                      have c29b0 : decide (x17_2 < 32) = true := decide_eq_true c29
                      clear c29
                      (first | rw [c29b0] | (simp only [i64_w, i32_w]; rw [c29b0]) | skip)
                      have H' := Aside0.mk H
                      clear H
                      go_wp2
                      go_meet
                      case rel => exact ⟨_, (decide ((wrap64 ((Int.tmod (wrap64 (a3)) 512) + x17_2)) < 512)), (by first | rfl | (simp; done) | (simp [*]; done)), (by first | exact H' | (subst_vars; exact H')), ⟨by have := HJ8.out; have := HK2.out; first | omega | exact Nat.le_refl _⟩, ⟨by (with_reducible repeat (first | apply Kd.R_alloc | apply Kd.R_drewN | apply Kd.R_drew)); exact HO_13.out⟩, ⟨by (with_reducible repeat (first | apply Kd.R_alloc | apply Kd.R_drewN | apply Kd.R_drew)); exact HO_15.out⟩, ⟨by (with_reducible repeat (first | refine blk_drewN ?_ _ | refine blk_drew ?_ | refine blk_alloc ?_ _)); exact BK167.out⟩, ⟨by repeat (first | (with_reducible first | exact HB.out | apply below_alloc | apply pw_below_drewN | apply below_drew1 | refine below_set ?_ GE167.out) | exact HB.out)⟩⟩
                    · rw [if_neg c29] at H
                      have c29b0 : decide (x17_2 < 32) = false := decide_eq_false c29
                      clear c29
                      (first | rw [c29b0] | (simp only [i64_w, i32_w]; rw [c29b0]) | skip)
                      have H' := Aside0.mk H
                      clear H
                      go_wp2
                      go_meet
                      case rel => exact ⟨_, (false), (by first | rfl | (simp; done) | (simp [*]; done)), (by first | exact H' | (subst_vars; exact H')), ⟨by have := HJ8.out; have := HK2.out; first | omega | exact Nat.le_refl _⟩, ⟨by (with_reducible repeat (first | apply Kd.R_alloc | apply Kd.R_drewN | apply Kd.R_drew)); exact HO_13.out⟩, ⟨by (with_reducible repeat (first | apply Kd.R_alloc | apply Kd.R_drewN | apply Kd.R_drew)); exact HO_15.out⟩, ⟨by (with_reducible repeat (first | refine blk_drewN ?_ _ | refine blk_drew ?_ | refine blk_alloc ?_ _)); exact BK167.out⟩, ⟨by repeat (first | (with_reducible first | exact HB.out | apply below_alloc | apply pw_below_drewN | apply below_drew1 | refine below_set ?_ GE167.out) | exact HB.out)⟩⟩
                  case rest =>
                    clear HC28
                    try clear c1
                    try clear c2
                    try clear p2
                    try clear p6
                    try clear c12
                    try clear c15
                    try clear c15b0
                    try clear c15b1
                    try clear c17
                    try clear c18
                    try clear c20
                    try clear c20b0
                    try clear c20b1
                    try clear c21
                    try clear c22
                    try clear c23
                    try clear c27
                    try clear c29
                    try clear c29b0
                    try clear hcz13_0
                    try clear hcz13_1
                    try clear hfz13_0
                    try clear hfz13_1
                    try clear p2
                    try clear p6
                    obtain ⟨kq, x55_27, rfl, HA, HJ27, HO_13, HO_15, BK167, HB⟩ := hcut
                    cases kq with
                    | zero => exact absurd HA.out (by simp [lockfastlaw06_SuperBursts.j2])
                    | succ kj27 =>
                      have H := HA.out
                      clear HA
                      simp only [lockfastlaw06_SuperBursts.j2] at H
                      by_cases c30 : x55_27 = true
                      · subst c30
                        have H1 : (if 0 ≤ x17_2 then (if (Go.bits .and .u32 (shr .u32 a4 x17_2) 1) = 1 then (if 0 ≤ (wrap64 (Int.tdiv (wrap64 ((Int.tmod (wrap64 (a3)) 512) + x17_2)) 64)) then (if (wrap64 (Int.tdiv (wrap64 ((Int.tmod (wrap64 (a3)) 512) + x17_2)) 64)) < (x15_2.length : Int) then (if 0 ≤ (Int.tmod (wrap64 ((Int.tmod (wrap64 (a3)) 512) + x17_2)) 64) then (lockfastlaw06_SuperBursts.l0 kj27 a4 t164 t168 (x15_2.set ((wrap64 (Int.tdiv (wrap64 ((Int.tmod (wrap64 (a3)) 512) + x17_2)) 64)) : Int).toNat (Go.bits .xor .u64 (rd x15_2 (wrap64 (Int.tdiv (wrap64 ((Int.tmod (wrap64 (a3)) 512) + x17_2)) 64))) (shl .u64 1 (Int.tmod (wrap64 ((Int.tmod (wrap64 (a3)) 512) + x17_2)) 64)))) (Int.tmod (wrap64 (a3)) 512) (wrap64 (x17_2 + 1))) else (none)) else (none)) else (none)) else (lockfastlaw06_SuperBursts.l0 kj27 a4 t164 t168 x15_2 (Int.tmod (wrap64 (a3)) 512) (wrap64 (x17_2 + 1)))) else (none)) = some r := by rw [if_pos rfl] at H; exact H
                        clear H
                        have H := H1
                        clear H1
                        by_cases c31 : 0 ≤ x17_2
                        · rw [if_pos c31] at H
                          have c31b0 := eq_true c31
                          have c31b1 : decide (0 ≤ x17_2) = true := decide_eq_true c31
                          clear c31
                          obtain ⟨ji32, hji32⟩ : ∃ j_ : Int, (shr .u32 a4 x17_2) = j_ := ⟨_, rfl⟩
                          replace H : (if (Go.bits .and .u32 (ji32) 1) = 1 then (if 0 ≤ (wrap64 (Int.tdiv (wrap64 ((Int.tmod (wrap64 (a3)) 512) + x17_2)) 64)) then (if (wrap64 (Int.tdiv (wrap64 ((Int.tmod (wrap64 (a3)) 512) + x17_2)) 64)) < (x15_2.length : Int) then (if 0 ≤ (Int.tmod (wrap64 ((Int.tmod (wrap64 (a3)) 512) + x17_2)) 64) then (lockfastlaw06_SuperBursts.l0 kj27 a4 t164 t168 (x15_2.set ((wrap64 (Int.tdiv (wrap64 ((Int.tmod (wrap64 (a3)) 512) + x17_2)) 64)) : Int).toNat (Go.bits .xor .u64 (rd x15_2 (wrap64 (Int.tdiv (wrap64 ((Int.tmod (wrap64 (a3)) 512) + x17_2)) 64))) (shl .u64 1 (Int.tmod (wrap64 ((Int.tmod (wrap64 (a3)) 512) + x17_2)) 64)))) (Int.tmod (wrap64 (a3)) 512) (wrap64 (x17_2 + 1))) else (none)) else (none)) else (none)) else (lockfastlaw06_SuperBursts.l0 kj27 a4 t164 t168 x15_2 (Int.tmod (wrap64 (a3)) 512) (wrap64 (x17_2 + 1)))) = some r := by first | (rw [hji32] at H; exact H) | (simp only [hji32] at H ⊢; exact H)
                          have hji32_ : (a4 / 2 ^ min x17_2.toNat 32) = ji32 := hji32
                          have hji32z : x17_2 ≤ 32 → (a4 / 2 ^ x17_2.toNat) = ji32 := shr_small hji32
                          by_cases c33 : (Go.bits .and .u32 (ji32) 1) = 1
                          · rw [if_pos c33] at H
                            have c33b0 : ((Go.bits .and .u32 (ji32) 1) == 1) = true := beq_iff_eq.mpr c33
                            have c33b1 : ((Go.bits .and .u32 (ji32) 1) != 1) = false := bne_eq_false_iff_eq.mpr c33
                            clear c33
                            obtain ⟨ji34, hji34⟩ : ∃ j_ : Int, (wrap64 (Int.tdiv (wrap64 ((Int.tmod (wrap64 (a3)) 512) + x17_2)) 64)) = j_ := ⟨_, rfl⟩
                            replace H : (if 0 ≤ (ji34) then (if (ji34) < (x15_2.length : Int) then (if 0 ≤ (Int.tmod (wrap64 ((Int.tmod (wrap64 (a3)) 512) + x17_2)) 64) then (lockfastlaw06_SuperBursts.l0 kj27 a4 t164 t168 (x15_2.set ((ji34) : Int).toNat (Go.bits .xor .u64 (rd x15_2 (ji34)) (shl .u64 1 (Int.tmod (wrap64 ((Int.tmod (wrap64 (a3)) 512) + x17_2)) 64)))) (Int.tmod (wrap64 (a3)) 512) (wrap64 (x17_2 + 1))) else (none)) else (none)) else (none)) = some r := by first | (rw [hji34] at H; exact H) | (simp only [hji34] at H ⊢; exact H)
                            have hji34w : (IntKind.i64.wrap (Int.tdiv (wrap64 ((Int.tmod (wrap64 (a3)) 512) + x17_2)) 64)) = ji34 := (i64_w _).trans hji34
                            by_cases c35 : 0 ≤ (ji34)
                            · rw [if_pos c35] at H
                              have c35b0 : decide (0 ≤ (ji34)) = true := decide_eq_true c35
                              clear c35
                              by_cases c36 : (ji34) < (x15_2.length : Int)
                              · rw [if_pos c36] at H
                                have c36b0 : decide ((ji34) < (x15_2.length : Int)) = true := decide_eq_true c36
                                clear c36
                                obtain ⟨ji37, hji37⟩ : ∃ j_ : Int, (Int.tmod (wrap64 ((Int.tmod (wrap64 (a3)) 512) + x17_2)) 64) = j_ := ⟨_, rfl⟩
                                replace H : (if 0 ≤ (ji37) then (lockfastlaw06_SuperBursts.l0 kj27 a4 t164 t168 (x15_2.set ((ji34) : Int).toNat (Go.bits .xor .u64 (rd x15_2 (ji34)) (shl .u64 1 (ji37)))) (Int.tmod (wrap64 (a3)) 512) (wrap64 (x17_2 + 1))) else (none)) = some r := by first | (rw [hji37] at H; exact H) | (simp only [hji37] at H ⊢; exact H)
                                by_cases c38 : 0 ≤ (ji37)
                                · rw [if_pos c38] at H
                                  have c38b0 := eq_true c38
                                  have c38b1 : decide (0 ≤ (ji37)) = true := decide_eq_true c38
                                  clear c38
                                  obtain ⟨ji39, hji39⟩ : ∃ j_ : Int, (shl .u64 1 (ji37)) = j_ := ⟨_, rfl⟩
                                  replace H : (lockfastlaw06_SuperBursts.l0 kj27 a4 t164 t168 (x15_2.set ((ji34) : Int).toNat (Go.bits .xor .u64 (rd x15_2 (ji34)) (ji39))) (Int.tmod (wrap64 (a3)) 512) (wrap64 (x17_2 + 1))) = some r := by first | (rw [hji39] at H; exact H) | (simp only [hji39] at H ⊢; exact H)
                                  have hji39_ : (IntKind.u64.wrap (1 * 2 ^ min (ji37).toNat 64)) = ji39 := hji39
                                  have hji39z : (ji37) ≤ 64 → (IntKind.u64.wrap (1 * 2 ^ (ji37).toNat)) = ji39 := shl_small hji39
                                  have hji39u : (IntKind.u64.wrap (2 ^ min (ji37).toNat 64)) = ji39 := by have h_ := hji39_; rw [Int.one_mul] at h_; exact h_
                                  have hji39v : (ji37) ≤ 64 → (IntKind.u64.wrap (2 ^ (ji37).toNat)) = ji39 := fun hle_ => by have h_ := hji39z hle_; rw [Int.one_mul] at h_; exact h_
                                  obtain ⟨y182, hy182⟩ : ∃ y_ : List Int, y_ = (x15_2.set ((ji34) : Int).toNat (Go.bits .xor .u64 (rd x15_2 (ji34)) (ji39))) := ⟨_, rfl⟩
                                  replace H : (lockfastlaw06_SuperBursts.l0 kj27 a4 t164 t168 y182 (Int.tmod (wrap64 (a3)) 512) (wrap64 (x17_2 + 1))) = some r := by first | (rw [hy182]; with_reducible exact H) | (have H2_ := (Option.bind_some _ _).symm.trans H; rw [hy182]; with_reducible exact H2_) | (have H2_ := (Option.bind_some _ _).symm.trans H; with_reducible exact H2_) | with_reducible exact H | (rw [hy182]; exact H) | exact H
                                  have Ny182 := Aside0.mk hy182
                                  clear hy182
                                  have H' := Aside0.mk H
                                  clear H
                                  try go_wp2
                                  have n0_ := Aside0.mk (Kd.R_drew HO_13.out)
                                  have n1_ := Aside0.mk (Kd.R_drew HO_15.out)
                                  have n2_ := Aside0.mk (blk_drew BK167.out)
                                  have n3_ := Aside0.mk (below_drew1 HB.out)
                                  clear HO_13
                                  clear HO_15
                                  clear BK167
                                  clear HB
                                  have HO_13 := n0_
                                  have HO_15 := n1_
                                  have BK167 := n2_
                                  have HB := n3_
                                  clear n0_ n1_ n2_ n3_
                                  obtain ⟨Ao42, co42, eo42⟩ := Kd.R_slice HO_15.out
                                  (first | subst eo42 | (injection eo42 with f1_ f2_ f3_; have f4_ := f1_.symm; have f5_ := f3_.symm; clear f1_ f2_ f3_; subst f4_; subst f5_))
                                  have p181 : 0 ≤ ((ji34) : Int) := of_decide_eq_true (by first | (with_reducible assumption) | assumption)
                                  have q181 : (ji34) < (x15_2.length : Int) := of_decide_eq_true (by first | (with_reducible assumption) | assumption)
                                  obtain ⟨ad181, e181, hx181_0⟩ := Kd.at_int (Kd.R_reads' HO_15.out).2.2 (ji34) p181 q181
                                  cases e181
                                  replace p181 := eq_true p181
                                  replace q181 := eq_true q181
                                  have p40 : 0 ≤ ((ji34) : Int) := of_decide_eq_true (by first | (with_reducible assumption) | assumption)
                                  have q40 : ((ji34) : Int) < ((x15_2.length : Int) : Int) := of_decide_eq_true (by first | (with_reducible assumption) | assumption)
                                  obtain ⟨go40, co40, eo40, gb40, gl40, cl40, HG40⟩ := Kd.R_form HO_15.out (by omega)
                                  (first | cases eo40 | (injection eo40 with ea_ en_ ec_; (first | subst ea_ | (injection ea_ with ea_; subst ea_)); subst ec_; clear en_))
                                  have GB40 := Aside0.mk gb40
                                  have GG40 := Aside0.mk HG40
                                  clear gb40 gl40 HG40
                                  (first | simp only [add_plain] at hx181_0 | skip)
                                  obtain ⟨hx40_0, hf40_0⟩ := Kd.R_celln 0 HO_15.out ((ji34) : Int) p40 q40
                                  replace p40 := eq_true p40
                                  replace q40 := eq_true q40
                                  have HP43 := Kd.R_putn HO_15.out ((ji34) : Int) (Go.bits .xor .u64 (rd x15_2 (ji34)) (ji39))
                                  rw [← Ny182.out] at HP43
                                  have HQ43 := Aside0.mk HP43
                                  clear HP43
                                  refine start_ (n := 20) (S := fun w' => w'.cell? ⟨go40, ((ji34)).toNat, none⟩ = some (.int .u64 (rd x15_2 (ji34)))) (ds := [19]) #[false, false, false, false, false, false, false, false, false, false, false, false, false, false, false, false, false, false, false, false] (by kernel_rfl) rfl rfl (hx181_0) (fun hHeld => ?_); refine with_tabW lockfastlaw06_SuperBursts.tab12 lockfastlaw06_SuperBursts.bits12 (fun HT_ HW_ => ?_)
                                  generalize wc.drew = w41 at HO_13 HO_15 BK167 HB GG40 HQ43 hf40_0 hx181_0 hx40_0 hHeld ⊢
                                  refine pure_ (i := 0) (N := some 63) (v := ?_) (a' := ?_) #[true, false, false, false, false, false, false, false, false, false, false, false, false, false, false, false, false, false, false, false] rfl rfl (any_of HT_.out (by kernel_rfl)) (fun _ _ _ h => h) (Or.inl ⟨by rfl, ?_⟩) ?_ ?_
                                  rotate_left
                                  · intro w'
                                    go_simp
                                    with_reducible rfl
                                  rotate_left
                                  · simp only [Act.put, List.setIfInBounds_toArray, List.set_cons_zero, List.set_cons_succ, i64_w, i32_w]
                                    rfl
                                  refine pure_ (i := 1) (N := some 64) (v := ?_) (a' := ?_) #[true, true, false, false, false, false, false, false, false, false, false, false, false, false, false, false, false, false, false, false] rfl rfl (any_of HT_.out (by kernel_rfl)) (fun _ _ _ h => h) (Or.inl ⟨by rfl, ?_⟩) ?_ ?_
                                  rotate_left
                                  · intro w'
                                    go_simp
                                    with_reducible rfl
                                  rotate_left
                                  · simp only [Act.put, List.setIfInBounds_toArray, List.set_cons_zero, List.set_cons_succ, i64_w, i32_w]
                                    rfl
                                  refine pure_ (i := 2) (N := some 65) (v := ?_) (a' := ?_) #[true, true, true, false, false, false, false, false, false, false, false, false, false, false, false, false, false, false, false, false] rfl rfl (any_of HT_.out (by kernel_rfl)) (fun _ _ _ h => h) (Or.inl ⟨by rfl, ?_⟩) ?_ ?_
                                  rotate_left
                                  · intro w'
                                    go_simp
                                    with_reducible rfl
                                  rotate_left
                                  · simp only [Act.put, List.setIfInBounds_toArray, List.set_cons_zero, List.set_cons_succ, i64_w, i32_w]
                                    rfl
                                  refine pure_ (i := 3) (N := some 66) (v := ?_) (a' := ?_) #[true, true, true, true, false, false, false, false, false, false, false, false, false, false, false, false, false, false, false, false] rfl rfl (any_of HT_.out (by kernel_rfl)) (fun _ _ _ h => h) (Or.inl ⟨by rfl, ?_⟩) ?_ ?_
                                  rotate_left
                                  · intro w'
                                    go_simp
                                    with_reducible rfl
                                  rotate_left
                                  · simp only [Act.put, List.setIfInBounds_toArray, List.set_cons_zero, List.set_cons_succ, i64_w, i32_w]
                                    rfl
                                  refine pure_ (i := 4) (N := some 67) (v := ?_) (a' := ?_) #[true, true, true, true, true, false, false, false, false, false, false, false, false, false, false, false, false, false, false, false] rfl rfl (any_of HT_.out (by kernel_rfl)) (fun _ _ _ h => h) (Or.inl ⟨by rfl, ?_⟩) ?_ ?_
                                  rotate_left
                                  · intro w'
                                    go_simp
                                    with_reducible rfl
                                  rotate_left
                                  · simp only [Act.put, List.setIfInBounds_toArray, List.set_cons_zero, List.set_cons_succ, i64_w, i32_w]
                                    rfl
                                  refine pure_ (i := 5) (N := some 68) (v := ?_) (a' := ?_) #[true, true, true, true, true, true, false, false, false, false, false, false, false, false, false, false, false, false, false, false] rfl rfl (any_of HT_.out (by kernel_rfl)) (fun _ _ _ h => h) (Or.inl ⟨by rfl, ?_⟩) ?_ ?_
                                  rotate_left
                                  · intro w'
                                    go_simp
                                    with_reducible rfl
                                  rotate_left
                                  · simp only [Act.put, List.setIfInBounds_toArray, List.set_cons_zero, List.set_cons_succ, i64_w, i32_w]
                                    rfl
                                  refine pure_ (i := 6) (N := some 69) (v := ?_) (a' := ?_) #[true, true, true, true, true, true, true, false, false, false, false, false, false, false, false, false, false, false, false, false] rfl rfl (any_of HT_.out (by kernel_rfl)) (fun _ _ _ h => h) (Or.inl ⟨by rfl, ?_⟩) ?_ ?_
                                  rotate_left
                                  · intro w'
                                    go_simp
                                    with_reducible rfl
                                  rotate_left
                                  · simp only [Act.put, List.setIfInBounds_toArray, List.set_cons_zero, List.set_cons_succ, i64_w, i32_w]
                                    rfl
                                  refine pure_ (i := 7) (N := some 70) (v := ?_) (a' := ?_) #[true, true, true, true, true, true, true, true, false, false, false, false, false, false, false, false, false, false, false, false] rfl rfl (any_of HT_.out (by kernel_rfl)) (fun _ _ _ h => h) (Or.inl ⟨by rfl, ?_⟩) ?_ ?_
                                  rotate_left
                                  · intro w'
                                    go_simp
                                    with_reducible rfl
                                  rotate_left
                                  · simp only [Act.put, List.setIfInBounds_toArray, List.set_cons_zero, List.set_cons_succ, i64_w, i32_w]
                                    rfl
                                  refine pure_ (i := 8) (N := some 71) (v := ?_) (a' := ?_) #[true, true, true, true, true, true, true, true, true, false, false, false, false, false, false, false, false, false, false, false] rfl rfl (any_of HT_.out (by kernel_rfl)) (fun _ _ _ h => h) (Or.inl ⟨by rfl, ?_⟩) ?_ ?_
                                  rotate_left
                                  · intro w'
                                    go_simp
                                    with_reducible rfl
                                  rotate_left
                                  · simp only [Act.put, List.setIfInBounds_toArray, List.set_cons_zero, List.set_cons_succ, i64_w, i32_w]
                                    rfl
                                  refine pure_ (i := 9) (N := some 72) (v := ?_) (a' := ?_) #[true, true, true, true, true, true, true, true, true, true, false, false, false, false, false, false, false, false, false, false] rfl rfl (any_of HT_.out (by kernel_rfl)) (fun _ _ _ h => h) (Or.inl ⟨by rfl, ?_⟩) ?_ ?_
                                  rotate_left
                                  · intro w'
                                    go_simp
                                    with_reducible rfl
                                  rotate_left
                                  · simp only [Act.put, List.setIfInBounds_toArray, List.set_cons_zero, List.set_cons_succ, i64_w, i32_w]
                                    rfl
                                  refine pure_ (i := 10) (N := some 73) (v := ?_) (a' := ?_) #[true, true, true, true, true, true, true, true, true, true, true, false, false, false, false, false, false, false, false, false] rfl rfl (any_of HT_.out (by kernel_rfl)) (fun _ _ _ h => h) (Or.inl ⟨by rfl, ?_⟩) ?_ ?_
                                  rotate_left
                                  · intro w'
                                    go_simp
                                    with_reducible rfl
                                  rotate_left
                                  · simp only [Act.put, List.setIfInBounds_toArray, List.set_cons_zero, List.set_cons_succ, i64_w, i32_w]
                                    rfl
                                  refine pure_ (i := 12) (N := some 75) (v := ?_) (a' := ?_) #[true, true, true, true, true, true, true, true, true, true, true, false, true, false, false, false, false, false, false, false] rfl rfl (any_of HT_.out (by kernel_rfl)) (fun _ _ _ h => h) (Or.inl ⟨by rfl, ?_⟩) ?_ ?_
                                  rotate_left
                                  · intro w'
                                    go_simp
                                    with_reducible rfl
                                  rotate_left
                                  · simp only [Act.put, List.setIfInBounds_toArray, List.set_cons_zero, List.set_cons_succ, i64_w, i32_w]
                                    rfl
                                  refine pure_ (i := 13) (N := some 76) (v := ?_) (a' := ?_) #[true, true, true, true, true, true, true, true, true, true, true, false, true, true, false, false, false, false, false, false] rfl rfl (any_of HT_.out (by kernel_rfl)) (fun _ _ _ h => h) (Or.inl ⟨by rfl, ?_⟩) ?_ ?_
                                  rotate_left
                                  · intro w'
                                    go_simp
                                    with_reducible rfl
                                  rotate_left
                                  · simp only [Act.put, List.setIfInBounds_toArray, List.set_cons_zero, List.set_cons_succ, i64_w, i32_w]
                                    rfl
                                  refine pure_ (i := 14) (N := some 77) (v := ?_) (a' := ?_) #[true, true, true, true, true, true, true, true, true, true, true, false, true, true, true, false, false, false, false, false] rfl rfl (any_of HT_.out (by kernel_rfl)) (fun _ _ _ h => h) (Or.inl ⟨by rfl, ?_⟩) ?_ ?_
                                  rotate_left
                                  · intro w'
                                    go_simp
                                    with_reducible rfl
                                  rotate_left
                                  · simp only [Act.put, List.setIfInBounds_toArray, List.set_cons_zero, List.set_cons_succ, i64_w, i32_w]
                                    rfl
                                  refine pure_ (i := 15) (N := some 78) (v := ?_) (a' := ?_) #[true, true, true, true, true, true, true, true, true, true, true, false, true, true, true, true, false, false, false, false] rfl rfl (any_of HT_.out (by kernel_rfl)) (fun _ _ _ h => h) (Or.inl ⟨by rfl, ?_⟩) ?_ ?_
                                  rotate_left
                                  · intro w'
                                    go_simp
                                    with_reducible rfl
                                  rotate_left
                                  · simp only [Act.put, List.setIfInBounds_toArray, List.set_cons_zero, List.set_cons_succ, i64_w, i32_w]
                                    rfl
                                  refine pure_ (i := 16) (N := some 79) (v := ?_) (a' := ?_) #[true, true, true, true, true, true, true, true, true, true, true, false, true, true, true, true, true, false, false, false] rfl rfl (any_of HT_.out (by kernel_rfl)) (fun _ _ _ h => h) (Or.inl ⟨by rfl, ?_⟩) ?_ ?_
                                  rotate_left
                                  · intro w'
                                    go_simp
                                    with_reducible rfl
                                  rotate_left
                                  · simp only [Act.put, List.setIfInBounds_toArray, List.set_cons_zero, List.set_cons_succ, i64_w, i32_w]
                                    rfl
                                  refine take_ (i := 11) (N := some 74) (v := ?_) (a' := ?_) #[true, true, true, true, true, true, true, true, true, true, true, true, true, true, true, true, true, false, false, false] rfl rfl (take_ofW HT_.out HW_.out (by kernel_rfl)) (fun _ _ _ h => h) (Or.inl ⟨by rfl, ?_⟩) hHeld ?_ ?_
                                  rotate_left
                                  · intro w' s0
                                    go_simp
                                    with_reducible rfl
                                  rotate_left
                                  · simp only [Act.put, List.setIfInBounds_toArray, List.set_cons_zero, List.set_cons_succ, i64_w, i32_w]
                                    rfl
                                  refine pure_ (i := 17) (N := some 80) (v := ?_) (a' := ?_) #[true, true, true, true, true, true, true, true, true, true, true, true, true, true, true, true, true, true, false, false] rfl rfl (any_of HT_.out (by kernel_rfl)) (fun _ _ _ h => h) (Or.inl ⟨by rfl, ?_⟩) ?_ ?_
                                  rotate_left
                                  · intro w'
                                    go_simp
                                    with_reducible rfl
                                  rotate_left
                                  · simp only [Act.put, List.setIfInBounds_toArray, List.set_cons_zero, List.set_cons_succ, i64_w, i32_w]
                                    rfl
                                  refine pure_ (i := 18) (N := some 81) (v := ?_) (a' := ?_) #[true, true, true, true, true, true, true, true, true, true, true, true, true, true, true, true, true, true, true, false] rfl rfl (any_of HT_.out (by kernel_rfl)) (fun _ _ _ h => h) (Or.inl ⟨by rfl, ?_⟩) ?_ ?_
                                  rotate_left
                                  · intro w'
                                    go_simp
                                    with_reducible rfl
                                  rotate_left
                                  · simp only [Act.put, List.setIfInBounds_toArray, List.set_cons_zero, List.set_cons_succ, i64_w, i32_w]
                                    rfl
                                  refine last_ (i := 19) (N := none) #[true, true, true, true, true, true, true, true, true, true, true, true, true, true, true, true, true, true, true, true] rfl rfl (one_of HT_.out (by kernel_rfl)) (by decide) (fun K hK => ?_)
                                  refine skip_ (w1 := ?_) (by rfl) rfl ?_ ?_
                                  rotate_left
                                  · go_simp
                                    rfl
                                  refine hK.out _ _ ?_
                                  clear hK K
                                  refine done_ (done_of HT_.out (by kernel_rfl)) ?_
                                  try go_wp2
                                  go_roundg kj27
                                  case measure => have := HJ8.out; have := HK2.out; have := HJ27.out; omega
                                  case rel => exact ⟨(y182), (wrap64 (x17_2 + 1)), (by first | rfl | (simp; done) | (simp [*]; done)), (by first | exact H' | (subst_vars; exact H')), ⟨by have := HJ8.out; have := HK2.out; have := HJ27.out; omega⟩, ⟨by (with_reducible repeat (first | apply Kd.R_alloc | apply Kd.R_drewN | apply Kd.R_drew)); exact Kd.R_mono (Kd.R_far (p := ⟨go40, ((ji34) : Int).toNat, none⟩) (Kd.R_types HO_13.out GG40.out (by decide)) (fun _ hk => hk.2) (.int .u64 (Go.bits .xor .u64 (rd x15_2 (ji34)) (ji39)))) (fun _ hk => trivial)⟩, ⟨by (with_reducible repeat (first | apply Kd.R_alloc | apply Kd.R_drewN | apply Kd.R_drew)); exact HQ43.out⟩, ⟨by (with_reducible repeat (first | refine blk_drewN ?_ _ | refine blk_drew ?_ | refine blk_alloc ?_ _)); refine blk_far ?_ (by have h_ := Kd.R_ne HO_15.out BK167.out (by decide); intro e_; exact h_ (by rw [e_]; rfl)) _; (with_reducible repeat (first | refine blk_drewN ?_ _ | refine blk_drew ?_ | refine blk_alloc ?_ _)); exact BK167.out⟩, ⟨by repeat (first | (with_reducible first | exact HB.out | apply below_alloc | apply pw_below_drewN | apply below_drew1 | refine below_set ?_ GB40.out | refine below_set ?_ GE167.out) | exact HB.out)⟩⟩
                                · rw [if_neg c38] at H
                                  exact absurd H (by simp)
                              · rw [if_neg c36] at H
                                exact absurd H (by simp)
                            · rw [if_neg c35] at H
                              exact absurd H (by simp)
                          · rw [if_neg c33] at H
                            have c33b0 : ((Go.bits .and .u32 (ji32) 1) == 1) = false := beq_eq_false_iff_ne.mpr c33
                            have c33b1 : ((Go.bits .and .u32 (ji32) 1) != 1) = true := bne_iff_ne.mpr c33
                            have H' := Aside0.mk H
                            clear H
                            go_wp2
                            go_roundg kj27
                            case measure => have := HJ8.out; have := HK2.out; have := HJ27.out; omega
                            case rel => exact ⟨(x15_2), (wrap64 (x17_2 + 1)), (by first | rfl | (simp; done) | (simp [*]; done)), (by first | exact H' | (subst_vars; exact H')), ⟨by have := HJ8.out; have := HK2.out; have := HJ27.out; omega⟩, ⟨by (with_reducible repeat (first | apply Kd.R_alloc | apply Kd.R_drewN | apply Kd.R_drew)); exact HO_13.out⟩, ⟨by (with_reducible repeat (first | apply Kd.R_alloc | apply Kd.R_drewN | apply Kd.R_drew)); exact HO_15.out⟩, ⟨by (with_reducible repeat (first | refine blk_drewN ?_ _ | refine blk_drew ?_ | refine blk_alloc ?_ _)); exact BK167.out⟩, ⟨by repeat (first | (with_reducible first | exact HB.out | apply below_alloc | apply pw_below_drewN | apply below_drew1 | refine below_set ?_ GE167.out) | exact HB.out)⟩⟩
                        · rw [if_neg c31] at H
                          exact absurd H (by simp)
                      · replace c30 := Bool.eq_false_iff.mpr c30
                        subst c30
                        have H1 : ((super_Decode.f x15_2).bind fun bt183 => (if 8 ≤ (x15_2.length : Int) then ((lockfastref01_Words.f kj27 (x15_2.take 8) t168).bind fun t191 => (if t164 = true then (if ((bt183.2.2 == 0) == t191) = true then (some ((bt183.2.2 == 7) == (!t191))) else (some false)) else (some false))) else (none))) = some r := by rw [if_neg (show ¬ (false = true) by decide)] at H; exact H
                        clear H
                        have H := H1
                        clear H1
                        replace H := Option.bind_eq_some_iff.mp H
                        obtain ⟨⟨t183, t184, t185⟩, A440, H⟩ := H
                        replace H : (if 8 ≤ (x15_2.length : Int) then ((lockfastref01_Words.f kj27 (x15_2.take 8) t168).bind fun t191 => (if t164 = true then (if ((t185 == 0) == t191) = true then (some ((t185 == 7) == (!t191))) else (some false)) else (some false))) else (none)) = some r := H
                        have A44 := Aside0.mk A440
                        clear A440
                        by_cases c45 : 8 ≤ (x15_2.length : Int)
                        · rw [if_pos c45] at H
                          have c45b0 := eq_true c45
                          have c45b1 : decide (8 ≤ (x15_2.length : Int)) = true := decide_eq_true c45
                          clear c45
                          obtain ⟨y187, hy187⟩ : ∃ y_ : List Int, y_ = (x15_2.take 8) := ⟨_, rfl⟩
                          replace H : ((lockfastref01_Words.f kj27 y187 t168).bind fun t191 => (if t164 = true then (if ((t185 == 0) == t191) = true then (some ((t185 == 7) == (!t191))) else (some false)) else (some false))) = some r := by first | (rw [hy187]; with_reducible exact H) | (have H2_ := (Option.bind_some _ _).symm.trans H; rw [hy187]; with_reducible exact H2_) | (have H2_ := (Option.bind_some _ _).symm.trans H; with_reducible exact H2_) | with_reducible exact H | (rw [hy187]; exact H) | exact H
                          have Ny187 := Aside0.mk hy187
                          clear hy187
                          replace H := Option.bind_eq_some_iff.mp H
                          obtain ⟨t191, A460, H⟩ := H
                          replace H : (if t164 = true then (if ((t185 == 0) == t191) = true then (some ((t185 == 7) == (!t191))) else (some false)) else (some false)) = some r := H
                          have A46 := Aside0.mk A460
                          clear A460
                          by_cases c47 : t164 = true
                          · subst c47
                            have H1 : (if ((t185 == 0) == t191) = true then (some ((t185 == 7) == (!t191))) else (some false)) = some r := by rw [if_pos rfl] at H; exact H
                            clear H
                            have H := H1
                            clear H1
                            by_cases c48 : ((t185 == 0) == t191) = true
                            · rw [if_pos c48] at H
                              have c48b0 : ((t185 == 0) == t191) = true := c48
                              (try (have c48b1 : decide ((t185 == 0) = t191) = true := by simpa using c48))
                              (try (have c48b2 : ((t185 == 0) == t191) = true := by simpa using c48))
                              clear c48
                              obtain rfl := Option.some.inj H
                              simp only [Option.some.injEq, Prod.mk.injEq] at H
                              obtain ⟨rfl⟩ := H
                              obtain ⟨Ao49, co49, eo49⟩ := Kd.R_slice HO_15.out
                              subst eo49
                              go_wp2_with (first | ((with_reducible refine gate_callee (f := 25) rfl ?_); refine goesL_ (some 84) rfl rfl Try.func25 (by kernel_rfl) rfl #[.slice Ao49 x15_2.length co49] rfl (by (try simp only [List.map_toArray, List.map_cons, List.map_nil]); first | done | rfl | (simp only [List.length_drop, List.length_take]; rfl)) ?_; (with_reducible refine (super_Decode.calls _ _ x15_2 t183 t184 t185 _ ?side1 ?side2 A44.out).mono ?_); (case side1 => repeat (first | exact (Kd.R_reads' HO_15.out).2.2 | (with_reducible refine Kd.C_alloc ?_ _) | (with_reducible refine Kd.C_drewN ?_ _) | (with_reducible refine Kd.C_drew ?_))); (case side2 => exact (Kd.R_reads' HO_15.out).2.1); rintro e w50 ⟨rfl, hb⟩; refine ⟨_, rfl, ?_⟩; have n0_ := Aside0.mk (Kd.R_below (by (with_reducible repeat (first | apply Kd.R_alloc | apply Kd.R_drewN | apply Kd.R_drew)); exact HO_13.out) hb); have n1_ := Aside0.mk (Kd.R_below (by (with_reducible repeat (first | apply Kd.R_alloc | apply Kd.R_drewN | apply Kd.R_drew)); exact HO_15.out) hb); have n2_ := Aside0.mk (blk_below (g := gb167) (o := .cells #[.int .i64 t165, .int .i64 t166] 40 (0, 0)) (by (with_reducible repeat (first | refine blk_drewN ?_ _ | refine blk_drew ?_ | refine blk_alloc ?_ _)); exact BK167.out) hb); have n3_ := Aside0.mk (below_step (by repeat (first | (with_reducible first | exact HB.out | apply below_alloc | apply pw_below_drewN | apply below_drew1 | refine below_set ?_ GE167.out) | exact HB.out)) hb); clear HO_13; clear HO_15; clear BK167; clear HB; have HO_13 := n0_; have HO_15 := n1_; have BK167 := n2_; have HB := n3_; clear n0_ n1_ n2_ n3_; (try clear hb); (try clear hb2); (try clear hk); (try clear hi)) | ((with_reducible refine gate_dst (N := 18) rfl ?_); (try (refine gate_guard (by rfl) ?_; dsimp only)); refine box_event ?hg (N := 18) ?hd (cs := #[.int .i64 0, .int .i64 0]) (t := 40) ?hr ?_; (case hd => rfl); (case hg => rfl); (case hr => first | (go_simp; done) | (go_simp; rfl)); intro gb186 hg w51 hbox hb; have n0_ := Aside0.mk (Kd.R_below (by (with_reducible repeat (first | apply Kd.R_alloc | apply Kd.R_drewN | apply Kd.R_drew)); exact HO_13.out) hb); have n1_ := Aside0.mk (Kd.R_below (by (with_reducible repeat (first | apply Kd.R_alloc | apply Kd.R_drewN | apply Kd.R_drew)); exact HO_15.out) hb); have n2_ := Aside0.mk (blk_below (g := gb167) (o := .cells #[.int .i64 t165, .int .i64 t166] 40 (0, 0)) (by (with_reducible repeat (first | refine blk_drewN ?_ _ | refine blk_drew ?_ | refine blk_alloc ?_ _)); exact BK167.out) hb); have n3_ := Aside0.mk (below_step (by repeat (first | (with_reducible first | exact HB.out | apply below_alloc | apply pw_below_drewN | apply below_drew1 | refine below_set ?_ GE167.out) | exact HB.out)) hb); have n4_ := Aside0.mk (hbox); have n5_ := Aside0.mk ((by rw [hg]; exact (below_size (by repeat (first | (with_reducible first | exact HB.out | apply below_alloc | apply pw_below_drewN | apply below_drew1 | refine below_set ?_ GE167.out) | exact HB.out))) : w.heap.size ≤ gb186)); have n6_ := Aside0.mk ((by rw [hg]; exact (below_size (by repeat (first | (with_reducible first | exact HB.out | apply below_alloc | apply pw_below_drewN | apply below_drew1 | refine below_set ?_ GE167.out) | exact HB.out))) : w.heap.size ≤ gb186)); have n7_ := Aside0.mk ((by rw [hg]; exact Nat.ne_of_lt (blk_lt (g := gb167) (o := .cells #[.int .i64 t165, .int .i64 t166] 40 (0, 0)) (by (with_reducible repeat (first | refine blk_drewN ?_ _ | refine blk_drew ?_ | refine blk_alloc ?_ _)); exact BK167.out)) : gb167 ≠ gb186)); have n8_ := Aside0.mk ((by rw [hg]; exact Nat.ne_of_gt (blk_lt (g := gb167) (o := .cells #[.int .i64 t165, .int .i64 t166] 40 (0, 0)) (by (with_reducible repeat (first | refine blk_drewN ?_ _ | refine blk_drew ?_ | refine blk_alloc ?_ _)); exact BK167.out)) : gb186 ≠ gb167)); clear HO_13; clear HO_15; clear BK167; clear HB; have HO_13 := n0_; have HO_15 := n1_; have BK167 := n2_; have HB := n3_; have BK186 := n4_; have GW186 := n5_; have GE186 := n6_; have NB167_186 := n7_; have NB186_167 := n8_; clear n0_ n1_ n2_ n3_ n4_ n5_ n6_ n7_ n8_; clear hb hbox hg; have hnb52 := NB186_167.out; have hnc52 := NB167_186.out; have hcz53_0 : w51.cell? ⟨gb186, 0, none⟩ = some (.int .i64 0) := (blk_cell BK186.out 0).trans rfl; have hcz53_1 : w51.cell? ⟨gb186, 1, none⟩ = some (.int .i64 0) := (blk_cell BK186.out 1).trans rfl; have hfz53_0 := blk_frozen BK186.out 0; have hfz53_1 := blk_frozen BK186.out 1) | ((with_reducible refine gate_store (t := 40) (p := 18) rfl ?_); refine store_event (t := 40) (p := 18) (v := ?vo_w54) (w1 := ((w51.setCell ⟨gb186, 0, none⟩ (.int .i64 t183)).setCell ⟨gb186, 1, none⟩ (.int .i64 t184))) ?hg ?ho ?hn ?hr ?_; (case ho => rfl); (case hg => rfl); (case hn => rfl); (case hr => first | (go_simp; done) | (go_simp; rfl)); intro w54 hw; have n0_ : Aside0 (Kd.R (Kd.int .u64) 58 w54 w.heap.size (fun _ => True) (.slice Ao26 t168.length co26) t168) := ⟨(by rw [hw]; exact (by (with_reducible repeat (first | apply Kd.R_alloc | apply Kd.R_drewN | apply Kd.R_drew)); exact Kd.R_mono (Kd.R_far (p := ⟨gb186, 1, none⟩) (Kd.R_far (p := ⟨gb186, 0, none⟩) (Kd.R_types HO_13.out BK186.out (by decide)) (fun _ hk => hk.2) (.int .i64 t183)) (fun _ hk => hk.2) (.int .i64 t184)) (fun _ hk => trivial)))⟩; have n1_ : Aside0 (Kd.R (Kd.int .u64) 30 w54 w.heap.size (fun _ => True) (.slice Ao49 x15_2.length co49) x15_2) := ⟨(by rw [hw]; exact (by (with_reducible repeat (first | apply Kd.R_alloc | apply Kd.R_drewN | apply Kd.R_drew)); exact Kd.R_mono (Kd.R_far (p := ⟨gb186, 1, none⟩) (Kd.R_far (p := ⟨gb186, 0, none⟩) (Kd.R_types HO_15.out BK186.out (by decide)) (fun _ hk => hk.2) (.int .i64 t183)) (fun _ hk => hk.2) (.int .i64 t184)) (fun _ hk => trivial)))⟩; have n2_ : Aside0 (w54.heap[gb167]? = some (.cells #[.int .i64 t165, .int .i64 t166] 40 (0, 0))) := ⟨(by rw [hw]; exact (by (with_reducible repeat (first | refine blk_drewN ?_ _ | refine blk_drew ?_ | refine blk_alloc ?_ _)); refine blk_far ?_ NB167_186.out _; (with_reducible repeat (first | refine blk_drewN ?_ _ | refine blk_drew ?_ | refine blk_alloc ?_ _)); refine blk_far ?_ NB167_186.out _; (with_reducible repeat (first | refine blk_drewN ?_ _ | refine blk_drew ?_ | refine blk_alloc ?_ _)); exact BK167.out))⟩; have n3_ : Aside0 (w54.heap[gb186]? = some (.cells #[.int .i64 t183, .int .i64 t184] 40 (0, 0))) := ⟨(by rw [hw]; exact (by (with_reducible repeat (first | refine blk_drewN ?_ _ | refine blk_drew ?_ | refine blk_alloc ?_ _)); refine blk_put (cs := #[.int .i64 t183, .int .i64 0]) ?_ 1 _ rfl; (with_reducible repeat (first | refine blk_drewN ?_ _ | refine blk_drew ?_ | refine blk_alloc ?_ _)); refine blk_put (cs := #[.int .i64 0, .int .i64 0]) ?_ 0 _ rfl; (with_reducible repeat (first | refine blk_drewN ?_ _ | refine blk_drew ?_ | refine blk_alloc ?_ _)); exact BK186.out))⟩; have n4_ : Aside0 (Below w.heap.size w w54) := ⟨(by rw [hw]; exact (by repeat (first | (with_reducible first | exact HB.out | apply below_alloc | apply pw_below_drewN | apply below_drew1 | refine below_set ?_ GE167.out | refine below_set ?_ GE186.out) | exact HB.out)))⟩; clear hw; clear HO_13; clear HO_15; clear BK167; clear BK186; clear HB; have HO_13 := n0_; have HO_15 := n1_; have BK167 := n2_; have BK186 := n3_; have HB := n4_; clear n0_ n1_ n2_ n3_ n4_; have q55 : (8 : Int) ≤ ((x15_2.length : Int) : Int) := of_decide_eq_true (by first | (with_reducible assumption) | assumption); obtain ⟨i055, hi055, _, hsz55, _⟩ := info_parts info30; have hroom55 : x15_2.length ≤ co49 := (Kd.R_reads' HO_15.out).2.1; have hC55 : Kd.C (Kd.int .u64) _ Ao49 x15_2.length x15_2 := (Kd.R_reads' HO_15.out).2.2; have hcut55 := cut_to (P := Try.prog) 22 30 .i64 Try.underlying22 hi055 Ao49 x15_2.length co49 8 (by omega) q55 hroom55; have hr55 := Kd.C_take (m := 8) hC55 (by omega); have hy55 : y187.length = (8 : Int).toNat := (by rw [Ny187.out, List.length_take]; omega); rw [← Ny187.out] at hr55; rw [← hy55] at hcut55; have HR190 := Aside0.mk hr55; have HC190 := Aside0.mk (show y187.length ≤ co49 from by omega); clear hr55 hC55 hroom55 hi055 hsz55; have KY55 := Aside0.mk hy55; clear hy55; have KL55 := Aside0.mk (show 8 ≤ x15_2.length from by omega); replace q55 := eq_true q55) | ((with_reducible refine gate_callee (f := 20) rfl ?_); refine goesL_ (some 90) rfl rfl Try.func20 (by kernel_rfl) rfl #[.slice Ao49 y187.length co49, .slice Ao26 t168.length co26] rfl (by (try simp only [List.map_toArray, List.map_cons, List.map_nil]); first | done | rfl | (simp only [List.length_drop, List.length_take]; rfl)) ?_; (with_reducible refine (lockfastref01_Words.calls kj27 _ _ y187 _ _ t168 t191 _ ?side1 ?side2 ?side3 ?side4 A46.out).mono ?_); (case side1 => repeat (first | exact (by repeat (first | (with_reducible exact HR190.out) | (with_reducible refine Kd.C_alloc ?_ _) | (with_reducible refine Kd.C_drewN ?_ _) | (with_reducible refine Kd.C_drew ?_) | exact HR190.out)) | (with_reducible refine Kd.C_alloc ?_ _) | (with_reducible refine Kd.C_drewN ?_ _) | (with_reducible refine Kd.C_drew ?_))); (case side2 => exact HC190.out); (case side3 => repeat (first | exact (Kd.R_reads' HO_13.out).2.2 | (with_reducible refine Kd.C_alloc ?_ _) | (with_reducible refine Kd.C_drewN ?_ _) | (with_reducible refine Kd.C_drew ?_))); (case side4 => exact (Kd.R_reads' HO_13.out).2.1); rintro e w' ⟨rfl, ⟨nd, rfl⟩⟩; refine ⟨_, rfl, ?_⟩))
                              go_ret
                              exact ⟨by first | rfl | (simp [errW_none, errW_some] <;> rfl) | (simp only [← hji19]; first | rfl | (simp [errW_none, errW_some] <;> rfl)) | (simp [*, errW_none, errW_some] <;> rfl), by repeat (first | (with_reducible first | exact HB.out | apply below_alloc | apply pw_below_drewN | apply below_drew1 | refine below_set ?_ GE167.out | refine below_set ?_ GE186.out) | exact HB.out)⟩
                            · rw [if_neg c48] at H
                              have c48b0 : ((t185 == 0) == t191) = false := by simpa using c48
                              (try (have c48b1 : decide ((t185 == 0) = t191) = false := by simpa using c48))
                              (try (have c48b2 : ((t185 == 0) == t191) = false := by simpa using c48))
                              (try (have c48b3 : ¬ ((t185 == 0) = t191) := by simpa using c48))
                              clear c48
                              obtain rfl := Option.some.inj H
                              exact absurd HRT.out (by decide)
                          · replace c47 := Bool.eq_false_iff.mpr c47
                            subst c47
                            have H1 : (some false) = some r := by rw [if_neg (show ¬ (false = true) by decide)] at H; exact H
                            clear H
                            have H := H1
                            clear H1
                            obtain rfl := Option.some.inj H
                            exact absurd HRT.out (by decide)
                        · rw [if_neg c45] at H
                          exact absurd H (by simp)
            · rw [if_neg c21] at H
              exact absurd H (by simp)
          · rw [if_neg c20] at H
            exact absurd H (by simp)
        · rw [if_neg c18] at H
          exact absurd H (by simp)

/-- THE ONE PURE STATEMENT of lockfastlaw06_SuperBursts: yours. -/
def lockfastlaw06_SuperBursts.Pure : Prop := ∀ (a0 : Int) (a1 : Int) (a2 : Int) (a3 : Int) (a4 : Int), (Lit.int .u8 a0).wf = true → (Lit.int .u8 a1).wf = true → (Lit.int .u8 a2).wf = true → (Lit.int .u16 a3).wf = true → (Lit.int .u32 a4).wf = true → ∃ k, lockfastlaw06_SuperBursts.f k a0 a1 a2 a3 a4 = some true
theorem lockfastlaw06_SuperBursts.walk (P : lockfastlaw06_SuperBursts.Pure) (a0 : Int) (a1 : Int) (a2 : Int) (a3 : Int) (a4 : Int) (w : World) (w0 : (Lit.int .u8 a0).wf = true) (w1 : (Lit.int .u8 a1).wf = true) (w2 : (Lit.int .u8 a2).wf = true) (w3 : (Lit.int .u16 a3).wf = true) (w4 : (Lit.int .u32 a4).wf = true) :
    Calls Try.prog 12 #[.int .u8 a0, .int .u8 a1, .int .u8 a2, .int .u16 a3, .int .u32 a4] w fun e w' => e = .returned (.bool true) ∧ Below w.heap.size w w' := by
  obtain ⟨k, h⟩ := P a0 a1 a2 a3 a4 w0 w1 w2 w3 w4
  refine (lockfastlaw06_SuperBursts.calls k a0 a1 a2 a3 a4 true w rfl h).mono ?_
  rintro e w' ⟨rfl, hd⟩
  exact ⟨rfl, hd⟩

end Go.Proofs.Ytmflkbmjchapiaa.PSuperBursts
