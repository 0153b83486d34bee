-- WRITTEN FOR THIS CLAIM by given.py, a program of this session's: the kit's printer, run with contracts of the session's own. It is not a text of print.sh's.
import Derived.Test.YtmflkbmjchapiaaPSuperDecodesx0
import Derived.Test.YtmflkbmjchapiaaPSuperDecodesx1
import Derived.Test.YtmflkbmjchapiaaPSuperDecodesx3
import Derived.Test.YtmflkbmjchapiaaPSuperDecodesx4
import Derived.Test.YtmflkbmjchapiaaPSuperDecodesx5
import Derived.Test.YtmflkbmjchapiaaPSuperDecodesx6
namespace Go.Proofs.Ytmflkbmjchapiaa.PSuperDecodes
open Go.RowKit Go.Proofs.YtmflkbmjchapiaaW.PrintWords Go.Proofs.YtmflkbmjchapiaaW.PrintLast Go.Proofs.YtmflkbmjchapiaaW.PrintMore
attribute [local go_sem] max2_int min2_int max_two min_two max_three min_three max_four min_four   -- for this text's walks alone
set_option linter.unusedVariables false
set_option linter.unusedSimpArgs false
open Go.Proofs.YtmflkbmjchapiaaX

attribute [local go_sem high] eqA40
/-! ### lockfastlaw06_SuperDecodes: function 10 -/
def lockfastlaw06_SuperDecodes.j0 : Nat → Bool → List Int → Bool → Option (Bool)
  | 0, _, _, _ => none
  | k + 1, x5, x6, x40 => if x40 = true then (some false) else (if (x6.length : Int) < 8 then (some x5) else (if 7 ≤ (x6.length : Int) then ((seal_Of.f (x6.take 7)).bind fun t208 => (if 7 < (x6.length : Int) then ((some (x6.set (7 : Int).toNat (IntKind.u64.wrap (t208)) : List Int)).bind fun y209 => ((super_Decode.f y209).bind fun bt210 => ((lockfastref06_Decode.f k y209).bind fun bt213 => (if x5 = true then (if bt210.2.2 = bt213.2.2 then (some (bt210.1 == bt213.1 && (bt210.2.1 == bt213.2.1))) else (some false)) else (some false))))) else (none))) else (none)))
def lockfastlaw06_SuperDecodes.f (k : Nat) (l0 : List Int) (a1 : Int) : Option (Bool) := (lockfastlaw06_awake.f).bind fun t186 => (if (l0.length : Int) > 8 then (some t186) else ((some (([] : List Int) : List Int)).bind fun y187 => (if y187.length + l0.length < 17592186044416 then ((some (y187 ++ l0 : List Int)).bind fun y190 => (if 0 ≤ (wrap64 (Int.tmod a1 301)) then (if y190.length + (wrap64 (Int.tmod a1 301) : Int).toNat < 17592186044416 then ((some (y190 ++ List.replicate (wrap64 (Int.tmod a1 301) : Int).toNat 0 : List Int)).bind fun y193 => ((super_Decode.f y193).bind fun bt196 => ((lockfastref06_Decode.f k y193).bind fun bt200 => (if bt196.2.2 = bt200.2.2 then (lockfastlaw06_SuperDecodes.j0 k t186 y193 (!(bt196.1 == bt200.1) || (!(bt196.2.1 == bt200.2.1)))) else (lockfastlaw06_SuperDecodes.j0 k t186 y193 true))))) else (none)) else (none))) else (none))))
theorem lockfastlaw06_SuperDecodes.mono_l : ∀ k, (∀ y0 y1 y2, LeO (lockfastlaw06_SuperDecodes.j0 k y0 y1 y2) (lockfastlaw06_SuperDecodes.j0 (k + 1) y0 y1 y2))
  | 0 => fun _ _ _ r h => by simp [lockfastlaw06_SuperDecodes.j0] at h
  | k + 1 => by
    have ih0 := lockfastlaw06_SuperDecodes.mono_l k
    · intro y0 y1 y2
      unfold lockfastlaw06_SuperDecodes.j0
      repeat' first
      | (with_reducible exact ih0 _ _ _)
      | (with_reducible exact lockfastref06_Decode.mono _ _)
      | (with_reducible exact LeO.refl _)
      | (with_reducible exact LeO.none _)
      | (with_reducible refine LeO.ite ?_ ?_)
      | (with_reducible refine LeO.bind ?_ (fun _ => ?_))
      | exact ih0 _ _ _
      | exact lockfastref06_Decode.mono _ _
      | exact LeO.none _
      | refine LeO.ite ?_ ?_
      | refine LeO.bind ?_ (fun _ => ?_)
theorem lockfastlaw06_SuperDecodes.mono : ∀ a0 a1 k, LeO (lockfastlaw06_SuperDecodes.f k a0 a1) (lockfastlaw06_SuperDecodes.f (k + 1) a0 a1) := by
  intro a0 a1 k
  have ih0 := lockfastlaw06_SuperDecodes.mono_l k
  unfold lockfastlaw06_SuperDecodes.f
  repeat' first
      | (with_reducible exact ih0 _ _ _)
      | (with_reducible exact lockfastref06_Decode.mono _ _)
      | (with_reducible exact LeO.refl _)
      | (with_reducible exact LeO.none _)
      | (with_reducible refine LeO.ite ?_ ?_)
      | (with_reducible refine LeO.bind ?_ (fun _ => ?_))
      | exact ih0 _ _ _
      | exact lockfastref06_Decode.mono _ _
      | exact LeO.none _
      | refine LeO.ite ?_ ?_
      | refine LeO.bind ?_ (fun _ => ?_)
set_option maxHeartbeats 8000000 in
set_option maxRecDepth 100000 in
theorem lockfastlaw06_SuperDecodes.calls (k : Nat) (A0 : Option Addr) (c0 : Nat) (l0 : List Int) (a1 : Int) (r : Bool) (w : World) (hrt : r = true) (hr0 : Kd.C (Kd.int .u64) w A0 l0.length l0) (hc0 : l0.length ≤ c0) (h : lockfastlaw06_SuperDecodes.f k l0 a1 = some r) :
    Calls Try.prog 10 #[.slice A0 l0.length c0, .int .u16 a1] w fun e w' => e = .returned (.bool r) ∧ Below w.heap.size w w' := by
  have hu40 := Try.underlying40
  have HR0 := Aside0.mk hr0
  have HC0 := Aside0.mk hc0
  clear hr0 hc0
  have HB := Aside0.mk (Below.refl w.heap.size w)
  have H : ((lockfastlaw06_awake.f).bind fun t186 => (if (l0.length : Int) > 8 then (some t186) else ((some (([] : List Int) : List Int)).bind fun y187 => (if y187.length + l0.length < 17592186044416 then ((some (y187 ++ l0 : List Int)).bind fun y190 => (if 0 ≤ (wrap64 (Int.tmod a1 301)) then (if y190.length + (wrap64 (Int.tmod a1 301) : Int).toNat < 17592186044416 then ((some (y190 ++ List.replicate (wrap64 (Int.tmod a1 301) : Int).toNat 0 : List Int)).bind fun y193 => ((super_Decode.f y193).bind fun bt196 => ((lockfastref06_Decode.f k y193).bind fun bt200 => (if bt196.2.2 = bt200.2.2 then (lockfastlaw06_SuperDecodes.j0 k t186 y193 (!(bt196.1 == bt200.1) || (!(bt196.2.1 == bt200.2.1)))) else (lockfastlaw06_SuperDecodes.j0 k t186 y193 true))))) else (none)) else (none))) else (none))))) = some r := h
  clear h
  have HRT := Aside0.mk hrt
  clear hrt
  replace H := Option.bind_eq_some_iff.mp H
  obtain ⟨t186, A30, H⟩ := H
  replace H : (if (l0.length : Int) > 8 then (some t186) else ((some (([] : List Int) : List Int)).bind fun y187 => (if y187.length + l0.length < 17592186044416 then ((some (y187 ++ l0 : List Int)).bind fun y190 => (if 0 ≤ (wrap64 (Int.tmod a1 301)) then (if y190.length + (wrap64 (Int.tmod a1 301) : Int).toNat < 17592186044416 then ((some (y190 ++ List.replicate (wrap64 (Int.tmod a1 301) : Int).toNat 0 : List Int)).bind fun y193 => ((super_Decode.f y193).bind fun bt196 => ((lockfastref06_Decode.f k y193).bind fun bt200 => (if bt196.2.2 = bt200.2.2 then (lockfastlaw06_SuperDecodes.j0 k t186 y193 (!(bt196.1 == bt200.1) || (!(bt196.2.1 == bt200.2.1)))) else (lockfastlaw06_SuperDecodes.j0 k t186 y193 true))))) else (none)) else (none))) else (none)))) = some r := H
  have A3 := Aside0.mk A30
  clear A30
  by_cases c4 : (l0.length : Int) > 8
  · rw [if_pos c4] at H
    have c4b0 : decide (8 < (l0.length : Int)) = true := decide_eq_true c4
    have c4b1 : decide (8 < l0.length) = true := decide_eq_true (by omega)
    clear c4
    obtain rfl := Option.some.inj H
    simp only [Option.some.injEq, Prod.mk.injEq] at H
    obtain ⟨rfl⟩ := H
    go_enter Try.func10, Try.ntmps10
    go_wp2_with (first | ((with_reducible refine gate_callee (f := 22) rfl ?_); refine goesL_ (some 11) rfl rfl Try.func22 (by kernel_rfl) rfl #[] rfl (by (try simp only [List.map_toArray, List.map_cons, List.map_nil]); first | done | rfl | (simp only [List.length_drop, List.length_take]; rfl)) ?_; (with_reducible refine (lockfastlaw06_awake.calls  t186 _ A3.out).mono ?_); rintro e w5 ⟨rfl, hb⟩; refine ⟨_, rfl, ?_⟩; have n0_ := Aside0.mk (below_step (by repeat (first | (with_reducible first | exact HB.out | apply below_alloc | apply pw_below_drewN | apply below_drew1) | exact HB.out)) hb); clear HB; have HB := n0_; clear n0_; (try clear hb); (try clear hb2); (try clear hk); (try clear hi)))
    go_ret
    exact ⟨by first | rfl | (simp [errW_none, errW_some] <;> rfl) | (simp [*, errW_none, errW_some] <;> rfl), by repeat (first | (with_reducible first | exact HB.out | apply below_alloc | apply pw_below_drewN | apply below_drew1) | exact HB.out)⟩
  · rw [if_neg c4] at H
    have c4b0 : decide (8 < (l0.length : Int)) = false := decide_eq_false c4
    have c4b1 : decide (8 < l0.length) = false := decide_eq_false (by omega)
    clear c4
    obtain ⟨y187, hy187⟩ : ∃ y_ : List Int, y_ = (([] : List Int)) := ⟨_, rfl⟩
    replace H : (if y187.length + l0.length < 17592186044416 then ((some (y187 ++ l0 : List Int)).bind fun y190 => (if 0 ≤ (wrap64 (Int.tmod a1 301)) then (if y190.length + (wrap64 (Int.tmod a1 301) : Int).toNat < 17592186044416 then ((some (y190 ++ List.replicate (wrap64 (Int.tmod a1 301) : Int).toNat 0 : List Int)).bind fun y193 => ((super_Decode.f y193).bind fun bt196 => ((lockfastref06_Decode.f k y193).bind fun bt200 => (if bt196.2.2 = bt200.2.2 then (lockfastlaw06_SuperDecodes.j0 k t186 y193 (!(bt196.1 == bt200.1) || (!(bt196.2.1 == bt200.2.1)))) else (lockfastlaw06_SuperDecodes.j0 k t186 y193 true))))) else (none)) else (none))) else (none)) = some r := by first | (rw [hy187]; with_reducible exact H) | (have H2_ := (Option.bind_some _ _).symm.trans H; rw [hy187]; with_reducible exact H2_) | (have H2_ := (Option.bind_some _ _).symm.trans H; with_reducible exact H2_) | with_reducible exact H | (rw [hy187]; exact H) | exact H
    have Ny187 := Aside0.mk hy187
    clear hy187
    by_cases c6 : y187.length + l0.length < 17592186044416
    · rw [if_pos c6] at H
      have LMc6 := Aside0.mk c6
      clear c6
      obtain ⟨y190, hy190⟩ : ∃ y_ : List Int, y_ = (y187 ++ l0) := ⟨_, rfl⟩
      replace H : (if 0 ≤ (wrap64 (Int.tmod a1 301)) then (if y190.length + (wrap64 (Int.tmod a1 301) : Int).toNat < 17592186044416 then ((some (y190 ++ List.replicate (wrap64 (Int.tmod a1 301) : Int).toNat 0 : List Int)).bind fun y193 => ((super_Decode.f y193).bind fun bt196 => ((lockfastref06_Decode.f k y193).bind fun bt200 => (if bt196.2.2 = bt200.2.2 then (lockfastlaw06_SuperDecodes.j0 k t186 y193 (!(bt196.1 == bt200.1) || (!(bt196.2.1 == bt200.2.1)))) else (lockfastlaw06_SuperDecodes.j0 k t186 y193 true))))) else (none)) else (none)) = some r := by first | (rw [hy190]; with_reducible exact H) | (have H2_ := (Option.bind_some _ _).symm.trans H; rw [hy190]; with_reducible exact H2_) | (have H2_ := (Option.bind_some _ _).symm.trans H; with_reducible exact H2_) | with_reducible exact H | (rw [hy190]; exact H) | exact H
      have Ny190 := Aside0.mk hy190
      clear hy190
      obtain ⟨ji7, hji7⟩ : ∃ j_ : Int, (wrap64 (Int.tmod a1 301)) = j_ := ⟨_, rfl⟩
      replace H : (if 0 ≤ (ji7) then (if y190.length + (ji7 : Int).toNat < 17592186044416 then ((some (y190 ++ List.replicate (ji7 : Int).toNat 0 : List Int)).bind fun y193 => ((super_Decode.f y193).bind fun bt196 => ((lockfastref06_Decode.f k y193).bind fun bt200 => (if bt196.2.2 = bt200.2.2 then (lockfastlaw06_SuperDecodes.j0 k t186 y193 (!(bt196.1 == bt200.1) || (!(bt196.2.1 == bt200.2.1)))) else (lockfastlaw06_SuperDecodes.j0 k t186 y193 true))))) else (none)) else (none)) = some r := by first | (rw [hji7] at H; exact H) | (simp only [hji7] at H ⊢; exact H)
      (try rw [hji7] at A3)
      have hji7w : (IntKind.i64.wrap (Int.tmod a1 301)) = ji7 := (i64_w _).trans hji7
      by_cases c8 : 0 ≤ (ji7)
      · rw [if_pos c8] at H
        have c8b0 := eq_true c8
        have c8b1 : decide (0 ≤ (ji7)) = true := decide_eq_true c8
        clear c8
        by_cases c9 : y190.length + (ji7 : Int).toNat < 17592186044416
        · rw [if_pos c9] at H
          have LMc9 := Aside0.mk c9
          clear c9
          obtain ⟨y193, hy193⟩ : ∃ y_ : List Int, y_ = (y190 ++ List.replicate (ji7 : Int).toNat 0) := ⟨_, rfl⟩
          replace H : ((super_Decode.f y193).bind fun bt196 => ((lockfastref06_Decode.f k y193).bind fun bt200 => (if bt196.2.2 = bt200.2.2 then (lockfastlaw06_SuperDecodes.j0 k t186 y193 (!(bt196.1 == bt200.1) || (!(bt196.2.1 == bt200.2.1)))) else (lockfastlaw06_SuperDecodes.j0 k t186 y193 true)))) = some r := by first | (rw [hy193]; with_reducible exact H) | (have H2_ := (Option.bind_some _ _).symm.trans H; rw [hy193]; with_reducible exact H2_) | (have H2_ := (Option.bind_some _ _).symm.trans H; with_reducible exact H2_) | with_reducible exact H | (rw [hy193]; exact H) | exact H
          have Ny193 := Aside0.mk hy193
          clear hy193
          replace H := Option.bind_eq_some_iff.mp H
          obtain ⟨⟨t196, t197, t198⟩, A100, H⟩ := H
          replace H : ((lockfastref06_Decode.f k y193).bind fun bt200 => (if t198 = bt200.2.2 then (lockfastlaw06_SuperDecodes.j0 k t186 y193 (!(t196 == bt200.1) || (!(t197 == bt200.2.1)))) else (lockfastlaw06_SuperDecodes.j0 k t186 y193 true))) = some r := H
          have A10 := Aside0.mk A100
          clear A100
          replace H := Option.bind_eq_some_iff.mp H
          obtain ⟨⟨t200, t201, t202⟩, A110, H⟩ := H
          replace H : (if t198 = t202 then (lockfastlaw06_SuperDecodes.j0 k t186 y193 (!(t196 == t200) || (!(t197 == t201)))) else (lockfastlaw06_SuperDecodes.j0 k t186 y193 true)) = some r := H
          have A11 := Aside0.mk A110
          clear A110
          have HC12 := Aside0.mk H
          clear H
          go_enter Try.func10, Try.ntmps10
          go_upto_region 7 with (first | ((with_reducible refine gate_callee (f := 22) rfl ?_); refine goesL_ (some 11) rfl rfl Try.func22 (by kernel_rfl) rfl #[] rfl (by (try simp only [List.map_toArray, List.map_cons, List.map_nil]); first | done | rfl | (simp only [List.length_drop, List.length_take]; rfl)) ?_; (with_reducible refine (lockfastlaw06_awake.calls  t186 _ A3.out).mono ?_); rintro e w13 ⟨rfl, hb⟩; refine ⟨_, rfl, ?_⟩; have n0_ := Aside0.mk (below_step (by repeat (first | (with_reducible first | exact HB.out | apply below_alloc | apply pw_below_drewN | apply below_drew1) | exact HB.out)) hb); clear HB; have HB := n0_; clear n0_; (try clear hb); (try clear hb2); (try clear hk); (try clear hi)) | ((with_reducible refine gate_dst (N := 16) rfl ?_); refine Kd.R_lit (Kd.int .u64) _ 30 ?hg (N := 16) ?hd (xs := ([] : List Int)) (inner := []) (ok := fun _ => True) (okp := fun _ => True) ?hr ?hp (fun _ hk => hk) trivial (Below.refl _ _) (Nat.le_refl _) (by simp) ?_; (case hd => rfl); (case hg => rfl); (case hr => first | (go_simp; done) | (go_simp; rfl)); (case hp => exact (Reps.none _ _)); intro v188 w14 ho15 hb hg_ hnew_; clear hg_ hnew_; (first | rw [← Ny187.out] at ho15 | (simp only [Int.reduceToNat] at ho15; rw [← Ny187.out] at ho15)); have n0_ := Aside0.mk (Kd.R_lower ho15 (below_size (by repeat (first | (with_reducible first | exact HB.out | apply below_alloc | apply pw_below_drewN | apply below_drew1) | exact HB.out)))); have n1_ := Aside0.mk (below_step (by repeat (first | (with_reducible first | exact HB.out | apply below_alloc | apply pw_below_drewN | apply below_drew1) | exact HB.out)) hb); clear HB; have HO189 := n0_; have HB := n1_; clear n0_ n1_; clear hb ho15) | ((with_reducible refine gate_builtin (b := .append) (xs := #[.tmp 16, .tmp 17]) rfl ?_); at_builtin; refine Kd.R_append_rows (Kd.int .u64) (w0 := w) w.heap.size rfl (.tmp 16) (.tmp 17) 22 30 (.int .u64 0) 8 rfl Try.underlying22 info30 rfl (by decide) (by omega) v188 y187 l0 _ _ _ (fun _ => True) (fun _ => False) rfl rfl ?aO ?aR (fun _ _ h => h) (fun _ h => h.elim) ?aF ?aB ?aS ?aL ?_; (case aR => repeat (first | exact (Kd.C_below HR0.out HB.out) | (with_reducible refine Kd.C_alloc ?_ _) | (with_reducible refine Kd.C_drewN ?_ _) | (with_reducible refine Kd.C_drew ?_))); (case aB => exact (by repeat (first | (with_reducible first | exact HB.out | apply below_alloc | apply pw_below_drewN | apply below_drew1) | exact HB.out))); (case aF => exact (fun _ _ => trivial)); (case aO => exact (by (with_reducible repeat (first | apply Kd.R_alloc | apply Kd.R_drewN | apply Kd.R_drew)); exact HO189.out)); (case aS => exact (below_size (by repeat (first | (with_reducible first | exact HB.out | apply below_alloc | apply pw_below_drewN | apply below_drew1) | exact HB.out)))); (case aL => have := LMc6.out; omega); intro v191 w16 ho hb hg hat; rw [← Ny190.out] at ho; have n0_ := Aside0.mk (hb); have n1_ := Aside0.mk (ho); clear HB; clear HO189; have HB := n0_; have HO192 := n1_; clear n0_ n1_; clear ho hb hg hat) | (at_builtin; refine Kd.R_append_zeros (Kd.int .u64) (w0 := w) w.heap.size rfl (.tmp 18) (.tmp 21) 22 3 30 (.int .u64 0) 8 rfl Try.underlying22 Try.underlying3 info30 rfl (by decide) (by omega) v191 y190 0 (ji7 : Int) (fun _ => True) rfl rfl rfl ?aF ?aO (of_decide_eq_true (by first | (with_reducible assumption) | assumption)) ?aB ?aS ?aL ?_; (case aB => exact (by repeat (first | (with_reducible first | exact HB.out | apply below_alloc | apply pw_below_drewN | apply below_drew1) | exact HB.out))); (case aF => exact (fun _ _ => trivial)); (case aO => exact (by (with_reducible repeat (first | apply Kd.R_alloc | apply Kd.R_drewN | apply Kd.R_drew)); exact HO192.out)); (case aS => exact (below_size (by repeat (first | (with_reducible first | exact HB.out | apply below_alloc | apply pw_below_drewN | apply below_drew1) | exact HB.out)))); (case aL => have := LMc9.out; omega); intro v194 w17 ho hb hg hat; rw [← Ny193.out] at ho; have n0_ := Aside0.mk (hb); have n1_ := Aside0.mk (ho); clear HB; clear HO192; have HB := n0_; have HO195 := n1_; clear n0_ n1_; clear ho hb hg hat; obtain ⟨Ao18, co18, eo18⟩ := Kd.R_slice HO195.out; subst eo18) | ((with_reducible refine gate_callee (f := 25) rfl ?_); refine goesL_ (some 25) rfl rfl Try.func25 (by kernel_rfl) rfl #[.slice Ao18 y193.length co18] rfl (by (try simp only [List.map_toArray, List.map_cons, List.map_nil]); first | done | rfl | (simp only [List.length_drop, List.length_take]; rfl)) ?_; (with_reducible refine (super_Decode.calls _ _ y193 t196 t197 t198 _ ?side1 ?side2 A10.out).mono ?_); (case side1 => repeat (first | exact (Kd.R_reads' HO195.out).2.2 | (with_reducible refine Kd.C_alloc ?_ _) | (with_reducible refine Kd.C_drewN ?_ _) | (with_reducible refine Kd.C_drew ?_))); (case side2 => exact (Kd.R_reads' HO195.out).2.1); rintro e w19 ⟨rfl, hb⟩; refine ⟨_, rfl, ?_⟩; have n0_ := Aside0.mk (Kd.R_below (by (with_reducible repeat (first | apply Kd.R_alloc | apply Kd.R_drewN | apply Kd.R_drew)); exact HO195.out) hb); have n1_ := Aside0.mk (below_step (by repeat (first | (with_reducible first | exact HB.out | apply below_alloc | apply pw_below_drewN | apply below_drew1) | exact HB.out)) hb); clear HO195; clear HB; have HO195 := n0_; have HB := n1_; clear n0_ n1_; (try clear hb); (try clear hb2); (try clear hk); (try clear hi)) | ((with_reducible refine gate_dst (N := 7) rfl ?_); refine box_event ?hg (N := 7) ?hd (cs := #[.int .i64 0, .int .i64 0]) (t := 40) ?hr ?_; (case hd => rfl); (case hg => rfl); (case hr => first | (go_simp; done) | (go_simp; rfl)); intro gb199 hg w20 hbox hb; have n0_ := Aside0.mk (Kd.R_below (by (with_reducible repeat (first | apply Kd.R_alloc | apply Kd.R_drewN | apply Kd.R_drew)); exact HO195.out) hb); have n1_ := Aside0.mk (below_step (by repeat (first | (with_reducible first | exact HB.out | apply below_alloc | apply pw_below_drewN | apply below_drew1) | exact HB.out)) hb); have n2_ := Aside0.mk (hbox); have n3_ := Aside0.mk ((by rw [hg]; exact (below_size (by repeat (first | (with_reducible first | exact HB.out | apply below_alloc | apply pw_below_drewN | apply below_drew1) | exact HB.out))) : w.heap.size ≤ gb199)); have n4_ := Aside0.mk ((by rw [hg]; exact (below_size (by repeat (first | (with_reducible first | exact HB.out | apply below_alloc | apply pw_below_drewN | apply below_drew1) | exact HB.out))) : w.heap.size ≤ gb199)); clear HO195; clear HB; have HO195 := n0_; have HB := n1_; have BK199 := n2_; have GW199 := n3_; have GE199 := n4_; clear n0_ n1_ n2_ n3_ n4_; clear hb hbox hg; have hcz21_0 : w20.cell? ⟨gb199, 0, none⟩ = some (.int .i64 0) := (blk_cell BK199.out 0).trans rfl; have hcz21_1 : w20.cell? ⟨gb199, 1, none⟩ = some (.int .i64 0) := (blk_cell BK199.out 1).trans rfl; have hfz21_0 := blk_frozen BK199.out 0; have hfz21_1 := blk_frozen BK199.out 1) | ((with_reducible refine gate_callee (f := 26) rfl ?_); refine goesL_ (some 30) rfl rfl Try.func26 (by kernel_rfl) rfl #[.slice Ao18 y193.length co18] rfl (by (try simp only [List.map_toArray, List.map_cons, List.map_nil]); first | done | rfl | (simp only [List.length_drop, List.length_take]; rfl)) ?_; (with_reducible refine (lockfastref06_Decode.calls k _ _ y193 t200 t201 t202 _ ?side1 ?side2 A11.out).mono ?_); (case side1 => refine (Kd.R_reads' (e := 30) (base := w.heap.size) (ok := fun k_ => True) (n := y193.length) (c := co18) ?_).2.2; exact (by (with_reducible repeat (first | apply Kd.R_alloc | apply Kd.R_drewN | apply Kd.R_drew)); exact (Kd.R_mono (Kd.R_far (p := ⟨gb199, 1, none⟩) (Kd.R_far (p := ⟨gb199, 0, none⟩) (Kd.R_types HO195.out BK199.out (by decide)) (fun _ hk => hk.2) (.int .i64 t196)) (fun _ hk => hk.2) (.int .i64 t197)) (fun _ h_ => h_.1)))); (case side2 => exact (Kd.R_reads' HO195.out).2.1); rintro e w22 ⟨rfl, hb⟩; refine ⟨_, rfl, ?_⟩; have n0_ := Aside0.mk (Kd.R_below (by (with_reducible repeat (first | apply Kd.R_alloc | apply Kd.R_drewN | apply Kd.R_drew)); exact (Kd.R_mono (Kd.R_far (p := ⟨gb199, 1, none⟩) (Kd.R_far (p := ⟨gb199, 0, none⟩) (Kd.R_types HO195.out BK199.out (by decide)) (fun _ hk => hk.2) (.int .i64 t196)) (fun _ hk => hk.2) (.int .i64 t197)) (fun _ h_ => h_.1))) hb); have n1_ := Aside0.mk (blk_below (g := gb199) (o := .cells #[.int .i64 t196, .int .i64 t197] 40 (0, 0)) (by (with_reducible repeat (first | refine blk_drewN ?_ _ | refine blk_drew ?_ | refine blk_alloc ?_ _)); refine blk_put (cs := #[.int .i64 t196, .int .i64 0]) ?_ 1 _ rfl; (with_reducible repeat (first | refine blk_drewN ?_ _ | refine blk_drew ?_ | refine blk_alloc ?_ _)); refine blk_put (cs := #[.int .i64 0, .int .i64 0]) ?_ 0 _ rfl; (with_reducible repeat (first | refine blk_drewN ?_ _ | refine blk_drew ?_ | refine blk_alloc ?_ _)); exact BK199.out) hb); have n2_ := Aside0.mk (below_step (by repeat (first | (with_reducible first | exact HB.out | apply below_alloc | apply pw_below_drewN | apply below_drew1 | refine below_set ?_ GE199.out) | exact HB.out)) hb); clear HO195; clear BK199; clear HB; have HO195 := n0_; have BK199 := n1_; have HB := n2_; clear n0_ n1_ n2_; (try clear hb); (try clear hb2); (try clear hk); (try clear hi)) | ((with_reducible refine gate_dst (N := 9) rfl ?_); refine box_event ?hg (N := 9) ?hd (cs := #[.int .i64 0, .int .i64 0]) (t := 40) ?hr ?_; (case hd => rfl); (case hg => rfl); (case hr => first | (go_simp; done) | (go_simp; rfl)); intro gb203 hg w23 hbox hb; have n0_ := Aside0.mk (Kd.R_below (by (with_reducible repeat (first | apply Kd.R_alloc | apply Kd.R_drewN | apply Kd.R_drew)); exact HO195.out) hb); have n1_ := Aside0.mk (blk_below (g := gb199) (o := .cells #[.int .i64 t196, .int .i64 t197] 40 (0, 0)) (by (with_reducible repeat (first | refine blk_drewN ?_ _ | refine blk_drew ?_ | refine blk_alloc ?_ _)); exact BK199.out) hb); have n2_ := Aside0.mk (below_step (by repeat (first | (with_reducible first | exact HB.out | apply below_alloc | apply pw_below_drewN | apply below_drew1 | refine below_set ?_ GE199.out) | exact HB.out)) hb); have n3_ := Aside0.mk (hbox); have n4_ := Aside0.mk ((by rw [hg]; exact (below_size (by repeat (first | (with_reducible first | exact HB.out | apply below_alloc | apply pw_below_drewN | apply below_drew1 | refine below_set ?_ GE199.out) | exact HB.out))) : w.heap.size ≤ gb203)); have n5_ := Aside0.mk ((by rw [hg]; exact (below_size (by repeat (first | (with_reducible first | exact HB.out | apply below_alloc | apply pw_below_drewN | apply below_drew1 | refine below_set ?_ GE199.out) | exact HB.out))) : w.heap.size ≤ gb203)); have n6_ := Aside0.mk ((by rw [hg]; exact Nat.ne_of_lt (blk_lt (g := gb199) (o := .cells #[.int .i64 t196, .int .i64 t197] 40 (0, 0)) (by (with_reducible repeat (first | refine blk_drewN ?_ _ | refine blk_drew ?_ | refine blk_alloc ?_ _)); exact BK199.out)) : gb199 ≠ gb203)); have n7_ := Aside0.mk ((by rw [hg]; exact Nat.ne_of_gt (blk_lt (g := gb199) (o := .cells #[.int .i64 t196, .int .i64 t197] 40 (0, 0)) (by (with_reducible repeat (first | refine blk_drewN ?_ _ | refine blk_drew ?_ | refine blk_alloc ?_ _)); exact BK199.out)) : gb203 ≠ gb199)); clear HO195; clear BK199; clear HB; have HO195 := n0_; have BK199 := n1_; have HB := n2_; have BK203 := n3_; have GW203 := n4_; have GE203 := n5_; have NB199_203 := n6_; have NB203_199 := n7_; clear n0_ n1_ n2_ n3_ n4_ n5_ n6_ n7_; clear hb hbox hg; have hnb24 := NB203_199.out; have hnc24 := NB199_203.out; have hcz25_0 : w23.cell? ⟨gb203, 0, none⟩ = some (.int .i64 0) := (blk_cell BK203.out 0).trans rfl; have hcz25_1 : w23.cell? ⟨gb203, 1, none⟩ = some (.int .i64 0) := (blk_cell BK203.out 1).trans rfl; have hfz25_0 := blk_frozen BK203.out 0; have hfz25_1 := blk_frozen BK203.out 1))
          (try simp only [Act.put, List.setIfInBounds_toArray, List.set_cons_zero, List.set_cons_succ])
          go_cut [40] (fun v40 wc => ∃ (kq : Nat) (x40_11 : Bool), v40 = .bool x40_11 ∧ Aside0 (lockfastlaw06_SuperDecodes.j0 kq t186 y193 x40_11 = some r) ∧ Aside0 (kq ≤ k) ∧ Aside0 (Kd.R (Kd.int .u64) 30 wc w.heap.size (fun _ => True) (.slice Ao18 y193.length co18) y193) ∧ Aside0 (wc.heap[gb199]? = some (.cells #[.int .i64 t196, .int .i64 t197] 40 (0, 0))) ∧ Aside0 (wc.heap[gb203]? = some (.cells #[.int .i64 t200, .int .i64 t201] 40 (0, 0))) ∧ Aside0 (Below w.heap.size w wc))
          case first =>
            have H := HC12.out
            clear HC12
            by_cases c26 : t198 = t202
            · rw [if_pos c26] at H
              have c26b0 : (t198 == t202) = true := beq_iff_eq.mpr c26
              have c26b1 : (t198 != t202) = false := bne_eq_false_iff_eq.mpr c26
              clear c26
              (first | rw [c26b0] | (simp only [i64_w, i32_w]; rw [c26b0]) | skip)
              have H' := Aside0.mk H
              clear H
              have hnb27 := NB199_203.out
              have hnc27 := NB203_199.out
              have hcz28_0 : w23.cell? ⟨gb199, 0, none⟩ = some (.int .i64 t196) := (blk_cell BK199.out 0).trans rfl
              have hcz28_1 : w23.cell? ⟨gb199, 1, none⟩ = some (.int .i64 t197) := (blk_cell BK199.out 1).trans rfl
              have hfz28_0 := blk_frozen BK199.out 0
              have hfz28_1 := blk_frozen BK199.out 1
              have hcz29_0 : w23.cell? ⟨gb203, 0, none⟩ = some (.int .i64 0) := (blk_cell BK203.out 0).trans rfl
              have hcz29_1 : w23.cell? ⟨gb203, 1, none⟩ = some (.int .i64 0) := (blk_cell BK203.out 1).trans rfl
              have hfz29_0 := blk_frozen BK203.out 0
              have hfz29_1 := blk_frozen BK203.out 1
              go_wp2
              go_meet
              case rel => exact ⟨_, ((!(t196 == t200) || (!(t197 == t201)))), (by first | rfl | (simp; done) | (simp [*]; done)), (by first | exact H' | (subst_vars; exact H')), ⟨by first | omega | exact Nat.le_refl _⟩, ⟨by (with_reducible repeat (first | apply Kd.R_alloc | apply Kd.R_drewN | apply Kd.R_drew)); exact Kd.R_mono (Kd.R_far (p := ⟨gb203, 1, none⟩) (Kd.R_far (p := ⟨gb203, 0, none⟩) (Kd.R_types HO195.out BK203.out (by decide)) (fun _ hk => hk.2) (.int .i64 t200)) (fun _ hk => hk.2) (.int .i64 t201)) (fun _ hk => trivial)⟩, ⟨by (with_reducible repeat (first | refine blk_drewN ?_ _ | refine blk_drew ?_ | refine blk_alloc ?_ _)); refine blk_far ?_ NB199_203.out _; (with_reducible repeat (first | refine blk_drewN ?_ _ | refine blk_drew ?_ | refine blk_alloc ?_ _)); refine blk_far ?_ NB199_203.out _; (with_reducible repeat (first | refine blk_drewN ?_ _ | refine blk_drew ?_ | refine blk_alloc ?_ _)); exact BK199.out⟩, ⟨by (with_reducible repeat (first | refine blk_drewN ?_ _ | refine blk_drew ?_ | refine blk_alloc ?_ _)); refine blk_put (cs := #[.int .i64 t200, .int .i64 0]) ?_ 1 _ rfl; (with_reducible repeat (first | refine blk_drewN ?_ _ | refine blk_drew ?_ | refine blk_alloc ?_ _)); refine blk_put (cs := #[.int .i64 0, .int .i64 0]) ?_ 0 _ rfl; (with_reducible repeat (first | refine blk_drewN ?_ _ | refine blk_drew ?_ | refine blk_alloc ?_ _)); exact BK203.out⟩, ⟨by repeat (first | (with_reducible first | exact HB.out | apply below_alloc | apply pw_below_drewN | apply below_drew1 | refine below_set ?_ GE199.out | refine below_set ?_ GE203.out) | exact HB.out)⟩⟩
            · rw [if_neg c26] at H
              have c26b0 : (t198 == t202) = false := beq_eq_false_iff_ne.mpr c26
              have c26b1 : (t198 != t202) = true := bne_iff_ne.mpr c26
              (first | rw [c26b0] | (simp only [i64_w, i32_w]; rw [c26b0]) | skip)
              have H' := Aside0.mk H
              clear H
              go_wp2
              go_meet
              case rel => exact ⟨_, (true), (by first | rfl | (simp; done) | (simp [*]; done)), (by first | exact H' | (subst_vars; exact H')), ⟨by first | omega | exact Nat.le_refl _⟩, ⟨by (with_reducible repeat (first | apply Kd.R_alloc | apply Kd.R_drewN | apply Kd.R_drew)); exact Kd.R_mono (Kd.R_far (p := ⟨gb203, 1, none⟩) (Kd.R_far (p := ⟨gb203, 0, none⟩) (Kd.R_types HO195.out BK203.out (by decide)) (fun _ hk => hk.2) (.int .i64 t200)) (fun _ hk => hk.2) (.int .i64 t201)) (fun _ hk => trivial)⟩, ⟨by (with_reducible repeat (first | refine blk_drewN ?_ _ | refine blk_drew ?_ | refine blk_alloc ?_ _)); refine blk_far ?_ NB199_203.out _; (with_reducible repeat (first | refine blk_drewN ?_ _ | refine blk_drew ?_ | refine blk_alloc ?_ _)); refine blk_far ?_ NB199_203.out _; (with_reducible repeat (first | refine blk_drewN ?_ _ | refine blk_drew ?_ | refine blk_alloc ?_ _)); exact BK199.out⟩, ⟨by (with_reducible repeat (first | refine blk_drewN ?_ _ | refine blk_drew ?_ | refine blk_alloc ?_ _)); refine blk_put (cs := #[.int .i64 t200, .int .i64 0]) ?_ 1 _ rfl; (with_reducible repeat (first | refine blk_drewN ?_ _ | refine blk_drew ?_ | refine blk_alloc ?_ _)); refine blk_put (cs := #[.int .i64 0, .int .i64 0]) ?_ 0 _ rfl; (with_reducible repeat (first | refine blk_drewN ?_ _ | refine blk_drew ?_ | refine blk_alloc ?_ _)); exact BK203.out⟩, ⟨by repeat (first | (with_reducible first | exact HB.out | apply below_alloc | apply pw_below_drewN | apply below_drew1 | refine below_set ?_ GE199.out | refine below_set ?_ GE203.out) | exact HB.out)⟩⟩
          case rest =>
            clear HC12
            try clear c1
            try clear c2
            try clear p2
            try clear c4
            try clear c4b0
            try clear c4b1
            try clear c6
            try clear p6
            try clear c8
            try clear c8b0
            try clear c8b1
            try clear c9
            try clear c10
            try clear c22
            try clear c24
            try clear c25
            try clear c26
            try clear c26b0
            try clear c26b1
            try clear c27
            try clear hcz21_0
            try clear hcz21_1
            try clear hcz25_0
            try clear hcz25_1
            try clear hcz28_0
            try clear hcz28_1
            try clear hcz29_0
            try clear hcz29_1
            try clear hfz21_0
            try clear hfz21_1
            try clear hfz25_0
            try clear hfz25_1
            try clear hfz28_0
            try clear hfz28_1
            try clear hfz29_0
            try clear hfz29_1
            obtain ⟨kq, x40_11, rfl, HA, HJ11, HO_6, BK199, BK203, HB⟩ := hcut
            cases kq with
            | zero => exact absurd HA.out (by simp [lockfastlaw06_SuperDecodes.j0])
            | succ kj11 =>
              have H := HA.out
              clear HA
              simp only [lockfastlaw06_SuperDecodes.j0] at H
              by_cases c30 : x40_11 = true
              · subst c30
                have H1 : (some false) = some r := by rw [if_pos rfl] at H; exact H
                clear H
                have H := H1
                clear H1
                obtain rfl := Option.some.inj H
                exact absurd HRT.out (by decide)
              · replace c30 := Bool.eq_false_iff.mpr c30
                subst c30
                have H1 : (if (y193.length : Int) < 8 then (some t186) else (if 7 ≤ (y193.length : Int) then ((seal_Of.f (y193.take 7)).bind fun t208 => (if 7 < (y193.length : Int) then ((some (y193.set (7 : Int).toNat (IntKind.u64.wrap (t208)) : List Int)).bind fun y209 => ((super_Decode.f y209).bind fun bt210 => ((lockfastref06_Decode.f kj11 y209).bind fun bt213 => (if t186 = true then (if bt210.2.2 = bt213.2.2 then (some (bt210.1 == bt213.1 && (bt210.2.1 == bt213.2.1))) else (some false)) else (some false))))) else (none))) else (none))) = some r := by rw [if_neg (show ¬ (false = true) by decide)] at H; exact H
                clear H
                have H := H1
                clear H1
                by_cases c31 : (y193.length : Int) < 8
                · rw [if_pos c31] at H
                  have c31b0 : decide ((y193.length : Int) < 8) = true := decide_eq_true c31
                  have c31b1 : decide (y193.length < 8) = true := decide_eq_true (by omega)
                  clear c31
                  obtain rfl := Option.some.inj H
                  simp only [Option.some.injEq, Prod.mk.injEq] at H
                  obtain ⟨rfl⟩ := H
                  go_wp2
                  go_ret
                  exact ⟨by first | rfl | (simp [errW_none, errW_some] <;> rfl) | (simp only [← hji7]; first | rfl | (simp [errW_none, errW_some] <;> rfl)) | (simp [*, errW_none, errW_some] <;> rfl), by repeat (first | (with_reducible first | exact HB.out | apply below_alloc | apply pw_below_drewN | apply below_drew1 | refine below_set ?_ GE199.out | refine below_set ?_ GE203.out) | exact HB.out)⟩
                · rw [if_neg c31] at H
                  have c31b0 : decide ((y193.length : Int) < 8) = false := decide_eq_false c31
                  have c31b1 : decide (y193.length < 8) = false := decide_eq_false (by omega)
                  clear c31
                  by_cases c32 : 7 ≤ (y193.length : Int)
                  · rw [if_pos c32] at H
                    have c32b0 := eq_true c32
                    have c32b1 : decide (7 ≤ (y193.length : Int)) = true := decide_eq_true c32
                    clear c32
                    obtain ⟨y204, hy204⟩ : ∃ y_ : List Int, y_ = (y193.take 7) := ⟨_, rfl⟩
                    replace H : ((seal_Of.f y204).bind fun t208 => (if 7 < (y193.length : Int) then ((some (y193.set (7 : Int).toNat (IntKind.u64.wrap (t208)) : List Int)).bind fun y209 => ((super_Decode.f y209).bind fun bt210 => ((lockfastref06_Decode.f kj11 y209).bind fun bt213 => (if t186 = true then (if bt210.2.2 = bt213.2.2 then (some (bt210.1 == bt213.1 && (bt210.2.1 == bt213.2.1))) else (some false)) else (some false))))) else (none))) = some r := by first | (rw [hy204]; with_reducible exact H) | (have H2_ := (Option.bind_some _ _).symm.trans H; rw [hy204]; with_reducible exact H2_) | (have H2_ := (Option.bind_some _ _).symm.trans H; with_reducible exact H2_) | with_reducible exact H | (rw [hy204]; exact H) | exact H
                    have Ny204 := Aside0.mk hy204
                    clear hy204
                    replace H := Option.bind_eq_some_iff.mp H
                    obtain ⟨t208, A330, H⟩ := H
                    replace H : (if 7 < (y193.length : Int) then ((some (y193.set (7 : Int).toNat (IntKind.u64.wrap (t208)) : List Int)).bind fun y209 => ((super_Decode.f y209).bind fun bt210 => ((lockfastref06_Decode.f kj11 y209).bind fun bt213 => (if t186 = true then (if bt210.2.2 = bt213.2.2 then (some (bt210.1 == bt213.1 && (bt210.2.1 == bt213.2.1))) else (some false)) else (some false))))) else (none)) = some r := H
                    have A33 := Aside0.mk A330
                    clear A330
                    by_cases c34 : 7 < (y193.length : Int)
                    · rw [if_pos c34] at H
                      have c34b0 : decide (7 < (y193.length : Int)) = true := decide_eq_true c34
                      have c34b1 : decide (7 < y193.length) = true := decide_eq_true (by omega)
                      clear c34
                      obtain ⟨y209, hy209⟩ : ∃ y_ : List Int, y_ = (y193.set (7 : Int).toNat (IntKind.u64.wrap (t208))) := ⟨_, rfl⟩
                      replace H : ((super_Decode.f y209).bind fun bt210 => ((lockfastref06_Decode.f kj11 y209).bind fun bt213 => (if t186 = true then (if bt210.2.2 = bt213.2.2 then (some (bt210.1 == bt213.1 && (bt210.2.1 == bt213.2.1))) else (some false)) else (some false)))) = some r := by first | (rw [hy209]; with_reducible exact H) | (have H2_ := (Option.bind_some _ _).symm.trans H; rw [hy209]; with_reducible exact H2_) | (have H2_ := (Option.bind_some _ _).symm.trans H; with_reducible exact H2_) | with_reducible exact H | (rw [hy209]; exact H) | exact H
                      have Ny209 := Aside0.mk hy209
                      clear hy209
                      replace H := Option.bind_eq_some_iff.mp H
                      obtain ⟨⟨t210, t211, t212⟩, A360, H⟩ := H
                      replace H : ((lockfastref06_Decode.f kj11 y209).bind fun bt213 => (if t186 = true then (if t212 = bt213.2.2 then (some (t210 == bt213.1 && (t211 == bt213.2.1))) else (some false)) else (some false))) = some r := H
                      have A36 := Aside0.mk A360
                      clear A360
                      replace H := Option.bind_eq_some_iff.mp H
                      obtain ⟨⟨t213, t214, t215⟩, A370, H⟩ := H
                      replace H : (if t186 = true then (if t212 = t215 then (some (t210 == t213 && (t211 == t214))) else (some false)) else (some false)) = some r := H
                      have A37 := Aside0.mk A370
                      clear A370
                      by_cases c38 : t186 = true
                      · subst c38
                        have H1 : (if t212 = t215 then (some (t210 == t213 && (t211 == t214))) else (some false)) = some r := by rw [if_pos rfl] at H; exact H
                        clear H
                        have H := H1
                        clear H1
                        by_cases c39 : t212 = t215
                        · rw [if_pos c39] at H
                          have c39b0 : (t212 == t215) = true := beq_iff_eq.mpr c39
                          have c39b1 : (t212 != t215) = false := bne_eq_false_iff_eq.mpr c39
                          clear c39
                          obtain rfl := Option.some.inj H
                          simp only [Option.some.injEq, Prod.mk.injEq] at H
                          obtain ⟨rfl⟩ := H
                          have q40 : (7 : Int) ≤ ((y193.length : Int) : Int) := of_decide_eq_true (by first | (with_reducible assumption) | assumption)
                          obtain ⟨i040, hi040, _, hsz40, _⟩ := info_parts info30
                          have hroom40 : y193.length ≤ co18 := (Kd.R_reads' HO_6.out).2.1
                          have hC40 : Kd.C (Kd.int .u64) _ Ao18 y193.length y193 := (Kd.R_reads' HO_6.out).2.2
                          have hcut40 := cut_to (P := Try.prog) 22 30 .i64 Try.underlying22 hi040 Ao18 y193.length co18 7 (by omega) q40 hroom40
                          have hr40 := Kd.C_take (m := 7) hC40 (by omega)
                          have hy40 : y204.length = (7 : Int).toNat := (by rw [Ny204.out, List.length_take]; omega)
                          rw [← Ny204.out] at hr40
                          rw [← hy40] at hcut40
                          have HR207 := Aside0.mk hr40
                          have HC207 := Aside0.mk (show y204.length ≤ co18 from by omega)
                          clear hr40 hC40 hroom40 hi040 hsz40
                          have KY40 := Aside0.mk hy40
                          clear hy40
                          have KL40 := Aside0.mk (show 7 ≤ y193.length from by omega)
                          replace q40 := eq_true q40
                          go_wp2_with (first | ((with_reducible refine gate_callee (f := 15) rfl ?_); refine goesL_ (some 48) rfl rfl Try.func15 (by kernel_rfl) rfl #[.slice Ao18 y204.length co18] rfl (by (try simp only [List.map_toArray, List.map_cons, List.map_nil]); first | done | rfl | (simp only [List.length_drop, List.length_take]; rfl)) ?_; (with_reducible refine (seal_Of.calls _ _ y204 t208 _ ?side1 ?side2 A33.out).mono ?_); (case side1 => repeat (first | exact (by repeat (first | (with_reducible exact HR207.out) | (with_reducible refine Kd.C_alloc ?_ _) | (with_reducible refine Kd.C_drewN ?_ _) | (with_reducible refine Kd.C_drew ?_) | exact HR207.out)) | (with_reducible refine Kd.C_alloc ?_ _) | (with_reducible refine Kd.C_drewN ?_ _) | (with_reducible refine Kd.C_drew ?_))); (case side2 => exact HC207.out); rintro e w41 ⟨rfl, hb⟩; refine ⟨_, rfl, ?_⟩; have n0_ := Aside0.mk (Kd.R_below (by (with_reducible repeat (first | apply Kd.R_alloc | apply Kd.R_drewN | apply Kd.R_drew)); exact HO_6.out) hb); have n1_ := Aside0.mk (blk_below (g := gb199) (o := .cells #[.int .i64 t196, .int .i64 t197] 40 (0, 0)) (by (with_reducible repeat (first | refine blk_drewN ?_ _ | refine blk_drew ?_ | refine blk_alloc ?_ _)); exact BK199.out) hb); have n2_ := Aside0.mk (blk_below (g := gb203) (o := .cells #[.int .i64 t200, .int .i64 t201] 40 (0, 0)) (by (with_reducible repeat (first | refine blk_drewN ?_ _ | refine blk_drew ?_ | refine blk_alloc ?_ _)); exact BK203.out) hb); have n3_ := Aside0.mk (Kd.C_below (by repeat (first | (with_reducible exact HR207.out) | (with_reducible refine Kd.C_alloc ?_ _) | (with_reducible refine Kd.C_drewN ?_ _) | (with_reducible refine Kd.C_drew ?_) | exact HR207.out)) hb); have n4_ := Aside0.mk (below_step (by repeat (first | (with_reducible first | exact HB.out | apply below_alloc | apply pw_below_drewN | apply below_drew1 | refine below_set ?_ GE199.out | refine below_set ?_ GE203.out) | exact HB.out)) hb); clear HO_6; clear BK199; clear BK203; clear HR207; clear HB; have HO_6 := n0_; have BK199 := n1_; have BK203 := n2_; have HR207 := n3_; have HB := n4_; clear n0_ n1_ n2_ n3_ n4_; (try clear hb); (try clear hb2); (try clear hk); (try clear hi); have p35 : 0 ≤ (7 : Int) := (by omega); have q35 : (7 : Int) < ((y193.length : Int) : Int) := of_decide_eq_true (by first | (with_reducible assumption) | assumption); have qi35 : (7 < y193.length) = True := eq_true (by omega); obtain ⟨go35, co35, eo35, gb35, gl35, cl35, HG35⟩ := Kd.R_form HO_6.out (by omega); (first | cases eo35 | (injection eo35 with ea_ en_ ec_; (first | subst ea_ | (injection ea_ with ea_; subst ea_)); subst ec_; clear en_)); have GB35 := Aside0.mk gb35; have GG35 := Aside0.mk HG35; clear gb35 gl35 HG35; obtain ⟨hx35_0, hf35_0⟩ := Kd.R_celln 0 HO_6.out (7 : Int) p35 q35; (try rw [show ((7 : Int)).toNat = 7 from rfl] at hx35_0); (try simp only [Nat.reduceMul, Nat.zero_mul, Nat.zero_add, Nat.reduceAdd] at hx35_0); (try rw [show ((7 : Int)).toNat = 7 from rfl] at hf35_0); (try simp only [Nat.reduceMul, Nat.zero_mul, Nat.zero_add, Nat.reduceAdd] at hf35_0); replace p35 := eq_true p35; replace q35 := eq_true q35; obtain ⟨hy42_, hz42_⟩ := Kd.R_celln 0 HO_6.out (7 : Int) (by omega) (of_decide_eq_true (by first | (with_reducible assumption) | assumption)); (try simp only [Int.reduceToNat, Int.toNat_zero, Int.toNat_ofNat, Nat.reduceMul, Nat.zero_mul, Nat.zero_add] at hy42_ hz42_); (try rw [show ((7 : Int)).toNat = 7 from rfl] at hy42_); (try rw [show ((7 : Int)).toNat = 7 from rfl] at hz42_); have HP42 := Kd.R_putg HO_6.out (7 : Int) (IntKind.u64.wrap (t208))) | ((with_reducible refine gate_store (t := 30) (p := 50) rfl ?_); refine store_event (t := 30) (p := 50) (v := ?vo_w43) (w1 := (w41.setCell ⟨go35, (7 : Int).toNat, none⟩ (.int .u64 (IntKind.u64.wrap (t208))))) ?hg ?ho ?hn ?hr ?_; (case ho => rfl); (case hg => rfl); (case hn => rfl); (case hr => first | (go_simp; done) | (go_simp; rfl)); intro w43 hw; have hg : w41.grownBy w43 (some go35) := (by rw [hw]; exact HP42.2); have hp_ : Kd.R (Kd.int .u64) 30 w43 w.heap.size (fun _ => True) (.slice (some ⟨go35, 0, none⟩) y193.length co18) y209 := (by rw [hw, Ny209.out]; exact HP42.1); clear HP42; have n0_ := Aside0.mk (hp_); have n1_ := Aside0.mk (blk_grown (g := gb199) (o := .cells #[.int .i64 t196, .int .i64 t197] 40 (0, 0)) (by (with_reducible repeat (first | refine blk_drewN ?_ _ | refine blk_drew ?_ | refine blk_alloc ?_ _)); exact BK199.out) hg (Kd.R_ne HO_6.out BK199.out (by decide))); have n2_ := Aside0.mk (blk_grown (g := gb203) (o := .cells #[.int .i64 t200, .int .i64 t201] 40 (0, 0)) (by (with_reducible repeat (first | refine blk_drewN ?_ _ | refine blk_drew ?_ | refine blk_alloc ?_ _)); exact BK203.out) hg (Kd.R_ne HO_6.out BK203.out (by decide))); have n3_ := Aside0.mk ((by rw [hw]; exact below_set (HB.out) GB35.out : Below w.heap.size w w43)); clear HO_6; clear BK199; clear BK203; clear HB; have HO_6 := n0_; have BK199 := n1_; have BK203 := n2_; have HB := n3_; clear n0_ n1_ n2_ n3_; clear hg hw hp_) | ((with_reducible refine gate_callee (f := 25) rfl ?_); refine goesL_ (some 53) rfl rfl Try.func25 (by kernel_rfl) rfl #[.slice (some ⟨go35, 0, none⟩) y209.length co18] rfl (by (try simp only [List.map_toArray, List.map_cons, List.map_nil]); first | done | (rw [show y209.length = y193.length from (Kd.R_reads' HO_6.out).1.symm] <;> rfl) | rfl | (simp only [List.length_drop, List.length_take]; rfl)) ?_; (with_reducible refine (super_Decode.calls _ _ y209 t210 t211 t212 _ ?side1 ?side2 A36.out).mono ?_); (case side1 => repeat (first | exact (Kd.R_reads' HO_6.out).2.2 | (with_reducible refine Kd.C_alloc ?_ _) | (with_reducible refine Kd.C_drewN ?_ _) | (with_reducible refine Kd.C_drew ?_))); (case side2 => rw [show y209.length = y193.length from (Kd.R_reads' HO_6.out).1.symm]; exact (Kd.R_reads' HO_6.out).2.1); rintro e w44 ⟨rfl, hb⟩; refine ⟨_, rfl, ?_⟩; have n0_ := Aside0.mk (Kd.R_below (by (with_reducible repeat (first | apply Kd.R_alloc | apply Kd.R_drewN | apply Kd.R_drew)); exact HO_6.out) hb); have n1_ := Aside0.mk (blk_below (g := gb199) (o := .cells #[.int .i64 t196, .int .i64 t197] 40 (0, 0)) (by (with_reducible repeat (first | refine blk_drewN ?_ _ | refine blk_drew ?_ | refine blk_alloc ?_ _)); exact BK199.out) hb); have n2_ := Aside0.mk (blk_below (g := gb203) (o := .cells #[.int .i64 t200, .int .i64 t201] 40 (0, 0)) (by (with_reducible repeat (first | refine blk_drewN ?_ _ | refine blk_drew ?_ | refine blk_alloc ?_ _)); exact BK203.out) hb); have n3_ := Aside0.mk (below_step (by repeat (first | (with_reducible first | exact HB.out | apply below_alloc | apply pw_below_drewN | apply below_drew1 | refine below_set ?_ GE199.out | refine below_set ?_ GE203.out) | exact HB.out)) hb); clear HO_6; clear BK199; clear BK203; clear HB; have HO_6 := n0_; have BK199 := n1_; have BK203 := n2_; have HB := n3_; clear n0_ n1_ n2_ n3_; (try clear hb); (try clear hb2); (try clear hk); (try clear hi); have hnb45 := NB199_203.out; have hnc45 := NB203_199.out; have hcz46_0 : w44.cell? ⟨gb199, 0, none⟩ = some (.int .i64 t196) := (blk_cell BK199.out 0).trans rfl; have hcz46_1 : w44.cell? ⟨gb199, 1, none⟩ = some (.int .i64 t197) := (blk_cell BK199.out 1).trans rfl; have hfz46_0 := blk_frozen BK199.out 0; have hfz46_1 := blk_frozen BK199.out 1) | ((with_reducible refine gate_callee (f := 26) rfl ?_); refine goesL_ (some 58) rfl rfl Try.func26 (by kernel_rfl) rfl #[.slice (some ⟨go35, 0, none⟩) y209.length co18] rfl (by (try simp only [List.map_toArray, List.map_cons, List.map_nil]); first | done | (rw [show y209.length = y193.length from (Kd.R_reads' HO_6.out).1.symm] <;> rfl) | rfl | (simp only [List.length_drop, List.length_take]; rfl)) ?_; (with_reducible refine (lockfastref06_Decode.calls kj11 _ _ y209 t213 t214 t215 _ ?side1 ?side2 A37.out).mono ?_); (case side1 => refine (Kd.R_reads' (e := 30) (base := w.heap.size) (ok := fun k_ => True) (n := y193.length) (c := co18) ?_).2.2; exact (by (with_reducible repeat (first | apply Kd.R_alloc | apply Kd.R_drewN | apply Kd.R_drew)); exact (Kd.R_mono (Kd.R_far (p := ⟨gb199, 1, none⟩) (Kd.R_far (p := ⟨gb199, 0, none⟩) (Kd.R_types HO_6.out BK199.out (by decide)) (fun _ hk => hk.2) (.int .i64 t210)) (fun _ hk => hk.2) (.int .i64 t211)) (fun _ h_ => h_.1)))); (case side2 => rw [show y209.length = y193.length from (Kd.R_reads' HO_6.out).1.symm]; exact (Kd.R_reads' HO_6.out).2.1); rintro e w47 ⟨rfl, hb⟩; refine ⟨_, rfl, ?_⟩; have n0_ := Aside0.mk (Kd.R_below (by (with_reducible repeat (first | apply Kd.R_alloc | apply Kd.R_drewN | apply Kd.R_drew)); exact (Kd.R_mono (Kd.R_far (p := ⟨gb199, 1, none⟩) (Kd.R_far (p := ⟨gb199, 0, none⟩) (Kd.R_types HO_6.out BK199.out (by decide)) (fun _ hk => hk.2) (.int .i64 t210)) (fun _ hk => hk.2) (.int .i64 t211)) (fun _ h_ => h_.1))) hb); have n1_ := Aside0.mk (blk_below (g := gb199) (o := .cells #[.int .i64 t210, .int .i64 t211] 40 (0, 0)) (by (with_reducible repeat (first | refine blk_drewN ?_ _ | refine blk_drew ?_ | refine blk_alloc ?_ _)); refine blk_put (cs := #[.int .i64 t210, .int .i64 t197]) ?_ 1 _ rfl; (with_reducible repeat (first | refine blk_drewN ?_ _ | refine blk_drew ?_ | refine blk_alloc ?_ _)); refine blk_put (cs := #[.int .i64 t196, .int .i64 t197]) ?_ 0 _ rfl; (with_reducible repeat (first | refine blk_drewN ?_ _ | refine blk_drew ?_ | refine blk_alloc ?_ _)); exact BK199.out) hb); have n2_ := Aside0.mk (blk_below (g := gb203) (o := .cells #[.int .i64 t200, .int .i64 t201] 40 (0, 0)) (by (with_reducible repeat (first | refine blk_drewN ?_ _ | refine blk_drew ?_ | refine blk_alloc ?_ _)); refine blk_far ?_ NB203_199.out _; (with_reducible repeat (first | refine blk_drewN ?_ _ | refine blk_drew ?_ | refine blk_alloc ?_ _)); refine blk_far ?_ NB203_199.out _; (with_reducible repeat (first | refine blk_drewN ?_ _ | refine blk_drew ?_ | refine blk_alloc ?_ _)); exact BK203.out) hb); have n3_ := Aside0.mk (below_step (by repeat (first | (with_reducible first | exact HB.out | apply below_alloc | apply pw_below_drewN | apply below_drew1 | refine below_set ?_ GE199.out | refine below_set ?_ GE203.out) | exact HB.out)) hb); clear HO_6; clear BK199; clear BK203; clear HB; have HO_6 := n0_; have BK199 := n1_; have BK203 := n2_; have HB := n3_; clear n0_ n1_ n2_ n3_; (try clear hb); (try clear hb2); (try clear hk); (try clear hi); have hcz48_0 : w47.cell? ⟨gb203, 0, none⟩ = some (.int .i64 t200) := (blk_cell BK203.out 0).trans rfl; have hcz48_1 : w47.cell? ⟨gb203, 1, none⟩ = some (.int .i64 t201) := (blk_cell BK203.out 1).trans rfl; have hfz48_0 := blk_frozen BK203.out 0; have hfz48_1 := blk_frozen BK203.out 1; have hcz49_0 : w47.cell? ⟨gb199, 0, none⟩ = some (.int .i64 t210) := (blk_cell BK199.out 0).trans rfl; have hcz49_1 : w47.cell? ⟨gb199, 1, none⟩ = some (.int .i64 t211) := (blk_cell BK199.out 1).trans rfl; have hfz49_0 := blk_frozen BK199.out 0; have hfz49_1 := blk_frozen BK199.out 1))
                          go_ret
                          exact ⟨by first | rfl | (simp [errW_none, errW_some] <;> rfl) | (simp only [← hji7]; first | rfl | (simp [errW_none, errW_some] <;> rfl)) | (simp [*, errW_none, errW_some] <;> rfl), by repeat (first | (with_reducible first | exact HB.out | apply below_alloc | apply pw_below_drewN | apply below_drew1 | refine below_set ?_ GE199.out | refine below_set ?_ GE203.out) | exact HB.out)⟩
                        · rw [if_neg c39] at H
                          have c39b0 : (t212 == t215) = false := beq_eq_false_iff_ne.mpr c39
                          have c39b1 : (t212 != t215) = true := bne_iff_ne.mpr c39
                          obtain rfl := Option.some.inj H
                          exact absurd HRT.out (by decide)
                      · replace c38 := Bool.eq_false_iff.mpr c38
                        subst c38
                        have H1 : (some false) = some r := by rw [if_neg (show ¬ (false = true) by decide)] at H; exact H
                        clear H
                        have H := H1
                        clear H1
                        obtain rfl := Option.some.inj H
                        exact absurd HRT.out (by decide)
                    · rw [if_neg c34] at H
                      exact absurd H (by simp)
                  · rw [if_neg c32] at H
                    exact absurd H (by simp)
        · rw [if_neg c9] at H
          exact absurd H (by simp)
      · rw [if_neg c8] at H
        exact absurd H (by simp)
    · rw [if_neg c6] at H
      exact absurd H (by simp)

/-- THE ONE PURE STATEMENT of lockfastlaw06_SuperDecodes: yours. -/
def lockfastlaw06_SuperDecodes.Pure : Prop := ∀ (l0 : List Int) (a1 : Int), l0.length ≤ maxLen → l0.length * 8 ≤ 140737488351232 → (∀ x ∈ l0, (Lit.int .u64 x).wf = true) → (Lit.int .u16 a1).wf = true → ∃ k, lockfastlaw06_SuperDecodes.f k l0 a1 = some true
theorem lockfastlaw06_SuperDecodes.walk (P : lockfastlaw06_SuperDecodes.Pure) (a0 : Option Addr) (len0 cap0 : Nat) (z0 : List Int) (a1 : Int) (w : World) (w0 : (a0 = none ∧ len0 = 0 ∧ cap0 = 0 ∧ z0 = []) ∨ ∃ x, a0 = some x ∧ len0 ≤ cap0 ∧ cap0 ≤ maxLen ∧ z0.length = cap0 ∧ (∀ i, i < z0.length → w.cell? (x.add i) = some (.int .u64 (z0.getD i 0))) ∧ ∀ n ∈ z0, (Lit.int .u64 n).wf = true) (y0 : len0 * 8 ≤ 140737488351232) (w1 : (Lit.int .u16 a1).wf = true) :
    Calls Try.prog 10 #[.slice a0 len0 cap0, .int .u16 a1] w fun e w' => e = .returned (.bool true) ∧ Below w.heap.size w w' := by
  obtain ⟨l0, rfl, hr0, hm0, hw0, hc0⟩ := ReadsInt.ofRowC w0
  obtain ⟨k, h⟩ := P l0 a1 hm0 y0 hw0 w1
  refine (lockfastlaw06_SuperDecodes.calls k _ _ l0 a1 true w rfl (Kd.C_of_reads (d := (0 : Int)) (h1 := fun _ => rfl) hr0) hc0 h).mono ?_
  rintro e w' ⟨rfl, hd⟩
  exact ⟨rfl, hd⟩

end Go.Proofs.Ytmflkbmjchapiaa.PSuperDecodes
