-- WRITTEN FOR THIS CLAIM by given.py, a program of this session's: the kit's printer, run with contracts of the session's own. It is not a text of print.sh's.
import Derived.Test.YtmflkbmjchapiaaPSealOpensx0
import Derived.Test.YtmflkbmjchapiaaPSealOpensx1
import Derived.Test.YtmflkbmjchapiaaPSealOpensx2
namespace Go.Proofs.Ytmflkbmjchapiaa.PSealOpens
open Go.RowKit Go.Proofs.YtmflkbmjchapiaaW.PrintWords Go.Proofs.YtmflkbmjchapiaaW.PrintLast Go.Proofs.YtmflkbmjchapiaaW.PrintMore
attribute [local go_sem] max2_int min2_int max_two min_two max_three min_three max_four min_four   -- for this text's walks alone
set_option linter.unusedVariables false
set_option linter.unusedSimpArgs false
open Go.Proofs.YtmflkbmjchapiaaX

/-! ### lockfastlaw02_SealOpens: function 4 -/
mutual
def lockfastlaw02_SealOpens.j0 : Nat → List Int → Bool → List Int → Bool → Int → Bool → Option (Bool)
  | 0, _, _, _, _, _, _ => none
  | k + 1, x0, x3, x4, x5, x6, x7 => if (x5 != x7) = true then (lockfastlaw02_SealOpens.j1 k x0 x3 x6 true) else (if x5 = true then (if 0 ≤ (wrap64 (x6 - 1)) then (if (wrap64 (x6 - 1)) ≤ (x0.length : Int) then ((lockfastref01_Words.f k x4 (x0.take ((wrap64 (x6 - 1)) : Int).toNat)).bind fun t140 => (lockfastlaw02_SealOpens.j1 k x0 x3 x6 (!t140))) else (none)) else (none)) else (if (x4.length : Int) = 0 then (lockfastlaw02_SealOpens.j1 k x0 x3 x6 false) else (lockfastlaw02_SealOpens.j1 k x0 x3 x6 true)))
def lockfastlaw02_SealOpens.j1 : Nat → List Int → Bool → Int → Bool → Option (Bool)
  | 0, _, _, _, _ => none
  | k + 1, x0, x3, x6, x62 => if x62 = true then (some false) else ((seal_Seal.f x0).bind fun t141 => (if (t141.length : Int) = (wrap64 (x6 + 1)) then ((seal_Open.f t141).bind fun bt144 => (if x3 = true then (if 0 ≤ x6 then (if x6 ≤ (t141.length : Int) then ((lockfastref01_Words.f k (t141.take (x6 : Int).toNat) x0).bind fun t152 => (if t152 = true then (if x6 < (t141.length : Int) then ((lockfastref02_Of.f k x0).bind fun t154 => (if (rd t141 x6) = (IntKind.u64.wrap (t154)) then (if bt144.2 = true then ((lockfastref01_Words.f k bt144.1 x0).bind fun t155 => (some t155)) else (some false)) else (some false))) else (none)) else (some false))) else (none)) else (none)) else (some false))) else (some false)))
end
def lockfastlaw02_SealOpens.f (k : Nat) (l0 : List Int) : Option (Bool) := (lockfastlaw02_awake.f).bind fun t131 => (if (l0.length : Int) > 40 then (some t131) else ((seal_Open.f l0).bind fun bt132 => (if (l0.length : Int) > 0 then (if 0 ≤ (wrap64 ((l0.length : Int) - 1)) then (if (wrap64 ((l0.length : Int) - 1)) < (l0.length : Int) then (if (wrap64 ((l0.length : Int) - 1)) ≤ (l0.length : Int) then ((lockfastref02_Of.f k (l0.take ((wrap64 ((l0.length : Int) - 1)) : Int).toNat)).bind fun t138 => (lockfastlaw02_SealOpens.j0 k l0 t131 bt132.1 bt132.2 (l0.length : Int) ((rd l0 (wrap64 ((l0.length : Int) - 1))) == (IntKind.u64.wrap (t138))))) else (none)) else (none)) else (none)) else (lockfastlaw02_SealOpens.j0 k l0 t131 bt132.1 bt132.2 (l0.length : Int) false))))
theorem lockfastlaw02_SealOpens.mono_l : ∀ k, (∀ y0 y1 y2 y3 y4 y5, LeO (lockfastlaw02_SealOpens.j0 k y0 y1 y2 y3 y4 y5) (lockfastlaw02_SealOpens.j0 (k + 1) y0 y1 y2 y3 y4 y5)) ∧ (∀ y0 y1 y2 y3, LeO (lockfastlaw02_SealOpens.j1 k y0 y1 y2 y3) (lockfastlaw02_SealOpens.j1 (k + 1) y0 y1 y2 y3))
  | 0 => ⟨fun _ _ _ _ _ _ r h => by simp [lockfastlaw02_SealOpens.j0] at h, fun _ _ _ _ r h => by simp [lockfastlaw02_SealOpens.j1] at h⟩
  | k + 1 => by
    obtain ⟨ih0, ih1⟩ := lockfastlaw02_SealOpens.mono_l k
    refine ⟨?_, ?_⟩
    · intro y0 y1 y2 y3 y4 y5
      unfold lockfastlaw02_SealOpens.j0
      repeat' first
      | (with_reducible exact ih0 _ _ _ _ _ _)
      | (with_reducible exact ih1 _ _ _ _)
      | (with_reducible exact lockfastref01_Words.mono _ _ _)
      | (with_reducible exact lockfastref02_Of.mono _ _)
      | (with_reducible exact LeO.refl _)
      | (with_reducible exact LeO.none _)
      | (with_reducible refine LeO.ite ?_ ?_)
      | (with_reducible refine LeO.bind ?_ (fun _ => ?_))
      | exact ih0 _ _ _ _ _ _
      | exact ih1 _ _ _ _
      | exact lockfastref01_Words.mono _ _ _
      | exact lockfastref02_Of.mono _ _
      | exact LeO.none _
      | refine LeO.ite ?_ ?_
      | refine LeO.bind ?_ (fun _ => ?_)
    · intro y0 y1 y2 y3
      unfold lockfastlaw02_SealOpens.j1
      repeat' first
      | (with_reducible exact ih0 _ _ _ _ _ _)
      | (with_reducible exact ih1 _ _ _ _)
      | (with_reducible exact lockfastref01_Words.mono _ _ _)
      | (with_reducible exact lockfastref02_Of.mono _ _)
      | (with_reducible exact LeO.refl _)
      | (with_reducible exact LeO.none _)
      | (with_reducible refine LeO.ite ?_ ?_)
      | (with_reducible refine LeO.bind ?_ (fun _ => ?_))
      | exact ih0 _ _ _ _ _ _
      | exact ih1 _ _ _ _
      | exact lockfastref01_Words.mono _ _ _
      | exact lockfastref02_Of.mono _ _
      | exact LeO.none _
      | refine LeO.ite ?_ ?_
      | refine LeO.bind ?_ (fun _ => ?_)
theorem lockfastlaw02_SealOpens.mono : ∀ a0 k, LeO (lockfastlaw02_SealOpens.f k a0) (lockfastlaw02_SealOpens.f (k + 1) a0) := by
  intro a0 k
  obtain ⟨ih0, ih1⟩ := lockfastlaw02_SealOpens.mono_l k
  unfold lockfastlaw02_SealOpens.f
  repeat' first
      | (with_reducible exact ih0 _ _ _ _ _ _)
      | (with_reducible exact ih1 _ _ _ _)
      | (with_reducible exact lockfastref01_Words.mono _ _ _)
      | (with_reducible exact lockfastref02_Of.mono _ _)
      | (with_reducible exact LeO.refl _)
      | (with_reducible exact LeO.none _)
      | (with_reducible refine LeO.ite ?_ ?_)
      | (with_reducible refine LeO.bind ?_ (fun _ => ?_))
      | exact ih0 _ _ _ _ _ _
      | exact ih1 _ _ _ _
      | exact lockfastref01_Words.mono _ _ _
      | exact lockfastref02_Of.mono _ _
      | exact LeO.none _
      | refine LeO.ite ?_ ?_
      | refine LeO.bind ?_ (fun _ => ?_)
set_option maxHeartbeats 8000000 in
set_option maxRecDepth 100000 in
theorem lockfastlaw02_SealOpens.calls (k : Nat) (A0 : Option Addr) (c0 : Nat) (l0 : List Int) (r : Bool) (w : World) (hrt : r = true) (hr0 : Kd.C (Kd.int .u64) w A0 l0.length l0) (hc0 : l0.length ≤ c0) (h : lockfastlaw02_SealOpens.f k l0 = some r) :
    Calls Try.prog 4 #[.slice A0 l0.length c0] w fun e w' => e = .returned (.bool r) ∧ Below w.heap.size w w' := by
  have HR0 := Aside0.mk hr0
  have HC0 := Aside0.mk hc0
  clear hr0 hc0
  have HB := Aside0.mk (Below.refl w.heap.size w)
  have H : ((lockfastlaw02_awake.f).bind fun t131 => (if (l0.length : Int) > 40 then (some t131) else ((seal_Open.f l0).bind fun bt132 => (if (l0.length : Int) > 0 then (if 0 ≤ (wrap64 ((l0.length : Int) - 1)) then (if (wrap64 ((l0.length : Int) - 1)) < (l0.length : Int) then (if (wrap64 ((l0.length : Int) - 1)) ≤ (l0.length : Int) then ((lockfastref02_Of.f k (l0.take ((wrap64 ((l0.length : Int) - 1)) : Int).toNat)).bind fun t138 => (lockfastlaw02_SealOpens.j0 k l0 t131 bt132.1 bt132.2 (l0.length : Int) ((rd l0 (wrap64 ((l0.length : Int) - 1))) == (IntKind.u64.wrap (t138))))) else (none)) else (none)) else (none)) else (lockfastlaw02_SealOpens.j0 k l0 t131 bt132.1 bt132.2 (l0.length : Int) false))))) = some r := h
  clear h
  have HRT := Aside0.mk hrt
  clear hrt
  replace H := Option.bind_eq_some_iff.mp H
  obtain ⟨t131, A20, H⟩ := H
  replace H : (if (l0.length : Int) > 40 then (some t131) else ((seal_Open.f l0).bind fun bt132 => (if (l0.length : Int) > 0 then (if 0 ≤ (wrap64 ((l0.length : Int) - 1)) then (if (wrap64 ((l0.length : Int) - 1)) < (l0.length : Int) then (if (wrap64 ((l0.length : Int) - 1)) ≤ (l0.length : Int) then ((lockfastref02_Of.f k (l0.take ((wrap64 ((l0.length : Int) - 1)) : Int).toNat)).bind fun t138 => (lockfastlaw02_SealOpens.j0 k l0 t131 bt132.1 bt132.2 (l0.length : Int) ((rd l0 (wrap64 ((l0.length : Int) - 1))) == (IntKind.u64.wrap (t138))))) else (none)) else (none)) else (none)) else (lockfastlaw02_SealOpens.j0 k l0 t131 bt132.1 bt132.2 (l0.length : Int) false)))) = some r := H
  have A2 := Aside0.mk A20
  clear A20
  by_cases c3 : (l0.length : Int) > 40
  · rw [if_pos c3] at H
    have c3b0 : decide (40 < (l0.length : Int)) = true := decide_eq_true c3
    have c3b1 : decide (40 < l0.length) = true := decide_eq_true (by omega)
    clear c3
    obtain rfl := Option.some.inj H
    simp only [Option.some.injEq, Prod.mk.injEq] at H
    obtain ⟨rfl⟩ := H
    go_enter Try.func4, Try.ntmps4
    go_wp2_with (first | (go_at_call 14; (with_reducible refine (lockfastlaw02_awake.calls  t131 _ A2.out).mono ?_); rintro e w4 ⟨rfl, hb⟩; have n0_ := Aside0.mk (below_step (by repeat (first | (with_reducible first | exact HB.out | apply below_alloc | apply pw_below_drewN | apply below_drew1) | exact HB.out)) hb); clear HB; have HB := n0_; clear n0_; (try clear hb); (try clear hb2); (try clear hk); (try clear hi)))
    repeat (go_quiet (first | (go_at_call 14; (with_reducible refine (lockfastlaw02_awake.calls  t131 _ A2.out).mono ?_); rintro e w4 ⟨rfl, hb⟩; have n0_ := Aside0.mk (below_step (by repeat (first | (with_reducible first | exact HB.out | apply below_alloc | apply pw_below_drewN | apply below_drew1) | exact HB.out)) hb); clear HB; have HB := n0_; clear n0_; (try clear hb); (try clear hb2); (try clear hk); (try clear hi))); try go_wp2_with (first | (go_at_call 14; (with_reducible refine (lockfastlaw02_awake.calls  t131 _ A2.out).mono ?_); rintro e w4 ⟨rfl, hb⟩; have n0_ := Aside0.mk (below_step (by repeat (first | (with_reducible first | exact HB.out | apply below_alloc | apply pw_below_drewN | apply below_drew1) | exact HB.out)) hb); clear HB; have HB := n0_; clear n0_; (try clear hb); (try clear hb2); (try clear hk); (try clear hi))))
    go_ret
    exact ⟨by first | rfl | (simp [errW_none, errW_some] <;> rfl) | (simp [*, errW_none, errW_some] <;> rfl), by repeat (first | (with_reducible first | exact HB.out | apply below_alloc | apply pw_below_drewN | apply below_drew1) | exact HB.out)⟩
  · rw [if_neg c3] at H
    have c3b0 : decide (40 < (l0.length : Int)) = false := decide_eq_false c3
    have c3b1 : decide (40 < l0.length) = false := decide_eq_false (by omega)
    clear c3
    replace H := Option.bind_eq_some_iff.mp H
    obtain ⟨⟨t132, t133⟩, A50, H⟩ := H
    replace H : (if (l0.length : Int) > 0 then (if 0 ≤ (wrap64 ((l0.length : Int) - 1)) then (if (wrap64 ((l0.length : Int) - 1)) < (l0.length : Int) then (if (wrap64 ((l0.length : Int) - 1)) ≤ (l0.length : Int) then ((lockfastref02_Of.f k (l0.take ((wrap64 ((l0.length : Int) - 1)) : Int).toNat)).bind fun t138 => (lockfastlaw02_SealOpens.j0 k l0 t131 t132 t133 (l0.length : Int) ((rd l0 (wrap64 ((l0.length : Int) - 1))) == (IntKind.u64.wrap (t138))))) else (none)) else (none)) else (none)) else (lockfastlaw02_SealOpens.j0 k l0 t131 t132 t133 (l0.length : Int) false)) = some r := H
    have A5 := Aside0.mk A50
    clear A50
    have HC6 := Aside0.mk H
    clear H
    go_enter Try.func4, Try.ntmps4
    go_upto_region 6 with (first | (go_at_call 14; (with_reducible refine (lockfastlaw02_awake.calls  t131 _ A2.out).mono ?_); rintro e w7 ⟨rfl, hb⟩; have n0_ := Aside0.mk (below_step (by repeat (first | (with_reducible first | exact HB.out | apply below_alloc | apply pw_below_drewN | apply below_drew1) | exact HB.out)) hb); clear HB; have HB := n0_; clear n0_; (try clear hb); (try clear hb2); (try clear hk); (try clear hi)) | (go_at_call 19; (with_reducible refine (seal_Open.calls _ _ l0 t132 t133 _ ?side1 ?side2 A5.out).mono ?_); (case side1 => repeat (first | exact (Kd.C_below HR0.out HB.out) | (with_reducible refine Kd.C_alloc ?_ _) | (with_reducible refine Kd.C_drewN ?_ _) | (with_reducible refine Kd.C_drew ?_))); (case side2 => exact HC0.out); rintro e w8 ⟨v134, rfl, ho0, hb⟩; have n0_ := Aside0.mk (Kd.R_lower ho0 (below_size (by repeat (first | (with_reducible first | exact HB.out | apply below_alloc | apply pw_below_drewN | apply below_drew1) | exact HB.out)))); have n1_ := Aside0.mk (below_step (by repeat (first | (with_reducible first | exact HB.out | apply below_alloc | apply pw_below_drewN | apply below_drew1) | exact HB.out)) hb); clear HB; have HO135 := n0_; have HB := n1_; clear n0_ n1_; (try clear hb); (try clear hb2); (try clear hk); (try clear hi); (try clear ho0)))
    repeat (go_quiet (first | (go_at_call 14; (with_reducible refine (lockfastlaw02_awake.calls  t131 _ A2.out).mono ?_); rintro e w7 ⟨rfl, hb⟩; have n0_ := Aside0.mk (below_step (by repeat (first | (with_reducible first | exact HB.out | apply below_alloc | apply pw_below_drewN | apply below_drew1) | exact HB.out)) hb); clear HB; have HB := n0_; clear n0_; (try clear hb); (try clear hb2); (try clear hk); (try clear hi)) | (go_at_call 19; (with_reducible refine (seal_Open.calls _ _ l0 t132 t133 _ ?side1 ?side2 A5.out).mono ?_); (case side1 => repeat (first | exact (Kd.C_below HR0.out HB.out) | (with_reducible refine Kd.C_alloc ?_ _) | (with_reducible refine Kd.C_drewN ?_ _) | (with_reducible refine Kd.C_drew ?_))); (case side2 => exact HC0.out); rintro e w8 ⟨v134, rfl, ho0, hb⟩; have n0_ := Aside0.mk (Kd.R_lower ho0 (below_size (by repeat (first | (with_reducible first | exact HB.out | apply below_alloc | apply pw_below_drewN | apply below_drew1) | exact HB.out)))); have n1_ := Aside0.mk (below_step (by repeat (first | (with_reducible first | exact HB.out | apply below_alloc | apply pw_below_drewN | apply below_drew1) | exact HB.out)) hb); clear HB; have HO135 := n0_; have HB := n1_; clear n0_ n1_; (try clear hb); (try clear hb2); (try clear hk); (try clear hi); (try clear ho0))); go_upto_region 6 with (first | (go_at_call 14; (with_reducible refine (lockfastlaw02_awake.calls  t131 _ A2.out).mono ?_); rintro e w7 ⟨rfl, hb⟩; have n0_ := Aside0.mk (below_step (by repeat (first | (with_reducible first | exact HB.out | apply below_alloc | apply pw_below_drewN | apply below_drew1) | exact HB.out)) hb); clear HB; have HB := n0_; clear n0_; (try clear hb); (try clear hb2); (try clear hk); (try clear hi)) | (go_at_call 19; (with_reducible refine (seal_Open.calls _ _ l0 t132 t133 _ ?side1 ?side2 A5.out).mono ?_); (case side1 => repeat (first | exact (Kd.C_below HR0.out HB.out) | (with_reducible refine Kd.C_alloc ?_ _) | (with_reducible refine Kd.C_drewN ?_ _) | (with_reducible refine Kd.C_drew ?_))); (case side2 => exact HC0.out); rintro e w8 ⟨v134, rfl, ho0, hb⟩; have n0_ := Aside0.mk (Kd.R_lower ho0 (below_size (by repeat (first | (with_reducible first | exact HB.out | apply below_alloc | apply pw_below_drewN | apply below_drew1) | exact HB.out)))); have n1_ := Aside0.mk (below_step (by repeat (first | (with_reducible first | exact HB.out | apply below_alloc | apply pw_below_drewN | apply below_drew1) | exact HB.out)) hb); clear HB; have HO135 := n0_; have HB := n1_; clear n0_ n1_; (try clear hb); (try clear hb2); (try clear hk); (try clear hi); (try clear ho0))))
    (try simp only [Act.put, List.setIfInBounds_toArray, List.set_cons_zero, List.set_cons_succ])
    go_cut [7] (fun v7 wc => ∃ (kq : Nat) (x7_5 : Bool), v7 = .bool x7_5 ∧ Aside0 (lockfastlaw02_SealOpens.j0 kq l0 t131 t132 t133 (l0.length : Int) x7_5 = some r) ∧ Aside0 (kq ≤ k) ∧ Aside0 (Kd.R (Kd.int .u64) 30 wc w.heap.size (fun _ => True) v134 t132) ∧ Aside0 (Below w.heap.size w wc))
    case first =>
      have H := HC6.out
      clear HC6
      by_cases c9 : (l0.length : Int) > 0
      · rw [if_pos c9] at H
        have c9b0 : decide (0 < (l0.length : Int)) = true := decide_eq_true c9
        have c9b1 : decide (0 < l0.length) = true := decide_eq_true (by omega)
        clear c9
        (first | rw [c9b0] | (simp only [i64_w, i32_w]; rw [c9b0]) | skip)
        obtain ⟨ji10, hji10⟩ : ∃ j_ : Int, (wrap64 ((l0.length : Int) - 1)) = j_ := ⟨_, rfl⟩
        replace H : (if 0 ≤ (ji10) then (if (ji10) < (l0.length : Int) then (if (ji10) ≤ (l0.length : Int) then ((lockfastref02_Of.f k (l0.take ((ji10) : Int).toNat)).bind fun t138 => (lockfastlaw02_SealOpens.j0 k l0 t131 t132 t133 (l0.length : Int) ((rd l0 (ji10)) == (IntKind.u64.wrap (t138))))) else (none)) else (none)) else (none)) = some r := by first | (rw [hji10] at H; exact H) | (simp only [hji10] at H ⊢; exact H)
        have hji10w : (IntKind.i64.wrap ((l0.length : Int) - 1)) = ji10 := (i64_w _).trans hji10
        by_cases c11 : 0 ≤ (ji10)
        · rw [if_pos c11] at H
          have c11b0 : decide (0 ≤ (ji10)) = true := decide_eq_true c11
          clear c11
          by_cases c12 : (ji10) < (l0.length : Int)
          · rw [if_pos c12] at H
            have c12b0 : decide ((ji10) < (l0.length : Int)) = true := decide_eq_true c12
            clear c12
            have c13b0 := eq_true (of_decide_eq_true (by first | (with_reducible assumption) | assumption) : 0 ≤ (ji10))
            by_cases c14 : (ji10) ≤ (l0.length : Int)
            · rw [if_pos c14] at H
              have c14b0 := eq_true c14
              have c14b1 : decide ((ji10) ≤ (l0.length : Int)) = true := decide_eq_true c14
              clear c14
              replace H := Option.bind_eq_some_iff.mp H
              obtain ⟨t138, A150, H⟩ := H
              replace H : (lockfastlaw02_SealOpens.j0 k l0 t131 t132 t133 (l0.length : Int) ((rd l0 (ji10)) == (IntKind.u64.wrap (t138)))) = some r := H
              have A15 := Aside0.mk A150
              clear A150
              have H' := Aside0.mk H
              clear H
              have p136 : 0 ≤ ((ji10) : Int) := of_decide_eq_true (by first | (with_reducible assumption) | assumption)
              have q136 : (ji10) < (l0.length : Int) := of_decide_eq_true (by first | (with_reducible assumption) | assumption)
              obtain ⟨ad136, e136, hx136_0⟩ := Kd.at_int HR0.out (ji10) p136 q136
              cases e136
              replace hx136_0 := (HB.out.cell (World.block_lt_of_cell? w _ hx136_0)).trans hx136_0
              replace p136 := eq_true p136
              replace q136 := eq_true q136
              obtain ⟨i016, hi016, _, hsz16, _⟩ := info_parts info30
              obtain ⟨hcut16, hA16, hC16⟩ := print_take_of (P := Try.prog) (Value.int .u64) 0 22 30 .i64 Try.underlying22 hi016 hsz16 (some ad136) c0 l0 (ji10) (of_decide_eq_true (by first | (with_reducible assumption) | assumption)) (of_decide_eq_true (by first | (with_reducible assumption) | assumption)) HC0.out
              have HR137 := Aside0.mk (Kd.C_of_reads (h1 := fun _ => rfl) (hA16 _ (Kd.reads_of_C HR0.out)))
              have HC137 := Aside0.mk hC16
              clear hA16 hC16 hi016 hsz16
              go_wp2_with (first | (go_at_call 16; (first | (with_reducible refine (lockfastref02_Of.calls k _ _ (l0.take ((ji10) : Int).toNat) t138 _ ?side1 ?side2 A15.out).mono ?_) | (rw [← (show (l0.take ((ji10) : Int).toNat).length = ((ji10) : Int).toNat from (by rw [List.length_take]; have h_ : ((ji10) : Int) ≤ (l0.length : Int) := of_decide_eq_true (by first | (with_reducible assumption) | assumption); omega))]; (with_reducible refine (lockfastref02_Of.calls k _ _ (l0.take ((ji10) : Int).toNat) t138 _ ?side1 ?side2 A15.out).mono ?_))); (case side1 => repeat (first | exact (Kd.C_below HR137.out HB.out) | (with_reducible refine Kd.C_alloc ?_ _) | (with_reducible refine Kd.C_drewN ?_ _) | (with_reducible refine Kd.C_drew ?_))); (case side2 => exact HC137.out); rintro e w' ⟨rfl, ⟨nd, rfl⟩⟩; (try first | exact ⟨rfl, _, World.drewN_drewN _ _ _⟩ | exact ⟨rfl, _, Eq.trans (World.drewN_drewN _ _ _) (congrArg (World.drewN _) (Nat.add_assoc _ _ _))⟩)))
              repeat (go_quiet (first | (go_at_call 16; (first | (with_reducible refine (lockfastref02_Of.calls k _ _ (l0.take ((ji10) : Int).toNat) t138 _ ?side1 ?side2 A15.out).mono ?_) | (rw [← (show (l0.take ((ji10) : Int).toNat).length = ((ji10) : Int).toNat from (by rw [List.length_take]; have h_ : ((ji10) : Int) ≤ (l0.length : Int) := of_decide_eq_true (by first | (with_reducible assumption) | assumption); omega))]; (with_reducible refine (lockfastref02_Of.calls k _ _ (l0.take ((ji10) : Int).toNat) t138 _ ?side1 ?side2 A15.out).mono ?_))); (case side1 => repeat (first | exact (Kd.C_below HR137.out HB.out) | (with_reducible refine Kd.C_alloc ?_ _) | (with_reducible refine Kd.C_drewN ?_ _) | (with_reducible refine Kd.C_drew ?_))); (case side2 => exact HC137.out); rintro e w' ⟨rfl, ⟨nd, rfl⟩⟩; (try first | exact ⟨rfl, _, World.drewN_drewN _ _ _⟩ | exact ⟨rfl, _, Eq.trans (World.drewN_drewN _ _ _) (congrArg (World.drewN _) (Nat.add_assoc _ _ _))⟩))); try go_wp2_with (first | (go_at_call 16; (first | (with_reducible refine (lockfastref02_Of.calls k _ _ (l0.take ((ji10) : Int).toNat) t138 _ ?side1 ?side2 A15.out).mono ?_) | (rw [← (show (l0.take ((ji10) : Int).toNat).length = ((ji10) : Int).toNat from (by rw [List.length_take]; have h_ : ((ji10) : Int) ≤ (l0.length : Int) := of_decide_eq_true (by first | (with_reducible assumption) | assumption); omega))]; (with_reducible refine (lockfastref02_Of.calls k _ _ (l0.take ((ji10) : Int).toNat) t138 _ ?side1 ?side2 A15.out).mono ?_))); (case side1 => repeat (first | exact (Kd.C_below HR137.out HB.out) | (with_reducible refine Kd.C_alloc ?_ _) | (with_reducible refine Kd.C_drewN ?_ _) | (with_reducible refine Kd.C_drew ?_))); (case side2 => exact HC137.out); rintro e w' ⟨rfl, ⟨nd, rfl⟩⟩; (try first | exact ⟨rfl, _, World.drewN_drewN _ _ _⟩ | exact ⟨rfl, _, Eq.trans (World.drewN_drewN _ _ _) (congrArg (World.drewN _) (Nat.add_assoc _ _ _))⟩))))
              go_meet
              case rel => exact ⟨_, (((rd l0 (ji10)) == (IntKind.u64.wrap (t138)))), (by first | rfl | (simp; done) | (simp only [← hji10] <;> (first | rfl | simp)) | (simp [*]; done)), H', ⟨by first | omega | exact Nat.le_refl _⟩, ⟨by (with_reducible repeat (first | apply Kd.R_alloc | apply Kd.R_drewN | apply Kd.R_drew)); exact HO135.out⟩, ⟨by repeat (first | (with_reducible first | exact HB.out | apply below_alloc | apply pw_below_drewN | apply below_drew1) | exact HB.out)⟩⟩
            · rw [if_neg c14] at H
              exact absurd H (by simp)
          · rw [if_neg c12] at H
            exact absurd H (by simp)
        · rw [if_neg c11] at H
          exact absurd H (by simp)
      · rw [if_neg c9] at H
        have c9b0 : decide (0 < (l0.length : Int)) = false := decide_eq_false c9
        have c9b1 : decide (0 < l0.length) = false := decide_eq_false (by omega)
        clear c9
        (first | rw [c9b0] | (simp only [i64_w, i32_w]; rw [c9b0]) | skip)
        have H' := Aside0.mk H
        clear H
        go_wp2
        repeat (go_quiet (fail); try go_wp2)
        go_meet
        case rel => exact ⟨_, (false), (by first | rfl | (simp; done) | (simp [*]; done)), H', ⟨by first | omega | exact Nat.le_refl _⟩, ⟨by (with_reducible repeat (first | apply Kd.R_alloc | apply Kd.R_drewN | apply Kd.R_drew)); exact HO135.out⟩, ⟨by repeat (first | (with_reducible first | exact HB.out | apply below_alloc | apply pw_below_drewN | apply below_drew1) | exact HB.out)⟩⟩
    case rest =>
      clear HC6
      try clear c1
      try clear p1
      try clear q1
      try clear hx1
      try clear p2
      try clear c3
      try clear c3b0
      try clear c3b1
      try clear c4
      try clear p6
      try clear c9
      try clear c9b0
      try clear c9b1
      try clear c11
      try clear c11b0
      try clear c12
      try clear c12b0
      try clear c13
      try clear c13b0
      try clear p13
      try clear q13
      try clear hx13
      try clear c14
      try clear c14b0
      try clear c14b1
      try clear hx136_0
      try clear p136
      try clear q136
      obtain ⟨kq, x7_5, rfl, HA, HJ5, HO_4, HB⟩ := hcut
      cases kq with
      | zero => exact absurd HA.out (by simp [lockfastlaw02_SealOpens.j0])
      | succ kj5 =>
        have H := HA.out
        clear HA
        simp only [lockfastlaw02_SealOpens.j0] at H
        have HC17 := Aside0.mk H
        clear H
        go_upto_region 7 with (fail)
        repeat (go_quiet (fail); go_upto_region 7 with (fail))
        go_cut [62] (fun v62 wc => ∃ (kq : Nat) (x62_16 : Bool), v62 = .bool x62_16 ∧ Aside0 (lockfastlaw02_SealOpens.j1 kq l0 t131 (l0.length : Int) x62_16 = some r) ∧ Aside0 (kq ≤ kj5) ∧ Aside0 (Below w.heap.size w wc))
        case first =>
          have H := HC17.out
          clear HC17
          by_cases c18 : (t133 != x7_5) = true
          · rw [if_pos c18] at H
            have c18b0 : (t133 != x7_5) = true := c18
            (try (have c18b1 : decide (t133 = x7_5) = false := by simpa using c18))
            (try (have c18b2 : (t133 == x7_5) = false := by simpa using c18))
            (try (have c18b3 : ¬ (t133 = x7_5) := by simpa using c18))
            clear c18
            (first | rw [c18b0] | (simp only [i64_w, i32_w]; rw [c18b0]) | skip)
            have H' := Aside0.mk H
            clear H
            go_wp2
            repeat (go_quiet (fail); try go_wp2)
            go_meet
            case rel => exact ⟨_, (true), (by first | rfl | (simp; done) | (simp [*]; done)), H', ⟨by have := HJ5.out; first | omega | exact Nat.le_refl _⟩, ⟨by repeat (first | (with_reducible first | exact HB.out | apply below_alloc | apply pw_below_drewN | apply below_drew1) | exact HB.out)⟩⟩
          · rw [if_neg c18] at H
            have c18b0 : (t133 != x7_5) = false := by simpa using c18
            (try (have c18b1 : decide (t133 = x7_5) = true := by simpa using c18))
            (try (have c18b2 : (t133 == x7_5) = true := by simpa using c18))
            clear c18
            (first | rw [c18b0] | (simp only [i64_w, i32_w]; rw [c18b0]) | skip)
            by_cases c19 : t133 = true
            · subst c19
              have H1 : (if 0 ≤ (wrap64 ((l0.length : Int) - 1)) then (if (wrap64 ((l0.length : Int) - 1)) ≤ (l0.length : Int) then ((lockfastref01_Words.f kj5 t132 (l0.take ((wrap64 ((l0.length : Int) - 1)) : Int).toNat)).bind fun t140 => (lockfastlaw02_SealOpens.j1 kj5 l0 t131 (l0.length : Int) (!t140))) else (none)) else (none)) = some r := by rw [if_pos rfl] at H; exact H
              clear H
              have H := H1
              clear H1
              obtain ⟨ji20, hji20⟩ : ∃ j_ : Int, (wrap64 ((l0.length : Int) - 1)) = j_ := ⟨_, rfl⟩
              replace H : (if 0 ≤ (ji20) then (if (ji20) ≤ (l0.length : Int) then ((lockfastref01_Words.f kj5 t132 (l0.take ((ji20) : Int).toNat)).bind fun t140 => (lockfastlaw02_SealOpens.j1 kj5 l0 t131 (l0.length : Int) (!t140))) else (none)) else (none)) = some r := by first | (rw [hji20] at H; exact H) | (simp only [hji20] at H ⊢; exact H)
              have hji20w : (IntKind.i64.wrap ((l0.length : Int) - 1)) = ji20 := (i64_w _).trans hji20
              by_cases c21 : 0 ≤ (ji20)
              · rw [if_pos c21] at H
                have c21b0 := eq_true c21
                have c21b1 : decide (0 ≤ (ji20)) = true := decide_eq_true c21
                clear c21
                by_cases c22 : (ji20) ≤ (l0.length : Int)
                · rw [if_pos c22] at H
                  have c22b0 := eq_true c22
                  have c22b1 : decide ((ji20) ≤ (l0.length : Int)) = true := decide_eq_true c22
                  clear c22
                  replace H := Option.bind_eq_some_iff.mp H
                  obtain ⟨t140, A230, H⟩ := H
                  replace H : (lockfastlaw02_SealOpens.j1 kj5 l0 t131 (l0.length : Int) (!t140)) = some r := H
                  have A23 := Aside0.mk A230
                  clear A230
                  have H' := Aside0.mk H
                  clear H
                  obtain ⟨i024, hi024, _, hsz24, _⟩ := info_parts info30
                  obtain ⟨hcut24, hA24, hC24⟩ := print_take_of (P := Try.prog) (Value.int .u64) 0 22 30 .i64 Try.underlying22 hi024 hsz24 A0 c0 l0 (ji20) (of_decide_eq_true (by first | (with_reducible assumption) | assumption)) (of_decide_eq_true (by first | (with_reducible assumption) | assumption)) HC0.out
                  have HR139 := Aside0.mk (Kd.C_of_reads (h1 := fun _ => rfl) (hA24 _ (Kd.reads_of_C HR0.out)))
                  have HC139 := Aside0.mk hC24
                  clear hA24 hC24 hi024 hsz24
                  obtain ⟨Ao25, co25, eo25⟩ := Kd.R_slice HO_4.out
                  subst eo25
                  go_wp2_with (first | (go_at_call 20; (first | (with_reducible refine (lockfastref01_Words.calls kj5 _ _ t132 _ _ (l0.take ((ji20) : Int).toNat) t140 _ ?side1 ?side2 ?side3 ?side4 A23.out).mono ?_) | (rw [← (show (l0.take ((ji20) : Int).toNat).length = ((ji20) : Int).toNat from (by rw [List.length_take]; have h_ : ((ji20) : Int) ≤ (l0.length : Int) := of_decide_eq_true (by first | (with_reducible assumption) | assumption); omega))]; (with_reducible refine (lockfastref01_Words.calls kj5 _ _ t132 _ _ (l0.take ((ji20) : Int).toNat) t140 _ ?side1 ?side2 ?side3 ?side4 A23.out).mono ?_))); (case side1 => repeat (first | exact (Kd.R_reads' HO_4.out).2.2 | (with_reducible refine Kd.C_alloc ?_ _) | (with_reducible refine Kd.C_drewN ?_ _) | (with_reducible refine Kd.C_drew ?_))); (case side2 => exact (Kd.R_reads' HO_4.out).2.1); (case side3 => repeat (first | exact (Kd.C_below HR139.out HB.out) | (with_reducible refine Kd.C_alloc ?_ _) | (with_reducible refine Kd.C_drewN ?_ _) | (with_reducible refine Kd.C_drew ?_))); (case side4 => exact HC139.out); rintro e w' ⟨rfl, ⟨nd, rfl⟩⟩; (try first | exact ⟨rfl, _, World.drewN_drewN _ _ _⟩ | exact ⟨rfl, _, Eq.trans (World.drewN_drewN _ _ _) (congrArg (World.drewN _) (Nat.add_assoc _ _ _))⟩)))
                  repeat (go_quiet (first | (go_at_call 20; (first | (with_reducible refine (lockfastref01_Words.calls kj5 _ _ t132 _ _ (l0.take ((ji20) : Int).toNat) t140 _ ?side1 ?side2 ?side3 ?side4 A23.out).mono ?_) | (rw [← (show (l0.take ((ji20) : Int).toNat).length = ((ji20) : Int).toNat from (by rw [List.length_take]; have h_ : ((ji20) : Int) ≤ (l0.length : Int) := of_decide_eq_true (by first | (with_reducible assumption) | assumption); omega))]; (with_reducible refine (lockfastref01_Words.calls kj5 _ _ t132 _ _ (l0.take ((ji20) : Int).toNat) t140 _ ?side1 ?side2 ?side3 ?side4 A23.out).mono ?_))); (case side1 => repeat (first | exact (Kd.R_reads' HO_4.out).2.2 | (with_reducible refine Kd.C_alloc ?_ _) | (with_reducible refine Kd.C_drewN ?_ _) | (with_reducible refine Kd.C_drew ?_))); (case side2 => exact (Kd.R_reads' HO_4.out).2.1); (case side3 => repeat (first | exact (Kd.C_below HR139.out HB.out) | (with_reducible refine Kd.C_alloc ?_ _) | (with_reducible refine Kd.C_drewN ?_ _) | (with_reducible refine Kd.C_drew ?_))); (case side4 => exact HC139.out); rintro e w' ⟨rfl, ⟨nd, rfl⟩⟩; (try first | exact ⟨rfl, _, World.drewN_drewN _ _ _⟩ | exact ⟨rfl, _, Eq.trans (World.drewN_drewN _ _ _) (congrArg (World.drewN _) (Nat.add_assoc _ _ _))⟩))); try go_wp2_with (first | (go_at_call 20; (first | (with_reducible refine (lockfastref01_Words.calls kj5 _ _ t132 _ _ (l0.take ((ji20) : Int).toNat) t140 _ ?side1 ?side2 ?side3 ?side4 A23.out).mono ?_) | (rw [← (show (l0.take ((ji20) : Int).toNat).length = ((ji20) : Int).toNat from (by rw [List.length_take]; have h_ : ((ji20) : Int) ≤ (l0.length : Int) := of_decide_eq_true (by first | (with_reducible assumption) | assumption); omega))]; (with_reducible refine (lockfastref01_Words.calls kj5 _ _ t132 _ _ (l0.take ((ji20) : Int).toNat) t140 _ ?side1 ?side2 ?side3 ?side4 A23.out).mono ?_))); (case side1 => repeat (first | exact (Kd.R_reads' HO_4.out).2.2 | (with_reducible refine Kd.C_alloc ?_ _) | (with_reducible refine Kd.C_drewN ?_ _) | (with_reducible refine Kd.C_drew ?_))); (case side2 => exact (Kd.R_reads' HO_4.out).2.1); (case side3 => repeat (first | exact (Kd.C_below HR139.out HB.out) | (with_reducible refine Kd.C_alloc ?_ _) | (with_reducible refine Kd.C_drewN ?_ _) | (with_reducible refine Kd.C_drew ?_))); (case side4 => exact HC139.out); rintro e w' ⟨rfl, ⟨nd, rfl⟩⟩; (try first | exact ⟨rfl, _, World.drewN_drewN _ _ _⟩ | exact ⟨rfl, _, Eq.trans (World.drewN_drewN _ _ _) (congrArg (World.drewN _) (Nat.add_assoc _ _ _))⟩))))
                  go_meet
                  case rel => exact ⟨_, (!t140), (by first | rfl | (simp; done) | (simp [*]; done)), H', ⟨by have := HJ5.out; first | omega | exact Nat.le_refl _⟩, ⟨by repeat (first | (with_reducible first | exact HB.out | apply below_alloc | apply pw_below_drewN | apply below_drew1) | exact HB.out)⟩⟩
                · rw [if_neg c22] at H
                  exact absurd H (by simp)
              · rw [if_neg c21] at H
                exact absurd H (by simp)
            · replace c19 := Bool.eq_false_iff.mpr c19
              subst c19
              have H1 : (if (t132.length : Int) = 0 then (lockfastlaw02_SealOpens.j1 kj5 l0 t131 (l0.length : Int) false) else (lockfastlaw02_SealOpens.j1 kj5 l0 t131 (l0.length : Int) true)) = some r := by rw [if_neg (show ¬ (false = true) by decide)] at H; exact H
              clear H
              have H := H1
              clear H1
              by_cases c26 : (t132.length : Int) = 0
              · rw [if_pos c26] at H
                have c26b0 : ((t132.length : Int) == 0) = true := beq_iff_eq.mpr c26
                have c26b1 : ((t132.length : Int) != 0) = false := bne_eq_false_iff_eq.mpr c26
                clear c26
                have H' := Aside0.mk H
                clear H
                obtain ⟨Ao27, co27, eo27⟩ := Kd.R_slice HO_4.out
                subst eo27
                go_wp2
                repeat (go_quiet (fail); try go_wp2)
                go_meet
                case rel => exact ⟨_, (false), (by first | rfl | (simp; done) | (simp [*]; done)), H', ⟨by have := HJ5.out; first | omega | exact Nat.le_refl _⟩, ⟨by repeat (first | (with_reducible first | exact HB.out | apply below_alloc | apply pw_below_drewN | apply below_drew1) | exact HB.out)⟩⟩
              · rw [if_neg c26] at H
                have c26b0 : ((t132.length : Int) == 0) = false := beq_eq_false_iff_ne.mpr c26
                have c26b1 : ((t132.length : Int) != 0) = true := bne_iff_ne.mpr c26
                have c26b2 : ¬ (t132 = []) := fun h_ => c26 (by rw [h_]; rfl)
                have H' := Aside0.mk H
                clear H
                obtain ⟨Ao28, co28, eo28⟩ := Kd.R_slice HO_4.out
                subst eo28
                go_wp2
                repeat (go_quiet (fail); try go_wp2)
                go_meet
                case rel => exact ⟨_, (true), (by first | rfl | (simp; done) | (simp [*]; done)), H', ⟨by have := HJ5.out; first | omega | exact Nat.le_refl _⟩, ⟨by repeat (first | (with_reducible first | exact HB.out | apply below_alloc | apply pw_below_drewN | apply below_drew1) | exact HB.out)⟩⟩
        case rest =>
          clear HC17
          try clear c1
          try clear p1
          try clear q1
          try clear hx1
          try clear c2
          try clear p2
          try clear c3
          try clear c3b0
          try clear c3b1
          try clear c4
          try clear p6
          try clear c9
          try clear c9b0
          try clear c9b1
          try clear c11
          try clear c11b0
          try clear c12
          try clear c12b0
          try clear c13
          try clear c13b0
          try clear p13
          try clear q13
          try clear hx13
          try clear c14
          try clear c14b0
          try clear c14b1
          try clear c18
          try clear c18b0
          try clear c18b1
          try clear c18b2
          try clear c19
          try clear c21
          try clear c21b0
          try clear c21b1
          try clear c22
          try clear c22b0
          try clear c22b1
          try clear c26
          try clear c26b0
          try clear c26b1
          try clear c26b2
          try clear hx136_0
          try clear p1
          try clear p13
          try clear p136
          try clear p2
          try clear p6
          try clear q1
          try clear q13
          try clear q136
          obtain ⟨kq, x62_16, rfl, HA, HJ16, HB⟩ := hcut
          cases kq with
          | zero => exact absurd HA.out (by simp [lockfastlaw02_SealOpens.j1])
          | succ kj16 =>
            have H := HA.out
            clear HA
            simp only [lockfastlaw02_SealOpens.j1] at H
            by_cases c29 : x62_16 = true
            · subst c29
              have H1 : (some false) = some r := by rw [if_pos rfl] at H; exact H
              clear H
              have H := H1
              clear H1
              obtain rfl := Option.some.inj H
              exact absurd HRT.out (by decide)
            · replace c29 := Bool.eq_false_iff.mpr c29
              subst c29
              have H1 : ((seal_Seal.f l0).bind fun t141 => (if (t141.length : Int) = (wrap64 ((l0.length : Int) + 1)) then ((seal_Open.f t141).bind fun bt144 => (if t131 = true then (if 0 ≤ (l0.length : Int) then (if (l0.length : Int) ≤ (t141.length : Int) then ((lockfastref01_Words.f kj16 (t141.take ((l0.length : Int) : Int).toNat) l0).bind fun t152 => (if t152 = true then (if (l0.length : Int) < (t141.length : Int) then ((lockfastref02_Of.f kj16 l0).bind fun t154 => (if (rd t141 (l0.length : Int)) = (IntKind.u64.wrap (t154)) then (if bt144.2 = true then ((lockfastref01_Words.f kj16 bt144.1 l0).bind fun t155 => (some t155)) else (some false)) else (some false))) else (none)) else (some false))) else (none)) else (none)) else (some false))) else (some false))) = some r := by rw [if_neg (show ¬ (false = true) by decide)] at H; exact H
              clear H
              have H := H1
              clear H1
              replace H := Option.bind_eq_some_iff.mp H
              obtain ⟨t141, A300, H⟩ := H
              replace H : (if (t141.length : Int) = (wrap64 ((l0.length : Int) + 1)) then ((seal_Open.f t141).bind fun bt144 => (if t131 = true then (if 0 ≤ (l0.length : Int) then (if (l0.length : Int) ≤ (t141.length : Int) then ((lockfastref01_Words.f kj16 (t141.take ((l0.length : Int) : Int).toNat) l0).bind fun t152 => (if t152 = true then (if (l0.length : Int) < (t141.length : Int) then ((lockfastref02_Of.f kj16 l0).bind fun t154 => (if (rd t141 (l0.length : Int)) = (IntKind.u64.wrap (t154)) then (if bt144.2 = true then ((lockfastref01_Words.f kj16 bt144.1 l0).bind fun t155 => (some t155)) else (some false)) else (some false))) else (none)) else (some false))) else (none)) else (none)) else (some false))) else (some false)) = some r := H
              have A30 := Aside0.mk A300
              clear A300
              by_cases c31 : (t141.length : Int) = (wrap64 ((l0.length : Int) + 1))
              · rw [if_pos c31] at H
                have c31b0 : ((t141.length : Int) == (wrap64 ((l0.length : Int) + 1))) = true := beq_iff_eq.mpr c31
                have c31b1 : ((t141.length : Int) != (wrap64 ((l0.length : Int) + 1))) = false := bne_eq_false_iff_eq.mpr c31
                clear c31
                replace H := Option.bind_eq_some_iff.mp H
                obtain ⟨⟨t144, t145⟩, A320, H⟩ := H
                replace H : (if t131 = true then (if 0 ≤ (l0.length : Int) then (if (l0.length : Int) ≤ (t141.length : Int) then ((lockfastref01_Words.f kj16 (t141.take ((l0.length : Int) : Int).toNat) l0).bind fun t152 => (if t152 = true then (if (l0.length : Int) < (t141.length : Int) then ((lockfastref02_Of.f kj16 l0).bind fun t154 => (if (rd t141 (l0.length : Int)) = (IntKind.u64.wrap (t154)) then (if t145 = true then ((lockfastref01_Words.f kj16 t144 l0).bind fun t155 => (some t155)) else (some false)) else (some false))) else (none)) else (some false))) else (none)) else (none)) else (some false)) = some r := H
                have A32 := Aside0.mk A320
                clear A320
                by_cases c33 : t131 = true
                · subst c33
                  have H1 : (if 0 ≤ (l0.length : Int) then (if (l0.length : Int) ≤ (t141.length : Int) then ((lockfastref01_Words.f kj16 (t141.take ((l0.length : Int) : Int).toNat) l0).bind fun t152 => (if t152 = true then (if (l0.length : Int) < (t141.length : Int) then ((lockfastref02_Of.f kj16 l0).bind fun t154 => (if (rd t141 (l0.length : Int)) = (IntKind.u64.wrap (t154)) then (if t145 = true then ((lockfastref01_Words.f kj16 t144 l0).bind fun t155 => (some t155)) else (some false)) else (some false))) else (none)) else (some false))) else (none)) else (none)) = some r := by rw [if_pos rfl] at H; exact H
                  clear H
                  have H := H1
                  clear H1
                  by_cases c34 : 0 ≤ (l0.length : Int)
                  · rw [if_pos c34] at H
                    have c34b0 := eq_true c34
                    have c34b1 : decide (0 ≤ (l0.length : Int)) = true := decide_eq_true c34
                    clear c34
                    by_cases c35 : (l0.length : Int) ≤ (t141.length : Int)
                    · rw [if_pos c35] at H
                      have c35b0 := eq_true c35
                      have c35b1 : decide ((l0.length : Int) ≤ (t141.length : Int)) = true := decide_eq_true c35
                      clear c35
                      obtain ⟨y148, hy148⟩ : ∃ y_ : List Int, y_ = (t141.take ((l0.length : Int) : Int).toNat) := ⟨_, rfl⟩
                      replace H : ((lockfastref01_Words.f kj16 y148 l0).bind fun t152 => (if t152 = true then (if (l0.length : Int) < (t141.length : Int) then ((lockfastref02_Of.f kj16 l0).bind fun t154 => (if (rd t141 (l0.length : Int)) = (IntKind.u64.wrap (t154)) then (if t145 = true then ((lockfastref01_Words.f kj16 t144 l0).bind fun t155 => (some t155)) else (some false)) else (some false))) else (none)) else (some false))) = some r := by first | (rw [hy148]; with_reducible exact H) | (have H2_ := (Option.bind_some _ _).symm.trans H; rw [hy148]; with_reducible exact H2_) | (have H2_ := (Option.bind_some _ _).symm.trans H; with_reducible exact H2_) | with_reducible exact H | (rw [hy148]; exact H) | exact H
                      have Ny148 := Aside0.mk hy148
                      clear hy148
                      replace H := Option.bind_eq_some_iff.mp H
                      obtain ⟨t152, A360, H⟩ := H
                      replace H : (if t152 = true then (if (l0.length : Int) < (t141.length : Int) then ((lockfastref02_Of.f kj16 l0).bind fun t154 => (if (rd t141 (l0.length : Int)) = (IntKind.u64.wrap (t154)) then (if t145 = true then ((lockfastref01_Words.f kj16 t144 l0).bind fun t155 => (some t155)) else (some false)) else (some false))) else (none)) else (some false)) = some r := H
                      have A36 := Aside0.mk A360
                      clear A360
                      by_cases c37 : t152 = true
                      · subst c37
                        have H1 : (if (l0.length : Int) < (t141.length : Int) then ((lockfastref02_Of.f kj16 l0).bind fun t154 => (if (rd t141 (l0.length : Int)) = (IntKind.u64.wrap (t154)) then (if t145 = true then ((lockfastref01_Words.f kj16 t144 l0).bind fun t155 => (some t155)) else (some false)) else (some false))) else (none)) = some r := by rw [if_pos rfl] at H; exact H
                        clear H
                        have H := H1
                        clear H1
                        by_cases c38 : (l0.length : Int) < (t141.length : Int)
                        · rw [if_pos c38] at H
                          have c38b0 : decide ((l0.length : Int) < (t141.length : Int)) = true := decide_eq_true c38
                          have c38b1 : decide (l0.length < t141.length) = true := decide_eq_true (Int.ofNat_lt.mp c38)
                          clear c38
                          replace H := Option.bind_eq_some_iff.mp H
                          obtain ⟨t154, A390, H⟩ := H
                          replace H : (if (rd t141 (l0.length : Int)) = (IntKind.u64.wrap (t154)) then (if t145 = true then ((lockfastref01_Words.f kj16 t144 l0).bind fun t155 => (some t155)) else (some false)) else (some false)) = some r := H
                          have A39 := Aside0.mk A390
                          clear A390
                          by_cases c40 : (rd t141 (l0.length : Int)) = (IntKind.u64.wrap (t154))
                          · rw [if_pos c40] at H
                            have c40b0 : ((rd t141 (l0.length : Int)) == (IntKind.u64.wrap (t154))) = true := beq_iff_eq.mpr c40
                            have c40b1 : ((rd t141 (l0.length : Int)) != (IntKind.u64.wrap (t154))) = false := bne_eq_false_iff_eq.mpr c40
                            clear c40
                            by_cases c41 : t145 = true
                            · subst c41
                              have H1 : ((lockfastref01_Words.f kj16 t144 l0).bind fun t155 => (some t155)) = some r := by rw [if_pos rfl] at H; exact H
                              clear H
                              have H := H1
                              clear H1
                              replace H := Option.bind_eq_some_iff.mp H
                              obtain ⟨t155, A420, H⟩ := H
                              replace H : (some t155) = some r := H
                              have A42 := Aside0.mk A420
                              clear A420
                              obtain rfl := Option.some.inj H
                              simp only [Option.some.injEq, Prod.mk.injEq] at H
                              obtain ⟨rfl⟩ := H
                              go_wp2_with (first | (go_at_call 21; (with_reducible refine (seal_Seal.calls _ _ l0 t141 _ ?side1 ?side2 A30.out).mono ?_); (case side1 => repeat (first | exact (Kd.C_below HR0.out HB.out) | (with_reducible refine Kd.C_alloc ?_ _) | (with_reducible refine Kd.C_drewN ?_ _) | (with_reducible refine Kd.C_drew ?_))); (case side2 => exact HC0.out); rintro e w43 ⟨v142, rfl, ho0, hb⟩; have n0_ := Aside0.mk (Kd.R_lower ho0 (below_size (by repeat (first | (with_reducible first | exact HB.out | apply below_alloc | apply pw_below_drewN | apply below_drew1) | exact HB.out)))); have n1_ := Aside0.mk (below_step (by repeat (first | (with_reducible first | exact HB.out | apply below_alloc | apply pw_below_drewN | apply below_drew1) | exact HB.out)) hb); clear HB; have HO143 := n0_; have HB := n1_; clear n0_ n1_; (try clear hb); (try clear hb2); (try clear hk); (try clear hi); (try clear ho0); obtain ⟨Ao44, co44, eo44⟩ := Kd.R_slice HO143.out; subst eo44) | (go_at_call 19; (with_reducible refine (seal_Open.calls _ _ t141 t144 true _ ?side1 ?side2 A32.out).mono ?_); (case side1 => repeat (first | exact (Kd.R_reads' HO143.out).2.2 | (with_reducible refine Kd.C_alloc ?_ _) | (with_reducible refine Kd.C_drewN ?_ _) | (with_reducible refine Kd.C_drew ?_))); (case side2 => exact (Kd.R_reads' HO143.out).2.1); rintro e w45 ⟨v146, rfl, ho0, hb⟩; have n0_ := Aside0.mk (Kd.R_elder' (by (with_reducible repeat (first | apply Kd.R_alloc | apply Kd.R_drewN | apply Kd.R_drew)); exact HO143.out) (Kd.R_base ho0) hb); have n1_ := Aside0.mk (Kd.R_lower (Kd.R_new' ho0 (Kd.R_lt (by (with_reducible repeat (first | apply Kd.R_alloc | apply Kd.R_drewN | apply Kd.R_drew)); exact HO143.out))) (below_size (by repeat (first | (with_reducible first | exact HB.out | apply below_alloc | apply pw_below_drewN | apply below_drew1) | exact HB.out)))); have n2_ := Aside0.mk (below_step (by repeat (first | (with_reducible first | exact HB.out | apply below_alloc | apply pw_below_drewN | apply below_drew1) | exact HB.out)) hb); clear HO143; clear HB; have HO143 := n0_; have HO147 := n1_; have HB := n2_; clear n0_ n1_ n2_; (try clear hb); (try clear hb2); (try clear hk); (try clear hi); (try clear ho0); have q46 : ((l0.length : Int) : Int) ≤ ((t141.length : Int) : Int) := of_decide_eq_true (by first | (with_reducible assumption) | assumption); obtain ⟨i046, hi046, _, hsz46, _⟩ := info_parts info30; have hroom46 : t141.length ≤ co44 := (Kd.R_reads' HO143.out).2.1; have hC46 : Kd.C (Kd.int .u64) _ Ao44 t141.length t141 := (Kd.R_reads' HO143.out).2.2; have hcut46 := cut_to (P := Try.prog) 22 30 .i64 Try.underlying22 hi046 Ao44 t141.length co44 (l0.length : Int) (of_decide_eq_true (by first | (with_reducible assumption) | assumption)) q46 hroom46; have hr46 := Kd.C_take (m := ((l0.length : Int) : Int).toNat) hC46 (by omega); have hy46 : y148.length = ((l0.length : Int) : Int).toNat := (by rw [Ny148.out, List.length_take]; omega); rw [← Ny148.out] at hr46; rw [← hy46] at hcut46; have HR151 := Aside0.mk hr46; have HC151 := Aside0.mk (show y148.length ≤ co44 from by omega); clear hr46 hC46 hroom46 hi046 hsz46; have KY46 := Aside0.mk hy46; clear hy46; have KL46 := Aside0.mk (show ((l0.length : Int) : Int).toNat ≤ t141.length from by omega); replace q46 := eq_true q46) | (go_at_call 20; (with_reducible refine (lockfastref01_Words.calls kj16 _ _ y148 _ _ l0 true _ ?side1 ?side2 ?side3 ?side4 A36.out).mono ?_); (case side1 => repeat (first | exact (by repeat (first | (with_reducible exact HR151.out) | (with_reducible refine Kd.C_alloc ?_ _) | (with_reducible refine Kd.C_drewN ?_ _) | (with_reducible refine Kd.C_drew ?_) | exact HR151.out)) | (with_reducible refine Kd.C_alloc ?_ _) | (with_reducible refine Kd.C_drewN ?_ _) | (with_reducible refine Kd.C_drew ?_))); (case side2 => exact HC151.out); (case side3 => repeat (first | exact (Kd.C_below HR0.out HB.out) | (with_reducible refine Kd.C_alloc ?_ _) | (with_reducible refine Kd.C_drewN ?_ _) | (with_reducible refine Kd.C_drew ?_))); (case side4 => exact HC0.out); rintro e w' ⟨rfl, ⟨nd, rfl⟩⟩; (try first | exact ⟨rfl, _, World.drewN_drewN _ _ _⟩ | exact ⟨rfl, _, Eq.trans (World.drewN_drewN _ _ _) (congrArg (World.drewN _) (Nat.add_assoc _ _ _))⟩); have p153 : 0 ≤ ((l0.length : Int) : Int) := of_decide_eq_true (by first | (with_reducible assumption) | assumption); have q153 : (l0.length : Int) < (t141.length : Int) := of_decide_eq_true (by first | (with_reducible assumption) | assumption); obtain ⟨ad153, e153, hx153_0⟩ := Kd.at_int (Kd.R_reads' HO143.out).2.2 (l0.length : Int) p153 q153; cases e153; (try simp only [Go.IntWalk.toNatUp] at hx153_0); replace p153 := eq_true p153; replace q153 := eq_true q153) | (go_at_call 16; (with_reducible refine (lockfastref02_Of.calls kj16 _ _ l0 t154 _ ?side1 ?side2 A39.out).mono ?_); (case side1 => repeat (first | exact (Kd.C_below HR0.out (by repeat (first | (with_reducible first | exact HB.out | apply below_alloc | apply pw_below_drewN | apply below_drew1) | exact HB.out))) | (with_reducible refine Kd.C_alloc ?_ _) | (with_reducible refine Kd.C_drewN ?_ _) | (with_reducible refine Kd.C_drew ?_))); (case side2 => exact HC0.out); rintro e w' ⟨rfl, ⟨nd, rfl⟩⟩; (try first | exact ⟨rfl, _, World.drewN_drewN _ _ _⟩ | exact ⟨rfl, _, Eq.trans (World.drewN_drewN _ _ _) (congrArg (World.drewN _) (Nat.add_assoc _ _ _))⟩); obtain ⟨Ao47, co47, eo47⟩ := Kd.R_slice HO147.out; subst eo47) | (go_at_call 20; (with_reducible refine (lockfastref01_Words.calls kj16 _ _ t144 _ _ l0 t155 _ ?side1 ?side2 ?side3 ?side4 A42.out).mono ?_); (case side1 => repeat (first | exact (Kd.R_reads' HO147.out).2.2 | (with_reducible refine Kd.C_alloc ?_ _) | (with_reducible refine Kd.C_drewN ?_ _) | (with_reducible refine Kd.C_drew ?_))); (case side2 => exact (Kd.R_reads' HO147.out).2.1); (case side3 => repeat (first | exact (Kd.C_below HR0.out (by repeat (first | (with_reducible first | exact HB.out | apply below_alloc | apply pw_below_drewN | apply below_drew1) | exact HB.out))) | (with_reducible refine Kd.C_alloc ?_ _) | (with_reducible refine Kd.C_drewN ?_ _) | (with_reducible refine Kd.C_drew ?_))); (case side4 => exact HC0.out); rintro e w' ⟨rfl, ⟨nd, rfl⟩⟩; (try first | exact ⟨rfl, _, World.drewN_drewN _ _ _⟩ | exact ⟨rfl, _, Eq.trans (World.drewN_drewN _ _ _) (congrArg (World.drewN _) (Nat.add_assoc _ _ _))⟩)))
                              repeat (go_quiet (first | (go_at_call 21; (with_reducible refine (seal_Seal.calls _ _ l0 t141 _ ?side1 ?side2 A30.out).mono ?_); (case side1 => repeat (first | exact (Kd.C_below HR0.out HB.out) | (with_reducible refine Kd.C_alloc ?_ _) | (with_reducible refine Kd.C_drewN ?_ _) | (with_reducible refine Kd.C_drew ?_))); (case side2 => exact HC0.out); rintro e w43 ⟨v142, rfl, ho0, hb⟩; have n0_ := Aside0.mk (Kd.R_lower ho0 (below_size (by repeat (first | (with_reducible first | exact HB.out | apply below_alloc | apply pw_below_drewN | apply below_drew1) | exact HB.out)))); have n1_ := Aside0.mk (below_step (by repeat (first | (with_reducible first | exact HB.out | apply below_alloc | apply pw_below_drewN | apply below_drew1) | exact HB.out)) hb); clear HB; have HO143 := n0_; have HB := n1_; clear n0_ n1_; (try clear hb); (try clear hb2); (try clear hk); (try clear hi); (try clear ho0); obtain ⟨Ao44, co44, eo44⟩ := Kd.R_slice HO143.out; subst eo44) | (go_at_call 19; (with_reducible refine (seal_Open.calls _ _ t141 t144 true _ ?side1 ?side2 A32.out).mono ?_); (case side1 => repeat (first | exact (Kd.R_reads' HO143.out).2.2 | (with_reducible refine Kd.C_alloc ?_ _) | (with_reducible refine Kd.C_drewN ?_ _) | (with_reducible refine Kd.C_drew ?_))); (case side2 => exact (Kd.R_reads' HO143.out).2.1); rintro e w45 ⟨v146, rfl, ho0, hb⟩; have n0_ := Aside0.mk (Kd.R_elder' (by (with_reducible repeat (first | apply Kd.R_alloc | apply Kd.R_drewN | apply Kd.R_drew)); exact HO143.out) (Kd.R_base ho0) hb); have n1_ := Aside0.mk (Kd.R_lower (Kd.R_new' ho0 (Kd.R_lt (by (with_reducible repeat (first | apply Kd.R_alloc | apply Kd.R_drewN | apply Kd.R_drew)); exact HO143.out))) (below_size (by repeat (first | (with_reducible first | exact HB.out | apply below_alloc | apply pw_below_drewN | apply below_drew1) | exact HB.out)))); have n2_ := Aside0.mk (below_step (by repeat (first | (with_reducible first | exact HB.out | apply below_alloc | apply pw_below_drewN | apply below_drew1) | exact HB.out)) hb); clear HO143; clear HB; have HO143 := n0_; have HO147 := n1_; have HB := n2_; clear n0_ n1_ n2_; (try clear hb); (try clear hb2); (try clear hk); (try clear hi); (try clear ho0); have q46 : ((l0.length : Int) : Int) ≤ ((t141.length : Int) : Int) := of_decide_eq_true (by first | (with_reducible assumption) | assumption); obtain ⟨i046, hi046, _, hsz46, _⟩ := info_parts info30; have hroom46 : t141.length ≤ co44 := (Kd.R_reads' HO143.out).2.1; have hC46 : Kd.C (Kd.int .u64) _ Ao44 t141.length t141 := (Kd.R_reads' HO143.out).2.2; have hcut46 := cut_to (P := Try.prog) 22 30 .i64 Try.underlying22 hi046 Ao44 t141.length co44 (l0.length : Int) (of_decide_eq_true (by first | (with_reducible assumption) | assumption)) q46 hroom46; have hr46 := Kd.C_take (m := ((l0.length : Int) : Int).toNat) hC46 (by omega); have hy46 : y148.length = ((l0.length : Int) : Int).toNat := (by rw [Ny148.out, List.length_take]; omega); rw [← Ny148.out] at hr46; rw [← hy46] at hcut46; have HR151 := Aside0.mk hr46; have HC151 := Aside0.mk (show y148.length ≤ co44 from by omega); clear hr46 hC46 hroom46 hi046 hsz46; have KY46 := Aside0.mk hy46; clear hy46; have KL46 := Aside0.mk (show ((l0.length : Int) : Int).toNat ≤ t141.length from by omega); replace q46 := eq_true q46) | (go_at_call 20; (with_reducible refine (lockfastref01_Words.calls kj16 _ _ y148 _ _ l0 true _ ?side1 ?side2 ?side3 ?side4 A36.out).mono ?_); (case side1 => repeat (first | exact (by repeat (first | (with_reducible exact HR151.out) | (with_reducible refine Kd.C_alloc ?_ _) | (with_reducible refine Kd.C_drewN ?_ _) | (with_reducible refine Kd.C_drew ?_) | exact HR151.out)) | (with_reducible refine Kd.C_alloc ?_ _) | (with_reducible refine Kd.C_drewN ?_ _) | (with_reducible refine Kd.C_drew ?_))); (case side2 => exact HC151.out); (case side3 => repeat (first | exact (Kd.C_below HR0.out HB.out) | (with_reducible refine Kd.C_alloc ?_ _) | (with_reducible refine Kd.C_drewN ?_ _) | (with_reducible refine Kd.C_drew ?_))); (case side4 => exact HC0.out); rintro e w' ⟨rfl, ⟨nd, rfl⟩⟩; (try first | exact ⟨rfl, _, World.drewN_drewN _ _ _⟩ | exact ⟨rfl, _, Eq.trans (World.drewN_drewN _ _ _) (congrArg (World.drewN _) (Nat.add_assoc _ _ _))⟩); have p153 : 0 ≤ ((l0.length : Int) : Int) := of_decide_eq_true (by first | (with_reducible assumption) | assumption); have q153 : (l0.length : Int) < (t141.length : Int) := of_decide_eq_true (by first | (with_reducible assumption) | assumption); obtain ⟨ad153, e153, hx153_0⟩ := Kd.at_int (Kd.R_reads' HO143.out).2.2 (l0.length : Int) p153 q153; cases e153; (try simp only [Go.IntWalk.toNatUp] at hx153_0); replace p153 := eq_true p153; replace q153 := eq_true q153) | (go_at_call 16; (with_reducible refine (lockfastref02_Of.calls kj16 _ _ l0 t154 _ ?side1 ?side2 A39.out).mono ?_); (case side1 => repeat (first | exact (Kd.C_below HR0.out (by repeat (first | (with_reducible first | exact HB.out | apply below_alloc | apply pw_below_drewN | apply below_drew1) | exact HB.out))) | (with_reducible refine Kd.C_alloc ?_ _) | (with_reducible refine Kd.C_drewN ?_ _) | (with_reducible refine Kd.C_drew ?_))); (case side2 => exact HC0.out); rintro e w' ⟨rfl, ⟨nd, rfl⟩⟩; (try first | exact ⟨rfl, _, World.drewN_drewN _ _ _⟩ | exact ⟨rfl, _, Eq.trans (World.drewN_drewN _ _ _) (congrArg (World.drewN _) (Nat.add_assoc _ _ _))⟩); obtain ⟨Ao47, co47, eo47⟩ := Kd.R_slice HO147.out; subst eo47) | (go_at_call 20; (with_reducible refine (lockfastref01_Words.calls kj16 _ _ t144 _ _ l0 t155 _ ?side1 ?side2 ?side3 ?side4 A42.out).mono ?_); (case side1 => repeat (first | exact (Kd.R_reads' HO147.out).2.2 | (with_reducible refine Kd.C_alloc ?_ _) | (with_reducible refine Kd.C_drewN ?_ _) | (with_reducible refine Kd.C_drew ?_))); (case side2 => exact (Kd.R_reads' HO147.out).2.1); (case side3 => repeat (first | exact (Kd.C_below HR0.out (by repeat (first | (with_reducible first | exact HB.out | apply below_alloc | apply pw_below_drewN | apply below_drew1) | exact HB.out))) | (with_reducible refine Kd.C_alloc ?_ _) | (with_reducible refine Kd.C_drewN ?_ _) | (with_reducible refine Kd.C_drew ?_))); (case side4 => exact HC0.out); rintro e w' ⟨rfl, ⟨nd, rfl⟩⟩; (try first | exact ⟨rfl, _, World.drewN_drewN _ _ _⟩ | exact ⟨rfl, _, Eq.trans (World.drewN_drewN _ _ _) (congrArg (World.drewN _) (Nat.add_assoc _ _ _))⟩))); try go_wp2_with (first | (go_at_call 21; (with_reducible refine (seal_Seal.calls _ _ l0 t141 _ ?side1 ?side2 A30.out).mono ?_); (case side1 => repeat (first | exact (Kd.C_below HR0.out HB.out) | (with_reducible refine Kd.C_alloc ?_ _) | (with_reducible refine Kd.C_drewN ?_ _) | (with_reducible refine Kd.C_drew ?_))); (case side2 => exact HC0.out); rintro e w43 ⟨v142, rfl, ho0, hb⟩; have n0_ := Aside0.mk (Kd.R_lower ho0 (below_size (by repeat (first | (with_reducible first | exact HB.out | apply below_alloc | apply pw_below_drewN | apply below_drew1) | exact HB.out)))); have n1_ := Aside0.mk (below_step (by repeat (first | (with_reducible first | exact HB.out | apply below_alloc | apply pw_below_drewN | apply below_drew1) | exact HB.out)) hb); clear HB; have HO143 := n0_; have HB := n1_; clear n0_ n1_; (try clear hb); (try clear hb2); (try clear hk); (try clear hi); (try clear ho0); obtain ⟨Ao44, co44, eo44⟩ := Kd.R_slice HO143.out; subst eo44) | (go_at_call 19; (with_reducible refine (seal_Open.calls _ _ t141 t144 true _ ?side1 ?side2 A32.out).mono ?_); (case side1 => repeat (first | exact (Kd.R_reads' HO143.out).2.2 | (with_reducible refine Kd.C_alloc ?_ _) | (with_reducible refine Kd.C_drewN ?_ _) | (with_reducible refine Kd.C_drew ?_))); (case side2 => exact (Kd.R_reads' HO143.out).2.1); rintro e w45 ⟨v146, rfl, ho0, hb⟩; have n0_ := Aside0.mk (Kd.R_elder' (by (with_reducible repeat (first | apply Kd.R_alloc | apply Kd.R_drewN | apply Kd.R_drew)); exact HO143.out) (Kd.R_base ho0) hb); have n1_ := Aside0.mk (Kd.R_lower (Kd.R_new' ho0 (Kd.R_lt (by (with_reducible repeat (first | apply Kd.R_alloc | apply Kd.R_drewN | apply Kd.R_drew)); exact HO143.out))) (below_size (by repeat (first | (with_reducible first | exact HB.out | apply below_alloc | apply pw_below_drewN | apply below_drew1) | exact HB.out)))); have n2_ := Aside0.mk (below_step (by repeat (first | (with_reducible first | exact HB.out | apply below_alloc | apply pw_below_drewN | apply below_drew1) | exact HB.out)) hb); clear HO143; clear HB; have HO143 := n0_; have HO147 := n1_; have HB := n2_; clear n0_ n1_ n2_; (try clear hb); (try clear hb2); (try clear hk); (try clear hi); (try clear ho0); have q46 : ((l0.length : Int) : Int) ≤ ((t141.length : Int) : Int) := of_decide_eq_true (by first | (with_reducible assumption) | assumption); obtain ⟨i046, hi046, _, hsz46, _⟩ := info_parts info30; have hroom46 : t141.length ≤ co44 := (Kd.R_reads' HO143.out).2.1; have hC46 : Kd.C (Kd.int .u64) _ Ao44 t141.length t141 := (Kd.R_reads' HO143.out).2.2; have hcut46 := cut_to (P := Try.prog) 22 30 .i64 Try.underlying22 hi046 Ao44 t141.length co44 (l0.length : Int) (of_decide_eq_true (by first | (with_reducible assumption) | assumption)) q46 hroom46; have hr46 := Kd.C_take (m := ((l0.length : Int) : Int).toNat) hC46 (by omega); have hy46 : y148.length = ((l0.length : Int) : Int).toNat := (by rw [Ny148.out, List.length_take]; omega); rw [← Ny148.out] at hr46; rw [← hy46] at hcut46; have HR151 := Aside0.mk hr46; have HC151 := Aside0.mk (show y148.length ≤ co44 from by omega); clear hr46 hC46 hroom46 hi046 hsz46; have KY46 := Aside0.mk hy46; clear hy46; have KL46 := Aside0.mk (show ((l0.length : Int) : Int).toNat ≤ t141.length from by omega); replace q46 := eq_true q46) | (go_at_call 20; (with_reducible refine (lockfastref01_Words.calls kj16 _ _ y148 _ _ l0 true _ ?side1 ?side2 ?side3 ?side4 A36.out).mono ?_); (case side1 => repeat (first | exact (by repeat (first | (with_reducible exact HR151.out) | (with_reducible refine Kd.C_alloc ?_ _) | (with_reducible refine Kd.C_drewN ?_ _) | (with_reducible refine Kd.C_drew ?_) | exact HR151.out)) | (with_reducible refine Kd.C_alloc ?_ _) | (with_reducible refine Kd.C_drewN ?_ _) | (with_reducible refine Kd.C_drew ?_))); (case side2 => exact HC151.out); (case side3 => repeat (first | exact (Kd.C_below HR0.out HB.out) | (with_reducible refine Kd.C_alloc ?_ _) | (with_reducible refine Kd.C_drewN ?_ _) | (with_reducible refine Kd.C_drew ?_))); (case side4 => exact HC0.out); rintro e w' ⟨rfl, ⟨nd, rfl⟩⟩; (try first | exact ⟨rfl, _, World.drewN_drewN _ _ _⟩ | exact ⟨rfl, _, Eq.trans (World.drewN_drewN _ _ _) (congrArg (World.drewN _) (Nat.add_assoc _ _ _))⟩); have p153 : 0 ≤ ((l0.length : Int) : Int) := of_decide_eq_true (by first | (with_reducible assumption) | assumption); have q153 : (l0.length : Int) < (t141.length : Int) := of_decide_eq_true (by first | (with_reducible assumption) | assumption); obtain ⟨ad153, e153, hx153_0⟩ := Kd.at_int (Kd.R_reads' HO143.out).2.2 (l0.length : Int) p153 q153; cases e153; (try simp only [Go.IntWalk.toNatUp] at hx153_0); replace p153 := eq_true p153; replace q153 := eq_true q153) | (go_at_call 16; (with_reducible refine (lockfastref02_Of.calls kj16 _ _ l0 t154 _ ?side1 ?side2 A39.out).mono ?_); (case side1 => repeat (first | exact (Kd.C_below HR0.out (by repeat (first | (with_reducible first | exact HB.out | apply below_alloc | apply pw_below_drewN | apply below_drew1) | exact HB.out))) | (with_reducible refine Kd.C_alloc ?_ _) | (with_reducible refine Kd.C_drewN ?_ _) | (with_reducible refine Kd.C_drew ?_))); (case side2 => exact HC0.out); rintro e w' ⟨rfl, ⟨nd, rfl⟩⟩; (try first | exact ⟨rfl, _, World.drewN_drewN _ _ _⟩ | exact ⟨rfl, _, Eq.trans (World.drewN_drewN _ _ _) (congrArg (World.drewN _) (Nat.add_assoc _ _ _))⟩); obtain ⟨Ao47, co47, eo47⟩ := Kd.R_slice HO147.out; subst eo47) | (go_at_call 20; (with_reducible refine (lockfastref01_Words.calls kj16 _ _ t144 _ _ l0 t155 _ ?side1 ?side2 ?side3 ?side4 A42.out).mono ?_); (case side1 => repeat (first | exact (Kd.R_reads' HO147.out).2.2 | (with_reducible refine Kd.C_alloc ?_ _) | (with_reducible refine Kd.C_drewN ?_ _) | (with_reducible refine Kd.C_drew ?_))); (case side2 => exact (Kd.R_reads' HO147.out).2.1); (case side3 => repeat (first | exact (Kd.C_below HR0.out (by repeat (first | (with_reducible first | exact HB.out | apply below_alloc | apply pw_below_drewN | apply below_drew1) | exact HB.out))) | (with_reducible refine Kd.C_alloc ?_ _) | (with_reducible refine Kd.C_drewN ?_ _) | (with_reducible refine Kd.C_drew ?_))); (case side4 => exact HC0.out); rintro e w' ⟨rfl, ⟨nd, rfl⟩⟩; (try first | exact ⟨rfl, _, World.drewN_drewN _ _ _⟩ | exact ⟨rfl, _, Eq.trans (World.drewN_drewN _ _ _) (congrArg (World.drewN _) (Nat.add_assoc _ _ _))⟩))))
                              go_ret
                              exact ⟨by first | rfl | (simp [errW_none, errW_some] <;> rfl) | (simp [*, errW_none, errW_some] <;> rfl), by repeat (first | (with_reducible first | exact HB.out | apply below_alloc | apply pw_below_drewN | apply below_drew1) | exact HB.out)⟩
                            · replace c41 := Bool.eq_false_iff.mpr c41
                              subst c41
                              have H1 : (some false) = some r := by rw [if_neg (show ¬ (false = true) by decide)] at H; exact H
                              clear H
                              have H := H1
                              clear H1
                              obtain rfl := Option.some.inj H
                              exact absurd HRT.out (by decide)
                          · rw [if_neg c40] at H
                            have c40b0 : ((rd t141 (l0.length : Int)) == (IntKind.u64.wrap (t154))) = false := beq_eq_false_iff_ne.mpr c40
                            have c40b1 : ((rd t141 (l0.length : Int)) != (IntKind.u64.wrap (t154))) = true := bne_iff_ne.mpr c40
                            obtain rfl := Option.some.inj H
                            exact absurd HRT.out (by decide)
                        · rw [if_neg c38] at H
                          exact absurd H (by simp)
                      · replace c37 := Bool.eq_false_iff.mpr c37
                        subst c37
                        have H1 : (some false) = some r := by rw [if_neg (show ¬ (false = true) by decide)] at H; exact H
                        clear H
                        have H := H1
                        clear H1
                        obtain rfl := Option.some.inj H
                        exact absurd HRT.out (by decide)
                    · rw [if_neg c35] at H
                      exact absurd H (by simp)
                  · rw [if_neg c34] at H
                    exact absurd H (by simp)
                · replace c33 := Bool.eq_false_iff.mpr c33
                  subst c33
                  have H1 : (some false) = some r := by rw [if_neg (show ¬ (false = true) by decide)] at H; exact H
                  clear H
                  have H := H1
                  clear H1
                  obtain rfl := Option.some.inj H
                  exact absurd HRT.out (by decide)
              · rw [if_neg c31] at H
                have c31b0 : ((t141.length : Int) == (wrap64 ((l0.length : Int) + 1))) = false := beq_eq_false_iff_ne.mpr c31
                have c31b1 : ((t141.length : Int) != (wrap64 ((l0.length : Int) + 1))) = true := bne_iff_ne.mpr c31
                obtain rfl := Option.some.inj H
                exact absurd HRT.out (by decide)

/-- THE ONE PURE STATEMENT of lockfastlaw02_SealOpens: yours. -/
def lockfastlaw02_SealOpens.Pure : Prop := ∀ (l0 : List Int), l0.length ≤ maxLen → l0.length * 8 ≤ 140737488351232 → (∀ x ∈ l0, (Lit.int .u64 x).wf = true) → ∃ k, lockfastlaw02_SealOpens.f k l0 = some true
theorem lockfastlaw02_SealOpens.walk (P : lockfastlaw02_SealOpens.Pure) (a0 : Option Addr) (len0 cap0 : Nat) (z0 : List Int) (w : World) (w0 : (a0 = none ∧ len0 = 0 ∧ cap0 = 0 ∧ z0 = []) ∨ ∃ x, a0 = some x ∧ len0 ≤ cap0 ∧ cap0 ≤ maxLen ∧ z0.length = cap0 ∧ (∀ i, i < z0.length → w.cell? (x.add i) = some (.int .u64 (z0.getD i 0))) ∧ ∀ n ∈ z0, (Lit.int .u64 n).wf = true) (y0 : len0 * 8 ≤ 140737488351232) :
    Calls Try.prog 4 #[.slice a0 len0 cap0] w fun e w' => e = .returned (.bool true) ∧ Below w.heap.size w w' := by
  obtain ⟨l0, rfl, hr0, hm0, hw0, hc0⟩ := ReadsInt.ofRowC w0
  obtain ⟨k, h⟩ := P l0 hm0 y0 hw0
  refine (lockfastlaw02_SealOpens.calls k _ _ l0 true w rfl (Kd.C_of_reads (d := (0 : Int)) (h1 := fun _ => rfl) hr0) hc0 h).mono ?_
  rintro e w' ⟨rfl, hd⟩
  exact ⟨rfl, hd⟩

end Go.Proofs.Ytmflkbmjchapiaa.PSealOpens
