-- WRITTEN FOR THIS CLAIM by given.py, a program of this session's: the kit's printer, run with contracts of the session's own. It is not a text of print.sh's.
import Derived.Test.YtnoclgnlmkpkbaaPRedoApartx0
import Derived.Test.YtnoclgnlmkpkbaaPRedoApartx5
import Derived.Test.YtnoclgnlmkpkbaaPRedoApartx6
namespace Go.Proofs.Ytnoclgnlmkpkbaa.PRedoApart
open Go.RowKit Go.Proofs.YtnoclgnlmkpkbaaW.PrintWords Go.Proofs.YtnoclgnlmkpkbaaW.PrintLast Go.Proofs.YtnoclgnlmkpkbaaW.PrintMore
attribute [local go_sem] max2_int min2_int max_two min_two max_three min_three max_four min_four   -- for this text's walks alone
set_option linter.unusedVariables false
set_option linter.unusedSimpArgs false
open Go.Proofs.YtnoclgnlmkpkbaaX

/-! ### lockfastlaw12_RedoApart: function 8 -/
mutual
def lockfastlaw12_RedoApart.j0 : Nat → List Int → List Int → List Int → Int → Bool → Bool → Option (Bool)
  | 0, _, _, _, _, _, _ => none
  | k + 1, x0, x1, x2, x3, x9, x38 => if x38 = true then (some x9) else (lockfastlaw12_RedoApart.l0 k x0 x1 x2 x9 (wrap64 (1 + (wrap64 (Int.tmod x3 63)))) ([] : List (S38)) ([] : List (S38)) ([] : List (S38)) 0)
def lockfastlaw12_RedoApart.l0 : Nat → List Int → List Int → List Int → Bool → Int → List (S38) → List (S38) → List (S38) → Int → Option (Bool)
  | 0, _, _, _, _, _, _, _, _, _ => none
  | k + 1, x0, x1, x2, x9, x10, x11, x12, x13, x14 => if x14 < (x1.length : Int) then (lockfastlaw12_RedoApart.j2 k x0 x1 x2 x9 x10 x11 x12 x13 x14 true) else (lockfastlaw12_RedoApart.j2 k x0 x1 x2 x9 x10 x11 x12 x13 x14 (decide (x14 < (x2.length : Int))))
def lockfastlaw12_RedoApart.j2 : Nat → List Int → List Int → List Int → Bool → Int → List (S38) → List (S38) → List (S38) → Int → Bool → Option (Bool)
  | 0, _, _, _, _, _, _, _, _, _, _ => none
  | k + 1, x0, x1, x2, x9, x10, x11, x12, x13, x14, x53 => if x53 = true then (if x14 < (x1.length : Int) then (if 0 ≤ x14 then (if (x0.length : Int) = 0 then (none) else (if x10 = 0 then (none) else (if 0 ≤ (Int.tmod (wrap64 (rd x1 x14)) x10) then (if (Int.tmod (rd x1 x14) 3) = 0 then (if x11.length < 5864062014805 then (if x13.length < 5864062014805 then (lockfastlaw12_RedoApart.j3 k x0 x1 x2 x9 x10 (x11 ++ [(⟨2, Int.tmod (wrap64 (rd x1 x14)) (x0.length : Int), Go.bits .xor .u64 IntKind.u64.max (shl .u64 1 (Int.tmod (wrap64 (rd x1 x14)) x10))⟩ : S38)]) x12 (x13 ++ [(⟨2, Int.tmod (wrap64 (rd x1 x14)) (x0.length : Int), Go.bits .xor .u64 IntKind.u64.max (shl .u64 1 (Int.tmod (wrap64 (rd x1 x14)) x10))⟩ : S38)]) x14) else (none)) else (none)) else (if x11.length < 5864062014805 then (if x13.length < 5864062014805 then (lockfastlaw12_RedoApart.j3 k x0 x1 x2 x9 x10 (x11 ++ [(⟨1, Int.tmod (wrap64 (rd x1 x14)) (x0.length : Int), shl .u64 1 (Int.tmod (wrap64 (rd x1 x14)) x10)⟩ : S38)]) x12 (x13 ++ [(⟨1, Int.tmod (wrap64 (rd x1 x14)) (x0.length : Int), shl .u64 1 (Int.tmod (wrap64 (rd x1 x14)) x10)⟩ : S38)]) x14) else (none)) else (none))) else (none)))) else (none)) else (lockfastlaw12_RedoApart.j3 k x0 x1 x2 x9 x10 x11 x12 x13 x14)) else ((redo_Apply.f k x0 x11).bind fun t201 => ((redo_Apply.f k t201 x12).bind fun t204 => ((redo_Apply.f k x0 x12).bind fun t207 => ((redo_Apply.f k t207 x11).bind fun t210 => ((redo_Apply.f k x0 x13).bind fun t213 => (if x9 = true then ((lockfastref01_Words.f k t204 t210).bind fun t216 => (if t216 = true then ((lockfastref01_Words.f k t204 t213).bind fun t217 => (some t217)) else (some false))) else (some false)))))))
def lockfastlaw12_RedoApart.j3 : Nat → List Int → List Int → List Int → Bool → Int → List (S38) → List (S38) → List (S38) → Int → Option (Bool)
  | 0, _, _, _, _, _, _, _, _, _ => none
  | k + 1, x0, x1, x2, x9, x10, x11, x12, x13, x14 => if x14 < (x2.length : Int) then (if 0 ≤ x14 then (if (x0.length : Int) = 0 then (none) else (if (wrap64 (64 - x10)) = 0 then (none) else (if 0 ≤ (wrap64 (x10 + (Int.tmod (wrap64 (rd x2 x14)) (wrap64 (64 - x10))))) then (if (Int.tmod (rd x2 x14) 3) = 0 then (if x12.length < 5864062014805 then (if x13.length < 5864062014805 then (lockfastlaw12_RedoApart.l0 k x0 x1 x2 x9 x10 x11 (x12 ++ [(⟨2, Int.tmod (wrap64 (rd x2 x14)) (x0.length : Int), Go.bits .xor .u64 IntKind.u64.max (shl .u64 1 (wrap64 (x10 + (Int.tmod (wrap64 (rd x2 x14)) (wrap64 (64 - x10))))))⟩ : S38)]) (x13 ++ [(⟨2, Int.tmod (wrap64 (rd x2 x14)) (x0.length : Int), Go.bits .xor .u64 IntKind.u64.max (shl .u64 1 (wrap64 (x10 + (Int.tmod (wrap64 (rd x2 x14)) (wrap64 (64 - x10))))))⟩ : S38)]) (wrap64 (x14 + 1))) else (none)) else (none)) else (if x12.length < 5864062014805 then (if x13.length < 5864062014805 then (lockfastlaw12_RedoApart.l0 k x0 x1 x2 x9 x10 x11 (x12 ++ [(⟨1, Int.tmod (wrap64 (rd x2 x14)) (x0.length : Int), shl .u64 1 (wrap64 (x10 + (Int.tmod (wrap64 (rd x2 x14)) (wrap64 (64 - x10)))))⟩ : S38)]) (x13 ++ [(⟨1, Int.tmod (wrap64 (rd x2 x14)) (x0.length : Int), shl .u64 1 (wrap64 (x10 + (Int.tmod (wrap64 (rd x2 x14)) (wrap64 (64 - x10)))))⟩ : S38)]) (wrap64 (x14 + 1))) else (none)) else (none))) else (none)))) else (none)) else (lockfastlaw12_RedoApart.l0 k x0 x1 x2 x9 x10 x11 x12 x13 (wrap64 (x14 + 1)))
end
def lockfastlaw12_RedoApart.f (k : Nat) (l0 : List Int) (l1 : List Int) (l2 : List Int) (a3 : Int) : Option (Bool) := (lockfastlaw12_awake.f k).bind fun t168 => (if (l0.length : Int) = 0 then (lockfastlaw12_RedoApart.j0 k l0 l1 l2 a3 t168 true) else (if (l0.length : Int) > 40 then (lockfastlaw12_RedoApart.j0 k l0 l1 l2 a3 t168 true) else (if (l1.length : Int) > 15 then (lockfastlaw12_RedoApart.j0 k l0 l1 l2 a3 t168 true) else (lockfastlaw12_RedoApart.j0 k l0 l1 l2 a3 t168 (decide ((l2.length : Int) > 15))))))
theorem lockfastlaw12_RedoApart.mono_l : ∀ k, (∀ y0 y1 y2 y3 y4 y5, LeO (lockfastlaw12_RedoApart.j0 k y0 y1 y2 y3 y4 y5) (lockfastlaw12_RedoApart.j0 (k + 1) y0 y1 y2 y3 y4 y5)) ∧ (∀ y0 y1 y2 y3 y4 y5 y6 y7 y8, LeO (lockfastlaw12_RedoApart.l0 k y0 y1 y2 y3 y4 y5 y6 y7 y8) (lockfastlaw12_RedoApart.l0 (k + 1) y0 y1 y2 y3 y4 y5 y6 y7 y8)) ∧ (∀ y0 y1 y2 y3 y4 y5 y6 y7 y8 y9, LeO (lockfastlaw12_RedoApart.j2 k y0 y1 y2 y3 y4 y5 y6 y7 y8 y9) (lockfastlaw12_RedoApart.j2 (k + 1) y0 y1 y2 y3 y4 y5 y6 y7 y8 y9)) ∧ (∀ y0 y1 y2 y3 y4 y5 y6 y7 y8, LeO (lockfastlaw12_RedoApart.j3 k y0 y1 y2 y3 y4 y5 y6 y7 y8) (lockfastlaw12_RedoApart.j3 (k + 1) y0 y1 y2 y3 y4 y5 y6 y7 y8))
  | 0 => ⟨fun _ _ _ _ _ _ r h => by simp [lockfastlaw12_RedoApart.j0] at h, fun _ _ _ _ _ _ _ _ _ r h => by simp [lockfastlaw12_RedoApart.l0] at h, fun _ _ _ _ _ _ _ _ _ _ r h => by simp [lockfastlaw12_RedoApart.j2] at h, fun _ _ _ _ _ _ _ _ _ r h => by simp [lockfastlaw12_RedoApart.j3] at h⟩
  | k + 1 => by
    obtain ⟨ih0, ih1, ih2, ih3⟩ := lockfastlaw12_RedoApart.mono_l k
    refine ⟨?_, ?_, ?_, ?_⟩
    · intro y0 y1 y2 y3 y4 y5
      unfold lockfastlaw12_RedoApart.j0
      repeat' first
      | (with_reducible exact ih0 _ _ _ _ _ _)
      | (with_reducible exact ih1 _ _ _ _ _ _ _ _ _)
      | (with_reducible exact ih2 _ _ _ _ _ _ _ _ _ _)
      | (with_reducible exact ih3 _ _ _ _ _ _ _ _ _)
      | (with_reducible exact lockfastlaw12_awake.mono _)
      | (with_reducible exact lockfastref01_Words.mono _ _ _)
      | (with_reducible exact redo_Apply.mono _ _ _)
      | (with_reducible exact LeO.refl _)
      | (with_reducible exact LeO.none _)
      | (with_reducible refine LeO.ite ?_ ?_)
      | (with_reducible refine LeO.bind ?_ (fun _ => ?_))
      | exact ih0 _ _ _ _ _ _
      | exact ih1 _ _ _ _ _ _ _ _ _
      | exact ih2 _ _ _ _ _ _ _ _ _ _
      | exact ih3 _ _ _ _ _ _ _ _ _
      | exact lockfastlaw12_awake.mono _
      | exact lockfastref01_Words.mono _ _ _
      | exact redo_Apply.mono _ _ _
      | exact LeO.none _
      | refine LeO.ite ?_ ?_
      | refine LeO.bind ?_ (fun _ => ?_)
    · intro y0 y1 y2 y3 y4 y5 y6 y7 y8
      unfold lockfastlaw12_RedoApart.l0
      repeat' first
      | (with_reducible exact ih0 _ _ _ _ _ _)
      | (with_reducible exact ih1 _ _ _ _ _ _ _ _ _)
      | (with_reducible exact ih2 _ _ _ _ _ _ _ _ _ _)
      | (with_reducible exact ih3 _ _ _ _ _ _ _ _ _)
      | (with_reducible exact lockfastlaw12_awake.mono _)
      | (with_reducible exact lockfastref01_Words.mono _ _ _)
      | (with_reducible exact redo_Apply.mono _ _ _)
      | (with_reducible exact LeO.refl _)
      | (with_reducible exact LeO.none _)
      | (with_reducible refine LeO.ite ?_ ?_)
      | (with_reducible refine LeO.bind ?_ (fun _ => ?_))
      | exact ih0 _ _ _ _ _ _
      | exact ih1 _ _ _ _ _ _ _ _ _
      | exact ih2 _ _ _ _ _ _ _ _ _ _
      | exact ih3 _ _ _ _ _ _ _ _ _
      | exact lockfastlaw12_awake.mono _
      | exact lockfastref01_Words.mono _ _ _
      | exact redo_Apply.mono _ _ _
      | exact LeO.none _
      | refine LeO.ite ?_ ?_
      | refine LeO.bind ?_ (fun _ => ?_)
    · intro y0 y1 y2 y3 y4 y5 y6 y7 y8 y9
      unfold lockfastlaw12_RedoApart.j2
      repeat' first
      | (with_reducible exact ih0 _ _ _ _ _ _)
      | (with_reducible exact ih1 _ _ _ _ _ _ _ _ _)
      | (with_reducible exact ih2 _ _ _ _ _ _ _ _ _ _)
      | (with_reducible exact ih3 _ _ _ _ _ _ _ _ _)
      | (with_reducible exact lockfastlaw12_awake.mono _)
      | (with_reducible exact lockfastref01_Words.mono _ _ _)
      | (with_reducible exact redo_Apply.mono _ _ _)
      | (with_reducible exact LeO.refl _)
      | (with_reducible exact LeO.none _)
      | (with_reducible refine LeO.ite ?_ ?_)
      | (with_reducible refine LeO.bind ?_ (fun _ => ?_))
      | exact ih0 _ _ _ _ _ _
      | exact ih1 _ _ _ _ _ _ _ _ _
      | exact ih2 _ _ _ _ _ _ _ _ _ _
      | exact ih3 _ _ _ _ _ _ _ _ _
      | exact lockfastlaw12_awake.mono _
      | exact lockfastref01_Words.mono _ _ _
      | exact redo_Apply.mono _ _ _
      | exact LeO.none _
      | refine LeO.ite ?_ ?_
      | refine LeO.bind ?_ (fun _ => ?_)
    · intro y0 y1 y2 y3 y4 y5 y6 y7 y8
      unfold lockfastlaw12_RedoApart.j3
      repeat' first
      | (with_reducible exact ih0 _ _ _ _ _ _)
      | (with_reducible exact ih1 _ _ _ _ _ _ _ _ _)
      | (with_reducible exact ih2 _ _ _ _ _ _ _ _ _ _)
      | (with_reducible exact ih3 _ _ _ _ _ _ _ _ _)
      | (with_reducible exact lockfastlaw12_awake.mono _)
      | (with_reducible exact lockfastref01_Words.mono _ _ _)
      | (with_reducible exact redo_Apply.mono _ _ _)
      | (with_reducible exact LeO.refl _)
      | (with_reducible exact LeO.none _)
      | (with_reducible refine LeO.ite ?_ ?_)
      | (with_reducible refine LeO.bind ?_ (fun _ => ?_))
      | exact ih0 _ _ _ _ _ _
      | exact ih1 _ _ _ _ _ _ _ _ _
      | exact ih2 _ _ _ _ _ _ _ _ _ _
      | exact ih3 _ _ _ _ _ _ _ _ _
      | exact lockfastlaw12_awake.mono _
      | exact lockfastref01_Words.mono _ _ _
      | exact redo_Apply.mono _ _ _
      | exact LeO.none _
      | refine LeO.ite ?_ ?_
      | refine LeO.bind ?_ (fun _ => ?_)
theorem lockfastlaw12_RedoApart.mono : ∀ a0 a1 a2 a3 k, LeO (lockfastlaw12_RedoApart.f k a0 a1 a2 a3) (lockfastlaw12_RedoApart.f (k + 1) a0 a1 a2 a3) := by
  intro a0 a1 a2 a3 k
  obtain ⟨ih0, ih1, ih2, ih3⟩ := lockfastlaw12_RedoApart.mono_l k
  unfold lockfastlaw12_RedoApart.f
  repeat' first
      | (with_reducible exact ih0 _ _ _ _ _ _)
      | (with_reducible exact ih1 _ _ _ _ _ _ _ _ _)
      | (with_reducible exact ih2 _ _ _ _ _ _ _ _ _ _)
      | (with_reducible exact ih3 _ _ _ _ _ _ _ _ _)
      | (with_reducible exact lockfastlaw12_awake.mono _)
      | (with_reducible exact lockfastref01_Words.mono _ _ _)
      | (with_reducible exact redo_Apply.mono _ _ _)
      | (with_reducible exact LeO.refl _)
      | (with_reducible exact LeO.none _)
      | (with_reducible refine LeO.ite ?_ ?_)
      | (with_reducible refine LeO.bind ?_ (fun _ => ?_))
      | exact ih0 _ _ _ _ _ _
      | exact ih1 _ _ _ _ _ _ _ _ _
      | exact ih2 _ _ _ _ _ _ _ _ _ _
      | exact ih3 _ _ _ _ _ _ _ _ _
      | exact lockfastlaw12_awake.mono _
      | exact lockfastref01_Words.mono _ _ _
      | exact redo_Apply.mono _ _ _
      | exact LeO.none _
      | refine LeO.ite ?_ ?_
      | refine LeO.bind ?_ (fun _ => ?_)
def lockfastlaw12_RedoApart.T10 : Bool × List (List Nat × List Nat) := (true, [([], []), ([], []), ([0, 1], [0, 1]), ([2], [2]), ([3], [3]), ([], []), ([5], [5]), ([4, 6], [4, 6]), ([], []), ([], []), ([8, 9], [8, 9]), ([10], [10]), ([11], [11]), ([], []), ([12, 13], [12, 13]), ([14], [14]), ([7, 15], [7, 15]), ([], []), ([17, 16, 0, 1, 2, 3, 4, 5, 6, 7, 8, 9, 10, 11, 12, 13, 14, 15, 16, 17], [16, 17])])
def lockfastlaw12_RedoApart.B10 : List Nat := [0, 0, 3, 7, 15, 0, 32, 127, 0, 0, 768, 1792, 3840, 0, 16128, 32512, 65535, 0, 262143]
theorem lockfastlaw12_RedoApart.tab10 : rtab .any (opsOf Try.f8 10) = lockfastlaw12_RedoApart.T10 := by kernel_rfl
theorem lockfastlaw12_RedoApart.bits10 : waitsOk lockfastlaw12_RedoApart.T10.2 lockfastlaw12_RedoApart.B10 = true := by kernel_rfl
def lockfastlaw12_RedoApart.T16 : Bool × List (List Nat × List Nat) := (true, [([], []), ([], []), ([0, 1], [0, 1]), ([2], [2]), ([3], [3]), ([], []), ([5], [5]), ([4, 6], [4, 6]), ([], []), ([], []), ([], []), ([9, 10], [9, 10]), ([11], [11]), ([12], [12]), ([], []), ([14], [14]), ([13, 15], [13, 15]), ([8, 16], [8, 16]), ([17], [17]), ([7, 18], [7, 18]), ([], []), ([20, 19, 0, 1, 2, 3, 4, 5, 6, 7, 8, 9, 10, 11, 12, 13, 14, 15, 16, 17, 18, 19, 20], [19, 20])])
def lockfastlaw12_RedoApart.B16 : List Nat := [0, 0, 3, 7, 15, 0, 32, 127, 0, 0, 0, 1536, 3584, 7680, 0, 16384, 65024, 130816, 261888, 524287, 0, 2097151]
theorem lockfastlaw12_RedoApart.tab16 : rtab .any (opsOf Try.f8 16) = lockfastlaw12_RedoApart.T16 := by kernel_rfl
theorem lockfastlaw12_RedoApart.bits16 : waitsOk lockfastlaw12_RedoApart.T16.2 lockfastlaw12_RedoApart.B16 = true := by kernel_rfl
set_option maxHeartbeats 8000000 in
set_option maxRecDepth 100000 in
theorem lockfastlaw12_RedoApart.calls (k : Nat) (A0 : Option Addr) (c0 : Nat) (l0 : List Int) (A1 : Option Addr) (c1 : Nat) (l1 : List Int) (A2 : Option Addr) (c2 : Nat) (l2 : List Int) (a3 : Int) (r : Bool) (w : World) (hrt : r = true) (hr0 : Kd.C (Kd.int .u64) w A0 l0.length l0) (hc0 : l0.length ≤ c0) (hr1 : Kd.C (Kd.int .u8) w A1 l1.length l1) (hc1 : l1.length ≤ c1) (hr2 : Kd.C (Kd.int .u8) w A2 l2.length l2) (hc2 : l2.length ≤ c2) (h : lockfastlaw12_RedoApart.f k l0 l1 l2 a3 = some r) :
    Calls Try.prog 8 #[.slice A0 l0.length c0, .slice A1 l1.length c1, .slice A2 l2.length c2, .int .u8 a3] w fun e w' => e = .returned (.bool r) ∧ Below w.heap.size w w' := by
  have hs_u64 : IntKind.u64.signed = false := rfl
  have hu38 := Try.underlying38
  have HR0 := Aside0.mk hr0
  have HC0 := Aside0.mk hc0
  clear hr0 hc0
  have HR1 := Aside0.mk hr1
  have HC1 := Aside0.mk hc1
  clear hr1 hc1
  have HR2 := Aside0.mk hr2
  have HC2 := Aside0.mk hc2
  clear hr2 hc2
  have HB := Aside0.mk (Below.refl w.heap.size w)
  have H : ((lockfastlaw12_awake.f k).bind fun t168 => (if (l0.length : Int) = 0 then (lockfastlaw12_RedoApart.j0 k l0 l1 l2 a3 t168 true) else (if (l0.length : Int) > 40 then (lockfastlaw12_RedoApart.j0 k l0 l1 l2 a3 t168 true) else (if (l1.length : Int) > 15 then (lockfastlaw12_RedoApart.j0 k l0 l1 l2 a3 t168 true) else (lockfastlaw12_RedoApart.j0 k l0 l1 l2 a3 t168 (decide ((l2.length : Int) > 15))))))) = some r := h
  clear h
  have HRT := Aside0.mk hrt
  clear hrt
  replace H := Option.bind_eq_some_iff.mp H
  obtain ⟨t168, A50, H⟩ := H
  replace H : (if (l0.length : Int) = 0 then (lockfastlaw12_RedoApart.j0 k l0 l1 l2 a3 t168 true) else (if (l0.length : Int) > 40 then (lockfastlaw12_RedoApart.j0 k l0 l1 l2 a3 t168 true) else (if (l1.length : Int) > 15 then (lockfastlaw12_RedoApart.j0 k l0 l1 l2 a3 t168 true) else (lockfastlaw12_RedoApart.j0 k l0 l1 l2 a3 t168 (decide ((l2.length : Int) > 15)))))) = some r := H
  have A5 := Aside0.mk A50
  clear A50
  have HC6 := Aside0.mk H
  clear H
  go_enter Try.func8, Try.ntmps8
  go_upto_region 2 with (first | ((with_reducible refine gate_callee (f := 9) rfl ?_); refine goesL_ (some 20) rfl rfl Try.func9 (by kernel_rfl) rfl #[] rfl (by (try simp only [List.map_toArray, List.map_cons, List.map_nil]); first | done | rfl | (simp only [List.length_drop, List.length_take]; rfl)) ?_; (with_reducible refine (lockfastlaw12_awake.calls k  t168 _ A5.out).mono ?_); rintro e w7 ⟨rfl, hb⟩; refine ⟨_, rfl, ?_⟩; have n0_ := Aside0.mk (below_step (by repeat (first | (with_reducible first | exact HB.out | apply below_alloc | apply pw_below_drewN | apply below_drew1) | exact HB.out)) hb); clear HB; have HB := n0_; clear n0_; (try clear hb); (try clear hb2); (try clear hk); (try clear hi)))
  (try simp only [Act.put, List.setIfInBounds_toArray, List.set_cons_zero, List.set_cons_succ])
  go_cut [38] (fun v38 wc => ∃ (kq : Nat) (x38_5 : Bool), v38 = .bool x38_5 ∧ Aside0 (lockfastlaw12_RedoApart.j0 kq l0 l1 l2 a3 t168 x38_5 = some r) ∧ Aside0 (kq ≤ k) ∧ Aside0 (Below w.heap.size w wc))
  case first =>
    have H := HC6.out
    clear HC6
    by_cases c8 : (l0.length : Int) = 0
    · rw [if_pos c8] at H
      have c8b0 : ((l0.length : Int) == 0) = true := beq_iff_eq.mpr c8
      have c8b1 : ((l0.length : Int) != 0) = false := bne_eq_false_iff_eq.mpr c8
      clear c8
      (first | rw [c8b0] | (simp only [i64_w, i32_w]; rw [c8b0]) | skip)
      have H' := Aside0.mk H
      clear H
      go_wp2
      go_meet
      case rel => exact ⟨_, (true), (by first | rfl | (simp; done) | (simp [*]; done)), (by first | exact H' | (subst_vars; exact H')), ⟨by first | omega | exact Nat.le_refl _⟩, ⟨by repeat (first | (with_reducible first | exact HB.out | apply below_alloc | apply pw_below_drewN | apply below_drew1) | exact HB.out)⟩⟩
    · rw [if_neg c8] at H
      have c8b0 : ((l0.length : Int) == 0) = false := beq_eq_false_iff_ne.mpr c8
      have c8b1 : ((l0.length : Int) != 0) = true := bne_iff_ne.mpr c8
      have c8b2 : ¬ (l0 = []) := fun h_ => c8 (by rw [h_]; rfl)
      (first | rw [c8b0] | (simp only [i64_w, i32_w]; rw [c8b0]) | skip)
      by_cases c9 : (l0.length : Int) > 40
      · rw [if_pos c9] at H
        have c9b0 : decide (40 < (l0.length : Int)) = true := decide_eq_true c9
        have c9b1 : decide (40 < l0.length) = true := decide_eq_true (by omega)
        clear c9
        have H' := Aside0.mk H
        clear H
        go_wp2
        go_meet
        case rel => exact ⟨_, (true), (by first | rfl | (simp; done) | (simp [*]; done)), (by first | exact H' | (subst_vars; exact H')), ⟨by first | omega | exact Nat.le_refl _⟩, ⟨by repeat (first | (with_reducible first | exact HB.out | apply below_alloc | apply pw_below_drewN | apply below_drew1) | exact HB.out)⟩⟩
      · rw [if_neg c9] at H
        have c9b0 : decide (40 < (l0.length : Int)) = false := decide_eq_false c9
        have c9b1 : decide (40 < l0.length) = false := decide_eq_false (by omega)
        clear c9
        by_cases c10 : (l1.length : Int) > 15
        · rw [if_pos c10] at H
          have c10b0 : decide (15 < (l1.length : Int)) = true := decide_eq_true c10
          have c10b1 : decide (15 < l1.length) = true := decide_eq_true (by omega)
          clear c10
          have H' := Aside0.mk H
          clear H
          go_wp2
          go_meet
          case rel => exact ⟨_, (true), (by first | rfl | (simp; done) | (simp [*]; done)), (by first | exact H' | (subst_vars; exact H')), ⟨by first | omega | exact Nat.le_refl _⟩, ⟨by repeat (first | (with_reducible first | exact HB.out | apply below_alloc | apply pw_below_drewN | apply below_drew1) | exact HB.out)⟩⟩
        · rw [if_neg c10] at H
          have c10b0 : decide (15 < (l1.length : Int)) = false := decide_eq_false c10
          have c10b1 : decide (15 < l1.length) = false := decide_eq_false (by omega)
          clear c10
          have H' := Aside0.mk H
          clear H
          go_wp2
          go_meet
          case rel => exact ⟨_, (decide ((l2.length : Int) > 15)), (by first | rfl | (simp; done) | (simp [*]; done)), (by first | exact H' | (subst_vars; exact H')), ⟨by first | omega | exact Nat.le_refl _⟩, ⟨by repeat (first | (with_reducible first | exact HB.out | apply below_alloc | apply pw_below_drewN | apply below_drew1) | exact HB.out)⟩⟩
  case rest =>
    clear HC6
    try clear c1
    try clear c2
    try clear p2
    try clear c8
    try clear c8b0
    try clear c8b1
    try clear c8b2
    try clear c9
    try clear c9b0
    try clear c9b1
    try clear c10
    try clear c10b0
    try clear c10b1
    obtain ⟨kq, x38_5, rfl, HA, HJ5, HB⟩ := hcut
    cases kq with
    | zero => exact absurd HA.out (by simp [lockfastlaw12_RedoApart.j0])
    | succ kj5 =>
      have H := HA.out
      clear HA
      simp only [lockfastlaw12_RedoApart.j0] at H
      by_cases c11 : x38_5 = true
      · subst c11
        have H1 : (some t168) = some r := by rw [if_pos rfl] at H; exact H
        clear H
        have H := H1
        clear H1
        obtain rfl := Option.some.inj H
        simp only [Option.some.injEq, Prod.mk.injEq] at H
        obtain ⟨rfl⟩ := H
        go_wp2
        all_goals go_ret
        all_goals exact ⟨by first | rfl | (simp [errW_none, errW_some] <;> rfl) | (simp [*, errW_none, errW_some] <;> rfl), by repeat (first | (with_reducible first | exact HB.out | apply below_alloc | apply pw_below_drewN | apply below_drew1) | exact HB.out)⟩
      · replace c11 := Bool.eq_false_iff.mpr c11
        subst c11
        have H1 : (lockfastlaw12_RedoApart.l0 kj5 l0 l1 l2 t168 (wrap64 (1 + (wrap64 (Int.tmod a3 63)))) ([] : List (S38)) ([] : List (S38)) ([] : List (S38)) 0) = some r := by rw [if_neg (show ¬ (false = true) by decide)] at H; exact H
        clear H
        have H := H1
        clear H1
        have H' := Aside0.mk H
        clear H
        go_wp2
        go_loopg [11, 12, 13, 14] kj5 (fun kq v11 v12 v13 v14 w' => ∃ (x11_2 : List (S38)) (x12_2 : List (S38)) (x13_2 : List (S38)) (x14_2 : Int), v14 = .int .i64 x14_2 ∧ Aside0 (lockfastlaw12_RedoApart.l0 kq l0 l1 l2 t168 (wrap64 (1 + (wrap64 (Int.tmod a3 63)))) x11_2 x12_2 x13_2 x14_2 = some r) ∧ Aside0 (kq ≤ kj5) ∧ Aside0 (Kd.R k38 38 w' w.heap.size (fun k_ => some k_ ≠ (v12 : Value).ownBlock ∧ some k_ ≠ (v13 : Value).ownBlock) v11 x11_2) ∧ Aside0 (Kd.R k38 38 w' w.heap.size (fun k_ => some k_ ≠ (v11 : Value).ownBlock ∧ some k_ ≠ (v13 : Value).ownBlock) v12 x12_2) ∧ Aside0 (Kd.R k38 38 w' w.heap.size (fun k_ => some k_ ≠ (v11 : Value).ownBlock ∧ some k_ ≠ (v12 : Value).ownBlock) v13 x13_2) ∧ Aside0 (Below w.heap.size w w'))
        case atStart => exact ⟨(([] : List (S38))), (([] : List (S38))), (([] : List (S38))), (0), (by first | rfl | (simp; done) | (simp [*]; done)), H', ⟨Nat.le_refl _⟩, ⟨by first | exact Kd.R_nil _ _ _ _ _ | exact Kd.N_nil _ _ _ _ _ | exact Kd.V_nil _ _ _ _ _ | exact Kd.Q_nil _ _ _ _ _ | exact Kd.S_nil _ _ _ _ _⟩, ⟨by first | exact Kd.R_nil _ _ _ _ _ | exact Kd.N_nil _ _ _ _ _ | exact Kd.V_nil _ _ _ _ _ | exact Kd.Q_nil _ _ _ _ _ | exact Kd.S_nil _ _ _ _ _⟩, ⟨by first | exact Kd.R_nil _ _ _ _ _ | exact Kd.N_nil _ _ _ _ _ | exact Kd.V_nil _ _ _ _ _ | exact Kd.Q_nil _ _ _ _ _ | exact Kd.S_nil _ _ _ _ _⟩, ⟨by repeat (first | (with_reducible first | exact HB.out | apply below_alloc | apply pw_below_drewN | apply below_drew1) | exact HB.out)⟩⟩
        case round =>
          clear H'
          try clear c1
          try clear c2
          try clear p2
          try clear p6
          try clear c8
          try clear c8b0
          try clear c8b1
          try clear c8b2
          try clear c9
          try clear c9b0
          try clear c9b1
          try clear c10
          try clear c10b0
          try clear c10b1
          try clear c11
          try clear p2
          obtain ⟨x11_2, x12_2, x13_2, x14_2, rfl, HA, HK2, HO_11, HO_12, HO_13, HB⟩ := hrel
          cases gk with
          | zero => exact absurd HA.out (by simp [lockfastlaw12_RedoApart.l0])
          | succ k2 =>
            have H := HA.out
            clear HA
            simp only [lockfastlaw12_RedoApart.l0] at H
            have HC12 := Aside0.mk H
            clear H
            go_upto_region 7 with (fail)
            go_cut [53] (fun v53 wc => ∃ (kq : Nat) (x53_11 : Bool), v53 = .bool x53_11 ∧ Aside0 (lockfastlaw12_RedoApart.j2 kq l0 l1 l2 t168 (wrap64 (1 + (wrap64 (Int.tmod a3 63)))) x11_2 x12_2 x13_2 x14_2 x53_11 = some r) ∧ Aside0 (kq ≤ k2) ∧ Aside0 (Kd.R k38 38 wc w.heap.size (fun k_ => some k_ ≠ (u12 : Value).ownBlock ∧ some k_ ≠ (u13 : Value).ownBlock) u11 x11_2) ∧ Aside0 (Kd.R k38 38 wc w.heap.size (fun k_ => some k_ ≠ (u11 : Value).ownBlock ∧ some k_ ≠ (u13 : Value).ownBlock) u12 x12_2) ∧ Aside0 (Kd.R k38 38 wc w.heap.size (fun k_ => some k_ ≠ (u11 : Value).ownBlock ∧ some k_ ≠ (u12 : Value).ownBlock) u13 x13_2) ∧ Aside0 (Below w.heap.size w wc))
            case first =>
              have H := HC12.out
              clear HC12
              by_cases c13 : x14_2 < (l1.length : Int)
              · rw [if_pos c13] at H
                have c13b0 : decide (x14_2 < (l1.length : Int)) = true := decide_eq_true c13
                clear c13
                (first | rw [c13b0] | (simp only [i64_w, i32_w]; rw [c13b0]) | skip)
                have H' := Aside0.mk H
                clear H
                go_wp2
                go_meet
                case rel => exact ⟨_, (true), (by first | rfl | (simp; done) | (simp [*]; done)), (by first | exact H' | (subst_vars; exact H')), ⟨by have := HJ5.out; have := HK2.out; first | omega | exact Nat.le_refl _⟩, ⟨by (with_reducible repeat (first | apply Kd.R_alloc | apply Kd.R_drewN | apply Kd.R_drew)); exact HO_11.out⟩, ⟨by (with_reducible repeat (first | apply Kd.R_alloc | apply Kd.R_drewN | apply Kd.R_drew)); exact HO_12.out⟩, ⟨by (with_reducible repeat (first | apply Kd.R_alloc | apply Kd.R_drewN | apply Kd.R_drew)); exact HO_13.out⟩, ⟨by repeat (first | (with_reducible first | exact HB.out | apply below_alloc | apply pw_below_drewN | apply below_drew1) | exact HB.out)⟩⟩
              · rw [if_neg c13] at H
                have c13b0 : decide (x14_2 < (l1.length : Int)) = false := decide_eq_false c13
                clear c13
                (first | rw [c13b0] | (simp only [i64_w, i32_w]; rw [c13b0]) | skip)
                have H' := Aside0.mk H
                clear H
                go_wp2
                go_meet
                case rel => exact ⟨_, (decide (x14_2 < (l2.length : Int))), (by first | rfl | (simp; done) | (simp [*]; done)), (by first | exact H' | (subst_vars; exact H')), ⟨by have := HJ5.out; have := HK2.out; first | omega | exact Nat.le_refl _⟩, ⟨by (with_reducible repeat (first | apply Kd.R_alloc | apply Kd.R_drewN | apply Kd.R_drew)); exact HO_11.out⟩, ⟨by (with_reducible repeat (first | apply Kd.R_alloc | apply Kd.R_drewN | apply Kd.R_drew)); exact HO_12.out⟩, ⟨by (with_reducible repeat (first | apply Kd.R_alloc | apply Kd.R_drewN | apply Kd.R_drew)); exact HO_13.out⟩, ⟨by repeat (first | (with_reducible first | exact HB.out | apply below_alloc | apply pw_below_drewN | apply below_drew1) | exact HB.out)⟩⟩
            case rest =>
              clear HC12
              try clear c1
              try clear c2
              try clear p2
              try clear p6
              try clear c8
              try clear c8b0
              try clear c8b1
              try clear c8b2
              try clear c9
              try clear c9b0
              try clear c9b1
              try clear c10
              try clear c10b0
              try clear c10b1
              try clear c11
              try clear c13
              try clear c13b0
              try clear p2
              try clear p6
              obtain ⟨kq, x53_11, rfl, HA, HJ11, HO_11, HO_12, HO_13, HB⟩ := hcut
              cases kq with
              | zero => exact absurd HA.out (by simp [lockfastlaw12_RedoApart.j2])
              | succ kj11 =>
                have H := HA.out
                clear HA
                simp only [lockfastlaw12_RedoApart.j2] at H
                by_cases c14 : x53_11 = true
                · subst c14
                  have H1 : (if x14_2 < (l1.length : Int) then (if 0 ≤ x14_2 then (if (l0.length : Int) = 0 then (none) else (if (wrap64 (1 + (wrap64 (Int.tmod a3 63)))) = 0 then (none) else (if 0 ≤ (Int.tmod (wrap64 (rd l1 x14_2)) (wrap64 (1 + (wrap64 (Int.tmod a3 63))))) then (if (Int.tmod (rd l1 x14_2) 3) = 0 then (if x11_2.length < 5864062014805 then (if x13_2.length < 5864062014805 then (lockfastlaw12_RedoApart.j3 kj11 l0 l1 l2 t168 (wrap64 (1 + (wrap64 (Int.tmod a3 63)))) (x11_2 ++ [(⟨2, Int.tmod (wrap64 (rd l1 x14_2)) (l0.length : Int), Go.bits .xor .u64 IntKind.u64.max (shl .u64 1 (Int.tmod (wrap64 (rd l1 x14_2)) (wrap64 (1 + (wrap64 (Int.tmod a3 63))))))⟩ : S38)]) x12_2 (x13_2 ++ [(⟨2, Int.tmod (wrap64 (rd l1 x14_2)) (l0.length : Int), Go.bits .xor .u64 IntKind.u64.max (shl .u64 1 (Int.tmod (wrap64 (rd l1 x14_2)) (wrap64 (1 + (wrap64 (Int.tmod a3 63))))))⟩ : S38)]) x14_2) else (none)) else (none)) else (if x11_2.length < 5864062014805 then (if x13_2.length < 5864062014805 then (lockfastlaw12_RedoApart.j3 kj11 l0 l1 l2 t168 (wrap64 (1 + (wrap64 (Int.tmod a3 63)))) (x11_2 ++ [(⟨1, Int.tmod (wrap64 (rd l1 x14_2)) (l0.length : Int), shl .u64 1 (Int.tmod (wrap64 (rd l1 x14_2)) (wrap64 (1 + (wrap64 (Int.tmod a3 63)))))⟩ : S38)]) x12_2 (x13_2 ++ [(⟨1, Int.tmod (wrap64 (rd l1 x14_2)) (l0.length : Int), shl .u64 1 (Int.tmod (wrap64 (rd l1 x14_2)) (wrap64 (1 + (wrap64 (Int.tmod a3 63)))))⟩ : S38)]) x14_2) else (none)) else (none))) else (none)))) else (none)) else (lockfastlaw12_RedoApart.j3 kj11 l0 l1 l2 t168 (wrap64 (1 + (wrap64 (Int.tmod a3 63)))) x11_2 x12_2 x13_2 x14_2)) = some r := by rw [if_pos rfl] at H; exact H
                  clear H
                  have H := H1
                  clear H1
                  have HC15 := Aside0.mk H
                  clear H
                  go_upto_if 59 with (fail)
                  go_cut [11, 13] (fun v11 v13 wc => ∃ (kq : Nat) (x11_14 : List (S38)) (x13_14 : List (S38)), Aside0 (lockfastlaw12_RedoApart.j3 kq l0 l1 l2 t168 (wrap64 (1 + (wrap64 (Int.tmod a3 63)))) x11_14 x12_2 x13_14 x14_2 = some r) ∧ Aside0 (kq ≤ kj11) ∧ Aside0 (Kd.R k38 38 wc w.heap.size (fun k_ => some k_ ≠ (u12 : Value).ownBlock ∧ some k_ ≠ (v13 : Value).ownBlock) v11 x11_14) ∧ Aside0 (Kd.R k38 38 wc w.heap.size (fun k_ => some k_ ≠ (v11 : Value).ownBlock ∧ some k_ ≠ (v13 : Value).ownBlock) u12 x12_2) ∧ Aside0 (Kd.R k38 38 wc w.heap.size (fun k_ => some k_ ≠ (v11 : Value).ownBlock ∧ some k_ ≠ (u12 : Value).ownBlock) v13 x13_14) ∧ Aside0 (Below w.heap.size w wc))
                  case first =>
                    have H := HC15.out
                    clear HC15
                    by_cases c16 : x14_2 < (l1.length : Int)
                    · rw [if_pos c16] at H
                      have c16b0 : decide (x14_2 < (l1.length : Int)) = true := decide_eq_true c16
                      clear c16
                      (first | rw [c16b0] | (simp only [i64_w, i32_w]; rw [c16b0]) | skip)
                      by_cases c17 : 0 ≤ x14_2
                      · rw [if_pos c17] at H
                        have c17b0 : decide (0 ≤ x14_2) = true := decide_eq_true c17
                        clear c17
                        by_cases c18 : (l0.length : Int) = 0
                        · rw [if_pos c18] at H
                          exact absurd H (by simp)
                        · rw [if_neg c18] at H
                          have c18b0 : ((l0.length : Int) == 0) = false := beq_eq_false_iff_ne.mpr c18
                          have c18b1 : ((l0.length : Int) != 0) = true := bne_iff_ne.mpr c18
                          have c18b2 : ¬ (l0 = []) := fun h_ => c18 (by rw [h_]; rfl)
                          by_cases c19 : (wrap64 (1 + (wrap64 (Int.tmod a3 63)))) = 0
                          · rw [if_pos c19] at H
                            exact absurd H (by simp)
                          · rw [if_neg c19] at H
                            have c19b0 : ((wrap64 (1 + (wrap64 (Int.tmod a3 63)))) == 0) = false := beq_eq_false_iff_ne.mpr c19
                            have c19b1 : ((wrap64 (1 + (wrap64 (Int.tmod a3 63)))) != 0) = true := bne_iff_ne.mpr c19
                            obtain ⟨ji20, hji20⟩ : ∃ j_ : Int, (Int.tmod (wrap64 (rd l1 x14_2)) (wrap64 (1 + (wrap64 (Int.tmod a3 63))))) = j_ := ⟨_, rfl⟩
                            replace H : (if 0 ≤ (ji20) then (if (Int.tmod (rd l1 x14_2) 3) = 0 then (if x11_2.length < 5864062014805 then (if x13_2.length < 5864062014805 then (lockfastlaw12_RedoApart.j3 kj11 l0 l1 l2 t168 (wrap64 (1 + (wrap64 (Int.tmod a3 63)))) (x11_2 ++ [(⟨2, Int.tmod (wrap64 (rd l1 x14_2)) (l0.length : Int), Go.bits .xor .u64 IntKind.u64.max (shl .u64 1 (ji20))⟩ : S38)]) x12_2 (x13_2 ++ [(⟨2, Int.tmod (wrap64 (rd l1 x14_2)) (l0.length : Int), Go.bits .xor .u64 IntKind.u64.max (shl .u64 1 (ji20))⟩ : S38)]) x14_2) else (none)) else (none)) else (if x11_2.length < 5864062014805 then (if x13_2.length < 5864062014805 then (lockfastlaw12_RedoApart.j3 kj11 l0 l1 l2 t168 (wrap64 (1 + (wrap64 (Int.tmod a3 63)))) (x11_2 ++ [(⟨1, Int.tmod (wrap64 (rd l1 x14_2)) (l0.length : Int), shl .u64 1 (ji20)⟩ : S38)]) x12_2 (x13_2 ++ [(⟨1, Int.tmod (wrap64 (rd l1 x14_2)) (l0.length : Int), shl .u64 1 (ji20)⟩ : S38)]) x14_2) else (none)) else (none))) else (none)) = some r := by first | (rw [hji20] at H; exact H) | (simp only [hji20] at H ⊢; exact H)
                            by_cases c21 : 0 ≤ (ji20)
                            · rw [if_pos c21] at H
                              have c21b0 := eq_true c21
                              have c21b1 : decide (0 ≤ (ji20)) = true := decide_eq_true c21
                              clear c21
                              obtain ⟨ji22, hji22⟩ : ∃ j_ : Int, (shl .u64 1 (ji20)) = j_ := ⟨_, rfl⟩
                              replace H : (if (Int.tmod (rd l1 x14_2) 3) = 0 then (if x11_2.length < 5864062014805 then (if x13_2.length < 5864062014805 then (lockfastlaw12_RedoApart.j3 kj11 l0 l1 l2 t168 (wrap64 (1 + (wrap64 (Int.tmod a3 63)))) (x11_2 ++ [(⟨2, Int.tmod (wrap64 (rd l1 x14_2)) (l0.length : Int), Go.bits .xor .u64 IntKind.u64.max (ji22)⟩ : S38)]) x12_2 (x13_2 ++ [(⟨2, Int.tmod (wrap64 (rd l1 x14_2)) (l0.length : Int), Go.bits .xor .u64 IntKind.u64.max (ji22)⟩ : S38)]) x14_2) else (none)) else (none)) else (if x11_2.length < 5864062014805 then (if x13_2.length < 5864062014805 then (lockfastlaw12_RedoApart.j3 kj11 l0 l1 l2 t168 (wrap64 (1 + (wrap64 (Int.tmod a3 63)))) (x11_2 ++ [(⟨1, Int.tmod (wrap64 (rd l1 x14_2)) (l0.length : Int), ji22⟩ : S38)]) x12_2 (x13_2 ++ [(⟨1, Int.tmod (wrap64 (rd l1 x14_2)) (l0.length : Int), ji22⟩ : S38)]) x14_2) else (none)) else (none))) = some r := by first | (rw [hji22] at H; exact H) | (simp only [hji22] at H ⊢; exact H)
                              have hji22_ : (IntKind.u64.wrap (1 * 2 ^ min (ji20).toNat 64)) = ji22 := hji22
                              have hji22z : (ji20) ≤ 64 → (IntKind.u64.wrap (1 * 2 ^ (ji20).toNat)) = ji22 := shl_small hji22
                              have hji22u : (IntKind.u64.wrap (2 ^ min (ji20).toNat 64)) = ji22 := by have h_ := hji22_; rw [Int.one_mul] at h_; exact h_
                              have hji22v : (ji20) ≤ 64 → (IntKind.u64.wrap (2 ^ (ji20).toNat)) = ji22 := fun hle_ => by have h_ := hji22z hle_; rw [Int.one_mul] at h_; exact h_
                              by_cases c23 : (Int.tmod (rd l1 x14_2) 3) = 0
                              · rw [if_pos c23] at H
                                have c23b0 : ((Int.tmod (rd l1 x14_2) 3) == 0) = true := beq_iff_eq.mpr c23
                                have c23b1 : ((Int.tmod (rd l1 x14_2) 3) != 0) = false := bne_eq_false_iff_eq.mpr c23
                                clear c23
                                by_cases c24 : x11_2.length < 5864062014805
                                · rw [if_pos c24] at H
                                  have LMc24 := Aside0.mk c24
                                  clear c24
                                  obtain ⟨y173, hy173⟩ : ∃ y_ : List (S38), y_ = (x11_2 ++ [(⟨2, Int.tmod (wrap64 (rd l1 x14_2)) (l0.length : Int), Go.bits .xor .u64 IntKind.u64.max (ji22)⟩ : S38)]) := ⟨_, rfl⟩
                                  replace H : (if x13_2.length < 5864062014805 then (lockfastlaw12_RedoApart.j3 kj11 l0 l1 l2 t168 (wrap64 (1 + (wrap64 (Int.tmod a3 63)))) y173 x12_2 (x13_2 ++ [(⟨2, Int.tmod (wrap64 (rd l1 x14_2)) (l0.length : Int), Go.bits .xor .u64 IntKind.u64.max (ji22)⟩ : S38)]) x14_2) else (none)) = some r := by first | (rw [hy173]; with_reducible exact H) | (have H2_ := (Option.bind_some _ _).symm.trans H; rw [hy173]; with_reducible exact H2_) | (have H2_ := (Option.bind_some _ _).symm.trans H; with_reducible exact H2_) | with_reducible exact H | (rw [hy173]; exact H) | exact H
                                  have Ny173 := Aside0.mk hy173
                                  clear hy173
                                  by_cases c25 : x13_2.length < 5864062014805
                                  · rw [if_pos c25] at H
                                    have LMc25 := Aside0.mk c25
                                    clear c25
                                    obtain ⟨y176, hy176⟩ : ∃ y_ : List (S38), y_ = (x13_2 ++ [(⟨2, Int.tmod (wrap64 (rd l1 x14_2)) (l0.length : Int), Go.bits .xor .u64 IntKind.u64.max (ji22)⟩ : S38)]) := ⟨_, rfl⟩
                                    replace H : (lockfastlaw12_RedoApart.j3 kj11 l0 l1 l2 t168 (wrap64 (1 + (wrap64 (Int.tmod a3 63)))) y173 x12_2 y176 x14_2) = some r := by first | (rw [hy176]; with_reducible exact H) | (have H2_ := (Option.bind_some _ _).symm.trans H; rw [hy176]; with_reducible exact H2_) | (have H2_ := (Option.bind_some _ _).symm.trans H; with_reducible exact H2_) | with_reducible exact H | (rw [hy176]; exact H) | exact H
                                    have Ny176 := Aside0.mk hy176
                                    clear hy176
                                    have H' := Aside0.mk H
                                    clear H
                                    try go_wp2
                                    have n0_ := Aside0.mk (Kd.R_drew HO_11.out)
                                    have n1_ := Aside0.mk (Kd.R_drew HO_12.out)
                                    have n2_ := Aside0.mk (Kd.R_drew HO_13.out)
                                    have n3_ := Aside0.mk (below_drew1 HB.out)
                                    clear HO_11
                                    clear HO_12
                                    clear HO_13
                                    clear HB
                                    have HO_11 := n0_
                                    have HO_12 := n1_
                                    have HO_13 := n2_
                                    have HB := n3_
                                    clear n0_ n1_ n2_ n3_
                                    have p169 : 0 ≤ (x14_2 : Int) := of_decide_eq_true (by first | (with_reducible assumption) | assumption)
                                    have q169 : x14_2 < (l1.length : Int) := of_decide_eq_true (by first | (with_reducible assumption) | assumption)
                                    obtain ⟨ad169, e169, hx169_0⟩ := Kd.at_int HR1.out x14_2 p169 q169
                                    have hw169_0 := hx169_0
                                    cases e169
                                    replace hx169_0 := (HB.out.cell (World.block_lt_of_cell? w _ hx169_0)).trans hx169_0
                                    replace p169 := eq_true p169
                                    replace q169 := eq_true q169
                                    have p170 : 0 ≤ (x14_2 : Int) := of_decide_eq_true (by first | (with_reducible assumption) | assumption)
                                    have q170 : x14_2 < (l1.length : Int) := of_decide_eq_true (by first | (with_reducible assumption) | assumption)
                                    obtain ⟨ad170, e170, hx170_0⟩ := Kd.at_int HR1.out x14_2 p170 q170
                                    have hw170_0 := hx170_0
                                    obtain rfl : ad169 = ad170 := (by injection e170)
                                    replace hx170_0 := (HB.out.cell (World.block_lt_of_cell? w _ hx170_0)).trans hx170_0
                                    replace p170 := eq_true p170
                                    replace q170 := eq_true q170
                                    refine start_ (n := 19) (S := fun w' => w'.cell? (ad169.add (x14_2).toNat) = some (.int .u8 (rd l1 x14_2)) ∧ w'.cell? (ad169.add (x14_2).toNat) = some (.int .u8 (rd l1 x14_2))) (ds := []) #[false, false, false, false, false, false, false, false, false, false, false, false, false, false, false, false, false, false, false] (by kernel_rfl) rfl rfl ⟨((HB.out.cell (World.block_lt_of_cell? w _ hw169_0)).trans hw169_0), ((HB.out.cell (World.block_lt_of_cell? w _ hw170_0)).trans hw170_0)⟩ (fun hHeld => ?_); refine with_tabW lockfastlaw12_RedoApart.tab10 lockfastlaw12_RedoApart.bits10 (fun HT_ HW_ => ?_)
                                    generalize wc.drew = w26 at HO_11 HO_12 HO_13 HB hx169_0 hx170_0 hHeld ⊢
                                    refine pure_ (i := 0) (N := some 60) (v := ?_) (a' := ?_) #[true, false, false, false, false, false, false, false, false, false, false, false, false, false, false, false, false, false, false] rfl rfl (any_of HT_.out (by kernel_rfl)) (fun _ _ _ h => h) (Or.inl ⟨by rfl, ?_⟩) ?_ ?_
                                    rotate_left
                                    · intro w'
                                      go_simp
                                      with_reducible rfl
                                    rotate_left
                                    · simp only [Act.put, List.setIfInBounds_toArray, List.set_cons_zero, List.set_cons_succ, i64_w, i32_w]
                                      rfl
                                    refine pure_ (i := 1) (N := some 61) (v := ?_) (a' := ?_) #[true, true, false, false, false, false, false, false, false, false, false, false, false, false, false, false, false, false, false] rfl rfl (any_of HT_.out (by kernel_rfl)) (fun _ _ _ h => h) (Or.inl ⟨by rfl, ?_⟩) ?_ ?_
                                    rotate_left
                                    · intro w'
                                      go_simp
                                      with_reducible rfl
                                    rotate_left
                                    · simp only [Act.put, List.setIfInBounds_toArray, List.set_cons_zero, List.set_cons_succ, i64_w, i32_w]
                                      rfl
                                    refine pure_ (i := 2) (N := some 62) (v := ?_) (a' := ?_) #[true, true, true, false, false, false, false, false, false, false, false, false, false, false, false, false, false, false, false] rfl rfl (any_of HT_.out (by kernel_rfl)) (fun _ _ _ h => h) (Or.inl ⟨by rfl, ?_⟩) ?_ ?_
                                    rotate_left
                                    · intro w'
                                      go_simp
                                      with_reducible rfl
                                    rotate_left
                                    · simp only [Act.put, List.setIfInBounds_toArray, List.set_cons_zero, List.set_cons_succ, i64_w, i32_w]
                                      rfl
                                    refine pure_ (i := 5) (N := some 65) (v := ?_) (a' := ?_) #[true, true, true, false, false, true, false, false, false, false, false, false, false, false, false, false, false, false, false] rfl rfl (any_of HT_.out (by kernel_rfl)) (fun _ _ _ h => h) (Or.inl ⟨by rfl, ?_⟩) ?_ ?_
                                    rotate_left
                                    · intro w'
                                      go_simp
                                      with_reducible rfl
                                    rotate_left
                                    · simp only [Act.put, List.setIfInBounds_toArray, List.set_cons_zero, List.set_cons_succ, i64_w, i32_w]
                                      rfl
                                    refine pure_ (i := 6) (N := some 66) (v := ?_) (a' := ?_) #[true, true, true, false, false, true, true, false, false, false, false, false, false, false, false, false, false, false, false] rfl rfl (any_of HT_.out (by kernel_rfl)) (fun _ _ _ h => h) (Or.inl ⟨by rfl, ?_⟩) ?_ ?_
                                    rotate_left
                                    · intro w'
                                      go_simp
                                      with_reducible rfl
                                    rotate_left
                                    · simp only [Act.put, List.setIfInBounds_toArray, List.set_cons_zero, List.set_cons_succ, i64_w, i32_w]
                                      rfl
                                    refine pure_ (i := 8) (N := some 68) (v := ?_) (a' := ?_) #[true, true, true, false, false, true, true, false, true, false, false, false, false, false, false, false, false, false, false] rfl rfl (any_of HT_.out (by kernel_rfl)) (fun _ _ _ h => h) (Or.inl ⟨by rfl, ?_⟩) ?_ ?_
                                    rotate_left
                                    · intro w'
                                      go_simp
                                      with_reducible rfl
                                    rotate_left
                                    · simp only [Act.put, List.setIfInBounds_toArray, List.set_cons_zero, List.set_cons_succ, i64_w, i32_w]
                                      rfl
                                    refine pure_ (i := 9) (N := some 69) (v := ?_) (a' := ?_) #[true, true, true, false, false, true, true, false, true, true, false, false, false, false, false, false, false, false, false] rfl rfl (any_of HT_.out (by kernel_rfl)) (fun _ _ _ h => h) (Or.inl ⟨by rfl, ?_⟩) ?_ ?_
                                    rotate_left
                                    · intro w'
                                      go_simp
                                      with_reducible rfl
                                    rotate_left
                                    · simp only [Act.put, List.setIfInBounds_toArray, List.set_cons_zero, List.set_cons_succ, i64_w, i32_w]
                                      rfl
                                    refine pure_ (i := 10) (N := some 70) (v := ?_) (a' := ?_) #[true, true, true, false, false, true, true, false, true, true, true, false, false, false, false, false, false, false, false] rfl rfl (any_of HT_.out (by kernel_rfl)) (fun _ _ _ h => h) (Or.inl ⟨by rfl, ?_⟩) ?_ ?_
                                    rotate_left
                                    · intro w'
                                      go_simp
                                      with_reducible rfl
                                    rotate_left
                                    · simp only [Act.put, List.setIfInBounds_toArray, List.set_cons_zero, List.set_cons_succ, i64_w, i32_w]
                                      rfl
                                    refine pure_ (i := 13) (N := some 73) (v := ?_) (a' := ?_) #[true, true, true, false, false, true, true, false, true, true, true, false, false, true, false, false, false, false, false] rfl rfl (any_of HT_.out (by kernel_rfl)) (fun _ _ _ h => h) (Or.inl ⟨by rfl, ?_⟩) ?_ ?_
                                    rotate_left
                                    · intro w'
                                      go_simp
                                      with_reducible rfl
                                    rotate_left
                                    · simp only [Act.put, List.setIfInBounds_toArray, List.set_cons_zero, List.set_cons_succ, i64_w, i32_w]
                                      rfl
                                    refine take_ (i := 3) (N := some 63) (v := ?_) (a' := ?_) #[true, true, true, true, false, true, true, false, true, true, true, false, false, true, false, false, false, false, false] rfl rfl (take_ofW HT_.out HW_.out (by kernel_rfl)) (fun _ _ _ h => h) (Or.inl ⟨by rfl, ?_⟩) hHeld ?_ ?_
                                    rotate_left
                                    · rintro w' ⟨s0, s1⟩
                                      go_simp
                                      with_reducible rfl
                                    rotate_left
                                    · simp only [Act.put, List.setIfInBounds_toArray, List.set_cons_zero, List.set_cons_succ, i64_w, i32_w]
                                      rfl
                                    refine pure_ (i := 4) (N := some 64) (v := ?_) (a' := ?_) #[true, true, true, true, true, true, true, false, true, true, true, false, false, true, false, false, false, false, false] rfl rfl (any_of HT_.out (by kernel_rfl)) (fun _ _ _ h => h) (Or.inl ⟨by rfl, ?_⟩) ?_ ?_
                                    rotate_left
                                    · intro w'
                                      go_simp
                                      with_reducible rfl
                                    rotate_left
                                    · simp only [Act.put, List.setIfInBounds_toArray, List.set_cons_zero, List.set_cons_succ, i64_w, i32_w]
                                      rfl
                                    refine pure_ (i := 7) (N := some 67) (v := ?_) (a' := ?_) #[true, true, true, true, true, true, true, true, true, true, true, false, false, true, false, false, false, false, false] rfl rfl (any_of HT_.out (by kernel_rfl)) (fun _ _ _ h => h) (Or.inl ⟨by rfl, ?_⟩) ?_ ?_
                                    rotate_left
                                    · intro w'
                                      go_simp
                                      with_reducible rfl
                                    rotate_left
                                    · simp only [Act.put, List.setIfInBounds_toArray, List.set_cons_zero, List.set_cons_succ, i64_w, i32_w]
                                      rfl
                                    refine take_ (i := 11) (N := some 71) (v := ?_) (a' := ?_) #[true, true, true, true, true, true, true, true, true, true, true, true, false, true, false, false, false, false, false] rfl rfl (take_ofW HT_.out HW_.out (by kernel_rfl)) (fun _ _ _ h => h) (Or.inl ⟨by rfl, ?_⟩) hHeld ?_ ?_
                                    rotate_left
                                    · rintro w' ⟨s0, s1⟩
                                      go_simp
                                      with_reducible rfl
                                    rotate_left
                                    · simp only [Act.put, List.setIfInBounds_toArray, List.set_cons_zero, List.set_cons_succ, i64_w, i32_w]
                                      rfl
                                    refine pure_ (i := 12) (N := some 72) (v := ?_) (a' := ?_) #[true, true, true, true, true, true, true, true, true, true, true, true, true, true, false, false, false, false, false] rfl rfl (any_of HT_.out (by kernel_rfl)) (fun _ _ _ h => h) (Or.inl ⟨by rfl, ?_⟩) ?_ ?_
                                    rotate_left
                                    · intro w'
                                      go_simp
                                      with_reducible rfl
                                    rotate_left
                                    · simp only [Act.put, List.setIfInBounds_toArray, List.set_cons_zero, List.set_cons_succ, i64_w, i32_w]
                                      rfl
                                    refine pure_ (i := 14) (N := some 74) (v := ?_) (a' := ?_) #[true, true, true, true, true, true, true, true, true, true, true, true, true, true, true, false, false, false, false] rfl rfl (any_of HT_.out (by kernel_rfl)) (fun _ _ _ h => h) (Or.inl ⟨by rfl, ?_⟩) ?_ ?_
                                    rotate_left
                                    · intro w'
                                      go_simp
                                      with_reducible rfl
                                    rotate_left
                                    · simp only [Act.put, List.setIfInBounds_toArray, List.set_cons_zero, List.set_cons_succ, i64_w, i32_w]
                                      rfl
                                    refine pure_ (i := 15) (N := some 75) (v := ?_) (a' := ?_) #[true, true, true, true, true, true, true, true, true, true, true, true, true, true, true, true, false, false, false] rfl rfl (any_of HT_.out (by kernel_rfl)) (fun _ _ _ h => h) (Or.inl ⟨by rfl, ?_⟩) ?_ ?_
                                    rotate_left
                                    · intro w'
                                      go_simp
                                      with_reducible rfl
                                    rotate_left
                                    · simp only [Act.put, List.setIfInBounds_toArray, List.set_cons_zero, List.set_cons_succ, i64_w, i32_w]
                                      rfl
                                    refine pure_ (i := 16) (N := some 76) (v := ?_) (a' := ?_) #[true, true, true, true, true, true, true, true, true, true, true, true, true, true, true, true, true, false, false] rfl rfl (any_of HT_.out (by kernel_rfl)) (fun _ _ _ h => h) (Or.inl ⟨by rfl, ?_⟩) ?_ ?_
                                    rotate_left
                                    · intro w'
                                      go_simp
                                      with_reducible rfl
                                    rotate_left
                                    · simp only [Act.put, List.setIfInBounds_toArray, List.set_cons_zero, List.set_cons_succ, i64_w, i32_w]
                                      rfl
                                    refine one_ (i := 17) (N := some 15) #[true, true, true, true, true, true, true, true, true, true, true, true, true, true, true, true, true, true, false] rfl rfl (one_of HT_.out (by kernel_rfl)) (by decide) (fun K hK => ?_)
                                    refine box_step ?hg (N := 15) ?hd (cs := #[.int .i64 0, .int .i64 0, .int .u64 0]) (t := 38) ?hr ?_; (case hd => rfl); (case hg => rfl); (case hr => first | (go_simp; done) | (go_simp; rfl))
                                    intro gb171 hg w27 hbox hb
                                    have n0_ := Aside0.mk (Kd.R_below (Kd.R_elderB (by (with_reducible repeat (first | apply Kd.R_alloc | apply Kd.R_drewN | apply Kd.R_drew)); exact HO_11.out) gb171 (Nat.le_of_eq hg.symm)) hb)
                                    have n1_ := Aside0.mk (Kd.R_below (Kd.R_elderB (by (with_reducible repeat (first | apply Kd.R_alloc | apply Kd.R_drewN | apply Kd.R_drew)); exact HO_12.out) gb171 (Nat.le_of_eq hg.symm)) hb)
                                    have n2_ := Aside0.mk (Kd.R_below (Kd.R_elderB (by (with_reducible repeat (first | apply Kd.R_alloc | apply Kd.R_drewN | apply Kd.R_drew)); exact HO_13.out) gb171 (Nat.le_of_eq hg.symm)) hb)
                                    have n3_ := Aside0.mk (below_step (by repeat (first | (with_reducible first | exact HB.out | apply below_alloc | apply pw_below_drewN | apply below_drew1) | exact HB.out)) hb)
                                    have n4_ := Aside0.mk (hbox)
                                    have n5_ := Aside0.mk ((by rw [hg]; exact (below_size (by repeat (first | (with_reducible first | exact HB.out | apply below_alloc | apply pw_below_drewN | apply below_drew1) | exact HB.out))) : w.heap.size ≤ gb171))
                                    have n6_ := Aside0.mk ((by rw [hg]; exact (below_size (by repeat (first | (with_reducible first | exact HB.out | apply below_alloc | apply pw_below_drewN | apply below_drew1) | exact HB.out))) : w.heap.size ≤ gb171))
                                    clear HO_11
                                    clear HO_12
                                    clear HO_13
                                    clear HB
                                    have HO_11 := n0_
                                    have HO_12 := n1_
                                    have HO_13 := n2_
                                    have HB := n3_
                                    have BK171 := n4_
                                    have GW171 := n5_
                                    have GE171 := n6_
                                    clear n0_ n1_ n2_ n3_ n4_ n5_ n6_
                                    clear hb hbox hg
                                    refine hK.out _ _ ⟨((HB.out.cell (World.block_lt_of_cell? w _ hw169_0)).trans hw169_0), ((HB.out.cell (World.block_lt_of_cell? w _ hw170_0)).trans hw170_0)⟩ (fun hHeld => ?_)
                                    clear hK K
                                    refine norm_ (a' := ?_) ?_ ?_
                                    rotate_left
                                    · show Act.put _ (some 15) _ = _
                                      simp only [Act.put, List.setIfInBounds_toArray, List.set_cons_zero, List.set_cons_succ, i64_w, i32_w]
                                      rfl
                                    refine one_ (i := 18) (N := none) #[true, true, true, true, true, true, true, true, true, true, true, true, true, true, true, true, true, true, true] rfl rfl (one_of HT_.out (by kernel_rfl)) (by decide) (fun K hK => ?_)
                                    have hs28 : w27.cell? ⟨gb171, 0, none⟩ = some (.int .i64 0) := (blk_cell BK171.out 0).trans rfl
                                    have hfs28 := blk_frozen BK171.out 0
                                    have hs29 : w27.cell? ⟨gb171, 1, none⟩ = some (.int .i64 0) := (blk_cell BK171.out 1).trans rfl
                                    have hfs29 := blk_frozen BK171.out 1
                                    have hs30 : w27.cell? ⟨gb171, 2, none⟩ = some (.int .u64 0) := (blk_cell BK171.out 2).trans rfl
                                    have hfs30 := blk_frozen BK171.out 2
                                    refine skip_ (w1 := ?_) (by rfl) rfl ?_ ?_
                                    rotate_left
                                    · go_simp
                                      rfl
                                    refine hK.out _ _ ⟨((cell_far (p := ⟨gb171, _, none⟩) (by first | exact Nat.ne_of_lt (Nat.lt_of_lt_of_le (by have := World.block_lt_of_cell? _ _ hw169_0; first | rwa [add_block] at this | exact this) GW171.out) | (rw [add_block]; exact Nat.ne_of_lt (Nat.lt_of_lt_of_le (by have := World.block_lt_of_cell? _ _ hw169_0; first | rwa [add_block] at this | exact this) GW171.out)) | (show (Addr.add _ _).block ≠ _; rw [add_block]; exact Nat.ne_of_lt (Nat.lt_of_lt_of_le (by have := World.block_lt_of_cell? _ _ hw169_0; first | rwa [add_block] at this | exact this) GW171.out)) | (dsimp only; exact Nat.ne_of_lt (Nat.lt_of_lt_of_le (by have := World.block_lt_of_cell? _ _ hw169_0; first | rwa [add_block] at this | exact this) GW171.out))) _).trans (((cell_far (p := ⟨gb171, _, none⟩) (by first | exact Nat.ne_of_lt (Nat.lt_of_lt_of_le (by have := World.block_lt_of_cell? _ _ hw169_0; first | rwa [add_block] at this | exact this) GW171.out) | (rw [add_block]; exact Nat.ne_of_lt (Nat.lt_of_lt_of_le (by have := World.block_lt_of_cell? _ _ hw169_0; first | rwa [add_block] at this | exact this) GW171.out)) | (show (Addr.add _ _).block ≠ _; rw [add_block]; exact Nat.ne_of_lt (Nat.lt_of_lt_of_le (by have := World.block_lt_of_cell? _ _ hw169_0; first | rwa [add_block] at this | exact this) GW171.out)) | (dsimp only; exact Nat.ne_of_lt (Nat.lt_of_lt_of_le (by have := World.block_lt_of_cell? _ _ hw169_0; first | rwa [add_block] at this | exact this) GW171.out))) _).trans (((cell_far (p := ⟨gb171, _, none⟩) (by first | exact Nat.ne_of_lt (Nat.lt_of_lt_of_le (by have := World.block_lt_of_cell? _ _ hw169_0; first | rwa [add_block] at this | exact this) GW171.out) | (rw [add_block]; exact Nat.ne_of_lt (Nat.lt_of_lt_of_le (by have := World.block_lt_of_cell? _ _ hw169_0; first | rwa [add_block] at this | exact this) GW171.out)) | (show (Addr.add _ _).block ≠ _; rw [add_block]; exact Nat.ne_of_lt (Nat.lt_of_lt_of_le (by have := World.block_lt_of_cell? _ _ hw169_0; first | rwa [add_block] at this | exact this) GW171.out)) | (dsimp only; exact Nat.ne_of_lt (Nat.lt_of_lt_of_le (by have := World.block_lt_of_cell? _ _ hw169_0; first | rwa [add_block] at this | exact this) GW171.out))) _).trans (hHeld.1)))))), ((cell_far (p := ⟨gb171, _, none⟩) (by first | exact Nat.ne_of_lt (Nat.lt_of_lt_of_le (by have := World.block_lt_of_cell? _ _ hw170_0; first | rwa [add_block] at this | exact this) GW171.out) | (rw [add_block]; exact Nat.ne_of_lt (Nat.lt_of_lt_of_le (by have := World.block_lt_of_cell? _ _ hw170_0; first | rwa [add_block] at this | exact this) GW171.out)) | (show (Addr.add _ _).block ≠ _; rw [add_block]; exact Nat.ne_of_lt (Nat.lt_of_lt_of_le (by have := World.block_lt_of_cell? _ _ hw170_0; first | rwa [add_block] at this | exact this) GW171.out)) | (dsimp only; exact Nat.ne_of_lt (Nat.lt_of_lt_of_le (by have := World.block_lt_of_cell? _ _ hw170_0; first | rwa [add_block] at this | exact this) GW171.out))) _).trans (((cell_far (p := ⟨gb171, _, none⟩) (by first | exact Nat.ne_of_lt (Nat.lt_of_lt_of_le (by have := World.block_lt_of_cell? _ _ hw170_0; first | rwa [add_block] at this | exact this) GW171.out) | (rw [add_block]; exact Nat.ne_of_lt (Nat.lt_of_lt_of_le (by have := World.block_lt_of_cell? _ _ hw170_0; first | rwa [add_block] at this | exact this) GW171.out)) | (show (Addr.add _ _).block ≠ _; rw [add_block]; exact Nat.ne_of_lt (Nat.lt_of_lt_of_le (by have := World.block_lt_of_cell? _ _ hw170_0; first | rwa [add_block] at this | exact this) GW171.out)) | (dsimp only; exact Nat.ne_of_lt (Nat.lt_of_lt_of_le (by have := World.block_lt_of_cell? _ _ hw170_0; first | rwa [add_block] at this | exact this) GW171.out))) _).trans (((cell_far (p := ⟨gb171, _, none⟩) (by first | exact Nat.ne_of_lt (Nat.lt_of_lt_of_le (by have := World.block_lt_of_cell? _ _ hw170_0; first | rwa [add_block] at this | exact this) GW171.out) | (rw [add_block]; exact Nat.ne_of_lt (Nat.lt_of_lt_of_le (by have := World.block_lt_of_cell? _ _ hw170_0; first | rwa [add_block] at this | exact this) GW171.out)) | (show (Addr.add _ _).block ≠ _; rw [add_block]; exact Nat.ne_of_lt (Nat.lt_of_lt_of_le (by have := World.block_lt_of_cell? _ _ hw170_0; first | rwa [add_block] at this | exact this) GW171.out)) | (dsimp only; exact Nat.ne_of_lt (Nat.lt_of_lt_of_le (by have := World.block_lt_of_cell? _ _ hw170_0; first | rwa [add_block] at this | exact this) GW171.out))) _).trans (hHeld.2))))))⟩ (fun hHeld => ?_)
                                    clear hK K
                                    refine done_ (done_of HT_.out (by kernel_rfl)) ?_
                                    have p172 : 0 ≤ (x14_2 : Int) := of_decide_eq_true (by first | (with_reducible assumption) | assumption)
                                    have q172 : x14_2 < (l1.length : Int) := of_decide_eq_true (by first | (with_reducible assumption) | assumption)
                                    obtain ⟨ad172, e172, hx172_0⟩ := Kd.at_int HR1.out x14_2 p172 q172
                                    obtain rfl : ad169 = ad172 := (by injection e172)
                                    have hn172_0 : ad169.block ≠ gb171 := Nat.ne_of_lt (Nat.lt_of_lt_of_le (by have := World.block_lt_of_cell? _ _ hx172_0; first | rwa [add_block] at this | exact this) GW171.out)
                                    have hn172_1 : ad169.block ≠ gb171 := Nat.ne_of_lt (Nat.lt_of_lt_of_le (by have := World.block_lt_of_cell? _ _ hx172_0; first | rwa [add_block] at this | exact this) GW171.out)
                                    have hn172_2 : ad169.block ≠ gb171 := Nat.ne_of_lt (Nat.lt_of_lt_of_le (by have := World.block_lt_of_cell? _ _ hx172_0; first | rwa [add_block] at this | exact this) GW171.out)
                                    replace hx172_0 := (HB.out.cell (World.block_lt_of_cell? w _ hx172_0)).trans hx172_0
                                    replace hx172_0 := (cell_far (p := ⟨gb171, 0, none⟩) (by first | (rw [add_block]; exact hn172_0) | (show (Addr.add _ _).block ≠ _; rw [add_block]; exact hn172_0) | exact hn172_0) (.int .i64 1)).trans hx172_0
                                    replace hx172_0 := (cell_far (p := ⟨gb171, 1, none⟩) (by first | (rw [add_block]; exact hn172_1) | (show (Addr.add _ _).block ≠ _; rw [add_block]; exact hn172_1) | exact hn172_1) (.int .i64 (Int.tmod (wrap64 (rd l1 x14_2)) (l0.length : Int)))).trans hx172_0
                                    replace hx172_0 := (cell_far (p := ⟨gb171, 2, none⟩) (by first | (rw [add_block]; exact hn172_2) | (show (Addr.add _ _).block ≠ _; rw [add_block]; exact hn172_2) | exact hn172_2) (.int .u64 ji22)).trans hx172_0
                                    clear hn172_0
                                    clear hn172_1
                                    clear hn172_2
                                    replace p172 := eq_true p172
                                    replace q172 := eq_true q172
                                    have n0_ := Aside0.mk (Kd.R_mono (Kd.R_far (p := ⟨gb171, 2, none⟩) (Kd.R_far (p := ⟨gb171, 1, none⟩) (Kd.R_far (p := ⟨gb171, 0, none⟩) (Kd.R_mono HO_11.out (fun k_ hk => (⟨hk, hk.2⟩ : _ ∧ k_ ≠ gb171))) (fun _ hk => hk.2) (.int .i64 1)) (fun _ hk => hk.2) (.int .i64 (Int.tmod (wrap64 (rd l1 x14_2)) (l0.length : Int)))) (fun _ hk => hk.2) (.int .u64 ji22)) (fun _ hk => hk.1))
                                    have n1_ := Aside0.mk (Kd.R_mono (Kd.R_far (p := ⟨gb171, 2, none⟩) (Kd.R_far (p := ⟨gb171, 1, none⟩) (Kd.R_far (p := ⟨gb171, 0, none⟩) (Kd.R_mono HO_12.out (fun k_ hk => (⟨hk, hk.2⟩ : _ ∧ k_ ≠ gb171))) (fun _ hk => hk.2) (.int .i64 1)) (fun _ hk => hk.2) (.int .i64 (Int.tmod (wrap64 (rd l1 x14_2)) (l0.length : Int)))) (fun _ hk => hk.2) (.int .u64 ji22)) (fun _ hk => hk.1))
                                    have n2_ := Aside0.mk (Kd.R_mono (Kd.R_far (p := ⟨gb171, 2, none⟩) (Kd.R_far (p := ⟨gb171, 1, none⟩) (Kd.R_far (p := ⟨gb171, 0, none⟩) (Kd.R_mono HO_13.out (fun k_ hk => (⟨hk, hk.2⟩ : _ ∧ k_ ≠ gb171))) (fun _ hk => hk.2) (.int .i64 1)) (fun _ hk => hk.2) (.int .i64 (Int.tmod (wrap64 (rd l1 x14_2)) (l0.length : Int)))) (fun _ hk => hk.2) (.int .u64 ji22)) (fun _ hk => hk.1))
                                    have n8_ : Aside0 ((((w27.setCell ⟨gb171, 0, none⟩ (.int .i64 1)).setCell ⟨gb171, 1, none⟩ (.int .i64 (Int.tmod (wrap64 (rd l1 x14_2)) (l0.length : Int)))).setCell ⟨gb171, 2, none⟩ (.int .u64 ji22)).heap[gb171]? = some (.cells #[.int .i64 1, .int .i64 (Int.tmod (wrap64 (rd l1 x14_2)) (l0.length : Int)), .int .u64 ji22] 38 (0, 0))) := ⟨by refine blk_put (cs := #[.int .i64 1, .int .i64 (Int.tmod (wrap64 (rd l1 x14_2)) (l0.length : Int)), .int .u64 0]) ?_ 2 _ rfl; refine blk_put (cs := #[.int .i64 1, .int .i64 0, .int .u64 0]) ?_ 1 _ rfl; refine blk_put (cs := #[.int .i64 0, .int .i64 0, .int .u64 0]) ?_ 0 _ rfl; exact BK171.out⟩
                                    have n9_ : Aside0 (Below w.heap.size w (((w27.setCell ⟨gb171, 0, none⟩ (.int .i64 1)).setCell ⟨gb171, 1, none⟩ (.int .i64 (Int.tmod (wrap64 (rd l1 x14_2)) (l0.length : Int)))).setCell ⟨gb171, 2, none⟩ (.int .u64 ji22))) := ⟨below_set (below_set (below_set HB.out GE171.out) GE171.out) GE171.out⟩
                                    clear HO_11 HO_12 HO_13 BK171 HB
                                    generalize (((w27.setCell ⟨gb171, 0, none⟩ (.int .i64 1)).setCell ⟨gb171, 1, none⟩ (.int .i64 (Int.tmod (wrap64 (rd l1 x14_2)) (l0.length : Int)))).setCell ⟨gb171, 2, none⟩ (.int .u64 ji22)) = w171_ at hx172_0 n0_ n1_ n2_ n8_ n9_ ⊢
                                    have HO_11 := n0_
                                    have HO_12 := n1_
                                    have HO_13 := n2_
                                    have BK171 := n8_
                                    have HB := n9_
                                    clear n0_ n1_ n2_ n8_ n9_
                                    have hcz31_0 : w171_.cell? ⟨gb171, 0, none⟩ = some (.int .i64 1) := (blk_cell BK171.out 0).trans rfl
                                    have hcz31_1 : w171_.cell? ⟨gb171, 1, none⟩ = some (.int .i64 (Int.tmod (wrap64 (rd l1 x14_2)) (l0.length : Int))) := (blk_cell BK171.out 1).trans rfl
                                    have hcz31_2 : w171_.cell? ⟨gb171, 2, none⟩ = some (.int .u64 ji22) := (blk_cell BK171.out 2).trans rfl
                                    have hfz31_0 := blk_frozen BK171.out 0
                                    have hfz31_1 := blk_frozen BK171.out 1
                                    have hfz31_2 := blk_frozen BK171.out 2
                                    try go_wp2_with (first | ((with_reducible refine gate_builtin (b := .append) (xs := #[.tmp 89, .tmp 91]) rfl ?_); (try (refine gate_guard (by rfl) ?_; dsimp only)); at_builtin; refine Kd.R_append k38 (w0 := w) w.heap.size rfl (.tmp 89) (.tmp 91) 22 38 (.agg #[(.int .i64 0), (.int .i64 0), (.int .u64 0)]) 24 rfl Try.underlying22 info38 rfl (by decide) (by omega) u11 x11_2 (⟨2, Int.tmod (wrap64 (rd l1 x14_2)) (l0.length : Int), Go.bits .xor .u64 IntKind.u64.max (ji22)⟩ : S38) [.int .i64 2, .int .i64 (Int.tmod (wrap64 (rd l1 x14_2)) (l0.length : Int)), .int .u64 (Go.bits .xor .u64 IntKind.u64.max (ji22))] (fun k_ => some k_ ≠ (u12 : Value).ownBlock ∧ some k_ ≠ (u13 : Value).ownBlock ∧ k_ ≠ gb171) (fun _ => False) rfl (by first | (go_simp; done) | (go_simp; rfl)) ?aP (fun _ hk => hk.elim) ?aF ?aO ?aB ?aS ?aL ?_; (case aP => exact k38_mkM _ _ _ (⟨2, Int.tmod (wrap64 (rd l1 x14_2)) (l0.length : Int), Go.bits .xor .u64 IntKind.u64.max (ji22)⟩ : S38)); (case aB => exact (by repeat (first | (with_reducible first | exact HB.out | apply below_alloc | apply pw_below_drewN | apply below_drew1 | refine below_set ?_ GE171.out) | exact HB.out))); (case aF => exact (fun k_ hk => ⟨Kd.fresh' (Kd.R_lt (by (with_reducible repeat (first | apply Kd.R_alloc | apply Kd.R_drewN | apply Kd.R_drew)); exact (Kd.R_mono (Kd.R_far (p := ⟨gb171, 2, none⟩) (Kd.R_far (p := ⟨gb171, 1, none⟩) (Kd.R_far (p := ⟨gb171, 0, none⟩) (Kd.R_mono HO_12.out (fun k_ hk => (⟨hk, hk.2⟩ : _ ∧ k_ ≠ gb171))) (fun _ hk => hk.2) (.int .i64 2)) (fun _ hk => hk.2) (.int .i64 (Int.tmod (wrap64 (rd l1 x14_2)) (l0.length : Int)))) (fun _ hk => hk.2) (.int .u64 (Go.bits .xor .u64 IntKind.u64.max (ji22)))) (fun _ h_ => h_.1)))) k_ hk, Kd.fresh' (Kd.R_lt (by (with_reducible repeat (first | apply Kd.R_alloc | apply Kd.R_drewN | apply Kd.R_drew)); exact (Kd.R_mono (Kd.R_far (p := ⟨gb171, 2, none⟩) (Kd.R_far (p := ⟨gb171, 1, none⟩) (Kd.R_far (p := ⟨gb171, 0, none⟩) (Kd.R_mono HO_13.out (fun k_ hk => (⟨hk, hk.2⟩ : _ ∧ k_ ≠ gb171))) (fun _ hk => hk.2) (.int .i64 2)) (fun _ hk => hk.2) (.int .i64 (Int.tmod (wrap64 (rd l1 x14_2)) (l0.length : Int)))) (fun _ hk => hk.2) (.int .u64 (Go.bits .xor .u64 IntKind.u64.max (ji22)))) (fun _ h_ => h_.1)))) k_ hk, Kd.freshB (g := gb171) (o := .cells #[.int .i64 2, .int .i64 (Int.tmod (wrap64 (rd l1 x14_2)) (l0.length : Int)), .int .u64 (Go.bits .xor .u64 IntKind.u64.max (ji22))] 38 (0, 0)) (by (with_reducible repeat (first | refine blk_drewN ?_ _ | refine blk_drew ?_ | refine blk_alloc ?_ _)); refine blk_put (cs := #[.int .i64 2, .int .i64 (Int.tmod (wrap64 (rd l1 x14_2)) (l0.length : Int)), .int .u64 ji22]) ?_ 2 _ rfl; (with_reducible repeat (first | refine blk_drewN ?_ _ | refine blk_drew ?_ | refine blk_alloc ?_ _)); refine blk_put (cs := #[.int .i64 2, .int .i64 (Int.tmod (wrap64 (rd l1 x14_2)) (l0.length : Int)), .int .u64 ji22]) ?_ 1 _ rfl; (with_reducible repeat (first | refine blk_drewN ?_ _ | refine blk_drew ?_ | refine blk_alloc ?_ _)); refine blk_put (cs := #[.int .i64 1, .int .i64 (Int.tmod (wrap64 (rd l1 x14_2)) (l0.length : Int)), .int .u64 ji22]) ?_ 0 _ rfl; (with_reducible repeat (first | refine blk_drewN ?_ _ | refine blk_drew ?_ | refine blk_alloc ?_ _)); exact BK171.out) k_ hk⟩)); (case aO => exact (by (with_reducible repeat (first | apply Kd.R_alloc | apply Kd.R_drewN | apply Kd.R_drew)); exact Kd.R_mono (Kd.R_far (p := ⟨gb171, 2, none⟩) (Kd.R_far (p := ⟨gb171, 1, none⟩) (Kd.R_far (p := ⟨gb171, 0, none⟩) (Kd.R_mono HO_11.out (fun k_ hk => (⟨hk, hk.2⟩ : _ ∧ k_ ≠ gb171))) (fun _ hk => hk.2) (.int .i64 2)) (fun _ hk => hk.2) (.int .i64 (Int.tmod (wrap64 (rd l1 x14_2)) (l0.length : Int)))) (fun _ hk => hk.2) (.int .u64 (Go.bits .xor .u64 IntKind.u64.max (ji22)))) (fun _ hk => ⟨hk.1.1.1, ⟨hk.1.1.2, hk.1.2⟩⟩))); (case aS => exact (below_size (by repeat (first | (with_reducible first | exact HB.out | apply below_alloc | apply pw_below_drewN | apply below_drew1 | refine below_set ?_ GE171.out) | exact HB.out)))); (case aL => have := LMc24.out; omega); intro v174 w32 ho hb hg hat; rw [← Ny173.out] at ho; have n0_ := Aside0.mk (Kd.R_after (ok := (fun k_ => some k_ ≠ (u13 : Value).ownBlock ∧ k_ ≠ gb171)) (by (with_reducible repeat (first | apply Kd.R_alloc | apply Kd.R_drewN | apply Kd.R_drew)); exact Kd.R_mono (Kd.R_far (p := ⟨gb171, 2, none⟩) (Kd.R_far (p := ⟨gb171, 1, none⟩) (Kd.R_far (p := ⟨gb171, 0, none⟩) (Kd.R_mono HO_12.out (fun k_ hk => (⟨hk, hk.2⟩ : _ ∧ k_ ≠ gb171))) (fun _ hk => hk.2) (.int .i64 2)) (fun _ hk => hk.2) (.int .i64 (Int.tmod (wrap64 (rd l1 x14_2)) (l0.length : Int)))) (fun _ hk => hk.2) (.int .u64 (Go.bits .xor .u64 IntKind.u64.max (ji22)))) (fun _ hk => ⟨⟨hk.1.1.2, hk.1.2⟩, hk.1.1.1⟩)) hg hat); have n1_ := Aside0.mk (Kd.R_after (ok := (fun k_ => some k_ ≠ (u12 : Value).ownBlock ∧ k_ ≠ gb171)) (by (with_reducible repeat (first | apply Kd.R_alloc | apply Kd.R_drewN | apply Kd.R_drew)); exact Kd.R_mono (Kd.R_far (p := ⟨gb171, 2, none⟩) (Kd.R_far (p := ⟨gb171, 1, none⟩) (Kd.R_far (p := ⟨gb171, 0, none⟩) (Kd.R_mono HO_13.out (fun k_ hk => (⟨hk, hk.2⟩ : _ ∧ k_ ≠ gb171))) (fun _ hk => hk.2) (.int .i64 2)) (fun _ hk => hk.2) (.int .i64 (Int.tmod (wrap64 (rd l1 x14_2)) (l0.length : Int)))) (fun _ hk => hk.2) (.int .u64 (Go.bits .xor .u64 IntKind.u64.max (ji22)))) (fun _ hk => ⟨⟨hk.1.1.2, hk.1.2⟩, hk.1.1.1⟩)) hg hat); have n2_ := Aside0.mk (blk_grown (g := gb171) (o := .cells #[.int .i64 2, .int .i64 (Int.tmod (wrap64 (rd l1 x14_2)) (l0.length : Int)), .int .u64 (Go.bits .xor .u64 IntKind.u64.max (ji22))] 38 (0, 0)) (by (with_reducible repeat (first | refine blk_drewN ?_ _ | refine blk_drew ?_ | refine blk_alloc ?_ _)); refine blk_put (cs := #[.int .i64 2, .int .i64 (Int.tmod (wrap64 (rd l1 x14_2)) (l0.length : Int)), .int .u64 ji22]) ?_ 2 _ rfl; (with_reducible repeat (first | refine blk_drewN ?_ _ | refine blk_drew ?_ | refine blk_alloc ?_ _)); refine blk_put (cs := #[.int .i64 2, .int .i64 (Int.tmod (wrap64 (rd l1 x14_2)) (l0.length : Int)), .int .u64 ji22]) ?_ 1 _ rfl; (with_reducible repeat (first | refine blk_drewN ?_ _ | refine blk_drew ?_ | refine blk_alloc ?_ _)); refine blk_put (cs := #[.int .i64 1, .int .i64 (Int.tmod (wrap64 (rd l1 x14_2)) (l0.length : Int)), .int .u64 ji22]) ?_ 0 _ rfl; (with_reducible repeat (first | refine blk_drewN ?_ _ | refine blk_drew ?_ | refine blk_alloc ?_ _)); exact BK171.out) hg (Kd.R_away HO_11.out (fun _ hk => hk.2))); have n3_ := Aside0.mk (hb); have n4_ := Aside0.mk (ho); clear HO_12; clear HO_13; clear BK171; clear HB; clear HO_11; have HO_12 := n0_; have HO_13 := n1_; have BK171 := n2_; have HB := n3_; have HO175 := n4_; clear n0_ n1_ n2_ n3_ n4_; clear ho hb hg hat; have hcz33_0 : w32.cell? ⟨gb171, 0, none⟩ = some (.int .i64 2) := (blk_cell BK171.out 0).trans rfl; have hcz33_1 : w32.cell? ⟨gb171, 1, none⟩ = some (.int .i64 (Int.tmod (wrap64 (rd l1 x14_2)) (l0.length : Int))) := (blk_cell BK171.out 1).trans rfl; have hcz33_2 : w32.cell? ⟨gb171, 2, none⟩ = some (.int .u64 (Go.bits .xor .u64 IntKind.u64.max (ji22))) := (blk_cell BK171.out 2).trans rfl; have hfz33_0 := blk_frozen BK171.out 0; have hfz33_1 := blk_frozen BK171.out 1; have hfz33_2 := blk_frozen BK171.out 2) | ((with_reducible refine gate_builtin (b := .append) (xs := #[.tmp 93, .tmp 95]) rfl ?_); (try (refine gate_guard (by rfl) ?_; dsimp only)); at_builtin; refine Kd.R_append k38 (w0 := w) w.heap.size rfl (.tmp 93) (.tmp 95) 22 38 (.agg #[(.int .i64 0), (.int .i64 0), (.int .u64 0)]) 24 rfl Try.underlying22 info38 rfl (by decide) (by omega) u13 x13_2 (⟨2, Int.tmod (wrap64 (rd l1 x14_2)) (l0.length : Int), Go.bits .xor .u64 IntKind.u64.max (ji22)⟩ : S38) [.int .i64 2, .int .i64 (Int.tmod (wrap64 (rd l1 x14_2)) (l0.length : Int)), .int .u64 (Go.bits .xor .u64 IntKind.u64.max (ji22))] (fun k_ => some k_ ≠ (u12 : Value).ownBlock ∧ some k_ ≠ (v174 : Value).ownBlock ∧ k_ ≠ gb171) (fun _ => False) rfl rfl ?aP (fun _ hk => hk.elim) ?aF ?aO ?aB ?aS ?aL ?_; (case aP => exact k38_mkM _ _ _ (⟨2, Int.tmod (wrap64 (rd l1 x14_2)) (l0.length : Int), Go.bits .xor .u64 IntKind.u64.max (ji22)⟩ : S38)); (case aB => exact (by repeat (first | (with_reducible first | exact HB.out | apply below_alloc | apply pw_below_drewN | apply below_drew1 | refine below_set ?_ GE171.out) | exact HB.out))); (case aF => exact (fun k_ hk => ⟨Kd.fresh' (Kd.R_lt (by (with_reducible repeat (first | apply Kd.R_alloc | apply Kd.R_drewN | apply Kd.R_drew)); exact HO_12.out)) k_ hk, Kd.fresh' (Kd.R_lt (by (with_reducible repeat (first | apply Kd.R_alloc | apply Kd.R_drewN | apply Kd.R_drew)); exact HO175.out)) k_ hk, Kd.freshB (g := gb171) (o := .cells #[.int .i64 2, .int .i64 (Int.tmod (wrap64 (rd l1 x14_2)) (l0.length : Int)), .int .u64 (Go.bits .xor .u64 IntKind.u64.max (ji22))] 38 (0, 0)) (by (with_reducible repeat (first | refine blk_drewN ?_ _ | refine blk_drew ?_ | refine blk_alloc ?_ _)); exact BK171.out) k_ hk⟩)); (case aO => exact (by (with_reducible repeat (first | apply Kd.R_alloc | apply Kd.R_drewN | apply Kd.R_drew)); exact Kd.R_mono HO_13.out (fun _ hk => ⟨hk.1.1, ⟨hk.2, hk.1.2⟩⟩))); (case aS => exact (below_size (by repeat (first | (with_reducible first | exact HB.out | apply below_alloc | apply pw_below_drewN | apply below_drew1 | refine below_set ?_ GE171.out) | exact HB.out)))); (case aL => have := LMc25.out; omega); intro v177 w34 ho hb hg hat; rw [← Ny176.out] at ho; have n0_ := Aside0.mk (Kd.R_after (ok := (fun k_ => some k_ ≠ (v174 : Value).ownBlock ∧ k_ ≠ gb171)) (by (with_reducible repeat (first | apply Kd.R_alloc | apply Kd.R_drewN | apply Kd.R_drew)); exact Kd.R_mono HO_12.out (fun _ hk => ⟨⟨hk.2, hk.1.2⟩, hk.1.1⟩)) hg hat); have n1_ := Aside0.mk (blk_grown (g := gb171) (o := .cells #[.int .i64 2, .int .i64 (Int.tmod (wrap64 (rd l1 x14_2)) (l0.length : Int)), .int .u64 (Go.bits .xor .u64 IntKind.u64.max (ji22))] 38 (0, 0)) (by (with_reducible repeat (first | refine blk_drewN ?_ _ | refine blk_drew ?_ | refine blk_alloc ?_ _)); exact BK171.out) hg (Kd.R_away HO_13.out (fun _ hk => hk.1.2))); have n2_ := Aside0.mk (Kd.R_after (ok := (fun k_ => some k_ ≠ (u12 : Value).ownBlock ∧ k_ ≠ gb171)) (by (with_reducible repeat (first | apply Kd.R_alloc | apply Kd.R_drewN | apply Kd.R_drew)); exact Kd.R_mono HO175.out (fun _ hk => ⟨⟨hk.1, hk.2.2⟩, hk.2.1⟩)) hg hat); have n3_ := Aside0.mk (hb); have n4_ := Aside0.mk (ho); clear HO_12; clear BK171; clear HO175; clear HB; clear HO_13; have HO_12 := n0_; have BK171 := n1_; have HO175 := n2_; have HB := n3_; have HO178 := n4_; clear n0_ n1_ n2_ n3_ n4_; clear ho hb hg hat))
                                    go_meet
                                    case rel => exact ⟨_, (y173), (y176), (by first | exact H' | (subst_vars; exact H')), ⟨by have := HJ5.out; have := HK2.out; have := HJ11.out; first | omega | exact Nat.le_refl _⟩, ⟨by (with_reducible repeat (first | apply Kd.R_alloc | apply Kd.R_drewN | apply Kd.R_drew)); exact Kd.R_mono HO175.out (fun _ hk => ⟨hk.1.1, hk.2⟩)⟩, ⟨by (with_reducible repeat (first | apply Kd.R_alloc | apply Kd.R_drewN | apply Kd.R_drew)); exact Kd.R_mono HO_12.out (fun _ hk => ⟨hk.1.1, hk.2⟩)⟩, ⟨by (with_reducible repeat (first | apply Kd.R_alloc | apply Kd.R_drewN | apply Kd.R_drew)); exact Kd.R_mono HO178.out (fun _ hk => ⟨hk.2.1, hk.1⟩)⟩, ⟨by repeat (first | (with_reducible first | exact HB.out | apply below_alloc | apply pw_below_drewN | apply below_drew1 | refine below_set ?_ GE171.out) | exact HB.out)⟩⟩
                                  · rw [if_neg c25] at H
                                    exact absurd H (by simp)
                                · rw [if_neg c24] at H
                                  exact absurd H (by simp)
                              · rw [if_neg c23] at H
                                have c23b0 : ((Int.tmod (rd l1 x14_2) 3) == 0) = false := beq_eq_false_iff_ne.mpr c23
                                have c23b1 : ((Int.tmod (rd l1 x14_2) 3) != 0) = true := bne_iff_ne.mpr c23
                                by_cases c35 : x11_2.length < 5864062014805
                                · rw [if_pos c35] at H
                                  have LMc35 := Aside0.mk c35
                                  clear c35
                                  obtain ⟨y179, hy179⟩ : ∃ y_ : List (S38), y_ = (x11_2 ++ [(⟨1, Int.tmod (wrap64 (rd l1 x14_2)) (l0.length : Int), ji22⟩ : S38)]) := ⟨_, rfl⟩
                                  replace H : (if x13_2.length < 5864062014805 then (lockfastlaw12_RedoApart.j3 kj11 l0 l1 l2 t168 (wrap64 (1 + (wrap64 (Int.tmod a3 63)))) y179 x12_2 (x13_2 ++ [(⟨1, Int.tmod (wrap64 (rd l1 x14_2)) (l0.length : Int), ji22⟩ : S38)]) x14_2) else (none)) = some r := by first | (rw [hy179]; with_reducible exact H) | (have H2_ := (Option.bind_some _ _).symm.trans H; rw [hy179]; with_reducible exact H2_) | (have H2_ := (Option.bind_some _ _).symm.trans H; with_reducible exact H2_) | with_reducible exact H | (rw [hy179]; exact H) | exact H
                                  have Ny179 := Aside0.mk hy179
                                  clear hy179
                                  by_cases c36 : x13_2.length < 5864062014805
                                  · rw [if_pos c36] at H
                                    have LMc36 := Aside0.mk c36
                                    clear c36
                                    obtain ⟨y182, hy182⟩ : ∃ y_ : List (S38), y_ = (x13_2 ++ [(⟨1, Int.tmod (wrap64 (rd l1 x14_2)) (l0.length : Int), ji22⟩ : S38)]) := ⟨_, rfl⟩
                                    replace H : (lockfastlaw12_RedoApart.j3 kj11 l0 l1 l2 t168 (wrap64 (1 + (wrap64 (Int.tmod a3 63)))) y179 x12_2 y182 x14_2) = some r := by first | (rw [hy182]; with_reducible exact H) | (have H2_ := (Option.bind_some _ _).symm.trans H; rw [hy182]; with_reducible exact H2_) | (have H2_ := (Option.bind_some _ _).symm.trans H; with_reducible exact H2_) | with_reducible exact H | (rw [hy182]; exact H) | exact H
                                    have Ny182 := Aside0.mk hy182
                                    clear hy182
                                    have H' := Aside0.mk H
                                    clear H
                                    try go_wp2
                                    have n0_ := Aside0.mk (Kd.R_drew HO_11.out)
                                    have n1_ := Aside0.mk (Kd.R_drew HO_12.out)
                                    have n2_ := Aside0.mk (Kd.R_drew HO_13.out)
                                    have n3_ := Aside0.mk (below_drew1 HB.out)
                                    clear HO_11
                                    clear HO_12
                                    clear HO_13
                                    clear HB
                                    have HO_11 := n0_
                                    have HO_12 := n1_
                                    have HO_13 := n2_
                                    have HB := n3_
                                    clear n0_ n1_ n2_ n3_
                                    have p169 : 0 ≤ (x14_2 : Int) := of_decide_eq_true (by first | (with_reducible assumption) | assumption)
                                    have q169 : x14_2 < (l1.length : Int) := of_decide_eq_true (by first | (with_reducible assumption) | assumption)
                                    obtain ⟨ad169, e169, hx169_0⟩ := Kd.at_int HR1.out x14_2 p169 q169
                                    have hw169_0 := hx169_0
                                    cases e169
                                    replace hx169_0 := (HB.out.cell (World.block_lt_of_cell? w _ hx169_0)).trans hx169_0
                                    replace p169 := eq_true p169
                                    replace q169 := eq_true q169
                                    have p170 : 0 ≤ (x14_2 : Int) := of_decide_eq_true (by first | (with_reducible assumption) | assumption)
                                    have q170 : x14_2 < (l1.length : Int) := of_decide_eq_true (by first | (with_reducible assumption) | assumption)
                                    obtain ⟨ad170, e170, hx170_0⟩ := Kd.at_int HR1.out x14_2 p170 q170
                                    have hw170_0 := hx170_0
                                    obtain rfl : ad169 = ad170 := (by injection e170)
                                    replace hx170_0 := (HB.out.cell (World.block_lt_of_cell? w _ hx170_0)).trans hx170_0
                                    replace p170 := eq_true p170
                                    replace q170 := eq_true q170
                                    refine start_ (n := 19) (S := fun w' => w'.cell? (ad169.add (x14_2).toNat) = some (.int .u8 (rd l1 x14_2)) ∧ w'.cell? (ad169.add (x14_2).toNat) = some (.int .u8 (rd l1 x14_2))) (ds := []) #[false, false, false, false, false, false, false, false, false, false, false, false, false, false, false, false, false, false, false] (by kernel_rfl) rfl rfl ⟨((HB.out.cell (World.block_lt_of_cell? w _ hw169_0)).trans hw169_0), ((HB.out.cell (World.block_lt_of_cell? w _ hw170_0)).trans hw170_0)⟩ (fun hHeld => ?_); refine with_tabW lockfastlaw12_RedoApart.tab10 lockfastlaw12_RedoApart.bits10 (fun HT_ HW_ => ?_)
                                    generalize wc.drew = w37 at HO_11 HO_12 HO_13 HB hx169_0 hx170_0 hHeld ⊢
                                    refine pure_ (i := 0) (N := some 60) (v := ?_) (a' := ?_) #[true, false, false, false, false, false, false, false, false, false, false, false, false, false, false, false, false, false, false] rfl rfl (any_of HT_.out (by kernel_rfl)) (fun _ _ _ h => h) (Or.inl ⟨by rfl, ?_⟩) ?_ ?_
                                    rotate_left
                                    · intro w'
                                      go_simp
                                      with_reducible rfl
                                    rotate_left
                                    · simp only [Act.put, List.setIfInBounds_toArray, List.set_cons_zero, List.set_cons_succ, i64_w, i32_w]
                                      rfl
                                    refine pure_ (i := 1) (N := some 61) (v := ?_) (a' := ?_) #[true, true, false, false, false, false, false, false, false, false, false, false, false, false, false, false, false, false, false] rfl rfl (any_of HT_.out (by kernel_rfl)) (fun _ _ _ h => h) (Or.inl ⟨by rfl, ?_⟩) ?_ ?_
                                    rotate_left
                                    · intro w'
                                      go_simp
                                      with_reducible rfl
                                    rotate_left
                                    · simp only [Act.put, List.setIfInBounds_toArray, List.set_cons_zero, List.set_cons_succ, i64_w, i32_w]
                                      rfl
                                    refine pure_ (i := 2) (N := some 62) (v := ?_) (a' := ?_) #[true, true, true, false, false, false, false, false, false, false, false, false, false, false, false, false, false, false, false] rfl rfl (any_of HT_.out (by kernel_rfl)) (fun _ _ _ h => h) (Or.inl ⟨by rfl, ?_⟩) ?_ ?_
                                    rotate_left
                                    · intro w'
                                      go_simp
                                      with_reducible rfl
                                    rotate_left
                                    · simp only [Act.put, List.setIfInBounds_toArray, List.set_cons_zero, List.set_cons_succ, i64_w, i32_w]
                                      rfl
                                    refine pure_ (i := 5) (N := some 65) (v := ?_) (a' := ?_) #[true, true, true, false, false, true, false, false, false, false, false, false, false, false, false, false, false, false, false] rfl rfl (any_of HT_.out (by kernel_rfl)) (fun _ _ _ h => h) (Or.inl ⟨by rfl, ?_⟩) ?_ ?_
                                    rotate_left
                                    · intro w'
                                      go_simp
                                      with_reducible rfl
                                    rotate_left
                                    · simp only [Act.put, List.setIfInBounds_toArray, List.set_cons_zero, List.set_cons_succ, i64_w, i32_w]
                                      rfl
                                    refine pure_ (i := 6) (N := some 66) (v := ?_) (a' := ?_) #[true, true, true, false, false, true, true, false, false, false, false, false, false, false, false, false, false, false, false] rfl rfl (any_of HT_.out (by kernel_rfl)) (fun _ _ _ h => h) (Or.inl ⟨by rfl, ?_⟩) ?_ ?_
                                    rotate_left
                                    · intro w'
                                      go_simp
                                      with_reducible rfl
                                    rotate_left
                                    · simp only [Act.put, List.setIfInBounds_toArray, List.set_cons_zero, List.set_cons_succ, i64_w, i32_w]
                                      rfl
                                    refine pure_ (i := 8) (N := some 68) (v := ?_) (a' := ?_) #[true, true, true, false, false, true, true, false, true, false, false, false, false, false, false, false, false, false, false] rfl rfl (any_of HT_.out (by kernel_rfl)) (fun _ _ _ h => h) (Or.inl ⟨by rfl, ?_⟩) ?_ ?_
                                    rotate_left
                                    · intro w'
                                      go_simp
                                      with_reducible rfl
                                    rotate_left
                                    · simp only [Act.put, List.setIfInBounds_toArray, List.set_cons_zero, List.set_cons_succ, i64_w, i32_w]
                                      rfl
                                    refine pure_ (i := 9) (N := some 69) (v := ?_) (a' := ?_) #[true, true, true, false, false, true, true, false, true, true, false, false, false, false, false, false, false, false, false] rfl rfl (any_of HT_.out (by kernel_rfl)) (fun _ _ _ h => h) (Or.inl ⟨by rfl, ?_⟩) ?_ ?_
                                    rotate_left
                                    · intro w'
                                      go_simp
                                      with_reducible rfl
                                    rotate_left
                                    · simp only [Act.put, List.setIfInBounds_toArray, List.set_cons_zero, List.set_cons_succ, i64_w, i32_w]
                                      rfl
                                    refine pure_ (i := 10) (N := some 70) (v := ?_) (a' := ?_) #[true, true, true, false, false, true, true, false, true, true, true, false, false, false, false, false, false, false, false] rfl rfl (any_of HT_.out (by kernel_rfl)) (fun _ _ _ h => h) (Or.inl ⟨by rfl, ?_⟩) ?_ ?_
                                    rotate_left
                                    · intro w'
                                      go_simp
                                      with_reducible rfl
                                    rotate_left
                                    · simp only [Act.put, List.setIfInBounds_toArray, List.set_cons_zero, List.set_cons_succ, i64_w, i32_w]
                                      rfl
                                    refine pure_ (i := 13) (N := some 73) (v := ?_) (a' := ?_) #[true, true, true, false, false, true, true, false, true, true, true, false, false, true, false, false, false, false, false] rfl rfl (any_of HT_.out (by kernel_rfl)) (fun _ _ _ h => h) (Or.inl ⟨by rfl, ?_⟩) ?_ ?_
                                    rotate_left
                                    · intro w'
                                      go_simp
                                      with_reducible rfl
                                    rotate_left
                                    · simp only [Act.put, List.setIfInBounds_toArray, List.set_cons_zero, List.set_cons_succ, i64_w, i32_w]
                                      rfl
                                    refine take_ (i := 3) (N := some 63) (v := ?_) (a' := ?_) #[true, true, true, true, false, true, true, false, true, true, true, false, false, true, false, false, false, false, false] rfl rfl (take_ofW HT_.out HW_.out (by kernel_rfl)) (fun _ _ _ h => h) (Or.inl ⟨by rfl, ?_⟩) hHeld ?_ ?_
                                    rotate_left
                                    · rintro w' ⟨s0, s1⟩
                                      go_simp
                                      with_reducible rfl
                                    rotate_left
                                    · simp only [Act.put, List.setIfInBounds_toArray, List.set_cons_zero, List.set_cons_succ, i64_w, i32_w]
                                      rfl
                                    refine pure_ (i := 4) (N := some 64) (v := ?_) (a' := ?_) #[true, true, true, true, true, true, true, false, true, true, true, false, false, true, false, false, false, false, false] rfl rfl (any_of HT_.out (by kernel_rfl)) (fun _ _ _ h => h) (Or.inl ⟨by rfl, ?_⟩) ?_ ?_
                                    rotate_left
                                    · intro w'
                                      go_simp
                                      with_reducible rfl
                                    rotate_left
                                    · simp only [Act.put, List.setIfInBounds_toArray, List.set_cons_zero, List.set_cons_succ, i64_w, i32_w]
                                      rfl
                                    refine pure_ (i := 7) (N := some 67) (v := ?_) (a' := ?_) #[true, true, true, true, true, true, true, true, true, true, true, false, false, true, false, false, false, false, false] rfl rfl (any_of HT_.out (by kernel_rfl)) (fun _ _ _ h => h) (Or.inl ⟨by rfl, ?_⟩) ?_ ?_
                                    rotate_left
                                    · intro w'
                                      go_simp
                                      with_reducible rfl
                                    rotate_left
                                    · simp only [Act.put, List.setIfInBounds_toArray, List.set_cons_zero, List.set_cons_succ, i64_w, i32_w]
                                      rfl
                                    refine take_ (i := 11) (N := some 71) (v := ?_) (a' := ?_) #[true, true, true, true, true, true, true, true, true, true, true, true, false, true, false, false, false, false, false] rfl rfl (take_ofW HT_.out HW_.out (by kernel_rfl)) (fun _ _ _ h => h) (Or.inl ⟨by rfl, ?_⟩) hHeld ?_ ?_
                                    rotate_left
                                    · rintro w' ⟨s0, s1⟩
                                      go_simp
                                      with_reducible rfl
                                    rotate_left
                                    · simp only [Act.put, List.setIfInBounds_toArray, List.set_cons_zero, List.set_cons_succ, i64_w, i32_w]
                                      rfl
                                    refine pure_ (i := 12) (N := some 72) (v := ?_) (a' := ?_) #[true, true, true, true, true, true, true, true, true, true, true, true, true, true, false, false, false, false, false] rfl rfl (any_of HT_.out (by kernel_rfl)) (fun _ _ _ h => h) (Or.inl ⟨by rfl, ?_⟩) ?_ ?_
                                    rotate_left
                                    · intro w'
                                      go_simp
                                      with_reducible rfl
                                    rotate_left
                                    · simp only [Act.put, List.setIfInBounds_toArray, List.set_cons_zero, List.set_cons_succ, i64_w, i32_w]
                                      rfl
                                    refine pure_ (i := 14) (N := some 74) (v := ?_) (a' := ?_) #[true, true, true, true, true, true, true, true, true, true, true, true, true, true, true, false, false, false, false] rfl rfl (any_of HT_.out (by kernel_rfl)) (fun _ _ _ h => h) (Or.inl ⟨by rfl, ?_⟩) ?_ ?_
                                    rotate_left
                                    · intro w'
                                      go_simp
                                      with_reducible rfl
                                    rotate_left
                                    · simp only [Act.put, List.setIfInBounds_toArray, List.set_cons_zero, List.set_cons_succ, i64_w, i32_w]
                                      rfl
                                    refine pure_ (i := 15) (N := some 75) (v := ?_) (a' := ?_) #[true, true, true, true, true, true, true, true, true, true, true, true, true, true, true, true, false, false, false] rfl rfl (any_of HT_.out (by kernel_rfl)) (fun _ _ _ h => h) (Or.inl ⟨by rfl, ?_⟩) ?_ ?_
                                    rotate_left
                                    · intro w'
                                      go_simp
                                      with_reducible rfl
                                    rotate_left
                                    · simp only [Act.put, List.setIfInBounds_toArray, List.set_cons_zero, List.set_cons_succ, i64_w, i32_w]
                                      rfl
                                    refine pure_ (i := 16) (N := some 76) (v := ?_) (a' := ?_) #[true, true, true, true, true, true, true, true, true, true, true, true, true, true, true, true, true, false, false] rfl rfl (any_of HT_.out (by kernel_rfl)) (fun _ _ _ h => h) (Or.inl ⟨by rfl, ?_⟩) ?_ ?_
                                    rotate_left
                                    · intro w'
                                      go_simp
                                      with_reducible rfl
                                    rotate_left
                                    · simp only [Act.put, List.setIfInBounds_toArray, List.set_cons_zero, List.set_cons_succ, i64_w, i32_w]
                                      rfl
                                    refine one_ (i := 17) (N := some 15) #[true, true, true, true, true, true, true, true, true, true, true, true, true, true, true, true, true, true, false] rfl rfl (one_of HT_.out (by kernel_rfl)) (by decide) (fun K hK => ?_)
                                    refine box_step ?hg (N := 15) ?hd (cs := #[.int .i64 0, .int .i64 0, .int .u64 0]) (t := 38) ?hr ?_; (case hd => rfl); (case hg => rfl); (case hr => first | (go_simp; done) | (go_simp; rfl))
                                    intro gb171 hg w38 hbox hb
                                    have n0_ := Aside0.mk (Kd.R_below (Kd.R_elderB (by (with_reducible repeat (first | apply Kd.R_alloc | apply Kd.R_drewN | apply Kd.R_drew)); exact HO_11.out) gb171 (Nat.le_of_eq hg.symm)) hb)
                                    have n1_ := Aside0.mk (Kd.R_below (Kd.R_elderB (by (with_reducible repeat (first | apply Kd.R_alloc | apply Kd.R_drewN | apply Kd.R_drew)); exact HO_12.out) gb171 (Nat.le_of_eq hg.symm)) hb)
                                    have n2_ := Aside0.mk (Kd.R_below (Kd.R_elderB (by (with_reducible repeat (first | apply Kd.R_alloc | apply Kd.R_drewN | apply Kd.R_drew)); exact HO_13.out) gb171 (Nat.le_of_eq hg.symm)) hb)
                                    have n3_ := Aside0.mk (below_step (by repeat (first | (with_reducible first | exact HB.out | apply below_alloc | apply pw_below_drewN | apply below_drew1) | exact HB.out)) hb)
                                    have n4_ := Aside0.mk (hbox)
                                    have n5_ := Aside0.mk ((by rw [hg]; exact (below_size (by repeat (first | (with_reducible first | exact HB.out | apply below_alloc | apply pw_below_drewN | apply below_drew1) | exact HB.out))) : w.heap.size ≤ gb171))
                                    have n6_ := Aside0.mk ((by rw [hg]; exact (below_size (by repeat (first | (with_reducible first | exact HB.out | apply below_alloc | apply pw_below_drewN | apply below_drew1) | exact HB.out))) : w.heap.size ≤ gb171))
                                    clear HO_11
                                    clear HO_12
                                    clear HO_13
                                    clear HB
                                    have HO_11 := n0_
                                    have HO_12 := n1_
                                    have HO_13 := n2_
                                    have HB := n3_
                                    have BK171 := n4_
                                    have GW171 := n5_
                                    have GE171 := n6_
                                    clear n0_ n1_ n2_ n3_ n4_ n5_ n6_
                                    clear hb hbox hg
                                    refine hK.out _ _ ⟨((HB.out.cell (World.block_lt_of_cell? w _ hw169_0)).trans hw169_0), ((HB.out.cell (World.block_lt_of_cell? w _ hw170_0)).trans hw170_0)⟩ (fun hHeld => ?_)
                                    clear hK K
                                    refine norm_ (a' := ?_) ?_ ?_
                                    rotate_left
                                    · show Act.put _ (some 15) _ = _
                                      simp only [Act.put, List.setIfInBounds_toArray, List.set_cons_zero, List.set_cons_succ, i64_w, i32_w]
                                      rfl
                                    refine one_ (i := 18) (N := none) #[true, true, true, true, true, true, true, true, true, true, true, true, true, true, true, true, true, true, true] rfl rfl (one_of HT_.out (by kernel_rfl)) (by decide) (fun K hK => ?_)
                                    have hs39 : w38.cell? ⟨gb171, 0, none⟩ = some (.int .i64 0) := (blk_cell BK171.out 0).trans rfl
                                    have hfs39 := blk_frozen BK171.out 0
                                    have hs40 : w38.cell? ⟨gb171, 1, none⟩ = some (.int .i64 0) := (blk_cell BK171.out 1).trans rfl
                                    have hfs40 := blk_frozen BK171.out 1
                                    have hs41 : w38.cell? ⟨gb171, 2, none⟩ = some (.int .u64 0) := (blk_cell BK171.out 2).trans rfl
                                    have hfs41 := blk_frozen BK171.out 2
                                    refine skip_ (w1 := ?_) (by rfl) rfl ?_ ?_
                                    rotate_left
                                    · go_simp
                                      rfl
                                    refine hK.out _ _ ⟨((cell_far (p := ⟨gb171, _, none⟩) (by first | exact Nat.ne_of_lt (Nat.lt_of_lt_of_le (by have := World.block_lt_of_cell? _ _ hw169_0; first | rwa [add_block] at this | exact this) GW171.out) | (rw [add_block]; exact Nat.ne_of_lt (Nat.lt_of_lt_of_le (by have := World.block_lt_of_cell? _ _ hw169_0; first | rwa [add_block] at this | exact this) GW171.out)) | (show (Addr.add _ _).block ≠ _; rw [add_block]; exact Nat.ne_of_lt (Nat.lt_of_lt_of_le (by have := World.block_lt_of_cell? _ _ hw169_0; first | rwa [add_block] at this | exact this) GW171.out)) | (dsimp only; exact Nat.ne_of_lt (Nat.lt_of_lt_of_le (by have := World.block_lt_of_cell? _ _ hw169_0; first | rwa [add_block] at this | exact this) GW171.out))) _).trans (((cell_far (p := ⟨gb171, _, none⟩) (by first | exact Nat.ne_of_lt (Nat.lt_of_lt_of_le (by have := World.block_lt_of_cell? _ _ hw169_0; first | rwa [add_block] at this | exact this) GW171.out) | (rw [add_block]; exact Nat.ne_of_lt (Nat.lt_of_lt_of_le (by have := World.block_lt_of_cell? _ _ hw169_0; first | rwa [add_block] at this | exact this) GW171.out)) | (show (Addr.add _ _).block ≠ _; rw [add_block]; exact Nat.ne_of_lt (Nat.lt_of_lt_of_le (by have := World.block_lt_of_cell? _ _ hw169_0; first | rwa [add_block] at this | exact this) GW171.out)) | (dsimp only; exact Nat.ne_of_lt (Nat.lt_of_lt_of_le (by have := World.block_lt_of_cell? _ _ hw169_0; first | rwa [add_block] at this | exact this) GW171.out))) _).trans (((cell_far (p := ⟨gb171, _, none⟩) (by first | exact Nat.ne_of_lt (Nat.lt_of_lt_of_le (by have := World.block_lt_of_cell? _ _ hw169_0; first | rwa [add_block] at this | exact this) GW171.out) | (rw [add_block]; exact Nat.ne_of_lt (Nat.lt_of_lt_of_le (by have := World.block_lt_of_cell? _ _ hw169_0; first | rwa [add_block] at this | exact this) GW171.out)) | (show (Addr.add _ _).block ≠ _; rw [add_block]; exact Nat.ne_of_lt (Nat.lt_of_lt_of_le (by have := World.block_lt_of_cell? _ _ hw169_0; first | rwa [add_block] at this | exact this) GW171.out)) | (dsimp only; exact Nat.ne_of_lt (Nat.lt_of_lt_of_le (by have := World.block_lt_of_cell? _ _ hw169_0; first | rwa [add_block] at this | exact this) GW171.out))) _).trans (hHeld.1)))))), ((cell_far (p := ⟨gb171, _, none⟩) (by first | exact Nat.ne_of_lt (Nat.lt_of_lt_of_le (by have := World.block_lt_of_cell? _ _ hw170_0; first | rwa [add_block] at this | exact this) GW171.out) | (rw [add_block]; exact Nat.ne_of_lt (Nat.lt_of_lt_of_le (by have := World.block_lt_of_cell? _ _ hw170_0; first | rwa [add_block] at this | exact this) GW171.out)) | (show (Addr.add _ _).block ≠ _; rw [add_block]; exact Nat.ne_of_lt (Nat.lt_of_lt_of_le (by have := World.block_lt_of_cell? _ _ hw170_0; first | rwa [add_block] at this | exact this) GW171.out)) | (dsimp only; exact Nat.ne_of_lt (Nat.lt_of_lt_of_le (by have := World.block_lt_of_cell? _ _ hw170_0; first | rwa [add_block] at this | exact this) GW171.out))) _).trans (((cell_far (p := ⟨gb171, _, none⟩) (by first | exact Nat.ne_of_lt (Nat.lt_of_lt_of_le (by have := World.block_lt_of_cell? _ _ hw170_0; first | rwa [add_block] at this | exact this) GW171.out) | (rw [add_block]; exact Nat.ne_of_lt (Nat.lt_of_lt_of_le (by have := World.block_lt_of_cell? _ _ hw170_0; first | rwa [add_block] at this | exact this) GW171.out)) | (show (Addr.add _ _).block ≠ _; rw [add_block]; exact Nat.ne_of_lt (Nat.lt_of_lt_of_le (by have := World.block_lt_of_cell? _ _ hw170_0; first | rwa [add_block] at this | exact this) GW171.out)) | (dsimp only; exact Nat.ne_of_lt (Nat.lt_of_lt_of_le (by have := World.block_lt_of_cell? _ _ hw170_0; first | rwa [add_block] at this | exact this) GW171.out))) _).trans (((cell_far (p := ⟨gb171, _, none⟩) (by first | exact Nat.ne_of_lt (Nat.lt_of_lt_of_le (by have := World.block_lt_of_cell? _ _ hw170_0; first | rwa [add_block] at this | exact this) GW171.out) | (rw [add_block]; exact Nat.ne_of_lt (Nat.lt_of_lt_of_le (by have := World.block_lt_of_cell? _ _ hw170_0; first | rwa [add_block] at this | exact this) GW171.out)) | (show (Addr.add _ _).block ≠ _; rw [add_block]; exact Nat.ne_of_lt (Nat.lt_of_lt_of_le (by have := World.block_lt_of_cell? _ _ hw170_0; first | rwa [add_block] at this | exact this) GW171.out)) | (dsimp only; exact Nat.ne_of_lt (Nat.lt_of_lt_of_le (by have := World.block_lt_of_cell? _ _ hw170_0; first | rwa [add_block] at this | exact this) GW171.out))) _).trans (hHeld.2))))))⟩ (fun hHeld => ?_)
                                    clear hK K
                                    refine done_ (done_of HT_.out (by kernel_rfl)) ?_
                                    have p172 : 0 ≤ (x14_2 : Int) := of_decide_eq_true (by first | (with_reducible assumption) | assumption)
                                    have q172 : x14_2 < (l1.length : Int) := of_decide_eq_true (by first | (with_reducible assumption) | assumption)
                                    obtain ⟨ad172, e172, hx172_0⟩ := Kd.at_int HR1.out x14_2 p172 q172
                                    obtain rfl : ad169 = ad172 := (by injection e172)
                                    have hn172_0 : ad169.block ≠ gb171 := Nat.ne_of_lt (Nat.lt_of_lt_of_le (by have := World.block_lt_of_cell? _ _ hx172_0; first | rwa [add_block] at this | exact this) GW171.out)
                                    have hn172_1 : ad169.block ≠ gb171 := Nat.ne_of_lt (Nat.lt_of_lt_of_le (by have := World.block_lt_of_cell? _ _ hx172_0; first | rwa [add_block] at this | exact this) GW171.out)
                                    have hn172_2 : ad169.block ≠ gb171 := Nat.ne_of_lt (Nat.lt_of_lt_of_le (by have := World.block_lt_of_cell? _ _ hx172_0; first | rwa [add_block] at this | exact this) GW171.out)
                                    replace hx172_0 := (HB.out.cell (World.block_lt_of_cell? w _ hx172_0)).trans hx172_0
                                    replace hx172_0 := (cell_far (p := ⟨gb171, 0, none⟩) (by first | (rw [add_block]; exact hn172_0) | (show (Addr.add _ _).block ≠ _; rw [add_block]; exact hn172_0) | exact hn172_0) (.int .i64 1)).trans hx172_0
                                    replace hx172_0 := (cell_far (p := ⟨gb171, 1, none⟩) (by first | (rw [add_block]; exact hn172_1) | (show (Addr.add _ _).block ≠ _; rw [add_block]; exact hn172_1) | exact hn172_1) (.int .i64 (Int.tmod (wrap64 (rd l1 x14_2)) (l0.length : Int)))).trans hx172_0
                                    replace hx172_0 := (cell_far (p := ⟨gb171, 2, none⟩) (by first | (rw [add_block]; exact hn172_2) | (show (Addr.add _ _).block ≠ _; rw [add_block]; exact hn172_2) | exact hn172_2) (.int .u64 ji22)).trans hx172_0
                                    clear hn172_0
                                    clear hn172_1
                                    clear hn172_2
                                    replace p172 := eq_true p172
                                    replace q172 := eq_true q172
                                    have hcz42_0 : w38.cell? ⟨gb171, 0, none⟩ = some (.int .i64 0) := (blk_cell BK171.out 0).trans rfl
                                    have hcz42_1 : w38.cell? ⟨gb171, 1, none⟩ = some (.int .i64 0) := (blk_cell BK171.out 1).trans rfl
                                    have hcz42_2 : w38.cell? ⟨gb171, 2, none⟩ = some (.int .u64 0) := (blk_cell BK171.out 2).trans rfl
                                    have hfz42_0 := blk_frozen BK171.out 0
                                    have hfz42_1 := blk_frozen BK171.out 1
                                    have hfz42_2 := blk_frozen BK171.out 2
                                    try go_wp2_with (first | ((with_reducible refine gate_builtin (b := .append) (xs := #[.tmp 89, .tmp 91]) rfl ?_); (try (refine gate_guard (by rfl) ?_; dsimp only)); at_builtin; refine Kd.R_append k38 (w0 := w) w.heap.size rfl (.tmp 89) (.tmp 91) 22 38 (.agg #[(.int .i64 0), (.int .i64 0), (.int .u64 0)]) 24 rfl Try.underlying22 info38 rfl (by decide) (by omega) u11 x11_2 (⟨1, Int.tmod (wrap64 (rd l1 x14_2)) (l0.length : Int), ji22⟩ : S38) [.int .i64 1, .int .i64 (Int.tmod (wrap64 (rd l1 x14_2)) (l0.length : Int)), .int .u64 ji22] (fun k_ => some k_ ≠ (u12 : Value).ownBlock ∧ some k_ ≠ (u13 : Value).ownBlock ∧ k_ ≠ gb171) (fun _ => False) rfl (by first | (go_simp; done) | (go_simp; rfl)) ?aP (fun _ hk => hk.elim) ?aF ?aO ?aB ?aS ?aL ?_; (case aP => exact k38_mkM _ _ _ (⟨1, Int.tmod (wrap64 (rd l1 x14_2)) (l0.length : Int), ji22⟩ : S38)); (case aB => exact (by repeat (first | (with_reducible first | exact HB.out | apply below_alloc | apply pw_below_drewN | apply below_drew1 | refine below_set ?_ GE171.out) | exact HB.out))); (case aF => exact (fun k_ hk => ⟨Kd.fresh' (Kd.R_lt (by (with_reducible repeat (first | apply Kd.R_alloc | apply Kd.R_drewN | apply Kd.R_drew)); exact (Kd.R_mono (Kd.R_far (p := ⟨gb171, 2, none⟩) (Kd.R_far (p := ⟨gb171, 1, none⟩) (Kd.R_far (p := ⟨gb171, 0, none⟩) (Kd.R_mono HO_12.out (fun k_ hk => (⟨hk, hk.2⟩ : _ ∧ k_ ≠ gb171))) (fun _ hk => hk.2) (.int .i64 1)) (fun _ hk => hk.2) (.int .i64 (Int.tmod (wrap64 (rd l1 x14_2)) (l0.length : Int)))) (fun _ hk => hk.2) (.int .u64 ji22)) (fun _ h_ => h_.1)))) k_ hk, Kd.fresh' (Kd.R_lt (by (with_reducible repeat (first | apply Kd.R_alloc | apply Kd.R_drewN | apply Kd.R_drew)); exact (Kd.R_mono (Kd.R_far (p := ⟨gb171, 2, none⟩) (Kd.R_far (p := ⟨gb171, 1, none⟩) (Kd.R_far (p := ⟨gb171, 0, none⟩) (Kd.R_mono HO_13.out (fun k_ hk => (⟨hk, hk.2⟩ : _ ∧ k_ ≠ gb171))) (fun _ hk => hk.2) (.int .i64 1)) (fun _ hk => hk.2) (.int .i64 (Int.tmod (wrap64 (rd l1 x14_2)) (l0.length : Int)))) (fun _ hk => hk.2) (.int .u64 ji22)) (fun _ h_ => h_.1)))) k_ hk, Kd.freshB (g := gb171) (o := .cells #[.int .i64 1, .int .i64 (Int.tmod (wrap64 (rd l1 x14_2)) (l0.length : Int)), .int .u64 ji22] 38 (0, 0)) (by (with_reducible repeat (first | refine blk_drewN ?_ _ | refine blk_drew ?_ | refine blk_alloc ?_ _)); refine blk_put (cs := #[.int .i64 1, .int .i64 (Int.tmod (wrap64 (rd l1 x14_2)) (l0.length : Int)), .int .u64 0]) ?_ 2 _ rfl; (with_reducible repeat (first | refine blk_drewN ?_ _ | refine blk_drew ?_ | refine blk_alloc ?_ _)); refine blk_put (cs := #[.int .i64 1, .int .i64 0, .int .u64 0]) ?_ 1 _ rfl; (with_reducible repeat (first | refine blk_drewN ?_ _ | refine blk_drew ?_ | refine blk_alloc ?_ _)); refine blk_put (cs := #[.int .i64 0, .int .i64 0, .int .u64 0]) ?_ 0 _ rfl; (with_reducible repeat (first | refine blk_drewN ?_ _ | refine blk_drew ?_ | refine blk_alloc ?_ _)); exact BK171.out) k_ hk⟩)); (case aO => exact (by (with_reducible repeat (first | apply Kd.R_alloc | apply Kd.R_drewN | apply Kd.R_drew)); exact Kd.R_mono (Kd.R_far (p := ⟨gb171, 2, none⟩) (Kd.R_far (p := ⟨gb171, 1, none⟩) (Kd.R_far (p := ⟨gb171, 0, none⟩) (Kd.R_mono HO_11.out (fun k_ hk => (⟨hk, hk.2⟩ : _ ∧ k_ ≠ gb171))) (fun _ hk => hk.2) (.int .i64 1)) (fun _ hk => hk.2) (.int .i64 (Int.tmod (wrap64 (rd l1 x14_2)) (l0.length : Int)))) (fun _ hk => hk.2) (.int .u64 ji22)) (fun _ hk => ⟨hk.1.1.1, ⟨hk.1.1.2, hk.1.2⟩⟩))); (case aS => exact (below_size (by repeat (first | (with_reducible first | exact HB.out | apply below_alloc | apply pw_below_drewN | apply below_drew1 | refine below_set ?_ GE171.out) | exact HB.out)))); (case aL => have := LMc35.out; omega); intro v180 w43 ho hb hg hat; rw [← Ny179.out] at ho; have n0_ := Aside0.mk (Kd.R_after (ok := (fun k_ => some k_ ≠ (u13 : Value).ownBlock ∧ k_ ≠ gb171)) (by (with_reducible repeat (first | apply Kd.R_alloc | apply Kd.R_drewN | apply Kd.R_drew)); exact Kd.R_mono (Kd.R_far (p := ⟨gb171, 2, none⟩) (Kd.R_far (p := ⟨gb171, 1, none⟩) (Kd.R_far (p := ⟨gb171, 0, none⟩) (Kd.R_mono HO_12.out (fun k_ hk => (⟨hk, hk.2⟩ : _ ∧ k_ ≠ gb171))) (fun _ hk => hk.2) (.int .i64 1)) (fun _ hk => hk.2) (.int .i64 (Int.tmod (wrap64 (rd l1 x14_2)) (l0.length : Int)))) (fun _ hk => hk.2) (.int .u64 ji22)) (fun _ hk => ⟨⟨hk.1.1.2, hk.1.2⟩, hk.1.1.1⟩)) hg hat); have n1_ := Aside0.mk (Kd.R_after (ok := (fun k_ => some k_ ≠ (u12 : Value).ownBlock ∧ k_ ≠ gb171)) (by (with_reducible repeat (first | apply Kd.R_alloc | apply Kd.R_drewN | apply Kd.R_drew)); exact Kd.R_mono (Kd.R_far (p := ⟨gb171, 2, none⟩) (Kd.R_far (p := ⟨gb171, 1, none⟩) (Kd.R_far (p := ⟨gb171, 0, none⟩) (Kd.R_mono HO_13.out (fun k_ hk => (⟨hk, hk.2⟩ : _ ∧ k_ ≠ gb171))) (fun _ hk => hk.2) (.int .i64 1)) (fun _ hk => hk.2) (.int .i64 (Int.tmod (wrap64 (rd l1 x14_2)) (l0.length : Int)))) (fun _ hk => hk.2) (.int .u64 ji22)) (fun _ hk => ⟨⟨hk.1.1.2, hk.1.2⟩, hk.1.1.1⟩)) hg hat); have n2_ := Aside0.mk (blk_grown (g := gb171) (o := .cells #[.int .i64 1, .int .i64 (Int.tmod (wrap64 (rd l1 x14_2)) (l0.length : Int)), .int .u64 ji22] 38 (0, 0)) (by (with_reducible repeat (first | refine blk_drewN ?_ _ | refine blk_drew ?_ | refine blk_alloc ?_ _)); refine blk_put (cs := #[.int .i64 1, .int .i64 (Int.tmod (wrap64 (rd l1 x14_2)) (l0.length : Int)), .int .u64 0]) ?_ 2 _ rfl; (with_reducible repeat (first | refine blk_drewN ?_ _ | refine blk_drew ?_ | refine blk_alloc ?_ _)); refine blk_put (cs := #[.int .i64 1, .int .i64 0, .int .u64 0]) ?_ 1 _ rfl; (with_reducible repeat (first | refine blk_drewN ?_ _ | refine blk_drew ?_ | refine blk_alloc ?_ _)); refine blk_put (cs := #[.int .i64 0, .int .i64 0, .int .u64 0]) ?_ 0 _ rfl; (with_reducible repeat (first | refine blk_drewN ?_ _ | refine blk_drew ?_ | refine blk_alloc ?_ _)); exact BK171.out) hg (Kd.R_away HO_11.out (fun _ hk => hk.2))); have n3_ := Aside0.mk (hb); have n4_ := Aside0.mk (ho); clear HO_12; clear HO_13; clear BK171; clear HB; clear HO_11; have HO_12 := n0_; have HO_13 := n1_; have BK171 := n2_; have HB := n3_; have HO181 := n4_; clear n0_ n1_ n2_ n3_ n4_; clear ho hb hg hat; have hcz44_0 : w43.cell? ⟨gb171, 0, none⟩ = some (.int .i64 1) := (blk_cell BK171.out 0).trans rfl; have hcz44_1 : w43.cell? ⟨gb171, 1, none⟩ = some (.int .i64 (Int.tmod (wrap64 (rd l1 x14_2)) (l0.length : Int))) := (blk_cell BK171.out 1).trans rfl; have hcz44_2 : w43.cell? ⟨gb171, 2, none⟩ = some (.int .u64 ji22) := (blk_cell BK171.out 2).trans rfl; have hfz44_0 := blk_frozen BK171.out 0; have hfz44_1 := blk_frozen BK171.out 1; have hfz44_2 := blk_frozen BK171.out 2) | ((with_reducible refine gate_builtin (b := .append) (xs := #[.tmp 93, .tmp 95]) rfl ?_); (try (refine gate_guard (by rfl) ?_; dsimp only)); at_builtin; refine Kd.R_append k38 (w0 := w) w.heap.size rfl (.tmp 93) (.tmp 95) 22 38 (.agg #[(.int .i64 0), (.int .i64 0), (.int .u64 0)]) 24 rfl Try.underlying22 info38 rfl (by decide) (by omega) u13 x13_2 (⟨1, Int.tmod (wrap64 (rd l1 x14_2)) (l0.length : Int), ji22⟩ : S38) [.int .i64 1, .int .i64 (Int.tmod (wrap64 (rd l1 x14_2)) (l0.length : Int)), .int .u64 ji22] (fun k_ => some k_ ≠ (u12 : Value).ownBlock ∧ some k_ ≠ (v180 : Value).ownBlock ∧ k_ ≠ gb171) (fun _ => False) rfl rfl ?aP (fun _ hk => hk.elim) ?aF ?aO ?aB ?aS ?aL ?_; (case aP => exact k38_mkM _ _ _ (⟨1, Int.tmod (wrap64 (rd l1 x14_2)) (l0.length : Int), ji22⟩ : S38)); (case aB => exact (by repeat (first | (with_reducible first | exact HB.out | apply below_alloc | apply pw_below_drewN | apply below_drew1 | refine below_set ?_ GE171.out) | exact HB.out))); (case aF => exact (fun k_ hk => ⟨Kd.fresh' (Kd.R_lt (by (with_reducible repeat (first | apply Kd.R_alloc | apply Kd.R_drewN | apply Kd.R_drew)); exact HO_12.out)) k_ hk, Kd.fresh' (Kd.R_lt (by (with_reducible repeat (first | apply Kd.R_alloc | apply Kd.R_drewN | apply Kd.R_drew)); exact HO181.out)) k_ hk, Kd.freshB (g := gb171) (o := .cells #[.int .i64 1, .int .i64 (Int.tmod (wrap64 (rd l1 x14_2)) (l0.length : Int)), .int .u64 ji22] 38 (0, 0)) (by (with_reducible repeat (first | refine blk_drewN ?_ _ | refine blk_drew ?_ | refine blk_alloc ?_ _)); exact BK171.out) k_ hk⟩)); (case aO => exact (by (with_reducible repeat (first | apply Kd.R_alloc | apply Kd.R_drewN | apply Kd.R_drew)); exact Kd.R_mono HO_13.out (fun _ hk => ⟨hk.1.1, ⟨hk.2, hk.1.2⟩⟩))); (case aS => exact (below_size (by repeat (first | (with_reducible first | exact HB.out | apply below_alloc | apply pw_below_drewN | apply below_drew1 | refine below_set ?_ GE171.out) | exact HB.out)))); (case aL => have := LMc36.out; omega); intro v183 w45 ho hb hg hat; rw [← Ny182.out] at ho; have n0_ := Aside0.mk (Kd.R_after (ok := (fun k_ => some k_ ≠ (v180 : Value).ownBlock ∧ k_ ≠ gb171)) (by (with_reducible repeat (first | apply Kd.R_alloc | apply Kd.R_drewN | apply Kd.R_drew)); exact Kd.R_mono HO_12.out (fun _ hk => ⟨⟨hk.2, hk.1.2⟩, hk.1.1⟩)) hg hat); have n1_ := Aside0.mk (blk_grown (g := gb171) (o := .cells #[.int .i64 1, .int .i64 (Int.tmod (wrap64 (rd l1 x14_2)) (l0.length : Int)), .int .u64 ji22] 38 (0, 0)) (by (with_reducible repeat (first | refine blk_drewN ?_ _ | refine blk_drew ?_ | refine blk_alloc ?_ _)); exact BK171.out) hg (Kd.R_away HO_13.out (fun _ hk => hk.1.2))); have n2_ := Aside0.mk (Kd.R_after (ok := (fun k_ => some k_ ≠ (u12 : Value).ownBlock ∧ k_ ≠ gb171)) (by (with_reducible repeat (first | apply Kd.R_alloc | apply Kd.R_drewN | apply Kd.R_drew)); exact Kd.R_mono HO181.out (fun _ hk => ⟨⟨hk.1, hk.2.2⟩, hk.2.1⟩)) hg hat); have n3_ := Aside0.mk (hb); have n4_ := Aside0.mk (ho); clear HO_12; clear BK171; clear HO181; clear HB; clear HO_13; have HO_12 := n0_; have BK171 := n1_; have HO181 := n2_; have HB := n3_; have HO184 := n4_; clear n0_ n1_ n2_ n3_ n4_; clear ho hb hg hat))
                                    go_meet
                                    case rel => exact ⟨_, (y179), (y182), (by first | exact H' | (subst_vars; exact H')), ⟨by have := HJ5.out; have := HK2.out; have := HJ11.out; first | omega | exact Nat.le_refl _⟩, ⟨by (with_reducible repeat (first | apply Kd.R_alloc | apply Kd.R_drewN | apply Kd.R_drew)); exact Kd.R_mono HO181.out (fun _ hk => ⟨hk.1.1, hk.2⟩)⟩, ⟨by (with_reducible repeat (first | apply Kd.R_alloc | apply Kd.R_drewN | apply Kd.R_drew)); exact Kd.R_mono HO_12.out (fun _ hk => ⟨hk.1.1, hk.2⟩)⟩, ⟨by (with_reducible repeat (first | apply Kd.R_alloc | apply Kd.R_drewN | apply Kd.R_drew)); exact Kd.R_mono HO184.out (fun _ hk => ⟨hk.2.1, hk.1⟩)⟩, ⟨by repeat (first | (with_reducible first | exact HB.out | apply below_alloc | apply pw_below_drewN | apply below_drew1 | refine below_set ?_ GE171.out) | exact HB.out)⟩⟩
                                  · rw [if_neg c36] at H
                                    exact absurd H (by simp)
                                · rw [if_neg c35] at H
                                  exact absurd H (by simp)
                            · rw [if_neg c21] at H
                              exact absurd H (by simp)
                      · rw [if_neg c17] at H
                        exact absurd H (by simp)
                    · rw [if_neg c16] at H
                      have c16b0 : decide (x14_2 < (l1.length : Int)) = false := decide_eq_false c16
                      clear c16
                      (first | rw [c16b0] | (simp only [i64_w, i32_w]; rw [c16b0]) | skip)
                      have H' := Aside0.mk H
                      clear H
                      go_wp2
                      go_meet
                      case rel => exact ⟨_, (x11_2), (x13_2), (by first | exact H' | (subst_vars; exact H')), ⟨by have := HJ5.out; have := HK2.out; have := HJ11.out; first | omega | exact Nat.le_refl _⟩, ⟨by (with_reducible repeat (first | apply Kd.R_alloc | apply Kd.R_drewN | apply Kd.R_drew)); exact HO_11.out⟩, ⟨by (with_reducible repeat (first | apply Kd.R_alloc | apply Kd.R_drewN | apply Kd.R_drew)); exact HO_12.out⟩, ⟨by (with_reducible repeat (first | apply Kd.R_alloc | apply Kd.R_drewN | apply Kd.R_drew)); exact HO_13.out⟩, ⟨by repeat (first | (with_reducible first | exact HB.out | apply below_alloc | apply pw_below_drewN | apply below_drew1) | exact HB.out)⟩⟩
                  case rest =>
                    clear HC15
                    try clear c1
                    try clear p1
                    try clear q1
                    try clear hx1
                    try clear c2
                    try clear p2
                    try clear c3
                    try clear p6
                    try clear c13
                    try clear c13b0
                    try clear c14
                    try clear c16
                    try clear c16b0
                    try clear p16
                    try clear q16
                    try clear hx16
                    try clear c17
                    try clear c17b0
                    try clear p17
                    try clear q17
                    try clear hx17
                    try clear c18
                    try clear c18b0
                    try clear c18b1
                    try clear c18b2
                    try clear c19
                    try clear c19b0
                    try clear c19b1
                    try clear c21
                    try clear c21b0
                    try clear c21b1
                    try clear c23
                    try clear c23b0
                    try clear c23b1
                    try clear c24
                    try clear c25
                    try clear c35
                    try clear c36
                    try clear hcz31_0
                    try clear hcz31_1
                    try clear hcz31_2
                    try clear hcz33_0
                    try clear hcz33_1
                    try clear hcz33_2
                    try clear hcz42_0
                    try clear hcz42_1
                    try clear hcz42_2
                    try clear hcz44_0
                    try clear hcz44_1
                    try clear hcz44_2
                    try clear hfz31_0
                    try clear hfz31_1
                    try clear hfz31_2
                    try clear hfz33_0
                    try clear hfz33_1
                    try clear hfz33_2
                    try clear hfz42_0
                    try clear hfz42_1
                    try clear hfz42_2
                    try clear hfz44_0
                    try clear hfz44_1
                    try clear hfz44_2
                    try clear hx169_0
                    try clear hx170_0
                    try clear hx172_0
                    try clear p169
                    try clear p170
                    try clear p172
                    try clear p2
                    try clear p6
                    try clear q169
                    try clear q170
                    try clear q172
                    obtain ⟨kq, x11_14, x13_14, HA, HJ14, HO_11, HO_12, HO_13, HB⟩ := hcut
                    cases kq with
                    | zero => exact absurd HA.out (by simp [lockfastlaw12_RedoApart.j3])
                    | succ kj14 =>
                      have H := HA.out
                      clear HA
                      simp only [lockfastlaw12_RedoApart.j3] at H
                      by_cases c46 : x14_2 < (l2.length : Int)
                      · rw [if_pos c46] at H
                        have c46b0 : decide (x14_2 < (l2.length : Int)) = true := decide_eq_true c46
                        clear c46
                        by_cases c47 : 0 ≤ x14_2
                        · rw [if_pos c47] at H
                          have c47b0 : decide (0 ≤ x14_2) = true := decide_eq_true c47
                          clear c47
                          by_cases c48 : (l0.length : Int) = 0
                          · rw [if_pos c48] at H
                            exact absurd H (by simp)
                          · rw [if_neg c48] at H
                            have c48b0 : ((l0.length : Int) == 0) = false := beq_eq_false_iff_ne.mpr c48
                            have c48b1 : ((l0.length : Int) != 0) = true := bne_iff_ne.mpr c48
                            have c48b2 : ¬ (l0 = []) := fun h_ => c48 (by rw [h_]; rfl)
                            by_cases c49 : (wrap64 (64 - (wrap64 (1 + (wrap64 (Int.tmod a3 63)))))) = 0
                            · rw [if_pos c49] at H
                              exact absurd H (by simp)
                            · rw [if_neg c49] at H
                              have c49b0 : ((wrap64 (64 - (wrap64 (1 + (wrap64 (Int.tmod a3 63)))))) == 0) = false := beq_eq_false_iff_ne.mpr c49
                              have c49b1 : ((wrap64 (64 - (wrap64 (1 + (wrap64 (Int.tmod a3 63)))))) != 0) = true := bne_iff_ne.mpr c49
                              obtain ⟨ji50, hji50⟩ : ∃ j_ : Int, (wrap64 ((wrap64 (1 + (wrap64 (Int.tmod a3 63)))) + (Int.tmod (wrap64 (rd l2 x14_2)) (wrap64 (64 - (wrap64 (1 + (wrap64 (Int.tmod a3 63))))))))) = j_ := ⟨_, rfl⟩
                              replace H : (if 0 ≤ (ji50) then (if (Int.tmod (rd l2 x14_2) 3) = 0 then (if x12_2.length < 5864062014805 then (if x13_14.length < 5864062014805 then (lockfastlaw12_RedoApart.l0 kj14 l0 l1 l2 t168 (wrap64 (1 + (wrap64 (Int.tmod a3 63)))) x11_14 (x12_2 ++ [(⟨2, Int.tmod (wrap64 (rd l2 x14_2)) (l0.length : Int), Go.bits .xor .u64 IntKind.u64.max (shl .u64 1 (ji50))⟩ : S38)]) (x13_14 ++ [(⟨2, Int.tmod (wrap64 (rd l2 x14_2)) (l0.length : Int), Go.bits .xor .u64 IntKind.u64.max (shl .u64 1 (ji50))⟩ : S38)]) (wrap64 (x14_2 + 1))) else (none)) else (none)) else (if x12_2.length < 5864062014805 then (if x13_14.length < 5864062014805 then (lockfastlaw12_RedoApart.l0 kj14 l0 l1 l2 t168 (wrap64 (1 + (wrap64 (Int.tmod a3 63)))) x11_14 (x12_2 ++ [(⟨1, Int.tmod (wrap64 (rd l2 x14_2)) (l0.length : Int), shl .u64 1 (ji50)⟩ : S38)]) (x13_14 ++ [(⟨1, Int.tmod (wrap64 (rd l2 x14_2)) (l0.length : Int), shl .u64 1 (ji50)⟩ : S38)]) (wrap64 (x14_2 + 1))) else (none)) else (none))) else (none)) = some r := by first | (rw [hji50] at H; exact H) | (simp only [hji50] at H ⊢; exact H)
                              have hji50w : (IntKind.i64.wrap ((wrap64 (1 + (wrap64 (Int.tmod a3 63)))) + (Int.tmod (wrap64 (rd l2 x14_2)) (wrap64 (64 - (wrap64 (1 + (wrap64 (Int.tmod a3 63))))))))) = ji50 := (i64_w _).trans hji50
                              by_cases c51 : 0 ≤ (ji50)
                              · rw [if_pos c51] at H
                                have c51b0 := eq_true c51
                                have c51b1 : decide (0 ≤ (ji50)) = true := decide_eq_true c51
                                clear c51
                                obtain ⟨ji52, hji52⟩ : ∃ j_ : Int, (shl .u64 1 (ji50)) = j_ := ⟨_, rfl⟩
                                replace H : (if (Int.tmod (rd l2 x14_2) 3) = 0 then (if x12_2.length < 5864062014805 then (if x13_14.length < 5864062014805 then (lockfastlaw12_RedoApart.l0 kj14 l0 l1 l2 t168 (wrap64 (1 + (wrap64 (Int.tmod a3 63)))) x11_14 (x12_2 ++ [(⟨2, Int.tmod (wrap64 (rd l2 x14_2)) (l0.length : Int), Go.bits .xor .u64 IntKind.u64.max (ji52)⟩ : S38)]) (x13_14 ++ [(⟨2, Int.tmod (wrap64 (rd l2 x14_2)) (l0.length : Int), Go.bits .xor .u64 IntKind.u64.max (ji52)⟩ : S38)]) (wrap64 (x14_2 + 1))) else (none)) else (none)) else (if x12_2.length < 5864062014805 then (if x13_14.length < 5864062014805 then (lockfastlaw12_RedoApart.l0 kj14 l0 l1 l2 t168 (wrap64 (1 + (wrap64 (Int.tmod a3 63)))) x11_14 (x12_2 ++ [(⟨1, Int.tmod (wrap64 (rd l2 x14_2)) (l0.length : Int), ji52⟩ : S38)]) (x13_14 ++ [(⟨1, Int.tmod (wrap64 (rd l2 x14_2)) (l0.length : Int), ji52⟩ : S38)]) (wrap64 (x14_2 + 1))) else (none)) else (none))) = some r := by first | (rw [hji52] at H; exact H) | (simp only [hji52] at H ⊢; exact H)
                                have hji52_ : (IntKind.u64.wrap (1 * 2 ^ min (ji50).toNat 64)) = ji52 := hji52
                                have hji52z : (ji50) ≤ 64 → (IntKind.u64.wrap (1 * 2 ^ (ji50).toNat)) = ji52 := shl_small hji52
                                have hji52u : (IntKind.u64.wrap (2 ^ min (ji50).toNat 64)) = ji52 := by have h_ := hji52_; rw [Int.one_mul] at h_; exact h_
                                have hji52v : (ji50) ≤ 64 → (IntKind.u64.wrap (2 ^ (ji50).toNat)) = ji52 := fun hle_ => by have h_ := hji52z hle_; rw [Int.one_mul] at h_; exact h_
                                by_cases c53 : (Int.tmod (rd l2 x14_2) 3) = 0
                                · rw [if_pos c53] at H
                                  have c53b0 : ((Int.tmod (rd l2 x14_2) 3) == 0) = true := beq_iff_eq.mpr c53
                                  have c53b1 : ((Int.tmod (rd l2 x14_2) 3) != 0) = false := bne_eq_false_iff_eq.mpr c53
                                  clear c53
                                  by_cases c54 : x12_2.length < 5864062014805
                                  · rw [if_pos c54] at H
                                    have LMc54 := Aside0.mk c54
                                    clear c54
                                    obtain ⟨y189, hy189⟩ : ∃ y_ : List (S38), y_ = (x12_2 ++ [(⟨2, Int.tmod (wrap64 (rd l2 x14_2)) (l0.length : Int), Go.bits .xor .u64 IntKind.u64.max (ji52)⟩ : S38)]) := ⟨_, rfl⟩
                                    replace H : (if x13_14.length < 5864062014805 then (lockfastlaw12_RedoApart.l0 kj14 l0 l1 l2 t168 (wrap64 (1 + (wrap64 (Int.tmod a3 63)))) x11_14 y189 (x13_14 ++ [(⟨2, Int.tmod (wrap64 (rd l2 x14_2)) (l0.length : Int), Go.bits .xor .u64 IntKind.u64.max (ji52)⟩ : S38)]) (wrap64 (x14_2 + 1))) else (none)) = some r := by first | (rw [hy189]; with_reducible exact H) | (have H2_ := (Option.bind_some _ _).symm.trans H; rw [hy189]; with_reducible exact H2_) | (have H2_ := (Option.bind_some _ _).symm.trans H; with_reducible exact H2_) | with_reducible exact H | (rw [hy189]; exact H) | exact H
                                    have Ny189 := Aside0.mk hy189
                                    clear hy189
                                    by_cases c55 : x13_14.length < 5864062014805
                                    · rw [if_pos c55] at H
                                      have LMc55 := Aside0.mk c55
                                      clear c55
                                      obtain ⟨y192, hy192⟩ : ∃ y_ : List (S38), y_ = (x13_14 ++ [(⟨2, Int.tmod (wrap64 (rd l2 x14_2)) (l0.length : Int), Go.bits .xor .u64 IntKind.u64.max (ji52)⟩ : S38)]) := ⟨_, rfl⟩
                                      replace H : (lockfastlaw12_RedoApart.l0 kj14 l0 l1 l2 t168 (wrap64 (1 + (wrap64 (Int.tmod a3 63)))) x11_14 y189 y192 (wrap64 (x14_2 + 1))) = some r := by first | (rw [hy192]; with_reducible exact H) | (have H2_ := (Option.bind_some _ _).symm.trans H; rw [hy192]; with_reducible exact H2_) | (have H2_ := (Option.bind_some _ _).symm.trans H; with_reducible exact H2_) | with_reducible exact H | (rw [hy192]; exact H) | exact H
                                      have Ny192 := Aside0.mk hy192
                                      clear hy192
                                      have H' := Aside0.mk H
                                      clear H
                                      try go_wp2
                                      have n0_ := Aside0.mk (Kd.R_drew HO_11.out)
                                      have n1_ := Aside0.mk (Kd.R_drew HO_12.out)
                                      have n2_ := Aside0.mk (Kd.R_drew HO_13.out)
                                      have n3_ := Aside0.mk (below_drew1 HB.out)
                                      clear HO_11
                                      clear HO_12
                                      clear HO_13
                                      clear HB
                                      have HO_11 := n0_
                                      have HO_12 := n1_
                                      have HO_13 := n2_
                                      have HB := n3_
                                      clear n0_ n1_ n2_ n3_
                                      have p185 : 0 ≤ (x14_2 : Int) := of_decide_eq_true (by first | (with_reducible assumption) | assumption)
                                      have q185 : x14_2 < (l2.length : Int) := of_decide_eq_true (by first | (with_reducible assumption) | assumption)
                                      obtain ⟨ad185, e185, hx185_0⟩ := Kd.at_int HR2.out x14_2 p185 q185
                                      have hw185_0 := hx185_0
                                      cases e185
                                      replace hx185_0 := (HB.out.cell (World.block_lt_of_cell? w _ hx185_0)).trans hx185_0
                                      replace p185 := eq_true p185
                                      replace q185 := eq_true q185
                                      have p186 : 0 ≤ (x14_2 : Int) := of_decide_eq_true (by first | (with_reducible assumption) | assumption)
                                      have q186 : x14_2 < (l2.length : Int) := of_decide_eq_true (by first | (with_reducible assumption) | assumption)
                                      obtain ⟨ad186, e186, hx186_0⟩ := Kd.at_int HR2.out x14_2 p186 q186
                                      have hw186_0 := hx186_0
                                      obtain rfl : ad185 = ad186 := (by injection e186)
                                      replace hx186_0 := (HB.out.cell (World.block_lt_of_cell? w _ hx186_0)).trans hx186_0
                                      replace p186 := eq_true p186
                                      replace q186 := eq_true q186
                                      refine start_ (n := 22) (S := fun w' => w'.cell? (ad185.add (x14_2).toNat) = some (.int .u8 (rd l2 x14_2)) ∧ w'.cell? (ad185.add (x14_2).toNat) = some (.int .u8 (rd l2 x14_2))) (ds := []) #[false, false, false, false, false, false, false, false, false, false, false, false, false, false, false, false, false, false, false, false, false, false] (by kernel_rfl) rfl rfl ⟨((HB.out.cell (World.block_lt_of_cell? w _ hw185_0)).trans hw185_0), ((HB.out.cell (World.block_lt_of_cell? w _ hw186_0)).trans hw186_0)⟩ (fun hHeld => ?_); refine with_tabW lockfastlaw12_RedoApart.tab16 lockfastlaw12_RedoApart.bits16 (fun HT_ HW_ => ?_)
                                      generalize wc.drew = w56 at HO_11 HO_12 HO_13 HB hx185_0 hx186_0 hHeld ⊢
                                      refine pure_ (i := 0) (N := some 101) (v := ?_) (a' := ?_) #[true, false, false, false, false, false, false, false, false, false, false, false, false, false, false, false, false, false, false, false, false, false] rfl rfl (any_of HT_.out (by kernel_rfl)) (fun _ _ _ h => h) (Or.inl ⟨by rfl, ?_⟩) ?_ ?_
                                      rotate_left
                                      · intro w'
                                        go_simp
                                        with_reducible rfl
                                      rotate_left
                                      · simp only [Act.put, List.setIfInBounds_toArray, List.set_cons_zero, List.set_cons_succ, i64_w, i32_w]
                                        rfl
                                      refine pure_ (i := 1) (N := some 102) (v := ?_) (a' := ?_) #[true, true, false, false, false, false, false, false, false, false, false, false, false, false, false, false, false, false, false, false, false, false] rfl rfl (any_of HT_.out (by kernel_rfl)) (fun _ _ _ h => h) (Or.inl ⟨by rfl, ?_⟩) ?_ ?_
                                      rotate_left
                                      · intro w'
                                        go_simp
                                        with_reducible rfl
                                      rotate_left
                                      · simp only [Act.put, List.setIfInBounds_toArray, List.set_cons_zero, List.set_cons_succ, i64_w, i32_w]
                                        rfl
                                      refine pure_ (i := 2) (N := some 103) (v := ?_) (a' := ?_) #[true, true, true, false, false, false, false, false, false, false, false, false, false, false, false, false, false, false, false, false, false, false] rfl rfl (any_of HT_.out (by kernel_rfl)) (fun _ _ _ h => h) (Or.inl ⟨by rfl, ?_⟩) ?_ ?_
                                      rotate_left
                                      · intro w'
                                        go_simp
                                        with_reducible rfl
                                      rotate_left
                                      · simp only [Act.put, List.setIfInBounds_toArray, List.set_cons_zero, List.set_cons_succ, i64_w, i32_w]
                                        rfl
                                      refine pure_ (i := 5) (N := some 106) (v := ?_) (a' := ?_) #[true, true, true, false, false, true, false, false, false, false, false, false, false, false, false, false, false, false, false, false, false, false] rfl rfl (any_of HT_.out (by kernel_rfl)) (fun _ _ _ h => h) (Or.inl ⟨by rfl, ?_⟩) ?_ ?_
                                      rotate_left
                                      · intro w'
                                        go_simp
                                        with_reducible rfl
                                      rotate_left
                                      · simp only [Act.put, List.setIfInBounds_toArray, List.set_cons_zero, List.set_cons_succ, i64_w, i32_w]
                                        rfl
                                      refine pure_ (i := 6) (N := some 107) (v := ?_) (a' := ?_) #[true, true, true, false, false, true, true, false, false, false, false, false, false, false, false, false, false, false, false, false, false, false] rfl rfl (any_of HT_.out (by kernel_rfl)) (fun _ _ _ h => h) (Or.inl ⟨by rfl, ?_⟩) ?_ ?_
                                      rotate_left
                                      · intro w'
                                        go_simp
                                        with_reducible rfl
                                      rotate_left
                                      · simp only [Act.put, List.setIfInBounds_toArray, List.set_cons_zero, List.set_cons_succ, i64_w, i32_w]
                                        rfl
                                      refine pure_ (i := 8) (N := some 109) (v := ?_) (a' := ?_) #[true, true, true, false, false, true, true, false, true, false, false, false, false, false, false, false, false, false, false, false, false, false] rfl rfl (any_of HT_.out (by kernel_rfl)) (fun _ _ _ h => h) (Or.inl ⟨by rfl, ?_⟩) ?_ ?_
                                      rotate_left
                                      · intro w'
                                        go_simp
                                        with_reducible rfl
                                      rotate_left
                                      · simp only [Act.put, List.setIfInBounds_toArray, List.set_cons_zero, List.set_cons_succ, i64_w, i32_w]
                                        rfl
                                      refine pure_ (i := 9) (N := some 110) (v := ?_) (a' := ?_) #[true, true, true, false, false, true, true, false, true, true, false, false, false, false, false, false, false, false, false, false, false, false] rfl rfl (any_of HT_.out (by kernel_rfl)) (fun _ _ _ h => h) (Or.inl ⟨by rfl, ?_⟩) ?_ ?_
                                      rotate_left
                                      · intro w'
                                        go_simp
                                        with_reducible rfl
                                      rotate_left
                                      · simp only [Act.put, List.setIfInBounds_toArray, List.set_cons_zero, List.set_cons_succ, i64_w, i32_w]
                                        rfl
                                      refine pure_ (i := 10) (N := some 111) (v := ?_) (a' := ?_) #[true, true, true, false, false, true, true, false, true, true, true, false, false, false, false, false, false, false, false, false, false, false] rfl rfl (any_of HT_.out (by kernel_rfl)) (fun _ _ _ h => h) (Or.inl ⟨by rfl, ?_⟩) ?_ ?_
                                      rotate_left
                                      · intro w'
                                        go_simp
                                        with_reducible rfl
                                      rotate_left
                                      · simp only [Act.put, List.setIfInBounds_toArray, List.set_cons_zero, List.set_cons_succ, i64_w, i32_w]
                                        rfl
                                      refine pure_ (i := 11) (N := some 112) (v := ?_) (a' := ?_) #[true, true, true, false, false, true, true, false, true, true, true, true, false, false, false, false, false, false, false, false, false, false] rfl rfl (any_of HT_.out (by kernel_rfl)) (fun _ _ _ h => h) (Or.inl ⟨by rfl, ?_⟩) ?_ ?_
                                      rotate_left
                                      · intro w'
                                        go_simp
                                        with_reducible rfl
                                      rotate_left
                                      · simp only [Act.put, List.setIfInBounds_toArray, List.set_cons_zero, List.set_cons_succ, i64_w, i32_w]
                                        rfl
                                      refine pure_ (i := 14) (N := some 115) (v := ?_) (a' := ?_) #[true, true, true, false, false, true, true, false, true, true, true, true, false, false, true, false, false, false, false, false, false, false] rfl rfl (any_of HT_.out (by kernel_rfl)) (fun _ _ _ h => h) (Or.inl ⟨by rfl, ?_⟩) ?_ ?_
                                      rotate_left
                                      · intro w'
                                        go_simp
                                        with_reducible rfl
                                      rotate_left
                                      · simp only [Act.put, List.setIfInBounds_toArray, List.set_cons_zero, List.set_cons_succ, i64_w, i32_w]
                                        rfl
                                      refine pure_ (i := 15) (N := some 116) (v := ?_) (a' := ?_) #[true, true, true, false, false, true, true, false, true, true, true, true, false, false, true, true, false, false, false, false, false, false] rfl rfl (any_of HT_.out (by kernel_rfl)) (fun _ _ _ h => h) (Or.inl ⟨by rfl, ?_⟩) ?_ ?_
                                      rotate_left
                                      · intro w'
                                        go_simp
                                        with_reducible rfl
                                      rotate_left
                                      · simp only [Act.put, List.setIfInBounds_toArray, List.set_cons_zero, List.set_cons_succ, i64_w, i32_w]
                                        rfl
                                      refine take_ (i := 3) (N := some 104) (v := ?_) (a' := ?_) #[true, true, true, true, false, true, true, false, true, true, true, true, false, false, true, true, false, false, false, false, false, false] rfl rfl (take_ofW HT_.out HW_.out (by kernel_rfl)) (fun _ _ _ h => h) (Or.inl ⟨by rfl, ?_⟩) hHeld ?_ ?_
                                      rotate_left
                                      · rintro w' ⟨s0, s1⟩
                                        go_simp
                                        with_reducible rfl
                                      rotate_left
                                      · simp only [Act.put, List.setIfInBounds_toArray, List.set_cons_zero, List.set_cons_succ, i64_w, i32_w]
                                        rfl
                                      refine pure_ (i := 4) (N := some 105) (v := ?_) (a' := ?_) #[true, true, true, true, true, true, true, false, true, true, true, true, false, false, true, true, false, false, false, false, false, false] rfl rfl (any_of HT_.out (by kernel_rfl)) (fun _ _ _ h => h) (Or.inl ⟨by rfl, ?_⟩) ?_ ?_
                                      rotate_left
                                      · intro w'
                                        go_simp
                                        with_reducible rfl
                                      rotate_left
                                      · simp only [Act.put, List.setIfInBounds_toArray, List.set_cons_zero, List.set_cons_succ, i64_w, i32_w]
                                        rfl
                                      refine pure_ (i := 7) (N := some 108) (v := ?_) (a' := ?_) #[true, true, true, true, true, true, true, true, true, true, true, true, false, false, true, true, false, false, false, false, false, false] rfl rfl (any_of HT_.out (by kernel_rfl)) (fun _ _ _ h => h) (Or.inl ⟨by rfl, ?_⟩) ?_ ?_
                                      rotate_left
                                      · intro w'
                                        go_simp
                                        with_reducible rfl
                                      rotate_left
                                      · simp only [Act.put, List.setIfInBounds_toArray, List.set_cons_zero, List.set_cons_succ, i64_w, i32_w]
                                        rfl
                                      refine take_ (i := 12) (N := some 113) (v := ?_) (a' := ?_) #[true, true, true, true, true, true, true, true, true, true, true, true, true, false, true, true, false, false, false, false, false, false] rfl rfl (take_ofW HT_.out HW_.out (by kernel_rfl)) (fun _ _ _ h => h) (Or.inl ⟨by rfl, ?_⟩) hHeld ?_ ?_
                                      rotate_left
                                      · rintro w' ⟨s0, s1⟩
                                        go_simp
                                        with_reducible rfl
                                      rotate_left
                                      · simp only [Act.put, List.setIfInBounds_toArray, List.set_cons_zero, List.set_cons_succ, i64_w, i32_w]
                                        rfl
                                      refine pure_ (i := 13) (N := some 114) (v := ?_) (a' := ?_) #[true, true, true, true, true, true, true, true, true, true, true, true, true, true, true, true, false, false, false, false, false, false] rfl rfl (any_of HT_.out (by kernel_rfl)) (fun _ _ _ h => h) (Or.inl ⟨by rfl, ?_⟩) ?_ ?_
                                      rotate_left
                                      · intro w'
                                        go_simp
                                        with_reducible rfl
                                      rotate_left
                                      · simp only [Act.put, List.setIfInBounds_toArray, List.set_cons_zero, List.set_cons_succ, i64_w, i32_w]
                                        rfl
                                      refine pure_ (i := 16) (N := some 117) (v := ?_) (a' := ?_) #[true, true, true, true, true, true, true, true, true, true, true, true, true, true, true, true, true, false, false, false, false, false] rfl rfl (any_of HT_.out (by kernel_rfl)) (fun _ _ _ h => h) (Or.inl ⟨by rfl, ?_⟩) ?_ ?_
                                      rotate_left
                                      · intro w'
                                        go_simp
                                        with_reducible rfl
                                      rotate_left
                                      · simp only [Act.put, List.setIfInBounds_toArray, List.set_cons_zero, List.set_cons_succ, i64_w, i32_w]
                                        rfl
                                      refine pure_ (i := 17) (N := some 118) (v := ?_) (a' := ?_) #[true, true, true, true, true, true, true, true, true, true, true, true, true, true, true, true, true, true, false, false, false, false] rfl rfl (any_of HT_.out (by kernel_rfl)) (fun _ _ _ h => h) (Or.inl ⟨by rfl, ?_⟩) ?_ ?_
                                      rotate_left
                                      · intro w'
                                        go_simp
                                        with_reducible rfl
                                      rotate_left
                                      · simp only [Act.put, List.setIfInBounds_toArray, List.set_cons_zero, List.set_cons_succ, i64_w, i32_w]
                                        rfl
                                      refine pure_ (i := 18) (N := some 119) (v := ?_) (a' := ?_) #[true, true, true, true, true, true, true, true, true, true, true, true, true, true, true, true, true, true, true, false, false, false] rfl rfl (any_of HT_.out (by kernel_rfl)) (fun _ _ _ h => h) (Or.inl ⟨by rfl, ?_⟩) ?_ ?_
                                      rotate_left
                                      · intro w'
                                        go_simp
                                        with_reducible rfl
                                      rotate_left
                                      · simp only [Act.put, List.setIfInBounds_toArray, List.set_cons_zero, List.set_cons_succ, i64_w, i32_w]
                                        rfl
                                      refine pure_ (i := 19) (N := some 120) (v := ?_) (a' := ?_) #[true, true, true, true, true, true, true, true, true, true, true, true, true, true, true, true, true, true, true, true, false, false] rfl rfl (any_of HT_.out (by kernel_rfl)) (fun _ _ _ h => h) (Or.inl ⟨by rfl, ?_⟩) ?_ ?_
                                      rotate_left
                                      · intro w'
                                        go_simp
                                        with_reducible rfl
                                      rotate_left
                                      · simp only [Act.put, List.setIfInBounds_toArray, List.set_cons_zero, List.set_cons_succ, i64_w, i32_w]
                                        rfl
                                      refine one_ (i := 20) (N := some 16) #[true, true, true, true, true, true, true, true, true, true, true, true, true, true, true, true, true, true, true, true, true, false] rfl rfl (one_of HT_.out (by kernel_rfl)) (by decide) (fun K hK => ?_)
                                      refine box_step ?hg (N := 16) ?hd (cs := #[.int .i64 0, .int .i64 0, .int .u64 0]) (t := 38) ?hr ?_; (case hd => rfl); (case hg => rfl); (case hr => first | (go_simp; done) | (go_simp; rfl))
                                      intro gb187 hg w57 hbox hb
                                      have n0_ := Aside0.mk (Kd.R_below (Kd.R_elderB (by (with_reducible repeat (first | apply Kd.R_alloc | apply Kd.R_drewN | apply Kd.R_drew)); exact HO_11.out) gb187 (Nat.le_of_eq hg.symm)) hb)
                                      have n1_ := Aside0.mk (Kd.R_below (Kd.R_elderB (by (with_reducible repeat (first | apply Kd.R_alloc | apply Kd.R_drewN | apply Kd.R_drew)); exact HO_12.out) gb187 (Nat.le_of_eq hg.symm)) hb)
                                      have n2_ := Aside0.mk (Kd.R_below (Kd.R_elderB (by (with_reducible repeat (first | apply Kd.R_alloc | apply Kd.R_drewN | apply Kd.R_drew)); exact HO_13.out) gb187 (Nat.le_of_eq hg.symm)) hb)
                                      have n3_ := Aside0.mk (below_step (by repeat (first | (with_reducible first | exact HB.out | apply below_alloc | apply pw_below_drewN | apply below_drew1) | exact HB.out)) hb)
                                      have n4_ := Aside0.mk (hbox)
                                      have n5_ := Aside0.mk ((by rw [hg]; exact (below_size (by repeat (first | (with_reducible first | exact HB.out | apply below_alloc | apply pw_below_drewN | apply below_drew1) | exact HB.out))) : w.heap.size ≤ gb187))
                                      have n6_ := Aside0.mk ((by rw [hg]; exact (below_size (by repeat (first | (with_reducible first | exact HB.out | apply below_alloc | apply pw_below_drewN | apply below_drew1) | exact HB.out))) : w.heap.size ≤ gb187))
                                      clear HO_11
                                      clear HO_12
                                      clear HO_13
                                      clear HB
                                      have HO_11 := n0_
                                      have HO_12 := n1_
                                      have HO_13 := n2_
                                      have HB := n3_
                                      have BK187 := n4_
                                      have GW187 := n5_
                                      have GE187 := n6_
                                      clear n0_ n1_ n2_ n3_ n4_ n5_ n6_
                                      clear hb hbox hg
                                      refine hK.out _ _ ⟨((HB.out.cell (World.block_lt_of_cell? w _ hw185_0)).trans hw185_0), ((HB.out.cell (World.block_lt_of_cell? w _ hw186_0)).trans hw186_0)⟩ (fun hHeld => ?_)
                                      clear hK K
                                      refine norm_ (a' := ?_) ?_ ?_
                                      rotate_left
                                      · show Act.put _ (some 16) _ = _
                                        simp only [Act.put, List.setIfInBounds_toArray, List.set_cons_zero, List.set_cons_succ, i64_w, i32_w]
                                        rfl
                                      refine one_ (i := 21) (N := none) #[true, true, true, true, true, true, true, true, true, true, true, true, true, true, true, true, true, true, true, true, true, true] rfl rfl (one_of HT_.out (by kernel_rfl)) (by decide) (fun K hK => ?_)
                                      have hs58 : w57.cell? ⟨gb187, 0, none⟩ = some (.int .i64 0) := (blk_cell BK187.out 0).trans rfl
                                      have hfs58 := blk_frozen BK187.out 0
                                      have hs59 : w57.cell? ⟨gb187, 1, none⟩ = some (.int .i64 0) := (blk_cell BK187.out 1).trans rfl
                                      have hfs59 := blk_frozen BK187.out 1
                                      have hs60 : w57.cell? ⟨gb187, 2, none⟩ = some (.int .u64 0) := (blk_cell BK187.out 2).trans rfl
                                      have hfs60 := blk_frozen BK187.out 2
                                      refine skip_ (w1 := ?_) (by rfl) rfl ?_ ?_
                                      rotate_left
                                      · go_simp
                                        rfl
                                      refine hK.out _ _ ⟨((cell_far (p := ⟨gb187, _, none⟩) (by first | exact Nat.ne_of_lt (Nat.lt_of_lt_of_le (by have := World.block_lt_of_cell? _ _ hw185_0; first | rwa [add_block] at this | exact this) GW187.out) | (rw [add_block]; exact Nat.ne_of_lt (Nat.lt_of_lt_of_le (by have := World.block_lt_of_cell? _ _ hw185_0; first | rwa [add_block] at this | exact this) GW187.out)) | (show (Addr.add _ _).block ≠ _; rw [add_block]; exact Nat.ne_of_lt (Nat.lt_of_lt_of_le (by have := World.block_lt_of_cell? _ _ hw185_0; first | rwa [add_block] at this | exact this) GW187.out)) | (dsimp only; exact Nat.ne_of_lt (Nat.lt_of_lt_of_le (by have := World.block_lt_of_cell? _ _ hw185_0; first | rwa [add_block] at this | exact this) GW187.out))) _).trans (((cell_far (p := ⟨gb187, _, none⟩) (by first | exact Nat.ne_of_lt (Nat.lt_of_lt_of_le (by have := World.block_lt_of_cell? _ _ hw185_0; first | rwa [add_block] at this | exact this) GW187.out) | (rw [add_block]; exact Nat.ne_of_lt (Nat.lt_of_lt_of_le (by have := World.block_lt_of_cell? _ _ hw185_0; first | rwa [add_block] at this | exact this) GW187.out)) | (show (Addr.add _ _).block ≠ _; rw [add_block]; exact Nat.ne_of_lt (Nat.lt_of_lt_of_le (by have := World.block_lt_of_cell? _ _ hw185_0; first | rwa [add_block] at this | exact this) GW187.out)) | (dsimp only; exact Nat.ne_of_lt (Nat.lt_of_lt_of_le (by have := World.block_lt_of_cell? _ _ hw185_0; first | rwa [add_block] at this | exact this) GW187.out))) _).trans (((cell_far (p := ⟨gb187, _, none⟩) (by first | exact Nat.ne_of_lt (Nat.lt_of_lt_of_le (by have := World.block_lt_of_cell? _ _ hw185_0; first | rwa [add_block] at this | exact this) GW187.out) | (rw [add_block]; exact Nat.ne_of_lt (Nat.lt_of_lt_of_le (by have := World.block_lt_of_cell? _ _ hw185_0; first | rwa [add_block] at this | exact this) GW187.out)) | (show (Addr.add _ _).block ≠ _; rw [add_block]; exact Nat.ne_of_lt (Nat.lt_of_lt_of_le (by have := World.block_lt_of_cell? _ _ hw185_0; first | rwa [add_block] at this | exact this) GW187.out)) | (dsimp only; exact Nat.ne_of_lt (Nat.lt_of_lt_of_le (by have := World.block_lt_of_cell? _ _ hw185_0; first | rwa [add_block] at this | exact this) GW187.out))) _).trans (hHeld.1)))))), ((cell_far (p := ⟨gb187, _, none⟩) (by first | exact Nat.ne_of_lt (Nat.lt_of_lt_of_le (by have := World.block_lt_of_cell? _ _ hw186_0; first | rwa [add_block] at this | exact this) GW187.out) | (rw [add_block]; exact Nat.ne_of_lt (Nat.lt_of_lt_of_le (by have := World.block_lt_of_cell? _ _ hw186_0; first | rwa [add_block] at this | exact this) GW187.out)) | (show (Addr.add _ _).block ≠ _; rw [add_block]; exact Nat.ne_of_lt (Nat.lt_of_lt_of_le (by have := World.block_lt_of_cell? _ _ hw186_0; first | rwa [add_block] at this | exact this) GW187.out)) | (dsimp only; exact Nat.ne_of_lt (Nat.lt_of_lt_of_le (by have := World.block_lt_of_cell? _ _ hw186_0; first | rwa [add_block] at this | exact this) GW187.out))) _).trans (((cell_far (p := ⟨gb187, _, none⟩) (by first | exact Nat.ne_of_lt (Nat.lt_of_lt_of_le (by have := World.block_lt_of_cell? _ _ hw186_0; first | rwa [add_block] at this | exact this) GW187.out) | (rw [add_block]; exact Nat.ne_of_lt (Nat.lt_of_lt_of_le (by have := World.block_lt_of_cell? _ _ hw186_0; first | rwa [add_block] at this | exact this) GW187.out)) | (show (Addr.add _ _).block ≠ _; rw [add_block]; exact Nat.ne_of_lt (Nat.lt_of_lt_of_le (by have := World.block_lt_of_cell? _ _ hw186_0; first | rwa [add_block] at this | exact this) GW187.out)) | (dsimp only; exact Nat.ne_of_lt (Nat.lt_of_lt_of_le (by have := World.block_lt_of_cell? _ _ hw186_0; first | rwa [add_block] at this | exact this) GW187.out))) _).trans (((cell_far (p := ⟨gb187, _, none⟩) (by first | exact Nat.ne_of_lt (Nat.lt_of_lt_of_le (by have := World.block_lt_of_cell? _ _ hw186_0; first | rwa [add_block] at this | exact this) GW187.out) | (rw [add_block]; exact Nat.ne_of_lt (Nat.lt_of_lt_of_le (by have := World.block_lt_of_cell? _ _ hw186_0; first | rwa [add_block] at this | exact this) GW187.out)) | (show (Addr.add _ _).block ≠ _; rw [add_block]; exact Nat.ne_of_lt (Nat.lt_of_lt_of_le (by have := World.block_lt_of_cell? _ _ hw186_0; first | rwa [add_block] at this | exact this) GW187.out)) | (dsimp only; exact Nat.ne_of_lt (Nat.lt_of_lt_of_le (by have := World.block_lt_of_cell? _ _ hw186_0; first | rwa [add_block] at this | exact this) GW187.out))) _).trans (hHeld.2))))))⟩ (fun hHeld => ?_)
                                      clear hK K
                                      refine done_ (done_of HT_.out (by kernel_rfl)) ?_
                                      have p188 : 0 ≤ (x14_2 : Int) := of_decide_eq_true (by first | (with_reducible assumption) | assumption)
                                      have q188 : x14_2 < (l2.length : Int) := of_decide_eq_true (by first | (with_reducible assumption) | assumption)
                                      obtain ⟨ad188, e188, hx188_0⟩ := Kd.at_int HR2.out x14_2 p188 q188
                                      obtain rfl : ad185 = ad188 := (by injection e188)
                                      have hn188_0 : ad185.block ≠ gb187 := Nat.ne_of_lt (Nat.lt_of_lt_of_le (by have := World.block_lt_of_cell? _ _ hx188_0; first | rwa [add_block] at this | exact this) GW187.out)
                                      have hn188_1 : ad185.block ≠ gb187 := Nat.ne_of_lt (Nat.lt_of_lt_of_le (by have := World.block_lt_of_cell? _ _ hx188_0; first | rwa [add_block] at this | exact this) GW187.out)
                                      have hn188_2 : ad185.block ≠ gb187 := Nat.ne_of_lt (Nat.lt_of_lt_of_le (by have := World.block_lt_of_cell? _ _ hx188_0; first | rwa [add_block] at this | exact this) GW187.out)
                                      replace hx188_0 := (HB.out.cell (World.block_lt_of_cell? w _ hx188_0)).trans hx188_0
                                      replace hx188_0 := (cell_far (p := ⟨gb187, 0, none⟩) (by first | (rw [add_block]; exact hn188_0) | (show (Addr.add _ _).block ≠ _; rw [add_block]; exact hn188_0) | exact hn188_0) (.int .i64 1)).trans hx188_0
                                      replace hx188_0 := (cell_far (p := ⟨gb187, 1, none⟩) (by first | (rw [add_block]; exact hn188_1) | (show (Addr.add _ _).block ≠ _; rw [add_block]; exact hn188_1) | exact hn188_1) (.int .i64 (Int.tmod (wrap64 (rd l2 x14_2)) (l0.length : Int)))).trans hx188_0
                                      replace hx188_0 := (cell_far (p := ⟨gb187, 2, none⟩) (by first | (rw [add_block]; exact hn188_2) | (show (Addr.add _ _).block ≠ _; rw [add_block]; exact hn188_2) | exact hn188_2) (.int .u64 ji52)).trans hx188_0
                                      clear hn188_0
                                      clear hn188_1
                                      clear hn188_2
                                      replace p188 := eq_true p188
                                      replace q188 := eq_true q188
                                      have n0_ := Aside0.mk (Kd.R_mono (Kd.R_far (p := ⟨gb187, 2, none⟩) (Kd.R_far (p := ⟨gb187, 1, none⟩) (Kd.R_far (p := ⟨gb187, 0, none⟩) (Kd.R_mono HO_11.out (fun k_ hk => (⟨hk, hk.2⟩ : _ ∧ k_ ≠ gb187))) (fun _ hk => hk.2) (.int .i64 1)) (fun _ hk => hk.2) (.int .i64 (Int.tmod (wrap64 (rd l2 x14_2)) (l0.length : Int)))) (fun _ hk => hk.2) (.int .u64 ji52)) (fun _ hk => hk.1))
                                      have n1_ := Aside0.mk (Kd.R_mono (Kd.R_far (p := ⟨gb187, 2, none⟩) (Kd.R_far (p := ⟨gb187, 1, none⟩) (Kd.R_far (p := ⟨gb187, 0, none⟩) (Kd.R_mono HO_12.out (fun k_ hk => (⟨hk, hk.2⟩ : _ ∧ k_ ≠ gb187))) (fun _ hk => hk.2) (.int .i64 1)) (fun _ hk => hk.2) (.int .i64 (Int.tmod (wrap64 (rd l2 x14_2)) (l0.length : Int)))) (fun _ hk => hk.2) (.int .u64 ji52)) (fun _ hk => hk.1))
                                      have n2_ := Aside0.mk (Kd.R_mono (Kd.R_far (p := ⟨gb187, 2, none⟩) (Kd.R_far (p := ⟨gb187, 1, none⟩) (Kd.R_far (p := ⟨gb187, 0, none⟩) (Kd.R_mono HO_13.out (fun k_ hk => (⟨hk, hk.2⟩ : _ ∧ k_ ≠ gb187))) (fun _ hk => hk.2) (.int .i64 1)) (fun _ hk => hk.2) (.int .i64 (Int.tmod (wrap64 (rd l2 x14_2)) (l0.length : Int)))) (fun _ hk => hk.2) (.int .u64 ji52)) (fun _ hk => hk.1))
                                      have n8_ : Aside0 ((((w57.setCell ⟨gb187, 0, none⟩ (.int .i64 1)).setCell ⟨gb187, 1, none⟩ (.int .i64 (Int.tmod (wrap64 (rd l2 x14_2)) (l0.length : Int)))).setCell ⟨gb187, 2, none⟩ (.int .u64 ji52)).heap[gb187]? = some (.cells #[.int .i64 1, .int .i64 (Int.tmod (wrap64 (rd l2 x14_2)) (l0.length : Int)), .int .u64 ji52] 38 (0, 0))) := ⟨by refine blk_put (cs := #[.int .i64 1, .int .i64 (Int.tmod (wrap64 (rd l2 x14_2)) (l0.length : Int)), .int .u64 0]) ?_ 2 _ rfl; refine blk_put (cs := #[.int .i64 1, .int .i64 0, .int .u64 0]) ?_ 1 _ rfl; refine blk_put (cs := #[.int .i64 0, .int .i64 0, .int .u64 0]) ?_ 0 _ rfl; exact BK187.out⟩
                                      have n9_ : Aside0 (Below w.heap.size w (((w57.setCell ⟨gb187, 0, none⟩ (.int .i64 1)).setCell ⟨gb187, 1, none⟩ (.int .i64 (Int.tmod (wrap64 (rd l2 x14_2)) (l0.length : Int)))).setCell ⟨gb187, 2, none⟩ (.int .u64 ji52))) := ⟨below_set (below_set (below_set HB.out GE187.out) GE187.out) GE187.out⟩
                                      clear HO_11 HO_12 HO_13 BK187 HB
                                      generalize (((w57.setCell ⟨gb187, 0, none⟩ (.int .i64 1)).setCell ⟨gb187, 1, none⟩ (.int .i64 (Int.tmod (wrap64 (rd l2 x14_2)) (l0.length : Int)))).setCell ⟨gb187, 2, none⟩ (.int .u64 ji52)) = w187_ at hx188_0 n0_ n1_ n2_ n8_ n9_ ⊢
                                      have HO_11 := n0_
                                      have HO_12 := n1_
                                      have HO_13 := n2_
                                      have BK187 := n8_
                                      have HB := n9_
                                      clear n0_ n1_ n2_ n8_ n9_
                                      have hcz61_0 : w187_.cell? ⟨gb187, 0, none⟩ = some (.int .i64 1) := (blk_cell BK187.out 0).trans rfl
                                      have hcz61_1 : w187_.cell? ⟨gb187, 1, none⟩ = some (.int .i64 (Int.tmod (wrap64 (rd l2 x14_2)) (l0.length : Int))) := (blk_cell BK187.out 1).trans rfl
                                      have hcz61_2 : w187_.cell? ⟨gb187, 2, none⟩ = some (.int .u64 ji52) := (blk_cell BK187.out 2).trans rfl
                                      have hfz61_0 := blk_frozen BK187.out 0
                                      have hfz61_1 := blk_frozen BK187.out 1
                                      have hfz61_2 := blk_frozen BK187.out 2
                                      try go_wp2_with (first | ((with_reducible refine gate_builtin (b := .append) (xs := #[.tmp 133, .tmp 135]) rfl ?_); (try (refine gate_guard (by rfl) ?_; dsimp only)); at_builtin; refine Kd.R_append k38 (w0 := w) w.heap.size rfl (.tmp 133) (.tmp 135) 22 38 (.agg #[(.int .i64 0), (.int .i64 0), (.int .u64 0)]) 24 rfl Try.underlying22 info38 rfl (by decide) (by omega) u12 x12_2 (⟨2, Int.tmod (wrap64 (rd l2 x14_2)) (l0.length : Int), Go.bits .xor .u64 IntKind.u64.max (ji52)⟩ : S38) [.int .i64 2, .int .i64 (Int.tmod (wrap64 (rd l2 x14_2)) (l0.length : Int)), .int .u64 (Go.bits .xor .u64 IntKind.u64.max (ji52))] (fun k_ => some k_ ≠ (u11 : Value).ownBlock ∧ some k_ ≠ (u13 : Value).ownBlock ∧ k_ ≠ gb187) (fun _ => False) rfl (by first | (go_simp; done) | (go_simp; rfl)) ?aP (fun _ hk => hk.elim) ?aF ?aO ?aB ?aS ?aL ?_; (case aP => exact k38_mkM _ _ _ (⟨2, Int.tmod (wrap64 (rd l2 x14_2)) (l0.length : Int), Go.bits .xor .u64 IntKind.u64.max (ji52)⟩ : S38)); (case aB => exact (by repeat (first | (with_reducible first | exact HB.out | apply below_alloc | apply pw_below_drewN | apply below_drew1 | refine below_set ?_ GE187.out) | exact HB.out))); (case aF => exact (fun k_ hk => ⟨Kd.fresh' (Kd.R_lt (by (with_reducible repeat (first | apply Kd.R_alloc | apply Kd.R_drewN | apply Kd.R_drew)); exact (Kd.R_mono (Kd.R_far (p := ⟨gb187, 2, none⟩) (Kd.R_far (p := ⟨gb187, 1, none⟩) (Kd.R_far (p := ⟨gb187, 0, none⟩) (Kd.R_mono HO_11.out (fun k_ hk => (⟨hk, hk.2⟩ : _ ∧ k_ ≠ gb187))) (fun _ hk => hk.2) (.int .i64 2)) (fun _ hk => hk.2) (.int .i64 (Int.tmod (wrap64 (rd l2 x14_2)) (l0.length : Int)))) (fun _ hk => hk.2) (.int .u64 (Go.bits .xor .u64 IntKind.u64.max (ji52)))) (fun _ h_ => h_.1)))) k_ hk, Kd.fresh' (Kd.R_lt (by (with_reducible repeat (first | apply Kd.R_alloc | apply Kd.R_drewN | apply Kd.R_drew)); exact (Kd.R_mono (Kd.R_far (p := ⟨gb187, 2, none⟩) (Kd.R_far (p := ⟨gb187, 1, none⟩) (Kd.R_far (p := ⟨gb187, 0, none⟩) (Kd.R_mono HO_13.out (fun k_ hk => (⟨hk, hk.2⟩ : _ ∧ k_ ≠ gb187))) (fun _ hk => hk.2) (.int .i64 2)) (fun _ hk => hk.2) (.int .i64 (Int.tmod (wrap64 (rd l2 x14_2)) (l0.length : Int)))) (fun _ hk => hk.2) (.int .u64 (Go.bits .xor .u64 IntKind.u64.max (ji52)))) (fun _ h_ => h_.1)))) k_ hk, Kd.freshB (g := gb187) (o := .cells #[.int .i64 2, .int .i64 (Int.tmod (wrap64 (rd l2 x14_2)) (l0.length : Int)), .int .u64 (Go.bits .xor .u64 IntKind.u64.max (ji52))] 38 (0, 0)) (by (with_reducible repeat (first | refine blk_drewN ?_ _ | refine blk_drew ?_ | refine blk_alloc ?_ _)); refine blk_put (cs := #[.int .i64 2, .int .i64 (Int.tmod (wrap64 (rd l2 x14_2)) (l0.length : Int)), .int .u64 ji52]) ?_ 2 _ rfl; (with_reducible repeat (first | refine blk_drewN ?_ _ | refine blk_drew ?_ | refine blk_alloc ?_ _)); refine blk_put (cs := #[.int .i64 2, .int .i64 (Int.tmod (wrap64 (rd l2 x14_2)) (l0.length : Int)), .int .u64 ji52]) ?_ 1 _ rfl; (with_reducible repeat (first | refine blk_drewN ?_ _ | refine blk_drew ?_ | refine blk_alloc ?_ _)); refine blk_put (cs := #[.int .i64 1, .int .i64 (Int.tmod (wrap64 (rd l2 x14_2)) (l0.length : Int)), .int .u64 ji52]) ?_ 0 _ rfl; (with_reducible repeat (first | refine blk_drewN ?_ _ | refine blk_drew ?_ | refine blk_alloc ?_ _)); exact BK187.out) k_ hk⟩)); (case aO => exact (by (with_reducible repeat (first | apply Kd.R_alloc | apply Kd.R_drewN | apply Kd.R_drew)); exact Kd.R_mono (Kd.R_far (p := ⟨gb187, 2, none⟩) (Kd.R_far (p := ⟨gb187, 1, none⟩) (Kd.R_far (p := ⟨gb187, 0, none⟩) (Kd.R_mono HO_12.out (fun k_ hk => (⟨hk, hk.2⟩ : _ ∧ k_ ≠ gb187))) (fun _ hk => hk.2) (.int .i64 2)) (fun _ hk => hk.2) (.int .i64 (Int.tmod (wrap64 (rd l2 x14_2)) (l0.length : Int)))) (fun _ hk => hk.2) (.int .u64 (Go.bits .xor .u64 IntKind.u64.max (ji52)))) (fun _ hk => ⟨hk.1.1.1, ⟨hk.1.1.2, hk.1.2⟩⟩))); (case aS => exact (below_size (by repeat (first | (with_reducible first | exact HB.out | apply below_alloc | apply pw_below_drewN | apply below_drew1 | refine below_set ?_ GE187.out) | exact HB.out)))); (case aL => have := LMc54.out; omega); intro v190 w62 ho hb hg hat; rw [← Ny189.out] at ho; have n0_ := Aside0.mk (Kd.R_after (ok := (fun k_ => some k_ ≠ (u13 : Value).ownBlock ∧ k_ ≠ gb187)) (by (with_reducible repeat (first | apply Kd.R_alloc | apply Kd.R_drewN | apply Kd.R_drew)); exact Kd.R_mono (Kd.R_far (p := ⟨gb187, 2, none⟩) (Kd.R_far (p := ⟨gb187, 1, none⟩) (Kd.R_far (p := ⟨gb187, 0, none⟩) (Kd.R_mono HO_11.out (fun k_ hk => (⟨hk, hk.2⟩ : _ ∧ k_ ≠ gb187))) (fun _ hk => hk.2) (.int .i64 2)) (fun _ hk => hk.2) (.int .i64 (Int.tmod (wrap64 (rd l2 x14_2)) (l0.length : Int)))) (fun _ hk => hk.2) (.int .u64 (Go.bits .xor .u64 IntKind.u64.max (ji52)))) (fun _ hk => ⟨⟨hk.1.1.2, hk.1.2⟩, hk.1.1.1⟩)) hg hat); have n1_ := Aside0.mk (Kd.R_after (ok := (fun k_ => some k_ ≠ (u11 : Value).ownBlock ∧ k_ ≠ gb187)) (by (with_reducible repeat (first | apply Kd.R_alloc | apply Kd.R_drewN | apply Kd.R_drew)); exact Kd.R_mono (Kd.R_far (p := ⟨gb187, 2, none⟩) (Kd.R_far (p := ⟨gb187, 1, none⟩) (Kd.R_far (p := ⟨gb187, 0, none⟩) (Kd.R_mono HO_13.out (fun k_ hk => (⟨hk, hk.2⟩ : _ ∧ k_ ≠ gb187))) (fun _ hk => hk.2) (.int .i64 2)) (fun _ hk => hk.2) (.int .i64 (Int.tmod (wrap64 (rd l2 x14_2)) (l0.length : Int)))) (fun _ hk => hk.2) (.int .u64 (Go.bits .xor .u64 IntKind.u64.max (ji52)))) (fun _ hk => ⟨⟨hk.1.1.1, hk.1.2⟩, hk.1.1.2⟩)) hg hat); have n2_ := Aside0.mk (blk_grown (g := gb187) (o := .cells #[.int .i64 2, .int .i64 (Int.tmod (wrap64 (rd l2 x14_2)) (l0.length : Int)), .int .u64 (Go.bits .xor .u64 IntKind.u64.max (ji52))] 38 (0, 0)) (by (with_reducible repeat (first | refine blk_drewN ?_ _ | refine blk_drew ?_ | refine blk_alloc ?_ _)); refine blk_put (cs := #[.int .i64 2, .int .i64 (Int.tmod (wrap64 (rd l2 x14_2)) (l0.length : Int)), .int .u64 ji52]) ?_ 2 _ rfl; (with_reducible repeat (first | refine blk_drewN ?_ _ | refine blk_drew ?_ | refine blk_alloc ?_ _)); refine blk_put (cs := #[.int .i64 2, .int .i64 (Int.tmod (wrap64 (rd l2 x14_2)) (l0.length : Int)), .int .u64 ji52]) ?_ 1 _ rfl; (with_reducible repeat (first | refine blk_drewN ?_ _ | refine blk_drew ?_ | refine blk_alloc ?_ _)); refine blk_put (cs := #[.int .i64 1, .int .i64 (Int.tmod (wrap64 (rd l2 x14_2)) (l0.length : Int)), .int .u64 ji52]) ?_ 0 _ rfl; (with_reducible repeat (first | refine blk_drewN ?_ _ | refine blk_drew ?_ | refine blk_alloc ?_ _)); exact BK187.out) hg (Kd.R_away HO_12.out (fun _ hk => hk.2))); have n3_ := Aside0.mk (hb); have n4_ := Aside0.mk (ho); clear HO_11; clear HO_13; clear BK187; clear HB; clear HO_12; have HO_11 := n0_; have HO_13 := n1_; have BK187 := n2_; have HB := n3_; have HO191 := n4_; clear n0_ n1_ n2_ n3_ n4_; clear ho hb hg hat; have hcz63_0 : w62.cell? ⟨gb187, 0, none⟩ = some (.int .i64 2) := (blk_cell BK187.out 0).trans rfl; have hcz63_1 : w62.cell? ⟨gb187, 1, none⟩ = some (.int .i64 (Int.tmod (wrap64 (rd l2 x14_2)) (l0.length : Int))) := (blk_cell BK187.out 1).trans rfl; have hcz63_2 : w62.cell? ⟨gb187, 2, none⟩ = some (.int .u64 (Go.bits .xor .u64 IntKind.u64.max (ji52))) := (blk_cell BK187.out 2).trans rfl; have hfz63_0 := blk_frozen BK187.out 0; have hfz63_1 := blk_frozen BK187.out 1; have hfz63_2 := blk_frozen BK187.out 2) | ((with_reducible refine gate_builtin (b := .append) (xs := #[.tmp 137, .tmp 139]) rfl ?_); (try (refine gate_guard (by rfl) ?_; dsimp only)); at_builtin; refine Kd.R_append k38 (w0 := w) w.heap.size rfl (.tmp 137) (.tmp 139) 22 38 (.agg #[(.int .i64 0), (.int .i64 0), (.int .u64 0)]) 24 rfl Try.underlying22 info38 rfl (by decide) (by omega) u13 x13_14 (⟨2, Int.tmod (wrap64 (rd l2 x14_2)) (l0.length : Int), Go.bits .xor .u64 IntKind.u64.max (ji52)⟩ : S38) [.int .i64 2, .int .i64 (Int.tmod (wrap64 (rd l2 x14_2)) (l0.length : Int)), .int .u64 (Go.bits .xor .u64 IntKind.u64.max (ji52))] (fun k_ => some k_ ≠ (u11 : Value).ownBlock ∧ some k_ ≠ (v190 : Value).ownBlock ∧ k_ ≠ gb187) (fun _ => False) rfl rfl ?aP (fun _ hk => hk.elim) ?aF ?aO ?aB ?aS ?aL ?_; (case aP => exact k38_mkM _ _ _ (⟨2, Int.tmod (wrap64 (rd l2 x14_2)) (l0.length : Int), Go.bits .xor .u64 IntKind.u64.max (ji52)⟩ : S38)); (case aB => exact (by repeat (first | (with_reducible first | exact HB.out | apply below_alloc | apply pw_below_drewN | apply below_drew1 | refine below_set ?_ GE187.out) | exact HB.out))); (case aF => exact (fun k_ hk => ⟨Kd.fresh' (Kd.R_lt (by (with_reducible repeat (first | apply Kd.R_alloc | apply Kd.R_drewN | apply Kd.R_drew)); exact HO_11.out)) k_ hk, Kd.fresh' (Kd.R_lt (by (with_reducible repeat (first | apply Kd.R_alloc | apply Kd.R_drewN | apply Kd.R_drew)); exact HO191.out)) k_ hk, Kd.freshB (g := gb187) (o := .cells #[.int .i64 2, .int .i64 (Int.tmod (wrap64 (rd l2 x14_2)) (l0.length : Int)), .int .u64 (Go.bits .xor .u64 IntKind.u64.max (ji52))] 38 (0, 0)) (by (with_reducible repeat (first | refine blk_drewN ?_ _ | refine blk_drew ?_ | refine blk_alloc ?_ _)); exact BK187.out) k_ hk⟩)); (case aO => exact (by (with_reducible repeat (first | apply Kd.R_alloc | apply Kd.R_drewN | apply Kd.R_drew)); exact Kd.R_mono HO_13.out (fun _ hk => ⟨hk.1.1, ⟨hk.2, hk.1.2⟩⟩))); (case aS => exact (below_size (by repeat (first | (with_reducible first | exact HB.out | apply below_alloc | apply pw_below_drewN | apply below_drew1 | refine below_set ?_ GE187.out) | exact HB.out)))); (case aL => have := LMc55.out; omega); intro v193 w64 ho hb hg hat; rw [← Ny192.out] at ho; have n0_ := Aside0.mk (Kd.R_after (ok := (fun k_ => some k_ ≠ (v190 : Value).ownBlock ∧ k_ ≠ gb187)) (by (with_reducible repeat (first | apply Kd.R_alloc | apply Kd.R_drewN | apply Kd.R_drew)); exact Kd.R_mono HO_11.out (fun _ hk => ⟨⟨hk.2, hk.1.2⟩, hk.1.1⟩)) hg hat); have n1_ := Aside0.mk (blk_grown (g := gb187) (o := .cells #[.int .i64 2, .int .i64 (Int.tmod (wrap64 (rd l2 x14_2)) (l0.length : Int)), .int .u64 (Go.bits .xor .u64 IntKind.u64.max (ji52))] 38 (0, 0)) (by (with_reducible repeat (first | refine blk_drewN ?_ _ | refine blk_drew ?_ | refine blk_alloc ?_ _)); exact BK187.out) hg (Kd.R_away HO_13.out (fun _ hk => hk.1.2))); have n2_ := Aside0.mk (Kd.R_after (ok := (fun k_ => some k_ ≠ (u11 : Value).ownBlock ∧ k_ ≠ gb187)) (by (with_reducible repeat (first | apply Kd.R_alloc | apply Kd.R_drewN | apply Kd.R_drew)); exact Kd.R_mono HO191.out (fun _ hk => ⟨⟨hk.1, hk.2.2⟩, hk.2.1⟩)) hg hat); have n3_ := Aside0.mk (hb); have n4_ := Aside0.mk (ho); clear HO_11; clear BK187; clear HO191; clear HB; clear HO_13; have HO_11 := n0_; have BK187 := n1_; have HO191 := n2_; have HB := n3_; have HO194 := n4_; clear n0_ n1_ n2_ n3_ n4_; clear ho hb hg hat))
                                      go_roundg kj14
                                      case measure => have := HJ5.out; have := HK2.out; have := HJ11.out; have := HJ14.out; omega
                                      case rel => exact ⟨(x11_14), (y189), (y192), (wrap64 (x14_2 + 1)), (by first | rfl | (simp; done) | (simp [*]; done)), (by first | exact H' | (subst_vars; exact H')), ⟨by have := HJ5.out; have := HK2.out; have := HJ11.out; have := HJ14.out; omega⟩, ⟨by (with_reducible repeat (first | apply Kd.R_alloc | apply Kd.R_drewN | apply Kd.R_drew)); exact Kd.R_mono HO_11.out (fun _ hk => ⟨hk.1.1, hk.2⟩)⟩, ⟨by (with_reducible repeat (first | apply Kd.R_alloc | apply Kd.R_drewN | apply Kd.R_drew)); exact Kd.R_mono HO191.out (fun _ hk => ⟨hk.1.1, hk.2⟩)⟩, ⟨by (with_reducible repeat (first | apply Kd.R_alloc | apply Kd.R_drewN | apply Kd.R_drew)); exact Kd.R_mono HO194.out (fun _ hk => ⟨hk.1, hk.2.1⟩)⟩, ⟨by repeat (first | (with_reducible first | exact HB.out | apply below_alloc | apply pw_below_drewN | apply below_drew1 | refine below_set ?_ GE187.out) | exact HB.out)⟩⟩
                                    · rw [if_neg c55] at H
                                      exact absurd H (by simp)
                                  · rw [if_neg c54] at H
                                    exact absurd H (by simp)
                                · rw [if_neg c53] at H
                                  have c53b0 : ((Int.tmod (rd l2 x14_2) 3) == 0) = false := beq_eq_false_iff_ne.mpr c53
                                  have c53b1 : ((Int.tmod (rd l2 x14_2) 3) != 0) = true := bne_iff_ne.mpr c53
                                  by_cases c65 : x12_2.length < 5864062014805
                                  · rw [if_pos c65] at H
                                    have LMc65 := Aside0.mk c65
                                    clear c65
                                    obtain ⟨y195, hy195⟩ : ∃ y_ : List (S38), y_ = (x12_2 ++ [(⟨1, Int.tmod (wrap64 (rd l2 x14_2)) (l0.length : Int), ji52⟩ : S38)]) := ⟨_, rfl⟩
                                    replace H : (if x13_14.length < 5864062014805 then (lockfastlaw12_RedoApart.l0 kj14 l0 l1 l2 t168 (wrap64 (1 + (wrap64 (Int.tmod a3 63)))) x11_14 y195 (x13_14 ++ [(⟨1, Int.tmod (wrap64 (rd l2 x14_2)) (l0.length : Int), ji52⟩ : S38)]) (wrap64 (x14_2 + 1))) else (none)) = some r := by first | (rw [hy195]; with_reducible exact H) | (have H2_ := (Option.bind_some _ _).symm.trans H; rw [hy195]; with_reducible exact H2_) | (have H2_ := (Option.bind_some _ _).symm.trans H; with_reducible exact H2_) | with_reducible exact H | (rw [hy195]; exact H) | exact H
                                    have Ny195 := Aside0.mk hy195
                                    clear hy195
                                    by_cases c66 : x13_14.length < 5864062014805
                                    · rw [if_pos c66] at H
                                      have LMc66 := Aside0.mk c66
                                      clear c66
                                      obtain ⟨y198, hy198⟩ : ∃ y_ : List (S38), y_ = (x13_14 ++ [(⟨1, Int.tmod (wrap64 (rd l2 x14_2)) (l0.length : Int), ji52⟩ : S38)]) := ⟨_, rfl⟩
                                      replace H : (lockfastlaw12_RedoApart.l0 kj14 l0 l1 l2 t168 (wrap64 (1 + (wrap64 (Int.tmod a3 63)))) x11_14 y195 y198 (wrap64 (x14_2 + 1))) = some r := by first | (rw [hy198]; with_reducible exact H) | (have H2_ := (Option.bind_some _ _).symm.trans H; rw [hy198]; with_reducible exact H2_) | (have H2_ := (Option.bind_some _ _).symm.trans H; with_reducible exact H2_) | with_reducible exact H | (rw [hy198]; exact H) | exact H
                                      have Ny198 := Aside0.mk hy198
                                      clear hy198
                                      have H' := Aside0.mk H
                                      clear H
                                      try go_wp2
                                      have n0_ := Aside0.mk (Kd.R_drew HO_11.out)
                                      have n1_ := Aside0.mk (Kd.R_drew HO_12.out)
                                      have n2_ := Aside0.mk (Kd.R_drew HO_13.out)
                                      have n3_ := Aside0.mk (below_drew1 HB.out)
                                      clear HO_11
                                      clear HO_12
                                      clear HO_13
                                      clear HB
                                      have HO_11 := n0_
                                      have HO_12 := n1_
                                      have HO_13 := n2_
                                      have HB := n3_
                                      clear n0_ n1_ n2_ n3_
                                      have p185 : 0 ≤ (x14_2 : Int) := of_decide_eq_true (by first | (with_reducible assumption) | assumption)
                                      have q185 : x14_2 < (l2.length : Int) := of_decide_eq_true (by first | (with_reducible assumption) | assumption)
                                      obtain ⟨ad185, e185, hx185_0⟩ := Kd.at_int HR2.out x14_2 p185 q185
                                      have hw185_0 := hx185_0
                                      cases e185
                                      replace hx185_0 := (HB.out.cell (World.block_lt_of_cell? w _ hx185_0)).trans hx185_0
                                      replace p185 := eq_true p185
                                      replace q185 := eq_true q185
                                      have p186 : 0 ≤ (x14_2 : Int) := of_decide_eq_true (by first | (with_reducible assumption) | assumption)
                                      have q186 : x14_2 < (l2.length : Int) := of_decide_eq_true (by first | (with_reducible assumption) | assumption)
                                      obtain ⟨ad186, e186, hx186_0⟩ := Kd.at_int HR2.out x14_2 p186 q186
                                      have hw186_0 := hx186_0
                                      obtain rfl : ad185 = ad186 := (by injection e186)
                                      replace hx186_0 := (HB.out.cell (World.block_lt_of_cell? w _ hx186_0)).trans hx186_0
                                      replace p186 := eq_true p186
                                      replace q186 := eq_true q186
                                      refine start_ (n := 22) (S := fun w' => w'.cell? (ad185.add (x14_2).toNat) = some (.int .u8 (rd l2 x14_2)) ∧ w'.cell? (ad185.add (x14_2).toNat) = some (.int .u8 (rd l2 x14_2))) (ds := []) #[false, false, false, false, false, false, false, false, false, false, false, false, false, false, false, false, false, false, false, false, false, false] (by kernel_rfl) rfl rfl ⟨((HB.out.cell (World.block_lt_of_cell? w _ hw185_0)).trans hw185_0), ((HB.out.cell (World.block_lt_of_cell? w _ hw186_0)).trans hw186_0)⟩ (fun hHeld => ?_); refine with_tabW lockfastlaw12_RedoApart.tab16 lockfastlaw12_RedoApart.bits16 (fun HT_ HW_ => ?_)
                                      generalize wc.drew = w67 at HO_11 HO_12 HO_13 HB hx185_0 hx186_0 hHeld ⊢
                                      refine pure_ (i := 0) (N := some 101) (v := ?_) (a' := ?_) #[true, false, false, false, false, false, false, false, false, false, false, false, false, false, false, false, false, false, false, false, false, false] rfl rfl (any_of HT_.out (by kernel_rfl)) (fun _ _ _ h => h) (Or.inl ⟨by rfl, ?_⟩) ?_ ?_
                                      rotate_left
                                      · intro w'
                                        go_simp
                                        with_reducible rfl
                                      rotate_left
                                      · simp only [Act.put, List.setIfInBounds_toArray, List.set_cons_zero, List.set_cons_succ, i64_w, i32_w]
                                        rfl
                                      refine pure_ (i := 1) (N := some 102) (v := ?_) (a' := ?_) #[true, true, false, false, false, false, false, false, false, false, false, false, false, false, false, false, false, false, false, false, false, false] rfl rfl (any_of HT_.out (by kernel_rfl)) (fun _ _ _ h => h) (Or.inl ⟨by rfl, ?_⟩) ?_ ?_
                                      rotate_left
                                      · intro w'
                                        go_simp
                                        with_reducible rfl
                                      rotate_left
                                      · simp only [Act.put, List.setIfInBounds_toArray, List.set_cons_zero, List.set_cons_succ, i64_w, i32_w]
                                        rfl
                                      refine pure_ (i := 2) (N := some 103) (v := ?_) (a' := ?_) #[true, true, true, false, false, false, false, false, false, false, false, false, false, false, false, false, false, false, false, false, false, false] rfl rfl (any_of HT_.out (by kernel_rfl)) (fun _ _ _ h => h) (Or.inl ⟨by rfl, ?_⟩) ?_ ?_
                                      rotate_left
                                      · intro w'
                                        go_simp
                                        with_reducible rfl
                                      rotate_left
                                      · simp only [Act.put, List.setIfInBounds_toArray, List.set_cons_zero, List.set_cons_succ, i64_w, i32_w]
                                        rfl
                                      refine pure_ (i := 5) (N := some 106) (v := ?_) (a' := ?_) #[true, true, true, false, false, true, false, false, false, false, false, false, false, false, false, false, false, false, false, false, false, false] rfl rfl (any_of HT_.out (by kernel_rfl)) (fun _ _ _ h => h) (Or.inl ⟨by rfl, ?_⟩) ?_ ?_
                                      rotate_left
                                      · intro w'
                                        go_simp
                                        with_reducible rfl
                                      rotate_left
                                      · simp only [Act.put, List.setIfInBounds_toArray, List.set_cons_zero, List.set_cons_succ, i64_w, i32_w]
                                        rfl
                                      refine pure_ (i := 6) (N := some 107) (v := ?_) (a' := ?_) #[true, true, true, false, false, true, true, false, false, false, false, false, false, false, false, false, false, false, false, false, false, false] rfl rfl (any_of HT_.out (by kernel_rfl)) (fun _ _ _ h => h) (Or.inl ⟨by rfl, ?_⟩) ?_ ?_
                                      rotate_left
                                      · intro w'
                                        go_simp
                                        with_reducible rfl
                                      rotate_left
                                      · simp only [Act.put, List.setIfInBounds_toArray, List.set_cons_zero, List.set_cons_succ, i64_w, i32_w]
                                        rfl
                                      refine pure_ (i := 8) (N := some 109) (v := ?_) (a' := ?_) #[true, true, true, false, false, true, true, false, true, false, false, false, false, false, false, false, false, false, false, false, false, false] rfl rfl (any_of HT_.out (by kernel_rfl)) (fun _ _ _ h => h) (Or.inl ⟨by rfl, ?_⟩) ?_ ?_
                                      rotate_left
                                      · intro w'
                                        go_simp
                                        with_reducible rfl
                                      rotate_left
                                      · simp only [Act.put, List.setIfInBounds_toArray, List.set_cons_zero, List.set_cons_succ, i64_w, i32_w]
                                        rfl
                                      refine pure_ (i := 9) (N := some 110) (v := ?_) (a' := ?_) #[true, true, true, false, false, true, true, false, true, true, false, false, false, false, false, false, false, false, false, false, false, false] rfl rfl (any_of HT_.out (by kernel_rfl)) (fun _ _ _ h => h) (Or.inl ⟨by rfl, ?_⟩) ?_ ?_
                                      rotate_left
                                      · intro w'
                                        go_simp
                                        with_reducible rfl
                                      rotate_left
                                      · simp only [Act.put, List.setIfInBounds_toArray, List.set_cons_zero, List.set_cons_succ, i64_w, i32_w]
                                        rfl
                                      refine pure_ (i := 10) (N := some 111) (v := ?_) (a' := ?_) #[true, true, true, false, false, true, true, false, true, true, true, false, false, false, false, false, false, false, false, false, false, false] rfl rfl (any_of HT_.out (by kernel_rfl)) (fun _ _ _ h => h) (Or.inl ⟨by rfl, ?_⟩) ?_ ?_
                                      rotate_left
                                      · intro w'
                                        go_simp
                                        with_reducible rfl
                                      rotate_left
                                      · simp only [Act.put, List.setIfInBounds_toArray, List.set_cons_zero, List.set_cons_succ, i64_w, i32_w]
                                        rfl
                                      refine pure_ (i := 11) (N := some 112) (v := ?_) (a' := ?_) #[true, true, true, false, false, true, true, false, true, true, true, true, false, false, false, false, false, false, false, false, false, false] rfl rfl (any_of HT_.out (by kernel_rfl)) (fun _ _ _ h => h) (Or.inl ⟨by rfl, ?_⟩) ?_ ?_
                                      rotate_left
                                      · intro w'
                                        go_simp
                                        with_reducible rfl
                                      rotate_left
                                      · simp only [Act.put, List.setIfInBounds_toArray, List.set_cons_zero, List.set_cons_succ, i64_w, i32_w]
                                        rfl
                                      refine pure_ (i := 14) (N := some 115) (v := ?_) (a' := ?_) #[true, true, true, false, false, true, true, false, true, true, true, true, false, false, true, false, false, false, false, false, false, false] rfl rfl (any_of HT_.out (by kernel_rfl)) (fun _ _ _ h => h) (Or.inl ⟨by rfl, ?_⟩) ?_ ?_
                                      rotate_left
                                      · intro w'
                                        go_simp
                                        with_reducible rfl
                                      rotate_left
                                      · simp only [Act.put, List.setIfInBounds_toArray, List.set_cons_zero, List.set_cons_succ, i64_w, i32_w]
                                        rfl
                                      refine pure_ (i := 15) (N := some 116) (v := ?_) (a' := ?_) #[true, true, true, false, false, true, true, false, true, true, true, true, false, false, true, true, false, false, false, false, false, false] rfl rfl (any_of HT_.out (by kernel_rfl)) (fun _ _ _ h => h) (Or.inl ⟨by rfl, ?_⟩) ?_ ?_
                                      rotate_left
                                      · intro w'
                                        go_simp
                                        with_reducible rfl
                                      rotate_left
                                      · simp only [Act.put, List.setIfInBounds_toArray, List.set_cons_zero, List.set_cons_succ, i64_w, i32_w]
                                        rfl
                                      refine take_ (i := 3) (N := some 104) (v := ?_) (a' := ?_) #[true, true, true, true, false, true, true, false, true, true, true, true, false, false, true, true, false, false, false, false, false, false] rfl rfl (take_ofW HT_.out HW_.out (by kernel_rfl)) (fun _ _ _ h => h) (Or.inl ⟨by rfl, ?_⟩) hHeld ?_ ?_
                                      rotate_left
                                      · rintro w' ⟨s0, s1⟩
                                        go_simp
                                        with_reducible rfl
                                      rotate_left
                                      · simp only [Act.put, List.setIfInBounds_toArray, List.set_cons_zero, List.set_cons_succ, i64_w, i32_w]
                                        rfl
                                      refine pure_ (i := 4) (N := some 105) (v := ?_) (a' := ?_) #[true, true, true, true, true, true, true, false, true, true, true, true, false, false, true, true, false, false, false, false, false, false] rfl rfl (any_of HT_.out (by kernel_rfl)) (fun _ _ _ h => h) (Or.inl ⟨by rfl, ?_⟩) ?_ ?_
                                      rotate_left
                                      · intro w'
                                        go_simp
                                        with_reducible rfl
                                      rotate_left
                                      · simp only [Act.put, List.setIfInBounds_toArray, List.set_cons_zero, List.set_cons_succ, i64_w, i32_w]
                                        rfl
                                      refine pure_ (i := 7) (N := some 108) (v := ?_) (a' := ?_) #[true, true, true, true, true, true, true, true, true, true, true, true, false, false, true, true, false, false, false, false, false, false] rfl rfl (any_of HT_.out (by kernel_rfl)) (fun _ _ _ h => h) (Or.inl ⟨by rfl, ?_⟩) ?_ ?_
                                      rotate_left
                                      · intro w'
                                        go_simp
                                        with_reducible rfl
                                      rotate_left
                                      · simp only [Act.put, List.setIfInBounds_toArray, List.set_cons_zero, List.set_cons_succ, i64_w, i32_w]
                                        rfl
                                      refine take_ (i := 12) (N := some 113) (v := ?_) (a' := ?_) #[true, true, true, true, true, true, true, true, true, true, true, true, true, false, true, true, false, false, false, false, false, false] rfl rfl (take_ofW HT_.out HW_.out (by kernel_rfl)) (fun _ _ _ h => h) (Or.inl ⟨by rfl, ?_⟩) hHeld ?_ ?_
                                      rotate_left
                                      · rintro w' ⟨s0, s1⟩
                                        go_simp
                                        with_reducible rfl
                                      rotate_left
                                      · simp only [Act.put, List.setIfInBounds_toArray, List.set_cons_zero, List.set_cons_succ, i64_w, i32_w]
                                        rfl
                                      refine pure_ (i := 13) (N := some 114) (v := ?_) (a' := ?_) #[true, true, true, true, true, true, true, true, true, true, true, true, true, true, true, true, false, false, false, false, false, false] rfl rfl (any_of HT_.out (by kernel_rfl)) (fun _ _ _ h => h) (Or.inl ⟨by rfl, ?_⟩) ?_ ?_
                                      rotate_left
                                      · intro w'
                                        go_simp
                                        with_reducible rfl
                                      rotate_left
                                      · simp only [Act.put, List.setIfInBounds_toArray, List.set_cons_zero, List.set_cons_succ, i64_w, i32_w]
                                        rfl
                                      refine pure_ (i := 16) (N := some 117) (v := ?_) (a' := ?_) #[true, true, true, true, true, true, true, true, true, true, true, true, true, true, true, true, true, false, false, false, false, false] rfl rfl (any_of HT_.out (by kernel_rfl)) (fun _ _ _ h => h) (Or.inl ⟨by rfl, ?_⟩) ?_ ?_
                                      rotate_left
                                      · intro w'
                                        go_simp
                                        with_reducible rfl
                                      rotate_left
                                      · simp only [Act.put, List.setIfInBounds_toArray, List.set_cons_zero, List.set_cons_succ, i64_w, i32_w]
                                        rfl
                                      refine pure_ (i := 17) (N := some 118) (v := ?_) (a' := ?_) #[true, true, true, true, true, true, true, true, true, true, true, true, true, true, true, true, true, true, false, false, false, false] rfl rfl (any_of HT_.out (by kernel_rfl)) (fun _ _ _ h => h) (Or.inl ⟨by rfl, ?_⟩) ?_ ?_
                                      rotate_left
                                      · intro w'
                                        go_simp
                                        with_reducible rfl
                                      rotate_left
                                      · simp only [Act.put, List.setIfInBounds_toArray, List.set_cons_zero, List.set_cons_succ, i64_w, i32_w]
                                        rfl
                                      refine pure_ (i := 18) (N := some 119) (v := ?_) (a' := ?_) #[true, true, true, true, true, true, true, true, true, true, true, true, true, true, true, true, true, true, true, false, false, false] rfl rfl (any_of HT_.out (by kernel_rfl)) (fun _ _ _ h => h) (Or.inl ⟨by rfl, ?_⟩) ?_ ?_
                                      rotate_left
                                      · intro w'
                                        go_simp
                                        with_reducible rfl
                                      rotate_left
                                      · simp only [Act.put, List.setIfInBounds_toArray, List.set_cons_zero, List.set_cons_succ, i64_w, i32_w]
                                        rfl
                                      refine pure_ (i := 19) (N := some 120) (v := ?_) (a' := ?_) #[true, true, true, true, true, true, true, true, true, true, true, true, true, true, true, true, true, true, true, true, false, false] rfl rfl (any_of HT_.out (by kernel_rfl)) (fun _ _ _ h => h) (Or.inl ⟨by rfl, ?_⟩) ?_ ?_
                                      rotate_left
                                      · intro w'
                                        go_simp
                                        with_reducible rfl
                                      rotate_left
                                      · simp only [Act.put, List.setIfInBounds_toArray, List.set_cons_zero, List.set_cons_succ, i64_w, i32_w]
                                        rfl
                                      refine one_ (i := 20) (N := some 16) #[true, true, true, true, true, true, true, true, true, true, true, true, true, true, true, true, true, true, true, true, true, false] rfl rfl (one_of HT_.out (by kernel_rfl)) (by decide) (fun K hK => ?_)
                                      refine box_step ?hg (N := 16) ?hd (cs := #[.int .i64 0, .int .i64 0, .int .u64 0]) (t := 38) ?hr ?_; (case hd => rfl); (case hg => rfl); (case hr => first | (go_simp; done) | (go_simp; rfl))
                                      intro gb187 hg w68 hbox hb
                                      have n0_ := Aside0.mk (Kd.R_below (Kd.R_elderB (by (with_reducible repeat (first | apply Kd.R_alloc | apply Kd.R_drewN | apply Kd.R_drew)); exact HO_11.out) gb187 (Nat.le_of_eq hg.symm)) hb)
                                      have n1_ := Aside0.mk (Kd.R_below (Kd.R_elderB (by (with_reducible repeat (first | apply Kd.R_alloc | apply Kd.R_drewN | apply Kd.R_drew)); exact HO_12.out) gb187 (Nat.le_of_eq hg.symm)) hb)
                                      have n2_ := Aside0.mk (Kd.R_below (Kd.R_elderB (by (with_reducible repeat (first | apply Kd.R_alloc | apply Kd.R_drewN | apply Kd.R_drew)); exact HO_13.out) gb187 (Nat.le_of_eq hg.symm)) hb)
                                      have n3_ := Aside0.mk (below_step (by repeat (first | (with_reducible first | exact HB.out | apply below_alloc | apply pw_below_drewN | apply below_drew1) | exact HB.out)) hb)
                                      have n4_ := Aside0.mk (hbox)
                                      have n5_ := Aside0.mk ((by rw [hg]; exact (below_size (by repeat (first | (with_reducible first | exact HB.out | apply below_alloc | apply pw_below_drewN | apply below_drew1) | exact HB.out))) : w.heap.size ≤ gb187))
                                      have n6_ := Aside0.mk ((by rw [hg]; exact (below_size (by repeat (first | (with_reducible first | exact HB.out | apply below_alloc | apply pw_below_drewN | apply below_drew1) | exact HB.out))) : w.heap.size ≤ gb187))
                                      clear HO_11
                                      clear HO_12
                                      clear HO_13
                                      clear HB
                                      have HO_11 := n0_
                                      have HO_12 := n1_
                                      have HO_13 := n2_
                                      have HB := n3_
                                      have BK187 := n4_
                                      have GW187 := n5_
                                      have GE187 := n6_
                                      clear n0_ n1_ n2_ n3_ n4_ n5_ n6_
                                      clear hb hbox hg
                                      refine hK.out _ _ ⟨((HB.out.cell (World.block_lt_of_cell? w _ hw185_0)).trans hw185_0), ((HB.out.cell (World.block_lt_of_cell? w _ hw186_0)).trans hw186_0)⟩ (fun hHeld => ?_)
                                      clear hK K
                                      refine norm_ (a' := ?_) ?_ ?_
                                      rotate_left
                                      · show Act.put _ (some 16) _ = _
                                        simp only [Act.put, List.setIfInBounds_toArray, List.set_cons_zero, List.set_cons_succ, i64_w, i32_w]
                                        rfl
                                      refine one_ (i := 21) (N := none) #[true, true, true, true, true, true, true, true, true, true, true, true, true, true, true, true, true, true, true, true, true, true] rfl rfl (one_of HT_.out (by kernel_rfl)) (by decide) (fun K hK => ?_)
                                      have hs69 : w68.cell? ⟨gb187, 0, none⟩ = some (.int .i64 0) := (blk_cell BK187.out 0).trans rfl
                                      have hfs69 := blk_frozen BK187.out 0
                                      have hs70 : w68.cell? ⟨gb187, 1, none⟩ = some (.int .i64 0) := (blk_cell BK187.out 1).trans rfl
                                      have hfs70 := blk_frozen BK187.out 1
                                      have hs71 : w68.cell? ⟨gb187, 2, none⟩ = some (.int .u64 0) := (blk_cell BK187.out 2).trans rfl
                                      have hfs71 := blk_frozen BK187.out 2
                                      refine skip_ (w1 := ?_) (by rfl) rfl ?_ ?_
                                      rotate_left
                                      · go_simp
                                        rfl
                                      refine hK.out _ _ ⟨((cell_far (p := ⟨gb187, _, none⟩) (by first | exact Nat.ne_of_lt (Nat.lt_of_lt_of_le (by have := World.block_lt_of_cell? _ _ hw185_0; first | rwa [add_block] at this | exact this) GW187.out) | (rw [add_block]; exact Nat.ne_of_lt (Nat.lt_of_lt_of_le (by have := World.block_lt_of_cell? _ _ hw185_0; first | rwa [add_block] at this | exact this) GW187.out)) | (show (Addr.add _ _).block ≠ _; rw [add_block]; exact Nat.ne_of_lt (Nat.lt_of_lt_of_le (by have := World.block_lt_of_cell? _ _ hw185_0; first | rwa [add_block] at this | exact this) GW187.out)) | (dsimp only; exact Nat.ne_of_lt (Nat.lt_of_lt_of_le (by have := World.block_lt_of_cell? _ _ hw185_0; first | rwa [add_block] at this | exact this) GW187.out))) _).trans (((cell_far (p := ⟨gb187, _, none⟩) (by first | exact Nat.ne_of_lt (Nat.lt_of_lt_of_le (by have := World.block_lt_of_cell? _ _ hw185_0; first | rwa [add_block] at this | exact this) GW187.out) | (rw [add_block]; exact Nat.ne_of_lt (Nat.lt_of_lt_of_le (by have := World.block_lt_of_cell? _ _ hw185_0; first | rwa [add_block] at this | exact this) GW187.out)) | (show (Addr.add _ _).block ≠ _; rw [add_block]; exact Nat.ne_of_lt (Nat.lt_of_lt_of_le (by have := World.block_lt_of_cell? _ _ hw185_0; first | rwa [add_block] at this | exact this) GW187.out)) | (dsimp only; exact Nat.ne_of_lt (Nat.lt_of_lt_of_le (by have := World.block_lt_of_cell? _ _ hw185_0; first | rwa [add_block] at this | exact this) GW187.out))) _).trans (((cell_far (p := ⟨gb187, _, none⟩) (by first | exact Nat.ne_of_lt (Nat.lt_of_lt_of_le (by have := World.block_lt_of_cell? _ _ hw185_0; first | rwa [add_block] at this | exact this) GW187.out) | (rw [add_block]; exact Nat.ne_of_lt (Nat.lt_of_lt_of_le (by have := World.block_lt_of_cell? _ _ hw185_0; first | rwa [add_block] at this | exact this) GW187.out)) | (show (Addr.add _ _).block ≠ _; rw [add_block]; exact Nat.ne_of_lt (Nat.lt_of_lt_of_le (by have := World.block_lt_of_cell? _ _ hw185_0; first | rwa [add_block] at this | exact this) GW187.out)) | (dsimp only; exact Nat.ne_of_lt (Nat.lt_of_lt_of_le (by have := World.block_lt_of_cell? _ _ hw185_0; first | rwa [add_block] at this | exact this) GW187.out))) _).trans (hHeld.1)))))), ((cell_far (p := ⟨gb187, _, none⟩) (by first | exact Nat.ne_of_lt (Nat.lt_of_lt_of_le (by have := World.block_lt_of_cell? _ _ hw186_0; first | rwa [add_block] at this | exact this) GW187.out) | (rw [add_block]; exact Nat.ne_of_lt (Nat.lt_of_lt_of_le (by have := World.block_lt_of_cell? _ _ hw186_0; first | rwa [add_block] at this | exact this) GW187.out)) | (show (Addr.add _ _).block ≠ _; rw [add_block]; exact Nat.ne_of_lt (Nat.lt_of_lt_of_le (by have := World.block_lt_of_cell? _ _ hw186_0; first | rwa [add_block] at this | exact this) GW187.out)) | (dsimp only; exact Nat.ne_of_lt (Nat.lt_of_lt_of_le (by have := World.block_lt_of_cell? _ _ hw186_0; first | rwa [add_block] at this | exact this) GW187.out))) _).trans (((cell_far (p := ⟨gb187, _, none⟩) (by first | exact Nat.ne_of_lt (Nat.lt_of_lt_of_le (by have := World.block_lt_of_cell? _ _ hw186_0; first | rwa [add_block] at this | exact this) GW187.out) | (rw [add_block]; exact Nat.ne_of_lt (Nat.lt_of_lt_of_le (by have := World.block_lt_of_cell? _ _ hw186_0; first | rwa [add_block] at this | exact this) GW187.out)) | (show (Addr.add _ _).block ≠ _; rw [add_block]; exact Nat.ne_of_lt (Nat.lt_of_lt_of_le (by have := World.block_lt_of_cell? _ _ hw186_0; first | rwa [add_block] at this | exact this) GW187.out)) | (dsimp only; exact Nat.ne_of_lt (Nat.lt_of_lt_of_le (by have := World.block_lt_of_cell? _ _ hw186_0; first | rwa [add_block] at this | exact this) GW187.out))) _).trans (((cell_far (p := ⟨gb187, _, none⟩) (by first | exact Nat.ne_of_lt (Nat.lt_of_lt_of_le (by have := World.block_lt_of_cell? _ _ hw186_0; first | rwa [add_block] at this | exact this) GW187.out) | (rw [add_block]; exact Nat.ne_of_lt (Nat.lt_of_lt_of_le (by have := World.block_lt_of_cell? _ _ hw186_0; first | rwa [add_block] at this | exact this) GW187.out)) | (show (Addr.add _ _).block ≠ _; rw [add_block]; exact Nat.ne_of_lt (Nat.lt_of_lt_of_le (by have := World.block_lt_of_cell? _ _ hw186_0; first | rwa [add_block] at this | exact this) GW187.out)) | (dsimp only; exact Nat.ne_of_lt (Nat.lt_of_lt_of_le (by have := World.block_lt_of_cell? _ _ hw186_0; first | rwa [add_block] at this | exact this) GW187.out))) _).trans (hHeld.2))))))⟩ (fun hHeld => ?_)
                                      clear hK K
                                      refine done_ (done_of HT_.out (by kernel_rfl)) ?_
                                      have p188 : 0 ≤ (x14_2 : Int) := of_decide_eq_true (by first | (with_reducible assumption) | assumption)
                                      have q188 : x14_2 < (l2.length : Int) := of_decide_eq_true (by first | (with_reducible assumption) | assumption)
                                      obtain ⟨ad188, e188, hx188_0⟩ := Kd.at_int HR2.out x14_2 p188 q188
                                      obtain rfl : ad185 = ad188 := (by injection e188)
                                      have hn188_0 : ad185.block ≠ gb187 := Nat.ne_of_lt (Nat.lt_of_lt_of_le (by have := World.block_lt_of_cell? _ _ hx188_0; first | rwa [add_block] at this | exact this) GW187.out)
                                      have hn188_1 : ad185.block ≠ gb187 := Nat.ne_of_lt (Nat.lt_of_lt_of_le (by have := World.block_lt_of_cell? _ _ hx188_0; first | rwa [add_block] at this | exact this) GW187.out)
                                      have hn188_2 : ad185.block ≠ gb187 := Nat.ne_of_lt (Nat.lt_of_lt_of_le (by have := World.block_lt_of_cell? _ _ hx188_0; first | rwa [add_block] at this | exact this) GW187.out)
                                      replace hx188_0 := (HB.out.cell (World.block_lt_of_cell? w _ hx188_0)).trans hx188_0
                                      replace hx188_0 := (cell_far (p := ⟨gb187, 0, none⟩) (by first | (rw [add_block]; exact hn188_0) | (show (Addr.add _ _).block ≠ _; rw [add_block]; exact hn188_0) | exact hn188_0) (.int .i64 1)).trans hx188_0
                                      replace hx188_0 := (cell_far (p := ⟨gb187, 1, none⟩) (by first | (rw [add_block]; exact hn188_1) | (show (Addr.add _ _).block ≠ _; rw [add_block]; exact hn188_1) | exact hn188_1) (.int .i64 (Int.tmod (wrap64 (rd l2 x14_2)) (l0.length : Int)))).trans hx188_0
                                      replace hx188_0 := (cell_far (p := ⟨gb187, 2, none⟩) (by first | (rw [add_block]; exact hn188_2) | (show (Addr.add _ _).block ≠ _; rw [add_block]; exact hn188_2) | exact hn188_2) (.int .u64 ji52)).trans hx188_0
                                      clear hn188_0
                                      clear hn188_1
                                      clear hn188_2
                                      replace p188 := eq_true p188
                                      replace q188 := eq_true q188
                                      have hcz72_0 : w68.cell? ⟨gb187, 0, none⟩ = some (.int .i64 0) := (blk_cell BK187.out 0).trans rfl
                                      have hcz72_1 : w68.cell? ⟨gb187, 1, none⟩ = some (.int .i64 0) := (blk_cell BK187.out 1).trans rfl
                                      have hcz72_2 : w68.cell? ⟨gb187, 2, none⟩ = some (.int .u64 0) := (blk_cell BK187.out 2).trans rfl
                                      have hfz72_0 := blk_frozen BK187.out 0
                                      have hfz72_1 := blk_frozen BK187.out 1
                                      have hfz72_2 := blk_frozen BK187.out 2
                                      try go_wp2_with (first | ((with_reducible refine gate_builtin (b := .append) (xs := #[.tmp 133, .tmp 135]) rfl ?_); (try (refine gate_guard (by rfl) ?_; dsimp only)); at_builtin; refine Kd.R_append k38 (w0 := w) w.heap.size rfl (.tmp 133) (.tmp 135) 22 38 (.agg #[(.int .i64 0), (.int .i64 0), (.int .u64 0)]) 24 rfl Try.underlying22 info38 rfl (by decide) (by omega) u12 x12_2 (⟨1, Int.tmod (wrap64 (rd l2 x14_2)) (l0.length : Int), ji52⟩ : S38) [.int .i64 1, .int .i64 (Int.tmod (wrap64 (rd l2 x14_2)) (l0.length : Int)), .int .u64 ji52] (fun k_ => some k_ ≠ (u11 : Value).ownBlock ∧ some k_ ≠ (u13 : Value).ownBlock ∧ k_ ≠ gb187) (fun _ => False) rfl (by first | (go_simp; done) | (go_simp; rfl)) ?aP (fun _ hk => hk.elim) ?aF ?aO ?aB ?aS ?aL ?_; (case aP => exact k38_mkM _ _ _ (⟨1, Int.tmod (wrap64 (rd l2 x14_2)) (l0.length : Int), ji52⟩ : S38)); (case aB => exact (by repeat (first | (with_reducible first | exact HB.out | apply below_alloc | apply pw_below_drewN | apply below_drew1 | refine below_set ?_ GE187.out) | exact HB.out))); (case aF => exact (fun k_ hk => ⟨Kd.fresh' (Kd.R_lt (by (with_reducible repeat (first | apply Kd.R_alloc | apply Kd.R_drewN | apply Kd.R_drew)); exact (Kd.R_mono (Kd.R_far (p := ⟨gb187, 2, none⟩) (Kd.R_far (p := ⟨gb187, 1, none⟩) (Kd.R_far (p := ⟨gb187, 0, none⟩) (Kd.R_mono HO_11.out (fun k_ hk => (⟨hk, hk.2⟩ : _ ∧ k_ ≠ gb187))) (fun _ hk => hk.2) (.int .i64 1)) (fun _ hk => hk.2) (.int .i64 (Int.tmod (wrap64 (rd l2 x14_2)) (l0.length : Int)))) (fun _ hk => hk.2) (.int .u64 ji52)) (fun _ h_ => h_.1)))) k_ hk, Kd.fresh' (Kd.R_lt (by (with_reducible repeat (first | apply Kd.R_alloc | apply Kd.R_drewN | apply Kd.R_drew)); exact (Kd.R_mono (Kd.R_far (p := ⟨gb187, 2, none⟩) (Kd.R_far (p := ⟨gb187, 1, none⟩) (Kd.R_far (p := ⟨gb187, 0, none⟩) (Kd.R_mono HO_13.out (fun k_ hk => (⟨hk, hk.2⟩ : _ ∧ k_ ≠ gb187))) (fun _ hk => hk.2) (.int .i64 1)) (fun _ hk => hk.2) (.int .i64 (Int.tmod (wrap64 (rd l2 x14_2)) (l0.length : Int)))) (fun _ hk => hk.2) (.int .u64 ji52)) (fun _ h_ => h_.1)))) k_ hk, Kd.freshB (g := gb187) (o := .cells #[.int .i64 1, .int .i64 (Int.tmod (wrap64 (rd l2 x14_2)) (l0.length : Int)), .int .u64 ji52] 38 (0, 0)) (by (with_reducible repeat (first | refine blk_drewN ?_ _ | refine blk_drew ?_ | refine blk_alloc ?_ _)); refine blk_put (cs := #[.int .i64 1, .int .i64 (Int.tmod (wrap64 (rd l2 x14_2)) (l0.length : Int)), .int .u64 0]) ?_ 2 _ rfl; (with_reducible repeat (first | refine blk_drewN ?_ _ | refine blk_drew ?_ | refine blk_alloc ?_ _)); refine blk_put (cs := #[.int .i64 1, .int .i64 0, .int .u64 0]) ?_ 1 _ rfl; (with_reducible repeat (first | refine blk_drewN ?_ _ | refine blk_drew ?_ | refine blk_alloc ?_ _)); refine blk_put (cs := #[.int .i64 0, .int .i64 0, .int .u64 0]) ?_ 0 _ rfl; (with_reducible repeat (first | refine blk_drewN ?_ _ | refine blk_drew ?_ | refine blk_alloc ?_ _)); exact BK187.out) k_ hk⟩)); (case aO => exact (by (with_reducible repeat (first | apply Kd.R_alloc | apply Kd.R_drewN | apply Kd.R_drew)); exact Kd.R_mono (Kd.R_far (p := ⟨gb187, 2, none⟩) (Kd.R_far (p := ⟨gb187, 1, none⟩) (Kd.R_far (p := ⟨gb187, 0, none⟩) (Kd.R_mono HO_12.out (fun k_ hk => (⟨hk, hk.2⟩ : _ ∧ k_ ≠ gb187))) (fun _ hk => hk.2) (.int .i64 1)) (fun _ hk => hk.2) (.int .i64 (Int.tmod (wrap64 (rd l2 x14_2)) (l0.length : Int)))) (fun _ hk => hk.2) (.int .u64 ji52)) (fun _ hk => ⟨hk.1.1.1, ⟨hk.1.1.2, hk.1.2⟩⟩))); (case aS => exact (below_size (by repeat (first | (with_reducible first | exact HB.out | apply below_alloc | apply pw_below_drewN | apply below_drew1 | refine below_set ?_ GE187.out) | exact HB.out)))); (case aL => have := LMc65.out; omega); intro v196 w73 ho hb hg hat; rw [← Ny195.out] at ho; have n0_ := Aside0.mk (Kd.R_after (ok := (fun k_ => some k_ ≠ (u13 : Value).ownBlock ∧ k_ ≠ gb187)) (by (with_reducible repeat (first | apply Kd.R_alloc | apply Kd.R_drewN | apply Kd.R_drew)); exact Kd.R_mono (Kd.R_far (p := ⟨gb187, 2, none⟩) (Kd.R_far (p := ⟨gb187, 1, none⟩) (Kd.R_far (p := ⟨gb187, 0, none⟩) (Kd.R_mono HO_11.out (fun k_ hk => (⟨hk, hk.2⟩ : _ ∧ k_ ≠ gb187))) (fun _ hk => hk.2) (.int .i64 1)) (fun _ hk => hk.2) (.int .i64 (Int.tmod (wrap64 (rd l2 x14_2)) (l0.length : Int)))) (fun _ hk => hk.2) (.int .u64 ji52)) (fun _ hk => ⟨⟨hk.1.1.2, hk.1.2⟩, hk.1.1.1⟩)) hg hat); have n1_ := Aside0.mk (Kd.R_after (ok := (fun k_ => some k_ ≠ (u11 : Value).ownBlock ∧ k_ ≠ gb187)) (by (with_reducible repeat (first | apply Kd.R_alloc | apply Kd.R_drewN | apply Kd.R_drew)); exact Kd.R_mono (Kd.R_far (p := ⟨gb187, 2, none⟩) (Kd.R_far (p := ⟨gb187, 1, none⟩) (Kd.R_far (p := ⟨gb187, 0, none⟩) (Kd.R_mono HO_13.out (fun k_ hk => (⟨hk, hk.2⟩ : _ ∧ k_ ≠ gb187))) (fun _ hk => hk.2) (.int .i64 1)) (fun _ hk => hk.2) (.int .i64 (Int.tmod (wrap64 (rd l2 x14_2)) (l0.length : Int)))) (fun _ hk => hk.2) (.int .u64 ji52)) (fun _ hk => ⟨⟨hk.1.1.1, hk.1.2⟩, hk.1.1.2⟩)) hg hat); have n2_ := Aside0.mk (blk_grown (g := gb187) (o := .cells #[.int .i64 1, .int .i64 (Int.tmod (wrap64 (rd l2 x14_2)) (l0.length : Int)), .int .u64 ji52] 38 (0, 0)) (by (with_reducible repeat (first | refine blk_drewN ?_ _ | refine blk_drew ?_ | refine blk_alloc ?_ _)); refine blk_put (cs := #[.int .i64 1, .int .i64 (Int.tmod (wrap64 (rd l2 x14_2)) (l0.length : Int)), .int .u64 0]) ?_ 2 _ rfl; (with_reducible repeat (first | refine blk_drewN ?_ _ | refine blk_drew ?_ | refine blk_alloc ?_ _)); refine blk_put (cs := #[.int .i64 1, .int .i64 0, .int .u64 0]) ?_ 1 _ rfl; (with_reducible repeat (first | refine blk_drewN ?_ _ | refine blk_drew ?_ | refine blk_alloc ?_ _)); refine blk_put (cs := #[.int .i64 0, .int .i64 0, .int .u64 0]) ?_ 0 _ rfl; (with_reducible repeat (first | refine blk_drewN ?_ _ | refine blk_drew ?_ | refine blk_alloc ?_ _)); exact BK187.out) hg (Kd.R_away HO_12.out (fun _ hk => hk.2))); have n3_ := Aside0.mk (hb); have n4_ := Aside0.mk (ho); clear HO_11; clear HO_13; clear BK187; clear HB; clear HO_12; have HO_11 := n0_; have HO_13 := n1_; have BK187 := n2_; have HB := n3_; have HO197 := n4_; clear n0_ n1_ n2_ n3_ n4_; clear ho hb hg hat; have hcz74_0 : w73.cell? ⟨gb187, 0, none⟩ = some (.int .i64 1) := (blk_cell BK187.out 0).trans rfl; have hcz74_1 : w73.cell? ⟨gb187, 1, none⟩ = some (.int .i64 (Int.tmod (wrap64 (rd l2 x14_2)) (l0.length : Int))) := (blk_cell BK187.out 1).trans rfl; have hcz74_2 : w73.cell? ⟨gb187, 2, none⟩ = some (.int .u64 ji52) := (blk_cell BK187.out 2).trans rfl; have hfz74_0 := blk_frozen BK187.out 0; have hfz74_1 := blk_frozen BK187.out 1; have hfz74_2 := blk_frozen BK187.out 2) | ((with_reducible refine gate_builtin (b := .append) (xs := #[.tmp 137, .tmp 139]) rfl ?_); (try (refine gate_guard (by rfl) ?_; dsimp only)); at_builtin; refine Kd.R_append k38 (w0 := w) w.heap.size rfl (.tmp 137) (.tmp 139) 22 38 (.agg #[(.int .i64 0), (.int .i64 0), (.int .u64 0)]) 24 rfl Try.underlying22 info38 rfl (by decide) (by omega) u13 x13_14 (⟨1, Int.tmod (wrap64 (rd l2 x14_2)) (l0.length : Int), ji52⟩ : S38) [.int .i64 1, .int .i64 (Int.tmod (wrap64 (rd l2 x14_2)) (l0.length : Int)), .int .u64 ji52] (fun k_ => some k_ ≠ (u11 : Value).ownBlock ∧ some k_ ≠ (v196 : Value).ownBlock ∧ k_ ≠ gb187) (fun _ => False) rfl rfl ?aP (fun _ hk => hk.elim) ?aF ?aO ?aB ?aS ?aL ?_; (case aP => exact k38_mkM _ _ _ (⟨1, Int.tmod (wrap64 (rd l2 x14_2)) (l0.length : Int), ji52⟩ : S38)); (case aB => exact (by repeat (first | (with_reducible first | exact HB.out | apply below_alloc | apply pw_below_drewN | apply below_drew1 | refine below_set ?_ GE187.out) | exact HB.out))); (case aF => exact (fun k_ hk => ⟨Kd.fresh' (Kd.R_lt (by (with_reducible repeat (first | apply Kd.R_alloc | apply Kd.R_drewN | apply Kd.R_drew)); exact HO_11.out)) k_ hk, Kd.fresh' (Kd.R_lt (by (with_reducible repeat (first | apply Kd.R_alloc | apply Kd.R_drewN | apply Kd.R_drew)); exact HO197.out)) k_ hk, Kd.freshB (g := gb187) (o := .cells #[.int .i64 1, .int .i64 (Int.tmod (wrap64 (rd l2 x14_2)) (l0.length : Int)), .int .u64 ji52] 38 (0, 0)) (by (with_reducible repeat (first | refine blk_drewN ?_ _ | refine blk_drew ?_ | refine blk_alloc ?_ _)); exact BK187.out) k_ hk⟩)); (case aO => exact (by (with_reducible repeat (first | apply Kd.R_alloc | apply Kd.R_drewN | apply Kd.R_drew)); exact Kd.R_mono HO_13.out (fun _ hk => ⟨hk.1.1, ⟨hk.2, hk.1.2⟩⟩))); (case aS => exact (below_size (by repeat (first | (with_reducible first | exact HB.out | apply below_alloc | apply pw_below_drewN | apply below_drew1 | refine below_set ?_ GE187.out) | exact HB.out)))); (case aL => have := LMc66.out; omega); intro v199 w75 ho hb hg hat; rw [← Ny198.out] at ho; have n0_ := Aside0.mk (Kd.R_after (ok := (fun k_ => some k_ ≠ (v196 : Value).ownBlock ∧ k_ ≠ gb187)) (by (with_reducible repeat (first | apply Kd.R_alloc | apply Kd.R_drewN | apply Kd.R_drew)); exact Kd.R_mono HO_11.out (fun _ hk => ⟨⟨hk.2, hk.1.2⟩, hk.1.1⟩)) hg hat); have n1_ := Aside0.mk (blk_grown (g := gb187) (o := .cells #[.int .i64 1, .int .i64 (Int.tmod (wrap64 (rd l2 x14_2)) (l0.length : Int)), .int .u64 ji52] 38 (0, 0)) (by (with_reducible repeat (first | refine blk_drewN ?_ _ | refine blk_drew ?_ | refine blk_alloc ?_ _)); exact BK187.out) hg (Kd.R_away HO_13.out (fun _ hk => hk.1.2))); have n2_ := Aside0.mk (Kd.R_after (ok := (fun k_ => some k_ ≠ (u11 : Value).ownBlock ∧ k_ ≠ gb187)) (by (with_reducible repeat (first | apply Kd.R_alloc | apply Kd.R_drewN | apply Kd.R_drew)); exact Kd.R_mono HO197.out (fun _ hk => ⟨⟨hk.1, hk.2.2⟩, hk.2.1⟩)) hg hat); have n3_ := Aside0.mk (hb); have n4_ := Aside0.mk (ho); clear HO_11; clear BK187; clear HO197; clear HB; clear HO_13; have HO_11 := n0_; have BK187 := n1_; have HO197 := n2_; have HB := n3_; have HO200 := n4_; clear n0_ n1_ n2_ n3_ n4_; clear ho hb hg hat))
                                      go_roundg kj14
                                      case measure => have := HJ5.out; have := HK2.out; have := HJ11.out; have := HJ14.out; omega
                                      case rel => exact ⟨(x11_14), (y195), (y198), (wrap64 (x14_2 + 1)), (by first | rfl | (simp; done) | (simp [*]; done)), (by first | exact H' | (subst_vars; exact H')), ⟨by have := HJ5.out; have := HK2.out; have := HJ11.out; have := HJ14.out; omega⟩, ⟨by (with_reducible repeat (first | apply Kd.R_alloc | apply Kd.R_drewN | apply Kd.R_drew)); exact Kd.R_mono HO_11.out (fun _ hk => ⟨hk.1.1, hk.2⟩)⟩, ⟨by (with_reducible repeat (first | apply Kd.R_alloc | apply Kd.R_drewN | apply Kd.R_drew)); exact Kd.R_mono HO197.out (fun _ hk => ⟨hk.1.1, hk.2⟩)⟩, ⟨by (with_reducible repeat (first | apply Kd.R_alloc | apply Kd.R_drewN | apply Kd.R_drew)); exact Kd.R_mono HO200.out (fun _ hk => ⟨hk.1, hk.2.1⟩)⟩, ⟨by repeat (first | (with_reducible first | exact HB.out | apply below_alloc | apply pw_below_drewN | apply below_drew1 | refine below_set ?_ GE187.out) | exact HB.out)⟩⟩
                                    · rw [if_neg c66] at H
                                      exact absurd H (by simp)
                                  · rw [if_neg c65] at H
                                    exact absurd H (by simp)
                              · rw [if_neg c51] at H
                                exact absurd H (by simp)
                        · rw [if_neg c47] at H
                          exact absurd H (by simp)
                      · rw [if_neg c46] at H
                        have c46b0 : decide (x14_2 < (l2.length : Int)) = false := decide_eq_false c46
                        clear c46
                        have H' := Aside0.mk H
                        clear H
                        go_wp2
                        go_roundg kj14
                        case measure => have := HJ5.out; have := HK2.out; have := HJ11.out; have := HJ14.out; omega
                        case rel => exact ⟨(x11_14), (x12_2), (x13_14), (wrap64 (x14_2 + 1)), (by first | rfl | (simp; done) | (simp [*]; done)), (by first | exact H' | (subst_vars; exact H')), ⟨by have := HJ5.out; have := HK2.out; have := HJ11.out; have := HJ14.out; omega⟩, ⟨by (with_reducible repeat (first | apply Kd.R_alloc | apply Kd.R_drewN | apply Kd.R_drew)); exact HO_11.out⟩, ⟨by (with_reducible repeat (first | apply Kd.R_alloc | apply Kd.R_drewN | apply Kd.R_drew)); exact HO_12.out⟩, ⟨by (with_reducible repeat (first | apply Kd.R_alloc | apply Kd.R_drewN | apply Kd.R_drew)); exact HO_13.out⟩, ⟨by repeat (first | (with_reducible first | exact HB.out | apply below_alloc | apply pw_below_drewN | apply below_drew1) | exact HB.out)⟩⟩
                · replace c14 := Bool.eq_false_iff.mpr c14
                  subst c14
                  have H1 : ((redo_Apply.f kj11 l0 x11_2).bind fun t201 => ((redo_Apply.f kj11 t201 x12_2).bind fun t204 => ((redo_Apply.f kj11 l0 x12_2).bind fun t207 => ((redo_Apply.f kj11 t207 x11_2).bind fun t210 => ((redo_Apply.f kj11 l0 x13_2).bind fun t213 => (if t168 = true then ((lockfastref01_Words.f kj11 t204 t210).bind fun t216 => (if t216 = true then ((lockfastref01_Words.f kj11 t204 t213).bind fun t217 => (some t217)) else (some false))) else (some false))))))) = some r := by rw [if_neg (show ¬ (false = true) by decide)] at H; exact H
                  clear H
                  have H := H1
                  clear H1
                  replace H := Option.bind_eq_some_iff.mp H
                  obtain ⟨t201, A760, H⟩ := H
                  replace H : ((redo_Apply.f kj11 t201 x12_2).bind fun t204 => ((redo_Apply.f kj11 l0 x12_2).bind fun t207 => ((redo_Apply.f kj11 t207 x11_2).bind fun t210 => ((redo_Apply.f kj11 l0 x13_2).bind fun t213 => (if t168 = true then ((lockfastref01_Words.f kj11 t204 t210).bind fun t216 => (if t216 = true then ((lockfastref01_Words.f kj11 t204 t213).bind fun t217 => (some t217)) else (some false))) else (some false)))))) = some r := H
                  have A76 := Aside0.mk A760
                  clear A760
                  replace H := Option.bind_eq_some_iff.mp H
                  obtain ⟨t204, A770, H⟩ := H
                  replace H : ((redo_Apply.f kj11 l0 x12_2).bind fun t207 => ((redo_Apply.f kj11 t207 x11_2).bind fun t210 => ((redo_Apply.f kj11 l0 x13_2).bind fun t213 => (if t168 = true then ((lockfastref01_Words.f kj11 t204 t210).bind fun t216 => (if t216 = true then ((lockfastref01_Words.f kj11 t204 t213).bind fun t217 => (some t217)) else (some false))) else (some false))))) = some r := H
                  have A77 := Aside0.mk A770
                  clear A770
                  replace H := Option.bind_eq_some_iff.mp H
                  obtain ⟨t207, A780, H⟩ := H
                  replace H : ((redo_Apply.f kj11 t207 x11_2).bind fun t210 => ((redo_Apply.f kj11 l0 x13_2).bind fun t213 => (if t168 = true then ((lockfastref01_Words.f kj11 t204 t210).bind fun t216 => (if t216 = true then ((lockfastref01_Words.f kj11 t204 t213).bind fun t217 => (some t217)) else (some false))) else (some false)))) = some r := H
                  have A78 := Aside0.mk A780
                  clear A780
                  replace H := Option.bind_eq_some_iff.mp H
                  obtain ⟨t210, A790, H⟩ := H
                  replace H : ((redo_Apply.f kj11 l0 x13_2).bind fun t213 => (if t168 = true then ((lockfastref01_Words.f kj11 t204 t210).bind fun t216 => (if t216 = true then ((lockfastref01_Words.f kj11 t204 t213).bind fun t217 => (some t217)) else (some false))) else (some false))) = some r := H
                  have A79 := Aside0.mk A790
                  clear A790
                  replace H := Option.bind_eq_some_iff.mp H
                  obtain ⟨t213, A800, H⟩ := H
                  replace H : (if t168 = true then ((lockfastref01_Words.f kj11 t204 t210).bind fun t216 => (if t216 = true then ((lockfastref01_Words.f kj11 t204 t213).bind fun t217 => (some t217)) else (some false))) else (some false)) = some r := H
                  have A80 := Aside0.mk A800
                  clear A800
                  by_cases c81 : t168 = true
                  · subst c81
                    have H1 : ((lockfastref01_Words.f kj11 t204 t210).bind fun t216 => (if t216 = true then ((lockfastref01_Words.f kj11 t204 t213).bind fun t217 => (some t217)) else (some false))) = some r := by rw [if_pos rfl] at H; exact H
                    clear H
                    have H := H1
                    clear H1
                    replace H := Option.bind_eq_some_iff.mp H
                    obtain ⟨t216, A820, H⟩ := H
                    replace H : (if t216 = true then ((lockfastref01_Words.f kj11 t204 t213).bind fun t217 => (some t217)) else (some false)) = some r := H
                    have A82 := Aside0.mk A820
                    clear A820
                    by_cases c83 : t216 = true
                    · subst c83
                      have H1 : ((lockfastref01_Words.f kj11 t204 t213).bind fun t217 => (some t217)) = some r := by rw [if_pos rfl] at H; exact H
                      clear H
                      have H := H1
                      clear H1
                      replace H := Option.bind_eq_some_iff.mp H
                      obtain ⟨t217, A840, H⟩ := H
                      replace H : (some t217) = some r := H
                      have A84 := Aside0.mk A840
                      clear A840
                      obtain rfl := Option.some.inj H
                      simp only [Option.some.injEq, Prod.mk.injEq] at H
                      obtain ⟨rfl⟩ := H
                      obtain ⟨Ao85, co85, eo85⟩ := Kd.R_slice HO_11.out
                      subst eo85
                      go_wp2_with (first | ((with_reducible refine gate_callee (f := 18) rfl ?_); refine goesL_ (some 143) rfl rfl Try.func18 (by kernel_rfl) rfl #[.slice A0 l0.length c0, .slice Ao85 x11_2.length co85] rfl (by (try simp only [List.map_toArray, List.map_cons, List.map_nil]); first | done | rfl | (simp only [List.length_drop, List.length_take]; rfl)) ?_; (with_reducible refine (redo_Apply.calls kj11 _ _ l0 _ _ x11_2 t201 _ ?side1 ?side2 ?side3 ?side4 A76.out).mono ?_); (case side1 => repeat (first | exact (Kd.C_below HR0.out HB.out) | (with_reducible refine Kd.C_alloc ?_ _) | (with_reducible refine Kd.C_drewN ?_ _) | (with_reducible refine Kd.C_drew ?_))); (case side2 => exact HC0.out); (case side3 => repeat (first | exact (Kd.R_reads' HO_11.out).2.2 | (with_reducible refine Kd.C_alloc ?_ _) | (with_reducible refine Kd.C_drewN ?_ _) | (with_reducible refine Kd.C_drew ?_))); (case side4 => exact (Kd.R_reads' HO_11.out).2.1); rintro e w86 ⟨v202, rfl, ho0, hb⟩; refine ⟨_, rfl, ?_⟩; have n0_ := Aside0.mk (Kd.R_below (by (with_reducible repeat (first | apply Kd.R_alloc | apply Kd.R_drewN | apply Kd.R_drew)); exact HO_11.out) hb); have n1_ := Aside0.mk (Kd.R_below (by (with_reducible repeat (first | apply Kd.R_alloc | apply Kd.R_drewN | apply Kd.R_drew)); exact HO_12.out) hb); have n2_ := Aside0.mk (Kd.R_below (by (with_reducible repeat (first | apply Kd.R_alloc | apply Kd.R_drewN | apply Kd.R_drew)); exact HO_13.out) hb); have n3_ := Aside0.mk (Kd.R_lower ho0 (below_size (by repeat (first | (with_reducible first | exact HB.out | apply below_alloc | apply pw_below_drewN | apply below_drew1) | exact HB.out)))); have n4_ := Aside0.mk (below_step (by repeat (first | (with_reducible first | exact HB.out | apply below_alloc | apply pw_below_drewN | apply below_drew1) | exact HB.out)) hb); clear HO_11; clear HO_12; clear HO_13; clear HB; have HO_11 := n0_; have HO_12 := n1_; have HO_13 := n2_; have HO203 := n3_; have HB := n4_; clear n0_ n1_ n2_ n3_ n4_; (try clear hb); (try clear hb2); (try clear hk); (try clear hi); (try clear ho0); obtain ⟨Ao87, co87, eo87⟩ := Kd.R_slice HO203.out; subst eo87; obtain ⟨Ao88, co88, eo88⟩ := Kd.R_slice HO_12.out; subst eo88) | ((with_reducible refine gate_callee (f := 18) rfl ?_); refine goesL_ (some 145) rfl rfl Try.func18 (by kernel_rfl) rfl #[.slice Ao87 t201.length co87, .slice Ao88 x12_2.length co88] rfl (by (try simp only [List.map_toArray, List.map_cons, List.map_nil]); first | done | rfl | (simp only [List.length_drop, List.length_take]; rfl)) ?_; (with_reducible refine (redo_Apply.calls kj11 _ _ t201 _ _ x12_2 t204 _ ?side1 ?side2 ?side3 ?side4 A77.out).mono ?_); (case side1 => repeat (first | exact (Kd.R_reads' HO203.out).2.2 | (with_reducible refine Kd.C_alloc ?_ _) | (with_reducible refine Kd.C_drewN ?_ _) | (with_reducible refine Kd.C_drew ?_))); (case side2 => exact (Kd.R_reads' HO203.out).2.1); (case side3 => repeat (first | exact (Kd.R_reads' HO_12.out).2.2 | (with_reducible refine Kd.C_alloc ?_ _) | (with_reducible refine Kd.C_drewN ?_ _) | (with_reducible refine Kd.C_drew ?_))); (case side4 => exact (Kd.R_reads' HO_12.out).2.1); rintro e w89 ⟨v205, rfl, ho0, hb⟩; refine ⟨_, rfl, ?_⟩; have n0_ := Aside0.mk (Kd.R_below (by (with_reducible repeat (first | apply Kd.R_alloc | apply Kd.R_drewN | apply Kd.R_drew)); exact HO_11.out) hb); have n1_ := Aside0.mk (Kd.R_below (by (with_reducible repeat (first | apply Kd.R_alloc | apply Kd.R_drewN | apply Kd.R_drew)); exact HO_12.out) hb); have n2_ := Aside0.mk (Kd.R_below (by (with_reducible repeat (first | apply Kd.R_alloc | apply Kd.R_drewN | apply Kd.R_drew)); exact HO_13.out) hb); have n3_ := Aside0.mk (Kd.R_elder' (by (with_reducible repeat (first | apply Kd.R_alloc | apply Kd.R_drewN | apply Kd.R_drew)); exact HO203.out) (Kd.R_base ho0) hb); have n4_ := Aside0.mk (Kd.R_lower (Kd.R_new' ho0 (Kd.R_lt (by (with_reducible repeat (first | apply Kd.R_alloc | apply Kd.R_drewN | apply Kd.R_drew)); exact HO203.out))) (below_size (by repeat (first | (with_reducible first | exact HB.out | apply below_alloc | apply pw_below_drewN | apply below_drew1) | exact HB.out)))); have n5_ := Aside0.mk (below_step (by repeat (first | (with_reducible first | exact HB.out | apply below_alloc | apply pw_below_drewN | apply below_drew1) | exact HB.out)) hb); clear HO_11; clear HO_12; clear HO_13; clear HO203; clear HB; have HO_11 := n0_; have HO_12 := n1_; have HO_13 := n2_; have HO203 := n3_; have HO206 := n4_; have HB := n5_; clear n0_ n1_ n2_ n3_ n4_ n5_; (try clear hb); (try clear hb2); (try clear hk); (try clear hi); (try clear ho0)) | ((with_reducible refine gate_callee (f := 18) rfl ?_); refine goesL_ (some 148) rfl rfl Try.func18 (by kernel_rfl) rfl #[.slice A0 l0.length c0, .slice Ao88 x12_2.length co88] rfl (by (try simp only [List.map_toArray, List.map_cons, List.map_nil]); first | done | rfl | (simp only [List.length_drop, List.length_take]; rfl)) ?_; (with_reducible refine (redo_Apply.calls kj11 _ _ l0 _ _ x12_2 t207 _ ?side1 ?side2 ?side3 ?side4 A78.out).mono ?_); (case side1 => repeat (first | exact (Kd.C_below HR0.out HB.out) | (with_reducible refine Kd.C_alloc ?_ _) | (with_reducible refine Kd.C_drewN ?_ _) | (with_reducible refine Kd.C_drew ?_))); (case side2 => exact HC0.out); (case side3 => repeat (first | exact (Kd.R_reads' HO_12.out).2.2 | (with_reducible refine Kd.C_alloc ?_ _) | (with_reducible refine Kd.C_drewN ?_ _) | (with_reducible refine Kd.C_drew ?_))); (case side4 => exact (Kd.R_reads' HO_12.out).2.1); rintro e w90 ⟨v208, rfl, ho0, hb⟩; refine ⟨_, rfl, ?_⟩; have n0_ := Aside0.mk (Kd.R_below (by (with_reducible repeat (first | apply Kd.R_alloc | apply Kd.R_drewN | apply Kd.R_drew)); exact HO_11.out) hb); have n1_ := Aside0.mk (Kd.R_below (by (with_reducible repeat (first | apply Kd.R_alloc | apply Kd.R_drewN | apply Kd.R_drew)); exact HO_12.out) hb); have n2_ := Aside0.mk (Kd.R_below (by (with_reducible repeat (first | apply Kd.R_alloc | apply Kd.R_drewN | apply Kd.R_drew)); exact HO_13.out) hb); have n3_ := Aside0.mk (Kd.R_elder' (by (with_reducible repeat (first | apply Kd.R_alloc | apply Kd.R_drewN | apply Kd.R_drew)); exact HO203.out) (Kd.R_base ho0) hb); have n4_ := Aside0.mk (Kd.R_elder' (by (with_reducible repeat (first | apply Kd.R_alloc | apply Kd.R_drewN | apply Kd.R_drew)); exact HO206.out) (Kd.R_base ho0) hb); have n5_ := Aside0.mk (Kd.R_lower (Kd.R_new' (Kd.R_new' ho0 (Kd.R_lt (by (with_reducible repeat (first | apply Kd.R_alloc | apply Kd.R_drewN | apply Kd.R_drew)); exact HO203.out))) (Kd.R_lt (by (with_reducible repeat (first | apply Kd.R_alloc | apply Kd.R_drewN | apply Kd.R_drew)); exact HO206.out))) (below_size (by repeat (first | (with_reducible first | exact HB.out | apply below_alloc | apply pw_below_drewN | apply below_drew1) | exact HB.out)))); have n6_ := Aside0.mk (below_step (by repeat (first | (with_reducible first | exact HB.out | apply below_alloc | apply pw_below_drewN | apply below_drew1) | exact HB.out)) hb); clear HO_11; clear HO_12; clear HO_13; clear HO203; clear HO206; clear HB; have HO_11 := n0_; have HO_12 := n1_; have HO_13 := n2_; have HO203 := n3_; have HO206 := n4_; have HO209 := n5_; have HB := n6_; clear n0_ n1_ n2_ n3_ n4_ n5_ n6_; (try clear hb); (try clear hb2); (try clear hk); (try clear hi); (try clear ho0); obtain ⟨Ao91, co91, eo91⟩ := Kd.R_slice HO209.out; subst eo91) | ((with_reducible refine gate_callee (f := 18) rfl ?_); refine goesL_ (some 150) rfl rfl Try.func18 (by kernel_rfl) rfl #[.slice Ao91 t207.length co91, .slice Ao85 x11_2.length co85] rfl (by (try simp only [List.map_toArray, List.map_cons, List.map_nil]); first | done | rfl | (simp only [List.length_drop, List.length_take]; rfl)) ?_; (with_reducible refine (redo_Apply.calls kj11 _ _ t207 _ _ x11_2 t210 _ ?side1 ?side2 ?side3 ?side4 A79.out).mono ?_); (case side1 => repeat (first | exact (Kd.R_reads' HO209.out).2.2 | (with_reducible refine Kd.C_alloc ?_ _) | (with_reducible refine Kd.C_drewN ?_ _) | (with_reducible refine Kd.C_drew ?_))); (case side2 => exact (Kd.R_reads' HO209.out).2.1); (case side3 => repeat (first | exact (Kd.R_reads' HO_11.out).2.2 | (with_reducible refine Kd.C_alloc ?_ _) | (with_reducible refine Kd.C_drewN ?_ _) | (with_reducible refine Kd.C_drew ?_))); (case side4 => exact (Kd.R_reads' HO_11.out).2.1); rintro e w92 ⟨v211, rfl, ho0, hb⟩; refine ⟨_, rfl, ?_⟩; have n0_ := Aside0.mk (Kd.R_below (by (with_reducible repeat (first | apply Kd.R_alloc | apply Kd.R_drewN | apply Kd.R_drew)); exact HO_11.out) hb); have n1_ := Aside0.mk (Kd.R_below (by (with_reducible repeat (first | apply Kd.R_alloc | apply Kd.R_drewN | apply Kd.R_drew)); exact HO_12.out) hb); have n2_ := Aside0.mk (Kd.R_below (by (with_reducible repeat (first | apply Kd.R_alloc | apply Kd.R_drewN | apply Kd.R_drew)); exact HO_13.out) hb); have n3_ := Aside0.mk (Kd.R_elder' (by (with_reducible repeat (first | apply Kd.R_alloc | apply Kd.R_drewN | apply Kd.R_drew)); exact HO203.out) (Kd.R_base ho0) hb); have n4_ := Aside0.mk (Kd.R_elder' (by (with_reducible repeat (first | apply Kd.R_alloc | apply Kd.R_drewN | apply Kd.R_drew)); exact HO206.out) (Kd.R_base ho0) hb); have n5_ := Aside0.mk (Kd.R_elder' (by (with_reducible repeat (first | apply Kd.R_alloc | apply Kd.R_drewN | apply Kd.R_drew)); exact HO209.out) (Kd.R_base ho0) hb); have n6_ := Aside0.mk (Kd.R_lower (Kd.R_new' (Kd.R_new' (Kd.R_new' ho0 (Kd.R_lt (by (with_reducible repeat (first | apply Kd.R_alloc | apply Kd.R_drewN | apply Kd.R_drew)); exact HO203.out))) (Kd.R_lt (by (with_reducible repeat (first | apply Kd.R_alloc | apply Kd.R_drewN | apply Kd.R_drew)); exact HO206.out))) (Kd.R_lt (by (with_reducible repeat (first | apply Kd.R_alloc | apply Kd.R_drewN | apply Kd.R_drew)); exact HO209.out))) (below_size (by repeat (first | (with_reducible first | exact HB.out | apply below_alloc | apply pw_below_drewN | apply below_drew1) | exact HB.out)))); have n7_ := Aside0.mk (below_step (by repeat (first | (with_reducible first | exact HB.out | apply below_alloc | apply pw_below_drewN | apply below_drew1) | exact HB.out)) hb); clear HO_11; clear HO_12; clear HO_13; clear HO203; clear HO206; clear HO209; clear HB; have HO_11 := n0_; have HO_12 := n1_; have HO_13 := n2_; have HO203 := n3_; have HO206 := n4_; have HO209 := n5_; have HO212 := n6_; have HB := n7_; clear n0_ n1_ n2_ n3_ n4_ n5_ n6_ n7_; (try clear hb); (try clear hb2); (try clear hk); (try clear hi); (try clear ho0); obtain ⟨Ao93, co93, eo93⟩ := Kd.R_slice HO_13.out; subst eo93) | ((with_reducible refine gate_callee (f := 18) rfl ?_); refine goesL_ (some 153) rfl rfl Try.func18 (by kernel_rfl) rfl #[.slice A0 l0.length c0, .slice Ao93 x13_2.length co93] rfl (by (try simp only [List.map_toArray, List.map_cons, List.map_nil]); first | done | rfl | (simp only [List.length_drop, List.length_take]; rfl)) ?_; (with_reducible refine (redo_Apply.calls kj11 _ _ l0 _ _ x13_2 t213 _ ?side1 ?side2 ?side3 ?side4 A80.out).mono ?_); (case side1 => repeat (first | exact (Kd.C_below HR0.out HB.out) | (with_reducible refine Kd.C_alloc ?_ _) | (with_reducible refine Kd.C_drewN ?_ _) | (with_reducible refine Kd.C_drew ?_))); (case side2 => exact HC0.out); (case side3 => repeat (first | exact (Kd.R_reads' HO_13.out).2.2 | (with_reducible refine Kd.C_alloc ?_ _) | (with_reducible refine Kd.C_drewN ?_ _) | (with_reducible refine Kd.C_drew ?_))); (case side4 => exact (Kd.R_reads' HO_13.out).2.1); rintro e w94 ⟨v214, rfl, ho0, hb⟩; refine ⟨_, rfl, ?_⟩; have n0_ := Aside0.mk (Kd.R_below (by (with_reducible repeat (first | apply Kd.R_alloc | apply Kd.R_drewN | apply Kd.R_drew)); exact HO_11.out) hb); have n1_ := Aside0.mk (Kd.R_below (by (with_reducible repeat (first | apply Kd.R_alloc | apply Kd.R_drewN | apply Kd.R_drew)); exact HO_12.out) hb); have n2_ := Aside0.mk (Kd.R_below (by (with_reducible repeat (first | apply Kd.R_alloc | apply Kd.R_drewN | apply Kd.R_drew)); exact HO_13.out) hb); have n3_ := Aside0.mk (Kd.R_elder' (by (with_reducible repeat (first | apply Kd.R_alloc | apply Kd.R_drewN | apply Kd.R_drew)); exact HO203.out) (Kd.R_base ho0) hb); have n4_ := Aside0.mk (Kd.R_elder' (by (with_reducible repeat (first | apply Kd.R_alloc | apply Kd.R_drewN | apply Kd.R_drew)); exact HO206.out) (Kd.R_base ho0) hb); have n5_ := Aside0.mk (Kd.R_elder' (by (with_reducible repeat (first | apply Kd.R_alloc | apply Kd.R_drewN | apply Kd.R_drew)); exact HO209.out) (Kd.R_base ho0) hb); have n6_ := Aside0.mk (Kd.R_elder' (by (with_reducible repeat (first | apply Kd.R_alloc | apply Kd.R_drewN | apply Kd.R_drew)); exact HO212.out) (Kd.R_base ho0) hb); have n7_ := Aside0.mk (Kd.R_lower (Kd.R_new' (Kd.R_new' (Kd.R_new' (Kd.R_new' ho0 (Kd.R_lt (by (with_reducible repeat (first | apply Kd.R_alloc | apply Kd.R_drewN | apply Kd.R_drew)); exact HO203.out))) (Kd.R_lt (by (with_reducible repeat (first | apply Kd.R_alloc | apply Kd.R_drewN | apply Kd.R_drew)); exact HO206.out))) (Kd.R_lt (by (with_reducible repeat (first | apply Kd.R_alloc | apply Kd.R_drewN | apply Kd.R_drew)); exact HO209.out))) (Kd.R_lt (by (with_reducible repeat (first | apply Kd.R_alloc | apply Kd.R_drewN | apply Kd.R_drew)); exact HO212.out))) (below_size (by repeat (first | (with_reducible first | exact HB.out | apply below_alloc | apply pw_below_drewN | apply below_drew1) | exact HB.out)))); have n8_ := Aside0.mk (below_step (by repeat (first | (with_reducible first | exact HB.out | apply below_alloc | apply pw_below_drewN | apply below_drew1) | exact HB.out)) hb); clear HO_11; clear HO_12; clear HO_13; clear HO203; clear HO206; clear HO209; clear HO212; clear HB; have HO_11 := n0_; have HO_12 := n1_; have HO_13 := n2_; have HO203 := n3_; have HO206 := n4_; have HO209 := n5_; have HO212 := n6_; have HO215 := n7_; have HB := n8_; clear n0_ n1_ n2_ n3_ n4_ n5_ n6_ n7_ n8_; (try clear hb); (try clear hb2); (try clear hk); (try clear hi); (try clear ho0); obtain ⟨Ao95, co95, eo95⟩ := Kd.R_slice HO206.out; subst eo95; obtain ⟨Ao96, co96, eo96⟩ := Kd.R_slice HO212.out; subst eo96) | (go_at_call 12; (with_reducible refine (lockfastref01_Words.calls kj11 _ _ t204 _ _ t210 true _ ?side1 ?side2 ?side3 ?side4 A82.out).mono ?_); (case side1 => repeat (first | exact (Kd.R_reads' HO206.out).2.2 | (with_reducible refine Kd.C_alloc ?_ _) | (with_reducible refine Kd.C_drewN ?_ _) | (with_reducible refine Kd.C_drew ?_))); (case side2 => exact (Kd.R_reads' HO206.out).2.1); (case side3 => repeat (first | exact (Kd.R_reads' HO212.out).2.2 | (with_reducible refine Kd.C_alloc ?_ _) | (with_reducible refine Kd.C_drewN ?_ _) | (with_reducible refine Kd.C_drew ?_))); (case side4 => exact (Kd.R_reads' HO212.out).2.1); rintro e w' ⟨rfl, ⟨nd, rfl⟩⟩; obtain ⟨Ao97, co97, eo97⟩ := Kd.R_slice HO215.out; subst eo97) | (go_at_call 12; (with_reducible refine (lockfastref01_Words.calls kj11 _ _ t204 _ _ t213 t217 _ ?side1 ?side2 ?side3 ?side4 A84.out).mono ?_); (case side1 => repeat (first | exact (Kd.R_reads' HO206.out).2.2 | (with_reducible refine Kd.C_alloc ?_ _) | (with_reducible refine Kd.C_drewN ?_ _) | (with_reducible refine Kd.C_drew ?_))); (case side2 => exact (Kd.R_reads' HO206.out).2.1); (case side3 => repeat (first | exact (Kd.R_reads' HO215.out).2.2 | (with_reducible refine Kd.C_alloc ?_ _) | (with_reducible refine Kd.C_drewN ?_ _) | (with_reducible refine Kd.C_drew ?_))); (case side4 => exact (Kd.R_reads' HO215.out).2.1); rintro e w' ⟨rfl, ⟨nd, rfl⟩⟩))
                      all_goals go_ret
                      all_goals exact ⟨by first | rfl | (simp [errW_none, errW_some] <;> rfl) | (simp [*, errW_none, errW_some] <;> rfl), by repeat (first | (with_reducible first | exact HB.out | apply below_alloc | apply pw_below_drewN | apply below_drew1) | exact HB.out)⟩
                    · replace c83 := Bool.eq_false_iff.mpr c83
                      subst c83
                      have H1 : (some false) = some r := by rw [if_neg (show ¬ (false = true) by decide)] at H; exact H
                      clear H
                      have H := H1
                      clear H1
                      obtain rfl := Option.some.inj H
                      exact absurd HRT.out (by decide)
                  · replace c81 := Bool.eq_false_iff.mpr c81
                    subst c81
                    have H1 : (some false) = some r := by rw [if_neg (show ¬ (false = true) by decide)] at H; exact H
                    clear H
                    have H := H1
                    clear H1
                    obtain rfl := Option.some.inj H
                    exact absurd HRT.out (by decide)

/-- THE ONE PURE STATEMENT of lockfastlaw12_RedoApart: yours. -/
def lockfastlaw12_RedoApart.Pure : Prop := ∀ (l0 : List Int) (l1 : List Int) (l2 : List Int) (a3 : Int), l0.length ≤ maxLen → l0.length * 8 ≤ 140737488351232 → (∀ x ∈ l0, (Lit.int .u64 x).wf = true) → l1.length ≤ maxLen → l1.length * 1 ≤ 140737488351232 → (∀ x ∈ l1, (Lit.int .u8 x).wf = true) → l2.length ≤ maxLen → l2.length * 1 ≤ 140737488351232 → (∀ x ∈ l2, (Lit.int .u8 x).wf = true) → (Lit.int .u8 a3).wf = true → ∃ k, lockfastlaw12_RedoApart.f k l0 l1 l2 a3 = some true
theorem lockfastlaw12_RedoApart.walk (P : lockfastlaw12_RedoApart.Pure) (a0 : Option Addr) (len0 cap0 : Nat) (z0 : List Int) (a1 : Option Addr) (len1 cap1 : Nat) (z1 : List Int) (a2 : Option Addr) (len2 cap2 : Nat) (z2 : List Int) (a3 : Int) (w : World) (w0 : (a0 = none ∧ len0 = 0 ∧ cap0 = 0 ∧ z0 = []) ∨ ∃ x, a0 = some x ∧ len0 ≤ cap0 ∧ cap0 ≤ maxLen ∧ z0.length = cap0 ∧ (∀ i, i < z0.length → w.cell? (x.add i) = some (.int .u64 (z0.getD i 0))) ∧ ∀ n ∈ z0, (Lit.int .u64 n).wf = true) (y0 : len0 * 8 ≤ 140737488351232) (w1 : (a1 = none ∧ len1 = 0 ∧ cap1 = 0 ∧ z1 = []) ∨ ∃ x, a1 = some x ∧ len1 ≤ cap1 ∧ cap1 ≤ maxLen ∧ z1.length = cap1 ∧ (∀ i, i < z1.length → w.cell? (x.add i) = some (.int .u8 (z1.getD i 0))) ∧ ∀ n ∈ z1, (Lit.int .u8 n).wf = true) (y1 : len1 * 1 ≤ 140737488351232) (w2 : (a2 = none ∧ len2 = 0 ∧ cap2 = 0 ∧ z2 = []) ∨ ∃ x, a2 = some x ∧ len2 ≤ cap2 ∧ cap2 ≤ maxLen ∧ z2.length = cap2 ∧ (∀ i, i < z2.length → w.cell? (x.add i) = some (.int .u8 (z2.getD i 0))) ∧ ∀ n ∈ z2, (Lit.int .u8 n).wf = true) (y2 : len2 * 1 ≤ 140737488351232) (w3 : (Lit.int .u8 a3).wf = true) :
    Calls Try.prog 8 #[.slice a0 len0 cap0, .slice a1 len1 cap1, .slice a2 len2 cap2, .int .u8 a3] w fun e w' => e = .returned (.bool true) ∧ Below w.heap.size w w' := by
  obtain ⟨l0, rfl, hr0, hm0, hw0, hc0⟩ := ReadsInt.ofRowC w0
  obtain ⟨l1, rfl, hr1, hm1, hw1, hc1⟩ := ReadsInt.ofRowC w1
  obtain ⟨l2, rfl, hr2, hm2, hw2, hc2⟩ := ReadsInt.ofRowC w2
  obtain ⟨k, h⟩ := P l0 l1 l2 a3 hm0 y0 hw0 hm1 y1 hw1 hm2 y2 hw2 w3
  refine (lockfastlaw12_RedoApart.calls k _ _ l0 _ _ l1 _ _ l2 a3 true w rfl (Kd.C_of_reads (d := (0 : Int)) (h1 := fun _ => rfl) hr0) hc0 (Kd.C_of_reads (d := (0 : Int)) (h1 := fun _ => rfl) hr1) hc1 (Kd.C_of_reads (d := (0 : Int)) (h1 := fun _ => rfl) hr2) hc2 h).mono ?_
  rintro e w' ⟨rfl, hd⟩
  exact ⟨rfl, hd⟩

end Go.Proofs.Ytnoclgnlmkpkbaa.PRedoApart
