-- WRITTEN FOR THIS CLAIM by given.py, a program of this session's: the kit's printer, run with contracts of the session's own. It is not a text of print.sh's.
import Derived.Test.YtnkigdcicnhepaaPGeoApartx0
import Derived.Test.YtnkigdcicnhepaaPGeoApartx1
import Derived.Test.YtnkigdcicnhepaaPGeoApartx2
import Derived.Test.YtnkigdcicnhepaaPGeoApartx3
namespace Go.Proofs.Ytnkigdcicnhepaa.PGeoApart
open Go.RowKit Go.Proofs.YtnkigdcicnhepaaW.PrintWords Go.Proofs.YtnkigdcicnhepaaW.PrintLast Go.Proofs.YtnkigdcicnhepaaW.PrintMore
attribute [local go_sem] max2_int min2_int max_two min_two max_three min_three max_four min_four   -- for this text's walks alone
set_option linter.unusedVariables false
set_option linter.unusedSimpArgs false

attribute [local go_sem high] eqA33
/-! ### lockfastlaw05_GeoApart: function 8 -/
mutual
def lockfastlaw05_GeoApart.l0 : Nat → Bool → Int → Int → Int → Int → Option (Bool)
  | 0, _, _, _, _, _ => none
  | k + 1, x7, x9, x10, x138000, x138001 => if x10 < x138001 then ((geo_Mark.f x138000 x138001 x10).bind fun t138 => (if t138 = x9 then (lockfastlaw05_GeoApart.l0 k x7 (wrap64 (x9 + 1)) (wrap64 (x10 + 1)) x138000 x138001) else (some false))) else (lockfastlaw05_GeoApart.l1 k x7 x9 0 x138000 x138001)
def lockfastlaw05_GeoApart.l1 : Nat → Bool → Int → Int → Int → Int → Option (Bool)
  | 0, _, _, _, _, _ => none
  | k + 1, x7, x9, x11, x138000, x138001 => if x11 < x138001 then ((geo_Log.f x138000 x138001 x11).bind fun bt139 => ((geo_Redo.f x138000 x138001 x11).bind fun bt142 => (if bt139.1 = x9 then (if bt139.2 = 32 then (if bt142.1 = (wrap64 (x9 + bt139.2)) then (if bt142.2 = 40 then (lockfastlaw05_GeoApart.l1 k x7 (wrap64 (bt142.1 + bt142.2)) (wrap64 (x11 + 1)) x138000 x138001) else (some false)) else (some false)) else (some false)) else (some false)))) else ((geo_Table.f x138000 x138001).bind fun bt145 => (if bt145.1 = x9 then ((geo_Chunks.f x138000 x138001).bind fun t148 => (lockfastlaw05_GeoApart.j2 k x7 (bt145.2 != t148) x138000 x138001 bt145.1 bt145.2)) else (lockfastlaw05_GeoApart.j2 k x7 true x138000 x138001 bt145.1 bt145.2)))
def lockfastlaw05_GeoApart.j2 : Nat → Bool → Bool → Int → Int → Int → Int → Option (Bool)
  | 0, _, _, _, _, _, _ => none
  | k + 1, x7, x87, x138000, x138001, x148000, x148001 => if x87 = true then (some false) else (lockfastlaw05_GeoApart.l2 k x7 (wrap64 (x148000 + x148001)) 0 x138000 x138001 x148000 x148001)
def lockfastlaw05_GeoApart.l2 : Nat → Bool → Int → Int → Int → Int → Int → Int → Option (Bool)
  | 0, _, _, _, _, _, _, _ => none
  | k + 1, x7, x9, x15, x138000, x138001, x148000, x148001 => if x15 < x148001 then ((geo_Chunk.f x138000 x138001 x15).bind fun bt149 => (if bt149.1 = x9 then (if bt149.2 = 32 then (lockfastlaw05_GeoApart.l2 k x7 (wrap64 (bt149.1 + bt149.2)) (wrap64 (x15 + 1)) x138000 x138001 x148000 x148001) else (some false)) else (some false))) else (if x7 = true then (if x9 ≤ x138000 then (if (wrap64 (x138000 - x9)) ≤ 32 then ((geo_Mark.f x138000 x138001 x138001).bind fun t152 => (if t152 = (-1) then ((geo_Chunk.f x138000 x138001 x148001).bind fun bt153 => (some (bt153.1 == 0 && (bt153.2 == 0)))) else (some false))) else (some false)) else (some false)) else (some false))
end
def lockfastlaw05_GeoApart.f (k : Nat) (a0 : Int) (a1 : Int) (a2 : Int) : Option (Bool) := (lockfastlaw05_awake.f).bind fun t134 => ((lockfastref05_Small.f a0 a1 a2).bind fun bt135 => (lockfastlaw05_GeoApart.l0 k t134 10 0 bt135.1 bt135.2))
theorem lockfastlaw05_GeoApart.mono_l : ∀ k, (∀ y0 y1 y2 y3 y4, LeO (lockfastlaw05_GeoApart.l0 k y0 y1 y2 y3 y4) (lockfastlaw05_GeoApart.l0 (k + 1) y0 y1 y2 y3 y4)) ∧ (∀ y0 y1 y2 y3 y4, LeO (lockfastlaw05_GeoApart.l1 k y0 y1 y2 y3 y4) (lockfastlaw05_GeoApart.l1 (k + 1) y0 y1 y2 y3 y4)) ∧ (∀ y0 y1 y2 y3 y4 y5, LeO (lockfastlaw05_GeoApart.j2 k y0 y1 y2 y3 y4 y5) (lockfastlaw05_GeoApart.j2 (k + 1) y0 y1 y2 y3 y4 y5)) ∧ (∀ y0 y1 y2 y3 y4 y5 y6, LeO (lockfastlaw05_GeoApart.l2 k y0 y1 y2 y3 y4 y5 y6) (lockfastlaw05_GeoApart.l2 (k + 1) y0 y1 y2 y3 y4 y5 y6))
  | 0 => ⟨fun _ _ _ _ _ r h => by simp [lockfastlaw05_GeoApart.l0] at h, fun _ _ _ _ _ r h => by simp [lockfastlaw05_GeoApart.l1] at h, fun _ _ _ _ _ _ r h => by simp [lockfastlaw05_GeoApart.j2] at h, fun _ _ _ _ _ _ _ r h => by simp [lockfastlaw05_GeoApart.l2] at h⟩
  | k + 1 => by
    obtain ⟨ih0, ih1, ih2, ih3⟩ := lockfastlaw05_GeoApart.mono_l k
    refine ⟨?_, ?_, ?_, ?_⟩
    · intro y0 y1 y2 y3 y4
      unfold lockfastlaw05_GeoApart.l0
      repeat' first
      | (with_reducible exact ih0 _ _ _ _ _)
      | (with_reducible exact ih1 _ _ _ _ _)
      | (with_reducible exact ih2 _ _ _ _ _ _)
      | (with_reducible exact ih3 _ _ _ _ _ _ _)
      | (with_reducible exact LeO.refl _)
      | (with_reducible exact LeO.none _)
      | (with_reducible refine LeO.ite ?_ ?_)
      | (with_reducible refine LeO.bind ?_ (fun _ => ?_))
      | exact ih0 _ _ _ _ _
      | exact ih1 _ _ _ _ _
      | exact ih2 _ _ _ _ _ _
      | exact ih3 _ _ _ _ _ _ _
      | exact LeO.none _
      | refine LeO.ite ?_ ?_
      | refine LeO.bind ?_ (fun _ => ?_)
    · intro y0 y1 y2 y3 y4
      unfold lockfastlaw05_GeoApart.l1
      repeat' first
      | (with_reducible exact ih0 _ _ _ _ _)
      | (with_reducible exact ih1 _ _ _ _ _)
      | (with_reducible exact ih2 _ _ _ _ _ _)
      | (with_reducible exact ih3 _ _ _ _ _ _ _)
      | (with_reducible exact LeO.refl _)
      | (with_reducible exact LeO.none _)
      | (with_reducible refine LeO.ite ?_ ?_)
      | (with_reducible refine LeO.bind ?_ (fun _ => ?_))
      | exact ih0 _ _ _ _ _
      | exact ih1 _ _ _ _ _
      | exact ih2 _ _ _ _ _ _
      | exact ih3 _ _ _ _ _ _ _
      | exact LeO.none _
      | refine LeO.ite ?_ ?_
      | refine LeO.bind ?_ (fun _ => ?_)
    · intro y0 y1 y2 y3 y4 y5
      unfold lockfastlaw05_GeoApart.j2
      repeat' first
      | (with_reducible exact ih0 _ _ _ _ _)
      | (with_reducible exact ih1 _ _ _ _ _)
      | (with_reducible exact ih2 _ _ _ _ _ _)
      | (with_reducible exact ih3 _ _ _ _ _ _ _)
      | (with_reducible exact LeO.refl _)
      | (with_reducible exact LeO.none _)
      | (with_reducible refine LeO.ite ?_ ?_)
      | (with_reducible refine LeO.bind ?_ (fun _ => ?_))
      | exact ih0 _ _ _ _ _
      | exact ih1 _ _ _ _ _
      | exact ih2 _ _ _ _ _ _
      | exact ih3 _ _ _ _ _ _ _
      | exact LeO.none _
      | refine LeO.ite ?_ ?_
      | refine LeO.bind ?_ (fun _ => ?_)
    · intro y0 y1 y2 y3 y4 y5 y6
      unfold lockfastlaw05_GeoApart.l2
      repeat' first
      | (with_reducible exact ih0 _ _ _ _ _)
      | (with_reducible exact ih1 _ _ _ _ _)
      | (with_reducible exact ih2 _ _ _ _ _ _)
      | (with_reducible exact ih3 _ _ _ _ _ _ _)
      | (with_reducible exact LeO.refl _)
      | (with_reducible exact LeO.none _)
      | (with_reducible refine LeO.ite ?_ ?_)
      | (with_reducible refine LeO.bind ?_ (fun _ => ?_))
      | exact ih0 _ _ _ _ _
      | exact ih1 _ _ _ _ _
      | exact ih2 _ _ _ _ _ _
      | exact ih3 _ _ _ _ _ _ _
      | exact LeO.none _
      | refine LeO.ite ?_ ?_
      | refine LeO.bind ?_ (fun _ => ?_)
theorem lockfastlaw05_GeoApart.mono : ∀ a0 a1 a2 k, LeO (lockfastlaw05_GeoApart.f k a0 a1 a2) (lockfastlaw05_GeoApart.f (k + 1) a0 a1 a2) := by
  intro a0 a1 a2 k
  obtain ⟨ih0, ih1, ih2, ih3⟩ := lockfastlaw05_GeoApart.mono_l k
  unfold lockfastlaw05_GeoApart.f
  repeat' first
      | (with_reducible exact ih0 _ _ _ _ _)
      | (with_reducible exact ih1 _ _ _ _ _)
      | (with_reducible exact ih2 _ _ _ _ _ _)
      | (with_reducible exact ih3 _ _ _ _ _ _ _)
      | (with_reducible exact LeO.refl _)
      | (with_reducible exact LeO.none _)
      | (with_reducible refine LeO.ite ?_ ?_)
      | (with_reducible refine LeO.bind ?_ (fun _ => ?_))
      | exact ih0 _ _ _ _ _
      | exact ih1 _ _ _ _ _
      | exact ih2 _ _ _ _ _ _
      | exact ih3 _ _ _ _ _ _ _
      | exact LeO.none _
      | refine LeO.ite ?_ ?_
      | refine LeO.bind ?_ (fun _ => ?_)
def lockfastlaw05_GeoApart.T19 : Bool × List (List Nat × List Nat) := (true, [([], []), ([0], [0]), ([], []), ([1, 2], [1, 2]), ([3], [3]), ([4], [4]), ([5, 4], [4, 5]), ([4], [4]), ([7, 4, 4], [4, 7]), ([6, 8, 4], [4, 6, 8]), ([4, 9], [4, 9])])
def lockfastlaw05_GeoApart.B19 : List Nat := [0, 1, 0, 7, 15, 31, 63, 31, 159, 511, 1023]
theorem lockfastlaw05_GeoApart.tab19 : rtab .any (opsOf Try.f8 19) = lockfastlaw05_GeoApart.T19 := by kernel_rfl
theorem lockfastlaw05_GeoApart.bits19 : waitsOk lockfastlaw05_GeoApart.T19.2 lockfastlaw05_GeoApart.B19 = true := by kernel_rfl
set_option maxHeartbeats 8000000 in
set_option maxRecDepth 100000 in
theorem lockfastlaw05_GeoApart.calls (k : Nat) (a0 : Int) (a1 : Int) (a2 : Int) (r : Bool) (w : World) (hrt : r = true) (h : lockfastlaw05_GeoApart.f k a0 a1 a2 = some r) :
    Calls Try.prog 8 #[.int .u8 a0, .int .u8 a1, .int .u8 a2] w fun e w' => e = .returned (.bool r) ∧ Below w.heap.size w w' := by
  have hu24 := Try.underlying24
  have hu33 := Try.underlying33
  have HB := Aside0.mk (Below.refl w.heap.size w)
  have H : ((lockfastlaw05_awake.f).bind fun t134 => ((lockfastref05_Small.f a0 a1 a2).bind fun bt135 => (lockfastlaw05_GeoApart.l0 k t134 10 0 bt135.1 bt135.2))) = some r := h
  clear h
  have HRT := Aside0.mk hrt
  clear hrt
  replace H := Option.bind_eq_some_iff.mp H
  obtain ⟨t134, A40, H⟩ := H
  replace H : ((lockfastref05_Small.f a0 a1 a2).bind fun bt135 => (lockfastlaw05_GeoApart.l0 k t134 10 0 bt135.1 bt135.2)) = some r := H
  have A4 := Aside0.mk A40
  clear A40
  replace H := Option.bind_eq_some_iff.mp H
  obtain ⟨⟨t135, t136⟩, A50, H⟩ := H
  replace H : (lockfastlaw05_GeoApart.l0 k t134 10 0 t135 t136) = some r := H
  have A5 := Aside0.mk A50
  clear A50
  have H' := Aside0.mk H
  clear H
  go_enter Try.func8, Try.ntmps8
  go_wp2_with (first | ((with_reducible refine gate_callee (f := 9) rfl ?_); refine goesL_ (some 17) rfl rfl Try.func9 (by kernel_rfl) rfl #[] rfl (by (try simp only [List.map_toArray, List.map_cons, List.map_nil]); first | done | rfl | (simp only [List.length_drop, List.length_take]; rfl)) ?_; (with_reducible refine (lockfastlaw05_awake.calls  t134 _ A4.out).mono ?_); rintro e w6 ⟨rfl, hb⟩; refine ⟨_, rfl, ?_⟩; have n0_ := Aside0.mk (below_step (by repeat (first | (with_reducible first | exact HB.out | apply below_alloc | apply pw_below_drewN | apply below_drew1) | exact HB.out)) hb); clear HB; have HB := n0_; clear n0_; (try clear hb); (try clear hb2); (try clear hk); (try clear hi)) | ((with_reducible refine gate_callee (f := 10) rfl ?_); refine goesL_ (some 21) rfl rfl Try.func10 (by kernel_rfl) rfl #[.int .u8 a0, .int .u8 a1, .int .u8 a2] rfl (by (try simp only [List.map_toArray, List.map_cons, List.map_nil]); first | done | rfl | (simp only [List.length_drop, List.length_take]; rfl)) ?_; (with_reducible refine (lockfastref05_Small.calls a0 a1 a2 t135 t136 _ A5.out).mono ?_); rintro e w7 ⟨rfl, hb⟩; refine ⟨_, rfl, ?_⟩; have n0_ := Aside0.mk (below_step (by repeat (first | (with_reducible first | exact HB.out | apply below_alloc | apply pw_below_drewN | apply below_drew1) | exact HB.out)) hb); clear HB; have HB := n0_; clear n0_; (try clear hb); (try clear hb2); (try clear hk); (try clear hi)) | ((with_reducible refine gate_dst (N := 8) rfl ?_); refine box_event ?hg (N := 8) ?hd (cs := #[.int .i64 0, .int .i64 0]) (t := 24) ?hr ?_; (case hd => rfl); (case hg => rfl); (case hr => first | (go_simp; done) | (go_simp; rfl)); intro gb137 hg w8 hbox hb; have n0_ := Aside0.mk (below_step (by repeat (first | (with_reducible first | exact HB.out | apply below_alloc | apply pw_below_drewN | apply below_drew1) | exact HB.out)) hb); have n1_ := Aside0.mk (hbox); have n2_ := Aside0.mk ((by rw [hg]; exact (below_size (by repeat (first | (with_reducible first | exact HB.out | apply below_alloc | apply pw_below_drewN | apply below_drew1) | exact HB.out))) : w.heap.size ≤ gb137)); have n3_ := Aside0.mk ((by rw [hg]; exact (below_size (by repeat (first | (with_reducible first | exact HB.out | apply below_alloc | apply pw_below_drewN | apply below_drew1) | exact HB.out))) : w.heap.size ≤ gb137)); clear HB; have HB := n0_; have BK137 := n1_; have GW137 := n2_; have GE137 := n3_; clear n0_ n1_ n2_ n3_; clear hb hbox hg; have hcz9_0 : w8.cell? ⟨gb137, 0, none⟩ = some (.int .i64 0) := (blk_cell BK137.out 0).trans rfl; have hcz9_1 : w8.cell? ⟨gb137, 1, none⟩ = some (.int .i64 0) := (blk_cell BK137.out 1).trans rfl; have hfz9_0 := blk_frozen BK137.out 0; have hfz9_1 := blk_frozen BK137.out 1))
  go_loopg [9, 10] k (fun kq v9 v10 w' => ∃ (x9_1 : Int) (x10_1 : Int), v9 = .int .i64 x9_1 ∧ v10 = .int .i64 x10_1 ∧ Aside0 (lockfastlaw05_GeoApart.l0 kq t134 x9_1 x10_1 t135 t136 = some r) ∧ Aside0 (kq ≤ k) ∧ Aside0 (w'.heap[gb137]? = some (.cells #[.int .i64 t135, .int .i64 t136] 24 (0, 0))) ∧ Aside0 (Below w.heap.size w w'))
  case atStart => exact ⟨(10), (0), (by first | rfl | (simp; done) | (simp [*]; done)), (by first | rfl | (simp; done) | (simp [*]; done)), H', ⟨Nat.le_refl _⟩, ⟨by (with_reducible repeat (first | refine blk_drewN ?_ _ | refine blk_drew ?_ | refine blk_alloc ?_ _)); refine blk_put (cs := #[.int .i64 t135, .int .i64 0]) ?_ 1 _ rfl; (with_reducible repeat (first | refine blk_drewN ?_ _ | refine blk_drew ?_ | refine blk_alloc ?_ _)); refine blk_put (cs := #[.int .i64 0, .int .i64 0]) ?_ 0 _ rfl; (with_reducible repeat (first | refine blk_drewN ?_ _ | refine blk_drew ?_ | refine blk_alloc ?_ _)); exact BK137.out⟩, ⟨by repeat (first | (with_reducible first | exact HB.out | apply below_alloc | apply pw_below_drewN | apply below_drew1 | refine below_set ?_ GE137.out) | exact HB.out)⟩⟩
  case round =>
    clear H'
    try clear c1
    try clear p2
    try clear c8
    try clear c9
    try clear hcz9_0
    try clear hcz9_1
    try clear hfz9_0
    try clear hfz9_1
    obtain ⟨x9_1, x10_1, rfl, rfl, HA, HK1, BK137, HB⟩ := hrel
    cases gk with
    | zero => exact absurd HA.out (by simp [lockfastlaw05_GeoApart.l0])
    | succ k1 =>
      have H := HA.out
      clear HA
      simp only [lockfastlaw05_GeoApart.l0] at H
      by_cases c10 : x10_1 < t136
      · rw [if_pos c10] at H
        have c10b0 : decide (x10_1 < t136) = true := decide_eq_true c10
        clear c10
        replace H := Option.bind_eq_some_iff.mp H
        obtain ⟨t138, A110, H⟩ := H
        replace H : (if t138 = x9_1 then (lockfastlaw05_GeoApart.l0 k1 t134 (wrap64 (x9_1 + 1)) (wrap64 (x10_1 + 1)) t135 t136) else (some false)) = some r := H
        have A11 := Aside0.mk A110
        clear A110
        by_cases c12 : t138 = x9_1
        · rw [if_pos c12] at H
          have c12b0 : (t138 == x9_1) = true := beq_iff_eq.mpr c12
          have c12b1 : (t138 != x9_1) = false := bne_eq_false_iff_eq.mpr c12
          clear c12
          have H' := Aside0.mk H
          clear H
          have hcz13_0 : wr.cell? ⟨gb137, 0, none⟩ = some (.int .i64 t135) := (blk_cell BK137.out 0).trans rfl
          have hcz13_1 : wr.cell? ⟨gb137, 1, none⟩ = some (.int .i64 t136) := (blk_cell BK137.out 1).trans rfl
          have hfz13_0 := blk_frozen BK137.out 0
          have hfz13_1 := blk_frozen BK137.out 1
          go_wp2_with (first | ((with_reducible refine gate_callee (f := 18) rfl ?_); refine goesL_ (some 30) rfl rfl Try.func18 (by kernel_rfl) rfl #[.agg #[.int .i64 t135, .int .i64 t136], .int .i64 x10_1] rfl (by (try simp only [List.map_toArray, List.map_cons, List.map_nil]); first | done | rfl | (simp only [List.length_drop, List.length_take]; rfl)) ?_; (with_reducible refine (geo_Mark.calls t135 t136 x10_1 t138 _ A11.out).mono ?_); rintro e w14 ⟨rfl, hb⟩; refine ⟨_, rfl, ?_⟩; have n0_ := Aside0.mk (blk_below (g := gb137) (o := .cells #[.int .i64 t135, .int .i64 t136] 24 (0, 0)) (by (with_reducible repeat (first | refine blk_drewN ?_ _ | refine blk_drew ?_ | refine blk_alloc ?_ _)); exact BK137.out) hb); have n1_ := Aside0.mk (below_step (by repeat (first | (with_reducible first | exact HB.out | apply below_alloc | apply pw_below_drewN | apply below_drew1 | refine below_set ?_ GE137.out) | exact HB.out)) hb); clear BK137; clear HB; have BK137 := n0_; have HB := n1_; clear n0_ n1_; (try clear hb); (try clear hb2); (try clear hk); (try clear hi)))
          go_roundg k1
          case measure => have := HK1.out; omega
          case rel => exact ⟨(wrap64 (x9_1 + 1)), (wrap64 (x10_1 + 1)), (by first | rfl | (simp; done) | (simp [*]; done)), (by first | rfl | (simp; done) | (simp [*]; done)), H', ⟨by have := HK1.out; omega⟩, ⟨by (with_reducible repeat (first | refine blk_drewN ?_ _ | refine blk_drew ?_ | refine blk_alloc ?_ _)); exact BK137.out⟩, ⟨by repeat (first | (with_reducible first | exact HB.out | apply below_alloc | apply pw_below_drewN | apply below_drew1 | refine below_set ?_ GE137.out) | exact HB.out)⟩⟩
        · rw [if_neg c12] at H
          have c12b0 : (t138 == x9_1) = false := beq_eq_false_iff_ne.mpr c12
          have c12b1 : (t138 != x9_1) = true := bne_iff_ne.mpr c12
          obtain rfl := Option.some.inj H
          exact absurd HRT.out (by decide)
      · rw [if_neg c10] at H
        have c10b0 : decide (x10_1 < t136) = false := decide_eq_false c10
        clear c10
        have H' := Aside0.mk H
        clear H
        have hcz15_0 : wr.cell? ⟨gb137, 0, none⟩ = some (.int .i64 t135) := (blk_cell BK137.out 0).trans rfl
        have hcz15_1 : wr.cell? ⟨gb137, 1, none⟩ = some (.int .i64 t136) := (blk_cell BK137.out 1).trans rfl
        have hfz15_0 := blk_frozen BK137.out 0
        have hfz15_1 := blk_frozen BK137.out 1
        go_wp2
        go_loopg [9, 11] k1 (fun kq v9 v11 w' => ∃ (x9_2 : Int) (x11_2 : Int), v9 = .int .i64 x9_2 ∧ v11 = .int .i64 x11_2 ∧ Aside0 (lockfastlaw05_GeoApart.l1 kq t134 x9_2 x11_2 t135 t136 = some r) ∧ Aside0 (kq ≤ k1) ∧ Aside0 (w'.heap[gb137]? = some (.cells #[.int .i64 t135, .int .i64 t136] 24 (0, 0))) ∧ Aside0 (Below w.heap.size w w'))
        case atStart => exact ⟨(x9_1), (0), (by first | rfl | (simp; done) | (simp [*]; done)), (by first | rfl | (simp; done) | (simp [*]; done)), H', ⟨Nat.le_refl _⟩, ⟨by (with_reducible repeat (first | refine blk_drewN ?_ _ | refine blk_drew ?_ | refine blk_alloc ?_ _)); exact BK137.out⟩, ⟨by repeat (first | (with_reducible first | exact HB.out | apply below_alloc | apply pw_below_drewN | apply below_drew1 | refine below_set ?_ GE137.out) | exact HB.out)⟩⟩
        case round =>
          clear H'
          try clear c1
          try clear p2
          try clear p6
          try clear c8
          try clear c9
          try clear c10
          try clear c10b0
          try clear c12
          try clear c12b0
          try clear c12b1
          try clear hcz13_0
          try clear hcz13_1
          try clear hcz15_0
          try clear hcz15_1
          try clear hcz9_0
          try clear hcz9_1
          try clear hfz13_0
          try clear hfz13_1
          try clear hfz15_0
          try clear hfz15_1
          try clear hfz9_0
          try clear hfz9_1
          try clear p2
          obtain ⟨x9_2, x11_2, rfl, rfl, HA, HK2, BK137, HB⟩ := hrel
          cases gk with
          | zero => exact absurd HA.out (by simp [lockfastlaw05_GeoApart.l1])
          | succ k2 =>
            have H := HA.out
            clear HA
            simp only [lockfastlaw05_GeoApart.l1] at H
            by_cases c16 : x11_2 < t136
            · rw [if_pos c16] at H
              have c16b0 : decide (x11_2 < t136) = true := decide_eq_true c16
              clear c16
              replace H := Option.bind_eq_some_iff.mp H
              obtain ⟨⟨t139, t140⟩, A170, H⟩ := H
              replace H : ((geo_Redo.f t135 t136 x11_2).bind fun bt142 => (if t139 = x9_2 then (if t140 = 32 then (if bt142.1 = (wrap64 (x9_2 + t140)) then (if bt142.2 = 40 then (lockfastlaw05_GeoApart.l1 k2 t134 (wrap64 (bt142.1 + bt142.2)) (wrap64 (x11_2 + 1)) t135 t136) else (some false)) else (some false)) else (some false)) else (some false))) = some r := H
              have A17 := Aside0.mk A170
              clear A170
              replace H := Option.bind_eq_some_iff.mp H
              obtain ⟨⟨t142, t143⟩, A180, H⟩ := H
              replace H : (if t139 = x9_2 then (if t140 = 32 then (if t142 = (wrap64 (x9_2 + t140)) then (if t143 = 40 then (lockfastlaw05_GeoApart.l1 k2 t134 (wrap64 (t142 + t143)) (wrap64 (x11_2 + 1)) t135 t136) else (some false)) else (some false)) else (some false)) else (some false)) = some r := H
              have A18 := Aside0.mk A180
              clear A180
              by_cases c19 : t139 = x9_2
              · rw [if_pos c19] at H
                have c19b0 : (t139 == x9_2) = true := beq_iff_eq.mpr c19
                have c19b1 : (t139 != x9_2) = false := bne_eq_false_iff_eq.mpr c19
                clear c19
                by_cases c20 : t140 = 32
                · rw [if_pos c20] at H
                  have c20b0 : (t140 == 32) = true := beq_iff_eq.mpr c20
                  have c20b1 : (t140 != 32) = false := bne_eq_false_iff_eq.mpr c20
                  clear c20
                  by_cases c21 : t142 = (wrap64 (x9_2 + t140))
                  · rw [if_pos c21] at H
                    have c21b0 : (t142 == (wrap64 (x9_2 + t140))) = true := beq_iff_eq.mpr c21
                    have c21b1 : (t142 != (wrap64 (x9_2 + t140))) = false := bne_eq_false_iff_eq.mpr c21
                    clear c21
                    by_cases c22 : t143 = 40
                    · rw [if_pos c22] at H
                      have c22b0 : (t143 == 40) = true := beq_iff_eq.mpr c22
                      have c22b1 : (t143 != 40) = false := bne_eq_false_iff_eq.mpr c22
                      clear c22
                      have H' := Aside0.mk H
                      clear H
                      have hcz23_0 : wr.cell? ⟨gb137, 0, none⟩ = some (.int .i64 t135) := (blk_cell BK137.out 0).trans rfl
                      have hcz23_1 : wr.cell? ⟨gb137, 1, none⟩ = some (.int .i64 t136) := (blk_cell BK137.out 1).trans rfl
                      have hfz23_0 := blk_frozen BK137.out 0
                      have hfz23_1 := blk_frozen BK137.out 1
                      go_wp2_with (first | ((with_reducible refine gate_callee (f := 20) rfl ?_); refine goesL_ (some 43) rfl rfl Try.func20 (by kernel_rfl) rfl #[.agg #[.int .i64 t135, .int .i64 t136], .int .i64 x11_2] rfl (by (try simp only [List.map_toArray, List.map_cons, List.map_nil]); first | done | rfl | (simp only [List.length_drop, List.length_take]; rfl)) ?_; (with_reducible refine (geo_Log.calls t135 t136 x11_2 t139 t140 _ A17.out).mono ?_); rintro e w24 ⟨rfl, hb⟩; refine ⟨_, rfl, ?_⟩; have n0_ := Aside0.mk (blk_below (g := gb137) (o := .cells #[.int .i64 t135, .int .i64 t136] 24 (0, 0)) (by (with_reducible repeat (first | refine blk_drewN ?_ _ | refine blk_drew ?_ | refine blk_alloc ?_ _)); exact BK137.out) hb); have n1_ := Aside0.mk (below_step (by repeat (first | (with_reducible first | exact HB.out | apply below_alloc | apply pw_below_drewN | apply below_drew1 | refine below_set ?_ GE137.out) | exact HB.out)) hb); clear BK137; clear HB; have BK137 := n0_; have HB := n1_; clear n0_ n1_; (try clear hb); (try clear hb2); (try clear hk); (try clear hi)) | ((with_reducible refine gate_dst (N := 12) rfl ?_); refine box_event ?hg (N := 12) ?hd (cs := #[.int .i64 0, .int .i64 0]) (t := 33) ?hr ?_; (case hd => rfl); (case hg => rfl); (case hr => first | (go_simp; done) | (go_simp; rfl)); intro gb141 hg w25 hbox hb; have n0_ := Aside0.mk (blk_below (g := gb137) (o := .cells #[.int .i64 t135, .int .i64 t136] 24 (0, 0)) (by (with_reducible repeat (first | refine blk_drewN ?_ _ | refine blk_drew ?_ | refine blk_alloc ?_ _)); exact BK137.out) hb); have n1_ := Aside0.mk (below_step (by repeat (first | (with_reducible first | exact HB.out | apply below_alloc | apply pw_below_drewN | apply below_drew1 | refine below_set ?_ GE137.out) | exact HB.out)) hb); have n2_ := Aside0.mk (hbox); have n3_ := Aside0.mk ((by rw [hg]; exact (below_size (by repeat (first | (with_reducible first | exact HB.out | apply below_alloc | apply pw_below_drewN | apply below_drew1 | refine below_set ?_ GE137.out) | exact HB.out))) : w.heap.size ≤ gb141)); have n4_ := Aside0.mk ((by rw [hg]; exact (below_size (by repeat (first | (with_reducible first | exact HB.out | apply below_alloc | apply pw_below_drewN | apply below_drew1 | refine below_set ?_ GE137.out) | exact HB.out))) : w.heap.size ≤ gb141)); have n5_ := Aside0.mk ((by rw [hg]; exact Nat.ne_of_lt (blk_lt (g := gb137) (o := .cells #[.int .i64 t135, .int .i64 t136] 24 (0, 0)) (by (with_reducible repeat (first | refine blk_drewN ?_ _ | refine blk_drew ?_ | refine blk_alloc ?_ _)); exact BK137.out)) : gb137 ≠ gb141)); have n6_ := Aside0.mk ((by rw [hg]; exact Nat.ne_of_gt (blk_lt (g := gb137) (o := .cells #[.int .i64 t135, .int .i64 t136] 24 (0, 0)) (by (with_reducible repeat (first | refine blk_drewN ?_ _ | refine blk_drew ?_ | refine blk_alloc ?_ _)); exact BK137.out)) : gb141 ≠ gb137)); clear BK137; clear HB; have BK137 := n0_; have HB := n1_; have BK141 := n2_; have GW141 := n3_; have GE141 := n4_; have NB137_141 := n5_; have NB141_137 := n6_; clear n0_ n1_ n2_ n3_ n4_ n5_ n6_; clear hb hbox hg; have hnb26 := NB141_137.out; have hnc26 := NB137_141.out; have hcz27_0 : w25.cell? ⟨gb141, 0, none⟩ = some (.int .i64 0) := (blk_cell BK141.out 0).trans rfl; have hcz27_1 : w25.cell? ⟨gb141, 1, none⟩ = some (.int .i64 0) := (blk_cell BK141.out 1).trans rfl; have hfz27_0 := blk_frozen BK141.out 0; have hfz27_1 := blk_frozen BK141.out 1; have hcz28_0 : w25.cell? ⟨gb137, 0, none⟩ = some (.int .i64 t135) := (blk_cell BK137.out 0).trans rfl; have hcz28_1 : w25.cell? ⟨gb137, 1, none⟩ = some (.int .i64 t136) := (blk_cell BK137.out 1).trans rfl; have hfz28_0 := blk_frozen BK137.out 0; have hfz28_1 := blk_frozen BK137.out 1) | ((with_reducible refine gate_callee (f := 22) rfl ?_); refine goesL_ (some 46) rfl rfl Try.func22 (by kernel_rfl) rfl #[.agg #[.int .i64 t135, .int .i64 t136], .int .i64 x11_2] rfl (by (try simp only [List.map_toArray, List.map_cons, List.map_nil]); first | done | rfl | (simp only [List.length_drop, List.length_take]; rfl)) ?_; (with_reducible refine (geo_Redo.calls t135 t136 x11_2 t142 t143 _ A18.out).mono ?_); rintro e w29 ⟨rfl, hb⟩; refine ⟨_, rfl, ?_⟩; have n0_ := Aside0.mk (blk_below (g := gb137) (o := .cells #[.int .i64 t135, .int .i64 t136] 24 (0, 0)) (by (with_reducible repeat (first | refine blk_drewN ?_ _ | refine blk_drew ?_ | refine blk_alloc ?_ _)); refine blk_far ?_ NB137_141.out _; (with_reducible repeat (first | refine blk_drewN ?_ _ | refine blk_drew ?_ | refine blk_alloc ?_ _)); refine blk_far ?_ NB137_141.out _; (with_reducible repeat (first | refine blk_drewN ?_ _ | refine blk_drew ?_ | refine blk_alloc ?_ _)); exact BK137.out) hb); have n1_ := Aside0.mk (blk_below (g := gb141) (o := .cells #[.int .i64 t139, .int .i64 t140] 33 (0, 0)) (by (with_reducible repeat (first | refine blk_drewN ?_ _ | refine blk_drew ?_ | refine blk_alloc ?_ _)); refine blk_put (cs := #[.int .i64 t139, .int .i64 0]) ?_ 1 _ rfl; (with_reducible repeat (first | refine blk_drewN ?_ _ | refine blk_drew ?_ | refine blk_alloc ?_ _)); refine blk_put (cs := #[.int .i64 0, .int .i64 0]) ?_ 0 _ rfl; (with_reducible repeat (first | refine blk_drewN ?_ _ | refine blk_drew ?_ | refine blk_alloc ?_ _)); exact BK141.out) hb); have n2_ := Aside0.mk (below_step (by repeat (first | (with_reducible first | exact HB.out | apply below_alloc | apply pw_below_drewN | apply below_drew1 | refine below_set ?_ GE137.out | refine below_set ?_ GE141.out) | exact HB.out)) hb); clear BK137; clear BK141; clear HB; have BK137 := n0_; have BK141 := n1_; have HB := n2_; clear n0_ n1_ n2_; (try clear hb); (try clear hb2); (try clear hk); (try clear hi)) | ((with_reducible refine gate_dst (N := 13) rfl ?_); refine box_event ?hg (N := 13) ?hd (cs := #[.int .i64 0, .int .i64 0]) (t := 33) ?hr ?_; (case hd => rfl); (case hg => rfl); (case hr => first | (go_simp; done) | (go_simp; rfl)); intro gb144 hg w30 hbox hb; have n0_ := Aside0.mk (blk_below (g := gb137) (o := .cells #[.int .i64 t135, .int .i64 t136] 24 (0, 0)) (by (with_reducible repeat (first | refine blk_drewN ?_ _ | refine blk_drew ?_ | refine blk_alloc ?_ _)); exact BK137.out) hb); have n1_ := Aside0.mk (blk_below (g := gb141) (o := .cells #[.int .i64 t139, .int .i64 t140] 33 (0, 0)) (by (with_reducible repeat (first | refine blk_drewN ?_ _ | refine blk_drew ?_ | refine blk_alloc ?_ _)); exact BK141.out) hb); have n2_ := Aside0.mk (below_step (by repeat (first | (with_reducible first | exact HB.out | apply below_alloc | apply pw_below_drewN | apply below_drew1 | refine below_set ?_ GE137.out | refine below_set ?_ GE141.out) | exact HB.out)) hb); have n3_ := Aside0.mk (hbox); have n4_ := Aside0.mk ((by rw [hg]; exact (below_size (by repeat (first | (with_reducible first | exact HB.out | apply below_alloc | apply pw_below_drewN | apply below_drew1 | refine below_set ?_ GE137.out | refine below_set ?_ GE141.out) | exact HB.out))) : w.heap.size ≤ gb144)); have n5_ := Aside0.mk ((by rw [hg]; exact (below_size (by repeat (first | (with_reducible first | exact HB.out | apply below_alloc | apply pw_below_drewN | apply below_drew1 | refine below_set ?_ GE137.out | refine below_set ?_ GE141.out) | exact HB.out))) : w.heap.size ≤ gb144)); have n6_ := Aside0.mk ((by rw [hg]; exact Nat.ne_of_lt (blk_lt (g := gb137) (o := .cells #[.int .i64 t135, .int .i64 t136] 24 (0, 0)) (by (with_reducible repeat (first | refine blk_drewN ?_ _ | refine blk_drew ?_ | refine blk_alloc ?_ _)); exact BK137.out)) : gb137 ≠ gb144)); have n7_ := Aside0.mk ((by rw [hg]; exact Nat.ne_of_gt (blk_lt (g := gb137) (o := .cells #[.int .i64 t135, .int .i64 t136] 24 (0, 0)) (by (with_reducible repeat (first | refine blk_drewN ?_ _ | refine blk_drew ?_ | refine blk_alloc ?_ _)); exact BK137.out)) : gb144 ≠ gb137)); have n8_ := Aside0.mk ((by rw [hg]; exact Nat.ne_of_lt (blk_lt (g := gb141) (o := .cells #[.int .i64 t139, .int .i64 t140] 33 (0, 0)) (by (with_reducible repeat (first | refine blk_drewN ?_ _ | refine blk_drew ?_ | refine blk_alloc ?_ _)); exact BK141.out)) : gb141 ≠ gb144)); have n9_ := Aside0.mk ((by rw [hg]; exact Nat.ne_of_gt (blk_lt (g := gb141) (o := .cells #[.int .i64 t139, .int .i64 t140] 33 (0, 0)) (by (with_reducible repeat (first | refine blk_drewN ?_ _ | refine blk_drew ?_ | refine blk_alloc ?_ _)); exact BK141.out)) : gb144 ≠ gb141)); clear BK137; clear BK141; clear HB; have BK137 := n0_; have BK141 := n1_; have HB := n2_; have BK144 := n3_; have GW144 := n4_; have GE144 := n5_; have NB137_144 := n6_; have NB144_137 := n7_; have NB141_144 := n8_; have NB144_141 := n9_; clear n0_ n1_ n2_ n3_ n4_ n5_ n6_ n7_ n8_ n9_; clear hb hbox hg; have hnb31 := NB144_137.out; have hnc31 := NB137_144.out; have hnb32 := NB144_141.out; have hnc32 := NB141_144.out; have hcz33_0 : w30.cell? ⟨gb144, 0, none⟩ = some (.int .i64 0) := (blk_cell BK144.out 0).trans rfl; have hcz33_1 : w30.cell? ⟨gb144, 1, none⟩ = some (.int .i64 0) := (blk_cell BK144.out 1).trans rfl; have hfz33_0 := blk_frozen BK144.out 0; have hfz33_1 := blk_frozen BK144.out 1; have hcz34_0 : w30.cell? ⟨gb141, 0, none⟩ = some (.int .i64 t139) := (blk_cell BK141.out 0).trans rfl; have hcz34_1 : w30.cell? ⟨gb141, 1, none⟩ = some (.int .i64 t140) := (blk_cell BK141.out 1).trans rfl; have hfz34_0 := blk_frozen BK141.out 0; have hfz34_1 := blk_frozen BK141.out 1))
                      go_roundg k2
                      case measure => have := HK1.out; have := HK2.out; omega
                      case rel => exact ⟨(wrap64 (t142 + t143)), (wrap64 (x11_2 + 1)), (by first | rfl | (simp; done) | (simp [*]; done)), (by first | rfl | (simp; done) | (simp [*]; done)), H', ⟨by have := HK1.out; have := HK2.out; omega⟩, ⟨by (with_reducible repeat (first | refine blk_drewN ?_ _ | refine blk_drew ?_ | refine blk_alloc ?_ _)); refine blk_far ?_ NB137_144.out _; (with_reducible repeat (first | refine blk_drewN ?_ _ | refine blk_drew ?_ | refine blk_alloc ?_ _)); refine blk_far ?_ NB137_144.out _; (with_reducible repeat (first | refine blk_drewN ?_ _ | refine blk_drew ?_ | refine blk_alloc ?_ _)); exact BK137.out⟩, ⟨by repeat (first | (with_reducible first | exact HB.out | apply below_alloc | apply pw_below_drewN | apply below_drew1 | refine below_set ?_ GE137.out | refine below_set ?_ GE141.out | refine below_set ?_ GE144.out) | exact HB.out)⟩⟩
                    · rw [if_neg c22] at H
                      have c22b0 : (t143 == 40) = false := beq_eq_false_iff_ne.mpr c22
                      have c22b1 : (t143 != 40) = true := bne_iff_ne.mpr c22
                      obtain rfl := Option.some.inj H
                      exact absurd HRT.out (by decide)
                  · rw [if_neg c21] at H
                    have c21b0 : (t142 == (wrap64 (x9_2 + t140))) = false := beq_eq_false_iff_ne.mpr c21
                    have c21b1 : (t142 != (wrap64 (x9_2 + t140))) = true := bne_iff_ne.mpr c21
                    obtain rfl := Option.some.inj H
                    exact absurd HRT.out (by decide)
                · rw [if_neg c20] at H
                  have c20b0 : (t140 == 32) = false := beq_eq_false_iff_ne.mpr c20
                  have c20b1 : (t140 != 32) = true := bne_iff_ne.mpr c20
                  obtain rfl := Option.some.inj H
                  exact absurd HRT.out (by decide)
              · rw [if_neg c19] at H
                have c19b0 : (t139 == x9_2) = false := beq_eq_false_iff_ne.mpr c19
                have c19b1 : (t139 != x9_2) = true := bne_iff_ne.mpr c19
                obtain rfl := Option.some.inj H
                exact absurd HRT.out (by decide)
            · rw [if_neg c16] at H
              have c16b0 : decide (x11_2 < t136) = false := decide_eq_false c16
              clear c16
              replace H := Option.bind_eq_some_iff.mp H
              obtain ⟨⟨t145, t146⟩, A350, H⟩ := H
              replace H : (if t145 = x9_2 then ((geo_Chunks.f t135 t136).bind fun t148 => (lockfastlaw05_GeoApart.j2 k2 t134 (t146 != t148) t135 t136 t145 t146)) else (lockfastlaw05_GeoApart.j2 k2 t134 true t135 t136 t145 t146)) = some r := H
              have A35 := Aside0.mk A350
              clear A350
              have HC36 := Aside0.mk H
              clear H
              have hcz37_0 : wr.cell? ⟨gb137, 0, none⟩ = some (.int .i64 t135) := (blk_cell BK137.out 0).trans rfl
              have hcz37_1 : wr.cell? ⟨gb137, 1, none⟩ = some (.int .i64 t136) := (blk_cell BK137.out 1).trans rfl
              have hfz37_0 := blk_frozen BK137.out 0
              have hfz37_1 := blk_frozen BK137.out 1
              go_upto_region 19 with (first | ((with_reducible refine gate_callee (f := 24) rfl ?_); refine goesL_ (some 76) rfl rfl Try.func24 (by kernel_rfl) rfl #[.agg #[.int .i64 t135, .int .i64 t136]] rfl (by (try simp only [List.map_toArray, List.map_cons, List.map_nil]); first | done | rfl | (simp only [List.length_drop, List.length_take]; rfl)) ?_; (with_reducible refine (geo_Table.calls t135 t136 t145 t146 _ A35.out).mono ?_); rintro e w38 ⟨rfl, hb⟩; refine ⟨_, rfl, ?_⟩; have n0_ := Aside0.mk (blk_below (g := gb137) (o := .cells #[.int .i64 t135, .int .i64 t136] 24 (0, 0)) (by (with_reducible repeat (first | refine blk_drewN ?_ _ | refine blk_drew ?_ | refine blk_alloc ?_ _)); exact BK137.out) hb); have n1_ := Aside0.mk (below_step (by repeat (first | (with_reducible first | exact HB.out | apply below_alloc | apply pw_below_drewN | apply below_drew1 | refine below_set ?_ GE137.out) | exact HB.out)) hb); clear BK137; clear HB; have BK137 := n0_; have HB := n1_; clear n0_ n1_; (try clear hb); (try clear hb2); (try clear hk); (try clear hi)) | ((with_reducible refine gate_dst (N := 14) rfl ?_); refine box_event ?hg (N := 14) ?hd (cs := #[.int .i64 0, .int .i64 0]) (t := 33) ?hr ?_; (case hd => rfl); (case hg => rfl); (case hr => first | (go_simp; done) | (go_simp; rfl)); intro gb147 hg w39 hbox hb; have n0_ := Aside0.mk (blk_below (g := gb137) (o := .cells #[.int .i64 t135, .int .i64 t136] 24 (0, 0)) (by (with_reducible repeat (first | refine blk_drewN ?_ _ | refine blk_drew ?_ | refine blk_alloc ?_ _)); exact BK137.out) hb); have n1_ := Aside0.mk (below_step (by repeat (first | (with_reducible first | exact HB.out | apply below_alloc | apply pw_below_drewN | apply below_drew1 | refine below_set ?_ GE137.out) | exact HB.out)) hb); have n2_ := Aside0.mk (hbox); have n3_ := Aside0.mk ((by rw [hg]; exact (below_size (by repeat (first | (with_reducible first | exact HB.out | apply below_alloc | apply pw_below_drewN | apply below_drew1 | refine below_set ?_ GE137.out) | exact HB.out))) : w.heap.size ≤ gb147)); have n4_ := Aside0.mk ((by rw [hg]; exact (below_size (by repeat (first | (with_reducible first | exact HB.out | apply below_alloc | apply pw_below_drewN | apply below_drew1 | refine below_set ?_ GE137.out) | exact HB.out))) : w.heap.size ≤ gb147)); have n5_ := Aside0.mk ((by rw [hg]; exact Nat.ne_of_lt (blk_lt (g := gb137) (o := .cells #[.int .i64 t135, .int .i64 t136] 24 (0, 0)) (by (with_reducible repeat (first | refine blk_drewN ?_ _ | refine blk_drew ?_ | refine blk_alloc ?_ _)); exact BK137.out)) : gb137 ≠ gb147)); have n6_ := Aside0.mk ((by rw [hg]; exact Nat.ne_of_gt (blk_lt (g := gb137) (o := .cells #[.int .i64 t135, .int .i64 t136] 24 (0, 0)) (by (with_reducible repeat (first | refine blk_drewN ?_ _ | refine blk_drew ?_ | refine blk_alloc ?_ _)); exact BK137.out)) : gb147 ≠ gb137)); clear BK137; clear HB; have BK137 := n0_; have HB := n1_; have BK147 := n2_; have GW147 := n3_; have GE147 := n4_; have NB137_147 := n5_; have NB147_137 := n6_; clear n0_ n1_ n2_ n3_ n4_ n5_ n6_; clear hb hbox hg; have hnb40 := NB147_137.out; have hnc40 := NB137_147.out; have hcz41_0 : w39.cell? ⟨gb147, 0, none⟩ = some (.int .i64 0) := (blk_cell BK147.out 0).trans rfl; have hcz41_1 : w39.cell? ⟨gb147, 1, none⟩ = some (.int .i64 0) := (blk_cell BK147.out 1).trans rfl; have hfz41_0 := blk_frozen BK147.out 0; have hfz41_1 := blk_frozen BK147.out 1))
              (try simp only [Act.put, List.setIfInBounds_toArray, List.set_cons_zero, List.set_cons_succ])
              go_cut [87] (fun v87 wc => ∃ (kq : Nat) (x87_35 : Bool), v87 = .bool x87_35 ∧ Aside0 (lockfastlaw05_GeoApart.j2 kq t134 x87_35 t135 t136 t145 t146 = some r) ∧ Aside0 (kq ≤ k2) ∧ Aside0 (wc.heap[gb137]? = some (.cells #[.int .i64 t135, .int .i64 t136] 24 (0, 0))) ∧ Aside0 (wc.heap[gb147]? = some (.cells #[.int .i64 t145, .int .i64 t146] 33 (0, 0))) ∧ Aside0 (Below w.heap.size w wc))
              case first =>
                have H := HC36.out
                clear HC36
                by_cases c42 : t145 = x9_2
                · rw [if_pos c42] at H
                  have c42b0 : (t145 == x9_2) = true := beq_iff_eq.mpr c42
                  have c42b1 : (t145 != x9_2) = false := bne_eq_false_iff_eq.mpr c42
                  clear c42
                  (first | rw [c42b0] | (simp only [i64_w, i32_w]; rw [c42b0]) | skip)
                  replace H := Option.bind_eq_some_iff.mp H
                  obtain ⟨t148, A430, H⟩ := H
                  replace H : (lockfastlaw05_GeoApart.j2 k2 t134 (t146 != t148) t135 t136 t145 t146) = some r := H
                  have A43 := Aside0.mk A430
                  clear A430
                  have H' := Aside0.mk H
                  clear H
                  try go_wp2
                  have n0_ : Aside0 (((w39.setCell ⟨gb147, 0, none⟩ (.int .i64 t145)).setCell ⟨gb147, 1, none⟩ (.int .i64 t146)).heap[gb137]? = some (.cells #[.int .i64 t135, .int .i64 t136] 24 (0, 0))) := ⟨by (with_reducible repeat (first | refine blk_drewN ?_ _ | refine blk_drew ?_ | refine blk_alloc ?_ _)); refine blk_far ?_ NB137_147.out _; (with_reducible repeat (first | refine blk_drewN ?_ _ | refine blk_drew ?_ | refine blk_alloc ?_ _)); refine blk_far ?_ NB137_147.out _; (with_reducible repeat (first | refine blk_drewN ?_ _ | refine blk_drew ?_ | refine blk_alloc ?_ _)); exact BK137.out⟩
                  have n1_ : Aside0 (((w39.setCell ⟨gb147, 0, none⟩ (.int .i64 t145)).setCell ⟨gb147, 1, none⟩ (.int .i64 t146)).heap[gb147]? = some (.cells #[.int .i64 t145, .int .i64 t146] 33 (0, 0))) := ⟨by (with_reducible repeat (first | refine blk_drewN ?_ _ | refine blk_drew ?_ | refine blk_alloc ?_ _)); refine blk_put (cs := #[.int .i64 t145, .int .i64 0]) ?_ 1 _ rfl; (with_reducible repeat (first | refine blk_drewN ?_ _ | refine blk_drew ?_ | refine blk_alloc ?_ _)); refine blk_put (cs := #[.int .i64 0, .int .i64 0]) ?_ 0 _ rfl; (with_reducible repeat (first | refine blk_drewN ?_ _ | refine blk_drew ?_ | refine blk_alloc ?_ _)); exact BK147.out⟩
                  have n2_ : Aside0 (Below w.heap.size w ((w39.setCell ⟨gb147, 0, none⟩ (.int .i64 t145)).setCell ⟨gb147, 1, none⟩ (.int .i64 t146))) := ⟨by repeat (first | (with_reducible first | exact HB.out | apply below_alloc | apply pw_below_drewN | apply below_drew1 | refine below_set ?_ GE137.out | refine below_set ?_ GE147.out) | exact HB.out)⟩
                  (try clear BK137)
                  (try clear BK147)
                  (try clear HB)
                  generalize ((w39.setCell ⟨gb147, 0, none⟩ (.int .i64 t145)).setCell ⟨gb147, 1, none⟩ (.int .i64 t146)) = w44 at n0_ n1_ n2_ ⊢
                  have BK137 := n0_
                  have BK147 := n1_
                  have HB := n2_
                  clear n0_ n1_ n2_
                  have n0_ := Aside0.mk (blk_drew BK137.out)
                  have n1_ := Aside0.mk (blk_drew BK147.out)
                  have n2_ := Aside0.mk (below_drew1 HB.out)
                  clear BK137
                  clear BK147
                  clear HB
                  have BK137 := n0_
                  have BK147 := n1_
                  have HB := n2_
                  clear n0_ n1_ n2_
                  refine start_ (n := 11) (S := fun w' => w'.cell? ⟨gb147, 0, none⟩ = some (.int .i64 t145) ∧ w'.cell? ⟨gb147, 1, none⟩ = some (.int .i64 t146) ∧ w'.cell? ⟨gb137, 0, none⟩ = some (.int .i64 t135) ∧ w'.cell? ⟨gb137, 1, none⟩ = some (.int .i64 t136)) (ds := []) #[false, false, false, false, false, false, false, false, false, false, false] (by kernel_rfl) rfl rfl ⟨(blk_cell BK147.out 0).trans rfl, (blk_cell BK147.out 1).trans rfl, (blk_cell BK137.out 0).trans rfl, (blk_cell BK137.out 1).trans rfl⟩ (fun hHeld => ?_); refine with_tabW lockfastlaw05_GeoApart.tab19 lockfastlaw05_GeoApart.bits19 (fun HT_ HW_ => ?_)
                  generalize w44.drew = w45 at BK137 BK147 HB hHeld ⊢
                  refine pure_ (i := 0) (N := some 77) (v := ?_) (a' := ?_) #[true, false, false, false, false, false, false, false, false, false, false] rfl rfl (any_of HT_.out (by kernel_rfl)) (fun _ _ _ h => h) (Or.inl ⟨by rfl, ?_⟩) ?_ ?_
                  rotate_left
                  · intro w'
                    go_simp
                    with_reducible rfl
                  rotate_left
                  · simp only [Act.put, List.setIfInBounds_toArray, List.set_cons_zero, List.set_cons_succ, i64_w, i32_w]
                    rfl
                  refine pure_ (i := 2) (N := some 79) (v := ?_) (a' := ?_) #[true, false, true, false, false, false, false, false, false, false, false] rfl rfl (any_of HT_.out (by kernel_rfl)) (fun _ _ _ h => h) (Or.inl ⟨by rfl, ?_⟩) ?_ ?_
                  rotate_left
                  · intro w'
                    go_simp
                    with_reducible rfl
                  rotate_left
                  · simp only [Act.put, List.setIfInBounds_toArray, List.set_cons_zero, List.set_cons_succ, i64_w, i32_w]
                    rfl
                  refine take_ (i := 1) (N := some 78) (v := ?_) (a' := ?_) #[true, true, true, false, false, false, false, false, false, false, false] rfl rfl (take_ofW HT_.out HW_.out (by kernel_rfl)) (fun _ _ _ h => h) (Or.inl ⟨by rfl, ?_⟩) hHeld ?_ ?_
                  rotate_left
                  · rintro w' ⟨s0, s1, s2, s3⟩
                    go_simp
                    with_reducible rfl
                  rotate_left
                  · simp only [Act.put, List.setIfInBounds_toArray, List.set_cons_zero, List.set_cons_succ, i64_w, i32_w]
                    rfl
                  refine pure_ (i := 3) (N := some 80) (v := ?_) (a' := ?_) #[true, true, true, true, false, false, false, false, false, false, false] rfl rfl (any_of HT_.out (by kernel_rfl)) (fun _ _ _ h => h) (Or.inl ⟨by rfl, ?_⟩) ?_ ?_
                  rotate_left
                  · intro w'
                    go_simp
                    with_reducible rfl
                  rotate_left
                  · simp only [Act.put, List.setIfInBounds_toArray, List.set_cons_zero, List.set_cons_succ, i64_w, i32_w]
                    rfl
                  refine pure_ (i := 4) (N := some 81) (v := ?_) (a' := ?_) #[true, true, true, true, true, false, false, false, false, false, false] rfl rfl (any_of HT_.out (by kernel_rfl)) (fun _ _ _ h => h) (Or.inl ⟨by rfl, ?_⟩) ?_ ?_
                  rotate_left
                  · intro w'
                    go_simp
                    with_reducible rfl
                  rotate_left
                  · simp only [Act.put, List.setIfInBounds_toArray, List.set_cons_zero, List.set_cons_succ, i64_w, i32_w]
                    rfl
                  refine pure_ (i := 5) (N := some 82) (v := ?_) (a' := ?_) #[true, true, true, true, true, true, false, false, false, false, false] rfl rfl (any_of HT_.out (by kernel_rfl)) (fun _ _ _ h => h) (Or.inl ⟨by rfl, ?_⟩) ?_ ?_
                  rotate_left
                  · intro w'
                    go_simp
                    with_reducible rfl
                  rotate_left
                  · simp only [Act.put, List.setIfInBounds_toArray, List.set_cons_zero, List.set_cons_succ, i64_w, i32_w]
                    rfl
                  refine take_ (i := 6) (N := some 83) (v := ?_) (a' := ?_) #[true, true, true, true, true, true, true, false, false, false, false] rfl rfl (take_ofW HT_.out HW_.out (by kernel_rfl)) (fun _ _ _ h => h) (Or.inl ⟨by rfl, ?_⟩) hHeld ?_ ?_
                  rotate_left
                  · rintro w' ⟨s0, s1, s2, s3⟩
                    go_simp
                    with_reducible rfl
                  rotate_left
                  · simp only [Act.put, List.setIfInBounds_toArray, List.set_cons_zero, List.set_cons_succ, i64_w, i32_w]
                    rfl
                  refine take_ (i := 7) (N := some 84) (v := ?_) (a' := ?_) #[true, true, true, true, true, true, true, true, false, false, false] rfl rfl (take_ofW HT_.out HW_.out (by kernel_rfl)) (fun _ _ _ h => h) (Or.inl ⟨by rfl, ?_⟩) hHeld ?_ ?_
                  rotate_left
                  · rintro w' ⟨s0, s1, s2, s3⟩
                    go_simp
                    with_reducible rfl
                  rotate_left
                  · simp only [Act.put, List.setIfInBounds_toArray, List.set_cons_zero, List.set_cons_succ, i64_w, i32_w]
                    rfl
                  refine one_ (i := 8) (N := some 85) #[true, true, true, true, true, true, true, true, true, false, false] rfl rfl (one_of HT_.out (by kernel_rfl)) (by decide) (fun K hK => ?_)
                  refine goes_ Try.func11 (by kernel_rfl) rfl #[.agg #[.int .i64 t135, .int .i64 t136]] (by rfl) rfl rfl (by (try simp only [List.map_toArray, List.map_cons, List.map_nil]); first | done | rfl | (simp only [List.length_drop, List.length_take]; rfl)) ?_
                  with_reducible refine (geo_Chunks.calls t135 t136 t148 _ A43.out).mono ?_
                  rintro e w46 ⟨rfl, hb⟩
                  refine ⟨_, rfl, ?_⟩
                  have n0_ := Aside0.mk (blk_below (g := gb137) (o := .cells #[.int .i64 t135, .int .i64 t136] 24 (0, 0)) (by (with_reducible repeat (first | refine blk_drewN ?_ _ | refine blk_drew ?_ | refine blk_alloc ?_ _)); exact BK137.out) hb)
                  have n1_ := Aside0.mk (blk_below (g := gb147) (o := .cells #[.int .i64 t145, .int .i64 t146] 33 (0, 0)) (by (with_reducible repeat (first | refine blk_drewN ?_ _ | refine blk_drew ?_ | refine blk_alloc ?_ _)); exact BK147.out) hb)
                  have n2_ := Aside0.mk (below_step (by repeat (first | (with_reducible first | exact HB.out | apply below_alloc | apply pw_below_drewN | apply below_drew1 | refine below_set ?_ GE137.out | refine below_set ?_ GE147.out) | exact HB.out)) hb)
                  clear BK137
                  clear BK147
                  clear HB
                  have BK137 := n0_
                  have BK147 := n1_
                  have HB := n2_
                  clear n0_ n1_ n2_
                  (try clear hb)
                  (try clear hb2)
                  (try clear hk)
                  (try clear hi)
                  refine hK.out _ _ ⟨(blk_cell BK147.out 0).trans rfl, (blk_cell BK147.out 1).trans rfl, (blk_cell BK137.out 0).trans rfl, (blk_cell BK137.out 1).trans rfl⟩ (fun hHeld => ?_)
                  clear hK K
                  refine norm_ (a' := ?_) ?_ ?_
                  rotate_left
                  · show Act.put _ (some 85) _ = _
                    simp only [Act.put, List.setIfInBounds_toArray, List.set_cons_zero, List.set_cons_succ, i64_w, i32_w]
                    rfl
                  refine pure_ (i := 9) (N := some 86) (v := ?_) (a' := ?_) #[true, true, true, true, true, true, true, true, true, true, false] rfl rfl (any_of HT_.out (by kernel_rfl)) (fun _ _ _ h => h) (Or.inl ⟨by rfl, ?_⟩) ?_ ?_
                  rotate_left
                  · intro w'
                    go_simp
                    with_reducible rfl
                  rotate_left
                  · simp only [Act.put, List.setIfInBounds_toArray, List.set_cons_zero, List.set_cons_succ, i64_w, i32_w]
                    rfl
                  refine pure_ (i := 10) (N := some 87) (v := ?_) (a' := ?_) #[true, true, true, true, true, true, true, true, true, true, true] rfl rfl (any_of HT_.out (by kernel_rfl)) (fun _ _ _ h => h) (Or.inl ⟨by rfl, ?_⟩) ?_ ?_
                  rotate_left
                  · intro w'
                    go_simp
                    with_reducible rfl
                  rotate_left
                  · simp only [Act.put, List.setIfInBounds_toArray, List.set_cons_zero, List.set_cons_succ, i64_w, i32_w]
                    rfl
                  refine done_ (done_of HT_.out (by kernel_rfl)) ?_
                  try go_wp2
                  go_meet
                  case rel => exact ⟨_, ((t146 != t148)), (by first | rfl | (simp; done) | (simp [*]; done)), H', ⟨by have := HK1.out; have := HK2.out; first | omega | exact Nat.le_refl _⟩, ⟨by (with_reducible repeat (first | refine blk_drewN ?_ _ | refine blk_drew ?_ | refine blk_alloc ?_ _)); exact BK137.out⟩, ⟨by (with_reducible repeat (first | refine blk_drewN ?_ _ | refine blk_drew ?_ | refine blk_alloc ?_ _)); exact BK147.out⟩, ⟨by repeat (first | (with_reducible first | exact HB.out | apply below_alloc | apply pw_below_drewN | apply below_drew1 | refine below_set ?_ GE137.out | refine below_set ?_ GE147.out) | exact HB.out)⟩⟩
                · rw [if_neg c42] at H
                  have c42b0 : (t145 == x9_2) = false := beq_eq_false_iff_ne.mpr c42
                  have c42b1 : (t145 != x9_2) = true := bne_iff_ne.mpr c42
                  (first | rw [c42b0] | (simp only [i64_w, i32_w]; rw [c42b0]) | skip)
                  have H' := Aside0.mk H
                  clear H
                  try go_wp2
                  have n0_ : Aside0 (((w39.setCell ⟨gb147, 0, none⟩ (.int .i64 t145)).setCell ⟨gb147, 1, none⟩ (.int .i64 t146)).heap[gb137]? = some (.cells #[.int .i64 t135, .int .i64 t136] 24 (0, 0))) := ⟨by (with_reducible repeat (first | refine blk_drewN ?_ _ | refine blk_drew ?_ | refine blk_alloc ?_ _)); refine blk_far ?_ NB137_147.out _; (with_reducible repeat (first | refine blk_drewN ?_ _ | refine blk_drew ?_ | refine blk_alloc ?_ _)); refine blk_far ?_ NB137_147.out _; (with_reducible repeat (first | refine blk_drewN ?_ _ | refine blk_drew ?_ | refine blk_alloc ?_ _)); exact BK137.out⟩
                  have n1_ : Aside0 (((w39.setCell ⟨gb147, 0, none⟩ (.int .i64 t145)).setCell ⟨gb147, 1, none⟩ (.int .i64 t146)).heap[gb147]? = some (.cells #[.int .i64 t145, .int .i64 t146] 33 (0, 0))) := ⟨by (with_reducible repeat (first | refine blk_drewN ?_ _ | refine blk_drew ?_ | refine blk_alloc ?_ _)); refine blk_put (cs := #[.int .i64 t145, .int .i64 0]) ?_ 1 _ rfl; (with_reducible repeat (first | refine blk_drewN ?_ _ | refine blk_drew ?_ | refine blk_alloc ?_ _)); refine blk_put (cs := #[.int .i64 0, .int .i64 0]) ?_ 0 _ rfl; (with_reducible repeat (first | refine blk_drewN ?_ _ | refine blk_drew ?_ | refine blk_alloc ?_ _)); exact BK147.out⟩
                  have n2_ : Aside0 (Below w.heap.size w ((w39.setCell ⟨gb147, 0, none⟩ (.int .i64 t145)).setCell ⟨gb147, 1, none⟩ (.int .i64 t146))) := ⟨by repeat (first | (with_reducible first | exact HB.out | apply below_alloc | apply pw_below_drewN | apply below_drew1 | refine below_set ?_ GE137.out | refine below_set ?_ GE147.out) | exact HB.out)⟩
                  (try clear BK137)
                  (try clear BK147)
                  (try clear HB)
                  generalize ((w39.setCell ⟨gb147, 0, none⟩ (.int .i64 t145)).setCell ⟨gb147, 1, none⟩ (.int .i64 t146)) = w47 at n0_ n1_ n2_ ⊢
                  have BK137 := n0_
                  have BK147 := n1_
                  have HB := n2_
                  clear n0_ n1_ n2_
                  have n0_ := Aside0.mk (blk_drew BK137.out)
                  have n1_ := Aside0.mk (blk_drew BK147.out)
                  have n2_ := Aside0.mk (below_drew1 HB.out)
                  clear BK137
                  clear BK147
                  clear HB
                  have BK137 := n0_
                  have BK147 := n1_
                  have HB := n2_
                  clear n0_ n1_ n2_
                  refine start_ (n := 11) (S := fun w' => w'.cell? ⟨gb147, 0, none⟩ = some (.int .i64 t145) ∧ w'.cell? ⟨gb147, 1, none⟩ = some (.int .i64 t146)) (ds := []) #[false, false, false, false, false, false, false, false, false, false, false] (by kernel_rfl) rfl rfl ⟨(blk_cell BK147.out 0).trans rfl, (blk_cell BK147.out 1).trans rfl⟩ (fun hHeld => ?_); refine with_tabW lockfastlaw05_GeoApart.tab19 lockfastlaw05_GeoApart.bits19 (fun HT_ HW_ => ?_)
                  generalize w47.drew = w48 at BK137 BK147 HB hHeld ⊢
                  refine pure_ (i := 0) (N := some 77) (v := ?_) (a' := ?_) #[true, false, false, false, false, false, false, false, false, false, false] rfl rfl (any_of HT_.out (by kernel_rfl)) (fun _ _ _ h => h) (Or.inl ⟨by rfl, ?_⟩) ?_ ?_
                  rotate_left
                  · intro w'
                    go_simp
                    with_reducible rfl
                  rotate_left
                  · simp only [Act.put, List.setIfInBounds_toArray, List.set_cons_zero, List.set_cons_succ, i64_w, i32_w]
                    rfl
                  refine pure_ (i := 2) (N := some 79) (v := ?_) (a' := ?_) #[true, false, true, false, false, false, false, false, false, false, false] rfl rfl (any_of HT_.out (by kernel_rfl)) (fun _ _ _ h => h) (Or.inl ⟨by rfl, ?_⟩) ?_ ?_
                  rotate_left
                  · intro w'
                    go_simp
                    with_reducible rfl
                  rotate_left
                  · simp only [Act.put, List.setIfInBounds_toArray, List.set_cons_zero, List.set_cons_succ, i64_w, i32_w]
                    rfl
                  refine take_ (i := 1) (N := some 78) (v := ?_) (a' := ?_) #[true, true, true, false, false, false, false, false, false, false, false] rfl rfl (take_ofW HT_.out HW_.out (by kernel_rfl)) (fun _ _ _ h => h) (Or.inl ⟨by rfl, ?_⟩) hHeld ?_ ?_
                  rotate_left
                  · rintro w' ⟨s0, s1⟩
                    go_simp
                    with_reducible rfl
                  rotate_left
                  · simp only [Act.put, List.setIfInBounds_toArray, List.set_cons_zero, List.set_cons_succ, i64_w, i32_w]
                    rfl
                  refine pure_ (i := 3) (N := some 80) (v := ?_) (a' := ?_) #[true, true, true, true, false, false, false, false, false, false, false] rfl rfl (any_of HT_.out (by kernel_rfl)) (fun _ _ _ h => h) (Or.inl ⟨by rfl, ?_⟩) ?_ ?_
                  rotate_left
                  · intro w'
                    go_simp
                    with_reducible rfl
                  rotate_left
                  · simp only [Act.put, List.setIfInBounds_toArray, List.set_cons_zero, List.set_cons_succ, i64_w, i32_w]
                    rfl
                  refine pure_ (i := 4) (N := some 81) (v := ?_) (a' := ?_) #[true, true, true, true, true, false, false, false, false, false, false] rfl rfl (any_of HT_.out (by kernel_rfl)) (fun _ _ _ h => h) (Or.inl ⟨by rfl, ?_⟩) ?_ ?_
                  rotate_left
                  · intro w'
                    go_simp
                    with_reducible rfl
                  rotate_left
                  · simp only [Act.put, List.setIfInBounds_toArray, List.set_cons_zero, List.set_cons_succ, i64_w, i32_w]
                    rfl
                  refine pure_ (i := 5) (N := some 82) (v := undef) (a' := ?_) #[true, true, true, true, true, true, false, false, false, false, false] rfl rfl (any_of HT_.out (by kernel_rfl)) (fun _ _ _ h => h) (Or.inr ⟨by rfl, rfl⟩) ?_ ?_
                  rotate_left
                  · simp only [Act.put, List.setIfInBounds_toArray, List.set_cons_zero, List.set_cons_succ, i64_w, i32_w]
                    rfl
                  refine pure_ (i := 6) (N := some 83) (v := undef) (a' := ?_) #[true, true, true, true, true, true, true, false, false, false, false] rfl rfl (any_of HT_.out (by kernel_rfl)) (fun _ _ _ h => h) (Or.inr ⟨by rfl, rfl⟩) ?_ ?_
                  rotate_left
                  · simp only [Act.put, List.setIfInBounds_toArray, List.set_cons_zero, List.set_cons_succ, i64_w, i32_w]
                    rfl
                  refine pure_ (i := 7) (N := some 84) (v := undef) (a' := ?_) #[true, true, true, true, true, true, true, true, false, false, false] rfl rfl (any_of HT_.out (by kernel_rfl)) (fun _ _ _ h => h) (Or.inr ⟨by rfl, rfl⟩) ?_ ?_
                  rotate_left
                  · simp only [Act.put, List.setIfInBounds_toArray, List.set_cons_zero, List.set_cons_succ, i64_w, i32_w]
                    rfl
                  refine pure_ (i := 8) (N := some 85) (v := undef) (a' := ?_) #[true, true, true, true, true, true, true, true, true, false, false] rfl rfl (any_of HT_.out (by kernel_rfl)) (fun _ _ _ h => h) (Or.inr ⟨by rfl, rfl⟩) ?_ ?_
                  rotate_left
                  · simp only [Act.put, List.setIfInBounds_toArray, List.set_cons_zero, List.set_cons_succ, i64_w, i32_w]
                    rfl
                  refine pure_ (i := 9) (N := some 86) (v := undef) (a' := ?_) #[true, true, true, true, true, true, true, true, true, true, false] rfl rfl (any_of HT_.out (by kernel_rfl)) (fun _ _ _ h => h) (Or.inr ⟨by rfl, rfl⟩) ?_ ?_
                  rotate_left
                  · simp only [Act.put, List.setIfInBounds_toArray, List.set_cons_zero, List.set_cons_succ, i64_w, i32_w]
                    rfl
                  refine pure_ (i := 10) (N := some 87) (v := ?_) (a' := ?_) #[true, true, true, true, true, true, true, true, true, true, true] rfl rfl (any_of HT_.out (by kernel_rfl)) (fun _ _ _ h => h) (Or.inl ⟨by rfl, ?_⟩) ?_ ?_
                  rotate_left
                  · intro w'
                    go_simp
                    with_reducible rfl
                  rotate_left
                  · simp only [Act.put, List.setIfInBounds_toArray, List.set_cons_zero, List.set_cons_succ, i64_w, i32_w]
                    rfl
                  refine done_ (done_of HT_.out (by kernel_rfl)) ?_
                  try go_wp2
                  go_meet
                  case rel => exact ⟨_, (true), (by first | rfl | (simp; done) | (simp [*]; done)), H', ⟨by have := HK1.out; have := HK2.out; first | omega | exact Nat.le_refl _⟩, ⟨by (with_reducible repeat (first | refine blk_drewN ?_ _ | refine blk_drew ?_ | refine blk_alloc ?_ _)); exact BK137.out⟩, ⟨by (with_reducible repeat (first | refine blk_drewN ?_ _ | refine blk_drew ?_ | refine blk_alloc ?_ _)); exact BK147.out⟩, ⟨by repeat (first | (with_reducible first | exact HB.out | apply below_alloc | apply pw_below_drewN | apply below_drew1 | refine below_set ?_ GE137.out | refine below_set ?_ GE147.out) | exact HB.out)⟩⟩
              case rest =>
                clear HC36
                try clear c1
                try clear c2
                try clear p2
                try clear c3
                try clear c4
                try clear p6
                try clear c8
                try clear c9
                try clear c10
                try clear c10b0
                try clear c11
                try clear c12
                try clear c12b0
                try clear c12b1
                try clear c16
                try clear c16b0
                try clear c18
                try clear c19
                try clear c19b0
                try clear c19b1
                try clear c20
                try clear c20b0
                try clear c20b1
                try clear c21
                try clear c21b0
                try clear c21b1
                try clear c22
                try clear c22b0
                try clear c22b1
                try clear c24
                try clear c26
                try clear c31
                try clear c32
                try clear c40
                try clear c42
                try clear c42b0
                try clear c42b1
                try clear hcz13_0
                try clear hcz13_1
                try clear hcz15_0
                try clear hcz15_1
                try clear hcz23_0
                try clear hcz23_1
                try clear hcz27_0
                try clear hcz27_1
                try clear hcz28_0
                try clear hcz28_1
                try clear hcz33_0
                try clear hcz33_1
                try clear hcz34_0
                try clear hcz34_1
                try clear hcz37_0
                try clear hcz37_1
                try clear hcz41_0
                try clear hcz41_1
                try clear hcz9_0
                try clear hcz9_1
                try clear hfz13_0
                try clear hfz13_1
                try clear hfz15_0
                try clear hfz15_1
                try clear hfz23_0
                try clear hfz23_1
                try clear hfz27_0
                try clear hfz27_1
                try clear hfz28_0
                try clear hfz28_1
                try clear hfz33_0
                try clear hfz33_1
                try clear hfz34_0
                try clear hfz34_1
                try clear hfz37_0
                try clear hfz37_1
                try clear hfz41_0
                try clear hfz41_1
                try clear hfz9_0
                try clear hfz9_1
                try clear p2
                try clear p6
                obtain ⟨kq, x87_35, rfl, HA, HJ35, BK137, BK147, HB⟩ := hcut
                cases kq with
                | zero => exact absurd HA.out (by simp [lockfastlaw05_GeoApart.j2])
                | succ kj35 =>
                  have H := HA.out
                  clear HA
                  simp only [lockfastlaw05_GeoApart.j2] at H
                  by_cases c49 : x87_35 = true
                  · subst c49
                    have H1 : (some false) = some r := by rw [if_pos rfl] at H; exact H
                    clear H
                    have H := H1
                    clear H1
                    obtain rfl := Option.some.inj H
                    exact absurd HRT.out (by decide)
                  · replace c49 := Bool.eq_false_iff.mpr c49
                    subst c49
                    have H1 : (lockfastlaw05_GeoApart.l2 kj35 t134 (wrap64 (t145 + t146)) 0 t135 t136 t145 t146) = some r := by rw [if_neg (show ¬ (false = true) by decide)] at H; exact H
                    clear H
                    have H := H1
                    clear H1
                    have H' := Aside0.mk H
                    clear H
                    have hnb50 := NB147_137.out
                    have hnc50 := NB137_147.out
                    have hcz51_0 : wc.cell? ⟨gb147, 0, none⟩ = some (.int .i64 t145) := (blk_cell BK147.out 0).trans rfl
                    have hcz51_1 : wc.cell? ⟨gb147, 1, none⟩ = some (.int .i64 t146) := (blk_cell BK147.out 1).trans rfl
                    have hfz51_0 := blk_frozen BK147.out 0
                    have hfz51_1 := blk_frozen BK147.out 1
                    go_wp2
                    go_loopg [9, 15] kj35 (fun kq v9 v15 w' => ∃ (x9_4 : Int) (x15_4 : Int), v9 = .int .i64 x9_4 ∧ v15 = .int .i64 x15_4 ∧ Aside0 (lockfastlaw05_GeoApart.l2 kq t134 x9_4 x15_4 t135 t136 t145 t146 = some r) ∧ Aside0 (kq ≤ kj35) ∧ Aside0 (w'.heap[gb137]? = some (.cells #[.int .i64 t135, .int .i64 t136] 24 (0, 0))) ∧ Aside0 (w'.heap[gb147]? = some (.cells #[.int .i64 t145, .int .i64 t146] 33 (0, 0))) ∧ Aside0 (Below w.heap.size w w'))
                    case atStart => exact ⟨(wrap64 (t145 + t146)), (0), (by first | rfl | (simp; done) | (simp [*]; done)), (by first | rfl | (simp; done) | (simp [*]; done)), H', ⟨Nat.le_refl _⟩, ⟨by (with_reducible repeat (first | refine blk_drewN ?_ _ | refine blk_drew ?_ | refine blk_alloc ?_ _)); exact BK137.out⟩, ⟨by (with_reducible repeat (first | refine blk_drewN ?_ _ | refine blk_drew ?_ | refine blk_alloc ?_ _)); exact BK147.out⟩, ⟨by repeat (first | (with_reducible first | exact HB.out | apply below_alloc | apply pw_below_drewN | apply below_drew1 | refine below_set ?_ GE137.out | refine below_set ?_ GE147.out) | exact HB.out)⟩⟩
                    case round =>
                      clear H'
                      try clear c1
                      try clear c2
                      try clear p2
                      try clear c3
                      try clear c4
                      try clear c5
                      try clear p6
                      try clear c8
                      try clear c9
                      try clear c10
                      try clear c10b0
                      try clear c11
                      try clear c12
                      try clear c12b0
                      try clear c12b1
                      try clear c16
                      try clear c16b0
                      try clear c18
                      try clear c19
                      try clear c19b0
                      try clear c19b1
                      try clear c20
                      try clear c20b0
                      try clear c20b1
                      try clear c21
                      try clear c21b0
                      try clear c21b1
                      try clear c22
                      try clear c22b0
                      try clear c22b1
                      try clear c24
                      try clear c26
                      try clear c31
                      try clear c32
                      try clear c40
                      try clear c42
                      try clear c42b0
                      try clear c42b1
                      try clear c49
                      try clear c50
                      try clear hcz13_0
                      try clear hcz13_1
                      try clear hcz15_0
                      try clear hcz15_1
                      try clear hcz23_0
                      try clear hcz23_1
                      try clear hcz27_0
                      try clear hcz27_1
                      try clear hcz28_0
                      try clear hcz28_1
                      try clear hcz33_0
                      try clear hcz33_1
                      try clear hcz34_0
                      try clear hcz34_1
                      try clear hcz37_0
                      try clear hcz37_1
                      try clear hcz41_0
                      try clear hcz41_1
                      try clear hcz51_0
                      try clear hcz51_1
                      try clear hcz9_0
                      try clear hcz9_1
                      try clear hfz13_0
                      try clear hfz13_1
                      try clear hfz15_0
                      try clear hfz15_1
                      try clear hfz23_0
                      try clear hfz23_1
                      try clear hfz27_0
                      try clear hfz27_1
                      try clear hfz28_0
                      try clear hfz28_1
                      try clear hfz33_0
                      try clear hfz33_1
                      try clear hfz34_0
                      try clear hfz34_1
                      try clear hfz37_0
                      try clear hfz37_1
                      try clear hfz41_0
                      try clear hfz41_1
                      try clear hfz51_0
                      try clear hfz51_1
                      try clear hfz9_0
                      try clear hfz9_1
                      try clear p2
                      try clear p6
                      obtain ⟨x9_4, x15_4, rfl, rfl, HA, HK4, BK137, BK147, HB⟩ := hrel
                      cases gk with
                      | zero => exact absurd HA.out (by simp [lockfastlaw05_GeoApart.l2])
                      | succ k4 =>
                        have H := HA.out
                        clear HA
                        simp only [lockfastlaw05_GeoApart.l2] at H
                        by_cases c52 : x15_4 < t146
                        · rw [if_pos c52] at H
                          have c52b0 : decide (x15_4 < t146) = true := decide_eq_true c52
                          clear c52
                          replace H := Option.bind_eq_some_iff.mp H
                          obtain ⟨⟨t149, t150⟩, A530, H⟩ := H
                          replace H : (if t149 = x9_4 then (if t150 = 32 then (lockfastlaw05_GeoApart.l2 k4 t134 (wrap64 (t149 + t150)) (wrap64 (x15_4 + 1)) t135 t136 t145 t146) else (some false)) else (some false)) = some r := H
                          have A53 := Aside0.mk A530
                          clear A530
                          by_cases c54 : t149 = x9_4
                          · rw [if_pos c54] at H
                            have c54b0 : (t149 == x9_4) = true := beq_iff_eq.mpr c54
                            have c54b1 : (t149 != x9_4) = false := bne_eq_false_iff_eq.mpr c54
                            clear c54
                            by_cases c55 : t150 = 32
                            · rw [if_pos c55] at H
                              have c55b0 : (t150 == 32) = true := beq_iff_eq.mpr c55
                              have c55b1 : (t150 != 32) = false := bne_eq_false_iff_eq.mpr c55
                              clear c55
                              have H' := Aside0.mk H
                              clear H
                              have hnb56 := NB147_137.out
                              have hnc56 := NB137_147.out
                              have hcz57_0 : wr.cell? ⟨gb147, 0, none⟩ = some (.int .i64 t145) := (blk_cell BK147.out 0).trans rfl
                              have hcz57_1 : wr.cell? ⟨gb147, 1, none⟩ = some (.int .i64 t146) := (blk_cell BK147.out 1).trans rfl
                              have hfz57_0 := blk_frozen BK147.out 0
                              have hfz57_1 := blk_frozen BK147.out 1
                              have hcz58_0 : wr.cell? ⟨gb137, 0, none⟩ = some (.int .i64 t135) := (blk_cell BK137.out 0).trans rfl
                              have hcz58_1 : wr.cell? ⟨gb137, 1, none⟩ = some (.int .i64 t136) := (blk_cell BK137.out 1).trans rfl
                              have hfz58_0 := blk_frozen BK137.out 0
                              have hfz58_1 := blk_frozen BK137.out 1
                              go_wp2_with (first | ((with_reducible refine gate_callee (f := 15) rfl ?_); refine goesL_ (some 101) rfl rfl Try.func15 (by kernel_rfl) rfl #[.agg #[.int .i64 t135, .int .i64 t136], .int .i64 x15_4] rfl (by (try simp only [List.map_toArray, List.map_cons, List.map_nil]); first | done | rfl | (simp only [List.length_drop, List.length_take]; rfl)) ?_; (with_reducible refine (geo_Chunk.calls t135 t136 x15_4 t149 t150 _ A53.out).mono ?_); rintro e w59 ⟨rfl, hb⟩; refine ⟨_, rfl, ?_⟩; have n0_ := Aside0.mk (blk_below (g := gb137) (o := .cells #[.int .i64 t135, .int .i64 t136] 24 (0, 0)) (by (with_reducible repeat (first | refine blk_drewN ?_ _ | refine blk_drew ?_ | refine blk_alloc ?_ _)); exact BK137.out) hb); have n1_ := Aside0.mk (blk_below (g := gb147) (o := .cells #[.int .i64 t145, .int .i64 t146] 33 (0, 0)) (by (with_reducible repeat (first | refine blk_drewN ?_ _ | refine blk_drew ?_ | refine blk_alloc ?_ _)); exact BK147.out) hb); have n2_ := Aside0.mk (below_step (by repeat (first | (with_reducible first | exact HB.out | apply below_alloc | apply pw_below_drewN | apply below_drew1 | refine below_set ?_ GE137.out | refine below_set ?_ GE147.out) | exact HB.out)) hb); clear BK137; clear BK147; clear HB; have BK137 := n0_; have BK147 := n1_; have HB := n2_; clear n0_ n1_ n2_; (try clear hb); (try clear hb2); (try clear hk); (try clear hi)) | ((with_reducible refine gate_dst (N := 16) rfl ?_); refine box_event ?hg (N := 16) ?hd (cs := #[.int .i64 0, .int .i64 0]) (t := 33) ?hr ?_; (case hd => rfl); (case hg => rfl); (case hr => first | (go_simp; done) | (go_simp; rfl)); intro gb151 hg w60 hbox hb; have n0_ := Aside0.mk (blk_below (g := gb137) (o := .cells #[.int .i64 t135, .int .i64 t136] 24 (0, 0)) (by (with_reducible repeat (first | refine blk_drewN ?_ _ | refine blk_drew ?_ | refine blk_alloc ?_ _)); exact BK137.out) hb); have n1_ := Aside0.mk (blk_below (g := gb147) (o := .cells #[.int .i64 t145, .int .i64 t146] 33 (0, 0)) (by (with_reducible repeat (first | refine blk_drewN ?_ _ | refine blk_drew ?_ | refine blk_alloc ?_ _)); exact BK147.out) hb); have n2_ := Aside0.mk (below_step (by repeat (first | (with_reducible first | exact HB.out | apply below_alloc | apply pw_below_drewN | apply below_drew1 | refine below_set ?_ GE137.out | refine below_set ?_ GE147.out) | exact HB.out)) hb); have n3_ := Aside0.mk (hbox); have n4_ := Aside0.mk ((by rw [hg]; exact (below_size (by repeat (first | (with_reducible first | exact HB.out | apply below_alloc | apply pw_below_drewN | apply below_drew1 | refine below_set ?_ GE137.out | refine below_set ?_ GE147.out) | exact HB.out))) : w.heap.size ≤ gb151)); have n5_ := Aside0.mk ((by rw [hg]; exact (below_size (by repeat (first | (with_reducible first | exact HB.out | apply below_alloc | apply pw_below_drewN | apply below_drew1 | refine below_set ?_ GE137.out | refine below_set ?_ GE147.out) | exact HB.out))) : w.heap.size ≤ gb151)); have n6_ := Aside0.mk ((by rw [hg]; exact Nat.ne_of_lt (blk_lt (g := gb137) (o := .cells #[.int .i64 t135, .int .i64 t136] 24 (0, 0)) (by (with_reducible repeat (first | refine blk_drewN ?_ _ | refine blk_drew ?_ | refine blk_alloc ?_ _)); exact BK137.out)) : gb137 ≠ gb151)); have n7_ := Aside0.mk ((by rw [hg]; exact Nat.ne_of_gt (blk_lt (g := gb137) (o := .cells #[.int .i64 t135, .int .i64 t136] 24 (0, 0)) (by (with_reducible repeat (first | refine blk_drewN ?_ _ | refine blk_drew ?_ | refine blk_alloc ?_ _)); exact BK137.out)) : gb151 ≠ gb137)); have n8_ := Aside0.mk ((by rw [hg]; exact Nat.ne_of_lt (blk_lt (g := gb147) (o := .cells #[.int .i64 t145, .int .i64 t146] 33 (0, 0)) (by (with_reducible repeat (first | refine blk_drewN ?_ _ | refine blk_drew ?_ | refine blk_alloc ?_ _)); exact BK147.out)) : gb147 ≠ gb151)); have n9_ := Aside0.mk ((by rw [hg]; exact Nat.ne_of_gt (blk_lt (g := gb147) (o := .cells #[.int .i64 t145, .int .i64 t146] 33 (0, 0)) (by (with_reducible repeat (first | refine blk_drewN ?_ _ | refine blk_drew ?_ | refine blk_alloc ?_ _)); exact BK147.out)) : gb151 ≠ gb147)); clear BK137; clear BK147; clear HB; have BK137 := n0_; have BK147 := n1_; have HB := n2_; have BK151 := n3_; have GW151 := n4_; have GE151 := n5_; have NB137_151 := n6_; have NB151_137 := n7_; have NB147_151 := n8_; have NB151_147 := n9_; clear n0_ n1_ n2_ n3_ n4_ n5_ n6_ n7_ n8_ n9_; clear hb hbox hg; have hnb61 := NB151_137.out; have hnc61 := NB137_151.out; have hnb62 := NB151_147.out; have hnc62 := NB147_151.out; have hcz63_0 : w60.cell? ⟨gb151, 0, none⟩ = some (.int .i64 0) := (blk_cell BK151.out 0).trans rfl; have hcz63_1 : w60.cell? ⟨gb151, 1, none⟩ = some (.int .i64 0) := (blk_cell BK151.out 1).trans rfl; have hfz63_0 := blk_frozen BK151.out 0; have hfz63_1 := blk_frozen BK151.out 1))
                              go_roundg k4
                              case measure => have := HK1.out; have := HK2.out; have := HJ35.out; have := HK4.out; omega
                              case rel => exact ⟨(wrap64 (t149 + t150)), (wrap64 (x15_4 + 1)), (by first | rfl | (simp; done) | (simp [*]; done)), (by first | rfl | (simp; done) | (simp [*]; done)), H', ⟨by have := HK1.out; have := HK2.out; have := HJ35.out; have := HK4.out; omega⟩, ⟨by (with_reducible repeat (first | refine blk_drewN ?_ _ | refine blk_drew ?_ | refine blk_alloc ?_ _)); refine blk_far ?_ NB137_151.out _; (with_reducible repeat (first | refine blk_drewN ?_ _ | refine blk_drew ?_ | refine blk_alloc ?_ _)); refine blk_far ?_ NB137_151.out _; (with_reducible repeat (first | refine blk_drewN ?_ _ | refine blk_drew ?_ | refine blk_alloc ?_ _)); exact BK137.out⟩, ⟨by (with_reducible repeat (first | refine blk_drewN ?_ _ | refine blk_drew ?_ | refine blk_alloc ?_ _)); refine blk_far ?_ NB147_151.out _; (with_reducible repeat (first | refine blk_drewN ?_ _ | refine blk_drew ?_ | refine blk_alloc ?_ _)); refine blk_far ?_ NB147_151.out _; (with_reducible repeat (first | refine blk_drewN ?_ _ | refine blk_drew ?_ | refine blk_alloc ?_ _)); exact BK147.out⟩, ⟨by repeat (first | (with_reducible first | exact HB.out | apply below_alloc | apply pw_below_drewN | apply below_drew1 | refine below_set ?_ GE137.out | refine below_set ?_ GE147.out | refine below_set ?_ GE151.out) | exact HB.out)⟩⟩
                            · rw [if_neg c55] at H
                              have c55b0 : (t150 == 32) = false := beq_eq_false_iff_ne.mpr c55
                              have c55b1 : (t150 != 32) = true := bne_iff_ne.mpr c55
                              obtain rfl := Option.some.inj H
                              exact absurd HRT.out (by decide)
                          · rw [if_neg c54] at H
                            have c54b0 : (t149 == x9_4) = false := beq_eq_false_iff_ne.mpr c54
                            have c54b1 : (t149 != x9_4) = true := bne_iff_ne.mpr c54
                            obtain rfl := Option.some.inj H
                            exact absurd HRT.out (by decide)
                        · rw [if_neg c52] at H
                          have c52b0 : decide (x15_4 < t146) = false := decide_eq_false c52
                          clear c52
                          by_cases c64 : t134 = true
                          · subst c64
                            have H1 : (if x9_4 ≤ t135 then (if (wrap64 (t135 - x9_4)) ≤ 32 then ((geo_Mark.f t135 t136 t136).bind fun t152 => (if t152 = (-1) then ((geo_Chunk.f t135 t136 t146).bind fun bt153 => (some (bt153.1 == 0 && (bt153.2 == 0)))) else (some false))) else (some false)) else (some false)) = some r := by rw [if_pos rfl] at H; exact H
                            clear H
                            have H := H1
                            clear H1
                            by_cases c65 : x9_4 ≤ t135
                            · rw [if_pos c65] at H
                              have c65b0 : decide (x9_4 ≤ t135) = true := decide_eq_true c65
                              clear c65
                              by_cases c66 : (wrap64 (t135 - x9_4)) ≤ 32
                              · rw [if_pos c66] at H
                                have c66b0 : decide ((wrap64 (t135 - x9_4)) ≤ 32) = true := decide_eq_true c66
                                clear c66
                                replace H := Option.bind_eq_some_iff.mp H
                                obtain ⟨t152, A670, H⟩ := H
                                replace H : (if t152 = (-1) then ((geo_Chunk.f t135 t136 t146).bind fun bt153 => (some (bt153.1 == 0 && (bt153.2 == 0)))) else (some false)) = some r := H
                                have A67 := Aside0.mk A670
                                clear A670
                                by_cases c68 : t152 = (-1)
                                · rw [if_pos c68] at H
                                  have c68b0 : (t152 == (-1)) = true := beq_iff_eq.mpr c68
                                  have c68b1 : (t152 != (-1)) = false := bne_eq_false_iff_eq.mpr c68
                                  clear c68
                                  replace H := Option.bind_eq_some_iff.mp H
                                  obtain ⟨⟨t153, t154⟩, A690, H⟩ := H
                                  replace H : (some (t153 == 0 && (t154 == 0))) = some r := H
                                  have A69 := Aside0.mk A690
                                  clear A690
                                  obtain rfl := Option.some.inj H
                                  simp only [Option.some.injEq, Prod.mk.injEq] at H
                                  obtain ⟨rfl⟩ := H
                                  have hnb70 := NB147_137.out
                                  have hnc70 := NB137_147.out
                                  have hcz71_0 : wr.cell? ⟨gb147, 0, none⟩ = some (.int .i64 t145) := (blk_cell BK147.out 0).trans rfl
                                  have hcz71_1 : wr.cell? ⟨gb147, 1, none⟩ = some (.int .i64 t146) := (blk_cell BK147.out 1).trans rfl
                                  have hfz71_0 := blk_frozen BK147.out 0
                                  have hfz71_1 := blk_frozen BK147.out 1
                                  have hcz72_0 : wr.cell? ⟨gb137, 0, none⟩ = some (.int .i64 t135) := (blk_cell BK137.out 0).trans rfl
                                  have hcz72_1 : wr.cell? ⟨gb137, 1, none⟩ = some (.int .i64 t136) := (blk_cell BK137.out 1).trans rfl
                                  have hfz72_0 := blk_frozen BK137.out 0
                                  have hfz72_1 := blk_frozen BK137.out 1
                                  go_wp2_with (first | (go_at_call 18; (with_reducible refine (geo_Mark.calls t135 t136 t136 t152 _ A67.out).mono ?_); rintro e w73 ⟨rfl, hb⟩; have n0_ := Aside0.mk (blk_below (g := gb137) (o := .cells #[.int .i64 t135, .int .i64 t136] 24 (0, 0)) (by (with_reducible repeat (first | refine blk_drewN ?_ _ | refine blk_drew ?_ | refine blk_alloc ?_ _)); exact BK137.out) hb); have n1_ := Aside0.mk (blk_below (g := gb147) (o := .cells #[.int .i64 t145, .int .i64 t146] 33 (0, 0)) (by (with_reducible repeat (first | refine blk_drewN ?_ _ | refine blk_drew ?_ | refine blk_alloc ?_ _)); exact BK147.out) hb); have n2_ := Aside0.mk (below_step (by repeat (first | (with_reducible first | exact HB.out | apply below_alloc | apply pw_below_drewN | apply below_drew1 | refine below_set ?_ GE137.out | refine below_set ?_ GE147.out) | exact HB.out)) hb); clear BK137; clear BK147; clear HB; have BK137 := n0_; have BK147 := n1_; have HB := n2_; clear n0_ n1_ n2_; (try clear hb); (try clear hb2); (try clear hk); (try clear hi); have hcz74_0 : w73.cell? ⟨gb137, 0, none⟩ = some (.int .i64 t135) := (blk_cell BK137.out 0).trans rfl; have hcz74_1 : w73.cell? ⟨gb137, 1, none⟩ = some (.int .i64 t136) := (blk_cell BK137.out 1).trans rfl; have hfz74_0 := blk_frozen BK137.out 0; have hfz74_1 := blk_frozen BK137.out 1; have hcz75_0 : w73.cell? ⟨gb147, 0, none⟩ = some (.int .i64 t145) := (blk_cell BK147.out 0).trans rfl; have hcz75_1 : w73.cell? ⟨gb147, 1, none⟩ = some (.int .i64 t146) := (blk_cell BK147.out 1).trans rfl; have hfz75_0 := blk_frozen BK147.out 0; have hfz75_1 := blk_frozen BK147.out 1) | (go_at_call 15; (with_reducible refine (geo_Chunk.calls t135 t136 t146 t153 t154 _ A69.out).mono ?_); rintro e w76 ⟨rfl, hb⟩; have n0_ := Aside0.mk (blk_below (g := gb137) (o := .cells #[.int .i64 t135, .int .i64 t136] 24 (0, 0)) (by (with_reducible repeat (first | refine blk_drewN ?_ _ | refine blk_drew ?_ | refine blk_alloc ?_ _)); exact BK137.out) hb); have n1_ := Aside0.mk (blk_below (g := gb147) (o := .cells #[.int .i64 t145, .int .i64 t146] 33 (0, 0)) (by (with_reducible repeat (first | refine blk_drewN ?_ _ | refine blk_drew ?_ | refine blk_alloc ?_ _)); exact BK147.out) hb); have n2_ := Aside0.mk (below_step (by repeat (first | (with_reducible first | exact HB.out | apply below_alloc | apply pw_below_drewN | apply below_drew1 | refine below_set ?_ GE137.out | refine below_set ?_ GE147.out) | exact HB.out)) hb); clear BK137; clear BK147; clear HB; have BK137 := n0_; have BK147 := n1_; have HB := n2_; clear n0_ n1_ n2_; (try clear hb); (try clear hb2); (try clear hk); (try clear hi)))
                                  go_ret
                                  exact ⟨by first | rfl | (simp [errW_none, errW_some] <;> rfl) | (simp [*, errW_none, errW_some] <;> rfl), by repeat (first | (with_reducible first | exact HB.out | apply below_alloc | apply pw_below_drewN | apply below_drew1 | refine below_set ?_ GE137.out | refine below_set ?_ GE147.out) | exact HB.out)⟩
                                · rw [if_neg c68] at H
                                  have c68b0 : (t152 == (-1)) = false := beq_eq_false_iff_ne.mpr c68
                                  have c68b1 : (t152 != (-1)) = true := bne_iff_ne.mpr c68
                                  obtain rfl := Option.some.inj H
                                  exact absurd HRT.out (by decide)
                              · rw [if_neg c66] at H
                                have c66b0 : decide ((wrap64 (t135 - x9_4)) ≤ 32) = false := decide_eq_false c66
                                clear c66
                                obtain rfl := Option.some.inj H
                                exact absurd HRT.out (by decide)
                            · rw [if_neg c65] at H
                              have c65b0 : decide (x9_4 ≤ t135) = false := decide_eq_false c65
                              clear c65
                              obtain rfl := Option.some.inj H
                              exact absurd HRT.out (by decide)
                          · replace c64 := Bool.eq_false_iff.mpr c64
                            subst c64
                            have H1 : (some false) = some r := by rw [if_neg (show ¬ (false = true) by decide)] at H; exact H
                            clear H
                            have H := H1
                            clear H1
                            obtain rfl := Option.some.inj H
                            exact absurd HRT.out (by decide)

/-- THE ONE PURE STATEMENT of lockfastlaw05_GeoApart: yours. -/
def lockfastlaw05_GeoApart.Pure : Prop := ∀ (a0 : Int) (a1 : Int) (a2 : Int), (Lit.int .u8 a0).wf = true → (Lit.int .u8 a1).wf = true → (Lit.int .u8 a2).wf = true → ∃ k, lockfastlaw05_GeoApart.f k a0 a1 a2 = some true
theorem lockfastlaw05_GeoApart.walk (P : lockfastlaw05_GeoApart.Pure) (a0 : Int) (a1 : Int) (a2 : Int) (w : World) (w0 : (Lit.int .u8 a0).wf = true) (w1 : (Lit.int .u8 a1).wf = true) (w2 : (Lit.int .u8 a2).wf = true) :
    Calls Try.prog 8 #[.int .u8 a0, .int .u8 a1, .int .u8 a2] w fun e w' => e = .returned (.bool true) ∧ Below w.heap.size w w' := by
  obtain ⟨k, h⟩ := P a0 a1 a2 w0 w1 w2
  refine (lockfastlaw05_GeoApart.calls k a0 a1 a2 true w rfl h).mono ?_
  rintro e w' ⟨rfl, hd⟩
  exact ⟨rfl, hd⟩

end Go.Proofs.Ytnkigdcicnhepaa.PGeoApart
