-- WRITTEN FOR THIS CLAIM by given.py, a program of this session's: the kit's printer, run with contracts of the session's own. It is not a text of print.sh's.
import Derived.Test.YtnoclgnlmkpkbaaPRedoApartx0
namespace Go.Proofs.Ytnoclgnlmkpkbaa.PRedoApart
open Go.RowKit Go.Proofs.YtnoclgnlmkpkbaaW.PrintWords Go.Proofs.YtnoclgnlmkpkbaaW.PrintLast Go.Proofs.YtnoclgnlmkpkbaaW.PrintMore
attribute [local go_sem] max2_int min2_int max_two min_two max_three min_three max_four min_four   -- for this text's walks alone
set_option linter.unusedVariables false
set_option linter.unusedSimpArgs false
open Go.Proofs.YtnoclgnlmkpkbaaX

-- NOT PRINTED: function 41 (api_Op_41)

-- NOT PRINTED: function 27 (api_Op_27)

/-! ### redo_right: function 42 -/
def redo_right.f (a0_0 : Int) (a0_1 : Int) (a0_2 : Int) : Option (Bool) := if a0_0 ≥ 0 then (if a0_0 ≤ 2 then (if a0_1 ≥ 0 then (some (decide (a0_1 < 65536))) else (some false)) else (some false)) else (some false)
set_option maxHeartbeats 8000000 in
set_option maxRecDepth 100000 in
theorem redo_right.calls (a0_0 : Int) (a0_1 : Int) (a0_2 : Int) (r : Bool) (w : World) (h : redo_right.f a0_0 a0_1 a0_2 = some r) :
    Calls Try.prog 42 #[.agg #[.int .i64 a0_0, .int .i64 a0_1, .int .u64 a0_2]] w fun e w' => e = .returned (.bool r) ∧ Below w.heap.size w w' := by
  have hu38 := Try.underlying38
  have HB := Aside0.mk (Below.refl w.heap.size w)
  have H : (if a0_0 ≥ 0 then (if a0_0 ≤ 2 then (if a0_1 ≥ 0 then (some (decide (a0_1 < 65536))) else (some false)) else (some false)) else (some false)) = some r := h
  clear h
  by_cases c2 : a0_0 ≥ 0
  · rw [if_pos c2] at H
    have c2b0 : decide (0 ≤ a0_0) = true := decide_eq_true c2
    clear c2
    by_cases c3 : a0_0 ≤ 2
    · rw [if_pos c3] at H
      have c3b0 : decide (a0_0 ≤ 2) = true := decide_eq_true c3
      clear c3
      by_cases c4 : a0_1 ≥ 0
      · rw [if_pos c4] at H
        have c4b0 : decide (0 ≤ a0_1) = true := decide_eq_true c4
        clear c4
        obtain rfl := Option.some.inj H
        simp only [Option.some.injEq, Prod.mk.injEq] at H
        obtain ⟨rfl⟩ := H
        go_enter Try.func42, Try.ntmps42
        go_wp2_with (first | ((with_reducible refine gate_dst (N := 1) rfl ?_); refine box_event ?hg (N := 1) ?hd (cs := #[.int .i64 a0_0, .int .i64 a0_1, .int .u64 a0_2]) (t := 38) ?hr ?_; (case hd => rfl); (case hg => rfl); (case hr => first | (go_simp; done) | (go_simp; rfl)); intro gb101 hg w5 hbox hb; have n0_ := Aside0.mk (below_step (by repeat (first | (with_reducible first | exact HB.out | apply below_alloc | apply pw_below_drewN | apply below_drew1) | exact HB.out)) hb); have n1_ := Aside0.mk (hbox); have n2_ := Aside0.mk ((by rw [hg]; exact (below_size (by repeat (first | (with_reducible first | exact HB.out | apply below_alloc | apply pw_below_drewN | apply below_drew1) | exact HB.out))) : w.heap.size ≤ gb101)); have n3_ := Aside0.mk ((by rw [hg]; exact (below_size (by repeat (first | (with_reducible first | exact HB.out | apply below_alloc | apply pw_below_drewN | apply below_drew1) | exact HB.out))) : w.heap.size ≤ gb101)); clear HB; have HB := n0_; have BK101 := n1_; have GW101 := n2_; have GE101 := n3_; clear n0_ n1_ n2_ n3_; clear hb hbox hg; have hcz6_0 : w5.cell? ⟨gb101, 0, none⟩ = some (.int .i64 a0_0) := (blk_cell BK101.out 0).trans rfl; have hcz6_1 : w5.cell? ⟨gb101, 1, none⟩ = some (.int .i64 a0_1) := (blk_cell BK101.out 1).trans rfl; have hcz6_2 : w5.cell? ⟨gb101, 2, none⟩ = some (.int .u64 a0_2) := (blk_cell BK101.out 2).trans rfl; have hfz6_0 := blk_frozen BK101.out 0; have hfz6_1 := blk_frozen BK101.out 1; have hfz6_2 := blk_frozen BK101.out 2))
        go_ret
        exact ⟨by first | rfl | (simp [errW_none, errW_some] <;> rfl) | (simp [*, errW_none, errW_some] <;> rfl), by repeat (first | (with_reducible first | exact HB.out | apply below_alloc | apply pw_below_drewN | apply below_drew1 | refine below_set ?_ GE101.out) | exact HB.out)⟩
      · rw [if_neg c4] at H
        have c4b0 : decide (0 ≤ a0_1) = false := decide_eq_false c4
        clear c4
        obtain rfl := Option.some.inj H
        simp only [Option.some.injEq, Prod.mk.injEq] at H
        obtain ⟨rfl⟩ := H
        go_enter Try.func42, Try.ntmps42
        go_wp2_with (first | ((with_reducible refine gate_dst (N := 1) rfl ?_); refine box_event ?hg (N := 1) ?hd (cs := #[.int .i64 a0_0, .int .i64 a0_1, .int .u64 a0_2]) (t := 38) ?hr ?_; (case hd => rfl); (case hg => rfl); (case hr => first | (go_simp; done) | (go_simp; rfl)); intro gb101 hg w7 hbox hb; have n0_ := Aside0.mk (below_step (by repeat (first | (with_reducible first | exact HB.out | apply below_alloc | apply pw_below_drewN | apply below_drew1) | exact HB.out)) hb); have n1_ := Aside0.mk (hbox); have n2_ := Aside0.mk ((by rw [hg]; exact (below_size (by repeat (first | (with_reducible first | exact HB.out | apply below_alloc | apply pw_below_drewN | apply below_drew1) | exact HB.out))) : w.heap.size ≤ gb101)); have n3_ := Aside0.mk ((by rw [hg]; exact (below_size (by repeat (first | (with_reducible first | exact HB.out | apply below_alloc | apply pw_below_drewN | apply below_drew1) | exact HB.out))) : w.heap.size ≤ gb101)); clear HB; have HB := n0_; have BK101 := n1_; have GW101 := n2_; have GE101 := n3_; clear n0_ n1_ n2_ n3_; clear hb hbox hg; have hcz8_0 : w7.cell? ⟨gb101, 0, none⟩ = some (.int .i64 a0_0) := (blk_cell BK101.out 0).trans rfl; have hcz8_1 : w7.cell? ⟨gb101, 1, none⟩ = some (.int .i64 a0_1) := (blk_cell BK101.out 1).trans rfl; have hcz8_2 : w7.cell? ⟨gb101, 2, none⟩ = some (.int .u64 a0_2) := (blk_cell BK101.out 2).trans rfl; have hfz8_0 := blk_frozen BK101.out 0; have hfz8_1 := blk_frozen BK101.out 1; have hfz8_2 := blk_frozen BK101.out 2))
        go_ret
        exact ⟨by first | rfl | (simp [errW_none, errW_some] <;> rfl) | (simp [*, errW_none, errW_some] <;> rfl), by repeat (first | (with_reducible first | exact HB.out | apply below_alloc | apply pw_below_drewN | apply below_drew1 | refine below_set ?_ GE101.out) | exact HB.out)⟩
    · rw [if_neg c3] at H
      have c3b0 : decide (a0_0 ≤ 2) = false := decide_eq_false c3
      clear c3
      obtain rfl := Option.some.inj H
      simp only [Option.some.injEq, Prod.mk.injEq] at H
      obtain ⟨rfl⟩ := H
      go_enter Try.func42, Try.ntmps42
      go_wp2_with (first | ((with_reducible refine gate_dst (N := 1) rfl ?_); refine box_event ?hg (N := 1) ?hd (cs := #[.int .i64 a0_0, .int .i64 a0_1, .int .u64 a0_2]) (t := 38) ?hr ?_; (case hd => rfl); (case hg => rfl); (case hr => first | (go_simp; done) | (go_simp; rfl)); intro gb101 hg w9 hbox hb; have n0_ := Aside0.mk (below_step (by repeat (first | (with_reducible first | exact HB.out | apply below_alloc | apply pw_below_drewN | apply below_drew1) | exact HB.out)) hb); have n1_ := Aside0.mk (hbox); have n2_ := Aside0.mk ((by rw [hg]; exact (below_size (by repeat (first | (with_reducible first | exact HB.out | apply below_alloc | apply pw_below_drewN | apply below_drew1) | exact HB.out))) : w.heap.size ≤ gb101)); have n3_ := Aside0.mk ((by rw [hg]; exact (below_size (by repeat (first | (with_reducible first | exact HB.out | apply below_alloc | apply pw_below_drewN | apply below_drew1) | exact HB.out))) : w.heap.size ≤ gb101)); clear HB; have HB := n0_; have BK101 := n1_; have GW101 := n2_; have GE101 := n3_; clear n0_ n1_ n2_ n3_; clear hb hbox hg; have hcz10_0 : w9.cell? ⟨gb101, 0, none⟩ = some (.int .i64 a0_0) := (blk_cell BK101.out 0).trans rfl; have hcz10_1 : w9.cell? ⟨gb101, 1, none⟩ = some (.int .i64 a0_1) := (blk_cell BK101.out 1).trans rfl; have hcz10_2 : w9.cell? ⟨gb101, 2, none⟩ = some (.int .u64 a0_2) := (blk_cell BK101.out 2).trans rfl; have hfz10_0 := blk_frozen BK101.out 0; have hfz10_1 := blk_frozen BK101.out 1; have hfz10_2 := blk_frozen BK101.out 2))
      go_ret
      exact ⟨by first | rfl | (simp [errW_none, errW_some] <;> rfl) | (simp [*, errW_none, errW_some] <;> rfl), by repeat (first | (with_reducible first | exact HB.out | apply below_alloc | apply pw_below_drewN | apply below_drew1 | refine below_set ?_ GE101.out) | exact HB.out)⟩
  · rw [if_neg c2] at H
    have c2b0 : decide (0 ≤ a0_0) = false := decide_eq_false c2
    clear c2
    obtain rfl := Option.some.inj H
    simp only [Option.some.injEq, Prod.mk.injEq] at H
    obtain ⟨rfl⟩ := H
    go_enter Try.func42, Try.ntmps42
    go_wp2_with (first | ((with_reducible refine gate_dst (N := 1) rfl ?_); refine box_event ?hg (N := 1) ?hd (cs := #[.int .i64 a0_0, .int .i64 a0_1, .int .u64 a0_2]) (t := 38) ?hr ?_; (case hd => rfl); (case hg => rfl); (case hr => first | (go_simp; done) | (go_simp; rfl)); intro gb101 hg w11 hbox hb; have n0_ := Aside0.mk (below_step (by repeat (first | (with_reducible first | exact HB.out | apply below_alloc | apply pw_below_drewN | apply below_drew1) | exact HB.out)) hb); have n1_ := Aside0.mk (hbox); have n2_ := Aside0.mk ((by rw [hg]; exact (below_size (by repeat (first | (with_reducible first | exact HB.out | apply below_alloc | apply pw_below_drewN | apply below_drew1) | exact HB.out))) : w.heap.size ≤ gb101)); have n3_ := Aside0.mk ((by rw [hg]; exact (below_size (by repeat (first | (with_reducible first | exact HB.out | apply below_alloc | apply pw_below_drewN | apply below_drew1) | exact HB.out))) : w.heap.size ≤ gb101)); clear HB; have HB := n0_; have BK101 := n1_; have GW101 := n2_; have GE101 := n3_; clear n0_ n1_ n2_ n3_; clear hb hbox hg; have hcz12_0 : w11.cell? ⟨gb101, 0, none⟩ = some (.int .i64 a0_0) := (blk_cell BK101.out 0).trans rfl; have hcz12_1 : w11.cell? ⟨gb101, 1, none⟩ = some (.int .i64 a0_1) := (blk_cell BK101.out 1).trans rfl; have hcz12_2 : w11.cell? ⟨gb101, 2, none⟩ = some (.int .u64 a0_2) := (blk_cell BK101.out 2).trans rfl; have hfz12_0 := blk_frozen BK101.out 0; have hfz12_1 := blk_frozen BK101.out 1; have hfz12_2 := blk_frozen BK101.out 2))
    go_ret
    exact ⟨by first | rfl | (simp [errW_none, errW_some] <;> rfl) | (simp [*, errW_none, errW_some] <;> rfl), by repeat (first | (with_reducible first | exact HB.out | apply below_alloc | apply pw_below_drewN | apply below_drew1 | refine below_set ?_ GE101.out) | exact HB.out)⟩

/-! ### redo_wrong: function 28 -/
def redo_wrong.f (a0_0 : Int) (a0_1 : Int) (a0_2 : Int) : Option (Bool) := (redo_right.f a0_0 a0_1 a0_2).bind fun t103 => (some (!t103))
set_option maxHeartbeats 8000000 in
set_option maxRecDepth 100000 in
theorem redo_wrong.calls (a0_0 : Int) (a0_1 : Int) (a0_2 : Int) (r : Bool) (w : World) (h : redo_wrong.f a0_0 a0_1 a0_2 = some r) :
    Calls Try.prog 28 #[.agg #[.int .i64 a0_0, .int .i64 a0_1, .int .u64 a0_2]] w fun e w' => e = .returned (.bool r) ∧ Below w.heap.size w w' := by
  have hu38 := Try.underlying38
  have HB := Aside0.mk (Below.refl w.heap.size w)
  have H : ((redo_right.f a0_0 a0_1 a0_2).bind fun t103 => (some (!t103))) = some r := h
  clear h
  replace H := Option.bind_eq_some_iff.mp H
  obtain ⟨t103, A20, H⟩ := H
  replace H : (some (!t103)) = some r := H
  have A2 := Aside0.mk A20
  clear A20
  obtain rfl := Option.some.inj H
  simp only [Option.some.injEq, Prod.mk.injEq] at H
  obtain ⟨rfl⟩ := H
  go_enter Try.func28, Try.ntmps28
  go_wp2_with (first | ((with_reducible refine gate_dst (N := 1) rfl ?_); refine box_event ?hg (N := 1) ?hd (cs := #[.int .i64 a0_0, .int .i64 a0_1, .int .u64 a0_2]) (t := 38) ?hr ?_; (case hd => rfl); (case hg => rfl); (case hr => first | (go_simp; done) | (go_simp; rfl)); intro gb102 hg w3 hbox hb; have n0_ := Aside0.mk (below_step (by repeat (first | (with_reducible first | exact HB.out | apply below_alloc | apply pw_below_drewN | apply below_drew1) | exact HB.out)) hb); have n1_ := Aside0.mk (hbox); have n2_ := Aside0.mk ((by rw [hg]; exact (below_size (by repeat (first | (with_reducible first | exact HB.out | apply below_alloc | apply pw_below_drewN | apply below_drew1) | exact HB.out))) : w.heap.size ≤ gb102)); have n3_ := Aside0.mk ((by rw [hg]; exact (below_size (by repeat (first | (with_reducible first | exact HB.out | apply below_alloc | apply pw_below_drewN | apply below_drew1) | exact HB.out))) : w.heap.size ≤ gb102)); clear HB; have HB := n0_; have BK102 := n1_; have GW102 := n2_; have GE102 := n3_; clear n0_ n1_ n2_ n3_; clear hb hbox hg; have hcz4_0 : w3.cell? ⟨gb102, 0, none⟩ = some (.int .i64 a0_0) := (blk_cell BK102.out 0).trans rfl; have hcz4_1 : w3.cell? ⟨gb102, 1, none⟩ = some (.int .i64 a0_1) := (blk_cell BK102.out 1).trans rfl; have hcz4_2 : w3.cell? ⟨gb102, 2, none⟩ = some (.int .u64 a0_2) := (blk_cell BK102.out 2).trans rfl; have hfz4_0 := blk_frozen BK102.out 0; have hfz4_1 := blk_frozen BK102.out 1; have hfz4_2 := blk_frozen BK102.out 2) | ((with_reducible refine gate_callee (f := 42) rfl ?_); refine goesL_ (some 4) rfl rfl Try.func42 (by kernel_rfl) rfl #[.agg #[.int .i64 a0_0, .int .i64 a0_1, .int .u64 a0_2]] rfl (by (try simp only [List.map_toArray, List.map_cons, List.map_nil]); first | done | rfl | (simp only [List.length_drop, List.length_take]; rfl)) ?_; (with_reducible refine (redo_right.calls a0_0 a0_1 a0_2 t103 _ A2.out).mono ?_); rintro e w5 ⟨rfl, hb⟩; refine ⟨_, rfl, ?_⟩; have n0_ := Aside0.mk (blk_below (g := gb102) (o := .cells #[.int .i64 a0_0, .int .i64 a0_1, .int .u64 a0_2] 38 (0, 0)) (by (with_reducible repeat (first | refine blk_drewN ?_ _ | refine blk_drew ?_ | refine blk_alloc ?_ _)); exact BK102.out) hb); have n1_ := Aside0.mk (below_step (by repeat (first | (with_reducible first | exact HB.out | apply below_alloc | apply pw_below_drewN | apply below_drew1 | refine below_set ?_ GE102.out) | exact HB.out)) hb); clear BK102; clear HB; have BK102 := n0_; have HB := n1_; clear n0_ n1_; (try clear hb); (try clear hb2); (try clear hk); (try clear hi)))
  go_ret
  exact ⟨by first | rfl | (simp [errW_none, errW_some] <;> rfl) | (simp [*, errW_none, errW_some] <;> rfl), by repeat (first | (with_reducible first | exact HB.out | apply below_alloc | apply pw_below_drewN | apply below_drew1 | refine below_set ?_ GE102.out) | exact HB.out)⟩

/-! ### redo_Right: function 13: a contract of the session's own -/
def idxOf (p : S38 → Bool) (l : List S38) : Int := ((l.findIdx? p).map Int.ofNat).getD (-1)
theorem idxOf_none (p : S38 → Bool) (l : List S38) (h : ∀ j, j < l.length → p (rd_T38 l (j : Int)) = false) : idxOf p l = -1 := by
  have : l.findIdx? p = none := by
    rw [List.findIdx?_eq_none_iff]
    intro x hx
    obtain ⟨j, hj, rfl⟩ := List.mem_iff_getElem.1 hx
    have := h j hj
    simpa [rd_T38, List.getD_eq_getElem?_getD, List.getElem?_eq_getElem hj] using this
  rw [idxOf, this]; rfl
theorem idxOf_some (p : S38 → Bool) (l : List S38) (k : Nat) (hk : k < l.length) (h : ∀ j, j < k → p (rd_T38 l (j : Int)) = false) (hp : p (rd_T38 l (k : Int)) = true) : idxOf p l = (k : Int) := by
  have : l.findIdx? p = some k := by
    rw [List.findIdx?_eq_some_iff_getElem]
    refine ⟨hk, ?_, fun j hj => ?_⟩
    · simpa [rd_T38, List.getD_eq_getElem?_getD, List.getElem?_eq_getElem hk] using hp
    · have := h j hj
      simpa [rd_T38, List.getD_eq_getElem?_getD, List.getElem?_eq_getElem (show j < l.length by omega)] using this
  rw [idxOf, this]; rfl
theorem idxOf_any (p : S38 → Bool) (l : List S38) : decide (0 ≤ idxOf p l) = l.any p := by
  rw [idxOf]
  cases h : l.findIdx? p with
  | none =>
    rw [List.findIdx?_eq_none_iff] at h
    have : l.any p = false := by
      rw [List.any_eq_false]
      intro x hx
      rw [h x hx]; decide
    rw [this]; rfl
  | some k =>
    rw [List.findIdx?_eq_some_iff_getElem] at h
    obtain ⟨hk, hp, _⟩ := h
    have : l.any p = true := List.any_eq_true.2 ⟨l[k], List.getElem_mem hk, hp⟩
    rw [this]
    simp
/-- What cannot be an operation. -/
def wrongB (x : S38) : Bool := !(decide (0 ≤ x.f0) && decide (x.f0 ≤ 2) && decide (0 ≤ x.f1) && decide (x.f1 < 65536))
theorem wrong_eq (x : S38) : redo_wrong.f x.f0 x.f1 x.f2 = some (wrongB x) := by
  unfold redo_wrong.f redo_right.f wrongB
  by_cases h1 : 0 ≤ x.f0 <;> by_cases h2 : x.f0 ≤ 2 <;> by_cases h3 : 0 ≤ x.f1 <;> by_cases h4 : x.f1 < 65536 <;> simp [h1, h2, h3, h4]
set_option maxHeartbeats 4000000 in
set_option maxRecDepth 100000 in
theorem index_wrong  (A0 : Option Addr) (c0 : Nat) (l0 : List S38) (w : World) (hr0 : Kd.C k38 w A0 l0.length l0) (hc0 : l0.length ≤ c0)  :
    Calls Try.prog 41 #[.slice A0 l0.length c0, .func (.func 28) #[] #[]] w fun e w' => e = .returned (.int .i64 (idxOf wrongB l0)) ∧ Below w.heap.size w w' := by
  have hu := Try.underlying38
  have hm : l0.length ≤ 9223372036854775807 := hr0.2.1
  have HR0 := Aside0.mk hr0
  clear hr0
  have eg := fun args (W : World) => enters_ (P := Try.prog) Try.func28 (by kernel_rfl) rfl args W
  go_enter Try.func41, Try.ntmps41
  go_wp2
  go_loopw [5, 8] (fun _ i wr => ∃ k : Nat, k ≤ l0.length ∧ i = .int .i64 k ∧ Aside0 (∀ j, j < k → wrongB (rd_T38 l0 (j : Int)) = false) ∧ Aside0 (Below w.heap.size w wr)) (fun _ i _ => l0.length - (intOf i).toNat)
  case atStart => exact ⟨0, Nat.zero_le _, rfl, ⟨fun j hj => by omega⟩, ⟨Below.refl _ _⟩⟩
  case round =>
    obtain ⟨k, hk, rfl, hno, hB⟩ := hrel
    by_cases hlt : k < l0.length
    · obtain ⟨ad, e0, h0, h1, h2⟩ := at_T38 (Kd.C_below HR0.out hB.out) (k : Int) (by omega) (by omega)
      subst e0
      simp only [Int.toNat_natCast] at h0 h1 h2

      obtain ⟨x, hx⟩ : ∃ x, x = rd_T38 l0 (k : Int) := ⟨_, rfl⟩
      rw [← hx] at h0 h1 h2
      have HX := Aside0.mk hx
      clear hx
      cases hp : wrongB x with
      | true =>
        go_wp2_with (go_at_call 28; refine (redo_wrong.calls x.f0 x.f1 x.f2 _ _ ((wrong_eq x).trans (congrArg some hp))).mono ?_; rintro e w2 ⟨rfl, hb2⟩; have HB2 := Aside0.mk hb2; clear hb2)
        go_ret
        exact ⟨by rw [idxOf_some wrongB l0 k hlt hno.out (by rw [← HX.out]; exact hp)]; rfl, below_step hB.out HB2.out⟩
      | false =>
        go_wp2_with (go_at_call 28; refine (redo_wrong.calls x.f0 x.f1 x.f2 _ _ ((wrong_eq x).trans (congrArg some hp))).mono ?_; rintro e w2 ⟨rfl, hb2⟩; have HB2 := Aside0.mk hb2; clear hb2)
        go_roundw
        case rel => exact ⟨k + 1, by omega, by go_num, ⟨fun j hj => by
          by_cases e : j = k
          · subst e; rw [← HX.out]; exact hp
          · exact hno.out j (by omega)⟩, ⟨below_step hB.out HB2.out⟩⟩
        case measure => simp [intOf]; omega
    · obtain rfl : k = l0.length := by omega
      go_wp2
      go_ret
      exact ⟨by rw [idxOf_none wrongB l0 hno.out]; rfl, hB.out⟩
theorem contains_wrong  (A0 : Option Addr) (c0 : Nat) (l0 : List S38) (w : World) (hr0 : Kd.C k38 w A0 l0.length l0) (hc0 : l0.length ≤ c0)  :
    Calls Try.prog 27 #[.slice A0 l0.length c0, .func (.func 28) #[] #[]] w fun e w' => e = .returned (.bool (l0.any wrongB)) ∧ Below w.heap.size w w' := by
  have hany := idxOf_any wrongB l0
  obtain ⟨z, hz⟩ : ∃ z, z = idxOf wrongB l0 := ⟨_, rfl⟩
  have HZ := Aside0.mk hz
  rw [← hz] at hany
  have HA := Aside0.mk hany
  clear hz hany
  go_enter Try.func27, Try.ntmps27
  go_wp2_with (go_at_call 41; refine (index_wrong  A0 c0 l0 _ hr0 hc0 ).mono ?_; rintro e w2 ⟨rfl, hb2⟩; rw [← HZ.out])
  go_ret
  exact ⟨by rw [← HA.out]; rfl, hb2⟩
def redo_Right.f (l0 : List S38) : Option Bool := some (decide (l0.length ≤ 19) && !(l0.any wrongB))
set_option maxHeartbeats 1000000 in
theorem redo_Right.calls (A0 : Option Addr) (c0 : Nat) (l0 : List S38) (r : Bool) (w : World) (hr0 : Kd.C k38 w A0 l0.length l0) (hc0 : l0.length ≤ c0) (h : redo_Right.f l0 = some r) :
    Calls Try.prog 13 #[.slice A0 l0.length c0] w fun e w' => e = .returned (.bool r) ∧ Below w.heap.size w w' := by
  obtain rfl := Option.some.inj h
  clear h
  by_cases hl : l0.length ≤ 19
  · rw [decide_eq_true hl, Bool.true_and]
    obtain ⟨b, hb⟩ : ∃ b, b = l0.any wrongB := ⟨_, rfl⟩
    have HB := Aside0.mk hb
    rw [← hb]
    clear hb
    go_enter Try.func13, Try.ntmps13
    go_wp2_with (go_at_call 27; refine (contains_wrong A0 c0 l0 _ hr0 hc0).mono ?_; rintro e w2 ⟨rfl, hb2⟩; rw [← HB.out])
    go_ret
    exact ⟨rfl, hb2⟩
  · rw [decide_eq_false hl, Bool.false_and]
    have hl2 : decide ((l0.length : Int) ≤ 19) = false := decide_eq_false (by omega)
    have hl3 : decide (l0.length ≤ 19) = false := decide_eq_false hl
    go_enter Try.func13, Try.ntmps13
    go_wp2
    go_ret
    exact ⟨rfl, Below.refl _ _⟩

/-! ### field_Fits: function 44 -/
def field_Fits.f (a0 : Int) (a1 : Int) : Option (Bool) := if a0 ≥ 0 then (if a0 < 64 then (if a1 ≥ 1 then (some (decide (a1 ≤ (wrap64 (64 - a0))))) else (some false)) else (some false)) else (some false)
set_option maxHeartbeats 8000000 in
set_option maxRecDepth 100000 in
theorem field_Fits.calls (a0 : Int) (a1 : Int) (r : Bool) (w : World) (h : field_Fits.f a0 a1 = some r) :
    Calls Try.prog 44 #[.int .i64 a0, .int .i64 a1] w fun e w' => e = .returned (.bool r) ∧ Drawn0 w w' := by
  have H : (if a0 ≥ 0 then (if a0 < 64 then (if a1 ≥ 1 then (some (decide (a1 ≤ (wrap64 (64 - a0))))) else (some false)) else (some false)) else (some false)) = some r := h
  clear h
  by_cases c3 : a0 ≥ 0
  · rw [if_pos c3] at H
    have c3b0 : decide (0 ≤ a0) = true := decide_eq_true c3
    clear c3
    by_cases c4 : a0 < 64
    · rw [if_pos c4] at H
      have c4b0 : decide (a0 < 64) = true := decide_eq_true c4
      clear c4
      by_cases c5 : a1 ≥ 1
      · rw [if_pos c5] at H
        have c5b0 : decide (1 ≤ a1) = true := decide_eq_true c5
        clear c5
        obtain rfl := Option.some.inj H
        simp only [Option.some.injEq, Prod.mk.injEq] at H
        obtain ⟨rfl⟩ := H
        go_enter Try.func44, Try.ntmps44
        go_wp2
        go_ret
        exact ⟨by first | rfl | (simp; done) | (simp [*]; done), by repeat (first | exact Drawn0.refl _ | apply Drawn0.step)⟩
      · rw [if_neg c5] at H
        have c5b0 : decide (1 ≤ a1) = false := decide_eq_false c5
        clear c5
        obtain rfl := Option.some.inj H
        simp only [Option.some.injEq, Prod.mk.injEq] at H
        obtain ⟨rfl⟩ := H
        go_enter Try.func44, Try.ntmps44
        go_wp2
        go_ret
        exact ⟨by first | rfl | (simp; done) | (simp [*]; done), by repeat (first | exact Drawn0.refl _ | apply Drawn0.step)⟩
    · rw [if_neg c4] at H
      have c4b0 : decide (a0 < 64) = false := decide_eq_false c4
      clear c4
      obtain rfl := Option.some.inj H
      simp only [Option.some.injEq, Prod.mk.injEq] at H
      obtain ⟨rfl⟩ := H
      go_enter Try.func44, Try.ntmps44
      go_wp2
      go_ret
      exact ⟨by first | rfl | (simp; done) | (simp [*]; done), by repeat (first | exact Drawn0.refl _ | apply Drawn0.step)⟩
  · rw [if_neg c3] at H
    have c3b0 : decide (0 ≤ a0) = false := decide_eq_false c3
    clear c3
    obtain rfl := Option.some.inj H
    simp only [Option.some.injEq, Prod.mk.injEq] at H
    obtain ⟨rfl⟩ := H
    go_enter Try.func44, Try.ntmps44
    go_wp2
    go_ret
    exact ⟨by first | rfl | (simp; done) | (simp [*]; done), by repeat (first | exact Drawn0.refl _ | apply Drawn0.step)⟩

/-! ### field_mask: function 45 -/
def field_mask.f (a0 : Int) : Option (Int) := if 0 ≤ (wrap64 (64 - a0)) then (some (shr .u64 18446744073709551615 (wrap64 (64 - a0)))) else (none)
set_option maxHeartbeats 8000000 in
set_option maxRecDepth 100000 in
theorem field_mask.calls (a0 : Int) (r : Int) (w : World) (h : field_mask.f a0 = some r) :
    Calls Try.prog 45 #[.int .i64 a0] w fun e w' => e = .returned (.int .u64 r) ∧ Drawn0 w w' := by
  have H : (if 0 ≤ (wrap64 (64 - a0)) then (some (shr .u64 18446744073709551615 (wrap64 (64 - a0)))) else (none)) = some r := h
  clear h
  obtain ⟨ji2, hji2⟩ : ∃ j_ : Int, (wrap64 (64 - a0)) = j_ := ⟨_, rfl⟩
  replace H : (if 0 ≤ (ji2) then (some (shr .u64 18446744073709551615 (ji2))) else (none)) = some r := by first | (rw [hji2] at H; exact H) | (simp only [hji2] at H ⊢; exact H)
  have hji2w : (IntKind.i64.wrap (64 - a0)) = ji2 := (i64_w _).trans hji2
  by_cases c3 : 0 ≤ (ji2)
  · rw [if_pos c3] at H
    have c3b0 := eq_true c3
    have c3b1 : decide (0 ≤ (ji2)) = true := decide_eq_true c3
    clear c3
    obtain ⟨ji4, hji4⟩ : ∃ j_ : Int, (shr .u64 18446744073709551615 (ji2)) = j_ := ⟨_, rfl⟩
    replace H : (some ji4) = some r := by first | (rw [hji4] at H; exact H) | (simp only [hji4] at H ⊢; exact H)
    have hji4_ : (18446744073709551615 / 2 ^ min (ji2).toNat 64) = ji4 := hji4
    have hji4z : (ji2) ≤ 64 → (18446744073709551615 / 2 ^ (ji2).toNat) = ji4 := shr_small hji4
    obtain rfl := Option.some.inj H
    simp only [Option.some.injEq, Prod.mk.injEq] at H
    obtain ⟨rfl⟩ := H
    go_enter Try.func45, Try.ntmps45
    go_wp2
    go_ret
    exact ⟨by first | rfl | (simp; done) | (simp only [← hji2, ← hji4] <;> (first | rfl | simp)) | (simp [*]; done), by repeat (first | exact Drawn0.refl _ | apply Drawn0.step)⟩
  · rw [if_neg c3] at H
    exact absurd H (by simp)

/-! ### field_Put: function 39 -/
def field_Put.f (a0 : Int) (a1 : Int) (a2 : Int) (a3 : Int) : Option (Int) := (field_Fits.f a1 a2).bind fun t104 => (if t104 = true then ((field_mask.f a2).bind fun t105 => (if 0 ≤ a1 then (some (Go.bits .or .u64 (Go.bits .andNot .u64 a0 (shl .u64 t105 a1)) (Go.bits .and .u64 (shl .u64 a3 a1) (shl .u64 t105 a1)))) else (none))) else (some a0))
set_option maxHeartbeats 8000000 in
set_option maxRecDepth 100000 in
theorem field_Put.calls (a0 : Int) (a1 : Int) (a2 : Int) (a3 : Int) (r : Int) (w : World) (h : field_Put.f a0 a1 a2 a3 = some r) :
    Calls Try.prog 39 #[.int .u64 a0, .int .i64 a1, .int .i64 a2, .int .u64 a3] w fun e w' => e = .returned (.int .u64 r) ∧ Drawn0 w w' := by
  have H : ((field_Fits.f a1 a2).bind fun t104 => (if t104 = true then ((field_mask.f a2).bind fun t105 => (if 0 ≤ a1 then (some (Go.bits .or .u64 (Go.bits .andNot .u64 a0 (shl .u64 t105 a1)) (Go.bits .and .u64 (shl .u64 a3 a1) (shl .u64 t105 a1)))) else (none))) else (some a0))) = some r := h
  clear h
  replace H := Option.bind_eq_some_iff.mp H
  obtain ⟨t104, A50, H⟩ := H
  replace H : (if t104 = true then ((field_mask.f a2).bind fun t105 => (if 0 ≤ a1 then (some (Go.bits .or .u64 (Go.bits .andNot .u64 a0 (shl .u64 t105 a1)) (Go.bits .and .u64 (shl .u64 a3 a1) (shl .u64 t105 a1)))) else (none))) else (some a0)) = some r := H
  have A5 := Aside0.mk A50
  clear A50
  by_cases c6 : t104 = true
  · subst c6
    have H1 : ((field_mask.f a2).bind fun t105 => (if 0 ≤ a1 then (some (Go.bits .or .u64 (Go.bits .andNot .u64 a0 (shl .u64 t105 a1)) (Go.bits .and .u64 (shl .u64 a3 a1) (shl .u64 t105 a1)))) else (none))) = some r := by rw [if_pos rfl] at H; exact H
    clear H
    have H := H1
    clear H1
    replace H := Option.bind_eq_some_iff.mp H
    obtain ⟨t105, A70, H⟩ := H
    replace H : (if 0 ≤ a1 then (some (Go.bits .or .u64 (Go.bits .andNot .u64 a0 (shl .u64 t105 a1)) (Go.bits .and .u64 (shl .u64 a3 a1) (shl .u64 t105 a1)))) else (none)) = some r := H
    have A7 := Aside0.mk A70
    clear A70
    by_cases c8 : 0 ≤ a1
    · rw [if_pos c8] at H
      have c8b0 := eq_true c8
      have c8b1 : decide (0 ≤ a1) = true := decide_eq_true c8
      clear c8
      obtain ⟨ji9, hji9⟩ : ∃ j_ : Int, (shl .u64 t105 a1) = j_ := ⟨_, rfl⟩
      replace H : (some (Go.bits .or .u64 (Go.bits .andNot .u64 a0 (ji9)) (Go.bits .and .u64 (shl .u64 a3 a1) (ji9)))) = some r := by first | (rw [hji9] at H; exact H) | (simp only [hji9] at H ⊢; exact H)
      (try rw [hji9] at A5)
      (try rw [hji9] at A7)
      have hji9_ : (IntKind.u64.wrap (t105 * 2 ^ min a1.toNat 64)) = ji9 := hji9
      have hji9z : a1 ≤ 64 → (IntKind.u64.wrap (t105 * 2 ^ a1.toNat)) = ji9 := shl_small hji9
      have c10b0 := eq_true (of_decide_eq_true (by first | (with_reducible assumption) | assumption) : 0 ≤ a1)
      obtain ⟨ji11, hji11⟩ : ∃ j_ : Int, (shl .u64 a3 a1) = j_ := ⟨_, rfl⟩
      replace H : (some (Go.bits .or .u64 (Go.bits .andNot .u64 a0 (ji9)) (Go.bits .and .u64 (ji11) (ji9)))) = some r := by first | (rw [hji11] at H; exact H) | (simp only [hji11] at H ⊢; exact H)
      (try rw [hji11] at A5)
      (try rw [hji11] at A7)
      have hji11_ : (IntKind.u64.wrap (a3 * 2 ^ min a1.toNat 64)) = ji11 := hji11
      have hji11z : a1 ≤ 64 → (IntKind.u64.wrap (a3 * 2 ^ a1.toNat)) = ji11 := shl_small hji11
      obtain rfl := Option.some.inj H
      simp only [Option.some.injEq, Prod.mk.injEq] at H
      obtain ⟨rfl⟩ := H
      go_enter Try.func39, Try.ntmps39
      go_wp2_with (first | ((with_reducible refine gate_callee (f := 44) rfl ?_); refine goesL_ (some 12) rfl rfl Try.func44 (by kernel_rfl) rfl #[.int .i64 a1, .int .i64 a2] rfl (by (try simp only [List.map_toArray, List.map_cons, List.map_nil]); first | done | rfl | (simp only [List.length_drop, List.length_take]; rfl)) ?_; (with_reducible refine (field_Fits.calls a1 a2 true _ A5.out).mono ?_); rintro e w' ⟨rfl, ⟨nd, rfl⟩⟩; refine ⟨_, rfl, ?_⟩) | ((with_reducible refine gate_callee (f := 45) rfl ?_); refine goesL_ (some 16) rfl rfl Try.func45 (by kernel_rfl) rfl #[.int .i64 a2] rfl (by (try simp only [List.map_toArray, List.map_cons, List.map_nil]); first | done | rfl | (simp only [List.length_drop, List.length_take]; rfl)) ?_; (with_reducible refine (field_mask.calls a2 t105 _ A7.out).mono ?_); rintro e w' ⟨rfl, ⟨nd, rfl⟩⟩; refine ⟨_, rfl, ?_⟩))
      go_ret
      exact ⟨by first | rfl | (simp; done) | (simp only [← hji9, ← hji11] <;> (first | rfl | simp)) | (simp [*]; done), by repeat (first | exact Drawn0.refl _ | apply Drawn0.step)⟩
    · rw [if_neg c8] at H
      exact absurd H (by simp)
  · replace c6 := Bool.eq_false_iff.mpr c6
    subst c6
    have H1 : (some a0) = some r := by rw [if_neg (show ¬ (false = true) by decide)] at H; exact H
    clear H
    have H := H1
    clear H1
    obtain rfl := Option.some.inj H
    simp only [Option.some.injEq, Prod.mk.injEq] at H
    obtain ⟨rfl⟩ := H
    go_enter Try.func39, Try.ntmps39
    go_wp2_with (first | ((with_reducible refine gate_callee (f := 44) rfl ?_); refine goesL_ (some 12) rfl rfl Try.func44 (by kernel_rfl) rfl #[.int .i64 a1, .int .i64 a2] rfl (by (try simp only [List.map_toArray, List.map_cons, List.map_nil]); first | done | rfl | (simp only [List.length_drop, List.length_take]; rfl)) ?_; (with_reducible refine (field_Fits.calls a1 a2 false _ A5.out).mono ?_); rintro e w' ⟨rfl, ⟨nd, rfl⟩⟩; refine ⟨_, rfl, ?_⟩))
    go_ret
    exact ⟨by first | rfl | (simp; done) | (simp [*]; done), by repeat (first | exact Drawn0.refl _ | apply Drawn0.step)⟩

/-! ### redo_first: function 24 -/
def redo_first.f (a0_0 : Int) (a0_1 : Int) (a0_2 : Int) : Option (Int) := (field_Put.f 0 0 2 (IntKind.u64.wrap (a0_0))).bind fun t107 => ((field_Put.f t107 2 20 (IntKind.u64.wrap (a0_1))).bind fun t108 => (some t108))
set_option maxHeartbeats 8000000 in
set_option maxRecDepth 100000 in
theorem redo_first.calls (a0_0 : Int) (a0_1 : Int) (a0_2 : Int) (r : Int) (w : World) (h : redo_first.f a0_0 a0_1 a0_2 = some r) :
    Calls Try.prog 24 #[.agg #[.int .i64 a0_0, .int .i64 a0_1, .int .u64 a0_2]] w fun e w' => e = .returned (.int .u64 r) ∧ Below w.heap.size w w' := by
  have hu38 := Try.underlying38
  have HB := Aside0.mk (Below.refl w.heap.size w)
  have H : ((field_Put.f 0 0 2 (IntKind.u64.wrap (a0_0))).bind fun t107 => ((field_Put.f t107 2 20 (IntKind.u64.wrap (a0_1))).bind fun t108 => (some t108))) = some r := h
  clear h
  replace H := Option.bind_eq_some_iff.mp H
  obtain ⟨t107, A20, H⟩ := H
  replace H : ((field_Put.f t107 2 20 (IntKind.u64.wrap (a0_1))).bind fun t108 => (some t108)) = some r := H
  have A2 := Aside0.mk A20
  clear A20
  replace H := Option.bind_eq_some_iff.mp H
  obtain ⟨t108, A30, H⟩ := H
  replace H : (some t108) = some r := H
  have A3 := Aside0.mk A30
  clear A30
  obtain rfl := Option.some.inj H
  simp only [Option.some.injEq, Prod.mk.injEq] at H
  obtain ⟨rfl⟩ := H
  go_enter Try.func24, Try.ntmps24
  go_wp2_with (first | ((with_reducible refine gate_dst (N := 1) rfl ?_); refine box_event ?hg (N := 1) ?hd (cs := #[.int .i64 a0_0, .int .i64 a0_1, .int .u64 a0_2]) (t := 38) ?hr ?_; (case hd => rfl); (case hg => rfl); (case hr => first | (go_simp; done) | (go_simp; rfl)); intro gb106 hg w4 hbox hb; have n0_ := Aside0.mk (below_step (by repeat (first | (with_reducible first | exact HB.out | apply below_alloc | apply pw_below_drewN | apply below_drew1) | exact HB.out)) hb); have n1_ := Aside0.mk (hbox); have n2_ := Aside0.mk ((by rw [hg]; exact (below_size (by repeat (first | (with_reducible first | exact HB.out | apply below_alloc | apply pw_below_drewN | apply below_drew1) | exact HB.out))) : w.heap.size ≤ gb106)); have n3_ := Aside0.mk ((by rw [hg]; exact (below_size (by repeat (first | (with_reducible first | exact HB.out | apply below_alloc | apply pw_below_drewN | apply below_drew1) | exact HB.out))) : w.heap.size ≤ gb106)); clear HB; have HB := n0_; have BK106 := n1_; have GW106 := n2_; have GE106 := n3_; clear n0_ n1_ n2_ n3_; clear hb hbox hg; have hcz5_0 : w4.cell? ⟨gb106, 0, none⟩ = some (.int .i64 a0_0) := (blk_cell BK106.out 0).trans rfl; have hcz5_1 : w4.cell? ⟨gb106, 1, none⟩ = some (.int .i64 a0_1) := (blk_cell BK106.out 1).trans rfl; have hcz5_2 : w4.cell? ⟨gb106, 2, none⟩ = some (.int .u64 a0_2) := (blk_cell BK106.out 2).trans rfl; have hfz5_0 := blk_frozen BK106.out 0; have hfz5_1 := blk_frozen BK106.out 1; have hfz5_2 := blk_frozen BK106.out 2) | (go_at_call 39; (with_reducible refine (field_Put.calls 0 0 2 (IntKind.u64.wrap (a0_0)) t107 _ A2.out).mono ?_); rintro e w' ⟨rfl, ⟨nd, rfl⟩⟩; (try first | exact ⟨rfl, _, World.drewN_drewN _ _ _⟩ | exact ⟨rfl, _, Eq.trans (World.drewN_drewN _ _ _) (congrArg (World.drewN _) (Nat.add_assoc _ _ _))⟩)) | (go_at_call 39; (with_reducible refine (field_Put.calls t107 2 20 (IntKind.u64.wrap (a0_1)) t108 _ A3.out).mono ?_); rintro e w' ⟨rfl, ⟨nd, rfl⟩⟩; (try first | exact ⟨rfl, _, World.drewN_drewN _ _ _⟩ | exact ⟨rfl, _, Eq.trans (World.drewN_drewN _ _ _) (congrArg (World.drewN _) (Nat.add_assoc _ _ _))⟩)))
  repeat (go_quiet (first | ((with_reducible refine gate_dst (N := 1) rfl ?_); refine box_event ?hg (N := 1) ?hd (cs := #[.int .i64 a0_0, .int .i64 a0_1, .int .u64 a0_2]) (t := 38) ?hr ?_; (case hd => rfl); (case hg => rfl); (case hr => first | (go_simp; done) | (go_simp; rfl)); intro gb106 hg w4 hbox hb; have n0_ := Aside0.mk (below_step (by repeat (first | (with_reducible first | exact HB.out | apply below_alloc | apply pw_below_drewN | apply below_drew1) | exact HB.out)) hb); have n1_ := Aside0.mk (hbox); have n2_ := Aside0.mk ((by rw [hg]; exact (below_size (by repeat (first | (with_reducible first | exact HB.out | apply below_alloc | apply pw_below_drewN | apply below_drew1) | exact HB.out))) : w.heap.size ≤ gb106)); have n3_ := Aside0.mk ((by rw [hg]; exact (below_size (by repeat (first | (with_reducible first | exact HB.out | apply below_alloc | apply pw_below_drewN | apply below_drew1) | exact HB.out))) : w.heap.size ≤ gb106)); clear HB; have HB := n0_; have BK106 := n1_; have GW106 := n2_; have GE106 := n3_; clear n0_ n1_ n2_ n3_; clear hb hbox hg; have hcz5_0 : w4.cell? ⟨gb106, 0, none⟩ = some (.int .i64 a0_0) := (blk_cell BK106.out 0).trans rfl; have hcz5_1 : w4.cell? ⟨gb106, 1, none⟩ = some (.int .i64 a0_1) := (blk_cell BK106.out 1).trans rfl; have hcz5_2 : w4.cell? ⟨gb106, 2, none⟩ = some (.int .u64 a0_2) := (blk_cell BK106.out 2).trans rfl; have hfz5_0 := blk_frozen BK106.out 0; have hfz5_1 := blk_frozen BK106.out 1; have hfz5_2 := blk_frozen BK106.out 2) | (go_at_call 39; (with_reducible refine (field_Put.calls 0 0 2 (IntKind.u64.wrap (a0_0)) t107 _ A2.out).mono ?_); rintro e w' ⟨rfl, ⟨nd, rfl⟩⟩; (try first | exact ⟨rfl, _, World.drewN_drewN _ _ _⟩ | exact ⟨rfl, _, Eq.trans (World.drewN_drewN _ _ _) (congrArg (World.drewN _) (Nat.add_assoc _ _ _))⟩)) | (go_at_call 39; (with_reducible refine (field_Put.calls t107 2 20 (IntKind.u64.wrap (a0_1)) t108 _ A3.out).mono ?_); rintro e w' ⟨rfl, ⟨nd, rfl⟩⟩; (try first | exact ⟨rfl, _, World.drewN_drewN _ _ _⟩ | exact ⟨rfl, _, Eq.trans (World.drewN_drewN _ _ _) (congrArg (World.drewN _) (Nat.add_assoc _ _ _))⟩))); try go_wp2_with (first | ((with_reducible refine gate_dst (N := 1) rfl ?_); refine box_event ?hg (N := 1) ?hd (cs := #[.int .i64 a0_0, .int .i64 a0_1, .int .u64 a0_2]) (t := 38) ?hr ?_; (case hd => rfl); (case hg => rfl); (case hr => first | (go_simp; done) | (go_simp; rfl)); intro gb106 hg w4 hbox hb; have n0_ := Aside0.mk (below_step (by repeat (first | (with_reducible first | exact HB.out | apply below_alloc | apply pw_below_drewN | apply below_drew1) | exact HB.out)) hb); have n1_ := Aside0.mk (hbox); have n2_ := Aside0.mk ((by rw [hg]; exact (below_size (by repeat (first | (with_reducible first | exact HB.out | apply below_alloc | apply pw_below_drewN | apply below_drew1) | exact HB.out))) : w.heap.size ≤ gb106)); have n3_ := Aside0.mk ((by rw [hg]; exact (below_size (by repeat (first | (with_reducible first | exact HB.out | apply below_alloc | apply pw_below_drewN | apply below_drew1) | exact HB.out))) : w.heap.size ≤ gb106)); clear HB; have HB := n0_; have BK106 := n1_; have GW106 := n2_; have GE106 := n3_; clear n0_ n1_ n2_ n3_; clear hb hbox hg; have hcz5_0 : w4.cell? ⟨gb106, 0, none⟩ = some (.int .i64 a0_0) := (blk_cell BK106.out 0).trans rfl; have hcz5_1 : w4.cell? ⟨gb106, 1, none⟩ = some (.int .i64 a0_1) := (blk_cell BK106.out 1).trans rfl; have hcz5_2 : w4.cell? ⟨gb106, 2, none⟩ = some (.int .u64 a0_2) := (blk_cell BK106.out 2).trans rfl; have hfz5_0 := blk_frozen BK106.out 0; have hfz5_1 := blk_frozen BK106.out 1; have hfz5_2 := blk_frozen BK106.out 2) | (go_at_call 39; (with_reducible refine (field_Put.calls 0 0 2 (IntKind.u64.wrap (a0_0)) t107 _ A2.out).mono ?_); rintro e w' ⟨rfl, ⟨nd, rfl⟩⟩; (try first | exact ⟨rfl, _, World.drewN_drewN _ _ _⟩ | exact ⟨rfl, _, Eq.trans (World.drewN_drewN _ _ _) (congrArg (World.drewN _) (Nat.add_assoc _ _ _))⟩)) | (go_at_call 39; (with_reducible refine (field_Put.calls t107 2 20 (IntKind.u64.wrap (a0_1)) t108 _ A3.out).mono ?_); rintro e w' ⟨rfl, ⟨nd, rfl⟩⟩; (try first | exact ⟨rfl, _, World.drewN_drewN _ _ _⟩ | exact ⟨rfl, _, Eq.trans (World.drewN_drewN _ _ _) (congrArg (World.drewN _) (Nat.add_assoc _ _ _))⟩))))
  go_ret
  exact ⟨by first | rfl | (simp [errW_none, errW_some] <;> rfl) | (simp [*, errW_none, errW_some] <;> rfl), by repeat (first | (with_reducible first | exact HB.out | apply below_alloc | apply pw_below_drewN | apply below_drew1 | refine below_set ?_ GE106.out) | exact HB.out)⟩

-- NOT PRINTED: function 49 (seal_turned)

/-! ### seal_More: function 47: a contract of the session's own -/
theorem turn_calls (n : Nat) : ∀ (r : Int) (g : Nat) (w : World), n ≤ 8 → w.cell? ⟨g, 0, none⟩ = some (.func (.func 50) #[] #[.pointer (some ⟨g, 0, none⟩)]) →
    Calls Try.prog 50 #[.int .u32 r, .int .i64 n, .pointer (some ⟨g, 0, none⟩)] w fun e w' => e = .returned (.int .u32 (crcTurn n r)) ∧ w = w' := by
  induction n with
  | zero =>
    intro r g w _ hc
    go_enter Try.func50, Try.ntmps50
    go_wp2
    go_ret
    exact ⟨rfl, rfl⟩
  | succ n ih =>
    intro r g w hn hc
    have IH := fun (r : Int) => Aside0.mk (ih r g w (by omega) hc)
    clear ih
    by_cases hb : (Go.bits .and .u32 r 1 == 1) = true
    · have e : crcTurn (n + 1) r = crcTurn n (Go.bits .xor .u32 (r / 2) 3988292384) := by rw [crcTurn, crcStep, if_pos hb]
      rw [e]
      clear e
      go_enter Try.func50, Try.ntmps50
      go_wp2_with fail
      refine (IH _).out.mono ?_
      rintro e w' ⟨rfl, rfl⟩
      go_wp2_with fail
      go_ret
      exact ⟨rfl, rfl⟩
    · have hb' : (Go.bits .and .u32 r 1 == 1) = false := Bool.eq_false_iff.mpr hb
      have e : crcTurn (n + 1) r = crcTurn n (r / 2) := by rw [crcTurn, crcStep, if_neg hb]
      rw [e]
      clear e hb
      go_enter Try.func50, Try.ntmps50
      go_wp2_with fail
      refine (IH _).out.mono ?_
      rintro e w' ⟨rfl, rfl⟩
      go_wp2_with fail
      go_ret
      exact ⟨rfl, rfl⟩
theorem turned_calls (w : World) :
    Calls Try.prog 49 #[] w fun e w' => ∃ g, w.heap.size ≤ g ∧ e = .returned (.func (.func 50) #[] #[.pointer (some ⟨g, 0, none⟩)]) ∧ w'.cell? ⟨g, 0, none⟩ = some (.func (.func 50) #[] #[.pointer (some ⟨g, 0, none⟩)]) ∧ Below w.heap.size w w' := by
  go_enter Try.func49, Try.ntmps49
  go_wp2
  go_ret
  exact ⟨_, Nat.le_refl _, rfl, by go_simp, below_alloc (Below.refl _ _) _⟩
theorem zeroArr (w : World) : Sem.run Try.prog (zeroValue 72) w = .ok (.agg crcZero) w := by kernel_rfl
theorem turn8_calls (r : Int) (g : Nat) (w : World) (hc : w.cell? ⟨g, 0, none⟩ = some (.func (.func 50) #[] #[.pointer (some ⟨g, 0, none⟩)])) :
    Calls Try.prog 50 #[.int .u32 r, .int .i64 8, .pointer (some ⟨g, 0, none⟩)] w fun e w' => e = .returned (.int .u32 (crcTurn 8 r)) ∧ w = w' := by
  have h := turn_calls 8 r g w (by omega) hc
  rw [show ((8 : Nat) : Int) = 8 from rfl] at h
  exact h
set_option maxRecDepth 100000 in
set_option maxHeartbeats 8000000 in
theorem more_calls (s : Int) (A : Option Addr) (c : Nat) (l : List Int) (w : World) (hr : Kd.C (Kd.int .u64) w A l.length l) :
    Calls Try.prog 47 #[.int .u32 s, .slice A l.length c] w fun e w' => e = .returned (.int .u32 (crcMore s l)) ∧ Below w.heap.size w w' := by
  have HR := Aside0.mk hr
  have HZ := zeroArr
  clear hr
  go_enter Try.func47, Try.ntmps47
  go_wp2_with (go_at_call 49; refine (turned_calls _).mono ?_; rintro e w1 ⟨g, hg0, rfl, hg, hb⟩)
  have hgl : g < w1.heap.size := World.block_lt_of_cell? w1 _ hg
  have hg2 : (w1.alloc (.cells crcZero 72)).cell? ⟨g, 0, none⟩ = some (.func (.func 50) #[] #[.pointer (some ⟨g, 0, none⟩)]) := pw_cell_below (below_alloc (Below.refl _ _) _) hg
  have hb2 : Below w.heap.size w (w1.alloc (.cells crcZero 72)) := below_alloc hb _
  have hk2 : (w1.alloc (.cells crcZero 72)).heap[w1.heap.size]? = some (.cells (crcTab 0) 72 (0, 0)) := by rw [crcTab_zero]; exact Array.getElem?_push_size
  have HB := Aside0.mk hb2
  have HK := Aside0.mk hk2
  have HG := Aside0.mk hg2
  have hw1 : w.heap.size ≤ w1.heap.size := hb.size
  clear hb hb2 hk2 hg hg2
  generalize w1.heap.size = B at *
  generalize w1.alloc (.cells crcZero 72) = w2 at *
  go_loopw [7, 12] (fun _ i wr => ∃ k : Nat, k ≤ 256 ∧ i = .int .i64 k ∧ Aside0 (wr.heap[B]? = some (.cells (crcTab k) 72 (0, 0))) ∧ Aside0 (wr.cell? ⟨g, 0, none⟩ = some (.func (.func 50) #[] #[.pointer (some ⟨g, 0, none⟩)])) ∧ Aside0 (Below w.heap.size w wr)) (fun _ i _ => 256 - (intOf i).toNat)
  case atStart => exact ⟨0, by omega, rfl, HK, HG, HB⟩
  case round =>
    obtain ⟨k, hk, rfl, HK, HG, HB⟩ := hrel
    by_cases hlt : k < 256
    · have c0 : wr.cell? ⟨B, k, none⟩ = some (.int .u32 0) := by rw [blk_cell HK.out, crcTab_at k k hlt, if_neg (by omega)]
      have f0 : wr.frozen? ⟨B, k, none⟩ = false := blk_frozen HK.out k
      go_wp2_with fail
      refine (turn8_calls _ _ _ HG.out).mono ?_
      rintro e w' ⟨rfl, rfl⟩
      go_wp2
      go_roundw
      case rel =>
        refine ⟨k + 1, by omega, by go_num, ⟨?_⟩, ⟨?_⟩, ⟨?_⟩⟩
        · rw [blk_set HK.out, crcTab_set]
        · rw [World.cell?_setCell_other _ _ _ _ (by intro e; injection e with e; omega)]; exact HG.out
        · exact below_set HB.out (by omega)
      case measure => simp [intOf]; omega
    · obtain rfl : k = 256 := by omega
      clear hlt hk
      go_wp2_with fail
      obtain ⟨w3, e3⟩ : ∃ w3 : World, w3 = wr := ⟨_, rfl⟩
      subst e3
      have HR3 := Aside0.mk (Kd.C_below HR.out HB.out)
      have hmax := Kd.C_max HR.out
      go_loop [8, 10, 26] (fun r _ i => ∃ k : Nat, k ≤ l.length ∧ i = .int .i64 k ∧ r = .int .u32 (crcFold (Go.bits .xor .u32 IntKind.u32.max s) (l.take k))) (fun _ _ i => l.length - (intOf i).toNat)
      case atStart => exact ⟨0, by omega, rfl, rfl⟩
      case round =>
        obtain ⟨k, hk, rfl, rfl⟩ := hrel
        by_cases hlt : k < l.length
        · obtain ⟨ad, e, hx⟩ := Kd.at_int HR3.out (k : Int) (by omega) (by omega)
          rw [Int.toNat_natCast] at hx
          subst e
          generalize hW : rd l (k : Int) = W at *
          have HW := Aside0.mk hW
          generalize hR : crcFold (Go.bits .xor .u32 IntKind.u32.max s) (l.take k) = R at *
          have HRR := Aside0.mk hR
          clear hW hR
          go_wp2_with fail
          go_loop [8, 10, 30] (fun r v i => ∃ (j : Nat) (r' v' : Int), j ≤ 8 ∧ i = .int .i64 j ∧ r = .int .u32 r' ∧ v = .int .u64 v' ∧ Aside0 (crcBytes (8 - j) r' v' = crcBytes 8 R W)) (fun _ _ i => 8 - (intOf i).toNat)
          case atStart => exact ⟨0, R, W, by omega, rfl, rfl, rfl, ⟨rfl⟩⟩
          case round =>
            obtain ⟨j, r', v', hj, rfl, rfl, rfl, HC⟩ := hrel
            by_cases hlj : j < 8
            · have hb := and255 (Go.bits .xor .u32 r' (v' % 4294967296))
              generalize hX : Go.bits .and .u32 (Go.bits .xor .u32 r' (v' % 4294967296)) 255 = X at *
              obtain ⟨x, rfl⟩ := Int.eq_ofNat_of_zero_le hb.1
              have c0 : w3.cell? ⟨B, x, none⟩ = some (.int .u32 (crcTurn 8 (x : Int))) := by rw [blk_cell HK.out, crcTab_at 256 x (by omega), if_pos (by omega)]
              have e1 : crcByte r' v' = Go.bits .xor .u32 (r' / 256) (crcTurn 8 (x : Int)) := by rw [crcByte, hX]
              have E1 := Aside0.mk e1
              clear e1
              go_wp2_with fail
              go_round
              case rel => exact ⟨j + 1, crcByte r' v', v' / 256, by omega, by go_num, by rw [E1.out], rfl, ⟨by rw [← HC.out, show 8 - j = (8 - (j + 1)) + 1 by omega]; rfl⟩⟩
              case measure => simp [intOf]; omega
            · obtain rfl : j = 8 := by omega
              go_wp2_with fail
              go_round
              case rel => exact ⟨k + 1, by omega, by go_num, by rw [crcFold_take _ _ _ hlt, HRR.out, HW.out, ← HC.out]; rfl⟩
              case measure => simp [intOf]; omega
        · obtain rfl : k = l.length := by omega
          go_wp2_with fail
          go_ret
          exact ⟨rfl, HB.out⟩
def seal_More.f (a0 : Int) (l1 : List Int) : Option (Int) := some (crcMore a0 l1)
theorem seal_More.calls (a0 : Int) (A1 : Option Addr) (c1 : Nat) (l1 : List Int) (r : Int) (w : World) (hr1 : Kd.C (Kd.int .u64) w A1 l1.length l1) (_hc1 : l1.length ≤ c1) (h : seal_More.f a0 l1 = some r) :
    Calls Try.prog 47 #[.int .u32 a0, .slice A1 l1.length c1] w fun e w' => e = .returned (.int .u32 r) ∧ Below w.heap.size w w' := by
  obtain rfl := Option.some.inj h
  exact more_calls a0 A1 c1 l1 w hr1

/-! ### seal_Of: function 40 -/
def seal_Of.f (l0 : List Int) : Option (Int) := (seal_More.f 0 l0).bind fun t109 => (some t109)
set_option maxHeartbeats 8000000 in
set_option maxRecDepth 100000 in
theorem seal_Of.calls (A0 : Option Addr) (c0 : Nat) (l0 : List Int) (r : Int) (w : World) (hr0 : Kd.C (Kd.int .u64) w A0 l0.length l0) (hc0 : l0.length ≤ c0) (h : seal_Of.f l0 = some r) :
    Calls Try.prog 40 #[.slice A0 l0.length c0] w fun e w' => e = .returned (.int .u32 r) ∧ Below w.heap.size w w' := by
  have HR0 := Aside0.mk hr0
  have HC0 := Aside0.mk hc0
  clear hr0 hc0
  have HB := Aside0.mk (Below.refl w.heap.size w)
  have H : ((seal_More.f 0 l0).bind fun t109 => (some t109)) = some r := h
  clear h
  replace H := Option.bind_eq_some_iff.mp H
  obtain ⟨t109, A20, H⟩ := H
  replace H : (some t109) = some r := H
  have A2 := Aside0.mk A20
  clear A20
  obtain rfl := Option.some.inj H
  simp only [Option.some.injEq, Prod.mk.injEq] at H
  obtain ⟨rfl⟩ := H
  go_enter Try.func40, Try.ntmps40
  go_wp2_with (first | ((with_reducible refine gate_callee (f := 47) rfl ?_); refine goesL_ (some 4) rfl rfl Try.func47 (by kernel_rfl) rfl #[.int .u32 0, .slice A0 l0.length c0] rfl (by (try simp only [List.map_toArray, List.map_cons, List.map_nil]); first | done | rfl | (simp only [List.length_drop, List.length_take]; rfl)) ?_; (with_reducible refine (seal_More.calls 0 _ _ l0 t109 _ ?side1 ?side2 A2.out).mono ?_); (case side1 => repeat (first | exact HR0.out | (with_reducible refine Kd.C_alloc ?_ _) | (with_reducible refine Kd.C_drewN ?_ _) | (with_reducible refine Kd.C_drew ?_))); (case side2 => exact HC0.out); rintro e w3 ⟨rfl, hb⟩; refine ⟨_, rfl, ?_⟩; have n0_ := Aside0.mk (below_step (by repeat (first | (with_reducible first | exact HB.out | apply below_alloc | apply pw_below_drewN | apply below_drew1) | exact HB.out)) hb); clear HB; have HB := n0_; clear n0_; (try clear hb); (try clear hb2); (try clear hk); (try clear hi)))
  go_ret
  exact ⟨by first | rfl | (simp [errW_none, errW_some] <;> rfl) | (simp [*, errW_none, errW_some] <;> rfl), by repeat (first | (with_reducible first | exact HB.out | apply below_alloc | apply pw_below_drewN | apply below_drew1) | exact HB.out)⟩

/-! ### seal_Seal: function 25: a contract of the session's own -/
def seal_Seal.f (l0 : List Int) : Option (List Int) := if l0.length < 17592186044415 then some (l0 ++ [IntKind.u64.wrap (crcMore 0 l0)]) else none
theorem info_size : (Try.prog.info? 33).map (·.size) = some 1 := by kernel_rfl
theorem made_room (W : World) (base n : Nat) (hb : base ≤ W.heap.size) (hn : n + 1 ≤ 9223372036854775807) :
    Kd.R (Kd.int .u64) 33 (W.alloc (.cells (madeCells (Value.int .u64 0).cells (n + 1)) 33)) base (fun _ => True) (.slice (some ⟨W.heap.size, 0, none⟩) n (n + 1)) (List.replicate n 0) := by
  refine Kd.R_of_own ?_ (fun _ _ => trivial)
  refine ⟨by simp [encs], .inr ⟨W.heap.size, n + 1, madeCells (Value.int .u64 0).cells (n + 1), by simp, hb, Array.getElem?_push_size, by simp, by simpa [maxLen] using hn, by simp [size_madeCells], ?_⟩⟩
  apply List.ext_getElem
  · simp [encs, madeCells]
  · intro i h1 h2
    simp [encs, madeCells, Nat.mod_one, Value.cells]
theorem seal_calls (A0 : Option Addr) (c0 : Nat) (l0 : List Int) (w : World) (hr0 : Kd.C (Kd.int .u64) w A0 l0.length l0) (hc0 : l0.length ≤ c0) (hl : l0.length < 17592186044415) :
    Calls Try.prog 25 #[.slice A0 l0.length c0] w fun e w' => ∃ v0_ : Value, e = .returned v0_ ∧ Kd.R (Kd.int .u64) 33 w' w.heap.size (fun _ => True) v0_ (l0 ++ [IntKind.u64.wrap (crcMore 0 l0)]) ∧ Below w.heap.size w w' := by
  have HR := Aside0.mk hr0
  clear hr0
  obtain ⟨i0, hi, hz0, hz1, hz2⟩ := info_parts info33
  have hmk : ∀ w : World, (Instr.makeSlice 24 (.int .i64 (l0.length : Int)) (.int .i64 ((l0.length : Int) + 1))).run Try.prog w = .ok (.slice (some ⟨w.heap.size, 0, none⟩) l0.length (l0.length + 1)) (w.alloc (.cells (madeCells (Value.int .u64 0).cells (l0.length + 1)) 33)) := by
    intro w
    have h := run_make (P := Try.prog) w 24 33 i0 (.int .u64 0) Try.underlying24 hi hz0 .i64 .i64 (l0.length : Int) ((l0.length : Int) + 1) (by omega) (by omega) (by rw [hz2]; omega) (by omega)
    rw [hz1] at h
    rw [show ((l0.length : Int) + 1).toNat = l0.length + 1 by omega, Int.toNat_natCast, Nat.mul_one] at h
    exact h
  go_enter Try.func25, Try.ntmps25
  go_wp2_with (with_reducible refine Kd.R_copy (enc := Value.int .u64) (h1 := fun _ => rfl) 0 (w0 := w) w.heap.size rfl (.tmp 10) (.tmp 11) 24 24 33 rfl Try.underlying24 info_size (.slice (some ⟨w.heap.size, 0, none⟩) l0.length (l0.length + 1)) (List.replicate l0.length 0) l0 A0 l0.length c0 (fun _ => True) rfl rfl ?aO ?aR ?aB ?aS ?_)
  case aO => exact made_room w w.heap.size l0.length (Nat.le_refl _) (by omega)
  case aR => exact Kd.C_alloc HR.out _
  case aB => exact below_alloc (Below.refl _ _) _
  case aS => exact below_size (below_alloc (Below.refl _ _) _)
  intro w1 ho hb _
  have hw1 : w.heap.size ≤ w1.heap.size := hb.size
  have HO := Aside0.mk (show Kd.R (Kd.int .u64) 33 w1 w.heap.size (fun _ => True) (.slice (some ⟨w.heap.size, 0, none⟩) l0.length (l0.length + 1)) l0 from ho)
  have HB := Aside0.mk hb
  clear ho hb
  have hof : seal_Of.f l0 = some (crcMore 0 l0) := rfl
  have HF := Aside0.mk hof
  clear hof
  go_wp2_with (first | (go_at_call 40; refine (seal_Of.calls _ _ _ _ _ (Kd.C_below HR.out HB.out) hc0 HF.out).mono ?_; rintro e w2 ⟨rfl, hb2⟩; have HO2 := Aside0.mk (Kd.R_below HO.out hb2); have HB2 := Aside0.mk (below_step HB.out hb2); clear hb2) | ((with_reducible refine gate_builtin (b := .append) (xs := #[.tmp 13, .tmp 17]) rfl ?_); refine Kd.R_append (Kd.int .u64) (w0 := w) w.heap.size rfl (.tmp 13) (.tmp 17) 24 33 (.int .u64 0) 8 rfl Try.underlying24 info33 rfl (by decide) (by omega) (.slice (some ⟨w.heap.size, 0, none⟩) l0.length (l0.length + 1)) l0 (IntKind.u64.wrap (crcMore 0 l0)) [.int .u64 (IntKind.u64.wrap (crcMore 0 l0))] (fun _ => True) (fun _ => False) rfl rfl ?aP (fun _ hk => hk.elim) ?aF ?aO2 ?aB2 ?aS2 ?aL ?_))
  case aP => exact rfl
  case aF => exact fun _ _ => trivial
  case aO2 => exact HO2.out
  case aB2 => exact HB2.out
  case aS2 => exact HB2.out.size
  case aL => omega
  intro v1 w3 ho hb hg hat
  go_wp2
  go_ret
  exact ⟨v1, rfl, ho, hb⟩
theorem seal_Seal.calls (A0 : Option Addr) (c0 : Nat) (l0 : List Int) (r : List Int) (w : World) (hr0 : Kd.C (Kd.int .u64) w A0 l0.length l0) (hc0 : l0.length ≤ c0) (h : seal_Seal.f l0 = some r) :
    Calls Try.prog 25 #[.slice A0 l0.length c0] w fun e w' => ∃ v0_ : Value, e = .returned v0_ ∧ Kd.R (Kd.int .u64) 33 w' w.heap.size (fun _ => True) v0_ r ∧ Below w.heap.size w w' := by
  unfold seal_Seal.f at h
  by_cases hl : l0.length < 17592186044415
  · rw [if_pos hl] at h
    obtain rfl := Option.some.inj h
    exact seal_calls A0 c0 l0 w hr0 hc0 hl
  · rw [if_neg hl] at h
    cases h

end Go.Proofs.Ytnoclgnlmkpkbaa.PRedoApart
