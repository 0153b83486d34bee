/- Package field's iterator over a word's bits, and what ranges over it: the first bit, the list of places. -/
import Derived.RangeFuncNested
import Derived.RangeFuncBound
import Derived.RangeFuncCalls
import Derived.RangeFuncLeaves
import Derived.RangeFuncBox
import Derived.Shelf.Abstract
import Derived.Shelf.RegionOpen
import Derived.WalkKit
import Derived.OwnWalkIn
import Derived.TacticsInMore
import Derived.LoopNIn
import Derived.LoopIn
import Derived.Maps.AppendAt
import Derived.Deep.Onto
import Derived.Test.YtilnnkjlddmhbaaDoorWWords
import Derived.Test.YtilnnkjlddmhbaaDoorWMore
import Derived.Test.YtilnnkjlddmhbaaDoorProg
namespace Go.Proofs.YtilnnkjlddmhbaaDoorX
open Go.RowKit Go.Shelf Go.Proofs.YtilnnkjlddmhbaaDoorW.PrintWords Go.Proofs.YtilnnkjlddmhbaaDoorW.PrintMore
attribute [local go_sem] Oper.semAt_some max2_int min2_int
/-- How many of a word's lowest bits are asked. -/
def held (many : Int) : Nat := (max 0 (min many 64)).toNat
def ebit (w : Int) (k : Nat) : Bool := decide (Go.bits .and .u64 (w / 2 ^ k) 1 = 1)
/-- Which of a word's k lowest bits are 1. -/
def ones (w : Int) (k : Nat) : List Int := ((List.range k).filter (ebit w)).map Int.ofNat
theorem ones_hit (w : Int) (k : Nat) (h : ebit w k = true) : ones w (k + 1) = ones w k ++ [(k : Int)] := by simp [ones, List.range_succ, h]
theorem ones_miss (w : Int) (k : Nat) (h : ebit w k = false) : ones w (k + 1) = ones w k := by simp [ones, List.range_succ, h]
theorem ones_length (w : Int) (k : Nat) : (ones w k).length ≤ k := by
  simp only [ones, List.length_map]
  exact Nat.le_trans (List.length_filter_le _ _) (by simp)
theorem ones_prefix (w : Int) (k m : Nat) (h : k ≤ m) : ones w k <+: ones w m := by
  induction m with
  | zero => obtain rfl : k = 0 := by omega
            exact List.prefix_refl _
  | succ m ih =>
    by_cases e : k = m + 1
    · subst e; exact List.prefix_refl _
    · refine List.IsPrefix.trans (ih (by omega)) ?_
      cases hb : ebit w m with
      | true => rw [ones_hit w m hb]; exact List.prefix_append _ _
      | false => rw [ones_miss w m hb]; exact List.prefix_refl _
theorem held_le (m : Int) : held m ≤ 64 := by unfold held; omega
set_option maxHeartbeats 1000000 in
theorem held_in (m : Int) (w : World) : Calls Tryd.prog 46 #[.int .i64 m] w fun e w' => e = .returned (.int .i64 (held m : Int)) ∧ w' = w := by
  obtain ⟨z, hz⟩ : ∃ z, z = (if 64 < m then 64 else m) := ⟨_, rfl⟩
  obtain ⟨y, hy⟩ : ∃ y, y = (if 0 < z then z else 0) := ⟨_, rfl⟩
  have hh : (held m : Int) = y := by
    unfold held
    rw [hy, hz]
    split <;> split <;> omega
  rw [hh]
  go_enter Tryd.func46, Tryd.ntmps46
  go_wp2
  all_goals go_ret
  all_goals exact ⟨rfl, rfl⟩
/-- What the iterator asks of a round: the word that it holds lies on. -/
def KpB (b : Nat) (W W' : World) : Prop := ∀ v, W.cell? ⟨b, 0, none⟩ = some v → W'.cell? ⟨b, 0, none⟩ = some v
theorem KpB_t (b : Nat) {A B C : World} (h : KpB b A B) (k : KpB b B C) : KpB b A C := fun v hv => k v (h v hv)
theorem KpB_b (b : Nat) (W : World) (l : Nat) (o o' : Obj) (hl : W.heap[l]? = some o) (hc : o.isCells = false) : KpB b W (W.putObj l o') := fun _v hv =>
  cell_kept hv (grownBy_putObj' W l o') (fun r e => by cases e; exact ⟨o, hl, hc⟩)
theorem KpB_below {b n : Nat} {W W' : World} (h : Below n W W') (hb : b < n) : KpB b W W' := fun _v hv => (h.cell (p := ⟨b, 0, none⟩) hb).trans hv
set_option maxRecDepth 100000 in
set_option maxHeartbeats 4000000 in
theorem each1_in (n : Nat) (hn : 1 ≤ n) (l Bm Bw : Nat) (m wd : Int) (J Jx : List Int → World → Prop)
    (hY : ∀ pre x W, J pre W → pre.length < 64 → YieldAt Fence.wide (n - 1) Tryd.prog l #[.int .i64 x] W fun e W' =>
      (e = .returned (.bool true) ∧ J (pre ++ [x]) W' ∧ KpB Bw W W') ∨ (e = .returned (.bool false) ∧ Jx (pre ++ [x]) W'))
    (W : World) (hBm : W.cell? ⟨Bm, 0, none⟩ = some (.int .i64 m)) (hBw : W.cell? ⟨Bw, 0, none⟩ = some (.int .u64 wd)) (h0 : J [] W) :
    CallsIn Fence.wide n Tryd.prog 45 #[.func (.yield l) #[] #[], .pointer (some ⟨Bm, 0, none⟩), .pointer (some ⟨Bw, 0, none⟩)] W fun e W' => (∃ v, e = .returned v) ∧
      ((∃ ys, ys = ones wd (held m) ∧ J ys W') ∨ (∃ pre, (∃ k, k ≤ held m ∧ pre = ones wd k) ∧ Jx pre W')) := by
  have hH := held_le m
  refine callsIn_of_wp Tryd.func45 rfl trivial ?_ rfl
  simp only [Tryd.ntmps45, List.size_toArray, List.length_cons, List.length_nil, Nat.reduceAdd, Nat.reduceSub, Array.replicate_succ, Array.replicate_zero, List.push_toArray, List.append_toArray, List.nil_append, List.cons_append]
  gi_wp2_with (refine ⟨trivial, ?_⟩; gi_at_call 46; refine (callsIn_wide.2 (held_in m _)).mono ?_; rintro e w' ⟨rfl, rfl⟩)
  gi_loopw [7] (fun i wr => ∃ k : Nat, k ≤ held m ∧ i = .int .i64 k ∧ J (ones wd k) wr ∧ KpB Bw w' wr)
    (fun i _ => held m - (intOf i).toNat)
  case atStart => exact ⟨0, Nat.zero_le _, rfl, h0, fun _ h => h⟩
  case round =>
    obtain ⟨k, hk, rfl, hJs, hnx⟩ := hrel
    have hcw : wr.cell? ⟨Bw, 0, none⟩ = some (.int .u64 wd) := hnx _ hBw
    have hmin : min k 64 = k := by omega
    by_cases hlt : k < held m
    · cases hb : ebit wd k with
      | true =>
        have hb' : Go.bits .and .u64 (wd / 2 ^ k) 1 = 1 := by unfold ebit at hb; exact of_decide_eq_true hb
        obtain ⟨fn, tmps, assign, body, hy, hR⟩ := hY _ (k : Int) wr hJs (by have := ones_length wd k; omega)
        gi_wp2
        refine hR.mono ?_
        rintro e W3 (⟨rfl, hJ3, hk3⟩ | ⟨rfl, hJx3⟩)
        · gi_wp2
          go_roundw
          case rel => exact ⟨k + 1, by omega, by simp, by rw [ones_hit wd k hb]; exact hJ3, KpB_t Bw hnx hk3⟩
          case measure => simp [intOf]; omega
        · gi_wp2
          refine bodyPost_ret (results_none rfl _ _ _) rfl ?_
          exact ⟨⟨_, rfl⟩, .inr ⟨_, ⟨k + 1, by omega, (ones_hit wd k hb).symm⟩, hJx3⟩⟩
      | false =>
        have hb' : ¬ Go.bits .and .u64 (wd / 2 ^ k) 1 = 1 := by unfold ebit at hb; exact of_decide_eq_false hb
        gi_wp2
        refine ⟨fun _ h => (by cases h), ?_⟩
        gi_wp2
        go_roundw
        case rel => exact ⟨k + 1, by omega, by simp, by rw [ones_miss wd k hb]; exact hJs, hnx⟩
        case measure => simp [intOf]; omega
    · obtain rfl : k = held m := by omega
      gi_wp2
      go_end0
      exact ⟨⟨_, rfl⟩, .inl ⟨_, rfl, hJs⟩⟩
set_option maxHeartbeats 1000000 in
theorem each_in (n : Nat) (wd m : Int) (w : World) :
    CallsIn Fence.wide n Tryd.prog 40 #[.int .u64 wd, .int .i64 m] w fun e w' => e = .returned (.func (.func 45) #[] #[.pointer (some ⟨w.heap.size + 1, 0, none⟩), .pointer (some ⟨w.heap.size, 0, none⟩)]) ∧
      w' = (w.alloc (.cells #[.int .u64 wd] 22)).alloc (.cells #[.int .i64 m] 3) := by
  refine callsIn_of_wp Tryd.func40 rfl trivial ?_ rfl
  simp only [Tryd.ntmps40, List.size_toArray, List.length_cons, List.length_nil, Nat.reduceAdd, Nat.reduceSub, Array.replicate_succ, Array.replicate_zero, List.push_toArray, List.append_toArray, List.nil_append, List.cons_append]
  gi_wp2
  go_ret
  exact ⟨rfl, rfl⟩
theorem each_stops (n : Nat) (hn : 1 ≤ n) (Bm Bw : Nat) (m wd : Int) (w : World) (hm : Bm < w.heap.size) (hw : Bw < w.heap.size)
    (hBm : w.cell? ⟨Bm, 0, none⟩ = some (.int .i64 m)) (hBw : w.cell? ⟨Bw, 0, none⟩ = some (.int .u64 wd)) :
    SeqStopsK Fence.wide n Tryd.prog 45 #[.pointer (some ⟨Bm, 0, none⟩), .pointer (some ⟨Bw, 0, none⟩)] (fun x : Int => #[Value.int .i64 x]) (KpB Bw) (fun ys => ys = ones wd (held m)) (fun pre => ∃ k, k ≤ held m ∧ pre = ones wd k) 64 w := fun l J Jx W hW _ _ hY h0 =>
  each1_in n hn l Bm Bw m wd J Jx hY W ((hW.cell (p := ⟨Bm, 0, none⟩) hm).trans hBm) ((hW.cell (p := ⟨Bw, 0, none⟩) hw).trans hBw) h0
/-- The first of the places, or -1. -/
def firstOf (wd : Int) (k : Nat) : Int := ((ones wd k).head?).getD (-1)
set_option maxRecDepth 100000 in
set_option maxHeartbeats 4000000 in
theorem first_in (wd m : Int) (one : Bool) (w : World) :
    CallsIn Fence.wide 5 Tryd.prog 34 #[.int .u64 wd, .int .i64 m, .bool one] w fun e W' => e = .returned (.int .i64 (firstOf (if one = true then wd else Go.bits .xor .u64 IntKind.u64.max wd) (held m))) ∧ Below w.heap.size w W' := by
  have hs64 : IntKind.u64.signed = false := rfl
  refine callsIn_of_wp_marks Tryd.func34 rfl trivial ?_ rfl
  simp only [Tryd.ntmps34, List.size_toArray, List.length_cons, List.length_nil, Nat.reduceAdd, Nat.reduceSub, Array.replicate_succ, Array.replicate_zero, List.push_toArray, List.append_toArray, List.nil_append, List.cons_append]
  cases one with
  | true =>
    gi_wp2_with (refine ⟨trivial, ?_⟩; gi_at_call 40; refine (each_in (5 - 1) _ _ _).mono ?_; rintro e w' ⟨rfl, rfl⟩)
    have bR := Boxed.new w 3 (.int .i64 0)
    have bW := Boxed.new (w.alloc (.cells #[.int .i64 0] 3)) 22 (.int .u64 (wd))
    have bM := Boxed.new ((w.alloc (.cells #[.int .i64 0] 3)).alloc (.cells #[.int .u64 (wd)] 22)) 3 (.int .i64 m)
    rw [World.size_alloc] at bW
    rw [World.size_alloc, World.size_alloc] at bM
    have hB0 : Below w.heap.size w (((w.alloc (.cells #[.int .i64 0] 3)).alloc (.cells #[.int .u64 (wd)] 22)).alloc (.cells #[.int .i64 m] 3)) := (((Below.refl _ w).alloc (Nat.le_refl _) _).alloc (by simp) _).alloc (by simp; omega) _
    refine wpIn_rangeFunc_ownG rfl (by decide) (gf := 45) (lb := #[.pointer (some ⟨w.heap.size + 1 + 1, 0, none⟩), .pointer (some ⟨w.heap.size + 1, 0, none⟩)]) rfl trivial (enters_of Tryd.func45 (by kernel_rfl) rfl)
      (each_stops (5 - 1) (by decide) (w.heap.size + 1 + 1) (w.heap.size + 1) m (wd) _ (by simp) (by simp) bM.cell ((bW.alloc _).cell)) (KpB_t _) (fun W l o o' _ h1 h2 _ => KpB_b _ W l o o' h1 h2) (Below.refl _ _) (fun _ => rfl)
      (fun pre W => (pre = [] ∧ W.cell? ⟨w.heap.size, 0, none⟩ = some (.int .i64 0) ∧ W.frozen? ⟨w.heap.size, 0, none⟩ = false) ∧ Below w.heap.size w W)
      (fun c pre W => (c = .ret ∧ ∃ x, pre = [x] ∧ W.cell? ⟨w.heap.size, 0, none⟩ = some (.int .i64 x)) ∧ Below w.heap.size w W)
      (OwnFrom.and (Own.from (fun s A B row hs hg hr => ⟨hs.1, cell_kept hs.2.1 hg hr, (frozen_kept hs.2.1 hg hr).trans hs.2.2⟩) _) (ownFrom_below (Nat.le_refl _) (by simp; omega)))
      (fun c => OwnFrom.and (Own.from (fun s A B row hs hg hr => by obtain ⟨hc, x, e1, e4⟩ := hs; exact ⟨hc, x, e1, cell_kept e4 hg hr⟩) _) (ownFrom_below (Nat.le_refl _) (by simp; omega)))
      ⟨⟨rfl, ((bR.alloc _).alloc _).cell, ((bR.alloc _).alloc _).frozen⟩, hB0⟩
      (fun y => { tmps := #[.int .u64 wd, .int .i64 m, .bool true, undef, undef, undef, .pointer (some ⟨w.heap.size, 0, none⟩), .int .i64 y, .bool true, .bool false, undef, undef, .int .u64 wd, .int .i64 m, .func (.func 45) #[] #[.pointer (some ⟨w.heap.size + 1 + 1, 0, none⟩), .pointer (some ⟨w.heap.size + 1, 0, none⟩)], .int .i64 y, undef], defers := [] }) ?assign ?body ?done ?stop
    case assign =>
      intro l y W K hK
      gi_wp2
      exact hK
    case body =>
      rintro l pre y W ⟨⟨rfl, hcr, hfr⟩, hB⟩ _
      gi_wp2
      exact ⟨(KeepsOthers.setCell _ _ _).from _, ⟨rfl, y, rfl, World.cell?_setCell_same' _ _ _ (by rw [hcr]; rfl)⟩, hB.setCell (p := ⟨w.heap.size, 0, none⟩) (Nat.le_refl _) _⟩
    case done =>
      rintro D ys W hD hys ⟨⟨rfl, hcr, hfr⟩, hB⟩ hK
      have hf : firstOf (wd) (held m) = -1 := by unfold firstOf; rw [← hys]; rfl
      gi_wp2
      have hK' := (KeepsOthers.setCell W ⟨w.heap.size, 0, none⟩ (.int .i64 (-1))).same D _ hK rfl
      refine ⟨by simp, .inl ⟨_, _, rfl, run_takeDeferred hK', ?_⟩⟩
      have hc5 := cell_kept (World.cell?_setCell_same' W ⟨w.heap.size, 0, none⟩ (.int .i64 (-1)) (by rw [hcr]; rfl)) (grownBy_putObj' _ D (.deferred none)) (fun r e => by cases e; exact ⟨_, hK', rfl⟩)
      refine ⟨.int .i64 (-1), ?_, by first | rfl | rw [if_pos rfl, hf] | rw [if_neg (by decide), hf], (hB.setCell (p := ⟨w.heap.size, 0, none⟩) (Nat.le_refl _) _).trans (belowK_b (w := w) (Nat.le_refl _) _ D _ _ (by simp at hD; omega) hK' rfl rfl)⟩
      simp [results, Tryd.f34, go_sem, hc5]
    case stop =>
      rintro D c pre W hD ⟨k, hk, hpre⟩ ⟨⟨rfl, y, e1, hcr⟩, hB⟩ hK
      have hf : firstOf (wd) (held m) = y := by
        unfold firstOf
        obtain ⟨t, ht⟩ := ones_prefix (wd) k (held m) hk
        rw [← ht, ← hpre, e1]; rfl
      gi_wp2
      refine ⟨by simp, .inl ⟨_, _, rfl, run_takeDeferred hK, ?_⟩⟩
      have hc5 := cell_kept hcr (grownBy_putObj' _ D (.deferred none)) (fun r e => by cases e; exact ⟨_, hK, rfl⟩)
      refine ⟨.int .i64 y, ?_, by first | rfl | rw [if_pos rfl, hf] | rw [if_neg (by decide), hf], hB.trans (belowK_b (w := w) (Nat.le_refl _) W D _ _ (by simp at hD; omega) hK rfl rfl)⟩
      simp [results, Tryd.f34, go_sem, hc5]
  | false =>
    gi_wp2_with (refine ⟨trivial, ?_⟩; gi_at_call 40; refine (each_in (5 - 1) _ _ _).mono ?_; rintro e w' ⟨rfl, rfl⟩)
    have bR := Boxed.new w 3 (.int .i64 0)
    have bW := Boxed.new (w.alloc (.cells #[.int .i64 0] 3)) 22 (.int .u64 (Go.bits .xor .u64 IntKind.u64.max wd))
    have bM := Boxed.new ((w.alloc (.cells #[.int .i64 0] 3)).alloc (.cells #[.int .u64 (Go.bits .xor .u64 IntKind.u64.max wd)] 22)) 3 (.int .i64 m)
    rw [World.size_alloc] at bW
    rw [World.size_alloc, World.size_alloc] at bM
    have hB0 : Below w.heap.size w (((w.alloc (.cells #[.int .i64 0] 3)).alloc (.cells #[.int .u64 (Go.bits .xor .u64 IntKind.u64.max wd)] 22)).alloc (.cells #[.int .i64 m] 3)) := (((Below.refl _ w).alloc (Nat.le_refl _) _).alloc (by simp) _).alloc (by simp; omega) _
    refine wpIn_rangeFunc_ownG rfl (by decide) (gf := 45) (lb := #[.pointer (some ⟨w.heap.size + 1 + 1, 0, none⟩), .pointer (some ⟨w.heap.size + 1, 0, none⟩)]) rfl trivial (enters_of Tryd.func45 (by kernel_rfl) rfl)
      (each_stops (5 - 1) (by decide) (w.heap.size + 1 + 1) (w.heap.size + 1) m (Go.bits .xor .u64 IntKind.u64.max wd) _ (by simp) (by simp) bM.cell ((bW.alloc _).cell)) (KpB_t _) (fun W l o o' _ h1 h2 _ => KpB_b _ W l o o' h1 h2) (Below.refl _ _) (fun _ => rfl)
      (fun pre W => (pre = [] ∧ W.cell? ⟨w.heap.size, 0, none⟩ = some (.int .i64 0) ∧ W.frozen? ⟨w.heap.size, 0, none⟩ = false) ∧ Below w.heap.size w W)
      (fun c pre W => (c = .ret ∧ ∃ x, pre = [x] ∧ W.cell? ⟨w.heap.size, 0, none⟩ = some (.int .i64 x)) ∧ Below w.heap.size w W)
      (OwnFrom.and (Own.from (fun s A B row hs hg hr => ⟨hs.1, cell_kept hs.2.1 hg hr, (frozen_kept hs.2.1 hg hr).trans hs.2.2⟩) _) (ownFrom_below (Nat.le_refl _) (by simp; omega)))
      (fun c => OwnFrom.and (Own.from (fun s A B row hs hg hr => by obtain ⟨hc, x, e1, e4⟩ := hs; exact ⟨hc, x, e1, cell_kept e4 hg hr⟩) _) (ownFrom_below (Nat.le_refl _) (by simp; omega)))
      ⟨⟨rfl, ((bR.alloc _).alloc _).cell, ((bR.alloc _).alloc _).frozen⟩, hB0⟩
      (fun y => { tmps := #[.int .u64 (Go.bits .xor .u64 IntKind.u64.max wd), .int .i64 m, .bool false, undef, undef, undef, .pointer (some ⟨w.heap.size, 0, none⟩), .int .i64 y, .bool false, .bool true, .int .u64 wd, .int .u64 (Go.bits .xor .u64 IntKind.u64.max wd), .int .u64 (Go.bits .xor .u64 IntKind.u64.max wd), .int .i64 m, .func (.func 45) #[] #[.pointer (some ⟨w.heap.size + 1 + 1, 0, none⟩), .pointer (some ⟨w.heap.size + 1, 0, none⟩)], .int .i64 y, undef], defers := [] }) ?assign ?body ?done ?stop
    case assign =>
      intro l y W K hK
      gi_wp2
      exact hK
    case body =>
      rintro l pre y W ⟨⟨rfl, hcr, hfr⟩, hB⟩ _
      gi_wp2
      exact ⟨(KeepsOthers.setCell _ _ _).from _, ⟨rfl, y, rfl, World.cell?_setCell_same' _ _ _ (by rw [hcr]; rfl)⟩, hB.setCell (p := ⟨w.heap.size, 0, none⟩) (Nat.le_refl _) _⟩
    case done =>
      rintro D ys W hD hys ⟨⟨rfl, hcr, hfr⟩, hB⟩ hK
      have hf : firstOf (Go.bits .xor .u64 IntKind.u64.max wd) (held m) = -1 := by unfold firstOf; rw [← hys]; rfl
      gi_wp2
      have hK' := (KeepsOthers.setCell W ⟨w.heap.size, 0, none⟩ (.int .i64 (-1))).same D _ hK rfl
      refine ⟨by simp, .inl ⟨_, _, rfl, run_takeDeferred hK', ?_⟩⟩
      have hc5 := cell_kept (World.cell?_setCell_same' W ⟨w.heap.size, 0, none⟩ (.int .i64 (-1)) (by rw [hcr]; rfl)) (grownBy_putObj' _ D (.deferred none)) (fun r e => by cases e; exact ⟨_, hK', rfl⟩)
      refine ⟨.int .i64 (-1), ?_, by first | rfl | rw [if_pos rfl, hf] | rw [if_neg (by decide), hf], (hB.setCell (p := ⟨w.heap.size, 0, none⟩) (Nat.le_refl _) _).trans (belowK_b (w := w) (Nat.le_refl _) _ D _ _ (by simp at hD; omega) hK' rfl rfl)⟩
      simp [results, Tryd.f34, go_sem, hc5]
    case stop =>
      rintro D c pre W hD ⟨k, hk, hpre⟩ ⟨⟨rfl, y, e1, hcr⟩, hB⟩ hK
      have hf : firstOf (Go.bits .xor .u64 IntKind.u64.max wd) (held m) = y := by
        unfold firstOf
        obtain ⟨t, ht⟩ := ones_prefix (Go.bits .xor .u64 IntKind.u64.max wd) k (held m) hk
        rw [← ht, ← hpre, e1]; rfl
      gi_wp2
      refine ⟨by simp, .inl ⟨_, _, rfl, run_takeDeferred hK, ?_⟩⟩
      have hc5 := cell_kept hcr (grownBy_putObj' _ D (.deferred none)) (fun r e => by cases e; exact ⟨_, hK, rfl⟩)
      refine ⟨.int .i64 y, ?_, by first | rfl | rw [if_pos rfl, hf] | rw [if_neg (by decide), hf], hB.trans (belowK_b (w := w) (Nat.le_refl _) W D _ _ (by simp at hD; omega) hK rfl rfl)⟩
      simp [results, Tryd.f34, go_sem, hc5]
theorem first_calls (wd m : Int) (one : Bool) (w : World) :
    Calls Tryd.prog 34 #[.int .u64 wd, .int .i64 m, .bool one] w fun e W' => e = .returned (.int .i64 (firstOf (if one = true then wd else Go.bits .xor .u64 IntKind.u64.max wd) (held m))) ∧ Below w.heap.size w W' := callsIn_wide.1 (first_in wd m one w)
end Go.Proofs.YtilnnkjlddmhbaaDoorX
