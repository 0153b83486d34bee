/- slices.Chunk over whole pairs of words: its iterator. -/
import Derived.RangeFuncNested
import Derived.RangeFuncBound
import Derived.RangeFuncCalls
import Derived.RangeFuncLeaves
import Derived.RangeFuncBox
import Derived.Shelf.Abstract
import Derived.Shelf.RegionOpen
import Derived.WalkKit
import Derived.OwnWalkIn
import Derived.TacticsInMore
import Derived.LoopNIn
import Derived.LoopIn
import Derived.Maps.AppendAt
import Derived.Deep.Onto
import Derived.Test.YtnoclgnlmkpkbaaRange
import Derived.Test.YtnoclgnlmkpkbaaWWords
import Derived.Test.YtnoclgnlmkpkbaaWMore
import Derived.Test.YtnoclgnlmkpkbaaProg
namespace Go.Proofs.YtnoclgnlmkpkbaaX
open Go.RowKit Go.Shelf Go.Proofs.YtnoclgnlmkpkbaaW.PrintWords Go.Proofs.YtnoclgnlmkpkbaaW.PrintMore
attribute [local go_sem] Oper.semAt_some max2_int min2_int
/-- What the iterator asks of a round: its two variables lie on. -/
def KpC (b c : Nat) (W W' : World) : Prop := (∀ v, W.cell? ⟨b, 0, none⟩ = some v → W'.cell? ⟨b, 0, none⟩ = some v) ∧ ∀ v, W.cell? ⟨c, 0, none⟩ = some v → W'.cell? ⟨c, 0, none⟩ = some v
theorem KpC_t (b c : Nat) {A B C : World} (h : KpC b c A B) (k : KpC b c B C) : KpC b c A C := ⟨fun v hv => k.1 v (h.1 v hv), fun v hv => k.2 v (h.2 v hv)⟩
theorem KpC_b (b c : Nat) (W : World) (l : Nat) (o o' : Obj) (hl : W.heap[l]? = some o) (hc : o.isCells = false) : KpC b c W (W.putObj l o') :=
  ⟨fun _v hv => cell_kept hv (grownBy_putObj' W l o') (fun r e => by cases e; exact ⟨o, hl, hc⟩), fun _v hv => cell_kept hv (grownBy_putObj' W l o') (fun r e => by cases e; exact ⟨o, hl, hc⟩)⟩
theorem KpC_below {b c n : Nat} {W W' : World} (h : Below n W W') (hb : b < n) (hc : c < n) : KpC b c W W' := ⟨fun _v hv => (h.cell (p := ⟨b, 0, none⟩) hb).trans hv, fun _v hv => (h.cell (p := ⟨c, 0, none⟩) hc).trans hv⟩
theorem range_hit (k : Nat) : List.range (k + 1) = List.range k ++ [k] := List.range_succ
def TC (A B : World) : Prop := ∃ n, B = A.drewN n
set_option maxRecDepth 100000 in
set_option maxHeartbeats 4000000 in
theorem chunk1_in (n : Nat) (hn : 1 ≤ n) (l B1 B2 : Nat) (ad : Addr) (A : Option Addr) (m c : Nat) (hA : 0 < m → A = some ad) (hc : 2 * m ≤ c) (hm : 2 * m ≤ 1000000) (J Jx : List Nat → World → Prop)
    (hT : ∀ pre A B, J pre A → TC A B → J pre B)
    (hY : ∀ pre x W, J pre W → (x = pre.length ∧ x < m) → YieldAt Fence.wide (n - 1) Try.prog l #[.slice (some (ad.add (2 * x))) 2 2] W fun e W' =>
      (e = .returned (.bool true) ∧ J (pre ++ [x]) W' ∧ KpC B1 B2 W W') ∨ (e = .returned (.bool false) ∧ Jx (pre ++ [x]) W'))
    (W : World) (hB1 : W.cell? ⟨B1, 0, none⟩ = some (.slice A (2 * m) c)) (hB2 : W.cell? ⟨B2, 0, none⟩ = some (.int .i64 2)) (h0 : J [] W) :
    CallsIn Fence.wide n Try.prog 43 #[.func (.yield l) #[] #[], .pointer (some ⟨B1, 0, none⟩), .pointer (some ⟨B2, 0, none⟩)] W fun e W' => (∃ v, e = .returned v) ∧
      ((∃ ys, ys = List.range m ∧ J ys W') ∨ (∃ pre, (∃ k, k ≤ m ∧ pre = List.range k) ∧ Jx pre W')) := by
  refine callsIn_of_wp Try.func43 rfl trivial ?_ rfl
  simp only [Try.ntmps43, List.size_toArray, List.length_cons, List.length_nil, Nat.reduceAdd, Nat.reduceSub, Array.replicate_succ, Array.replicate_zero, List.push_toArray, List.append_toArray, List.nil_append, List.cons_append]
  have hu := Try.underlying24
  gi_wp2
  gi_loopw [4] (fun i wr => ∃ k : Nat, k ≤ m ∧ i = .int .i64 ((2 * k : Nat) : Int) ∧ J (List.range k) wr ∧ KpC B1 B2 W wr)
    (fun i _ => 2 * m - (intOf i).toNat)
  case atStart => exact ⟨0, Nat.zero_le _, rfl, h0, ⟨fun _ h => h, fun _ h => h⟩⟩
  case round =>
    obtain ⟨k, hk, rfl, hJs, hnx⟩ := hrel
    have hc1 := hnx.1 _ hB1
    have hc2 := hnx.2 _ hB2
    by_cases hlt : k < m
    · obtain rfl := hA (by omega)
      gi_wp2
      refine wpIn_wide.2 ?_
      go_quiet (fail)
      have hJq : J (List.range k) (wr.drewN nq) := hT _ _ _ hJs ⟨nq, rfl⟩
      have hnq : KpC B1 B2 W (wr.drewN nq) := hnx
      clear hJs hnx hc1 hc2
      generalize wr.drewN nq = wq at hJq hnq ⊢
      have hc1 := hnq.1 _ hB1
      have hc2 := hnq.2 _ hB2
      obtain ⟨fn, tmps, assign, body, hy, hR⟩ := hY _ k wq hJq ⟨by simp, hlt⟩
      gi_wp2
      refine hR.mono ?_
      rintro e W3 (⟨rfl, hJ3, hk3⟩ | ⟨rfl, hJx3⟩)
      · have hc2 := hk3.2 _ hc2
        gi_wp2
        go_roundw
        case rel => exact ⟨k + 1, by omega, by go_num, by rw [range_hit]; exact hJ3, KpC_t B1 B2 hnq hk3⟩
        case measure => simp [intOf]; omega
      · gi_wp2
        refine bodyPost_ret (results_none rfl _ _ _) rfl ?_
        exact ⟨⟨_, rfl⟩, .inr ⟨_, ⟨k + 1, by omega, (range_hit k).symm⟩, hJx3⟩⟩
    · obtain rfl : k = m := by omega
      gi_wp2
      go_end0
      exact ⟨⟨_, rfl⟩, .inl ⟨_, rfl, hJs⟩⟩
set_option maxHeartbeats 1000000 in
theorem chunk_in (n : Nat) (A : Option Addr) (k c : Nat) (w : World) :
    CallsIn Fence.wide n Try.prog 30 #[.slice A k c, .int .i64 2] w fun e w' => e = .returned (.func (.func 43) #[] #[.pointer (some ⟨w.heap.size, 0, none⟩), .pointer (some ⟨w.heap.size + 1, 0, none⟩)]) ∧
      w' = (w.alloc (.cells #[.slice A k c] 24)).alloc (.cells #[.int .i64 2] 3) := by
  refine callsIn_of_wp Try.func30 rfl trivial ?_ rfl
  simp only [Try.ntmps30, List.size_toArray, List.length_cons, List.length_nil, Nat.reduceAdd, Nat.reduceSub, Array.replicate_succ, Array.replicate_zero, List.push_toArray, List.append_toArray, List.nil_append, List.cons_append]
  gi_wp2
  go_ret
  exact ⟨rfl, rfl⟩
theorem TC_keeps (n : Nat) (A B : World) (h : TC A B) : KeepsFrom n A B := by
  obtain ⟨k, rfl⟩ := h
  have h1 : KeepsOthers A (A.drewN k) := ⟨Nat.le_refl A.heap.size, fun i o (hi : A.heap[i]? = some o) _ => hi⟩
  exact h1.from n
theorem chunk_seq (n : Nat) (hn : 1 ≤ n) (B1 B2 : Nat) (ad : Addr) (A : Option Addr) (m c : Nat) (hA : 0 < m → A = some ad) (hc : 2 * m ≤ c) (hm : 2 * m ≤ 1000000) (w : World) (h1 : B1 < w.heap.size) (h2 : B2 < w.heap.size)
    (hB1 : w.cell? ⟨B1, 0, none⟩ = some (.slice A (2 * m) c)) (hB2 : w.cell? ⟨B2, 0, none⟩ = some (.int .i64 2)) :
    SeqT Fence.wide n Try.prog 43 #[.pointer (some ⟨B1, 0, none⟩), .pointer (some ⟨B2, 0, none⟩)] (fun x : Nat => #[.slice (some (ad.add (2 * x))) 2 2]) (KpC B1 B2) TC (fun pre x _ => x = pre.length ∧ x < m) (fun ys _ => ys = List.range m) (fun pre _ => ∃ k, k ≤ m ∧ pre = List.range k) w :=
  fun l J Jx W hW _ _ hT hY h0 => (chunk1_in n hn l B1 B2 ad A m c hA hc hm J Jx hT hY W ((hW.cell (p := ⟨B1, 0, none⟩) h1).trans hB1) ((hW.cell (p := ⟨B2, 0, none⟩) h2).trans hB2) h0).mono fun _ _ h => ⟨h.1, h.2.elim (fun ⟨ys, e, hj⟩ => .inl ⟨ys, e, hj⟩) (fun ⟨pre, e, hj⟩ => .inr ⟨pre, e, hj⟩)⟩
end Go.Proofs.YtnoclgnlmkpkbaaX
