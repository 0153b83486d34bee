/- slices.Backward over a list of entries: its iterator. -/
import Derived.RangeFuncNested
import Derived.RangeFuncBound
import Derived.RangeFuncCalls
import Derived.RangeFuncLeaves
import Derived.RangeFuncBox
import Derived.Shelf.Abstract
import Derived.Shelf.RegionOpen
import Derived.WalkKit
import Derived.OwnWalkIn
import Derived.TacticsInMore
import Derived.LoopNIn
import Derived.LoopIn
import Derived.Maps.AppendAt
import Derived.Maps.OwnIn
import Derived.Deep.Onto
import Derived.Test.YtinbediigibolaaRange2
import Derived.Test.YtinbediigibolaaWWords
import Derived.Test.YtinbediigibolaaWMore
import Derived.Test.YtinbediigibolaaProg
namespace Go.Proofs.YtinbediigibolaaX
open Go.RowKit Go.Shelf Go.Proofs.YtinbediigibolaaW.PrintWords Go.Proofs.YtinbediigibolaaW.PrintMore
set_option linter.unusedVariables false
set_option linter.unusedSimpArgs false
attribute [local go_sem] Oper.semAt_some max2_int min2_int
/-- What the iterator asks of a round: its variable lies on, and so do the list's cells. -/
def KpE (b m : Nat) (ad : Addr) (W W' : World) : Prop := (∀ v, W.cell? ⟨b, 0, none⟩ = some v → W'.cell? ⟨b, 0, none⟩ = some v) ∧ ∀ i, i < 2 * m → ∀ v, W.cell? (ad.add i) = some v → W'.cell? (ad.add i) = some v
theorem KpE_t (b m : Nat) (ad : Addr) {A B C : World} (h : KpE b m ad A B) (k : KpE b m ad B C) : KpE b m ad A C := ⟨fun v hv => k.1 v (h.1 v hv), fun i hi v hv => k.2 i hi v (h.2 i hi v hv)⟩
def lastFirst (m k : Nat) : List Nat := (List.range k).map fun j => m - 1 - j
theorem lastFirst_hit (m k : Nat) : lastFirst m (k + 1) = lastFirst m k ++ [m - 1 - k] := by simp [lastFirst, List.range_succ]
theorem lastFirst_len (m k : Nat) : (lastFirst m k).length = k := by simp [lastFirst]
set_option maxRecDepth 100000 in
set_option maxHeartbeats 4000000 in
theorem back1_in (n : Nat) (hn : 1 ≤ n) (l B1 : Nat) (ad : Addr) (A : Option Addr) (m c : Nat) (hA : 0 < m → A = some ad) (hm : m ≤ 1000000) (va vb : Nat → Value) (J Jx : List Nat → World → Prop)
    (hY : ∀ pre x W, J pre W → (pre.length < m ∧ x = m - 1 - pre.length) → YieldAt Fence.wide (n - 1) Try.prog l #[.int .i64 (x : Int), .agg #[va x, vb x]] W fun e W' =>
      (e = .returned (.bool true) ∧ J (pre ++ [x]) W' ∧ KpE B1 m ad W W') ∨ (e = .returned (.bool false) ∧ Jx (pre ++ [x]) W'))
    (W : World) (hB1 : W.cell? ⟨B1, 0, none⟩ = some (.slice A m c)) (hcl : ∀ i, i < m → W.cell? (ad.add (i * 2)) = some (va i) ∧ W.cell? (ad.add (i * 2 + 1)) = some (vb i)) (h0 : J [] W) :
    CallsIn Fence.wide n Try.prog 38 #[.func (.yield l) #[] #[], .pointer (some ⟨B1, 0, none⟩)] W fun e W' => (∃ v, e = .returned v) ∧
      ((∃ ys, ys = lastFirst m m ∧ J ys W') ∨ (∃ pre, (∃ k, k ≤ m ∧ pre = lastFirst m k) ∧ Jx pre W')) := by
  refine callsIn_of_wp Try.func38 rfl trivial ?_ rfl
  simp only [Try.ntmps38, List.size_toArray, List.length_cons, List.length_nil, Nat.reduceAdd, Nat.reduceSub, Array.replicate_succ, Array.replicate_zero, List.push_toArray, List.append_toArray, List.nil_append, List.cons_append]
  have hu := Try.underlying34
  have hu2 := Try.underlying25
  gi_wp2
  gi_loopw [3] (fun i wr => ∃ k : Nat, k ≤ m ∧ i = .int .i64 ((m : Int) - 1 - k) ∧ J (lastFirst m k) wr ∧ KpE B1 m ad W wr)
    (fun i _ => (intOf i + 1).toNat)
  case atStart => exact ⟨0, Nat.zero_le _, by simp, h0, ⟨fun _ h => h, fun _ _ _ h => h⟩⟩
  case round =>
    obtain ⟨k, hk, rfl, hJs, hnx⟩ := hrel
    have hc1 := hnx.1 _ hB1
    by_cases hlt : k < m
    · obtain rfl := hA (by omega)
      obtain ⟨x, hx⟩ : ∃ x, x = m - 1 - k := ⟨_, rfl⟩
      have hxi : (m : Int) - 1 - k = (x : Int) := by omega
      rw [hxi]
      have g0 := hnx.2 (x * 2) (by omega) _ (hcl x (by omega)).1
      have g1 : wr.cell? ⟨(ad.add (x * 2)).block, (ad.add (x * 2)).off + 1, none⟩ = some (vb x) := by rw [← add_field _ _ 1 (by omega)]; exact hnx.2 (x * 2 + 1) (by omega) _ (hcl x (by omega)).2
      obtain ⟨fn, tmps, assign, body, hy, hR⟩ := hY _ x wr hJs ⟨by rw [lastFirst_len]; exact hlt, by rw [lastFirst_len]; exact hx⟩
      have hxm : x < m := by omega
      have HX := Aside0.mk hx
      have HXI := Aside0.mk hxi
      clear hx hxi
      gi_wp2
      refine hR.mono ?_
      rintro e W3 (⟨rfl, hJ3, hk3⟩ | ⟨rfl, hJx3⟩)
      · gi_wp2
        go_roundw
        case rel => exact ⟨k + 1, by omega, by have := HX.out; go_num, by rw [lastFirst_hit, ← HX.out]; exact hJ3, KpE_t B1 m ad hnx hk3⟩
        case measure => simp [intOf]
      · gi_wp2
        refine bodyPost_ret (results_none rfl _ _ _) rfl ?_
        exact ⟨⟨_, rfl⟩, .inr ⟨_, ⟨k + 1, by omega, by rw [lastFirst_hit, ← HX.out]⟩, hJx3⟩⟩
    · obtain rfl : k = m := by omega
      gi_wp2
      go_end0
      exact ⟨⟨_, rfl⟩, .inl ⟨_, rfl, hJs⟩⟩
end Go.Proofs.YtinbediigibolaaX
