/- No two things of a pool have a word in common, and all are the pool's: GeoApart returns true for every input. No condition. -/
import Derived.Test.YtnkigdcicnhepaaPGeoApartx4
import Derived.OpenShut
namespace Go.Proofs.Ytnkigdcicnhepaa.Pure
open Go.RowKit Go.Proofs.Ytnkigdcicnhepaa.PGeoApart Go.Proofs.YtnkigdcicnhepaaW.PrintWords Go.Proofs.YtnkigdcicnhepaaW.PrintLast

theorem w64 {x : Int} (h : -9223372036854775808 ≤ x ∧ x ≤ 9223372036854775807) : wrap64 x = x := by unfold wrap64; omega
theorem tdiv_nn (x n : Int) (h : 0 ≤ x) : Int.tdiv x n = x / n := Int.tdiv_eq_ediv_of_nonneg h
theorem tmodn (x n : Int) (h : 0 ≤ x) : Int.tmod x n = x % n := Int.tmod_eq_emod_of_nonneg h

def chunksZ (W L : Int) : Int := if 1 ≤ L ∧ L ≤ 64 ∧ 1 ≤ W ∧ W ≤ 65536 ∧ 10 + 73 * L ≤ W then (W - (10 + 73 * L)) / 33 else 0

theorem can_eq (W L : Int) : geo_can.f W L = some (decide (1 ≤ L ∧ L ≤ 64 ∧ 1 ≤ W ∧ W ≤ 65536)) := by
  unfold geo_can.f
  by_cases h1 : L ≥ 1
  · rw [if_pos h1]
    by_cases h2 : L ≤ 64
    · rw [if_pos h2]
      by_cases h3 : W ≥ 1
      · rw [if_pos h3]; congr 1; rw [decide_eq_decide]; omega
      · rw [if_neg h3]; congr 1; symm; rw [decide_eq_false_iff_not]; omega
    · rw [if_neg h2]; congr 1; symm; rw [decide_eq_false_iff_not]; omega
  · rw [if_neg h1]; congr 1; symm; rw [decide_eq_false_iff_not]; omega

theorem table_eq (W L : Int) (h1 : 1 ≤ L) (h2 : L ≤ 64) : geo_table.f W L = some (10 + 73 * L) := by
  unfold geo_table.f geo_logs.f
  simp only [Option.bind_some]
  rw [w64 (x := 10 + L) (by omega), w64 (x := L * 72) (by omega), w64 (by omega)]
  congr 1; omega

theorem chunks_eq (W L : Int) : geo_Chunks.f W L = some (chunksZ W L) := by
  unfold geo_Chunks.f
  rw [can_eq]; simp only [Option.bind_some]
  by_cases h : 1 ≤ L ∧ L ≤ 64 ∧ 1 ≤ W ∧ W ≤ 65536
  · rw [if_pos (decide_eq_true h), table_eq _ _ h.1 h.2.1]; simp only [Option.bind_some]
    rw [w64 (x := W - (10 + 73 * L)) (by omega)]
    congr 1; unfold chunksZ
    by_cases hp : 10 + 73 * L ≤ W
    · rw [if_pos (by omega), tdiv_nn _ _ (by omega), w64 (by omega)]; unfold mx; split <;> omega
    · rw [if_neg (by omega)]
      obtain ⟨y, hy⟩ : ∃ y, W - (10 + 73 * L) = -y := ⟨-(W - (10 + 73 * L)), by omega⟩
      rw [hy, Int.neg_tdiv, tdiv_nn _ _ (by omega), w64 (by omega)]; unfold mx; split <;> omega
  · rw [if_neg (by simpa using h)]; congr 1; unfold chunksZ; rw [if_neg (by omega)]

theorem right_eq (W L : Int) : geo_Right.f W L = some (decide (0 < chunksZ W L)) := by
  unfold geo_Right.f; rw [chunks_eq]; rfl

theorem awake_eq : lockfastlaw05_awake.f = some true := by decide +kernel

theorem chunksZ_le (W L : Int) : 0 ≤ chunksZ W L ∧ chunksZ W L ≤ 1984 := by unfold chunksZ; split <;> omega


theorem heap_eq (W L : Int) (h : 0 < chunksZ W L) : geo_heap.f W L = some (10 + 73 * L + chunksZ W L) := by
  have hb := chunksZ_le W L
  have hL : 1 ≤ L ∧ L ≤ 64 := by unfold chunksZ at h; split at h <;> omega
  unfold geo_heap.f
  rw [table_eq _ _ hL.1 hL.2, chunks_eq]; simp only [Option.bind_some]
  rw [w64 (by omega)]


theorem chunk_eq (W L i : Int) (h : 0 < chunksZ W L) : geo_Chunk.f W L i = some (if 0 ≤ i ∧ i < chunksZ W L then (10 + 73 * L + chunksZ W L + i * 32, 32) else (0, 0)) := by
  have hb := chunksZ_le W L
  have hL : 1 ≤ L ∧ L ≤ 64 := by unfold chunksZ at h; split at h <;> omega
  unfold geo_Chunk.f
  by_cases h1 : i < 0
  · rw [if_pos h1, if_neg (by omega)]
  · rw [if_neg h1, chunks_eq]; simp only [Option.bind_some]
    by_cases h2 : i ≥ chunksZ W L
    · rw [if_pos h2, if_neg (by omega)]
    · rw [if_neg h2, heap_eq _ _ h, if_pos (by omega)]; simp only [Option.bind_some]
      rw [w64 (x := i * 32) (by omega), w64 (by omega)]

theorem small_eq (a b c : Int) (ha : 0 ≤ a ∧ a ≤ 255) (hb : 0 ≤ b ∧ b ≤ 255) (hc : 0 ≤ c ∧ c ≤ 255) :
    lockfastref05_Small.f a b c = some (10 + 73 * (1 + a % 64) + 33 * (1 + b % 200) + c % 33, 1 + a % 64) := by
  unfold lockfastref05_Small.f
  rw [tmodn _ _ ha.1, tmodn _ _ hb.1, tmodn _ _ hc.1, w64 (x := a % 64) (by omega), w64 (x := b % 200) (by omega), w64 (x := c % 33) (by omega), w64 (x := 1 + a % 64) (by omega), w64 (x := 1 + b % 200) (by omega), w64 (x := 73 * (1 + a % 64)) (by omega), w64 (x := 10 + 73 * (1 + a % 64)) (by omega), w64 (x := 33 * (1 + b % 200)) (by omega), w64 (x := 10 + 73 * (1 + a % 64) + 33 * (1 + b % 200)) (by omega), w64 (by omega)]

theorem small_chunks (a b c : Int) : chunksZ (10 + 73 * (1 + a % 64) + 33 * (1 + b % 200) + c % 33) (1 + a % 64) = 1 + b % 200 := by
  unfold chunksZ; rw [if_pos (by omega)]; omega

theorem lane_eq (W L i : Int) : geo_lane.f W L i = some (decide (0 < chunksZ W L ∧ 0 ≤ i ∧ i < L)) := by
  unfold geo_lane.f; rw [right_eq]; simp only [Option.bind_some]
  by_cases h : 0 < chunksZ W L
  · rw [if_pos (decide_eq_true h)]
    by_cases h1 : i ≥ 0
    · rw [if_pos h1]; congr 1; rw [decide_eq_decide]; omega
    · rw [if_neg h1]; congr 1; symm; rw [decide_eq_false_iff_not]; omega
  · rw [if_neg (by simpa using h)]; congr 1; symm; rw [decide_eq_false_iff_not]; omega

theorem logs_eq (W L : Int) (h1 : 1 ≤ L) (h2 : L ≤ 64) : geo_logs.f W L = some (10 + L) := by
  unfold geo_logs.f; rw [w64 (by omega)]

section
variable (W L n : Int) (hn : chunksZ W L = n) (h0 : 0 < n) (hL : 1 ≤ L ∧ L ≤ 64) (hW1 : 10 + 73 * L + 33 * n ≤ W) (hW2 : W ≤ 10 + 73 * L + 33 * n + 32) (hnn : n ≤ 200)
include hn h0 hL

theorem mark_eq (i : Int) (hi : 0 ≤ i ∧ i < L) : geo_Mark.f W L i = some (10 + i) := by
  unfold geo_Mark.f; rw [lane_eq, hn]; simp only [Option.bind_some]
  rw [if_pos (decide_eq_true ⟨h0, hi⟩), w64 (by omega)]

omit h0 hL in
theorem mark_no : geo_Mark.f W L L = some (-1) := by
  unfold geo_Mark.f; rw [lane_eq, hn]; simp only [Option.bind_some]
  rw [if_neg (by simp)]

theorem log_eq (i : Int) (hi : 0 ≤ i ∧ i < L) : geo_Log.f W L i = some (10 + L + i * 72, 32) := by
  unfold geo_Log.f; rw [lane_eq, hn]; simp only [Option.bind_some]
  rw [if_pos (decide_eq_true ⟨h0, hi⟩), logs_eq _ _ hL.1 hL.2]; simp only [Option.bind_some]
  rw [w64 (x := i * 72) (by omega), w64 (x := 10 + L + i * 72) (by omega), w64 (by omega)]

theorem redo_eq (i : Int) (hi : 0 ≤ i ∧ i < L) : geo_Redo.f W L i = some (10 + L + i * 72 + 32, 40) := by
  unfold geo_Redo.f; rw [lane_eq, hn]; simp only [Option.bind_some]
  rw [if_pos (decide_eq_true ⟨h0, hi⟩), logs_eq _ _ hL.1 hL.2]; simp only [Option.bind_some]
  rw [w64 (x := i * 72) (by omega), w64 (x := 10 + L + i * 72) (by omega), w64 (by omega)]

theorem table2_eq : geo_Table.f W L = some (10 + 73 * L, n) := by
  unfold geo_Table.f; rw [right_eq, hn]; simp only [Option.bind_some]
  rw [if_pos (decide_eq_true h0), table_eq _ _ hL.1 hL.2, chunks_eq, hn]; rfl

include hW1 hW2 hnn
theorem l2_eq (d : Nat) : ∀ (k : Nat) (i : Int), 0 ≤ i → i + d = n → d < k → lockfastlaw05_GeoApart.l2 k true (10 + 73 * L + n + i * 32) i W L (10 + 73 * L) n = some true := by
  induction d with
  | zero =>
    intro k i hi hd hk
    obtain ⟨k, rfl⟩ : ∃ m, k = m + 1 := ⟨k - 1, by omega⟩
    simp only [lockfastlaw05_GeoApart.l2]
    rw [if_neg (by omega), if_pos trivial, if_pos (by omega), w64 (by omega), if_pos (by omega), mark_no W L n hn]
    simp only [Option.bind_some]
    rw [if_pos trivial, chunk_eq _ _ _ (by omega), hn, if_neg (by omega)]; rfl
  | succ d ih =>
    intro k i hi hd hk
    obtain ⟨k, rfl⟩ : ∃ m, k = m + 1 := ⟨k - 1, by omega⟩
    simp only [lockfastlaw05_GeoApart.l2]
    rw [if_pos (by omega), chunk_eq _ _ _ (by omega), hn, if_pos (by omega)]
    simp only [Option.bind_some]
    rw [if_pos trivial, if_pos trivial, w64 (x := i + 1) (by omega), w64 (x := 10 + 73 * L + n + i * 32 + 32) (by omega)]
    have := ih k (i + 1) (by omega) (by omega) (by omega)
    rw [show 10 + 73 * L + n + i * 32 + 32 = 10 + 73 * L + n + (i + 1) * 32 by omega]; exact this

theorem l1_eq (d : Nat) : ∀ (k : Nat) (i : Int), 0 ≤ i → i + d = L → d + 300 < k → lockfastlaw05_GeoApart.l1 k true (10 + L + i * 72) i W L = some true := by
  induction d with
  | zero =>
    intro k i hi hd hk
    obtain ⟨k, rfl⟩ : ∃ m, k = m + 1 + 1 := ⟨k - 2, by omega⟩
    rw [lockfastlaw05_GeoApart.l1]
    rw [if_neg (by omega), table2_eq W L n hn h0 hL]
    simp only [Option.bind_some]
    rw [if_pos (by omega), chunks_eq, hn]
    simp only [Option.bind_some, bne_self_eq_false]
    rw [lockfastlaw05_GeoApart.j2, if_neg (by simp), w64 (by omega)]
    have := l2_eq W L n hn h0 hL hW1 hW2 hnn n.toNat k 0 (by omega) (by omega) (by omega)
    simpa using this
  | succ d ih =>
    intro k i hi hd hk
    obtain ⟨k, rfl⟩ : ∃ m, k = m + 1 := ⟨k - 1, by omega⟩
    simp only [lockfastlaw05_GeoApart.l1]
    rw [if_pos (by omega), log_eq W L n hn h0 hL i (by omega), redo_eq W L n hn h0 hL i (by omega)]
    simp only [Option.bind_some]
    rw [if_pos trivial, if_pos trivial, w64 (x := 10 + L + i * 72 + 32) (by omega), if_pos rfl, if_pos trivial, w64 (x := i + 1) (by omega), w64 (x := 10 + L + i * 72 + 32 + 40) (by omega)]
    have := ih k (i + 1) (by omega) (by omega) (by omega)
    rw [show 10 + L + i * 72 + 32 + 40 = 10 + L + (i + 1) * 72 by omega]; exact this

theorem l0_eq (d : Nat) : ∀ (k : Nat) (i : Int), 0 ≤ i → i + d = L → d + 400 < k → lockfastlaw05_GeoApart.l0 k true (10 + i) i W L = some true := by
  induction d with
  | zero =>
    intro k i hi hd hk
    obtain ⟨k, rfl⟩ : ∃ m, k = m + 1 := ⟨k - 1, by omega⟩
    simp only [lockfastlaw05_GeoApart.l0]
    rw [if_neg (by omega)]
    have := l1_eq W L n hn h0 hL hW1 hW2 hnn L.toNat k 0 (by omega) (by omega) (by omega)
    rw [show 10 + i = 10 + L + 0 * 72 by omega]; exact this
  | succ d ih =>
    intro k i hi hd hk
    obtain ⟨k, rfl⟩ : ∃ m, k = m + 1 := ⟨k - 1, by omega⟩
    simp only [lockfastlaw05_GeoApart.l0]
    rw [if_pos (by omega), mark_eq W L n hn h0 hL i (by omega)]
    simp only [Option.bind_some]
    rw [if_pos trivial, w64 (x := i + 1) (by omega), w64 (x := 10 + i + 1) (by omega)]
    have := ih k (i + 1) (by omega) (by omega) (by omega)
    rw [show 10 + i + 1 = 10 + (i + 1) by omega]; exact this
end

theorem GeoApart : lockfastlaw05_GeoApart.Pure := by
  intro a b c ha hb hc
  replace ha := bounds_u8 ha; replace hb := bounds_u8 hb; replace hc := bounds_u8 hc
  refine ⟨1000, ?_⟩
  unfold lockfastlaw05_GeoApart.f
  rw [awake_eq, small_eq a b c ha hb hc]
  simp only [Option.bind_some]
  have hn := small_chunks a b c
  exact l0_eq _ _ _ hn (by omega) (by omega) (by omega) (by omega) (by omega) (1 + a % 64).toNat 1000 0 (by omega) (by omega) (by omega)

end Go.Proofs.Ytnkigdcicnhepaa.Pure
