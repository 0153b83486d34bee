/- Whether any geometry can be, how many chunks it has, and where each thing lies is as the document says: GeoTells returns true for every input. No condition. -/
import Derived.Test.YtnkigdcicnhepaaPGeoTellsx4
import Derived.OpenShut
namespace Go.Proofs.Ytnkigdcicnhepaa.Pure
open Go.RowKit Go.Proofs.Ytnkigdcicnhepaa.PGeoTells Go.Proofs.YtnkigdcicnhepaaW.PrintWords Go.Proofs.YtnkigdcicnhepaaW.PrintLast

theorem w64 {x : Int} (h : -9223372036854775808 ≤ x ∧ x ≤ 9223372036854775807) : wrap64 x = x := by unfold wrap64; omega
theorem tdiv_nn (x n : Int) (h : 0 ≤ x) : Int.tdiv x n = x / n := Int.tdiv_eq_ediv_of_nonneg h
theorem tmodn (x n : Int) (h : 0 ≤ x) : Int.tmod x n = x % n := Int.tmod_eq_emod_of_nonneg h

def chunksZ (W L : Int) : Int := if 1 ≤ L ∧ L ≤ 64 ∧ 1 ≤ W ∧ W ≤ 65536 ∧ 10 + 73 * L ≤ W then (W - (10 + 73 * L)) / 33 else 0

theorem can_eq (W L : Int) : geo_can.f W L = some (decide (1 ≤ L ∧ L ≤ 64 ∧ 1 ≤ W ∧ W ≤ 65536)) := by
  unfold geo_can.f
  by_cases h1 : L ≥ 1
  · rw [if_pos h1]
    by_cases h2 : L ≤ 64
    · rw [if_pos h2]
      by_cases h3 : W ≥ 1
      · rw [if_pos h3]; congr 1; rw [decide_eq_decide]; omega
      · rw [if_neg h3]; congr 1; symm; rw [decide_eq_false_iff_not]; omega
    · rw [if_neg h2]; congr 1; symm; rw [decide_eq_false_iff_not]; omega
  · rw [if_neg h1]; congr 1; symm; rw [decide_eq_false_iff_not]; omega

theorem table_eq (W L : Int) (h1 : 1 ≤ L) (h2 : L ≤ 64) : geo_table.f W L = some (10 + 73 * L) := by
  unfold geo_table.f geo_logs.f
  simp only [Option.bind_some]
  rw [w64 (x := 10 + L) (by omega), w64 (x := L * 72) (by omega), w64 (by omega)]
  congr 1; omega

theorem chunks_eq (W L : Int) : geo_Chunks.f W L = some (chunksZ W L) := by
  unfold geo_Chunks.f
  rw [can_eq]; simp only [Option.bind_some]
  by_cases h : 1 ≤ L ∧ L ≤ 64 ∧ 1 ≤ W ∧ W ≤ 65536
  · rw [if_pos (decide_eq_true h), table_eq _ _ h.1 h.2.1]; simp only [Option.bind_some]
    rw [w64 (x := W - (10 + 73 * L)) (by omega)]
    congr 1; unfold chunksZ
    by_cases hp : 10 + 73 * L ≤ W
    · rw [if_pos (by omega), tdiv_nn _ _ (by omega), w64 (by omega)]; unfold mx; split <;> omega
    · rw [if_neg (by omega)]
      obtain ⟨y, hy⟩ : ∃ y, W - (10 + 73 * L) = -y := ⟨-(W - (10 + 73 * L)), by omega⟩
      rw [hy, Int.neg_tdiv, tdiv_nn _ _ (by omega), w64 (by omega)]; unfold mx; split <;> omega
  · rw [if_neg (by simpa using h)]; congr 1; unfold chunksZ; rw [if_neg (by omega)]

theorem right_eq (W L : Int) : geo_Right.f W L = some (decide (0 < chunksZ W L)) := by
  unfold geo_Right.f; rw [chunks_eq]; rfl

theorem awake_eq : lockfastlaw05_awake.f = some true := by decide +kernel

theorem chunksZ_le (W L : Int) : 0 ≤ chunksZ W L ∧ chunksZ W L ≤ 1984 := by unfold chunksZ; split <;> omega


theorem refl0 (W L : Int) (h1 : 1 ≤ L) (h2 : L ≤ 64) (h3 : W ≤ 65536) (d : Nat) : ∀ (k : Nat) (n : Int), 0 ≤ n → n + d = chunksZ W L → d < k → lockfastref05_Chunks.l0 k n W L = some (chunksZ W L) := by
  have hb := chunksZ_le W L
  induction d with
  | zero =>
    intro k n h0 hn hk
    obtain ⟨k, rfl⟩ : ∃ m, k = m + 1 := ⟨k - 1, by omega⟩
    simp only [lockfastref05_Chunks.l0]
    rw [w64 (x := n + 1) (by omega), w64 (x := 73 * L) (by omega), w64 (x := 10 + 73 * L) (by omega), w64 (x := 33 * (n + 1)) (by omega), w64 (by omega), if_neg ?_]
    · congr 1; omega
    · unfold chunksZ at hn; split at hn <;> omega
  | succ d ih =>
    intro k n h0 hn hk
    obtain ⟨k, rfl⟩ : ∃ m, k = m + 1 := ⟨k - 1, by omega⟩
    simp only [lockfastref05_Chunks.l0]
    rw [w64 (x := n + 1) (by omega), w64 (x := 73 * L) (by omega), w64 (x := 10 + 73 * L) (by omega), w64 (x := 33 * (n + 1)) (by omega), w64 (by omega), if_pos ?_]
    · exact ih k (n + 1) (by omega) (by omega) (by omega)
    · unfold chunksZ at hn; split at hn <;> omega

theorem refChunks_eq (k : Nat) (hk : 2000 ≤ k) (W L : Int) : lockfastref05_Chunks.f k W L = some (chunksZ W L) := by
  have hb := chunksZ_le W L
  obtain ⟨k, rfl⟩ : ∃ m, k = m + 1 := ⟨k - 1, by omega⟩
  unfold lockfastref05_Chunks.f
  by_cases h1 : L < 1
  · rw [if_pos h1]; simp only [lockfastref05_Chunks.j0]; rw [if_pos trivial]; congr 1; unfold chunksZ; rw [if_neg (by omega)]
  · rw [if_neg h1]
    by_cases h2 : L > 64
    · rw [if_pos h2]; simp only [lockfastref05_Chunks.j0]; rw [if_pos trivial]; congr 1; unfold chunksZ; rw [if_neg (by omega)]
    · rw [if_neg h2]; simp only [lockfastref05_Chunks.j0]
      by_cases h3 : W > 65536
      · rw [if_pos (decide_eq_true h3)]; congr 1; unfold chunksZ; rw [if_neg (by omega)]
      · rw [if_neg (by simpa using h3)]
        exact refl0 W L (by omega) (by omega) (by omega) (chunksZ W L).toNat k 0 (by omega) (by omega) (by omega)

theorem heap_eq (W L : Int) (h : 0 < chunksZ W L) : geo_heap.f W L = some (10 + 73 * L + chunksZ W L) := by
  have hb := chunksZ_le W L
  have hL : 1 ≤ L ∧ L ≤ 64 := by unfold chunksZ at h; split at h <;> omega
  unfold geo_heap.f
  rw [table_eq _ _ hL.1 hL.2, chunks_eq]; simp only [Option.bind_some]
  rw [w64 (by omega)]


theorem refRight_eq (k : Nat) (hk : 2000 ≤ k) (W L : Int) : lockfastref05_Right.f k W L = some (decide (0 < chunksZ W L)) := by
  unfold lockfastref05_Right.f; rw [refChunks_eq k hk]; simp only [Option.bind_some]
  congr 1

theorem lane_eq (W L i : Int) : geo_lane.f W L i = some (decide (0 < chunksZ W L ∧ 0 ≤ i ∧ i < L)) := by
  unfold geo_lane.f; rw [right_eq]; simp only [Option.bind_some]
  by_cases h : 0 < chunksZ W L
  · rw [if_pos (decide_eq_true h)]
    by_cases h1 : i ≥ 0
    · rw [if_pos h1]; congr 1; rw [decide_eq_decide]; omega
    · rw [if_neg h1]; congr 1; symm; rw [decide_eq_false_iff_not]; omega
  · rw [if_neg (by simpa using h)]; congr 1; symm; rw [decide_eq_false_iff_not]; omega

theorem laneOf {W L i : Int} (h : 0 < chunksZ W L ∧ 0 ≤ i ∧ i < L) : 1 ≤ L ∧ L ≤ 64 := by
  have := h.1; unfold chunksZ at this; split at this <;> omega

theorem logs_eq (W L : Int) (h1 : 1 ≤ L) (h2 : L ≤ 64) : geo_logs.f W L = some (10 + L) := by
  unfold geo_logs.f; rw [w64 (by omega)]

theorem GeoTells : lockfastlaw05_GeoTells.Pure := by
  intro W L lane i _ _ _ _
  refine ⟨2000, ?_⟩
  have hb := chunksZ_le W L
  have m1 : geo_Mark.f W L lane = lockfastref05_Mark.f 2000 W L lane := by
    unfold geo_Mark.f lockfastref05_Mark.f
    rw [lane_eq, refRight_eq _ (by omega)]; simp only [Option.bind_some]
    by_cases h : 0 < chunksZ W L ∧ 0 ≤ lane ∧ lane < L
    · rw [if_pos (decide_eq_true h), if_pos (decide_eq_true h.1), if_neg (by omega), if_neg (by omega)]
    · rw [if_neg (by simpa using h)]
      by_cases h0 : 0 < chunksZ W L
      · rw [if_pos (decide_eq_true h0)]; split
        · rfl
        · rw [if_pos (by omega)]
      · rw [if_neg (by simpa using h0)]
  have m2 : geo_Log.f W L lane = lockfastref05_Log.f 2000 W L lane := by
    unfold geo_Log.f lockfastref05_Log.f
    rw [lane_eq, refRight_eq _ (by omega)]; simp only [Option.bind_some]
    by_cases h : 0 < chunksZ W L ∧ 0 ≤ lane ∧ lane < L
    · have hL := laneOf h
      rw [if_pos (decide_eq_true h), if_pos (decide_eq_true h.1), if_neg (by omega), if_neg (by omega), logs_eq _ _ hL.1 hL.2]
      simp only [Option.bind_some]
      rw [w64 (x := lane * 72) (by omega), w64 (x := 10 + L + lane * 72) (by omega), w64 (x := 10 + L + lane * 72) (by omega), w64 (x := 10 + L) (by omega), w64 (x := 72 * lane) (by omega), w64 (x := 10 + L + 72 * lane) (by omega)]
      congr 2; omega
    · rw [if_neg (by simpa using h)]
      by_cases h0 : 0 < chunksZ W L
      · rw [if_pos (decide_eq_true h0)]; split
        · rfl
        · rw [if_pos (by omega)]
      · rw [if_neg (by simpa using h0)]
  have m3 : geo_Redo.f W L lane = lockfastref05_Redo.f 2000 W L lane := by
    unfold geo_Redo.f lockfastref05_Redo.f
    rw [lane_eq, refRight_eq _ (by omega)]; simp only [Option.bind_some]
    by_cases h : 0 < chunksZ W L ∧ 0 ≤ lane ∧ lane < L
    · have hL := laneOf h
      rw [if_pos (decide_eq_true h), if_pos (decide_eq_true h.1), if_neg (by omega), if_neg (by omega), logs_eq _ _ hL.1 hL.2]
      simp only [Option.bind_some]
      rw [w64 (x := lane * 72) (by omega), w64 (x := 10 + L + lane * 72) (by omega), w64 (x := 10 + L + lane * 72 + 32) (by omega), w64 (x := 10 + L) (by omega), w64 (x := 72 * lane) (by omega), w64 (x := 10 + L + 72 * lane) (by omega), w64 (x := 10 + L + 72 * lane + 32) (by omega)]
      congr 2; omega
    · rw [if_neg (by simpa using h)]
      by_cases h0 : 0 < chunksZ W L
      · rw [if_pos (decide_eq_true h0)]; split
        · rfl
        · rw [if_pos (by omega)]
      · rw [if_neg (by simpa using h0)]
  have m4 : geo_Table.f W L = lockfastref05_Table.f 2000 W L := by
    unfold geo_Table.f lockfastref05_Table.f
    rw [right_eq, refRight_eq _ (by omega)]; simp only [Option.bind_some]
    by_cases h0 : 0 < chunksZ W L
    · have hL : 1 ≤ L ∧ L ≤ 64 := by unfold chunksZ at h0; split at h0 <;> omega
      rw [if_pos (decide_eq_true h0), if_pos (decide_eq_true h0), table_eq _ _ hL.1 hL.2, chunks_eq, refChunks_eq _ (by omega)]
      simp only [Option.bind_some]
      rw [w64 (x := 73 * L) (by omega), w64 (by omega)]
    · rw [if_neg (by simpa using h0), if_neg (by simpa using h0)]
  have m5 : geo_Chunk.f W L i = lockfastref05_Chunk.f 2000 W L i := by
    unfold geo_Chunk.f lockfastref05_Chunk.f
    rw [chunks_eq, refChunks_eq _ (by omega)]; simp only [Option.bind_some]
    split
    · rfl
    · split
      · rfl
      · have h0 : 0 < chunksZ W L := by omega
        have hL : 1 ≤ L ∧ L ≤ 64 := by unfold chunksZ at h0; split at h0 <;> omega
        rw [heap_eq _ _ h0]; simp only [Option.bind_some]
        rw [w64 (x := i * 32) (by omega), w64 (x := 10 + 73 * L + chunksZ W L + i * 32) (by omega), w64 (x := 73 * L) (by omega), w64 (x := 10 + 73 * L) (by omega), w64 (x := 10 + 73 * L + chunksZ W L) (by omega), w64 (x := 32 * i) (by omega), w64 (by omega)]
        congr 2; omega
  have s1 : ∃ x, geo_Mark.f W L lane = some x := by unfold geo_Mark.f; rw [lane_eq]; simp only [Option.bind_some]; split <;> exact ⟨_, rfl⟩
  have s2 : ∃ x, geo_Log.f W L lane = some x := by unfold geo_Log.f geo_logs.f; rw [lane_eq]; simp only [Option.bind_some]; split <;> exact ⟨_, rfl⟩
  have s3 : ∃ x, geo_Redo.f W L lane = some x := by unfold geo_Redo.f geo_logs.f; rw [lane_eq]; simp only [Option.bind_some]; split <;> exact ⟨_, rfl⟩
  have s4 : ∃ x, geo_Table.f W L = some x := by unfold geo_Table.f geo_table.f geo_logs.f; rw [right_eq, chunks_eq]; simp only [Option.bind_some]; split <;> exact ⟨_, rfl⟩
  have s5 : ∃ x, geo_Chunk.f W L i = some x := by
    unfold geo_Chunk.f geo_heap.f geo_table.f geo_logs.f; rw [chunks_eq]; simp only [Option.bind_some]; split
    · exact ⟨_, rfl⟩
    · split <;> exact ⟨_, rfl⟩
  obtain ⟨x1, s1⟩ := s1; obtain ⟨x2, s2⟩ := s2; obtain ⟨x3, s3⟩ := s3; obtain ⟨x4, s4⟩ := s4; obtain ⟨x5, s5⟩ := s5
  unfold lockfastlaw05_GeoTells.f
  rw [awake_eq, right_eq, refRight_eq _ (by omega), chunks_eq, refChunks_eq _ (by omega), ← m1, ← m2, ← m3, ← m4, ← m5, s1, s2, s3, s4, s5]
  simp

end Go.Proofs.Ytnkigdcicnhepaa.Pure
