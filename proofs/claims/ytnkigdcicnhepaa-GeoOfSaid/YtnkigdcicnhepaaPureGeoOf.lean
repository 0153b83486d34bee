/- The chunk of any place is as the document says: GeoOf returns true for every geometry and place. No condition. -/
import Derived.Test.YtnkigdcicnhepaaPGeoOfx4
import Derived.OpenShut
namespace Go.Proofs.Ytnkigdcicnhepaa.Pure
open Go.RowKit Go.Proofs.Ytnkigdcicnhepaa.PGeoOf Go.Proofs.YtnkigdcicnhepaaW.PrintWords Go.Proofs.YtnkigdcicnhepaaW.PrintLast

theorem w64 {x : Int} (h : -9223372036854775808 ≤ x ∧ x ≤ 9223372036854775807) : wrap64 x = x := by unfold wrap64; omega
theorem tdiv_nn (x n : Int) (h : 0 ≤ x) : Int.tdiv x n = x / n := Int.tdiv_eq_ediv_of_nonneg h
theorem tmodn (x n : Int) (h : 0 ≤ x) : Int.tmod x n = x % n := Int.tmod_eq_emod_of_nonneg h

def chunksZ (W L : Int) : Int := if 1 ≤ L ∧ L ≤ 64 ∧ 1 ≤ W ∧ W ≤ 65536 ∧ 10 + 73 * L ≤ W then (W - (10 + 73 * L)) / 33 else 0

theorem can_eq (W L : Int) : geo_can.f W L = some (decide (1 ≤ L ∧ L ≤ 64 ∧ 1 ≤ W ∧ W ≤ 65536)) := by
  unfold geo_can.f
  by_cases h1 : L ≥ 1
  · rw [if_pos h1]
    by_cases h2 : L ≤ 64
    · rw [if_pos h2]
      by_cases h3 : W ≥ 1
      · rw [if_pos h3]; congr 1; rw [decide_eq_decide]; omega
      · rw [if_neg h3]; congr 1; symm; rw [decide_eq_false_iff_not]; omega
    · rw [if_neg h2]; congr 1; symm; rw [decide_eq_false_iff_not]; omega
  · rw [if_neg h1]; congr 1; symm; rw [decide_eq_false_iff_not]; omega

theorem table_eq (W L : Int) (h1 : 1 ≤ L) (h2 : L ≤ 64) : geo_table.f W L = some (10 + 73 * L) := by
  unfold geo_table.f geo_logs.f
  simp only [Option.bind_some]
  rw [w64 (x := 10 + L) (by omega), w64 (x := L * 72) (by omega), w64 (by omega)]
  congr 1; omega

theorem chunks_eq (W L : Int) : geo_Chunks.f W L = some (chunksZ W L) := by
  unfold geo_Chunks.f
  rw [can_eq]; simp only [Option.bind_some]
  by_cases h : 1 ≤ L ∧ L ≤ 64 ∧ 1 ≤ W ∧ W ≤ 65536
  · rw [if_pos (decide_eq_true h), table_eq _ _ h.1 h.2.1]; simp only [Option.bind_some]
    rw [w64 (x := W - (10 + 73 * L)) (by omega)]
    congr 1; unfold chunksZ
    by_cases hp : 10 + 73 * L ≤ W
    · rw [if_pos (by omega), tdiv_nn _ _ (by omega), w64 (by omega)]; unfold mx; split <;> omega
    · rw [if_neg (by omega)]
      obtain ⟨y, hy⟩ : ∃ y, W - (10 + 73 * L) = -y := ⟨-(W - (10 + 73 * L)), by omega⟩
      rw [hy, Int.neg_tdiv, tdiv_nn _ _ (by omega), w64 (by omega)]; unfold mx; split <;> omega
  · rw [if_neg (by simpa using h)]; congr 1; unfold chunksZ; rw [if_neg (by omega)]

theorem right_eq (W L : Int) : geo_Right.f W L = some (decide (0 < chunksZ W L)) := by
  unfold geo_Right.f; rw [chunks_eq]; rfl

theorem awake_eq : lockfastlaw05_awake.f = some true := by decide +kernel

theorem chunksZ_le (W L : Int) : 0 ≤ chunksZ W L ∧ chunksZ W L ≤ 1984 := by unfold chunksZ; split <;> omega

theorem refl0 (W L : Int) (h1 : 1 ≤ L) (h2 : L ≤ 64) (h3 : W ≤ 65536) (d : Nat) : ∀ (k : Nat) (n : Int), 0 ≤ n → n + d = chunksZ W L → d < k → lockfastref05_Chunks.l0 k n W L = some (chunksZ W L) := by
  have hb := chunksZ_le W L
  induction d with
  | zero =>
    intro k n h0 hn hk
    obtain ⟨k, rfl⟩ : ∃ m, k = m + 1 := ⟨k - 1, by omega⟩
    simp only [lockfastref05_Chunks.l0]
    rw [w64 (x := n + 1) (by omega), w64 (x := 73 * L) (by omega), w64 (x := 10 + 73 * L) (by omega), w64 (x := 33 * (n + 1)) (by omega), w64 (by omega), if_neg ?_]
    · congr 1; omega
    · unfold chunksZ at hn; split at hn <;> omega
  | succ d ih =>
    intro k n h0 hn hk
    obtain ⟨k, rfl⟩ : ∃ m, k = m + 1 := ⟨k - 1, by omega⟩
    simp only [lockfastref05_Chunks.l0]
    rw [w64 (x := n + 1) (by omega), w64 (x := 73 * L) (by omega), w64 (x := 10 + 73 * L) (by omega), w64 (x := 33 * (n + 1)) (by omega), w64 (by omega), if_pos ?_]
    · exact ih k (n + 1) (by omega) (by omega) (by omega)
    · unfold chunksZ at hn; split at hn <;> omega

theorem refChunks_eq (k : Nat) (hk : 2000 ≤ k) (W L : Int) : lockfastref05_Chunks.f k W L = some (chunksZ W L) := by
  have hb := chunksZ_le W L
  obtain ⟨k, rfl⟩ : ∃ m, k = m + 1 := ⟨k - 1, by omega⟩
  unfold lockfastref05_Chunks.f
  by_cases h1 : L < 1
  · rw [if_pos h1]; simp only [lockfastref05_Chunks.j0]; rw [if_pos trivial]; congr 1; unfold chunksZ; rw [if_neg (by omega)]
  · rw [if_neg h1]
    by_cases h2 : L > 64
    · rw [if_pos h2]; simp only [lockfastref05_Chunks.j0]; rw [if_pos trivial]; congr 1; unfold chunksZ; rw [if_neg (by omega)]
    · rw [if_neg h2]; simp only [lockfastref05_Chunks.j0]
      by_cases h3 : W > 65536
      · rw [if_pos (decide_eq_true h3)]; congr 1; unfold chunksZ; rw [if_neg (by omega)]
      · rw [if_neg (by simpa using h3)]
        exact refl0 W L (by omega) (by omega) (by omega) (chunksZ W L).toNat k 0 (by omega) (by omega) (by omega)

def ofZ (W L at_ : Int) : Int × Int := if 0 < chunksZ W L ∧ 10 + 73 * L + chunksZ W L ≤ at_ ∧ at_ < 10 + 73 * L + 33 * chunksZ W L then ((at_ - (10 + 73 * L + chunksZ W L)) / 32, (at_ - (10 + 73 * L + chunksZ W L)) % 32) else (-1, -1)

theorem heap_eq (W L : Int) (h : 0 < chunksZ W L) : geo_heap.f W L = some (10 + 73 * L + chunksZ W L) := by
  have hb := chunksZ_le W L
  have hL : 1 ≤ L ∧ L ≤ 64 := by unfold chunksZ at h; split at h <;> omega
  unfold geo_heap.f
  rw [table_eq _ _ hL.1 hL.2, chunks_eq]; simp only [Option.bind_some]
  rw [w64 (by omega)]

theorem of_eq (W L at_ : Int) (ha : -9223372036854775808 ≤ at_ ∧ at_ ≤ 9223372036854775807) : geo_Of.f W L at_ = some (ofZ W L at_) := by
  have hb := chunksZ_le W L
  unfold geo_Of.f
  rw [right_eq]; simp only [Option.bind_some]
  by_cases h : 0 < chunksZ W L
  · have hL : 1 ≤ L ∧ L ≤ 64 := by unfold chunksZ at h; split at h <;> omega
    rw [if_pos (decide_eq_true h), heap_eq _ _ h, chunks_eq]; simp only [Option.bind_some]
    by_cases h1 : at_ < 10 + 73 * L + chunksZ W L
    · rw [if_pos h1]; unfold ofZ; rw [if_neg (by omega)]
    · rw [if_neg h1, w64 (x := chunksZ W L * 32) (by omega), w64 (x := 10 + 73 * L + chunksZ W L + chunksZ W L * 32) (by omega)]
      by_cases h2 : at_ ≥ 10 + 73 * L + chunksZ W L + chunksZ W L * 32
      · rw [if_pos h2]; unfold ofZ; rw [if_neg (by omega)]
      · rw [if_neg h2, w64 (x := at_ - (10 + 73 * L + chunksZ W L)) (by omega), tdiv_nn _ _ (by omega), tmodn _ _ (by omega), w64 (by omega)]
        unfold ofZ; rw [if_pos (by omega)]
  · rw [if_neg (by simpa using h)]; unfold ofZ; rw [if_neg (by omega)]

theorem refOf_eq (k : Nat) (hk : 2000 ≤ k) (W L at_ : Int) (ha : -9223372036854775808 ≤ at_ ∧ at_ ≤ 9223372036854775807) : lockfastref05_Of.f k W L at_ = some (ofZ W L at_) := by
  have hb := chunksZ_le W L
  unfold lockfastref05_Of.f
  rw [refChunks_eq k hk]; simp only [Option.bind_some]
  obtain ⟨k, rfl⟩ : ∃ m, k = m + 1 := ⟨k - 1, by omega⟩
  by_cases h : chunksZ W L = 0
  · rw [if_pos h]; simp only [lockfastref05_Of.j0]; rw [if_pos trivial]; unfold ofZ; rw [if_neg (by omega)]
  · have hL : 1 ≤ L ∧ L ≤ 64 := by unfold chunksZ at h; split at h <;> omega
    rw [if_neg h]; simp only [lockfastref05_Of.j0]
    rw [w64 (x := 73 * L) (by omega), w64 (x := 10 + 73 * L) (by omega), w64 (x := 10 + 73 * L + chunksZ W L) (by omega)]
    by_cases h1 : at_ < 10 + 73 * L + chunksZ W L
    · rw [if_pos (decide_eq_true h1)]; unfold ofZ; rw [if_neg (by omega)]
    · rw [if_neg (by simpa using h1), w64 (x := at_ - (10 + 73 * L + chunksZ W L)) (by omega), tdiv_nn _ _ (by omega), tmodn _ _ (by omega), w64 (by omega)]
      by_cases h2 : (at_ - (10 + 73 * L + chunksZ W L)) / 32 ≥ chunksZ W L
      · rw [if_pos h2]; unfold ofZ; rw [if_neg (by omega)]
      · rw [if_neg h2]; unfold ofZ; rw [if_pos (by omega)]

theorem GeoOf : lockfastlaw05_GeoOf.Pure := by
  intro W L at_ _ _ ha
  replace ha := bounds_i64 ha
  refine ⟨2000, ?_⟩
  unfold lockfastlaw05_GeoOf.f
  rw [awake_eq, of_eq _ _ _ ha, refOf_eq _ (by omega) _ _ _ ha]
  simp only [Option.bind_some, if_true, BEq.rfl]

end Go.Proofs.Ytnkigdcicnhepaa.Pure
