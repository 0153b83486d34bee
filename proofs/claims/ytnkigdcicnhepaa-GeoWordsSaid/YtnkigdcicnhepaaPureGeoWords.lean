/- Each word of a chunk is that chunk's, and no other place is one's: GeoWords returns true for every input. No condition. -/
import Derived.Test.YtnkigdcicnhepaaPGeoWordsx4
import Derived.OpenShut
namespace Go.Proofs.Ytnkigdcicnhepaa.Pure
open Go.RowKit Go.Proofs.Ytnkigdcicnhepaa.PGeoWords Go.Proofs.YtnkigdcicnhepaaW.PrintWords Go.Proofs.YtnkigdcicnhepaaW.PrintLast

theorem w64 {x : Int} (h : -9223372036854775808 ≤ x ∧ x ≤ 9223372036854775807) : wrap64 x = x := by unfold wrap64; omega
theorem tdiv_nn (x n : Int) (h : 0 ≤ x) : Int.tdiv x n = x / n := Int.tdiv_eq_ediv_of_nonneg h
theorem tmodn (x n : Int) (h : 0 ≤ x) : Int.tmod x n = x % n := Int.tmod_eq_emod_of_nonneg h

def chunksZ (W L : Int) : Int := if 1 ≤ L ∧ L ≤ 64 ∧ 1 ≤ W ∧ W ≤ 65536 ∧ 10 + 73 * L ≤ W then (W - (10 + 73 * L)) / 33 else 0

theorem can_eq (W L : Int) : geo_can.f W L = some (decide (1 ≤ L ∧ L ≤ 64 ∧ 1 ≤ W ∧ W ≤ 65536)) := by
  unfold geo_can.f
  by_cases h1 : L ≥ 1
  · rw [if_pos h1]
    by_cases h2 : L ≤ 64
    · rw [if_pos h2]
      by_cases h3 : W ≥ 1
      · rw [if_pos h3]; congr 1; rw [decide_eq_decide]; omega
      · rw [if_neg h3]; congr 1; symm; rw [decide_eq_false_iff_not]; omega
    · rw [if_neg h2]; congr 1; symm; rw [decide_eq_false_iff_not]; omega
  · rw [if_neg h1]; congr 1; symm; rw [decide_eq_false_iff_not]; omega

theorem table_eq (W L : Int) (h1 : 1 ≤ L) (h2 : L ≤ 64) : geo_table.f W L = some (10 + 73 * L) := by
  unfold geo_table.f geo_logs.f
  simp only [Option.bind_some]
  rw [w64 (x := 10 + L) (by omega), w64 (x := L * 72) (by omega), w64 (by omega)]
  congr 1; omega

theorem chunks_eq (W L : Int) : geo_Chunks.f W L = some (chunksZ W L) := by
  unfold geo_Chunks.f
  rw [can_eq]; simp only [Option.bind_some]
  by_cases h : 1 ≤ L ∧ L ≤ 64 ∧ 1 ≤ W ∧ W ≤ 65536
  · rw [if_pos (decide_eq_true h), table_eq _ _ h.1 h.2.1]; simp only [Option.bind_some]
    rw [w64 (x := W - (10 + 73 * L)) (by omega)]
    congr 1; unfold chunksZ
    by_cases hp : 10 + 73 * L ≤ W
    · rw [if_pos (by omega), tdiv_nn _ _ (by omega), w64 (by omega)]; unfold mx; split <;> omega
    · rw [if_neg (by omega)]
      obtain ⟨y, hy⟩ : ∃ y, W - (10 + 73 * L) = -y := ⟨-(W - (10 + 73 * L)), by omega⟩
      rw [hy, Int.neg_tdiv, tdiv_nn _ _ (by omega), w64 (by omega)]; unfold mx; split <;> omega
  · rw [if_neg (by simpa using h)]; congr 1; unfold chunksZ; rw [if_neg (by omega)]

theorem right_eq (W L : Int) : geo_Right.f W L = some (decide (0 < chunksZ W L)) := by
  unfold geo_Right.f; rw [chunks_eq]; rfl

theorem awake_eq : lockfastlaw05_awake.f = some true := by decide +kernel

theorem chunksZ_le (W L : Int) : 0 ≤ chunksZ W L ∧ chunksZ W L ≤ 1984 := by unfold chunksZ; split <;> omega


theorem heap_eq (W L : Int) (h : 0 < chunksZ W L) : geo_heap.f W L = some (10 + 73 * L + chunksZ W L) := by
  have hb := chunksZ_le W L
  have hL : 1 ≤ L ∧ L ≤ 64 := by unfold chunksZ at h; split at h <;> omega
  unfold geo_heap.f
  rw [table_eq _ _ hL.1 hL.2, chunks_eq]; simp only [Option.bind_some]
  rw [w64 (by omega)]


def ofZ (W L at_ : Int) : Int × Int := if 0 < chunksZ W L ∧ 10 + 73 * L + chunksZ W L ≤ at_ ∧ at_ < 10 + 73 * L + 33 * chunksZ W L then ((at_ - (10 + 73 * L + chunksZ W L)) / 32, (at_ - (10 + 73 * L + chunksZ W L)) % 32) else (-1, -1)

theorem of_eq (W L at_ : Int) (ha : -9223372036854775808 ≤ at_ ∧ at_ ≤ 9223372036854775807) : geo_Of.f W L at_ = some (ofZ W L at_) := by
  have hb := chunksZ_le W L
  unfold geo_Of.f
  rw [right_eq]; simp only [Option.bind_some]
  by_cases h : 0 < chunksZ W L
  · have hL : 1 ≤ L ∧ L ≤ 64 := by unfold chunksZ at h; split at h <;> omega
    rw [if_pos (decide_eq_true h), heap_eq _ _ h, chunks_eq]; simp only [Option.bind_some]
    by_cases h1 : at_ < 10 + 73 * L + chunksZ W L
    · rw [if_pos h1]; unfold ofZ; rw [if_neg (by omega)]
    · rw [if_neg h1, w64 (x := chunksZ W L * 32) (by omega), w64 (x := 10 + 73 * L + chunksZ W L + chunksZ W L * 32) (by omega)]
      by_cases h2 : at_ ≥ 10 + 73 * L + chunksZ W L + chunksZ W L * 32
      · rw [if_pos h2]; unfold ofZ; rw [if_neg (by omega)]
      · rw [if_neg h2, w64 (x := at_ - (10 + 73 * L + chunksZ W L)) (by omega), tdiv_nn _ _ (by omega), tmodn _ _ (by omega), w64 (by omega)]
        unfold ofZ; rw [if_pos (by omega)]
  · rw [if_neg (by simpa using h)]; unfold ofZ; rw [if_neg (by omega)]

theorem chunk_eq (W L i : Int) (h : 0 < chunksZ W L) : geo_Chunk.f W L i = some (if 0 ≤ i ∧ i < chunksZ W L then (10 + 73 * L + chunksZ W L + i * 32, 32) else (0, 0)) := by
  have hb := chunksZ_le W L
  have hL : 1 ≤ L ∧ L ≤ 64 := by unfold chunksZ at h; split at h <;> omega
  unfold geo_Chunk.f
  by_cases h1 : i < 0
  · rw [if_pos h1, if_neg (by omega)]
  · rw [if_neg h1, chunks_eq]; simp only [Option.bind_some]
    by_cases h2 : i ≥ chunksZ W L
    · rw [if_pos h2, if_neg (by omega)]
    · rw [if_neg h2, heap_eq _ _ h, if_pos (by omega)]; simp only [Option.bind_some]
      rw [w64 (x := i * 32) (by omega), w64 (by omega)]

theorem small_eq (a b c : Int) (ha : 0 ≤ a ∧ a ≤ 255) (hb : 0 ≤ b ∧ b ≤ 255) (hc : 0 ≤ c ∧ c ≤ 255) :
    lockfastref05_Small.f a b c = some (10 + 73 * (1 + a % 64) + 33 * (1 + b % 200) + c % 33, 1 + a % 64) := by
  unfold lockfastref05_Small.f
  rw [tmodn _ _ ha.1, tmodn _ _ hb.1, tmodn _ _ hc.1, w64 (x := a % 64) (by omega), w64 (x := b % 200) (by omega), w64 (x := c % 33) (by omega), w64 (x := 1 + a % 64) (by omega), w64 (x := 1 + b % 200) (by omega), w64 (x := 73 * (1 + a % 64)) (by omega), w64 (x := 10 + 73 * (1 + a % 64)) (by omega), w64 (x := 33 * (1 + b % 200)) (by omega), w64 (x := 10 + 73 * (1 + a % 64) + 33 * (1 + b % 200)) (by omega), w64 (by omega)]

theorem small_chunks (a b c : Int) : chunksZ (10 + 73 * (1 + a % 64) + 33 * (1 + b % 200) + c % 33) (1 + a % 64) = 1 + b % 200 := by
  unfold chunksZ; rw [if_pos (by omega)]; omega

theorem words_main (W L n i at_ : Int) (kk : Nat) (hn : chunksZ W L = n) (h0 : 0 < n) (hi : 0 ≤ i ∧ i < n) (ha : -9223372036854775808 ≤ at_ ∧ at_ ≤ 9223372036854775807) (hk : 1 ≤ kk) :
    lockfastlaw05_GeoWords.j0 kk at_ true false W L = some true := by
  subst hn
  have hb := chunksZ_le W L
  have hL : 1 ≤ L ∧ L ≤ 64 := by unfold chunksZ at h0; split at h0 <;> omega
  obtain ⟨kk, rfl⟩ : ∃ m, kk = m + 1 := ⟨kk - 1, by omega⟩
  simp only [lockfastlaw05_GeoWords.j0]
  rw [if_neg (by simp), of_eq _ _ _ ha]
  simp only [Option.bind_some]
  by_cases h : 0 < chunksZ W L ∧ 10 + 73 * L + chunksZ W L ≤ at_ ∧ at_ < 10 + 73 * L + 33 * chunksZ W L
  · have e : ofZ W L at_ = ((at_ - (10 + 73 * L + chunksZ W L)) / 32, (at_ - (10 + 73 * L + chunksZ W L)) % 32) := by unfold ofZ; rw [if_pos h]
    rw [e]; simp only
    rw [if_neg (by omega), if_pos trivial, chunk_eq _ _ _ h0, if_pos (by omega)]
    simp only [Option.bind_some]
    rw [w64 (by omega), if_pos (by omega), if_pos (by omega)]
    congr 1; rw [decide_eq_true_iff]; omega
  · have e : ofZ W L at_ = (-1, -1) := by unfold ofZ; rw [if_neg h]
    rw [e]; simp only
    rw [if_pos (by omega), if_pos trivial, if_pos trivial, if_pos trivial, chunk_eq _ _ _ h0, if_pos (by omega)]
    simp only [Option.bind_some]
    by_cases h2 : at_ < 10 + 73 * L + chunksZ W L + 0 * 32
    · rw [if_pos h2]
    · rw [if_neg h2, chunks_eq]; simp only [Option.bind_some]
      rw [w64 (x := chunksZ W L - 1) (by omega), chunk_eq _ _ _ h0, if_pos (by omega)]
      simp only [Option.bind_some]
      rw [w64 (by omega)]
      congr 1; rw [decide_eq_true_iff]; omega

theorem GeoWords : lockfastlaw05_GeoWords.Pure := by
  intro a b c i x at_ ha hb hc hi hx hat
  replace ha := bounds_u8 ha; replace hb := bounds_u8 hb; replace hc := bounds_u8 hc; replace hi := bounds_u8 hi; replace hx := bounds_u8 hx; replace hat := bounds_i64 hat
  refine ⟨1, ?_⟩
  unfold lockfastlaw05_GeoWords.f
  rw [awake_eq, small_eq a b c ha hb hc]
  simp only [Option.bind_some, chunks_eq]
  have hn := small_chunks a b c
  revert hn
  generalize hW : 10 + 73 * (1 + a % 64) + 33 * (1 + b % 200) + c % 33 = W
  generalize hL : 1 + a % 64 = L
  generalize hN : 1 + b % 200 = n
  intro hn
  rw [hn]
  have hm : mx 1 n = n := by unfold mx; split <;> omega
  rw [hm, if_neg (by omega), w64 (x := i) (by omega), tmodn _ _ hi.1, tmodn _ _ hx.1, chunk_eq _ _ _ (by omega), hn]
  have hin : 0 ≤ i % n ∧ i % n < n := ⟨Int.emod_nonneg _ (by omega), Int.emod_lt_of_pos _ (by omega)⟩
  rw [if_pos hin]
  simp only [Option.bind_some]
  generalize i % n = j at *
  have hb2 := chunksZ_le W L
  rw [w64 (x := x % 32) (by omega), w64 (x := 10 + 73 * L + n + j * 32 + x % 32) (by omega), of_eq _ _ _ (by omega)]
  simp only [Option.bind_some]
  have e : ofZ W L (10 + 73 * L + n + j * 32 + x % 32) = (j, x % 32) := by
    unfold ofZ; rw [hn, if_pos (by omega)]; congr 1 <;> omega
  rw [e]; simp only
  rw [if_pos trivial, bne_self_eq_false]
  exact words_main W L n j at_ 1 hn (by omega) (by omega) hat (by omega)

end Go.Proofs.Ytnkigdcicnhepaa.Pure
