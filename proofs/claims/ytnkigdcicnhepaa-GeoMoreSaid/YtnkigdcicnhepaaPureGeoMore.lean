/- More words have no fewer chunks, more lanes no more; one chunk more needs 33 words: GeoMore returns true for every input. No condition. -/
import Derived.Test.YtnkigdcicnhepaaPGeoMorex2
import Derived.OpenShut
namespace Go.Proofs.Ytnkigdcicnhepaa.Pure
open Go.RowKit Go.Proofs.Ytnkigdcicnhepaa.PGeoMore Go.Proofs.YtnkigdcicnhepaaW.PrintWords Go.Proofs.YtnkigdcicnhepaaW.PrintLast

theorem w64 {x : Int} (h : -9223372036854775808 ≤ x ∧ x ≤ 9223372036854775807) : wrap64 x = x := by unfold wrap64; omega
theorem tdiv_nn (x n : Int) (h : 0 ≤ x) : Int.tdiv x n = x / n := Int.tdiv_eq_ediv_of_nonneg h
theorem tmodn (x n : Int) (h : 0 ≤ x) : Int.tmod x n = x % n := Int.tmod_eq_emod_of_nonneg h

def chunksZ (W L : Int) : Int := if 1 ≤ L ∧ L ≤ 64 ∧ 1 ≤ W ∧ W ≤ 65536 ∧ 10 + 73 * L ≤ W then (W - (10 + 73 * L)) / 33 else 0

theorem can_eq (W L : Int) : geo_can.f W L = some (decide (1 ≤ L ∧ L ≤ 64 ∧ 1 ≤ W ∧ W ≤ 65536)) := by
  unfold geo_can.f
  by_cases h1 : L ≥ 1
  · rw [if_pos h1]
    by_cases h2 : L ≤ 64
    · rw [if_pos h2]
      by_cases h3 : W ≥ 1
      · rw [if_pos h3]; congr 1; rw [decide_eq_decide]; omega
      · rw [if_neg h3]; congr 1; symm; rw [decide_eq_false_iff_not]; omega
    · rw [if_neg h2]; congr 1; symm; rw [decide_eq_false_iff_not]; omega
  · rw [if_neg h1]; congr 1; symm; rw [decide_eq_false_iff_not]; omega

theorem table_eq (W L : Int) (h1 : 1 ≤ L) (h2 : L ≤ 64) : geo_table.f W L = some (10 + 73 * L) := by
  unfold geo_table.f geo_logs.f
  simp only [Option.bind_some]
  rw [w64 (x := 10 + L) (by omega), w64 (x := L * 72) (by omega), w64 (by omega)]
  congr 1; omega

theorem chunks_eq (W L : Int) : geo_Chunks.f W L = some (chunksZ W L) := by
  unfold geo_Chunks.f
  rw [can_eq]; simp only [Option.bind_some]
  by_cases h : 1 ≤ L ∧ L ≤ 64 ∧ 1 ≤ W ∧ W ≤ 65536
  · rw [if_pos (decide_eq_true h), table_eq _ _ h.1 h.2.1]; simp only [Option.bind_some]
    rw [w64 (x := W - (10 + 73 * L)) (by omega)]
    congr 1; unfold chunksZ
    by_cases hp : 10 + 73 * L ≤ W
    · rw [if_pos (by omega), tdiv_nn _ _ (by omega), w64 (by omega)]; unfold mx; split <;> omega
    · rw [if_neg (by omega)]
      obtain ⟨y, hy⟩ : ∃ y, W - (10 + 73 * L) = -y := ⟨-(W - (10 + 73 * L)), by omega⟩
      rw [hy, Int.neg_tdiv, tdiv_nn _ _ (by omega), w64 (by omega)]; unfold mx; split <;> omega
  · rw [if_neg (by simpa using h)]; congr 1; unfold chunksZ; rw [if_neg (by omega)]

theorem right_eq (W L : Int) : geo_Right.f W L = some (decide (0 < chunksZ W L)) := by
  unfold geo_Right.f; rw [chunks_eq]; rfl

theorem awake_eq : lockfastlaw05_awake.f = some true := by decide +kernel

theorem GeoMore : lockfastlaw05_GeoMore.Pure := by
  intro a b c d ha hb hc hd
  replace ha := bounds_u8 ha; replace hb := bounds_u8 hb; replace hc := bounds_u8 hc; replace hd := bounds_u8 hd
  unfold lockfastlaw05_GeoMore.f lockfastref05_Small.f
  rw [awake_eq]
  simp only [Option.bind_some, chunks_eq, right_eq, tmodn _ _ ha.1, tmodn _ _ hb.1, tmodn _ _ hc.1, if_true]
  have e1 : wrap64 (1 + wrap64 (a % 64)) = 1 + a % 64 := by rw [w64 (x := a % 64) (by omega), w64 (by omega)]
  have e2 : wrap64 (1 + wrap64 (b % 200)) = 1 + b % 200 := by rw [w64 (x := b % 200) (by omega), w64 (by omega)]
  have e3 : wrap64 (c % 33) = c % 33 := w64 (by omega)
  have e4 : wrap64 d = d := w64 (by omega)
  rw [e1, e2, e3, e4]
  have ew : wrap64 (wrap64 (wrap64 (10 + wrap64 (73 * (1 + a % 64))) + wrap64 (33 * (1 + b % 200))) + c % 33) = 10 + 73 * (1 + a % 64) + 33 * (1 + b % 200) + c % 33 := by
    rw [w64 (x := 73 * (1 + a % 64)) (by omega), w64 (x := 10 + 73 * (1 + a % 64)) (by omega), w64 (x := 33 * (1 + b % 200)) (by omega), w64 (x := 10 + 73 * (1 + a % 64) + 33 * (1 + b % 200)) (by omega), w64 (by omega)]
  rw [ew]
  have e5 : wrap64 (10 + 73 * (1 + a % 64) + 33 * (1 + b % 200) + c % 33 + d) = 10 + 73 * (1 + a % 64) + 33 * (1 + b % 200) + c % 33 + d := w64 (by omega)
  have e6 : wrap64 (10 + 73 * (1 + a % 64) + 33 * (1 + b % 200) + c % 33 + 33) = 10 + 73 * (1 + a % 64) + 33 * (1 + b % 200) + c % 33 + 33 := w64 (by omega)
  have e7 : wrap64 (1 + a % 64 + 1) = 1 + a % 64 + 1 := w64 (by omega)
  have e8 : wrap64 (c % 33 + d) = c % 33 + d := w64 (by omega)
  have n1 : chunksZ (10 + 73 * (1 + a % 64) + 33 * (1 + b % 200) + c % 33) (1 + a % 64) = 1 + b % 200 := by unfold chunksZ; rw [if_pos (by omega)]; omega
  have n2 : chunksZ (10 + 73 * (1 + a % 64) + 33 * (1 + b % 200) + c % 33 + d) (1 + a % 64) = 1 + b % 200 + (c % 33 + d) / 33 := by unfold chunksZ; rw [if_pos (by omega)]; omega
  have n3 : chunksZ (10 + 73 * (1 + a % 64) + 33 * (1 + b % 200) + c % 33 + 33) (1 + a % 64) = 1 + b % 200 + 1 := by unfold chunksZ; rw [if_pos (by omega)]; omega
  have n4 : chunksZ (10 + 73 * (1 + a % 64) + 33 * (1 + b % 200) + c % 33) (1 + a % 64 + 1) ≤ 1 + b % 200 := by unfold chunksZ; split <;> omega
  have e9 : wrap64 (Int.tdiv (c % 33 + d) 33) = (c % 33 + d) / 33 := by rw [tdiv_nn _ _ (by omega), w64 (by omega)]
  have e10 : wrap64 (1 + b % 200 + (c % 33 + d) / 33) = 1 + b % 200 + (c % 33 + d) / 33 := w64 (by omega)
  have e11 : wrap64 (1 + b % 200 + 1) = 1 + b % 200 + 1 := w64 (by omega)
  rw [e5, e6, e7, e8, n1, if_pos rfl, e9, e10, n2, if_pos rfl, if_pos n4, n3, e11, if_pos rfl]
  congr 1; rw [decide_eq_true_iff]; omega

end Go.Proofs.Ytnkigdcicnhepaa.Pure
