/- What isn't a right size has nothing: ClassWrong returns true for every input; the table class.blocks holds what the program lays (tied). -/
import Derived.Test.YtnkigdcicnhepaaDoorPClassWrongx1
import Derived.OpenShut
namespace Go.Proofs.YtnkigdcicnhepaaDoor.Pure
open Go.RowKit Go.Proofs.YtnkigdcicnhepaaDoor.PClassWrong Go.Proofs.YtnkigdcicnhepaaDoorW.PrintWords Go.Proofs.YtnkigdcicnhepaaDoorW.PrintLast Go.Proofs.YtnkigdcicnhepaaDoorW.PrintMore

theorem w64 {x : Int} (h : -9223372036854775808 ≤ x ∧ x ≤ 9223372036854775807) : wrap64 x = x := by unfold wrap64; omega
theorem tdiv_nn (x n : Int) (h : 0 ≤ x) : Int.tdiv x n = x / n := Int.tdiv_eq_ediv_of_nonneg h
theorem tmodn (x n : Int) (h : 0 ≤ x) : Int.tmod x n = x % n := Int.tmod_eq_emod_of_nonneg h

def okZ (s : Int) : Bool := decide (0 ≤ s ∧ s ≤ 4096)
def ofZ (s : Int) : Int := if 0 ≤ s ∧ s ≤ 4096 then (if s ≤ 2 then 0 else if s ≤ 6 then 1 else if s ≤ 14 then 2 else -1) else -1
def chZ (s : Int) : Int := if 15 ≤ s ∧ s ≤ 4096 then (s + 33) / 32 else 0
def blZ (c : Int) : Int := if c = 0 then 4 else if c = 1 then 8 else if c = 2 then 16 else 0
def roZ (s : Int) : Int := blZ (ofZ s) + chZ s * 32

theorem cright_eq (s : Int) : class_Right.f s = some (okZ s) := by
  unfold class_Right.f okZ
  by_cases h : s ≥ 0
  · rw [if_pos h]; congr 1; rw [decide_eq_decide]; omega
  · rw [if_neg h]; congr 1; symm; rw [decide_eq_false_iff_not]; omega

theorem okZ_iff (s : Int) : okZ s = true ↔ 0 ≤ s ∧ s ≤ 4096 := by unfold okZ; exact decide_eq_true_iff

theorem cof_eq (s : Int) : class_Of.f s = some (ofZ s) := by
  unfold class_Of.f; rw [cright_eq]; simp only [Option.bind_some]
  by_cases h : 0 ≤ s ∧ s ≤ 4096
  · rw [if_pos ((okZ_iff s).2 h)]; unfold ofZ; rw [if_pos h]; congr 1
    repeat' split
    all_goals omega
  · rw [if_neg (by rw [okZ_iff]; exact h)]; unfold ofZ; rw [if_neg h]

theorem ofZ_cases (s : Int) : (ofZ s = 0 ∧ 0 ≤ s ∧ s ≤ 2) ∨ (ofZ s = 1 ∧ 3 ≤ s ∧ s ≤ 6) ∨ (ofZ s = 2 ∧ 7 ≤ s ∧ s ≤ 14) ∨ (ofZ s = -1 ∧ (s < 0 ∨ 15 ≤ s)) := by
  unfold ofZ; repeat' split
  all_goals omega

theorem cblock_eq (c : Int) : class_Block.f c = some (blZ c) := by
  unfold class_Block.f blZ
  by_cases h1 : c < 0
  · rw [if_pos h1, if_neg (by omega), if_neg (by omega), if_neg (by omega)]
  · rw [if_neg h1]
    by_cases h2 : c ≥ 3
    · rw [if_pos h2, if_neg (by omega), if_neg (by omega), if_neg (by omega)]
    · rw [if_neg h2]
      by_cases h3 : c = 0
      · rw [if_pos h3, if_pos h3]
      · rw [if_neg h3, if_neg h3]
        by_cases h4 : c = 1
        · rw [if_pos h4, if_pos h4]
        · rw [if_neg h4, if_neg h4, if_pos (by omega)]

theorem cchunks_eq (s : Int) : class_Chunks.f s = some (chZ s) := by
  unfold class_Chunks.f; rw [cright_eq]; simp only [Option.bind_some]
  have ho := ofZ_cases s
  by_cases h : 0 ≤ s ∧ s ≤ 4096
  · rw [if_pos ((okZ_iff s).2 h), cof_eq]; simp only [Option.bind_some]
    by_cases h2 : ofZ s ≥ 0
    · rw [if_pos h2]; unfold chZ; rw [if_neg (by omega)]
    · rw [if_neg h2]; unfold class_takes.f; simp only [Option.bind_some]
      rw [w64 (x := s + 2) (by omega), w64 (x := s + 2 + 32) (by omega), w64 (x := s + 2 + 32 - 1) (by omega), tdiv_nn _ _ (by omega), w64 (by omega)]
      unfold chZ; rw [if_pos (by omega)]; congr 2; omega
  · rw [if_neg (by rw [okZ_iff]; exact h)]; unfold chZ; rw [if_neg (by omega)]

theorem chZ_le (s : Int) : 0 ≤ chZ s ∧ chZ s ≤ 129 := by unfold chZ; split <;> omega
theorem blZ_le (c : Int) : 0 ≤ blZ c ∧ blZ c ≤ 16 := by
  unfold blZ
  repeat' split
  all_goals omega
theorem bl0 : blZ 0 = 4 := rfl
theorem bl1 : blZ 1 = 8 := rfl
theorem bl2 : blZ 2 = 16 := rfl
theorem blm : blZ (-1) = 0 := rfl

theorem cmany_eq (c : Int) : class_Many.f c = some (if blZ c = 0 then 0 else 32 / blZ c) := by
  unfold class_Many.f; rw [cblock_eq]; simp only [Option.bind_some]; split <;> rfl

theorem awake_eq : lockfastlaw09_awake.f = some true := by decide +kernel
theorem croom_eq (s : Int) : class_Room.f s = some (roZ s) := by
  unfold class_Room.f; rw [cof_eq, cchunks_eq]; simp only [Option.bind_some]; rw [cblock_eq]; simp only [Option.bind_some]
  have h1 := chZ_le s; have h2 := blZ_le (ofZ s)
  rw [w64 (x := chZ s * 32) (by omega), w64 (by omega)]; rfl


theorem ClassWrong : lockfastlaw09_ClassWrong.Pure := by
  intro s hs
  replace hs := bounds_i64 hs
  refine ⟨1, ?_⟩
  unfold lockfastlaw09_ClassWrong.f
  rw [awake_eq]; simp only [Option.bind_some, lockfastlaw09_ClassWrong.j0]
  by_cases h0 : s ≥ 0
  · rw [if_pos h0]
    by_cases h1 : s ≤ 4096
    · rw [if_pos (decide_eq_true h1), if_pos trivial, cright_eq]; simp only [Option.bind_some]; rw [(okZ_iff s).2 ⟨h0, h1⟩]
    · rw [if_neg (by simpa using h1), if_pos trivial, cright_eq]; simp only [Option.bind_some]
      have ho := ofZ_cases s
      have e1 : ofZ s = -1 := by omega
      have e2 : chZ s = 0 := by unfold chZ; rw [if_neg (by omega)]
      have e3 : roZ s = 0 := by unfold roZ; rw [e1, e2]; rfl
      rw [if_neg (by rw [okZ_iff]; omega), cof_eq, cchunks_eq, croom_eq, e1, e2, e3]; rfl
  · rw [if_neg h0, if_neg (by simp), if_pos trivial, cright_eq]; simp only [Option.bind_some]
    have ho := ofZ_cases s
    have e1 : ofZ s = -1 := by omega
    have e2 : chZ s = 0 := by unfold chZ; rw [if_neg (by omega)]
    have e3 : roZ s = 0 := by unfold roZ; rw [e1, e2]; rfl
    rw [if_neg (by rw [okZ_iff]; omega), cof_eq, cchunks_eq, croom_eq, e1, e2, e3]; rfl

end Go.Proofs.YtnkigdcicnhepaaDoor.Pure
