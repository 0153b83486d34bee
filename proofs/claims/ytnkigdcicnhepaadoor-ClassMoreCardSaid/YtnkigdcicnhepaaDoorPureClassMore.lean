/- More words take no less room, sizes of one room have one class and as many chunks: ClassMore returns true for every input; the table class.blocks holds what the program lays (tied). -/
import Derived.Test.YtnkigdcicnhepaaDoorPClassMorex1
import Derived.OpenShut
namespace Go.Proofs.YtnkigdcicnhepaaDoor.Pure
open Go.RowKit Go.Proofs.YtnkigdcicnhepaaDoor.PClassMore Go.Proofs.YtnkigdcicnhepaaDoorW.PrintWords Go.Proofs.YtnkigdcicnhepaaDoorW.PrintLast Go.Proofs.YtnkigdcicnhepaaDoorW.PrintMore

theorem w64 {x : Int} (h : -9223372036854775808 ≤ x ∧ x ≤ 9223372036854775807) : wrap64 x = x := by unfold wrap64; omega
theorem tdiv_nn (x n : Int) (h : 0 ≤ x) : Int.tdiv x n = x / n := Int.tdiv_eq_ediv_of_nonneg h
theorem tmodn (x n : Int) (h : 0 ≤ x) : Int.tmod x n = x % n := Int.tmod_eq_emod_of_nonneg h

def okZ (s : Int) : Bool := decide (0 ≤ s ∧ s ≤ 4096)
def ofZ (s : Int) : Int := if 0 ≤ s ∧ s ≤ 4096 then (if s ≤ 2 then 0 else if s ≤ 6 then 1 else if s ≤ 14 then 2 else -1) else -1
def chZ (s : Int) : Int := if 15 ≤ s ∧ s ≤ 4096 then (s + 33) / 32 else 0
def blZ (c : Int) : Int := if c = 0 then 4 else if c = 1 then 8 else if c = 2 then 16 else 0
def roZ (s : Int) : Int := blZ (ofZ s) + chZ s * 32

theorem cright_eq (s : Int) : class_Right.f s = some (okZ s) := by
  unfold class_Right.f okZ
  by_cases h : s ≥ 0
  · rw [if_pos h]; congr 1; rw [decide_eq_decide]; omega
  · rw [if_neg h]; congr 1; symm; rw [decide_eq_false_iff_not]; omega

theorem okZ_iff (s : Int) : okZ s = true ↔ 0 ≤ s ∧ s ≤ 4096 := by unfold okZ; exact decide_eq_true_iff

theorem cof_eq (s : Int) : class_Of.f s = some (ofZ s) := by
  unfold class_Of.f; rw [cright_eq]; simp only [Option.bind_some]
  by_cases h : 0 ≤ s ∧ s ≤ 4096
  · rw [if_pos ((okZ_iff s).2 h)]; unfold ofZ; rw [if_pos h]; congr 1
    repeat' split
    all_goals omega
  · rw [if_neg (by rw [okZ_iff]; exact h)]; unfold ofZ; rw [if_neg h]

theorem ofZ_cases (s : Int) : (ofZ s = 0 ∧ 0 ≤ s ∧ s ≤ 2) ∨ (ofZ s = 1 ∧ 3 ≤ s ∧ s ≤ 6) ∨ (ofZ s = 2 ∧ 7 ≤ s ∧ s ≤ 14) ∨ (ofZ s = -1 ∧ (s < 0 ∨ 15 ≤ s)) := by
  unfold ofZ; repeat' split
  all_goals omega

theorem cblock_eq (c : Int) : class_Block.f c = some (blZ c) := by
  unfold class_Block.f blZ
  by_cases h1 : c < 0
  · rw [if_pos h1, if_neg (by omega), if_neg (by omega), if_neg (by omega)]
  · rw [if_neg h1]
    by_cases h2 : c ≥ 3
    · rw [if_pos h2, if_neg (by omega), if_neg (by omega), if_neg (by omega)]
    · rw [if_neg h2]
      by_cases h3 : c = 0
      · rw [if_pos h3, if_pos h3]
      · rw [if_neg h3, if_neg h3]
        by_cases h4 : c = 1
        · rw [if_pos h4, if_pos h4]
        · rw [if_neg h4, if_neg h4, if_pos (by omega)]

theorem cchunks_eq (s : Int) : class_Chunks.f s = some (chZ s) := by
  unfold class_Chunks.f; rw [cright_eq]; simp only [Option.bind_some]
  have ho := ofZ_cases s
  by_cases h : 0 ≤ s ∧ s ≤ 4096
  · rw [if_pos ((okZ_iff s).2 h), cof_eq]; simp only [Option.bind_some]
    by_cases h2 : ofZ s ≥ 0
    · rw [if_pos h2]; unfold chZ; rw [if_neg (by omega)]
    · rw [if_neg h2]; unfold class_takes.f; simp only [Option.bind_some]
      rw [w64 (x := s + 2) (by omega), w64 (x := s + 2 + 32) (by omega), w64 (x := s + 2 + 32 - 1) (by omega), tdiv_nn _ _ (by omega), w64 (by omega)]
      unfold chZ; rw [if_pos (by omega)]; congr 2; omega
  · rw [if_neg (by rw [okZ_iff]; exact h)]; unfold chZ; rw [if_neg (by omega)]

theorem chZ_le (s : Int) : 0 ≤ chZ s ∧ chZ s ≤ 129 := by unfold chZ; split <;> omega
theorem blZ_le (c : Int) : 0 ≤ blZ c ∧ blZ c ≤ 16 := by
  unfold blZ
  repeat' split
  all_goals omega
theorem bl0 : blZ 0 = 4 := rfl
theorem bl1 : blZ 1 = 8 := rfl
theorem bl2 : blZ 2 = 16 := rfl
theorem blm : blZ (-1) = 0 := rfl

theorem cmany_eq (c : Int) : class_Many.f c = some (if blZ c = 0 then 0 else 32 / blZ c) := by
  unfold class_Many.f; rw [cblock_eq]; simp only [Option.bind_some]; split <;> rfl

theorem awake_eq : lockfastlaw09_awake.f = some true := by decide +kernel
theorem croom_eq (s : Int) : class_Room.f s = some (roZ s) := by
  unfold class_Room.f; rw [cof_eq, cchunks_eq]; simp only [Option.bind_some]; rw [cblock_eq]; simp only [Option.bind_some]
  have h1 := chZ_le s; have h2 := blZ_le (ofZ s)
  rw [w64 (x := chZ s * 32) (by omega), w64 (by omega)]; rfl


theorem more_main (x y : Int) (h0 : 0 ≤ x) (h1 : x ≤ y) (h2 : y ≤ 4096) : lockfastlaw09_ClassMore.j0 2 true x y = some true := by
  simp only [lockfastlaw09_ClassMore.j0, lockfastlaw09_ClassMore.j1, croom_eq, cchunks_eq, cof_eq, Option.bind_some]
  have a := ofZ_cases x; have b := ofZ_cases y
  have ca : chZ x = if 15 ≤ x then (x + 33) / 32 else 0 := by unfold chZ; split <;> split <;> omega
  have cb : chZ y = if 15 ≤ y then (y + 33) / 32 else 0 := by unfold chZ; split <;> split <;> omega
  have hr : roZ x ≤ roZ y ∧ chZ x ≤ chZ y ∧ (roZ x = roZ y → ofZ x = ofZ y ∧ chZ x = chZ y) := by
    unfold roZ
    rcases a with ⟨a, _⟩ | ⟨a, _⟩ | ⟨a, _⟩ | ⟨a, _⟩ <;> rcases b with ⟨b, _⟩ | ⟨b, _⟩ | ⟨b, _⟩ | ⟨b, _⟩ <;> rw [a, b] <;> simp only [bl0, bl1, bl2, blm] <;> split at ca <;> split at cb <;> (refine ⟨by omega, by omega, fun e => ⟨?_, by omega⟩⟩; first | trivial | omega)
  rw [if_neg (by omega), if_neg (by simp; omega)]
  by_cases e : roZ x = roZ y
  · rw [if_pos e, if_pos (hr.2.2 e).1, if_pos (hr.2.2 e).2]
  · rw [if_neg e]

theorem ClassMore : lockfastlaw09_ClassMore.Pure := by
  intro a b ha hb
  replace ha := bounds_u16 ha; replace hb := bounds_u16 hb
  refine ⟨2, ?_⟩
  unfold lockfastlaw09_ClassMore.f
  rw [awake_eq, tmodn _ _ ha.1, tmodn _ _ hb.1, w64 (x := a % 4097) (by omega), w64 (x := b % 4097) (by omega)]; simp only [Option.bind_some]
  split
  · exact more_main _ _ (by omega) (by omega) (by omega)
  · exact more_main _ _ (by omega) (by omega) (by omega)

end Go.Proofs.YtnkigdcicnhepaaDoor.Pure
