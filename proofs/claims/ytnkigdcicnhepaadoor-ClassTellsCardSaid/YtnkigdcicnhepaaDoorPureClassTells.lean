/- Any size's class, chunks and room, and any class's blocks, are as the document says: ClassTells returns true for every input; the table class.blocks holds what the program lays (tied). -/
import Derived.Test.YtnkigdcicnhepaaDoorPClassTellsx2
import Derived.OpenShut
namespace Go.Proofs.YtnkigdcicnhepaaDoor.Pure
open Go.RowKit Go.Proofs.YtnkigdcicnhepaaDoor.PClassTells Go.Proofs.YtnkigdcicnhepaaDoorW.PrintWords Go.Proofs.YtnkigdcicnhepaaDoorW.PrintLast Go.Proofs.YtnkigdcicnhepaaDoorW.PrintMore

theorem w64 {x : Int} (h : -9223372036854775808 ≤ x ∧ x ≤ 9223372036854775807) : wrap64 x = x := by unfold wrap64; omega
theorem tdiv_nn (x n : Int) (h : 0 ≤ x) : Int.tdiv x n = x / n := Int.tdiv_eq_ediv_of_nonneg h
theorem tmodn (x n : Int) (h : 0 ≤ x) : Int.tmod x n = x % n := Int.tmod_eq_emod_of_nonneg h

def okZ (s : Int) : Bool := decide (0 ≤ s ∧ s ≤ 4096)
def ofZ (s : Int) : Int := if 0 ≤ s ∧ s ≤ 4096 then (if s ≤ 2 then 0 else if s ≤ 6 then 1 else if s ≤ 14 then 2 else -1) else -1
def chZ (s : Int) : Int := if 15 ≤ s ∧ s ≤ 4096 then (s + 33) / 32 else 0
def blZ (c : Int) : Int := if c = 0 then 4 else if c = 1 then 8 else if c = 2 then 16 else 0
def roZ (s : Int) : Int := blZ (ofZ s) + chZ s * 32

theorem cright_eq (s : Int) : class_Right.f s = some (okZ s) := by
  unfold class_Right.f okZ
  by_cases h : s ≥ 0
  · rw [if_pos h]; congr 1; rw [decide_eq_decide]; omega
  · rw [if_neg h]; congr 1; symm; rw [decide_eq_false_iff_not]; omega

theorem okZ_iff (s : Int) : okZ s = true ↔ 0 ≤ s ∧ s ≤ 4096 := by unfold okZ; exact decide_eq_true_iff

theorem cof_eq (s : Int) : class_Of.f s = some (ofZ s) := by
  unfold class_Of.f; rw [cright_eq]; simp only [Option.bind_some]
  by_cases h : 0 ≤ s ∧ s ≤ 4096
  · rw [if_pos ((okZ_iff s).2 h)]; unfold ofZ; rw [if_pos h]; congr 1
    repeat' split
    all_goals omega
  · rw [if_neg (by rw [okZ_iff]; exact h)]; unfold ofZ; rw [if_neg h]

theorem ofZ_cases (s : Int) : (ofZ s = 0 ∧ 0 ≤ s ∧ s ≤ 2) ∨ (ofZ s = 1 ∧ 3 ≤ s ∧ s ≤ 6) ∨ (ofZ s = 2 ∧ 7 ≤ s ∧ s ≤ 14) ∨ (ofZ s = -1 ∧ (s < 0 ∨ 15 ≤ s)) := by
  unfold ofZ; repeat' split
  all_goals omega

theorem cblock_eq (c : Int) : class_Block.f c = some (blZ c) := by
  unfold class_Block.f blZ
  by_cases h1 : c < 0
  · rw [if_pos h1, if_neg (by omega), if_neg (by omega), if_neg (by omega)]
  · rw [if_neg h1]
    by_cases h2 : c ≥ 3
    · rw [if_pos h2, if_neg (by omega), if_neg (by omega), if_neg (by omega)]
    · rw [if_neg h2]
      by_cases h3 : c = 0
      · rw [if_pos h3, if_pos h3]
      · rw [if_neg h3, if_neg h3]
        by_cases h4 : c = 1
        · rw [if_pos h4, if_pos h4]
        · rw [if_neg h4, if_neg h4, if_pos (by omega)]

theorem cchunks_eq (s : Int) : class_Chunks.f s = some (chZ s) := by
  unfold class_Chunks.f; rw [cright_eq]; simp only [Option.bind_some]
  have ho := ofZ_cases s
  by_cases h : 0 ≤ s ∧ s ≤ 4096
  · rw [if_pos ((okZ_iff s).2 h), cof_eq]; simp only [Option.bind_some]
    by_cases h2 : ofZ s ≥ 0
    · rw [if_pos h2]; unfold chZ; rw [if_neg (by omega)]
    · rw [if_neg h2]; unfold class_takes.f; simp only [Option.bind_some]
      rw [w64 (x := s + 2) (by omega), w64 (x := s + 2 + 32) (by omega), w64 (x := s + 2 + 32 - 1) (by omega), tdiv_nn _ _ (by omega), w64 (by omega)]
      unfold chZ; rw [if_pos (by omega)]; congr 2; omega
  · rw [if_neg (by rw [okZ_iff]; exact h)]; unfold chZ; rw [if_neg (by omega)]

theorem chZ_le (s : Int) : 0 ≤ chZ s ∧ chZ s ≤ 129 := by unfold chZ; split <;> omega
theorem blZ_le (c : Int) : 0 ≤ blZ c ∧ blZ c ≤ 16 := by
  unfold blZ
  repeat' split
  all_goals omega
theorem bl0 : blZ 0 = 4 := rfl
theorem bl1 : blZ 1 = 8 := rfl
theorem bl2 : blZ 2 = 16 := rfl
theorem blm : blZ (-1) = 0 := rfl

theorem cmany_eq (c : Int) : class_Many.f c = some (if blZ c = 0 then 0 else 32 / blZ c) := by
  unfold class_Many.f; rw [cblock_eq]; simp only [Option.bind_some]; split <;> rfl

theorem awake_eq : lockfastlaw09_awake.f = some true := by decide +kernel
theorem croom_eq (s : Int) : class_Room.f s = some (roZ s) := by
  unfold class_Room.f; rw [cof_eq, cchunks_eq]; simp only [Option.bind_some]; rw [cblock_eq]; simp only [Option.bind_some]
  have h1 := chZ_le s; have h2 := blZ_le (ofZ s)
  rw [w64 (x := chZ s * 32) (by omega), w64 (by omega)]; rfl


theorem rright_eq (s : Int) : lockfastref09_Right.f s = some (okZ s) := by rw [← cright_eq]; rfl
theorem rblock_eq (c : Int) : lockfastref09_Block.f c = some (blZ c) := by 
  unfold lockfastref09_Block.f blZ
  repeat' split
  all_goals rfl

theorem rof_eq (k : Nat) (hk : 8 ≤ k) (s : Int) : lockfastref09_Of.f k s = some (ofZ s) := by
  obtain ⟨k, rfl⟩ : ∃ m, k = m + 8 := ⟨k - 8, by omega⟩
  unfold lockfastref09_Of.f; rw [rright_eq]; simp only [Option.bind_some]
  by_cases h : 0 ≤ s ∧ s ≤ 4096
  · rw [(okZ_iff s).2 h]
    simp only [lockfastref09_Of.l0, lockfastref09_Of.j1, rblock_eq, Option.bind_some, if_true]
    have e2 : wrap64 (s + 2) = s + 2 := w64 (by omega)
    have b0 : blZ 0 = 4 := rfl
    have b1 : blZ 1 = 8 := rfl
    have b2 : blZ 2 = 16 := rfl
    have w1 : wrap64 (0 + 1) = 1 := w64 (by omega)
    have w2 : wrap64 (1 + 1) = 2 := w64 (by omega)
    have w3 : wrap64 (2 + 1) = 3 := w64 (by omega)
    rw [e2, w1, w2, w3, b0, b1, b2]
    unfold ofZ; rw [if_pos h]
    simp only [show decide ((0 : Int) < 3) = true from rfl, show decide ((1 : Int) < 3) = true from rfl, show decide ((2 : Int) < 3) = true from rfl, show decide ((3 : Int) < 3) = false from rfl, if_true, Bool.false_eq_true, if_false]
    by_cases h1 : s ≤ 2
    · rw [if_pos (by omega), if_pos h1]
    · rw [if_neg (by omega), if_neg h1]
      by_cases h2 : s ≤ 6
      · rw [if_pos (by omega), if_pos h2]
      · rw [if_neg (by omega), if_neg h2]
        by_cases h3 : s ≤ 14
        · rw [if_pos (by omega), if_pos h3]
        · rw [if_neg (by omega), if_neg h3]
  · have ef : okZ s = false := by rw [Bool.eq_false_iff]; rw [ne_eq, okZ_iff]; exact h
    rw [ef]; simp only [lockfastref09_Of.l0, lockfastref09_Of.j1, Bool.false_eq_true, if_false]
    unfold ofZ; rw [if_neg h]

theorem rch0 (s : Int) (h : 15 ≤ s ∧ s ≤ 4096) (d : Nat) : ∀ (k : Nat) (n : Int), 0 ≤ n → n + d = chZ s → d + 8 < k → lockfastref09_Chunks.l0 k s true n = some (chZ s) := by
  have hc : chZ s = (s + 33) / 32 := by unfold chZ; rw [if_pos h]
  have ho : ofZ s = -1 := by have := ofZ_cases s; omega
  induction d with
  | zero =>
    intro k n h0 hn hk
    obtain ⟨k, rfl⟩ : ∃ m, k = m + 1 := ⟨k - 1, by omega⟩
    simp only [lockfastref09_Chunks.l0, if_true]
    rw [rof_eq _ (by omega), ho]; simp only [Option.bind_some]
    rw [if_pos (by omega), w64 (x := 32 * n) (by omega), w64 (x := s + 2) (by omega), if_neg (by omega)]; congr 1; omega
  | succ d ih =>
    intro k n h0 hn hk
    obtain ⟨k, rfl⟩ : ∃ m, k = m + 1 := ⟨k - 1, by omega⟩
    simp only [lockfastref09_Chunks.l0, if_true]
    rw [rof_eq _ (by omega), ho]; simp only [Option.bind_some]
    rw [if_pos (by omega), w64 (x := 32 * n) (by omega), w64 (x := s + 2) (by omega), if_pos (by omega), w64 (x := n + 1) (by omega)]
    exact ih k (n + 1) (by omega) (by omega) (by omega)

theorem rchunks_eq (k : Nat) (hk : 200 ≤ k) (s : Int) : lockfastref09_Chunks.f k s = some (chZ s) := by
  unfold lockfastref09_Chunks.f; rw [rright_eq]; simp only [Option.bind_some]
  have cl := chZ_le s
  have ho := ofZ_cases s
  by_cases h : 0 ≤ s ∧ s ≤ 4096
  · rw [(okZ_iff s).2 h]
    by_cases h2 : 15 ≤ s
    · exact rch0 s ⟨h2, h.2⟩ (chZ s).toNat k 0 (by omega) (by omega) (by omega)
    · obtain ⟨k, rfl⟩ : ∃ m, k = m + 1 := ⟨k - 1, by omega⟩
      simp only [lockfastref09_Chunks.l0, if_true]
      rw [rof_eq _ (by omega)]; simp only [Option.bind_some]
      rw [if_neg (by omega)]; unfold chZ; rw [if_neg (by omega)]
  · have ef : okZ s = false := by rw [Bool.eq_false_iff]; rw [ne_eq, okZ_iff]; exact h
    obtain ⟨k, rfl⟩ : ∃ m, k = m + 1 := ⟨k - 1, by omega⟩
    rw [ef]; simp only [lockfastref09_Chunks.l0, Bool.false_eq_true, if_false]
    unfold chZ; rw [if_neg (by omega)]

theorem rroom_eq (k : Nat) (hk : 200 ≤ k) (s : Int) : lockfastref09_Room.f k s = some (roZ s) := by
  unfold lockfastref09_Room.f; rw [rof_eq _ (by omega), rchunks_eq _ hk]; simp only [Option.bind_some, rblock_eq]
  have cl := chZ_le s
  have ho := ofZ_cases s
  unfold roZ
  split
  · have : chZ s = 0 := by unfold chZ; rw [if_neg (by omega)]
    rw [this]; congr 1; omega
  · have e1 : ofZ s = -1 := by omega
    rw [w64 (by omega), e1]; congr 1; show _ = 0 + _; omega

theorem rmany_eq (c : Int) : lockfastref09_Many.f 40 c = some (if blZ c = 0 then 0 else 32 / blZ c) := by
  unfold lockfastref09_Many.f
  by_cases h : c = 0
  · subst h; decide +kernel
  · by_cases h1 : c = 1
    · subst h1; decide +kernel
    · by_cases h2 : c = 2
      · subst h2; decide +kernel
      · have e : blZ c = 0 := by unfold blZ; rw [if_neg h, if_neg h1, if_neg h2]
        rw [lockfastref09_Many.l0, rblock_eq, e]; rfl

theorem many_mono (k : Nat) (hk : 40 ≤ k) (c : Int) : lockfastref09_Many.f k c = some (if blZ c = 0 then 0 else 32 / blZ c) :=
  at_rounds (fun k => lockfastref09_Many.mono c k) hk (rmany_eq c)

theorem ClassTells : lockfastlaw09_ClassTells.Pure := by
  intro s c _ _
  refine ⟨200, ?_⟩
  unfold lockfastlaw09_ClassTells.f
  rw [awake_eq, cright_eq, rright_eq, cof_eq, rof_eq _ (by omega), cchunks_eq, rchunks_eq _ (by omega), croom_eq, rroom_eq _ (by omega), cblock_eq, rblock_eq, cmany_eq, many_mono _ (by omega)]
  simp only [Option.bind_some, if_true, BEq.rfl]

end Go.Proofs.YtnkigdcicnhepaaDoor.Pure
