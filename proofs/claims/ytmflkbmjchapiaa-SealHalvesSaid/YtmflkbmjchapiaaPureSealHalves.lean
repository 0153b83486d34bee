/- Unlike check sums stay unlike behind the same words: the fold is one to one. -/
import Derived.Test.YtmflkbmjchapiaaPSealHalvesx1
import Derived.Test.YtmflkbmjchapiaaCrcMath
import Derived.OpenShut
namespace Go.Proofs.Ytmflkbmjchapiaa.Pure
open Go.RowKit Go.Proofs.YtmflkbmjchapiaaX Go.Proofs.Ytmflkbmjchapiaa.PSealHalves Go.Proofs.YtmflkbmjchapiaaW.PrintWords Go.Proofs.YtmflkbmjchapiaaW.PrintLast Go.Proofs.YtmflkbmjchapiaaW.PrintMore

theorem words_wf {l : List Int} (h : ∀ x ∈ l, (Lit.int .u64 x).wf = true) : Words l := fun x hx => by
  have := bounds_u64 (h x hx)
  omega
theorem w64 {x : Int} (h : -9223372036854775808 ≤ x ∧ x ≤ 9223372036854775807) : wrap64 x = x := by unfold wrap64; omega
theorem words_nil : Words [] := fun x hx => by simp at hx
theorem words_app {l m : List Int} (hl : Words l) (hm : Words m) : Words (l ++ m) := fun x hx => by
  rcases List.mem_append.mp hx with h | h
  · exact hl x h
  · exact hm x h
theorem words_one {x : Int} (h0 : 0 ≤ x) (h1 : x < 18446744073709551616) : Words [x] := fun y hy => by
  have : y = x := by simpa using hy
  omega
theorem words_take {l : List Int} (hl : Words l) (n : Nat) : Words (l.take n) := fun x hx => hl x (List.mem_of_mem_take hx)
theorem words_drop {l : List Int} (hl : Words l) (n : Nat) : Words (l.drop n) := fun x hx => hl x (List.mem_of_mem_drop hx)
theorem more_nat {s : Nat} {l : List Int} (hl : Words l) (h : s < 4294967296) : seal_More.f (s : Int) l = some ((nmore s l : Nat) : Int) := congrArg some (crcMore_nat s l hl h)
theorem of_nat {l : List Int} (hl : Words l) : seal_Of.f l = some ((nmore 0 l : Nat) : Int) := by
  unfold seal_Of.f
  rw [show (0 : Int) = ((0 : Nat) : Int) from rfl, more_nat hl (by decide)]
  rfl
theorem seal_eq {l : List Int} (hl : Words l) (hs : l.length ≤ 1000) : seal_Seal.f l = some (l ++ [((nmore 0 l : Nat) : Int)]) := by
  unfold seal_Seal.f
  have hc := nmore_lt 0 l hl (by decide)
  rw [if_pos (by omega), show crcMore 0 l = ((nmore 0 l : Nat) : Int) from crcMore_nat 0 l hl (by decide), IntKind.wrap_u64, Int.emod_eq_of_lt (by omega) (by omega)]
theorem open_nil : seal_Open.f [] = some ([], false) := by
  unfold seal_Open.f
  rw [if_pos (by simp [wrap64])]
theorem open_eq {l : List Int} (x : Int) (hl : Words l) (hs : l.length ≤ 1000) : seal_Open.f (l ++ [x]) = some (if x = ((nmore 0 l : Nat) : Int) then (l, true) else ([], false)) := by
  unfold seal_Open.f
  have e : wrap64 (((l ++ [x]).length : Int) - 1) = (l.length : Int) := by
    rw [w64 (by simp; omega)]
    simp
  have hc := nmore_lt 0 l hl (by decide)
  rw [e, if_neg (by omega), if_pos (by omega), if_pos (by simp; omega), if_pos (by simp; omega), Int.toNat_natCast, List.take_left, of_nat hl]
  simp only [Option.bind_some]
  rw [show rd (l ++ [x]) (l.length : Int) = x from by simp [rd], IntKind.wrap_u64, Int.emod_eq_of_lt (by omega) (by omega)]
  by_cases c : x = ((nmore 0 l : Nat) : Int)
  · rw [if_pos c, if_pos c, if_pos (by simp; omega)]; rfl
  · rw [if_neg c, if_neg c]
theorem nmore_seven : nmore 0 [7] = 1877464688 := by decide +kernel
theorem nmore_nought : nmore 0 [0] = 1696784233 := by decide +kernel
theorem nmore_nil : nmore 0 [] = 0 := by decide +kernel
theorem awake_true : lockfastlaw02_awake.f = some true := by
  unfold lockfastlaw02_awake.f
  rw [seal_eq (words_one (by decide) (by decide)) (by decide)]
  simp only [Option.bind_some]
  rw [open_eq _ (words_one (by decide) (by decide)) (by decide), of_nat words_nil, of_nat (words_one (by decide) (by decide)), nmore_nought, nmore_nil, if_pos rfl]
  rfl

theorem SealHalves : lockfastlaw02_SealHalves.Pure := by
  intro a0 a1 l2 ha hb _ _ h2
  have hw := words_wf h2
  have hA := bounds_u32 ha
  have hB := bounds_u32 hb
  obtain ⟨s, rfl⟩ := Int.eq_ofNat_of_zero_le hA.1
  obtain ⟨t, rfl⟩ := Int.eq_ofNat_of_zero_le hB.1
  unfold lockfastlaw02_SealHalves.f
  rw [awake_true]
  simp only [Option.bind_some]
  by_cases c : (l2.length : Int) > 40
  · rw [if_pos c]
  · rw [if_neg c, if_pos trivial, more_nat hw (by omega), more_nat hw (by omega)]
    simp only [Option.bind_some, Option.some.injEq]
    by_cases e : s = t
    · subst e; simp
    · have hn : nmore s l2 ≠ nmore t l2 := fun h => e (nmore_inj s t l2 (by omega) (by omega) h)
      rw [show (((nmore s l2 : Nat) : Int) == ((nmore t l2 : Nat) : Int)) = false from beq_eq_false_iff_ne.mpr (by omega), show ((s : Int) == (t : Int)) = false from beq_eq_false_iff_ne.mpr (by omega)]; rfl

end Go.Proofs.Ytmflkbmjchapiaa.Pure
