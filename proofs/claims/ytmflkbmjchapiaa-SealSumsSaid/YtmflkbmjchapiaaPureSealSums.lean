/- The fold is linear: of three lists, XORed, the check sum is theirs, XORed. -/
import Derived.Test.YtmflkbmjchapiaaPSealSumsx2
import Derived.Test.YtmflkbmjchapiaaCrcMath
import Derived.OpenShut
namespace Go.Proofs.Ytmflkbmjchapiaa.Pure
open Go.RowKit Go.Proofs.YtmflkbmjchapiaaX Go.Proofs.Ytmflkbmjchapiaa.PSealSums Go.Proofs.YtmflkbmjchapiaaW.PrintWords Go.Proofs.YtmflkbmjchapiaaW.PrintLast Go.Proofs.YtmflkbmjchapiaaW.PrintMore

theorem words_wf {l : List Int} (h : ∀ x ∈ l, (Lit.int .u64 x).wf = true) : Words l := fun x hx => by
  have := bounds_u64 (h x hx)
  omega
theorem w64 {x : Int} (h : -9223372036854775808 ≤ x ∧ x ≤ 9223372036854775807) : wrap64 x = x := by unfold wrap64; omega
theorem words_nil : Words [] := fun x hx => by simp at hx
theorem words_app {l m : List Int} (hl : Words l) (hm : Words m) : Words (l ++ m) := fun x hx => by
  rcases List.mem_append.mp hx with h | h
  · exact hl x h
  · exact hm x h
theorem words_one {x : Int} (h0 : 0 ≤ x) (h1 : x < 18446744073709551616) : Words [x] := fun y hy => by
  have : y = x := by simpa using hy
  omega
theorem words_take {l : List Int} (hl : Words l) (n : Nat) : Words (l.take n) := fun x hx => hl x (List.mem_of_mem_take hx)
theorem words_drop {l : List Int} (hl : Words l) (n : Nat) : Words (l.drop n) := fun x hx => hl x (List.mem_of_mem_drop hx)
theorem more_nat {s : Nat} {l : List Int} (hl : Words l) (h : s < 4294967296) : seal_More.f (s : Int) l = some ((nmore s l : Nat) : Int) := congrArg some (crcMore_nat s l hl h)
theorem of_nat {l : List Int} (hl : Words l) : seal_Of.f l = some ((nmore 0 l : Nat) : Int) := by
  unfold seal_Of.f
  rw [show (0 : Int) = ((0 : Nat) : Int) from rfl, more_nat hl (by decide)]
  rfl
theorem seal_eq {l : List Int} (hl : Words l) (hs : l.length ≤ 1000) : seal_Seal.f l = some (l ++ [((nmore 0 l : Nat) : Int)]) := by
  unfold seal_Seal.f
  have hc := nmore_lt 0 l hl (by decide)
  rw [if_pos (by omega), show crcMore 0 l = ((nmore 0 l : Nat) : Int) from crcMore_nat 0 l hl (by decide), IntKind.wrap_u64, Int.emod_eq_of_lt (by omega) (by omega)]
theorem open_nil : seal_Open.f [] = some ([], false) := by
  unfold seal_Open.f
  rw [if_pos (by simp [wrap64])]
theorem open_eq {l : List Int} (x : Int) (hl : Words l) (hs : l.length ≤ 1000) : seal_Open.f (l ++ [x]) = some (if x = ((nmore 0 l : Nat) : Int) then (l, true) else ([], false)) := by
  unfold seal_Open.f
  have e : wrap64 (((l ++ [x]).length : Int) - 1) = (l.length : Int) := by
    rw [w64 (by simp; omega)]
    simp
  have hc := nmore_lt 0 l hl (by decide)
  rw [e, if_neg (by omega), if_pos (by omega), if_pos (by simp; omega), if_pos (by simp; omega), Int.toNat_natCast, List.take_left, of_nat hl]
  simp only [Option.bind_some]
  rw [show rd (l ++ [x]) (l.length : Int) = x from by simp [rd], IntKind.wrap_u64, Int.emod_eq_of_lt (by omega) (by omega)]
  by_cases c : x = ((nmore 0 l : Nat) : Int)
  · rw [if_pos c, if_pos c, if_pos (by simp; omega)]; rfl
  · rw [if_neg c, if_neg c]
theorem nmore_seven : nmore 0 [7] = 1877464688 := by decide +kernel
theorem nmore_nought : nmore 0 [0] = 1696784233 := by decide +kernel
theorem nmore_nil : nmore 0 [] = 0 := by decide +kernel
theorem awake_true : lockfastlaw02_awake.f = some true := by
  unfold lockfastlaw02_awake.f
  rw [seal_eq (words_one (by decide) (by decide)) (by decide)]
  simp only [Option.bind_some]
  rw [open_eq _ (words_one (by decide) (by decide)) (by decide), of_nat words_nil, of_nat (words_one (by decide) (by decide)), nmore_nought, nmore_nil, if_pos rfl]
  rfl

theorem nfold_snoc (l : List Int) (x : Int) (r : Nat) : nfold r (l ++ [x]) = nturn 64 (nfold r l ^^^ x.toNat) := by rw [nfold_append]; rfl
theorem take_snoc (l : List Int) (i : Nat) (h : i < l.length) : l.take (i + 1) = l.take i ++ [rd l (i : Int)] := by
  rw [List.take_succ_eq_append_getElem h]
  simp [rd, h]
theorem rd_mem (l : List Int) (i : Nat) (h : i < l.length) : rd l (i : Int) ∈ l := by
  simp [rd, h]
theorem sums_loop (a b c : List Int) (ha : Words a) (hb : Words b) (hc : Words c) (hab : b.length = a.length) (hac : c.length = a.length) (hs : a.length ≤ 40) (d : Nat) : ∀ (k i : Nat) (x : List Int), d + 1 ≤ k → i + d = a.length → x.length = i → Words x →
    nfold ones x = nfold ones (a.take i) ^^^ (nfold ones (b.take i) ^^^ nfold ones (c.take i)) → lockfastlaw02_SealSums.l0 k a b c true x (i : Int) = some true := by
  induction d with
  | zero =>
    intro k i x hk hi hx hw hf
    obtain ⟨k, rfl⟩ : ∃ k', k = k' + 1 := ⟨k - 1, by omega⟩
    simp only [lockfastlaw02_SealSums.l0]
    rw [if_neg (by omega), if_pos trivial, of_nat hw, of_nat ha, of_nat hb, of_nat hc]
    simp only [Option.bind_some]
    have la := nmore_lt 0 a ha (by decide)
    have lb := nmore_lt 0 b hb (by decide)
    have lc := nmore_lt 0 c hc (by decide)
    rw [u32_xor_nat _ _ la lb, u32_xor_nat _ _ (Nat.xor_lt_two_pow (n := 32) la lb) lc]
    have e : nmore 0 x = nmore 0 a ^^^ nmore 0 b ^^^ nmore 0 c := by
      rw [List.take_of_length_le (by omega), List.take_of_length_le (by omega), List.take_of_length_le (by omega)] at hf
      unfold nmore
      rw [Nat.xor_zero, hf]
      have g : ∀ p q r : Nat, ones ^^^ (p ^^^ (q ^^^ r)) = ones ^^^ p ^^^ (ones ^^^ q) ^^^ (ones ^^^ r) := fun p q r => by
        have g1 : ones ^^^ p ^^^ (ones ^^^ q) ^^^ (ones ^^^ r) = (ones ^^^ ones) ^^^ (ones ^^^ (p ^^^ (q ^^^ r))) := by ac_rfl
        rw [g1, Nat.xor_self, Nat.zero_xor]
      exact g _ _ _
    rw [e]
    simp
  | succ d ih =>
    intro k i x hk hi hx hw hf
    obtain ⟨k, rfl⟩ : ∃ k', k = k' + 1 := ⟨k - 1, by omega⟩
    simp only [lockfastlaw02_SealSums.l0]
    have ma := ha _ (rd_mem a i (by omega))
    have mb := hb _ (rd_mem b i (by omega))
    have mc := hc _ (rd_mem c i (by omega))
    rw [if_pos (by omega), if_pos (by omega), if_pos (by omega), if_pos (by omega), if_pos (by omega), w64 (by omega)]
    obtain ⟨p, hp⟩ := Int.eq_ofNat_of_zero_le ma.1
    obtain ⟨q, hq⟩ := Int.eq_ofNat_of_zero_le mb.1
    obtain ⟨r, hr⟩ := Int.eq_ofNat_of_zero_le mc.1
    have lp : p < 2 ^ 64 := by omega
    have lq : q < 2 ^ 64 := by omega
    have lr : r < 2 ^ 64 := by omega
    have l2 := Nat.xor_lt_two_pow lp lq
    have l3 := Nat.xor_lt_two_pow l2 lr
    rw [hp, hq, hr, u64_xor_nat p q lp lq, u64_xor_nat (p ^^^ q) r l2 lr]
    refine ih k (i + 1) _ (by omega) (by omega) (by simp [hx]) (words_app hw (words_one (by omega) (by omega))) ?_
    rw [take_snoc a i (by omega), take_snoc b i (by omega), take_snoc c i (by omega), nfold_snoc, nfold_snoc, nfold_snoc, nfold_snoc, hf, hp, hq, hr]
    simp only [Int.toNat_natCast]
    rw [← nturn_xor, ← nturn_xor]
    congr 1
    ac_rfl
theorem SealSums : lockfastlaw02_SealSums.Pure := by
  intro a b c _ _ h0 _ _ h1 _ _ h2
  refine ⟨300, ?_⟩
  unfold lockfastlaw02_SealSums.f
  rw [awake_true]
  simp only [Option.bind_some]
  by_cases e : (a.length : Int) > 40
  · rw [if_pos e]
    simp only [lockfastlaw02_SealSums.j0]
    rw [if_pos trivial]
  · rw [if_neg e]
    by_cases e1 : (b.length : Int) = (a.length : Int)
    · rw [if_pos e1]
      by_cases e2 : (c.length : Int) = (a.length : Int)
      · rw [show ((c.length : Int) != (a.length : Int)) = false from by rw [e2]; simp]
        simp only [lockfastlaw02_SealSums.j0]
        rw [if_neg (by decide)]
        exact sums_loop a b c (words_wf h0) (words_wf h1) (words_wf h2) (by omega) (by omega) (by omega) a.length 299 0 [] (by omega) (by omega) rfl words_nil (by simp [nfold])
      · rw [show ((c.length : Int) != (a.length : Int)) = true from by simpa using e2]
        simp only [lockfastlaw02_SealSums.j0]
        rw [if_pos trivial]
    · rw [if_neg e1]
      simp only [lockfastlaw02_SealSums.j0]
      rw [if_pos trivial]

end Go.Proofs.Ytmflkbmjchapiaa.Pure
