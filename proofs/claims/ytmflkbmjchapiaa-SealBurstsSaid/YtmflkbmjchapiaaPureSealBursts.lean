/- A burst of at most 32 bits leaves another check sum: long numbers that differ by a shifted number below two to the 32. -/
import Derived.Test.YtmflkbmjchapiaaPSealBurstsx2
import Derived.Test.YtmflkbmjchapiaaCrcMath
import Derived.OpenShut
namespace Go.Proofs.Ytmflkbmjchapiaa.Pure
open Go.RowKit Go.Proofs.YtmflkbmjchapiaaX Go.Proofs.Ytmflkbmjchapiaa.PSealBursts Go.Proofs.YtmflkbmjchapiaaW.PrintWords Go.Proofs.YtmflkbmjchapiaaW.PrintLast Go.Proofs.YtmflkbmjchapiaaW.PrintMore

theorem words_wf {l : List Int} (h : ∀ x ∈ l, (Lit.int .u64 x).wf = true) : Words l := fun x hx => by
  have := bounds_u64 (h x hx)
  omega
theorem w64 {x : Int} (h : -9223372036854775808 ≤ x ∧ x ≤ 9223372036854775807) : wrap64 x = x := by unfold wrap64; omega
theorem words_nil : Words [] := fun x hx => by simp at hx
theorem words_app {l m : List Int} (hl : Words l) (hm : Words m) : Words (l ++ m) := fun x hx => by
  rcases List.mem_append.mp hx with h | h
  · exact hl x h
  · exact hm x h
theorem words_one {x : Int} (h0 : 0 ≤ x) (h1 : x < 18446744073709551616) : Words [x] := fun y hy => by
  have : y = x := by simpa using hy
  omega
theorem words_take {l : List Int} (hl : Words l) (n : Nat) : Words (l.take n) := fun x hx => hl x (List.mem_of_mem_take hx)
theorem words_drop {l : List Int} (hl : Words l) (n : Nat) : Words (l.drop n) := fun x hx => hl x (List.mem_of_mem_drop hx)
theorem more_nat {s : Nat} {l : List Int} (hl : Words l) (h : s < 4294967296) : seal_More.f (s : Int) l = some ((nmore s l : Nat) : Int) := congrArg some (crcMore_nat s l hl h)
theorem of_nat {l : List Int} (hl : Words l) : seal_Of.f l = some ((nmore 0 l : Nat) : Int) := by
  unfold seal_Of.f
  rw [show (0 : Int) = ((0 : Nat) : Int) from rfl, more_nat hl (by decide)]
  rfl
theorem seal_eq {l : List Int} (hl : Words l) (hs : l.length ≤ 1000) : seal_Seal.f l = some (l ++ [((nmore 0 l : Nat) : Int)]) := by
  unfold seal_Seal.f
  have hc := nmore_lt 0 l hl (by decide)
  rw [if_pos (by omega), show crcMore 0 l = ((nmore 0 l : Nat) : Int) from crcMore_nat 0 l hl (by decide), IntKind.wrap_u64, Int.emod_eq_of_lt (by omega) (by omega)]
theorem open_nil : seal_Open.f [] = some ([], false) := by
  unfold seal_Open.f
  rw [if_pos (by simp [wrap64])]
theorem open_eq {l : List Int} (x : Int) (hl : Words l) (hs : l.length ≤ 1000) : seal_Open.f (l ++ [x]) = some (if x = ((nmore 0 l : Nat) : Int) then (l, true) else ([], false)) := by
  unfold seal_Open.f
  have e : wrap64 (((l ++ [x]).length : Int) - 1) = (l.length : Int) := by
    rw [w64 (by simp; omega)]
    simp
  have hc := nmore_lt 0 l hl (by decide)
  rw [e, if_neg (by omega), if_pos (by omega), if_pos (by simp; omega), if_pos (by simp; omega), Int.toNat_natCast, List.take_left, of_nat hl]
  simp only [Option.bind_some]
  rw [show rd (l ++ [x]) (l.length : Int) = x from by simp [rd], IntKind.wrap_u64, Int.emod_eq_of_lt (by omega) (by omega)]
  by_cases c : x = ((nmore 0 l : Nat) : Int)
  · rw [if_pos c, if_pos c, if_pos (by simp; omega)]; rfl
  · rw [if_neg c, if_neg c]
theorem nmore_seven : nmore 0 [7] = 1877464688 := by decide +kernel
theorem nmore_nought : nmore 0 [0] = 1696784233 := by decide +kernel
theorem nmore_nil : nmore 0 [] = 0 := by decide +kernel
theorem awake_true : lockfastlaw02_awake.f = some true := by
  unfold lockfastlaw02_awake.f
  rw [seal_eq (words_one (by decide) (by decide)) (by decide)]
  simp only [Option.bind_some]
  rw [open_eq _ (words_one (by decide) (by decide)) (by decide), of_nat words_nil, of_nat (words_one (by decide) (by decide)), nmore_nought, nmore_nil, if_pos rfl]
  rfl
theorem words_loop (l m : List Int) (hlen : l.length = m.length) (hs : l.length ≤ 1000) (d : Nat) : ∀ (k i : Nat), d + 1 ≤ k → i + d = l.length → lockfastref01_Words.l0 k l m (i : Int) = some (decide (l.drop i = m.drop i)) := by
  induction d with
  | zero =>
    intro k i hk hi
    obtain ⟨k, rfl⟩ : ∃ k', k = k' + 1 := ⟨k - 1, by omega⟩
    simp only [lockfastref01_Words.l0]
    rw [if_neg (by omega), List.drop_eq_nil_of_le (by omega), List.drop_eq_nil_of_le (by omega)]
    simp
  | succ d ih =>
    intro k i hk hi
    obtain ⟨k, rfl⟩ : ∃ k', k = k' + 1 := ⟨k - 1, by omega⟩
    have h1 : l.drop i = rd l (i : Int) :: l.drop (i + 1) := by
      rw [List.drop_eq_getElem_cons (by omega)]
      simp [rd, show i < l.length from by omega]
    have h2 : m.drop i = rd m (i : Int) :: m.drop (i + 1) := by
      rw [List.drop_eq_getElem_cons (by omega)]
      simp [rd, show i < m.length from by omega]
    simp only [lockfastref01_Words.l0]
    rw [if_pos (by omega), if_pos (by omega), if_pos (by omega), h1, h2]
    by_cases e : rd l (i : Int) = rd m (i : Int)
    · rw [if_pos e, e, w64 (by omega), show (i : Int) + 1 = ((i + 1 : Nat) : Int) from rfl, ih k (i + 1) (by omega) (by omega)]
      simp
    · rw [if_neg e]
      simp [e]
theorem wordsf_eq (k : Nat) (l m : List Int) (hs : l.length ≤ 1000) (hk : l.length + 1 ≤ k) : lockfastref01_Words.f k l m = some (decide (l = m)) := by
  unfold lockfastref01_Words.f
  by_cases e : l.length = m.length
  · rw [if_pos (by omega)]
    have h := words_loop l m e hs l.length k 0 (by omega) (by omega)
    simpa using h
  · rw [if_neg (by omega)]
    have : l ≠ m := fun h => e (by rw [h])
    simp [this]
theorem rd_in (l : List Int) (i : Nat) (h : i < l.length) : rd l (i : Int) ∈ l := by
  simp [rd, h]
/-- A bit of a number of 32, as the law asks for it. -/
theorem shr_bit (b i : Nat) (hb : b < 4294967296) (hi : i < 32) : Go.bits .and .u32 (shr .u32 (b : Int) (i : Int)) 1 = ((b / 2 ^ i % 2 : Nat) : Int) := by
  have h1 : shr .u32 (b : Int) (i : Int) = ((b / 2 ^ i : Nat) : Int) := by
    unfold shr
    rw [Int.toNat_natCast, show min i IntKind.u32.bits = i from by simp only [IntKind.bits]; omega]
    simp
  rw [h1, show (1 : Int) = ((1 : Nat) : Int) from rfl, u32_and_nat _ _ (Nat.lt_of_le_of_lt (Nat.div_le_self _ _) hb) (by decide), nat_mask1]
theorem shl_one (i : Nat) (hi : i < 64) : shl .u64 1 (i : Int) = ((2 ^ i : Nat) : Int) := by
  have h : 2 ^ i < 2 ^ 64 := Nat.pow_lt_pow_right (by omega) hi
  unfold shl
  rw [Int.toNat_natCast, show min i IntKind.u64.bits = i from by simp only [IntKind.bits]; omega, IntKind.wrap_u64, Int.one_mul, show (2 : Int) ^ i = ((2 ^ i : Nat) : Int) from by simp]
  generalize 2 ^ i = n at h ⊢
  omega
/-- One bit of a row of words, turned. -/
theorem flip_big (x : List Int) (hw : Words x) (p : Nat) (h : p < 64 * x.length) :
    (x.set ((p / 64 : Nat) : Int).toNat (Go.bits .xor .u64 (rd x ((p / 64 : Nat) : Int)) (shl .u64 1 ((p % 64 : Nat) : Int)))).length = x.length ∧
    Words (x.set ((p / 64 : Nat) : Int).toNat (Go.bits .xor .u64 (rd x ((p / 64 : Nat) : Int)) (shl .u64 1 ((p % 64 : Nat) : Int)))) ∧
    big (x.set ((p / 64 : Nat) : Int).toNat (Go.bits .xor .u64 (rd x ((p / 64 : Nat) : Int)) (shl .u64 1 ((p % 64 : Nat) : Int)))) = big x ^^^ 2 ^ p := by
  have hj : p / 64 < x.length := by omega
  have hm : rd x ((p / 64 : Nat) : Int) ∈ x := rd_in x _ hj
  have hr := hw _ hm
  obtain ⟨n, hn⟩ := Int.eq_ofNat_of_zero_le hr.1
  have hn2 : n < 2 ^ 64 := by omega
  have hp2 : 2 ^ (p % 64) < 2 ^ 64 := Nat.pow_lt_pow_right (by omega) (by omega)
  have hv : Go.bits .xor .u64 (rd x ((p / 64 : Nat) : Int)) (shl .u64 1 ((p % 64 : Nat) : Int)) = (((rd x ((p / 64 : Nat) : Int)).toNat ^^^ 2 ^ (p % 64) : Nat) : Int) := by
    rw [shl_one _ (by omega), hn, u64_xor_nat _ _ hn2 hp2, Int.toNat_natCast]
  have hlt : (rd x ((p / 64 : Nat) : Int)).toNat ^^^ 2 ^ (p % 64) < 2 ^ 64 := by
    rw [hn, Int.toNat_natCast]; exact Nat.xor_lt_two_pow hn2 hp2
  rw [hv, Int.toNat_natCast]
  refine ⟨by simp, fun y hy => ?_, ?_⟩
  · rcases List.mem_or_eq_of_mem_set hy with hy | hy
    · exact hw y hy
    · rw [hy]; omega
  · rw [big_set x (p / 64) _ hj (fun y hy => (hw y hy).1), ← Nat.pow_add, show 64 * (p / 64) + p % 64 = p from by omega]

theorem bursts_loop (l : List Int) (by_ : Nat) (hb : by_ < 4294967296) (hl : Words l) (hs : l.length ≤ 40) (K : Nat) (hK : K < 64 * l.length) (d : Nat) : ∀ (k i : Nat) (x : List Int), 2 * d + 100 ≤ k → i + d = 32 → K + i ≤ 64 * l.length → x.length = l.length → Words x →
    big x = big l ^^^ (2 ^ K * (by_ % 2 ^ i)) → (by_ % 2 ^ i = 0 → x = l) → lockfastlaw02_SealBursts.l0 k l (by_ : Int) true x (K : Int) (i : Int) = some true := by
  have fin : ∀ (k i : Nat) (x : List Int), 60 ≤ k → x.length = l.length → Words x → i ≤ 32 → big x = big l ^^^ (2 ^ K * (by_ % 2 ^ i)) → (by_ % 2 ^ i = 0 → x = l) → lockfastlaw02_SealBursts.j2 k l (by_ : Int) true x (K : Int) (i : Int) false = some true := by
    intro k i x hk hx hw hi hbig hz
    obtain ⟨k, rfl⟩ : ∃ k', k = k' + 1 := ⟨k - 1, by omega⟩
    simp only [lockfastlaw02_SealBursts.j2]
    have hc := nmore_lt 0 l hl (by decide)
    rw [if_neg (by decide), wordsf_eq k l x (by omega) (by omega), Option.bind_some, of_nat hl, Option.bind_some, if_pos (by omega), IntKind.wrap_u64, show ((nmore 0 l : Nat) : Int) % 18446744073709551616 = ((nmore 0 l : Nat) : Int) from by omega, open_eq _ hw (by omega), Option.bind_some, if_pos trivial, Option.bind_some, of_nat hw, Option.bind_some]
    have hlt : by_ % 2 ^ i < 2 ^ 32 := Nat.lt_of_le_of_lt (Nat.mod_le _ _) hb
    by_cases e : x = l
    · subst e
      simp
    · have e2 : nmore 0 l ≠ nmore 0 x := fun h => e (hz (nmore_burst 0 K _ l x hx.symm (by omega) hlt hbig h))
      have e3 : ¬ (((nmore 0 l : Nat) : Int) = ((nmore 0 x : Nat) : Int)) := by omega
      have e4 : ¬ l = x := fun h => e h.symm
      rw [if_neg e3]
      simp [e3, e4]
  induction d with
  | zero =>
    intro k i x hk hi hKi hx hw hbig hz
    obtain ⟨k, rfl⟩ : ∃ k', k = k' + 1 := ⟨k - 1, by omega⟩
    simp only [lockfastlaw02_SealBursts.l0]
    rw [if_neg (by omega)]
    exact fin k i x (by omega) hx hw (by omega) hbig hz
  | succ d ih =>
    intro k i x hk hi hKi hx hw hbig hz
    obtain ⟨k, rfl⟩ : ∃ k', k = k' + 2 := ⟨k - 2, by omega⟩
    simp only [lockfastlaw02_SealBursts.l0]
    rw [if_pos (by omega), w64 (by omega), w64 (by omega)]
    by_cases e : (K : Int) + (i : Int) < 64 * (l.length : Int)
    · rw [decide_eq_true e]
      simp only [lockfastlaw02_SealBursts.j2]
      have hs2 : by_ % 2 ^ (i + 1) = by_ % 2 ^ i + 2 ^ i * (by_ / 2 ^ i % 2) := Nat.mod_pow_succ
      rw [if_pos trivial, if_pos (by omega), shr_bit by_ i hb (by omega), w64 (show -9223372036854775808 ≤ (i : Int) + 1 ∧ (i : Int) + 1 ≤ 9223372036854775807 from by omega)]
      by_cases e1 : by_ / 2 ^ i % 2 = 1
      · rw [e1, if_pos (show ((1 : Nat) : Int) = 1 from rfl)]
        rw [show wrap64 ((K : Int) + (i : Int)) = ((K + i : Nat) : Int) from by rw [w64 (by omega)]; omega]
        rw [show Int.tdiv ((K + i : Nat) : Int) 64 = (((K + i) / 64 : Nat) : Int) from Int.tdiv_eq_ediv_of_nonneg (by omega), show Int.tmod ((K + i : Nat) : Int) 64 = (((K + i) % 64 : Nat) : Int) from Int.tmod_eq_emod_of_nonneg (by omega)]
        rw [w64 (by omega), if_pos (by omega), if_pos (by omega), if_pos (by omega)]
        obtain ⟨h1, h2, h3⟩ := flip_big x hw (K + i) (by omega)
        refine ih (k + 0) (i + 1) _ (by omega) (by omega) (by omega) (by rw [h1]; exact hx) h2 ?_ ?_
        · rw [h3, hbig, hs2, e1, Nat.mul_one, Nat.pow_add, Nat.xor_assoc, ← mul_xor]
          congr 2
          have hx1 := xor_low i (by_ % 2 ^ i) 1 (Nat.mod_lt _ (Nat.two_pow_pos i))
          rw [Nat.mul_one] at hx1
          omega
        · intro h
          rw [hs2, e1] at h
          have := Nat.two_pow_pos i
          omega
      · have e0 : by_ / 2 ^ i % 2 = 0 := by omega
        rw [e0, if_neg (by decide)]
        refine ih (k + 0) (i + 1) x (by omega) (by omega) (by omega) hx hw ?_ ?_
        · rw [hs2, e0, Nat.mul_zero, Nat.add_zero]; exact hbig
        · rw [hs2, e0, Nat.mul_zero, Nat.add_zero]; exact hz
    · rw [decide_eq_false e]
      exact fin (k + 1) i x (by omega) hx hw (by omega) hbig hz
theorem SealBursts : lockfastlaw02_SealBursts.Pure := by
  intro l a1 a2 _ _ h0 h1 h2
  refine ⟨300, ?_⟩
  have hA := bounds_u16 h1
  have hB := bounds_u32 h2
  have hw := words_wf h0
  obtain ⟨at_, rfl⟩ := Int.eq_ofNat_of_zero_le hA.1
  obtain ⟨by_, rfl⟩ := Int.eq_ofNat_of_zero_le hB.1
  unfold lockfastlaw02_SealBursts.f
  rw [awake_true, Option.bind_some]
  by_cases e : (l.length : Int) = 0
  · rw [if_pos e]
    simp only [lockfastlaw02_SealBursts.j0]
    rw [if_pos trivial]
  · rw [if_neg e]
    by_cases e1 : (l.length : Int) > 40
    · rw [decide_eq_true e1]
      simp only [lockfastlaw02_SealBursts.j0]
      rw [if_pos trivial]
    · rw [decide_eq_false e1]
      simp only [lockfastlaw02_SealBursts.j0]
      rw [if_neg (by decide), Option.bind_some, if_pos (by simp; omega), w64 (by omega), w64 (by omega), if_neg (by omega), List.nil_append]
      have hp : 0 < 64 * l.length := by omega
      have hlt := Nat.mod_lt at_ hp
      rw [show Int.tmod (at_ : Int) (64 * (l.length : Int)) = ((at_ % (64 * l.length) : Nat) : Int) from by rw [Int.tmod_eq_emod_of_nonneg (by omega)]; rfl]
      exact bursts_loop l by_ (by omega) hw (by omega) (at_ % (64 * l.length)) hlt 32 299 0 l (by omega) (by omega) (by omega) rfl hw (by rw [Nat.pow_zero, Nat.mod_one, Nat.mul_zero, Nat.xor_zero]) (fun _ => rfl)

end Go.Proofs.Ytmflkbmjchapiaa.Pure
