/- The check sum is the bit by bit one: a byte of the table is eight steps, a word sixty-four. -/
import Derived.Test.YtmflkbmjchapiaaPSealTellsx2
import Derived.Test.YtmflkbmjchapiaaCrcMath
import Derived.OpenShut
namespace Go.Proofs.Ytmflkbmjchapiaa.Pure
open Go.RowKit Go.Proofs.YtmflkbmjchapiaaX Go.Proofs.Ytmflkbmjchapiaa.PSealTells Go.Proofs.YtmflkbmjchapiaaW.PrintWords Go.Proofs.YtmflkbmjchapiaaW.PrintLast Go.Proofs.YtmflkbmjchapiaaW.PrintMore

theorem words_wf {l : List Int} (h : ∀ x ∈ l, (Lit.int .u64 x).wf = true) : Words l := fun x hx => by
  have := bounds_u64 (h x hx)
  omega
theorem w64 {x : Int} (h : -9223372036854775808 ≤ x ∧ x ≤ 9223372036854775807) : wrap64 x = x := by unfold wrap64; omega
theorem words_nil : Words [] := fun x hx => by simp at hx
theorem words_app {l m : List Int} (hl : Words l) (hm : Words m) : Words (l ++ m) := fun x hx => by
  rcases List.mem_append.mp hx with h | h
  · exact hl x h
  · exact hm x h
theorem words_one {x : Int} (h0 : 0 ≤ x) (h1 : x < 18446744073709551616) : Words [x] := fun y hy => by
  have : y = x := by simpa using hy
  omega
theorem words_take {l : List Int} (hl : Words l) (n : Nat) : Words (l.take n) := fun x hx => hl x (List.mem_of_mem_take hx)
theorem words_drop {l : List Int} (hl : Words l) (n : Nat) : Words (l.drop n) := fun x hx => hl x (List.mem_of_mem_drop hx)
theorem more_nat {s : Nat} {l : List Int} (hl : Words l) (h : s < 4294967296) : seal_More.f (s : Int) l = some ((nmore s l : Nat) : Int) := congrArg some (crcMore_nat s l hl h)
theorem of_nat {l : List Int} (hl : Words l) : seal_Of.f l = some ((nmore 0 l : Nat) : Int) := by
  unfold seal_Of.f
  rw [show (0 : Int) = ((0 : Nat) : Int) from rfl, more_nat hl (by decide)]
  rfl
theorem seal_eq {l : List Int} (hl : Words l) (hs : l.length ≤ 1000) : seal_Seal.f l = some (l ++ [((nmore 0 l : Nat) : Int)]) := by
  unfold seal_Seal.f
  have hc := nmore_lt 0 l hl (by decide)
  rw [if_pos (by omega), show crcMore 0 l = ((nmore 0 l : Nat) : Int) from crcMore_nat 0 l hl (by decide), IntKind.wrap_u64, Int.emod_eq_of_lt (by omega) (by omega)]
theorem open_nil : seal_Open.f [] = some ([], false) := by
  unfold seal_Open.f
  rw [if_pos (by simp [wrap64])]
theorem open_eq {l : List Int} (x : Int) (hl : Words l) (hs : l.length ≤ 1000) : seal_Open.f (l ++ [x]) = some (if x = ((nmore 0 l : Nat) : Int) then (l, true) else ([], false)) := by
  unfold seal_Open.f
  have e : wrap64 (((l ++ [x]).length : Int) - 1) = (l.length : Int) := by
    rw [w64 (by simp; omega)]
    simp
  have hc := nmore_lt 0 l hl (by decide)
  rw [e, if_neg (by omega), if_pos (by omega), if_pos (by simp; omega), if_pos (by simp; omega), Int.toNat_natCast, List.take_left, of_nat hl]
  simp only [Option.bind_some]
  rw [show rd (l ++ [x]) (l.length : Int) = x from by simp [rd], IntKind.wrap_u64, Int.emod_eq_of_lt (by omega) (by omega)]
  by_cases c : x = ((nmore 0 l : Nat) : Int)
  · rw [if_pos c, if_pos c, if_pos (by simp; omega)]; rfl
  · rw [if_neg c, if_neg c]
theorem nmore_seven : nmore 0 [7] = 1877464688 := by decide +kernel
theorem nmore_nought : nmore 0 [0] = 1696784233 := by decide +kernel
theorem nmore_nil : nmore 0 [] = 0 := by decide +kernel
theorem awake_true : lockfastlaw02_awake.f = some true := by
  unfold lockfastlaw02_awake.f
  rw [seal_eq (words_one (by decide) (by decide)) (by decide)]
  simp only [Option.bind_some]
  rw [open_eq _ (words_one (by decide) (by decide)) (by decide), of_nat words_nil, of_nat (words_one (by decide) (by decide)), nmore_nought, nmore_nil, if_pos rfl]
  rfl
theorem tdiv_nat (a b : Nat) : Int.tdiv (a : Int) (b : Int) = ((a / b : Nat) : Int) := by
  rw [Int.tdiv_eq_ediv_of_nonneg (by omega)]; rfl
theorem tmod_nat (a b : Nat) : Int.tmod (a : Int) (b : Int) = ((a % b : Nat) : Int) := by
  rw [Int.tmod_eq_emod_of_nonneg (by omega)]; rfl
theorem bit_xor (a b i : Nat) : (a ^^^ b) / 2 ^ i % 2 = (a / 2 ^ i % 2 + b / 2 ^ i % 2) % 2 := by
  rw [← Nat.shiftRight_eq_div_pow, Nat.shiftRight_xor_distrib, xor_mod2, Nat.shiftRight_eq_div_pow, Nat.shiftRight_eq_div_pow]
theorem pow_le_of (i : Nat) (h : i ≤ 31) : 1 ≤ 2 ^ i ∧ 2 ^ i ≤ 2147483648 := ⟨Nat.one_le_two_pow, Nat.le_trans (Nat.pow_le_pow_right (by omega) h) (by decide)⟩
theorem xor_loop (a b : Nat) (ha : a < 4294967296) (hb : b < 4294967296) (d : Nat) : ∀ (k i : Nat), d + 1 ≤ k → i + d = 32 → lockfastref02_xor.l0 k (a : Int) (b : Int) (((a ^^^ b) % 2 ^ i : Nat) : Int) ((2 ^ min i 31 : Nat) : Int) (i : Int) = some ((a ^^^ b : Nat) : Int) := by
  induction d with
  | zero =>
    intro k i hk hi
    obtain ⟨k, rfl⟩ : ∃ k', k = k' + 1 := ⟨k - 1, by omega⟩
    obtain rfl : i = 32 := by omega
    have hx : a ^^^ b < 2 ^ 32 := Nat.xor_lt_two_pow ha hb
    simp only [lockfastref02_xor.l0]
    rw [if_neg (by decide), Nat.mod_eq_of_lt hx]
  | succ d ih =>
    intro k i hk hi
    obtain ⟨k, rfl⟩ : ∃ k', k = k' + 1 := ⟨k - 1, by omega⟩
    have hp := pow_le_of i (by omega)
    have ha2 : a / 2 ^ i < 4294967296 := Nat.lt_of_le_of_lt (Nat.div_le_self _ _) ha
    have hb2 : b / 2 ^ i < 4294967296 := Nat.lt_of_le_of_lt (Nat.div_le_self _ _) hb
    have hx := bit_xor a b i
    have hs : (a ^^^ b) % 2 ^ (i + 1) = (a ^^^ b) % 2 ^ i + 2 ^ i * ((a ^^^ b) / 2 ^ i % 2) := Nat.mod_pow_succ
    have hlt : (a ^^^ b) % 2 ^ i < 2 ^ i := Nat.mod_lt _ (by omega)
    have ih1 := ih k (i + 1) (by omega) (by omega)
    rw [hs] at ih1
    have hm : min i 31 = i := by omega
    simp only [lockfastref02_xor.l0]
    rw [hm, if_pos (by omega), if_neg (by omega), tdiv_nat, tdiv_nat]
    by_cases e : a / 2 ^ i % 2 = b / 2 ^ i % 2
    · rw [if_pos (by omega)]
      have hz : (a ^^^ b) / 2 ^ i % 2 = 0 := by omega
      rw [hz, Nat.mul_zero, Nat.add_zero] at ih1
      by_cases e2 : (i : Int) < 31
      · have hw : min (i + 1) 31 = i + 1 := by omega
        have hp2 := pow_le_of (i + 1) (by omega)
        rw [hw] at ih1
        rw [if_pos e2, w64 (by omega), show ((2 : Int) * ((2 ^ i : Nat) : Int)) % 4294967296 = ((2 ^ (i + 1) : Nat) : Int) from by rw [Nat.pow_succ] at hp2 ⊢; omega]
        exact ih1
      · obtain rfl : i = 31 := by omega
        rw [if_neg e2, w64 (by omega)]
        exact ih1
    · rw [if_neg (by omega)]
      have hz : (a ^^^ b) / 2 ^ i % 2 = 1 := by omega
      rw [hz, Nat.mul_one] at ih1
      have hsum : ((((a ^^^ b) % 2 ^ i : Nat) : Int) + ((2 ^ i : Nat) : Int)) % 4294967296 = (((a ^^^ b) % 2 ^ i + 2 ^ i : Nat) : Int) := by omega
      by_cases e2 : (i : Int) < 31
      · have hw : min (i + 1) 31 = i + 1 := by omega
        have hp2 := pow_le_of (i + 1) (by omega)
        rw [hw] at ih1
        rw [if_pos e2, w64 (by omega), hsum, show ((2 : Int) * ((2 ^ i : Nat) : Int)) % 4294967296 = ((2 ^ (i + 1) : Nat) : Int) from by rw [Nat.pow_succ] at hp2 ⊢; omega]
        exact ih1
      · obtain rfl : i = 31 := by omega
        rw [if_neg e2, w64 (by omega), hsum]
        exact ih1
theorem xor_eq (a b k : Nat) (ha : a < 4294967296) (hb : b < 4294967296) (hk : 40 ≤ k) : lockfastref02_xor.f k (a : Int) (b : Int) = some ((a ^^^ b : Nat) : Int) := by
  have h := xor_loop a b ha hb 32 k 0 (by omega) (by omega)
  rw [Nat.pow_zero, Nat.mod_one] at h
  exact h
theorem on_loop (d : Nat) : ∀ (k i r w : Nat), d + 41 ≤ k → i + d = 64 → r < 4294967296 → w < 2 ^ d → lockfastref02_On.l0 k (r : Int) (w : Int) (i : Int) = some ((nturn d (r ^^^ w) : Nat) : Int) := by
  induction d with
  | zero =>
    intro k i r w hk hi hr hw
    obtain ⟨k, rfl⟩ : ∃ k', k = k' + 1 := ⟨k - 1, by omega⟩
    obtain rfl : i = 64 := by omega
    obtain rfl : w = 0 := by omega
    simp only [lockfastref02_On.l0]
    rw [if_neg (by decide), Nat.xor_zero, nturn_0]
  | succ d ih =>
    intro k i r w hk hi hr hw
    obtain ⟨k, rfl⟩ : ∃ k', k = k' + 1 := ⟨k - 1, by omega⟩
    have hw64 : w < 2 ^ 64 := Nat.lt_of_lt_of_le hw (Nat.pow_le_pow_right (by omega) (by omega))
    have hw2 : w / 2 < 2 ^ d := by rw [Nat.pow_succ] at hw; omega
    simp only [lockfastref02_On.l0]
    have t1 : Int.tmod (r : Int) 2 = ((r % 2 : Nat) : Int) := tmod_nat r 2
    have t2 : Int.tmod (w : Int) 2 = ((w % 2 : Nat) : Int) := tmod_nat w 2
    have t3 : Int.tdiv (r : Int) 2 = ((r / 2 : Nat) : Int) := tdiv_nat r 2
    have t4 : Int.tdiv (w : Int) 2 = ((w / 2 : Nat) : Int) := tdiv_nat w 2
    rw [if_pos (by omega), t1, t2, t3, t4, IntKind.wrap_u64, IntKind.wrap_u64, w64 (by omega), show ((r / 2 : Nat) : Int) % 4294967296 = ((r / 2 : Nat) : Int) from by omega, show ((w / 2 : Nat) : Int) % 18446744073709551616 = ((w / 2 : Nat) : Int) from by omega,
      nturn_s]
    have hn : nstep (r ^^^ w) = if (r % 2 + w % 2) % 2 = 1 then (r / 2 ^^^ w / 2) ^^^ 3988292384 else r / 2 ^^^ w / 2 := by
      unfold nstep
      rw [xor_mod2, xor_div2]
    by_cases e : r % 2 = w % 2
    · rw [if_pos (by omega), hn, if_neg (by omega)]
      exact ih k (i + 1) (r / 2) (w / 2) (by omega) (by omega) (by omega) hw2
    · have hx : r / 2 ^^^ 3988292384 < 2 ^ 32 := Nat.xor_lt_two_pow (by omega) (by omega)
      rw [if_neg (by omega), show (3988292384 : Int) = ((3988292384 : Nat) : Int) from rfl, xor_eq _ _ _ (by omega) (by omega) (by omega), hn, if_pos (by omega)]
      have h := ih k (i + 1) (r / 2 ^^^ 3988292384) (w / 2) (by omega) (by omega) hx hw2
      rw [Nat.xor_assoc, Nat.xor_comm 3988292384, ← Nat.xor_assoc] at h
      exact h
theorem on_eq (k r w : Nat) (hk : 110 ≤ k) (hr : r < 4294967296) (hw : w < 2 ^ 64) : lockfastref02_On.f k (r : Int) (w : Int) = some ((nturn 64 (r ^^^ w) : Nat) : Int) :=
  on_loop 64 k 0 r w (by omega) (by omega) hr hw
theorem ones_sub (x : Nat) (h : x < 4294967296) : 4294967295 - x = ones ^^^ x := by
  apply Nat.eq_of_testBit_eq
  intro i
  have h1 := Nat.testBit_two_pow_sub_succ (n := 32) h i
  rw [show (2 : Nat) ^ 32 - (x + 1) = 4294967295 - x from by omega] at h1
  have h2 : ones.testBit i = decide (i < 32) := by
    have h3 := Nat.testBit_two_pow_sub_succ (n := 32) (x := 0) (by decide) i
    show Nat.testBit 4294967295 i = _
    simpa using h3
  rw [h1, Nat.testBit_xor, h2]
  by_cases e : i < 32
  · simp [e]
  · have h4 : x.testBit i = false := Nat.testBit_lt_two_pow (Nat.lt_of_lt_of_le (show x < 2 ^ 32 from h) (show 2 ^ 32 ≤ 2 ^ i from Nat.pow_le_pow_right (by omega) (by omega)))
    simp [e, h4]
theorem rd_drop (l : List Int) (i : Nat) (h : i < l.length) : l.drop i = rd l (i : Int) :: l.drop (i + 1) := by
  rw [List.drop_eq_getElem_cons h]
  simp [rd, h]
theorem more_loop (l : List Int) (hl : Words l) (hs : l.length ≤ 1000) (d : Nat) : ∀ (k i r : Nat), d + 120 ≤ k → i + d = l.length → r < 4294967296 → lockfastref02_More.l0 k l (r : Int) (i : Int) = some ((ones ^^^ nfold r (l.drop i) : Nat) : Int) := by
  induction d with
  | zero =>
    intro k i r hk hi hr
    obtain ⟨k, rfl⟩ : ∃ k', k = k' + 1 := ⟨k - 1, by omega⟩
    simp only [lockfastref02_More.l0]
    rw [if_neg (by omega), show ((4294967295 : Int) - (r : Int)) % 4294967296 = ((4294967295 - r : Nat) : Int) from by omega, ones_sub r hr, List.drop_eq_nil_of_le (by omega)]
    rfl
  | succ d ih =>
    intro k i r hk hi hr
    obtain ⟨k, rfl⟩ : ∃ k', k = k' + 1 := ⟨k - 1, by omega⟩
    have hd := rd_drop l i (by omega)
    have hm : rd l (i : Int) ∈ l := List.mem_of_mem_drop (i := i) (by rw [hd]; simp)
    have hw := hl _ hm
    simp only [lockfastref02_More.l0]
    rw [if_pos (by omega), if_pos (by omega), hd, w64 (by omega)]
    obtain ⟨n, hn⟩ := Int.eq_ofNat_of_zero_le hw.1
    rw [hn, on_eq k r n (by omega) hr (by omega)]
    exact ih k (i + 1) (nturn 64 (r ^^^ n)) (by omega) (by omega) (nturn64_lt r n hr (by omega))
theorem refmore_eq (s k : Nat) (l : List Int) (hl : Words l) (hs : l.length ≤ 1000) (hk : l.length + 120 ≤ k) (h : s < 4294967296) : lockfastref02_More.f k (s : Int) l = some ((nmore s l : Nat) : Int) := by
  have h1 := more_loop l hl hs l.length k 0 (ones ^^^ s) (by omega) (by omega) (ones_lt s h)
  unfold lockfastref02_More.f
  rw [show ((4294967295 : Int) - (s : Int)) % 4294967296 = ((ones ^^^ s : Nat) : Int) from by rw [← ones_sub s h]; omega]
  exact h1
theorem refof_eq (k : Nat) (l : List Int) (hl : Words l) (hs : l.length ≤ 1000) (hk : l.length + 120 ≤ k) : lockfastref02_Of.f k l = some ((nmore 0 l : Nat) : Int) := by
  unfold lockfastref02_Of.f
  rw [show (0 : Int) = ((0 : Nat) : Int) from rfl, refmore_eq 0 k l hl hs hk (by decide)]
  rfl

theorem SealTells : lockfastlaw02_SealTells.Pure := by
  intro l0 a1 _ _ h2 ha
  refine ⟨200, ?_⟩
  have hw := words_wf h2
  have hA := bounds_u32 ha
  obtain ⟨s, rfl⟩ := Int.eq_ofNat_of_zero_le hA.1
  unfold lockfastlaw02_SealTells.f
  rw [awake_true]
  simp only [Option.bind_some]
  by_cases c : (l0.length : Int) > 40
  · rw [if_pos c]
  · rw [if_neg c, if_pos trivial, of_nat hw, refof_eq 200 l0 hw (by omega) (by omega), more_nat hw (by omega), refmore_eq s 200 l0 hw (by omega) (by omega) (by omega)]
    simp

end Go.Proofs.Ytmflkbmjchapiaa.Pure
