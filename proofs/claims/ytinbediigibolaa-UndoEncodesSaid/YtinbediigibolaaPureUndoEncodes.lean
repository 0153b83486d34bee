/- An entry's words. -/
import Derived.Test.YtinbediigibolaaPUndoEncodesx6
import Derived.Test.YtinbediigibolaaCrcMath
import Derived.OpenShut
namespace Go.Proofs.Ytinbediigibolaa.Pure
open Go.RowKit Go.Proofs.YtinbediigibolaaX Go.Proofs.Ytinbediigibolaa.PUndoEncodes Go.Proofs.YtinbediigibolaaW.PrintWords Go.Proofs.YtinbediigibolaaW.PrintLast Go.Proofs.YtinbediigibolaaW.PrintMore

theorem words_wf {l : List Int} (h : ∀ x ∈ l, (Lit.int .u64 x).wf = true) : Words l := fun x hx => by
  have := bounds_u64 (h x hx)
  omega
theorem w64 {x : Int} (h : -9223372036854775808 ≤ x ∧ x ≤ 9223372036854775807) : wrap64 x = x := by unfold wrap64; omega
theorem words_nil : Words [] := fun x hx => by simp at hx
theorem words_app {l m : List Int} (hl : Words l) (hm : Words m) : Words (l ++ m) := fun x hx => by
  rcases List.mem_append.mp hx with h | h
  · exact hl x h
  · exact hm x h
theorem words_one {x : Int} (h0 : 0 ≤ x) (h1 : x < 18446744073709551616) : Words [x] := fun y hy => by
  have : y = x := by simpa using hy
  omega
theorem words_take {l : List Int} (hl : Words l) (n : Nat) : Words (l.take n) := fun x hx => hl x (List.mem_of_mem_take hx)
theorem words_drop {l : List Int} (hl : Words l) (n : Nat) : Words (l.drop n) := fun x hx => hl x (List.mem_of_mem_drop hx)
theorem more_nat {s : Nat} {l : List Int} (hl : Words l) (h : s < 4294967296) : seal_More.f (s : Int) l = some ((nmore s l : Nat) : Int) := congrArg some (crcMore_nat s l hl h)
theorem of_nat {l : List Int} (hl : Words l) : seal_Of.f l = some ((nmore 0 l : Nat) : Int) := by
  unfold seal_Of.f
  rw [show (0 : Int) = ((0 : Nat) : Int) from rfl, more_nat hl (by decide)]
  rfl
theorem seal_eq {l : List Int} (hl : Words l) (hs : l.length ≤ 1000) : seal_Seal.f l = some (l ++ [((nmore 0 l : Nat) : Int)]) := by
  unfold seal_Seal.f
  have hc := nmore_lt 0 l hl (by decide)
  rw [if_pos (by omega), show crcMore 0 l = ((nmore 0 l : Nat) : Int) from crcMore_nat 0 l hl (by decide), IntKind.wrap_u64, Int.emod_eq_of_lt (by omega) (by omega)]
theorem open_nil : seal_Open.f [] = some ([], false) := by
  unfold seal_Open.f
  rw [if_pos (by simp [wrap64])]
theorem open_eq {l : List Int} (x : Int) (hl : Words l) (hs : l.length ≤ 1000) : seal_Open.f (l ++ [x]) = some (if x = ((nmore 0 l : Nat) : Int) then (l, true) else ([], false)) := by
  unfold seal_Open.f
  have e : wrap64 (((l ++ [x]).length : Int) - 1) = (l.length : Int) := by
    rw [w64 (by simp; omega)]
    simp
  have hc := nmore_lt 0 l hl (by decide)
  rw [e, if_neg (by omega), if_pos (by omega), if_pos (by simp; omega), if_pos (by simp; omega), Int.toNat_natCast, List.take_left, of_nat hl]
  simp only [Option.bind_some]
  rw [show rd (l ++ [x]) (l.length : Int) = x from by simp [rd], IntKind.wrap_u64, Int.emod_eq_of_lt (by omega) (by omega)]
  by_cases c : x = ((nmore 0 l : Nat) : Int)
  · rw [if_pos c, if_pos c, if_pos (by simp; omega)]; rfl
  · rw [if_neg c, if_neg c]
theorem tdiv_nat (a b : Nat) : Int.tdiv (a : Int) (b : Int) = ((a / b : Nat) : Int) := by
  rw [Int.tdiv_eq_ediv_of_nonneg (by omega)]; rfl
theorem tmod_nat (a b : Nat) : Int.tmod (a : Int) (b : Int) = ((a % b : Nat) : Int) := by
  rw [Int.tmod_eq_emod_of_nonneg (by omega)]; rfl
theorem bit_xor (a b i : Nat) : (a ^^^ b) / 2 ^ i % 2 = (a / 2 ^ i % 2 + b / 2 ^ i % 2) % 2 := by
  rw [← Nat.shiftRight_eq_div_pow, Nat.shiftRight_xor_distrib, xor_mod2, Nat.shiftRight_eq_div_pow, Nat.shiftRight_eq_div_pow]
theorem pow_le_of (i : Nat) (h : i ≤ 31) : 1 ≤ 2 ^ i ∧ 2 ^ i ≤ 2147483648 := ⟨Nat.one_le_two_pow, Nat.le_trans (Nat.pow_le_pow_right (by omega) h) (by decide)⟩
theorem xor_loop (a b : Nat) (ha : a < 4294967296) (hb : b < 4294967296) (d : Nat) : ∀ (k i : Nat), d + 1 ≤ k → i + d = 32 → lockfastref02_xor.l0 k (a : Int) (b : Int) (((a ^^^ b) % 2 ^ i : Nat) : Int) ((2 ^ min i 31 : Nat) : Int) (i : Int) = some ((a ^^^ b : Nat) : Int) := by
  induction d with
  | zero =>
    intro k i hk hi
    obtain ⟨k, rfl⟩ : ∃ k', k = k' + 1 := ⟨k - 1, by omega⟩
    obtain rfl : i = 32 := by omega
    have hx : a ^^^ b < 2 ^ 32 := Nat.xor_lt_two_pow ha hb
    simp only [lockfastref02_xor.l0]
    rw [if_neg (by decide), Nat.mod_eq_of_lt hx]
  | succ d ih =>
    intro k i hk hi
    obtain ⟨k, rfl⟩ : ∃ k', k = k' + 1 := ⟨k - 1, by omega⟩
    have hp := pow_le_of i (by omega)
    have ha2 : a / 2 ^ i < 4294967296 := Nat.lt_of_le_of_lt (Nat.div_le_self _ _) ha
    have hb2 : b / 2 ^ i < 4294967296 := Nat.lt_of_le_of_lt (Nat.div_le_self _ _) hb
    have hx := bit_xor a b i
    have hs : (a ^^^ b) % 2 ^ (i + 1) = (a ^^^ b) % 2 ^ i + 2 ^ i * ((a ^^^ b) / 2 ^ i % 2) := Nat.mod_pow_succ
    have hlt : (a ^^^ b) % 2 ^ i < 2 ^ i := Nat.mod_lt _ (by omega)
    have ih1 := ih k (i + 1) (by omega) (by omega)
    rw [hs] at ih1
    have hm : min i 31 = i := by omega
    simp only [lockfastref02_xor.l0]
    rw [hm, if_pos (by omega), if_neg (by omega), tdiv_nat, tdiv_nat]
    by_cases e : a / 2 ^ i % 2 = b / 2 ^ i % 2
    · rw [if_pos (by omega)]
      have hz : (a ^^^ b) / 2 ^ i % 2 = 0 := by omega
      rw [hz, Nat.mul_zero, Nat.add_zero] at ih1
      by_cases e2 : (i : Int) < 31
      · have hw : min (i + 1) 31 = i + 1 := by omega
        have hp2 := pow_le_of (i + 1) (by omega)
        rw [hw] at ih1
        rw [if_pos e2, w64 (by omega), show ((2 : Int) * ((2 ^ i : Nat) : Int)) % 4294967296 = ((2 ^ (i + 1) : Nat) : Int) from by rw [Nat.pow_succ] at hp2 ⊢; omega]
        exact ih1
      · obtain rfl : i = 31 := by omega
        rw [if_neg e2, w64 (by omega)]
        exact ih1
    · rw [if_neg (by omega)]
      have hz : (a ^^^ b) / 2 ^ i % 2 = 1 := by omega
      rw [hz, Nat.mul_one] at ih1
      have hsum : ((((a ^^^ b) % 2 ^ i : Nat) : Int) + ((2 ^ i : Nat) : Int)) % 4294967296 = (((a ^^^ b) % 2 ^ i + 2 ^ i : Nat) : Int) := by omega
      by_cases e2 : (i : Int) < 31
      · have hw : min (i + 1) 31 = i + 1 := by omega
        have hp2 := pow_le_of (i + 1) (by omega)
        rw [hw] at ih1
        rw [if_pos e2, w64 (by omega), hsum, show ((2 : Int) * ((2 ^ i : Nat) : Int)) % 4294967296 = ((2 ^ (i + 1) : Nat) : Int) from by rw [Nat.pow_succ] at hp2 ⊢; omega]
        exact ih1
      · obtain rfl : i = 31 := by omega
        rw [if_neg e2, w64 (by omega), hsum]
        exact ih1
theorem xor_eq (a b k : Nat) (ha : a < 4294967296) (hb : b < 4294967296) (hk : 40 ≤ k) : lockfastref02_xor.f k (a : Int) (b : Int) = some ((a ^^^ b : Nat) : Int) := by
  have h := xor_loop a b ha hb 32 k 0 (by omega) (by omega)
  rw [Nat.pow_zero, Nat.mod_one] at h
  exact h
theorem on_loop (d : Nat) : ∀ (k i r w : Nat), d + 41 ≤ k → i + d = 64 → r < 4294967296 → w < 2 ^ d → lockfastref02_On.l0 k (r : Int) (w : Int) (i : Int) = some ((nturn d (r ^^^ w) : Nat) : Int) := by
  induction d with
  | zero =>
    intro k i r w hk hi hr hw
    obtain ⟨k, rfl⟩ : ∃ k', k = k' + 1 := ⟨k - 1, by omega⟩
    obtain rfl : i = 64 := by omega
    obtain rfl : w = 0 := by omega
    simp only [lockfastref02_On.l0]
    rw [if_neg (by decide), Nat.xor_zero, nturn_0]
  | succ d ih =>
    intro k i r w hk hi hr hw
    obtain ⟨k, rfl⟩ : ∃ k', k = k' + 1 := ⟨k - 1, by omega⟩
    have hw64 : w < 2 ^ 64 := Nat.lt_of_lt_of_le hw (Nat.pow_le_pow_right (by omega) (by omega))
    have hw2 : w / 2 < 2 ^ d := by rw [Nat.pow_succ] at hw; omega
    simp only [lockfastref02_On.l0]
    have t1 : Int.tmod (r : Int) 2 = ((r % 2 : Nat) : Int) := tmod_nat r 2
    have t2 : Int.tmod (w : Int) 2 = ((w % 2 : Nat) : Int) := tmod_nat w 2
    have t3 : Int.tdiv (r : Int) 2 = ((r / 2 : Nat) : Int) := tdiv_nat r 2
    have t4 : Int.tdiv (w : Int) 2 = ((w / 2 : Nat) : Int) := tdiv_nat w 2
    rw [if_pos (by omega), t1, t2, t3, t4, IntKind.wrap_u64, IntKind.wrap_u64, w64 (by omega), show ((r / 2 : Nat) : Int) % 4294967296 = ((r / 2 : Nat) : Int) from by omega, show ((w / 2 : Nat) : Int) % 18446744073709551616 = ((w / 2 : Nat) : Int) from by omega,
      nturn_s]
    have hn : nstep (r ^^^ w) = if (r % 2 + w % 2) % 2 = 1 then (r / 2 ^^^ w / 2) ^^^ 3988292384 else r / 2 ^^^ w / 2 := by
      unfold nstep
      rw [xor_mod2, xor_div2]
    by_cases e : r % 2 = w % 2
    · rw [if_pos (by omega), hn, if_neg (by omega)]
      exact ih k (i + 1) (r / 2) (w / 2) (by omega) (by omega) (by omega) hw2
    · have hx : r / 2 ^^^ 3988292384 < 2 ^ 32 := Nat.xor_lt_two_pow (by omega) (by omega)
      rw [if_neg (by omega), show (3988292384 : Int) = ((3988292384 : Nat) : Int) from rfl, xor_eq _ _ _ (by omega) (by omega) (by omega), hn, if_pos (by omega)]
      have h := ih k (i + 1) (r / 2 ^^^ 3988292384) (w / 2) (by omega) (by omega) hx hw2
      rw [Nat.xor_assoc, Nat.xor_comm 3988292384, ← Nat.xor_assoc] at h
      exact h
theorem on_eq (k r w : Nat) (hk : 110 ≤ k) (hr : r < 4294967296) (hw : w < 2 ^ 64) : lockfastref02_On.f k (r : Int) (w : Int) = some ((nturn 64 (r ^^^ w) : Nat) : Int) :=
  on_loop 64 k 0 r w (by omega) (by omega) hr hw
theorem ones_sub (x : Nat) (h : x < 4294967296) : 4294967295 - x = ones ^^^ x := by
  apply Nat.eq_of_testBit_eq
  intro i
  have h1 := Nat.testBit_two_pow_sub_succ (n := 32) h i
  rw [show (2 : Nat) ^ 32 - (x + 1) = 4294967295 - x from by omega] at h1
  have h2 : ones.testBit i = decide (i < 32) := by
    have h3 := Nat.testBit_two_pow_sub_succ (n := 32) (x := 0) (by decide) i
    show Nat.testBit 4294967295 i = _
    simpa using h3
  rw [h1, Nat.testBit_xor, h2]
  by_cases e : i < 32
  · simp [e]
  · have h4 : x.testBit i = false := Nat.testBit_lt_two_pow (Nat.lt_of_lt_of_le (show x < 2 ^ 32 from h) (show 2 ^ 32 ≤ 2 ^ i from Nat.pow_le_pow_right (by omega) (by omega)))
    simp [e, h4]
theorem rd_drop (l : List Int) (i : Nat) (h : i < l.length) : l.drop i = rd l (i : Int) :: l.drop (i + 1) := by
  rw [List.drop_eq_getElem_cons h]
  simp [rd, h]
theorem more_loop (l : List Int) (hl : Words l) (hs : l.length ≤ 1000) (d : Nat) : ∀ (k i r : Nat), d + 120 ≤ k → i + d = l.length → r < 4294967296 → lockfastref02_More.l0 k l (r : Int) (i : Int) = some ((ones ^^^ nfold r (l.drop i) : Nat) : Int) := by
  induction d with
  | zero =>
    intro k i r hk hi hr
    obtain ⟨k, rfl⟩ : ∃ k', k = k' + 1 := ⟨k - 1, by omega⟩
    simp only [lockfastref02_More.l0]
    rw [if_neg (by omega), show ((4294967295 : Int) - (r : Int)) % 4294967296 = ((4294967295 - r : Nat) : Int) from by omega, ones_sub r hr, List.drop_eq_nil_of_le (by omega)]
    rfl
  | succ d ih =>
    intro k i r hk hi hr
    obtain ⟨k, rfl⟩ : ∃ k', k = k' + 1 := ⟨k - 1, by omega⟩
    have hd := rd_drop l i (by omega)
    have hm : rd l (i : Int) ∈ l := List.mem_of_mem_drop (i := i) (by rw [hd]; simp)
    have hw := hl _ hm
    simp only [lockfastref02_More.l0]
    rw [if_pos (by omega), if_pos (by omega), hd, w64 (by omega)]
    obtain ⟨n, hn⟩ := Int.eq_ofNat_of_zero_le hw.1
    rw [hn, on_eq k r n (by omega) hr (by omega)]
    exact ih k (i + 1) (nturn 64 (r ^^^ n)) (by omega) (by omega) (nturn64_lt r n hr (by omega))
theorem refmore_eq (s k : Nat) (l : List Int) (hl : Words l) (hs : l.length ≤ 1000) (hk : l.length + 120 ≤ k) (h : s < 4294967296) : lockfastref02_More.f k (s : Int) l = some ((nmore s l : Nat) : Int) := by
  have h1 := more_loop l hl hs l.length k 0 (ones ^^^ s) (by omega) (by omega) (ones_lt s h)
  unfold lockfastref02_More.f
  rw [show ((4294967295 : Int) - (s : Int)) % 4294967296 = ((ones ^^^ s : Nat) : Int) from by rw [← ones_sub s h]; omega]
  exact h1
theorem refof_eq (k : Nat) (l : List Int) (hl : Words l) (hs : l.length ≤ 1000) (hk : l.length + 120 ≤ k) : lockfastref02_Of.f k l = some ((nmore 0 l : Nat) : Int) := by
  unfold lockfastref02_Of.f
  rw [show (0 : Int) = ((0 : Nat) : Int) from rfl, refmore_eq 0 k l hl hs hk (by decide)]
  rfl
theorem mask_bit (n j : Nat) : (2 ^ n - 1).testBit j = decide (j < n) := Nat.testBit_two_pow_sub_one n j
theorem fits_eq (a n : Nat) (h1 : 1 ≤ n) (h : a + n ≤ 64) : field_Fits.f (a : Int) (n : Int) = some true := by
  unfold field_Fits.f
  rw [if_pos (by omega), if_pos (by omega), if_pos (by omega), w64 (by omega), decide_eq_true (by omega)]
theorem mask_eq (n : Nat) (h1 : 1 ≤ n) (h : n ≤ 64) : field_mask.f (n : Int) = some ((2 ^ n - 1 : Nat) : Int) := by
  unfold field_mask.f
  rw [w64 (by omega), if_pos (by omega), show (64 : Int) - (n : Int) = ((64 - n : Nat) : Int) from by omega]
  unfold shr
  rw [Int.toNat_natCast, show min (64 - n) IntKind.u64.bits = 64 - n from by simp only [IntKind.bits]; omega]
  have h2 : (18446744073709551615 : Nat) / 2 ^ (64 - n) = 2 ^ n - 1 := by
    have e : 2 ^ n * 2 ^ (64 - n) = 18446744073709551616 := by rw [← Nat.pow_add, show n + (64 - n) = 64 from by omega]
    have p1 := Nat.two_pow_pos n
    have p2 := Nat.two_pow_pos (64 - n)
    have e2 : (2 ^ n - 1) * 2 ^ (64 - n) + 2 ^ (64 - n) = 18446744073709551616 := by
      rw [Nat.sub_mul, Nat.one_mul, e]
      have : 2 ^ (64 - n) ≤ 18446744073709551616 := by rw [← e]; exact Nat.le_mul_of_pos_left _ p1
      omega
    apply Nat.div_eq_of_lt_le
    · omega
    · rw [Nat.succ_mul]; omega
  rw [show (18446744073709551615 : Int) / 2 ^ (64 - n) = (((18446744073709551615 : Nat) / 2 ^ (64 - n) : Nat) : Int) from by simp, h2]
theorem shr_nat (w a : Nat) (ha : a ≤ 64) : shr .u64 (w : Int) (a : Int) = ((w / 2 ^ a : Nat) : Int) := by
  unfold shr
  rw [Int.toNat_natCast, show min a IntKind.u64.bits = a from by simp only [IntKind.bits]; omega]
  simp
theorem shl_nat (w a : Nat) (ha : a ≤ 64) : shl .u64 (w : Int) (a : Int) = ((w * 2 ^ a % 18446744073709551616 : Nat) : Int) := by
  unfold shl
  rw [Int.toNat_natCast, show min a IntKind.u64.bits = a from by simp only [IntKind.bits]; omega, IntKind.wrap_u64]
  simp
theorem get_eq (w a n : Nat) (hw : w < 18446744073709551616) (h1 : 1 ≤ n) (h : a + n ≤ 64) : field_Get.f (w : Int) (a : Int) (n : Int) = some ((w / 2 ^ a % 2 ^ n : Nat) : Int) := by
  unfold field_Get.f
  have hp : 2 ^ n ≤ 2 ^ 64 := Nat.pow_le_pow_right (by omega) (by omega)
  have hp0 := Nat.two_pow_pos n
  rw [fits_eq a n h1 h, Option.bind_some, if_pos rfl, if_pos (by omega), mask_eq n h1 (by omega), Option.bind_some, shr_nat w a (by omega), u64_and_nat _ _ (Nat.lt_of_le_of_lt (Nat.div_le_self _ _) hw) (by omega), Nat.and_two_pow_sub_one_eq_mod]
def putN (w a n v : Nat) : Nat := 2 ^ a * (2 ^ n * (w / 2 ^ (a + n)) + v % 2 ^ n) + w % 2 ^ a
theorem putN_bit (w a n v j : Nat) : (putN w a n v).testBit j = if a ≤ j ∧ j < a + n then v.testBit (j - a) else w.testBit j := by
  unfold putN
  rw [Nat.testBit_two_pow_mul_add _ (Nat.mod_lt _ (Nat.two_pow_pos a))]
  by_cases h1 : j < a
  · rw [if_pos h1, if_neg (by omega), Nat.testBit_mod_two_pow]
    simp [h1]
  · rw [if_neg h1, Nat.testBit_two_pow_mul_add _ (Nat.mod_lt _ (Nat.two_pow_pos n))]
    by_cases h2 : j < a + n
    · rw [if_pos (by omega), if_pos (by omega), Nat.testBit_mod_two_pow]
      simp [show j - a < n from by omega]
    · rw [if_neg (by omega), if_neg (by omega), ← Nat.shiftRight_eq_div_pow, Nat.testBit_shiftRight, show a + n + (j - a - n) = j from by omega]
theorem putN_lt (w a n v : Nat) (hw : w < 2 ^ 64) (h : a + n ≤ 64) : putN w a n v < 2 ^ 64 := by
  apply Nat.lt_pow_two_of_testBit
  intro j hj
  rw [putN_bit, if_neg (by omega)]
  exact Nat.testBit_lt_two_pow (Nat.lt_of_lt_of_le hw (Nat.pow_le_pow_right (by omega) hj))
theorem put_eq (w a n v : Nat) (hw : w < 18446744073709551616) (h1 : 1 ≤ n) (h : a + n ≤ 64) : field_Put.f (w : Int) (a : Int) (n : Int) (v : Int) = some ((putN w a n v : Nat) : Int) := by
  unfold field_Put.f
  have hp : 2 ^ n ≤ 2 ^ 64 := Nat.pow_le_pow_right (by omega) (by omega)
  have hp0 := Nat.two_pow_pos n
  have e1 : ∀ x : Nat, x % 18446744073709551616 < 18446744073709551616 := fun x => Nat.mod_lt _ (by decide)
  rw [fits_eq a n h1 h, Option.bind_some, if_pos rfl, mask_eq n h1 (by omega), Option.bind_some, if_pos (by omega), shl_nat _ a (by omega), shl_nat v a (by omega), u64_andNot_nat _ _ hw (e1 _), u64_and_nat _ _ (e1 _) (e1 _), u64_or_nat]
  · congr 2
    apply Nat.eq_of_testBit_eq
    intro j
    have hMb : ((2 ^ n - 1) * 2 ^ a % 18446744073709551616).testBit j = (decide (j < 64) && (decide (j ≥ a) && decide (j - a < n))) := by
      rw [show (18446744073709551616 : Nat) = 2 ^ 64 from rfl, Nat.testBit_mod_two_pow, Nat.mul_comm, Nat.testBit_two_pow_mul, mask_bit]
    have hVb : (v * 2 ^ a % 18446744073709551616).testBit j = (decide (j < 64) && (decide (j ≥ a) && v.testBit (j - a))) := by
      rw [show (18446744073709551616 : Nat) = 2 ^ 64 from rfl, Nat.testBit_mod_two_pow, Nat.mul_comm, Nat.testBit_two_pow_mul]
    have hm : (2 ^ n - 1) * 2 ^ a % 18446744073709551616 < 2 ^ 64 := e1 _
    generalize (2 ^ n - 1) * 2 ^ a % 18446744073709551616 = M at hMb hm ⊢
    have hnot := Nat.testBit_two_pow_sub_succ (n := 64) hm j
    rw [show 2 ^ 64 - (M + 1) = 18446744073709551615 - M from by omega] at hnot
    rw [putN_bit, Nat.testBit_or, Nat.testBit_and, Nat.testBit_and, hnot, hVb, hMb]
    by_cases hj : j < 64
    · by_cases h2 : a ≤ j
      · by_cases h3 : j - a < n
        · rw [if_pos (by omega)]; simp [hj, h2, h3]
        · rw [if_neg (by omega)]; simp [hj, h2, h3]
      · rw [if_neg (by omega)]; simp [hj, h2]
    · have hwj : w.testBit j = false := Nat.testBit_lt_two_pow (Nat.lt_of_lt_of_le (show w < 2 ^ 64 from hw) (Nat.pow_le_pow_right (by omega) (by omega)))
      rw [if_neg (by omega)]; simp [hj, hwj]
  · exact Nat.lt_of_le_of_lt Nat.and_le_left hw
  · exact Nat.lt_of_le_of_lt Nat.and_le_left (e1 _)
theorem rd_in (l : List Int) (i : Nat) (h : i < l.length) : rd l (i : Int) ∈ l := by
  simp [rd, h]
/-- A bit of a number of 32, as the law asks for it. -/
theorem tdiv_nn' (n : Nat) (a : Int) (_ : 0 ≤ a) : Int.tdiv (n : Int) a = (n : Int) / a := Int.tdiv_eq_ediv_of_nonneg (by omega)
theorem tmod_nn' (n : Nat) (a : Int) (_ : 0 ≤ a) : Int.tmod (n : Int) a = (n : Int) % a := Int.tmod_eq_emod_of_nonneg (by omega)
def goodE (x : S25) : Bool := decide (0 ≤ x.f0 ∧ x.f0 < 65536 ∧ 1 ≤ x.f1.length ∧ x.f1.length ≤ 4096)
def headE (g : Int) (x : S25) : Int := x.f0 + 1048576 * (x.f1.length : Int) + 281474976710656 * (g % 65536)
def bodyE (g : Int) (x : S25) : List Int := headE g x :: x.f1
def wordsE (g : Int) (x : S25) : List Int := bodyE g x ++ [((nmore 0 (bodyE g x) : Nat) : Int)]
theorem goodE_spec {x : S25} (h : goodE x = true) : 0 ≤ x.f0 ∧ x.f0 < 65536 ∧ 1 ≤ x.f1.length ∧ x.f1.length ≤ 4096 := of_decide_eq_true h
theorem right_val (a : Int) (l : List Int) : undo_Right.f a l = some (goodE ⟨a, l⟩) := by
  unfold undo_Right.f goodE
  dsimp only
  by_cases h1 : a ≥ 0
  · rw [if_pos h1]
    by_cases h2 : a < 65536
    · rw [if_pos h2]
      by_cases h3 : (l.length : Int) ≥ 1
      · rw [if_pos h3]
        congr 1
        exact decide_eq_decide.2 (by omega)
      · rw [if_neg h3]; congr 1; exact (decide_eq_false (by omega)).symm
    · rw [if_neg h2]; congr 1; exact (decide_eq_false (by omega)).symm
  · rw [if_neg h1]; congr 1; exact (decide_eq_false (by omega)).symm
theorem refright_val (a : Int) (l : List Int) : lockfastref13_Right.f a l = some (goodE ⟨a, l⟩) := by
  unfold lockfastref13_Right.f goodE
  dsimp only
  by_cases h1 : a ≥ 0
  · rw [if_pos h1]
    by_cases h2 : a ≤ 65535
    · rw [if_pos h2]
      by_cases h3 : (l.length : Int) > 0
      · rw [if_pos h3]
        congr 1
        exact decide_eq_decide.2 (by omega)
      · rw [if_neg h3]; congr 1; exact (decide_eq_false (by omega)).symm
    · rw [if_neg h2]; congr 1; exact (decide_eq_false (by omega)).symm
  · rw [if_neg h1]; congr 1; exact (decide_eq_false (by omega)).symm
theorem size_val (a : Int) (l : List Int) : undo_Size.f a l = some (if goodE ⟨a, l⟩ = true then (l.length : Int) + 2 else 0) := by
  unfold undo_Size.f
  rw [right_val, Option.bind_some]
  by_cases h : goodE ⟨a, l⟩ = true
  · have := goodE_spec h
    rw [if_pos h, if_pos h, w64 (by dsimp only at this; omega)]
  · rw [if_neg h, if_neg h]
theorem first_nat (at_ n g : Nat) (h1 : at_ < 1048576) (h2 : n < 65536) : putN (putN at_ 20 16 n) 48 16 g = at_ + 1048576 * n + 281474976710656 * (g % 65536) := by
  have e1 : putN at_ 20 16 n = at_ + 1048576 * n := by unfold putN; omega
  rw [e1]
  unfold putN
  omega
theorem first_val (g : Int) (hg : 0 ≤ g ∧ g < 18446744073709551616) (a : Int) (l : List Int) (h : goodE ⟨a, l⟩ = true) : undo_first.f g a l = some (headE g ⟨a, l⟩) := by
  obtain ⟨h1, h2, h3, h4⟩ := goodE_spec h
  dsimp only at h1 h2 h3 h4
  obtain ⟨n, rfl⟩ := Int.eq_ofNat_of_zero_le h1
  obtain ⟨gn, rfl⟩ := Int.eq_ofNat_of_zero_le hg.1
  unfold undo_first.f
  rw [IntKind.wrap_u64, IntKind.wrap_u64, show ((n : Int) % 18446744073709551616) = (n : Int) by omega, show ((l.length : Int) % 18446744073709551616) = (l.length : Int) by omega]
  rw [show (field_Put.f (n : Int) 20 16 (l.length : Int)) = some ((putN n 20 16 l.length : Nat) : Int) from put_eq n 20 16 l.length (by omega) (by decide) (by decide), Option.bind_some]
  have hlt : putN n 20 16 l.length < 18446744073709551616 := putN_lt n 20 16 l.length (by omega) (by decide)
  rw [show (field_Put.f ((putN n 20 16 l.length : Nat) : Int) 48 16 (gn : Int)) = some ((putN (putN n 20 16 l.length) 48 16 gn : Nat) : Int) from put_eq _ 48 16 gn hlt (by decide) (by decide), Option.bind_some, first_nat n l.length gn (by omega) (by omega)]
  unfold headE
  dsimp only
  congr 1
theorem headE_lt {g : Int} {x : S25} (h : goodE x = true) : 0 ≤ headE g x ∧ headE g x < 18446744073709551616 := by
  obtain ⟨h1, h2, h3, h4⟩ := goodE_spec h
  unfold headE
  omega
theorem body_words {g : Int} {x : S25} (h : goodE x = true) (hx : Words x.f1) : Words (bodyE g x) := fun y hy => by
  rcases List.mem_cons.1 hy with rfl | hy
  · exact headE_lt h
  · exact hx y hy
theorem enc_val (g : Int) (hg : 0 ≤ g ∧ g < 18446744073709551616) (a : Int) (l : List Int) (hl : Words l) (hs : l.length ≤ 900) : undo_Encode.f g a l = some (if goodE ⟨a, l⟩ = true then (wordsE g ⟨a, l⟩, 0) else ([], 1)) := by
  unfold undo_Encode.f
  rw [right_val, Option.bind_some]
  by_cases h : goodE ⟨a, l⟩ = true
  · rw [if_pos h, if_pos h, first_val g hg a l h, Option.bind_some, Option.bind_some]
    simp only [List.length_cons, List.length_nil, List.cons_append, List.nil_append]
    rw [if_pos (by omega), show seal_Seal.f (headE g ⟨a, l⟩ :: l) = _ from seal_eq (body_words h hl) (by simp; omega), Option.bind_some]
    rfl
  · rw [if_neg h, if_neg h]
theorem refhead_val (g : Int) (hg : 0 ≤ g ∧ g < 18446744073709551616) (a : Int) (l : List Int) (h : goodE ⟨a, l⟩ = true) :
    IntKind.u64.wrap ((IntKind.u64.wrap ((IntKind.u64.wrap a) + (IntKind.u64.wrap (1048576 * (IntKind.u64.wrap ((l.length : Int))))))) + (IntKind.u64.wrap (281474976710656 * (Int.tmod g 65536)))) = headE g ⟨a, l⟩ := by
  obtain ⟨h1, h2, h3, h4⟩ := goodE_spec h
  dsimp only at h1 h2 h3 h4
  obtain ⟨gn, rfl⟩ := Int.eq_ofNat_of_zero_le hg.1
  rw [tmod_nn' gn 65536 (by omega)]
  simp only [IntKind.wrap_u64]
  unfold headE
  dsimp only
  omega
theorem refenc_val (k : Nat) (g : Int) (hg : 0 ≤ g ∧ g < 18446744073709551616) (a : Int) (l : List Int) (hl : Words l) (hs : l.length ≤ 900) (hk : l.length + 130 ≤ k) : lockfastref13_Encode.f k g a l = some (if goodE ⟨a, l⟩ = true then (wordsE g ⟨a, l⟩, 0) else ([], 1)) := by
  unfold lockfastref13_Encode.f
  rw [refright_val, Option.bind_some]
  by_cases h : goodE ⟨a, l⟩ = true
  · have hb := body_words (g := g) h hl
    have hlen : (bodyE g ⟨a, l⟩).length = l.length + 1 := by simp [bodyE]
    have hc := nmore_lt 0 _ hb (by decide)
    rw [if_pos h, if_pos h, refhead_val g hg a l h, Option.bind_some]
    simp only [List.length_cons, List.length_nil, List.cons_append, List.nil_append, Option.bind_some]
    rw [if_pos (by omega)]
    rw [show lockfastref02_Of.f k (headE g ⟨a, l⟩ :: l) = _ from refof_eq k (bodyE g ⟨a, l⟩) hb (by omega) (by omega), Option.bind_some, if_pos (by omega), IntKind.wrap_u64, Int.emod_eq_of_lt (by omega) (by omega)]
    rfl
  · rw [if_neg h, if_neg h]
theorem words_loop (l : List Int) (hs : l.length ≤ 100000) (d : Nat) : ∀ (k i : Nat), d + 1 ≤ k → i + d = l.length → lockfastref01_Words.l0 k l l (i : Int) = some true := by
  induction d with
  | zero =>
    intro k i hk hi
    obtain ⟨k, rfl⟩ : ∃ j, k = j + 1 := ⟨k - 1, by omega⟩
    rw [lockfastref01_Words.l0, if_neg (by omega)]
  | succ d ih =>
    intro k i hk hi
    obtain ⟨k, rfl⟩ : ∃ j, k = j + 1 := ⟨k - 1, by omega⟩
    rw [lockfastref01_Words.l0, if_pos (by omega), if_pos (by omega), if_pos (by omega), if_pos rfl, w64 (by omega)]
    exact ih k (i + 1) (by omega) (by omega)
theorem words_refl (k : Nat) (l : List Int) (hs : l.length ≤ 100000) (hk : l.length + 1 ≤ k) : lockfastref01_Words.f k l l = some true := by
  unfold lockfastref01_Words.f
  rw [if_pos rfl]
  exact words_loop l hs l.length k 0 (by omega) (by omega)
theorem words_val_loop (l m : List Int) (hl : l.length = m.length) (hs : l.length ≤ 100000) (d : Nat) : ∀ (k i : Nat), d + 1 ≤ k → i + d = l.length → lockfastref01_Words.l0 k l m (i : Int) = some (decide (l.drop i = m.drop i)) := by
  induction d with
  | zero =>
    intro k i hk hi
    obtain ⟨k, rfl⟩ : ∃ j, k = j + 1 := ⟨k - 1, by omega⟩
    rw [lockfastref01_Words.l0, if_neg (by omega), List.drop_eq_nil_of_le (by omega), List.drop_eq_nil_of_le (by omega)]
    rfl
  | succ d ih =>
    intro k i hk hi
    obtain ⟨k, rfl⟩ : ∃ j, k = j + 1 := ⟨k - 1, by omega⟩
    rw [lockfastref01_Words.l0, if_pos (by omega), if_pos (by omega), if_pos (by omega), rd_drop l i (by omega), rd_drop m i (by omega)]
    by_cases h : rd l (i : Int) = rd m (i : Int)
    · rw [if_pos h, w64 (by omega)]
      rw [show ((i : Int) + 1) = ((i + 1 : Nat) : Int) by omega, ih k (i + 1) (by omega) (by omega), h]
      congr 1
      exact decide_eq_decide.2 (by simp)
    · rw [if_neg h]
      congr 1
      exact (decide_eq_false (fun e => h (by injection e))).symm
theorem words_val (k : Nat) (l m : List Int) (hs : l.length ≤ 100000) (hk : l.length + 1 ≤ k) : lockfastref01_Words.f k l m = some (decide (l = m)) := by
  unfold lockfastref01_Words.f
  by_cases h : (l.length : Int) = (m.length : Int)
  · rw [if_pos h]
    have := words_val_loop l m (by omega) hs l.length k 0 (by omega) (by omega)
    simpa using this
  · rw [if_neg h]
    congr 1
    exact (decide_eq_false (fun e => h (by rw [e]))).symm
theorem same_loop (l : List S25) (hs : l.length ≤ 1000) (hb : ∀ x ∈ l, x.f1.length ≤ 1000) (d : Nat) : ∀ (k i : Nat), d + 1010 ≤ k → i + d = l.length → lockfastref13_Same.l0 k l l (i : Int) = some true := by
  induction d with
  | zero =>
    intro k i hk hi
    obtain ⟨k, rfl⟩ : ∃ j, k = j + 1 := ⟨k - 1, by omega⟩
    rw [lockfastref13_Same.l0, if_neg (by omega)]
  | succ d ih =>
    intro k i hk hi
    obtain ⟨k, rfl⟩ : ∃ j, k = j + 1 := ⟨k - 1, by omega⟩
    have hm : (rd_T25 l (i : Int)).f1.length ≤ 1000 := by
      have hi' : i < l.length := by omega
      have : rd_T25 l (i : Int) = l[i] := by simp [rd_T25, List.getD_eq_getElem?_getD, List.getElem?_eq_getElem hi']
      rw [this]
      exact hb _ (List.getElem_mem hi')
    rw [lockfastref13_Same.l0, if_pos (by omega), if_pos (by omega), if_pos (by omega), if_pos rfl, words_refl k _ (by omega) (by omega), Option.bind_some, if_pos rfl, w64 (by omega)]
    exact ih k (i + 1) (by omega) (by omega)
theorem same_refl (k : Nat) (l : List S25) (hs : l.length ≤ 1000) (hb : ∀ x ∈ l, x.f1.length ≤ 1000) (hk : l.length + 1010 ≤ k) : lockfastref13_Same.f k l l = some true := by
  unfold lockfastref13_Same.f
  rw [if_pos rfl]
  exact same_loop l hs hb l.length k 0 (by omega) (by omega)

theorem UndoEncodes : lockfastlaw13_UndoEncodes.Pure := by
  intro a0 a1 l1 hwa _ _ hwf
  refine ⟨3000, ?_⟩
  have hw := words_wf hwf
  have hg := bounds_u64 hwa
  have hg' : 0 ≤ a0 ∧ a0 < 18446744073709551616 := by omega
  unfold lockfastlaw13_UndoEncodes.f
  rw [show lockfastlaw13_awake.f = some true from rfl, Option.bind_some]
  by_cases hl : (l1.length : Int) > 40
  · rw [if_pos hl]
  rw [if_neg hl, enc_val a0 hg' a1 l1 hw (by omega), Option.bind_some, refenc_val 3000 a0 hg' a1 l1 hw (by omega) (by omega), Option.bind_some, if_pos rfl, if_pos rfl]
  have hlen : (wordsE a0 ⟨a1, l1⟩).length = l1.length + 2 := by simp [wordsE, bodyE]
  by_cases c : goodE ⟨a1, l1⟩ = true
  · rw [if_pos c]
    dsimp only
    rw [words_refl 3000 _ (by omega) (by omega), Option.bind_some, if_pos rfl, right_val, Option.bind_some, c, if_pos (by decide), size_val, if_pos c, Option.bind_some, hlen]
    congr 1
    exact beq_iff_eq.2 (by omega)
  · rw [if_neg c]
    dsimp only
    rw [words_refl 3000 _ (by simp) (by simp), Option.bind_some, if_pos rfl, right_val, Option.bind_some, Bool.eq_false_iff.2 c, if_pos (by decide), size_val, if_neg c, Option.bind_some]
    rfl

end Go.Proofs.Ytinbediigibolaa.Pure
