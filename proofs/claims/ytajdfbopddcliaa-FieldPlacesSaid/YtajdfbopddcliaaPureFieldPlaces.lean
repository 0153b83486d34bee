/- One bit put at each place is the word again. -/
import Derived.Test.YtajdfbopddcliaaPFieldPlacesx1
import Derived.OpenShut
namespace Go.Proofs.Ytajdfbopddcliaa.Pure
open Go.RowKit Go.Proofs.YtajdfbopddcliaaX Go.Proofs.Ytajdfbopddcliaa.PFieldPlaces Go.Proofs.YtajdfbopddcliaaW.PrintWords Go.Proofs.YtajdfbopddcliaaW.PrintLast Go.Proofs.YtajdfbopddcliaaW.PrintMore

theorem w64 {x : Int} (h : -9223372036854775808 ≤ x ∧ x ≤ 9223372036854775807) : wrap64 x = x := by unfold wrap64; omega
theorem mask_bit (n j : Nat) : (2 ^ n - 1).testBit j = decide (j < n) := Nat.testBit_two_pow_sub_one n j
theorem fits_eq (a n : Nat) (h1 : 1 ≤ n) (h : a + n ≤ 64) : field_Fits.f (a : Int) (n : Int) = some true := by
  unfold field_Fits.f
  rw [if_pos (by omega), if_pos (by omega), if_pos (by omega), w64 (by omega), decide_eq_true (by omega)]
theorem mask_eq (n : Nat) (h1 : 1 ≤ n) (h : n ≤ 64) : field_mask.f (n : Int) = some ((2 ^ n - 1 : Nat) : Int) := by
  unfold field_mask.f
  rw [w64 (by omega), if_pos (by omega), show (64 : Int) - (n : Int) = ((64 - n : Nat) : Int) from by omega]
  unfold shr
  rw [Int.toNat_natCast, show min (64 - n) IntKind.u64.bits = 64 - n from by simp only [IntKind.bits]; omega]
  have h2 : (18446744073709551615 : Nat) / 2 ^ (64 - n) = 2 ^ n - 1 := by
    have e : 2 ^ n * 2 ^ (64 - n) = 18446744073709551616 := by rw [← Nat.pow_add, show n + (64 - n) = 64 from by omega]
    have p1 := Nat.two_pow_pos n
    have p2 := Nat.two_pow_pos (64 - n)
    have e2 : (2 ^ n - 1) * 2 ^ (64 - n) + 2 ^ (64 - n) = 18446744073709551616 := by
      rw [Nat.sub_mul, Nat.one_mul, e]
      have : 2 ^ (64 - n) ≤ 18446744073709551616 := by rw [← e]; exact Nat.le_mul_of_pos_left _ p1
      omega
    apply Nat.div_eq_of_lt_le
    · omega
    · rw [Nat.succ_mul]; omega
  rw [show (18446744073709551615 : Int) / 2 ^ (64 - n) = (((18446744073709551615 : Nat) / 2 ^ (64 - n) : Nat) : Int) from by simp, h2]
theorem shr_nat (w a : Nat) (ha : a ≤ 64) : shr .u64 (w : Int) (a : Int) = ((w / 2 ^ a : Nat) : Int) := by
  unfold shr
  rw [Int.toNat_natCast, show min a IntKind.u64.bits = a from by simp only [IntKind.bits]; omega]
  simp
theorem shl_nat (w a : Nat) (ha : a ≤ 64) : shl .u64 (w : Int) (a : Int) = ((w * 2 ^ a % 18446744073709551616 : Nat) : Int) := by
  unfold shl
  rw [Int.toNat_natCast, show min a IntKind.u64.bits = a from by simp only [IntKind.bits]; omega, IntKind.wrap_u64]
  simp
theorem get_eq (w a n : Nat) (hw : w < 18446744073709551616) (h1 : 1 ≤ n) (h : a + n ≤ 64) : field_Get.f (w : Int) (a : Int) (n : Int) = some ((w / 2 ^ a % 2 ^ n : Nat) : Int) := by
  unfold field_Get.f
  have hp : 2 ^ n ≤ 2 ^ 64 := Nat.pow_le_pow_right (by omega) (by omega)
  have hp0 := Nat.two_pow_pos n
  rw [fits_eq a n h1 h, Option.bind_some, if_pos rfl, if_pos (by omega), mask_eq n h1 (by omega), Option.bind_some, shr_nat w a (by omega), u64_and_nat _ _ (Nat.lt_of_le_of_lt (Nat.div_le_self _ _) hw) (by omega), Nat.and_two_pow_sub_one_eq_mod]
def putN (w a n v : Nat) : Nat := 2 ^ a * (2 ^ n * (w / 2 ^ (a + n)) + v % 2 ^ n) + w % 2 ^ a
theorem putN_bit (w a n v j : Nat) : (putN w a n v).testBit j = if a ≤ j ∧ j < a + n then v.testBit (j - a) else w.testBit j := by
  unfold putN
  rw [Nat.testBit_two_pow_mul_add _ (Nat.mod_lt _ (Nat.two_pow_pos a))]
  by_cases h1 : j < a
  · rw [if_pos h1, if_neg (by omega), Nat.testBit_mod_two_pow]
    simp [h1]
  · rw [if_neg h1, Nat.testBit_two_pow_mul_add _ (Nat.mod_lt _ (Nat.two_pow_pos n))]
    by_cases h2 : j < a + n
    · rw [if_pos (by omega), if_pos (by omega), Nat.testBit_mod_two_pow]
      simp [show j - a < n from by omega]
    · rw [if_neg (by omega), if_neg (by omega), ← Nat.shiftRight_eq_div_pow, Nat.testBit_shiftRight, show a + n + (j - a - n) = j from by omega]
theorem putN_lt (w a n v : Nat) (hw : w < 2 ^ 64) (h : a + n ≤ 64) : putN w a n v < 2 ^ 64 := by
  apply Nat.lt_pow_two_of_testBit
  intro j hj
  rw [putN_bit, if_neg (by omega)]
  exact Nat.testBit_lt_two_pow (Nat.lt_of_lt_of_le hw (Nat.pow_le_pow_right (by omega) hj))
theorem put_eq (w a n v : Nat) (hw : w < 18446744073709551616) (h1 : 1 ≤ n) (h : a + n ≤ 64) : field_Put.f (w : Int) (a : Int) (n : Int) (v : Int) = some ((putN w a n v : Nat) : Int) := by
  unfold field_Put.f
  have hp : 2 ^ n ≤ 2 ^ 64 := Nat.pow_le_pow_right (by omega) (by omega)
  have hp0 := Nat.two_pow_pos n
  have e1 : ∀ x : Nat, x % 18446744073709551616 < 18446744073709551616 := fun x => Nat.mod_lt _ (by decide)
  rw [fits_eq a n h1 h, Option.bind_some, if_pos rfl, mask_eq n h1 (by omega), Option.bind_some, if_pos (by omega), shl_nat _ a (by omega), shl_nat v a (by omega), u64_andNot_nat _ _ hw (e1 _), u64_and_nat _ _ (e1 _) (e1 _), u64_or_nat]
  · congr 2
    apply Nat.eq_of_testBit_eq
    intro j
    have hMb : ((2 ^ n - 1) * 2 ^ a % 18446744073709551616).testBit j = (decide (j < 64) && (decide (j ≥ a) && decide (j - a < n))) := by
      rw [show (18446744073709551616 : Nat) = 2 ^ 64 from rfl, Nat.testBit_mod_two_pow, Nat.mul_comm, Nat.testBit_two_pow_mul, mask_bit]
    have hVb : (v * 2 ^ a % 18446744073709551616).testBit j = (decide (j < 64) && (decide (j ≥ a) && v.testBit (j - a))) := by
      rw [show (18446744073709551616 : Nat) = 2 ^ 64 from rfl, Nat.testBit_mod_two_pow, Nat.mul_comm, Nat.testBit_two_pow_mul]
    have hm : (2 ^ n - 1) * 2 ^ a % 18446744073709551616 < 2 ^ 64 := e1 _
    generalize (2 ^ n - 1) * 2 ^ a % 18446744073709551616 = M at hMb hm ⊢
    have hnot := Nat.testBit_two_pow_sub_succ (n := 64) hm j
    rw [show 2 ^ 64 - (M + 1) = 18446744073709551615 - M from by omega] at hnot
    rw [putN_bit, Nat.testBit_or, Nat.testBit_and, Nat.testBit_and, hnot, hVb, hMb]
    by_cases hj : j < 64
    · by_cases h2 : a ≤ j
      · by_cases h3 : j - a < n
        · rw [if_pos (by omega)]; simp [hj, h2, h3]
        · rw [if_neg (by omega)]; simp [hj, h2, h3]
      · rw [if_neg (by omega)]; simp [hj, h2]
    · have hwj : w.testBit j = false := Nat.testBit_lt_two_pow (Nat.lt_of_lt_of_le (show w < 2 ^ 64 from hw) (Nat.pow_le_pow_right (by omega) (by omega)))
      rw [if_neg (by omega)]; simp [hj, hwj]
  · exact Nat.lt_of_le_of_lt Nat.and_le_left hw
  · exact Nat.lt_of_le_of_lt Nat.and_le_left (e1 _)
/-! ### the count of ones, as the library reckons it -/
theorem and_pat (k p M x : Nat) (hp : p < 2 ^ k) : x &&& (2 ^ k * M + p) = 2 ^ k * (x / 2 ^ k &&& M) + (x % 2 ^ k &&& p) := by
  have hb : x % 2 ^ k &&& p < 2 ^ k := Nat.lt_of_le_of_lt Nat.and_le_right hp
  apply Nat.eq_of_testBit_eq
  intro j
  rw [Nat.testBit_and, Nat.testBit_two_pow_mul_add _ hp, Nat.testBit_two_pow_mul_add _ hb]
  by_cases e : j < k
  · rw [if_pos e, if_pos e, Nat.testBit_and, Nat.testBit_mod_two_pow]
    simp [e]
  · rw [if_neg e, if_neg e, Nat.testBit_and, ← Nat.shiftRight_eq_div_pow, Nat.testBit_shiftRight, show k + (j - k) = j from by omega]
def pat (k p : Nat) : Nat → Nat
  | 0 => 0
  | n + 1 => 2 ^ k * pat k p n + p
def d2 : Nat → Nat → Nat
  | 0, _ => 0
  | n + 1, x => 4 * d2 n (x / 4) + (x / 2 % 2 + x % 2)
theorem step1 (n : Nat) : ∀ x, (x / 2 &&& pat 2 1 n) + (x &&& pat 2 1 n) = d2 n x := by
  induction n with
  | zero => intro x; simp [pat, d2]
  | succ n ih =>
    intro x
    have h := ih (x / 4)
    show (x / 2 &&& (2 ^ 2 * pat 2 1 n + 1)) + (x &&& (2 ^ 2 * pat 2 1 n + 1)) = 4 * d2 n (x / 4) + (x / 2 % 2 + x % 2)
    rw [and_pat 2 1 _ _ (by decide), and_pat 2 1 _ _ (by decide), show (2 : Nat) ^ 2 = 4 from rfl, Nat.and_one_is_mod, Nat.and_one_is_mod, ← h, show x / 2 / 4 = x / 4 / 2 from by omega]
    omega
def d4 : Nat → Nat → Nat
  | 0, _ => 0
  | n + 1, x => 16 * d4 n (x / 16) + (x / 8 % 2 + x / 4 % 2 + x / 2 % 2 + x % 2)
theorem step2 (n : Nat) : ∀ x, (d2 (2 * n) x / 4 &&& pat 4 3 n) + (d2 (2 * n) x &&& pat 4 3 n) = d4 n x := by
  induction n with
  | zero => intro x; simp [pat, d4, d2]
  | succ n ih =>
    intro x
    have h := ih (x / 16)
    have e : d2 (2 * (n + 1)) x = 16 * d2 (2 * n) (x / 16) + (4 * (x / 8 % 2 + x / 4 % 2) + (x / 2 % 2 + x % 2)) := by
      show 4 * (4 * d2 (2 * n) (x / 4 / 4) + (x / 4 / 2 % 2 + x / 4 % 2)) + (x / 2 % 2 + x % 2) = _
      rw [show x / 4 / 4 = x / 16 from by omega, show x / 4 / 2 = x / 8 from by omega]
      omega
    show (_ &&& (2 ^ 4 * pat 4 3 n + 3)) + (_ &&& (2 ^ 4 * pat 4 3 n + 3)) = 16 * d4 n (x / 16) + (x / 8 % 2 + x / 4 % 2 + x / 2 % 2 + x % 2)
    have a3 : ∀ y : Nat, y &&& 3 = y % 4 := fun y => Nat.and_two_pow_sub_one_eq_mod y 2
    rw [and_pat 4 3 _ _ (by decide), and_pat 4 3 _ _ (by decide), show (2 : Nat) ^ 4 = 16 from rfl, a3, a3, e, ← h]
    generalize d2 (2 * n) (x / 16) = D
    have hA : x / 8 % 2 + x / 4 % 2 ≤ 2 := by omega
    have hB : x / 2 % 2 + x % 2 ≤ 2 := by omega
    rw [show x / 8 % 2 + x / 4 % 2 + x / 2 % 2 + x % 2 = (x / 8 % 2 + x / 4 % 2) + (x / 2 % 2 + x % 2) from by omega]
    generalize x / 8 % 2 + x / 4 % 2 = a at hA ⊢
    generalize x / 2 % 2 + x % 2 = b at hB ⊢
    rw [show (16 * D + (4 * a + b)) / 4 / 16 = D / 4 from by omega, show (16 * D + (4 * a + b)) / 16 = D from by omega, show (16 * D + (4 * a + b)) / 4 % 16 % 4 = a from by omega, show (16 * D + (4 * a + b)) % 16 % 4 = b from by omega]
    omega
def d8 : Nat → Nat → Nat
  | 0, _ => 0
  | n + 1, x => 256 * d8 n (x / 256) + ((x / 128 % 2 + x / 64 % 2 + x / 32 % 2 + x / 16 % 2) + (x / 8 % 2 + x / 4 % 2 + x / 2 % 2 + x % 2))
theorem d4_low (n x : Nat) : d4 n x % 16 ≤ 4 := by
  cases n with
  | zero => simp [d4]
  | succ n =>
    have hA : x / 8 % 2 + x / 4 % 2 + x / 2 % 2 + x % 2 ≤ 4 := by omega
    show (16 * d4 n (x / 16) + (x / 8 % 2 + x / 4 % 2 + x / 2 % 2 + x % 2)) % 16 ≤ 4
    generalize x / 8 % 2 + x / 4 % 2 + x / 2 % 2 + x % 2 = a at hA ⊢
    omega
theorem step3 (n : Nat) : ∀ x, (d4 (2 * n) x / 16 + d4 (2 * n) x) &&& pat 8 15 n = d8 n x := by
  induction n with
  | zero => intro x; simp [pat, d8]
  | succ n ih =>
    intro x
    have h := ih (x / 256)
    have hl := d4_low (2 * n) (x / 256)
    have e : d4 (2 * (n + 1)) x = 256 * d4 (2 * n) (x / 256) + (16 * (x / 128 % 2 + x / 64 % 2 + x / 32 % 2 + x / 16 % 2) + (x / 8 % 2 + x / 4 % 2 + x / 2 % 2 + x % 2)) := by
      show 16 * (16 * d4 (2 * n) (x / 16 / 16) + (x / 16 / 8 % 2 + x / 16 / 4 % 2 + x / 16 / 2 % 2 + x / 16 % 2)) + (x / 8 % 2 + x / 4 % 2 + x / 2 % 2 + x % 2) = _
      rw [show x / 16 / 16 = x / 256 from by omega, show x / 16 / 8 = x / 128 from by omega, show x / 16 / 4 = x / 64 from by omega, show x / 16 / 2 = x / 32 from by omega]
      omega
    show _ &&& (2 ^ 8 * pat 8 15 n + 15) = 256 * d8 n (x / 256) + ((x / 128 % 2 + x / 64 % 2 + x / 32 % 2 + x / 16 % 2) + (x / 8 % 2 + x / 4 % 2 + x / 2 % 2 + x % 2))
    have a15 : ∀ y : Nat, y &&& 15 = y % 16 := fun y => Nat.and_two_pow_sub_one_eq_mod y 4
    rw [and_pat 8 15 _ _ (by decide), show (2 : Nat) ^ 8 = 256 from rfl, a15, e, ← h]
    generalize d4 (2 * n) (x / 256) = D at hl ⊢
    have hA : x / 128 % 2 + x / 64 % 2 + x / 32 % 2 + x / 16 % 2 ≤ 4 := by omega
    have hB : x / 8 % 2 + x / 4 % 2 + x / 2 % 2 + x % 2 ≤ 4 := by omega
    generalize x / 128 % 2 + x / 64 % 2 + x / 32 % 2 + x / 16 % 2 = a at hA ⊢
    generalize x / 8 % 2 + x / 4 % 2 + x / 2 % 2 + x % 2 = b at hB ⊢
    rw [show ((256 * D + (16 * a + b)) / 16 + (256 * D + (16 * a + b))) / 256 = D / 16 + D from by omega, show ((256 * D + (16 * a + b)) / 16 + (256 * D + (16 * a + b))) % 256 % 16 = a + b from by omega]
/-- How many of the k lowest bits are 1. -/
def cnt : Nat → Nat → Nat
  | 0, _ => 0
  | k + 1, x => cnt k (x / 2) + x % 2
theorem cnt8 (k x : Nat) : cnt (k + 8) x = cnt k (x / 256) + ((x / 128 % 2 + x / 64 % 2 + x / 32 % 2 + x / 16 % 2) + (x / 8 % 2 + x / 4 % 2 + x / 2 % 2 + x % 2)) := by
  show cnt k (x / 2 / 2 / 2 / 2 / 2 / 2 / 2 / 2) + x / 2 / 2 / 2 / 2 / 2 / 2 / 2 % 2 + x / 2 / 2 / 2 / 2 / 2 / 2 % 2 + x / 2 / 2 / 2 / 2 / 2 % 2 + x / 2 / 2 / 2 / 2 % 2 + x / 2 / 2 / 2 % 2 + x / 2 / 2 % 2 + x / 2 % 2 + x % 2 = _
  rw [show x / 2 / 2 / 2 / 2 / 2 / 2 / 2 / 2 = x / 256 from by omega, show x / 2 / 2 / 2 / 2 / 2 / 2 / 2 = x / 128 from by omega, show x / 2 / 2 / 2 / 2 / 2 / 2 = x / 64 from by omega, show x / 2 / 2 / 2 / 2 / 2 = x / 32 from by omega, show x / 2 / 2 / 2 / 2 = x / 16 from by omega, show x / 2 / 2 / 2 = x / 8 from by omega, show x / 2 / 2 = x / 4 from by omega]
  omega
def dsum : Nat → Nat → Nat
  | 0, _ => 0
  | n + 1, u => dsum n (u / 256) + u % 256
theorem dsum_d8 (n : Nat) : ∀ x, dsum n (d8 n x) = cnt (8 * n) x := by
  induction n with
  | zero => intro x; rfl
  | succ n ih =>
    intro x
    show dsum n ((256 * d8 n (x / 256) + _) / 256) + (256 * d8 n (x / 256) + _) % 256 = cnt (8 * n + 8) x
    rw [cnt8, ← ih (x / 256)]
    have hA : x / 128 % 2 + x / 64 % 2 + x / 32 % 2 + x / 16 % 2 + (x / 8 % 2 + x / 4 % 2 + x / 2 % 2 + x % 2) ≤ 8 := by omega
    generalize x / 128 % 2 + x / 64 % 2 + x / 32 % 2 + x / 16 % 2 + (x / 8 % 2 + x / 4 % 2 + x / 2 % 2 + x % 2) = a at hA ⊢
    rw [show (256 * d8 n (x / 256) + a) / 256 = d8 n (x / 256) from by omega, show (256 * d8 n (x / 256) + a) % 256 = a from by omega]
theorem d8_le (n : Nat) : ∀ x j, d8 n x / 256 ^ j % 256 ≤ 8 := by
  induction n with
  | zero => intro x j; simp [d8]
  | succ n ih =>
    intro x j
    have hA : x / 128 % 2 + x / 64 % 2 + x / 32 % 2 + x / 16 % 2 + (x / 8 % 2 + x / 4 % 2 + x / 2 % 2 + x % 2) ≤ 8 := by omega
    show (256 * d8 n (x / 256) + (x / 128 % 2 + x / 64 % 2 + x / 32 % 2 + x / 16 % 2 + (x / 8 % 2 + x / 4 % 2 + x / 2 % 2 + x % 2))) / 256 ^ j % 256 ≤ 8
    generalize x / 128 % 2 + x / 64 % 2 + x / 32 % 2 + x / 16 % 2 + (x / 8 % 2 + x / 4 % 2 + x / 2 % 2 + x % 2) = a at hA ⊢
    cases j with
    | zero => rw [Nat.pow_zero, Nat.div_one]; omega
    | succ j =>
      rw [Nat.pow_succ', ← Nat.div_div_eq_div_mul, show (256 * d8 n (x / 256) + a) / 256 = d8 n (x / 256) from by omega]
      exact ih _ j
theorem d8_lt (n : Nat) : ∀ x, d8 n x < 256 ^ n := by
  induction n with
  | zero => intro x; exact Nat.zero_lt_one
  | succ n ih =>
    intro x
    have h := ih (x / 256)
    show 256 * d8 n (x / 256) + _ < 256 ^ (n + 1)
    rw [Nat.pow_succ]
    omega
theorem d4_lt (n : Nat) : ∀ x, d4 n x < 16 ^ n := by
  induction n with
  | zero => intro x; exact Nat.zero_lt_one
  | succ n ih =>
    intro x
    have h := ih (x / 16)
    show 16 * d4 n (x / 16) + _ < 16 ^ (n + 1)
    rw [Nat.pow_succ]
    omega
theorem d2_lt (n : Nat) : ∀ x, d2 n x < 4 ^ n := by
  induction n with
  | zero => intro x; exact Nat.zero_lt_one
  | succ n ih =>
    intro x
    have h := ih (x / 4)
    show 4 * d2 n (x / 4) + _ < 4 ^ (n + 1)
    rw [Nat.pow_succ]
    omega
/-- The sum of eight digits, each at most 8, by three shifts. -/
theorem folds (u : Nat) (hu : u < 18446744073709551616) (h : ∀ j, u / 256 ^ j % 256 ≤ 8) : ((u + u / 256) + (u + u / 256) / 65536 + ((u + u / 256) + (u + u / 256) / 65536) / 4294967296) % 128 = dsum 8 u := by
  have h0 := h 0
  have h1 := h 1
  have h2 := h 2
  have h3 := h 3
  have h4 := h 4
  have h5 := h 5
  have h6 := h 6
  have h7 := h 7
  simp only [Nat.pow_zero, Nat.div_one, Nat.pow_one, show (256 : Nat) ^ 2 = 65536 from rfl, show (256 : Nat) ^ 3 = 16777216 from rfl, show (256 : Nat) ^ 4 = 4294967296 from rfl, show (256 : Nat) ^ 5 = 1099511627776 from rfl, show (256 : Nat) ^ 6 = 281474976710656 from rfl, show (256 : Nat) ^ 7 = 72057594037927936 from rfl] at h0 h1 h2 h3 h4 h5 h6 h7
  obtain ⟨p0, q0⟩ : ∃ p, p = u % 256 := ⟨_, rfl⟩
  obtain ⟨p1, q1⟩ : ∃ p, p = u / 256 % 256 := ⟨_, rfl⟩
  obtain ⟨p2, q2⟩ : ∃ p, p = u / 65536 % 256 := ⟨_, rfl⟩
  obtain ⟨p3, q3⟩ : ∃ p, p = u / 16777216 % 256 := ⟨_, rfl⟩
  obtain ⟨p4, q4⟩ : ∃ p, p = u / 4294967296 % 256 := ⟨_, rfl⟩
  obtain ⟨p5, q5⟩ : ∃ p, p = u / 1099511627776 % 256 := ⟨_, rfl⟩
  obtain ⟨p6, q6⟩ : ∃ p, p = u / 281474976710656 % 256 := ⟨_, rfl⟩
  obtain ⟨p7, q7⟩ : ∃ p, p = u / 72057594037927936 % 256 := ⟨_, rfl⟩
  have hu2 : u = p0 + 256 * p1 + 65536 * p2 + 16777216 * p3 + 4294967296 * p4 + 1099511627776 * p5 + 281474976710656 * p6 + 72057594037927936 * p7 := by omega
  have hd : dsum 8 u = p7 + p6 + p5 + p4 + p3 + p2 + p1 + p0 := by
    show 0 + u / 256 / 256 / 256 / 256 / 256 / 256 / 256 % 256 + u / 256 / 256 / 256 / 256 / 256 / 256 % 256 + u / 256 / 256 / 256 / 256 / 256 % 256 + u / 256 / 256 / 256 / 256 % 256 + u / 256 / 256 / 256 % 256 + u / 256 / 256 % 256 + u / 256 % 256 + u % 256 = _
    omega
  rw [hd]
  rw [← q0] at h0
  rw [← q1] at h1
  rw [← q2] at h2
  rw [← q3] at h3
  rw [← q4] at h4
  rw [← q5] at h5
  rw [← q6] at h6
  rw [← q7] at h7
  clear q0 q1 q2 q3 q4 q5 q6 q7 hd hu h
  have e1 : u / 256 = p1 + 256 * p2 + 65536 * p3 + 16777216 * p4 + 4294967296 * p5 + 1099511627776 * p6 + 281474976710656 * p7 := by omega
  obtain ⟨X, hX⟩ : ∃ X, X = u + u / 256 := ⟨_, rfl⟩
  rw [← hX]
  rw [e1] at hX
  obtain ⟨A, hA⟩ : ∃ A, A = (p2 + p3) + 256 * (p3 + p4) + 65536 * (p4 + p5) + 16777216 * (p5 + p6) + 4294967296 * (p6 + p7) + 1099511627776 * p7 := ⟨_, rfl⟩
  have hl1 : p0 + p1 + 256 * (p1 + p2) < 65536 := by omega
  have hXA : X = (p0 + p1 + 256 * (p1 + p2)) + 65536 * A := by omega
  have e2 : X / 65536 = A := by
    clear hX hA hu2 e1
    generalize p0 + p1 + 256 * (p1 + p2) = L at hl1 hXA
    omega
  rw [e2]
  obtain ⟨Y, hY⟩ : ∃ Y, Y = X + A := ⟨_, rfl⟩
  rw [← hY]
  obtain ⟨B, hB⟩ : ∃ B, B = (p4 + p5 + p6 + p7) + 256 * (p5 + p6 + p7) + 65536 * (p6 + p7) + 16777216 * p7 := ⟨_, rfl⟩
  have hl2 : (p0 + p1 + p2 + p3) + 256 * (p1 + p2 + p3 + p4) + 65536 * (p2 + p3 + p4 + p5) + 16777216 * (p3 + p4 + p5 + p6) < 4294967296 := by
    clear hX hA hu2 e1 hXA hY hB e2
    omega
  obtain ⟨L, hL⟩ : ∃ L, L = (p0 + p1 + p2 + p3) + 256 * (p1 + p2 + p3 + p4) + 65536 * (p2 + p3 + p4 + p5) + 16777216 * (p3 + p4 + p5 + p6) := ⟨_, rfl⟩
  have hYB : Y = L + 4294967296 * B := by
    clear hX hu2 e1 e2 hl1 hl2
    omega
  rw [← hL] at hl2
  have e3 : Y / 4294967296 = B := by
    clear hX hA hu2 e1 hXA hY hB e2 hl1 hL
    omega
  rw [e3]
  have hs : p7 + p6 + p5 + p4 + p3 + p2 + p1 + p0 < 128 := by
    clear hX hA hu2 e1 hXA hY hB e2 hl1 hl2 hL hYB e3
    omega
  obtain ⟨Z, hZ⟩ : ∃ Z, Y + B = (p7 + p6 + p5 + p4 + p3 + p2 + p1 + p0) + 128 * Z := by
    refine ⟨2 * (p1 + p2 + p3 + p4 + p5 + p6 + p7) + 512 * (p2 + p3 + p4 + p5 + p6 + p7) + 131072 * (p3 + p4 + p5 + p6 + p7) + 33554432 * (p4 + p5 + p6 + p7) + 8589934592 * (p5 + p6 + p7) + 2199023255552 * (p6 + p7) + 562949953421312 * p7, ?_⟩
    clear e1 e2 e3 hl1 hl2 hYB hL hX hu2 hs
    omega
  rw [hZ]
  clear hX hA hu2 e1 hXA hY hB e2 hl1 hl2 hL hYB e3 hZ
  generalize p7 + p6 + p5 + p4 + p3 + p2 + p1 + p0 = S at hs ⊢
  omega
/-! ### ones, places, the first -/
theorem ebit_nat (w k : Nat) (hw : w < 18446744073709551616) : ebit (w : Int) k = w.testBit k := by
  unfold ebit
  rw [show (w : Int) / 2 ^ k = ((w / 2 ^ k : Nat) : Int) from by simp, show (1 : Int) = ((1 : Nat) : Int) from rfl, u64_and_nat _ _ (Nat.lt_of_le_of_lt (Nat.div_le_self _ _) hw) (by decide), nat_mask1, Nat.testBit_eq_decide_div_mod_eq]
  congr 1
  apply propext
  omega
theorem ebit_not (w k : Nat) (hw : w < 18446744073709551616) (hk : k < 64) : ebit (Go.bits .xor .u64 IntKind.u64.max (w : Int)) k = !w.testBit k := by
  rw [show IntKind.u64.max = ((18446744073709551615 : Nat) : Int) from by decide, u64_xor_nat _ _ (by decide) hw, ebit_nat _ _ (Nat.xor_lt_two_pow (n := 64) (by decide) hw), Nat.testBit_xor, show (18446744073709551615 : Nat) = 2 ^ 64 - 1 from rfl, Nat.testBit_two_pow_sub_one]
  simp [hk]
theorem not_nat (w : Nat) (hw : w < 18446744073709551616) : Go.bits .xor .u64 IntKind.u64.max (w : Int) = ((18446744073709551615 - w : Nat) : Int) ∧ ∀ k, k < 64 → (18446744073709551615 - w).testBit k = !w.testBit k := by
  have h1 : ∀ k, (18446744073709551615 - w).testBit k = (decide (k < 64) && !w.testBit k) := fun k => by
    have h := Nat.testBit_two_pow_sub_succ (n := 64) (x := w) hw k
    rwa [show 2 ^ 64 - (w + 1) = 18446744073709551615 - w from by omega] at h
  refine ⟨?_, fun k hk => by rw [h1 k]; simp [hk]⟩
  rw [show IntKind.u64.max = ((18446744073709551615 : Nat) : Int) from by decide, u64_xor_nat _ _ (by decide) hw]
  congr 1
  apply Nat.eq_of_testBit_eq
  intro k
  rw [h1 k, Nat.testBit_xor, show (18446744073709551615 : Nat) = 2 ^ 64 - 1 from rfl, Nat.testBit_two_pow_sub_one]
  by_cases e : k < 64
  · simp [e]
  · have : w.testBit k = false := Nat.testBit_lt_two_pow (Nat.lt_of_lt_of_le (show w < 2 ^ 64 from hw) (Nat.pow_le_pow_right (by omega) (by omega)))
    simp [e, this]
theorem cnt_snoc (k : Nat) : ∀ x, cnt (k + 1) x = cnt k x + x / 2 ^ k % 2 := by
  induction k with
  | zero => intro x; show 0 + x % 2 = 0 + x / 1 % 2; rw [Nat.div_one]
  | succ k ih =>
    intro x
    show cnt (k + 1) (x / 2) + x % 2 = (cnt k (x / 2) + x % 2) + x / 2 ^ (k + 1) % 2
    rw [ih (x / 2), Nat.pow_succ', ← Nat.div_div_eq_div_mul]
    omega
theorem cnt_bit (k x : Nat) : cnt (k + 1) x = cnt k x + (if x.testBit k = true then 1 else 0) := by
  rw [cnt_snoc, Nat.testBit_eq_decide_div_mod_eq]
  rcases Nat.mod_two_eq_zero_or_one (x / 2 ^ k) with e | e <;> simp [e]
theorem ones_cnt (w : Nat) (hw : w < 18446744073709551616) (k : Nat) : (ones (w : Int) k).length = cnt k w := by
  induction k with
  | zero => rfl
  | succ k ih =>
    rw [cnt_bit, ← ih]
    cases hb : ebit (w : Int) k with
    | true => rw [ones_hit _ _ hb, ← ebit_nat w k hw, hb]; simp
    | false => rw [ones_miss _ _ hb, ← ebit_nat w k hw, hb]; simp
theorem cnt_mod (n w : Nat) : ∀ k, cnt k (w % 2 ^ n) = cnt (min k n) w := by
  intro k
  induction k with
  | zero => rw [Nat.zero_min]; rfl
  | succ k ih =>
    rw [cnt_bit, ih, Nat.testBit_mod_two_pow]
    by_cases e : k < n
    · rw [show min (k + 1) n = min k n + 1 from by omega, cnt_bit, show min k n = k from by omega]
      simp [e]
    · rw [show min (k + 1) n = min k n from by omega]
      simp [e]
theorem cnt_le (k w : Nat) : cnt k w ≤ k := by
  induction k with
  | zero => exact Nat.le_refl _
  | succ k ih => rw [cnt_bit]; split <;> omega
theorem held_eq (m : Int) : field_held.f m = some (held m : Int) := by
  unfold field_held.f held mx mn
  congr 1
  split <;> split <;> omega
theorem i64_and127 (z : Nat) (h : z < 9223372036854775808) : Go.bits .and .i64 (z : Int) 127 = ((z % 128 : Nat) : Int) := by
  have h1 : Go.bits .and .i64 (z : Int) 127 = IntKind.i64.wrap ((BitVec.ofInt 64 (z : Int) &&& BitVec.ofInt 64 127).toNat : Int) := rfl
  have h2 : (BitVec.ofInt 64 (z : Int)).toNat = z := ofInt_u64 z (by omega)
  have h3 : (BitVec.ofInt 64 127).toNat = 127 := by decide
  have h4 : (z &&& 127) = z % 128 := Nat.and_two_pow_sub_one_eq_mod z 7
  rw [h1, BitVec.toNat_and, h2, h3, h4, i64_w]
  exact w64 (by omega)
theorem onescount_eq (x : Nat) (hx : x < 18446744073709551616) : bits_OnesCount64.f (x : Int) = some ((cnt 64 x : Nat) : Int) := by
  have s1 := step1 32 x
  have s2 := step2 16 x
  have s3 := step3 8 x
  have l2 := d2_lt 32 x
  have l4 := d4_lt 16 x
  have l8 := d8_lt 8 x
  rw [show pat 2 1 32 = 6148914691236517205 from by decide] at s1
  rw [show pat 4 3 16 = 3689348814741910323 from by decide] at s2
  rw [show pat 8 15 8 = 1085102592571150095 from by decide] at s3
  rw [show 2 * 16 = 32 from rfl] at s2
  rw [show 2 * 8 = 16 from rfl] at s3
  have w : ∀ n : Nat, n < 18446744073709551616 → IntKind.u64.wrap (n : Int) = (n : Int) := fun n h => by rw [IntKind.wrap_u64]; omega
  have a1 : ∀ y : Nat, y < 18446744073709551616 → Go.bits .and .u64 (y : Int) 6148914691236517205 = ((y &&& 6148914691236517205 : Nat) : Int) := fun y h => u64_and_nat y 6148914691236517205 h (by decide)
  have a2 : ∀ y : Nat, y < 18446744073709551616 → Go.bits .and .u64 (y : Int) 3689348814741910323 = ((y &&& 3689348814741910323 : Nat) : Int) := fun y h => u64_and_nat y 3689348814741910323 h (by decide)
  have a3 : ∀ y : Nat, y < 18446744073709551616 → Go.bits .and .u64 (y : Int) 1085102592571150095 = ((y &&& 1085102592571150095 : Nat) : Int) := fun y h => u64_and_nat y 1085102592571150095 h (by decide)
  have hA : IntKind.u64.wrap (Go.bits .and .u64 ((x : Int) / 2) 6148914691236517205 + Go.bits .and .u64 (x : Int) 6148914691236517205) = ((d2 32 x : Nat) : Int) := by
    rw [show (x : Int) / 2 = ((x / 2 : Nat) : Int) from rfl, a1 _ (by omega), a1 _ hx, ← s1]
    exact w _ (by rw [s1]; exact Nat.lt_of_lt_of_le l2 (by decide))
  have hB : IntKind.u64.wrap (Go.bits .and .u64 (((d2 32 x : Nat) : Int) / 4) 3689348814741910323 + Go.bits .and .u64 ((d2 32 x : Nat) : Int) 3689348814741910323) = ((d4 16 x : Nat) : Int) := by
    have h : d2 32 x < 18446744073709551616 := Nat.lt_of_lt_of_le l2 (by decide)
    rw [show ((d2 32 x : Nat) : Int) / 4 = ((d2 32 x / 4 : Nat) : Int) from rfl, a2 _ (by omega), a2 _ h, ← s2]
    exact w _ (by rw [s2]; exact Nat.lt_of_lt_of_le l4 (by decide))
  have hC : Go.bits .and .u64 (IntKind.u64.wrap (((d4 16 x : Nat) : Int) / 16 + ((d4 16 x : Nat) : Int))) 1085102592571150095 = ((d8 8 x : Nat) : Int) := by
    have h : d4 16 x < 18446744073709551616 := Nat.lt_of_lt_of_le l4 (by decide)
    have h4 : d4 16 x / 16 + d4 16 x < 18446744073709551616 := by
      have e : d4 16 x = 16 * d4 15 (x / 16) + (x / 8 % 2 + x / 4 % 2 + x / 2 % 2 + x % 2) := rfl
      have e2 : d4 16 x ≤ 4919131752989213764 := by
        have m : ∀ n y, 15 * d4 n y ≤ 4 * (16 ^ n - 1) := by
          intro n
          induction n with
          | zero => intro y; simp [d4]
          | succ n ih =>
            intro y
            have h1 := ih (y / 16)
            have h2 : 16 ^ (n + 1) = 16 * 16 ^ n := Nat.pow_succ'
            have h3 : 0 < 16 ^ n := Nat.pow_pos (by decide)
            have h5 : y / 8 % 2 + y / 4 % 2 + y / 2 % 2 + y % 2 ≤ 4 := by omega
            show 15 * (16 * d4 n (y / 16) + (y / 8 % 2 + y / 4 % 2 + y / 2 % 2 + y % 2)) ≤ _
            generalize y / 8 % 2 + y / 4 % 2 + y / 2 % 2 + y % 2 = q at h5 ⊢
            omega
        have m16 := m 16 x
        rw [show 4 * (16 ^ 16 - 1) = 73786976294838206460 from by decide] at m16
        omega
      omega
    rw [show ((d4 16 x : Nat) : Int) / 16 + ((d4 16 x : Nat) : Int) = ((d4 16 x / 16 + d4 16 x : Nat) : Int) from rfl, w _ h4, a3 _ h4, s3]
  have hu := d8_le 8 x
  have hu8 : d8 8 x < 18446744073709551616 := Nat.lt_of_lt_of_le l8 (by decide)
  have hf := folds (d8 8 x) hu8 hu
  rw [dsum_d8] at hf
  have ht := hu 7
  have ht6 := hu 6
  rw [show (256 : Nat) ^ 7 = 72057594037927936 from rfl] at ht
  have hu9 : d8 8 x ≤ 648518346341351423 := by
    have hq : d8 8 x / 72057594037927936 < 256 := by omega
    rw [Nat.mod_eq_of_lt hq] at ht
    clear hC hA hB hf hu s1 s2 s3 ht6
    omega
  generalize d8 8 x = u at hC hu8 hf hu9
  have hD : IntKind.u64.wrap ((u : Int) + (u : Int) / 256) = ((u + u / 256 : Nat) : Int) := w (u + u / 256) (by omega)
  obtain ⟨X, hX⟩ : ∃ X, X = u + u / 256 := ⟨_, rfl⟩
  rw [← hX] at hD hf
  have hX9 : X ≤ 700000000000000000 := by omega
  have hE : IntKind.u64.wrap ((X : Int) + (X : Int) / 65536) = ((X + X / 65536 : Nat) : Int) := w (X + X / 65536) (by omega)
  obtain ⟨Y, hY⟩ : ∃ Y, Y = X + X / 65536 := ⟨_, rfl⟩
  rw [← hY] at hE hf
  have hY9 : Y ≤ 800000000000000000 := by omega
  have hF : IntKind.u64.wrap ((Y : Int) + (Y : Int) / 4294967296) = ((Y + Y / 4294967296 : Nat) : Int) := w (Y + Y / 4294967296) (by omega)
  obtain ⟨Z, hZ⟩ : ∃ Z, Z = Y + Y / 4294967296 := ⟨_, rfl⟩
  rw [← hZ] at hF hf
  have hZ9 : Z ≤ 900000000000000000 := by omega
  unfold bits_OnesCount64.f
  rw [hA, hB, hC, hD, hE, hF, w64 (by omega), i64_and127 Z (by omega), hf]
theorem ones_eq (w : Nat) (m : Int) (hw : w < 18446744073709551616) : field_Ones.f (w : Int) m = some ((cnt (held m) w : Nat) : Int) := by
  unfold field_Ones.f
  have hH := held_le m
  rw [held_eq m, Option.bind_some]
  by_cases e : held m = 0
  · rw [if_pos (by omega), e]; rfl
  · have hp : 2 ^ held m ≤ 2 ^ 64 := Nat.pow_le_pow_right (by omega) hH
    have hp0 := Nat.two_pow_pos (held m)
    rw [if_neg (by omega), mask_eq _ (by omega) hH, Option.bind_some, u64_and_nat _ _ hw (by omega), Nat.and_two_pow_sub_one_eq_mod, onescount_eq _ (Nat.lt_of_le_of_lt (Nat.mod_le _ _) hw), Option.bind_some, cnt_mod, show min 64 (held m) = held m from by omega]
theorem awake_true : lockfastlaw01_awake.f = some true := by
  unfold lockfastlaw01_awake.f
  rw [show field_Get.f 65280 4 8 = some 240 from get_eq 65280 4 8 (by decide) (by decide) (by decide), Option.bind_some, if_pos rfl]
  have hn := not_nat 7 (by decide)
  have hf : field_First.f 7 4 false = some 3 := by
    unfold field_First.f
    rw [if_neg (by decide), show (7 : Int) = ((7 : Nat) : Int) from rfl, hn.1]
    have e : ∀ k, ebit ((18446744073709551615 - 7 : Nat) : Int) k = (18446744073709551615 - 7 : Nat).testBit k := fun k => ebit_nat _ k (by decide)
    rw [show held 4 = 3 + 1 from by decide]
    unfold firstOf
    rw [ones_hit _ 3 (by rw [e]; decide), ones_miss _ 2 (by rw [e]; decide), ones_miss _ 1 (by rw [e]; decide), ones_miss _ 0 (by rw [e]; decide)]
    rfl
  rw [hf, Option.bind_some, if_pos rfl, show field_Put.f 0 4 4 5 = some 80 from put_eq 0 4 4 5 (by decide) (by decide) (by decide), Option.bind_some, if_pos rfl, show field_Ones.f 7 2 = some 2 from ones_eq 7 2 (by decide), Option.bind_some, if_pos rfl]
  unfold field_Places.f
  rw [Option.bind_some, show (5 : Int) = ((5 : Nat) : Int) from rfl, ones_cnt 5 (by decide)]
  decide

theorem next_place (W : Nat) (hw : W < 18446744073709551616) (n d : Nat) : ∀ q, q + d = n → (∀ j, q ≤ j → j < n → W.testBit j = false) ∨ ∃ p, q ≤ p ∧ p < n ∧ W.testBit p = true ∧ (∀ j, q ≤ j → j < p → W.testBit j = false) ∧ ones (W : Int) (p + 1) = ones (W : Int) q ++ [(p : Int)] := by
  induction d with
  | zero => intro q hq; exact .inl (fun j h1 h2 => by omega)
  | succ d ih =>
    intro q hq
    cases e : W.testBit q with
    | true => exact .inr ⟨q, Nat.le_refl _, by omega, e, fun j h1 h2 => by omega, ones_hit _ _ (by rw [ebit_nat W q hw]; exact e)⟩
    | false =>
      have hm : ones (W : Int) (q + 1) = ones (W : Int) q := ones_miss _ _ (by rw [ebit_nat W q hw]; exact e)
      rcases ih (q + 1) (by omega) with h | ⟨p, h1, h2, h3, h4, h5⟩
      · refine .inl (fun j g1 g2 => ?_)
        by_cases c : j = q
        · rw [c]; exact e
        · exact h j (by omega) g2
      · refine .inr ⟨p, by omega, h2, h3, fun j g1 g2 => ?_, by rw [h5, hm]⟩
        by_cases c : j = q
        · rw [c]; exact e
        · exact h4 j (by omega) g2
theorem put_place (W q p : Nat) (hqp : q ≤ p) (h3 : W.testBit p = true) (h4 : ∀ j, q ≤ j → j < p → W.testBit j = false) : putN (W % 2 ^ q) p 1 1 = W % 2 ^ (p + 1) := by
  apply Nat.eq_of_testBit_eq
  intro j
  rw [putN_bit, Nat.testBit_mod_two_pow, Nat.testBit_mod_two_pow]
  by_cases c : p ≤ j ∧ j < p + 1
  · obtain rfl : j = p := by omega
    rw [if_pos c, h3, Nat.sub_self]
    simp
  · rw [if_neg c]
    by_cases c2 : j < q
    · simp [c2, show j < p + 1 from by omega]
    · by_cases c3 : j < p
      · simp [h4 j (by omega) c3, c2]
      · simp [c2, show ¬ j < p + 1 from by omega]
theorem places_l (W n : Nat) (hw : W < 18446744073709551616) (hn : 1 ≤ n) (hn64 : n ≤ 64) (d : Nat) : ∀ (k q i : Nat) (last : Int), d + 1 ≤ k → i + d = (ones (W : Int) n).length → q ≤ n → (ones (W : Int) q).length = i → last < (q : Int) →
    lockfastlaw01_FieldPlaces.l0 k (W : Int) true (n : Int) (ones (W : Int) n) ((W % 2 ^ q : Nat) : Int) last (i : Int) = some true := by
  have hlen := ones_length (W : Int) n
  have hheld : held (n : Int) = n := by unfold held; omega
  induction d with
  | zero =>
    intro k q i last hk hi hq hl hla
    obtain ⟨k, rfl⟩ : ∃ k', k = k' + 1 := ⟨k - 1, by omega⟩
    have hz : W % 2 ^ q = W % 2 ^ n := by
      rcases next_place W hw n (n - q) q (by omega) with h | ⟨p, h1, h2, h3, h4, h5⟩
      · apply Nat.eq_of_testBit_eq
        intro j
        rw [Nat.testBit_mod_two_pow, Nat.testBit_mod_two_pow]
        by_cases c : j < q
        · simp [c, show j < n from by omega]
        · by_cases c2 : j < n
          · simp [h j (by omega) c2]
          · simp [c, c2]
      · have hp := (ones_prefix (W : Int) (p + 1) n (by omega)).length_le
        rw [h5] at hp
        simp at hp
        omega
    have hg := get_eq W 0 n hw hn (by omega)
    rw [Nat.pow_zero, Nat.div_one] at hg
    simp only [lockfastlaw01_FieldPlaces.l0]
    rw [if_neg (by omega), if_pos trivial, show field_Get.f (W : Int) 0 (n : Int) = some ((W % 2 ^ n : Nat) : Int) from hg, Option.bind_some, hz, if_pos rfl, ones_eq W _ hw, Option.bind_some, hheld, ones_cnt W hw]
    simp
  | succ d ih =>
    intro k q i last hk hi hq hl hla
    obtain ⟨k, rfl⟩ : ∃ k', k = k' + 1 := ⟨k - 1, by omega⟩
    rcases next_place W hw n (n - q) q (by omega) with h | ⟨p, h1, h2, h3, h4, h5⟩
    · exfalso
      have hz : cnt n W = cnt q W := by
        have : ∀ e, q + e ≤ n → cnt (q + e) W = cnt q W := by
          intro e
          induction e with
          | zero => intro _; rfl
          | succ e ihe =>
            intro he
            rw [show q + (e + 1) = q + e + 1 from rfl, cnt_bit, ihe (by omega), h (q + e) (by omega) (by omega)]
            simp
        have h7 := this (n - q) (by omega)
        rwa [show q + (n - q) = n from by omega] at h7
      rw [ones_cnt W hw] at hi hl
      omega
    · obtain ⟨t, ht⟩ := ones_prefix (W : Int) (p + 1) n (by omega)
      have hrd : rd (ones (W : Int) n) (i : Int) = (p : Int) := by
        rw [← ht, h5]
        unfold rd
        rw [Int.toNat_natCast, ← hl]
        simp
      simp only [lockfastlaw01_FieldPlaces.l0]
      rw [if_pos (by omega), if_pos (by omega), hrd, if_neg (by omega), if_neg (by omega), show field_Put.f ((W % 2 ^ q : Nat) : Int) (p : Int) 1 1 = _ from put_eq (W % 2 ^ q) p 1 1 (Nat.lt_of_le_of_lt (Nat.mod_le _ _) hw) (by omega) (by omega), Option.bind_some, put_place W q p h1 h3 h4, w64 (by omega)]
      exact ih k (p + 1) (i + 1) (p : Int) (by omega) (by omega) (by omega) (by rw [h5]; simp [hl]) (by omega)
theorem FieldPlaces : lockfastlaw01_FieldPlaces.Pure := by
  intro w a hw ha
  refine ⟨500, ?_⟩
  have hW := bounds_u64 hw
  have hA := bounds_u8 ha
  obtain ⟨W, rfl⟩ := Int.eq_ofNat_of_zero_le hW.1
  obtain ⟨n, hn⟩ := Int.eq_ofNat_of_zero_le (show 0 ≤ 1 + a % 64 from by omega)
  have e1 : wrap64 (1 + wrap64 (Int.tmod a 64)) = (n : Int) := by rw [Int.tmod_eq_emod_of_nonneg hA.1, w64 (show -9223372036854775808 ≤ a % 64 ∧ a % 64 ≤ 9223372036854775807 from by omega), w64 (by omega), hn]
  have hheld : held (n : Int) = n := by unfold held; omega
  have hlen := ones_length (W : Int) n
  have h := places_l W n (by omega) (by omega) (by omega) (ones (W : Int) n).length 500 0 0 (-1) (by omega) (by omega) (by omega) rfl (by omega)
  rw [Nat.pow_zero, Nat.mod_one] at h
  unfold lockfastlaw01_FieldPlaces.f
  rw [awake_true, Option.bind_some, e1, show field_Places.f (W : Int) (n : Int) = some (ones (W : Int) n) from by unfold field_Places.f; rw [hheld], Option.bind_some]
  exact h

end Go.Proofs.Ytajdfbopddcliaa.Pure
