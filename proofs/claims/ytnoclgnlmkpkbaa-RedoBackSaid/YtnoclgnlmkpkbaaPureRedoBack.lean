/- What is encoded is decoded. -/
import Derived.Test.YtnoclgnlmkpkbaaPRedoBackx6
import Derived.Test.YtnoclgnlmkpkbaaCrcMath
import Derived.OpenShut
namespace Go.Proofs.Ytnoclgnlmkpkbaa.Pure
open Go.RowKit Go.Proofs.YtnoclgnlmkpkbaaX Go.Proofs.Ytnoclgnlmkpkbaa.PRedoBack Go.Proofs.YtnoclgnlmkpkbaaW.PrintWords Go.Proofs.YtnoclgnlmkpkbaaW.PrintLast Go.Proofs.YtnoclgnlmkpkbaaW.PrintMore

theorem words_wf {l : List Int} (h : ∀ x ∈ l, (Lit.int .u64 x).wf = true) : Words l := fun x hx => by
  have := bounds_u64 (h x hx)
  omega
theorem w64 {x : Int} (h : -9223372036854775808 ≤ x ∧ x ≤ 9223372036854775807) : wrap64 x = x := by unfold wrap64; omega
theorem words_nil : Words [] := fun x hx => by simp at hx
theorem words_app {l m : List Int} (hl : Words l) (hm : Words m) : Words (l ++ m) := fun x hx => by
  rcases List.mem_append.mp hx with h | h
  · exact hl x h
  · exact hm x h
theorem words_one {x : Int} (h0 : 0 ≤ x) (h1 : x < 18446744073709551616) : Words [x] := fun y hy => by
  have : y = x := by simpa using hy
  omega
theorem words_take {l : List Int} (hl : Words l) (n : Nat) : Words (l.take n) := fun x hx => hl x (List.mem_of_mem_take hx)
theorem words_drop {l : List Int} (hl : Words l) (n : Nat) : Words (l.drop n) := fun x hx => hl x (List.mem_of_mem_drop hx)
theorem more_nat {s : Nat} {l : List Int} (hl : Words l) (h : s < 4294967296) : seal_More.f (s : Int) l = some ((nmore s l : Nat) : Int) := congrArg some (crcMore_nat s l hl h)
theorem of_nat {l : List Int} (hl : Words l) : seal_Of.f l = some ((nmore 0 l : Nat) : Int) := by
  unfold seal_Of.f
  rw [show (0 : Int) = ((0 : Nat) : Int) from rfl, more_nat hl (by decide)]
  rfl
theorem seal_eq {l : List Int} (hl : Words l) (hs : l.length ≤ 1000) : seal_Seal.f l = some (l ++ [((nmore 0 l : Nat) : Int)]) := by
  unfold seal_Seal.f
  have hc := nmore_lt 0 l hl (by decide)
  rw [if_pos (by omega), show crcMore 0 l = ((nmore 0 l : Nat) : Int) from crcMore_nat 0 l hl (by decide), IntKind.wrap_u64, Int.emod_eq_of_lt (by omega) (by omega)]
theorem open_nil : seal_Open.f [] = some ([], false) := by
  unfold seal_Open.f
  rw [if_pos (by simp [wrap64])]
theorem open_eq {l : List Int} (x : Int) (hl : Words l) (hs : l.length ≤ 1000) : seal_Open.f (l ++ [x]) = some (if x = ((nmore 0 l : Nat) : Int) then (l, true) else ([], false)) := by
  unfold seal_Open.f
  have e : wrap64 (((l ++ [x]).length : Int) - 1) = (l.length : Int) := by
    rw [w64 (by simp; omega)]
    simp
  have hc := nmore_lt 0 l hl (by decide)
  rw [e, if_neg (by omega), if_pos (by omega), if_pos (by simp; omega), if_pos (by simp; omega), Int.toNat_natCast, List.take_left, of_nat hl]
  simp only [Option.bind_some]
  rw [show rd (l ++ [x]) (l.length : Int) = x from by simp [rd], IntKind.wrap_u64, Int.emod_eq_of_lt (by omega) (by omega)]
  by_cases c : x = ((nmore 0 l : Nat) : Int)
  · rw [if_pos c, if_pos c, if_pos (by simp; omega)]; rfl
  · rw [if_neg c, if_neg c]
theorem words_loop (l m : List Int) (hlen : l.length = m.length) (hs : l.length ≤ 1000) (d : Nat) : ∀ (k i : Nat), d + 1 ≤ k → i + d = l.length → lockfastref01_Words.l0 k l m (i : Int) = some (decide (l.drop i = m.drop i)) := by
  induction d with
  | zero =>
    intro k i hk hi
    obtain ⟨k, rfl⟩ : ∃ k', k = k' + 1 := ⟨k - 1, by omega⟩
    simp only [lockfastref01_Words.l0]
    rw [if_neg (by omega), List.drop_eq_nil_of_le (by omega), List.drop_eq_nil_of_le (by omega)]
    simp
  | succ d ih =>
    intro k i hk hi
    obtain ⟨k, rfl⟩ : ∃ k', k = k' + 1 := ⟨k - 1, by omega⟩
    have h1 : l.drop i = rd l (i : Int) :: l.drop (i + 1) := by
      rw [List.drop_eq_getElem_cons (by omega)]
      simp [rd, show i < l.length from by omega]
    have h2 : m.drop i = rd m (i : Int) :: m.drop (i + 1) := by
      rw [List.drop_eq_getElem_cons (by omega)]
      simp [rd, show i < m.length from by omega]
    simp only [lockfastref01_Words.l0]
    rw [if_pos (by omega), if_pos (by omega), if_pos (by omega), h1, h2]
    by_cases e : rd l (i : Int) = rd m (i : Int)
    · rw [if_pos e, e, w64 (by omega), show (i : Int) + 1 = ((i + 1 : Nat) : Int) from rfl, ih k (i + 1) (by omega) (by omega)]
      simp
    · rw [if_neg e]
      simp [e]
theorem wordsf_eq (k : Nat) (l m : List Int) (hs : l.length ≤ 1000) (hk : l.length + 1 ≤ k) : lockfastref01_Words.f k l m = some (decide (l = m)) := by
  unfold lockfastref01_Words.f
  by_cases e : l.length = m.length
  · rw [if_pos (by omega)]
    have h := words_loop l m e hs l.length k 0 (by omega) (by omega)
    simpa using h
  · rw [if_neg (by omega)]
    have : l ≠ m := fun h => e (by rw [h])
    simp [this]
theorem mask_bit (n j : Nat) : (2 ^ n - 1).testBit j = decide (j < n) := Nat.testBit_two_pow_sub_one n j
theorem fits_eq (a n : Nat) (h1 : 1 ≤ n) (h : a + n ≤ 64) : field_Fits.f (a : Int) (n : Int) = some true := by
  unfold field_Fits.f
  rw [if_pos (by omega), if_pos (by omega), if_pos (by omega), w64 (by omega), decide_eq_true (by omega)]
theorem mask_eq (n : Nat) (h1 : 1 ≤ n) (h : n ≤ 64) : field_mask.f (n : Int) = some ((2 ^ n - 1 : Nat) : Int) := by
  unfold field_mask.f
  rw [w64 (by omega), if_pos (by omega), show (64 : Int) - (n : Int) = ((64 - n : Nat) : Int) from by omega]
  unfold shr
  rw [Int.toNat_natCast, show min (64 - n) IntKind.u64.bits = 64 - n from by simp only [IntKind.bits]; omega]
  have h2 : (18446744073709551615 : Nat) / 2 ^ (64 - n) = 2 ^ n - 1 := by
    have e : 2 ^ n * 2 ^ (64 - n) = 18446744073709551616 := by rw [← Nat.pow_add, show n + (64 - n) = 64 from by omega]
    have p1 := Nat.two_pow_pos n
    have p2 := Nat.two_pow_pos (64 - n)
    have e2 : (2 ^ n - 1) * 2 ^ (64 - n) + 2 ^ (64 - n) = 18446744073709551616 := by
      rw [Nat.sub_mul, Nat.one_mul, e]
      have : 2 ^ (64 - n) ≤ 18446744073709551616 := by rw [← e]; exact Nat.le_mul_of_pos_left _ p1
      omega
    apply Nat.div_eq_of_lt_le
    · omega
    · rw [Nat.succ_mul]; omega
  rw [show (18446744073709551615 : Int) / 2 ^ (64 - n) = (((18446744073709551615 : Nat) / 2 ^ (64 - n) : Nat) : Int) from by simp, h2]
theorem shr_nat (w a : Nat) (ha : a ≤ 64) : shr .u64 (w : Int) (a : Int) = ((w / 2 ^ a : Nat) : Int) := by
  unfold shr
  rw [Int.toNat_natCast, show min a IntKind.u64.bits = a from by simp only [IntKind.bits]; omega]
  simp
theorem shl_nat (w a : Nat) (ha : a ≤ 64) : shl .u64 (w : Int) (a : Int) = ((w * 2 ^ a % 18446744073709551616 : Nat) : Int) := by
  unfold shl
  rw [Int.toNat_natCast, show min a IntKind.u64.bits = a from by simp only [IntKind.bits]; omega, IntKind.wrap_u64]
  simp
theorem get_eq (w a n : Nat) (hw : w < 18446744073709551616) (h1 : 1 ≤ n) (h : a + n ≤ 64) : field_Get.f (w : Int) (a : Int) (n : Int) = some ((w / 2 ^ a % 2 ^ n : Nat) : Int) := by
  unfold field_Get.f
  have hp : 2 ^ n ≤ 2 ^ 64 := Nat.pow_le_pow_right (by omega) (by omega)
  have hp0 := Nat.two_pow_pos n
  rw [fits_eq a n h1 h, Option.bind_some, if_pos rfl, if_pos (by omega), mask_eq n h1 (by omega), Option.bind_some, shr_nat w a (by omega), u64_and_nat _ _ (Nat.lt_of_le_of_lt (Nat.div_le_self _ _) hw) (by omega), Nat.and_two_pow_sub_one_eq_mod]
def putN (w a n v : Nat) : Nat := 2 ^ a * (2 ^ n * (w / 2 ^ (a + n)) + v % 2 ^ n) + w % 2 ^ a
theorem putN_bit (w a n v j : Nat) : (putN w a n v).testBit j = if a ≤ j ∧ j < a + n then v.testBit (j - a) else w.testBit j := by
  unfold putN
  rw [Nat.testBit_two_pow_mul_add _ (Nat.mod_lt _ (Nat.two_pow_pos a))]
  by_cases h1 : j < a
  · rw [if_pos h1, if_neg (by omega), Nat.testBit_mod_two_pow]
    simp [h1]
  · rw [if_neg h1, Nat.testBit_two_pow_mul_add _ (Nat.mod_lt _ (Nat.two_pow_pos n))]
    by_cases h2 : j < a + n
    · rw [if_pos (by omega), if_pos (by omega), Nat.testBit_mod_two_pow]
      simp [show j - a < n from by omega]
    · rw [if_neg (by omega), if_neg (by omega), ← Nat.shiftRight_eq_div_pow, Nat.testBit_shiftRight, show a + n + (j - a - n) = j from by omega]
theorem putN_lt (w a n v : Nat) (hw : w < 2 ^ 64) (h : a + n ≤ 64) : putN w a n v < 2 ^ 64 := by
  apply Nat.lt_pow_two_of_testBit
  intro j hj
  rw [putN_bit, if_neg (by omega)]
  exact Nat.testBit_lt_two_pow (Nat.lt_of_lt_of_le hw (Nat.pow_le_pow_right (by omega) hj))
theorem put_eq (w a n v : Nat) (hw : w < 18446744073709551616) (h1 : 1 ≤ n) (h : a + n ≤ 64) : field_Put.f (w : Int) (a : Int) (n : Int) (v : Int) = some ((putN w a n v : Nat) : Int) := by
  unfold field_Put.f
  have hp : 2 ^ n ≤ 2 ^ 64 := Nat.pow_le_pow_right (by omega) (by omega)
  have hp0 := Nat.two_pow_pos n
  have e1 : ∀ x : Nat, x % 18446744073709551616 < 18446744073709551616 := fun x => Nat.mod_lt _ (by decide)
  rw [fits_eq a n h1 h, Option.bind_some, if_pos rfl, mask_eq n h1 (by omega), Option.bind_some, if_pos (by omega), shl_nat _ a (by omega), shl_nat v a (by omega), u64_andNot_nat _ _ hw (e1 _), u64_and_nat _ _ (e1 _) (e1 _), u64_or_nat]
  · congr 2
    apply Nat.eq_of_testBit_eq
    intro j
    have hMb : ((2 ^ n - 1) * 2 ^ a % 18446744073709551616).testBit j = (decide (j < 64) && (decide (j ≥ a) && decide (j - a < n))) := by
      rw [show (18446744073709551616 : Nat) = 2 ^ 64 from rfl, Nat.testBit_mod_two_pow, Nat.mul_comm, Nat.testBit_two_pow_mul, mask_bit]
    have hVb : (v * 2 ^ a % 18446744073709551616).testBit j = (decide (j < 64) && (decide (j ≥ a) && v.testBit (j - a))) := by
      rw [show (18446744073709551616 : Nat) = 2 ^ 64 from rfl, Nat.testBit_mod_two_pow, Nat.mul_comm, Nat.testBit_two_pow_mul]
    have hm : (2 ^ n - 1) * 2 ^ a % 18446744073709551616 < 2 ^ 64 := e1 _
    generalize (2 ^ n - 1) * 2 ^ a % 18446744073709551616 = M at hMb hm ⊢
    have hnot := Nat.testBit_two_pow_sub_succ (n := 64) hm j
    rw [show 2 ^ 64 - (M + 1) = 18446744073709551615 - M from by omega] at hnot
    rw [putN_bit, Nat.testBit_or, Nat.testBit_and, Nat.testBit_and, hnot, hVb, hMb]
    by_cases hj : j < 64
    · by_cases h2 : a ≤ j
      · by_cases h3 : j - a < n
        · rw [if_pos (by omega)]; simp [hj, h2, h3]
        · rw [if_neg (by omega)]; simp [hj, h2, h3]
      · rw [if_neg (by omega)]; simp [hj, h2]
    · have hwj : w.testBit j = false := Nat.testBit_lt_two_pow (Nat.lt_of_lt_of_le (show w < 2 ^ 64 from hw) (Nat.pow_le_pow_right (by omega) (by omega)))
      rw [if_neg (by omega)]; simp [hj, hwj]
  · exact Nat.lt_of_le_of_lt Nat.and_le_left hw
  · exact Nat.lt_of_le_of_lt Nat.and_le_left (e1 _)
theorem first_eq (k p : Nat) (hk : k < 4) (hp : p < 1048576) (b : Int) : redo_first.f (k : Int) (p : Int) b = some ((4 * p + k : Nat) : Int) := by
  unfold redo_first.f
  rw [IntKind.wrap_u64, IntKind.wrap_u64, show ((k : Int) % 18446744073709551616) = (k : Int) by omega, show ((p : Int) % 18446744073709551616) = (p : Int) by omega]
  rw [show (field_Put.f 0 0 2 (k : Int)) = some ((putN 0 0 2 k : Nat) : Int) from put_eq 0 0 2 k (by decide) (by decide) (by decide), Option.bind_some]
  have h1 : putN 0 0 2 k = k := by unfold putN; omega
  rw [h1, show (field_Put.f (k : Int) 2 20 (p : Int)) = some ((putN k 2 20 p : Nat) : Int) from put_eq k 2 20 p (by omega) (by decide) (by decide), Option.bind_some]
  have h2 : putN k 2 20 p = 4 * p + k := by unfold putN; omega
  rw [h2]
def op1 (a b : Int) : S38 := ⟨a % 4, a / 4 % 1048576, b⟩
def bad1 (a : Int) : Bool := !(decide (a % 4 ≤ 2 ∧ a / 4 % 1048576 < 65536 ∧ a < 4194304))
def specOps : List Int → List S38 → List S38 × Bool
  | a :: b :: t, acc => if bad1 a = true then ([], false) else specOps t (acc ++ [op1 a b])
  | _, acc => (acc, true)
theorem specOps_good (a b : Int) (t : List Int) (acc : List S38) (h : bad1 a = false) : specOps (a :: b :: t) acc = specOps t (acc ++ [op1 a b]) := by rw [specOps, h, if_neg (by decide)]
theorem specOps_bad (a b : Int) (t : List Int) (acc : List S38) (h : bad1 a = true) : specOps (a :: b :: t) acc = ([], false) := by rw [specOps, h, if_pos rfl]
theorem wrong_val (x y z : Int) : redo_wrong.f x y z = some (!(decide (0 ≤ x ∧ x ≤ 2 ∧ 0 ≤ y ∧ y < 65536))) := by
  unfold redo_wrong.f redo_right.f
  by_cases h1 : 0 ≤ x <;> by_cases h2 : x ≤ 2 <;> by_cases h3 : 0 ≤ y <;> by_cases h4 : y < 65536 <;> simp [h1, h2, h3, h4]
theorem get02 (n : Nat) (hn : n < 18446744073709551616) : field_Get.f (n : Int) 0 2 = some ((n % 4 : Nat) : Int) := by
  have h := get_eq n 0 2 hn (by decide) (by decide)
  simpa using h
theorem get220 (n : Nat) (hn : n < 18446744073709551616) : field_Get.f (n : Int) 2 20 = some ((n / 4 % 1048576 : Nat) : Int) := by
  have h := get_eq n 2 20 hn (by decide) (by decide)
  simpa using h
theorem ops_eq : ∀ (o : List Int) (acc : List S38), Words o → redo_ops o acc = some (specOps o acc)
  | [], acc, _ => rfl
  | [a], acc, _ => rfl
  | a :: b :: t, acc, h => by
    have ha := h a (by simp)
    obtain ⟨n, rfl⟩ := Int.eq_ofNat_of_zero_le ha.1
    have hn : n < 18446744073709551616 := by omega
    rw [redo_ops, get02 n hn, Option.bind_some, get220 n hn, Option.bind_some, w64 (by omega), w64 (by omega), wrong_val, Option.bind_some, first_eq (n % 4) (n / 4 % 1048576) (by omega) (by omega), specOps]
    have hop : op1 (n : Int) b = ⟨((n % 4 : Nat) : Int), ((n / 4 % 1048576 : Nat) : Int), b⟩ := by unfold op1; rfl
    by_cases hb : n % 4 ≤ 2 ∧ n / 4 % 1048576 < 65536 ∧ n < 4194304
    · have h1 : decide (0 ≤ ((n % 4 : Nat) : Int) ∧ ((n % 4 : Nat) : Int) ≤ 2 ∧ 0 ≤ ((n / 4 % 1048576 : Nat) : Int) ∧ ((n / 4 % 1048576 : Nat) : Int) < 65536) = true := decide_eq_true (by omega)
      have h2 : bad1 (n : Int) = false := by unfold bad1; rw [decide_eq_true (by omega)]; rfl
      have h3 : (((4 * (n / 4 % 1048576) + n % 4 : Nat) : Int) != (n : Int)) = false := by
        rw [bne_eq_false_iff_eq]; omega
      rw [h1, h2, if_neg (by decide), if_neg (by decide), Option.bind_some, h3, if_neg (by decide), hop]
      exact ops_eq t _ (fun x hx => h x (by simp [hx]))
    · have h2 : bad1 (n : Int) = true := by unfold bad1; rw [decide_eq_false (by omega)]; rfl
      rw [h2, if_pos rfl]
      by_cases h1 : 0 ≤ ((n % 4 : Nat) : Int) ∧ ((n % 4 : Nat) : Int) ≤ 2 ∧ 0 ≤ ((n / 4 % 1048576 : Nat) : Int) ∧ ((n / 4 % 1048576 : Nat) : Int) < 65536
      · have h3 : (((4 * (n / 4 % 1048576) + n % 4 : Nat) : Int) != (n : Int)) = true := by
          rw [bne_iff_ne]; omega
        rw [decide_eq_true h1, if_neg (by decide), Option.bind_some, h3, if_pos rfl]
      · rw [decide_eq_false h1, Bool.not_false, if_pos rfl]
theorem specOps_len : ∀ (o : List Int) (acc : List S38), (specOps o acc).1.length ≤ acc.length + o.length
  | [], acc => by simp [specOps]
  | [a], acc => by simp [specOps]
  | a :: b :: t, acc => by
    rw [specOps]
    split
    · simp
    · have := specOps_len t (acc ++ [op1 a b])
      simp at this ⊢
      omega
theorem specOps_false : ∀ (o : List Int) (acc : List S38), (specOps o acc).2 = false → specOps o acc = ([], false)
  | [], acc => fun h => by simp [specOps] at h
  | [a], acc => fun h => by simp [specOps] at h
  | a :: b :: t, acc => fun h => by
    rw [specOps] at h ⊢
    split
    · rfl
    · rename_i q
      rw [if_neg q] at h
      exact specOps_false t _ h
def decSpec (l : List Int) (m : Int) : List S38 × Bool :=
  if m < 0 ∨ 19 < m ∨ (l.length : Int) ≤ 2 * m then ([], false) else
    if rd l ((2 * m.toNat : Nat) : Int) = ((nmore 0 (l.take (2 * m.toNat)) : Nat) : Int) then specOps (l.take (2 * m.toNat)) [] else ([], false)
theorem decSpec_len (l : List Int) (m : Int) : (decSpec l m).1.length ≤ 38 := by
  unfold decSpec
  split
  · simp
  · split
    · have := specOps_len (l.take (2 * m.toNat)) []
      simp at this
      omega
    · simp
theorem take_rd (l : List Int) (n : Nat) (h : n < l.length) : l.take (n + 1) = l.take n ++ [rd l (n : Int)] := by
  rw [List.take_succ_eq_append_getElem h]
  simp [rd, List.getD_eq_getElem?_getD, List.getElem?_eq_getElem h]
theorem dec_eq (l : List Int) (hl : Words l) (hs : l.length ≤ 1000) (m : Int) : redo_Decode.f l m = some (decSpec l m) := by
  unfold redo_Decode.f decSpec
  by_cases c1 : m < 0
  · rw [if_pos c1, if_pos (Or.inl c1)]
  by_cases c2 : 19 < m
  · rw [if_neg c1, if_pos c2, if_pos (Or.inr (Or.inl c2))]
  by_cases c3 : (l.length : Int) ≤ 2 * m
  · rw [if_neg c1, if_neg c2, if_pos c3, if_pos (Or.inr (Or.inr c3))]
  rw [if_neg c1, if_neg c2, if_neg c3, if_neg (by omega), show (2 * m + 1).toNat = 2 * m.toNat + 1 by omega, take_rd l (2 * m.toNat) (by omega), open_eq _ (words_take hl _) (by rw [List.length_take]; omega), Option.bind_some]
  by_cases c4 : rd l ((2 * m.toNat : Nat) : Int) = ((nmore 0 (l.take (2 * m.toNat)) : Nat) : Int)
  · rw [if_pos c4, if_pos c4, if_pos rfl, if_pos (by rw [List.length_take]; omega), ops_eq _ _ (words_take hl _)]
  · rw [if_neg c4, if_neg c4, if_neg (by decide)]
theorem same_loop (l : List S38) (hs : l.length ≤ 1000) (d : Nat) : ∀ (k i : Nat), d + 1 ≤ k → i + d = l.length → lockfastref12_Same.l0 k l l (i : Int) = some true := by
  induction d with
  | zero =>
    intro k i hk hi
    obtain ⟨k, rfl⟩ : ∃ j, k = j + 1 := ⟨k - 1, by omega⟩
    rw [lockfastref12_Same.l0, if_neg (by omega)]
  | succ d ih =>
    intro k i hk hi
    obtain ⟨k, rfl⟩ : ∃ j, k = j + 1 := ⟨k - 1, by omega⟩
    rw [lockfastref12_Same.l0, if_pos (by omega), if_pos (by omega), if_pos (by omega)]
    simp only [beq_self_eq_true, Bool.not_true, Bool.or_self]
    rw [if_neg (by decide), w64 (by omega)]
    exact ih k (i + 1) (by omega) (by omega)
theorem same_refl (k : Nat) (l : List S38) (hs : l.length ≤ 1000) (hk : l.length + 1 ≤ k) : lockfastref12_Same.f k l l = some true := by
  unfold lockfastref12_Same.f
  rw [if_pos rfl]
  exact same_loop l hs l.length k 0 (by omega) (by omega)
def goodB (x : S38) : Bool := decide (0 ≤ x.f0 ∧ x.f0 ≤ 2 ∧ 0 ≤ x.f1 ∧ x.f1 < 65536)
def enc1 (x : S38) : List Int := [4 * x.f1 + x.f0, x.f2]
def encW (l : List S38) : List Int := l.flatMap enc1
theorem goodB_spec {x : S38} (h : goodB x = true) : 0 ≤ x.f0 ∧ x.f0 ≤ 2 ∧ 0 ≤ x.f1 ∧ x.f1 < 65536 := of_decide_eq_true h
theorem encW_len (l : List S38) : (encW l).length = 2 * l.length := by
  induction l with
  | nil => rfl
  | cons x t ih => simp only [encW, List.flatMap_cons, List.length_append, List.length_cons] at ih ⊢; rw [ih]; simp [enc1]; omega
theorem encW_words (l : List S38) (hg : ∀ x ∈ l, goodB x = true) (hw : ∀ x ∈ l, 0 ≤ x.f2 ∧ x.f2 < 18446744073709551616) : Words (encW l) := fun y hy => by
  obtain ⟨x, hx, hyx⟩ := List.mem_flatMap.1 hy
  have h1 := goodB_spec (hg x hx)
  have h2 := hw x hx
  simp only [enc1, List.mem_cons, List.not_mem_nil, or_false] at hyx
  rcases hyx with rfl | rfl <;> omega
theorem first_good (x : S38) (h : goodB x = true) : redo_first.f x.f0 x.f1 x.f2 = some (4 * x.f1 + x.f0) := by
  have h1 := goodB_spec h
  obtain ⟨a, ha⟩ := Int.eq_ofNat_of_zero_le h1.1
  obtain ⟨b, hb⟩ := Int.eq_ofNat_of_zero_le h1.2.2.1
  rw [ha, hb, first_eq a b (by omega) (by omega)]
  congr 1
theorem rd_T_drop (l : List S38) (i : Nat) (h : i < l.length) : l.drop i = rd_T38 l (i : Int) :: l.drop (i + 1) := by
  rw [List.drop_eq_getElem_cons h]
  simp [rd_T38, List.getD_eq_getElem?_getD, List.getElem?_eq_getElem h]
theorem rd_T_mem (l : List S38) (i : Nat) (h : i < l.length) : rd_T38 l (i : Int) ∈ l := by
  have : rd_T38 l (i : Int) = l[i] := by simp [rd_T38, List.getD_eq_getElem?_getD, List.getElem?_eq_getElem h]
  rw [this]; exact List.getElem_mem h
theorem right_val (l : List S38) : redo_Right.f l = some (decide (l.length ≤ 19) && l.all goodB) := by
  unfold redo_Right.f
  have : (!(l.any wrongB)) = l.all goodB := by
    rw [List.not_any_eq_all_not]
    congr 1
    funext x
    unfold wrongB goodB
    by_cases h1 : 0 ≤ x.f0 <;> by_cases h2 : x.f0 ≤ 2 <;> by_cases h3 : 0 ≤ x.f1 <;> by_cases h4 : x.f1 < 65536 <;> simp [h1, h2, h3, h4]
  rw [this]
theorem enc_loop (l : List S38) (hl : l.length ≤ 19) (hg : ∀ x ∈ l, goodB x = true) (hw : ∀ x ∈ l, 0 ≤ x.f2 ∧ x.f2 < 18446744073709551616) (d : Nat) : ∀ (k i : Nat), d + 1 ≤ k → i + d = l.length →
    redo_Encode.l0 k (encW (l.take i)) l (l.length : Int) (i : Int) = some (encW l ++ [((nmore 0 (encW l) : Nat) : Int)], 0) := by
  induction d with
  | zero =>
    intro k i hk hi
    obtain ⟨k, rfl⟩ : ∃ j, k = j + 1 := ⟨k - 1, by omega⟩
    rw [redo_Encode.l0, if_neg (by omega), List.take_of_length_le (by omega), seal_eq (encW_words l hg hw) (by rw [encW_len]; omega), Option.bind_some]
  | succ d ih =>
    intro k i hk hi
    obtain ⟨k, rfl⟩ : ∃ j, k = j + 1 := ⟨k - 1, by omega⟩
    have hlt : i < l.length := by omega
    rw [redo_Encode.l0, if_pos (by omega), if_pos (by omega), if_pos (by omega), first_good _ (hg _ (rd_T_mem l i hlt)), Option.bind_some, Option.bind_some, if_pos (by rw [encW_len, List.length_take]; simp; omega), w64 (by omega)]
    have ht : encW (l.take i) ++ [4 * (rd_T38 l (i : Int)).f1 + (rd_T38 l (i : Int)).f0, (rd_T38 l (i : Int)).f2] = encW (l.take (i + 1)) := by
      have h2 : l.take (i + 1) = l.take i ++ [rd_T38 l (i : Int)] := by
        rw [List.take_succ_eq_append_getElem hlt]
        simp [rd_T38, List.getD_eq_getElem?_getD, List.getElem?_eq_getElem hlt]
      rw [h2, encW, encW, List.flatMap_append]
      simp [enc1]
    rw [ht]
    exact ih k (i + 1) (by omega) (by omega)
def encSpec (l : List S38) : List Int × Int := if 19 < l.length then ([], 3) else if l.all goodB = true then (encW l ++ [((nmore 0 (encW l) : Nat) : Int)], 0) else ([], 1)
theorem enc_eq (k : Nat) (l : List S38) (hw : ∀ x ∈ l, 0 ≤ x.f2 ∧ x.f2 < 18446744073709551616) (hk : 50 ≤ k) : redo_Encode.f k l = some (encSpec l) := by
  unfold redo_Encode.f encSpec
  by_cases c : 19 < l.length
  · rw [if_pos (by omega), if_pos c]
  rw [if_neg (by omega), if_neg c, right_val, Option.bind_some, decide_eq_true (by omega), Bool.true_and]
  by_cases g : l.all goodB = true
  · rw [if_pos g, if_pos g]
    exact enc_loop l (by omega) (fun x hx => List.all_eq_true.1 g x hx) hw l.length k 0 (by omega) (by omega)
  · rw [if_neg g, if_neg g]
theorem encSpec_len (l : List S38) : (encSpec l).1.length ≤ 39 := by
  unfold encSpec
  split
  · simp
  · split
    · rw [List.length_append, encW_len]; simp; omega
    · simp
theorem specOps_enc (l : List S38) : ∀ acc, (∀ x ∈ l, goodB x = true) → specOps (encW l) acc = (acc ++ l, true) := by
  induction l with
  | nil => intro acc _; simp [encW, specOps]
  | cons x t ih =>
    intro acc hg
    have h1 := goodB_spec (hg x (by simp))
    have hb : bad1 (4 * x.f1 + x.f0) = false := by
      unfold bad1
      rw [decide_eq_true (by omega)]; rfl
    have ho : op1 (4 * x.f1 + x.f0) x.f2 = x := by
      obtain ⟨f0, f1, f2⟩ := x
      unfold op1
      simp only [S38.mk.injEq] at h1 ⊢
      exact ⟨by omega, by omega, trivial⟩
    show specOps ((4 * x.f1 + x.f0) :: x.f2 :: encW t) acc = _
    rw [specOps_good _ _ _ _ hb, ho, ih _ (fun y hy => hg y (by simp [hy]))]
    simp
theorem dec_enc (l : List S38) (more : List Int) (hl : l.length ≤ 19) (hg : ∀ x ∈ l, goodB x = true) : decSpec ((encW l ++ [((nmore 0 (encW l) : Nat) : Int)]) ++ more) (l.length : Int) = (l, true) := by
  unfold decSpec
  have he := encW_len l
  rw [Int.toNat_natCast, if_neg (by simp [he]; omega)]
  have ht : ((encW l ++ [((nmore 0 (encW l) : Nat) : Int)]) ++ more).take (2 * l.length) = encW l := by
    rw [List.append_assoc, ← he, List.take_left]
  have hr : rd ((encW l ++ [((nmore 0 (encW l) : Nat) : Int)]) ++ more) ((2 * l.length : Nat) : Int) = ((nmore 0 (encW l) : Nat) : Int) := by
    simp only [rd, Int.toNat_natCast, List.getD_eq_getElem?_getD]
    rw [List.append_assoc, List.getElem?_append_right (by omega), he]
    simp
  rw [ht, hr, if_pos rfl, specOps_enc l [] hg, List.nil_append]
theorem vals_of {l : List S38} (h : ∀ x ∈ l, (Lit.int .i64 x.f0).wf = true ∧ (Lit.int .i64 x.f1).wf = true ∧ (Lit.int .u64 x.f2).wf = true) : ∀ x ∈ l, 0 ≤ x.f2 ∧ x.f2 < 18446744073709551616 := fun x hx => by
  have := bounds_u64 (h x hx).2.2
  omega
theorem awake_true : lockfastlaw12_awake.f 3000 = some true := by decide +kernel
theorem RedoBack : lockfastlaw12_RedoBack.Pure := by
  intro l0 l1 _ hwf _ _ hw1
  refine ⟨3000, ?_⟩
  have h := vals_of hwf
  have hw := words_wf hw1
  unfold lockfastlaw12_RedoBack.f
  rw [awake_true, Option.bind_some]
  have hj : lockfastlaw12_RedoBack.j0 3000 l0 l1 true true = some true := by
    show lockfastlaw12_RedoBack.j0 (2999 + 1) _ _ _ _ = _
    rw [lockfastlaw12_RedoBack.j0, if_pos rfl]
  by_cases c0 : (l0.length : Int) > 30
  · rw [if_pos c0]; exact hj
  rw [if_neg c0]
  by_cases c1 : (l1.length : Int) > 10
  · rw [decide_eq_true c1]; exact hj
  rw [decide_eq_false c1]
  show lockfastlaw12_RedoBack.j0 (2999 + 1) _ _ _ _ = _
  rw [lockfastlaw12_RedoBack.j0, if_neg (by decide), enc_eq 2999 l0 h (by omega), Option.bind_some]
  by_cases c2 : 19 < l0.length
  · have he : encSpec l0 = ([], 3) := by unfold encSpec; rw [if_pos c2]
    rw [he, if_neg (by decide), if_pos rfl]; rfl
  by_cases c3 : l0.all goodB = true
  · have he : encSpec l0 = (encW l0 ++ [((nmore 0 (encW l0) : Nat) : Int)], 0) := by unfold encSpec; rw [if_neg c2, if_pos c3]
    have hg : ∀ x ∈ l0, goodB x = true := fun x hx => List.all_eq_true.1 c3 x hx
    have hW := encW_words l0 hg h
    have hL := encW_len l0
    have hlt := nmore_lt 0 (encW l0) hW (by decide)
    have hall : Words ((encW l0 ++ [((nmore 0 (encW l0) : Nat) : Int)]) ++ l1) := words_app (words_app hW (words_one (by omega) (by omega))) hw
    have hlen : (encW l0 ++ [((nmore 0 (encW l0) : Nat) : Int)]).length = 2 * l0.length + 1 := by simp [hL]
    rw [he, if_pos rfl, Option.bind_some, List.nil_append, if_pos (by rw [hlen]; simp; omega), Option.bind_some, if_pos (by rw [hlen]; omega), dec_eq _ hall (by rw [List.length_append, hlen]; omega), Option.bind_some, dec_enc l0 l1 (by omega) hg, enc_eq 2999 l0 h (by omega), Option.bind_some, if_pos rfl, if_pos rfl, same_refl 2999 l0 (by omega) (by omega), Option.bind_some, if_pos rfl, he, if_pos rfl,
      wordsf_eq 2999 _ _ (by rw [hlen]; omega) (by rw [hlen]; omega), Option.bind_some, decide_eq_true rfl, if_pos rfl, hlen, w64 (x := 2 * (l0.length : Int)) (by omega), w64 (by omega)]
    congr 1
    rw [beq_iff_eq]
    omega
  · have he : encSpec l0 = ([], 1) := by unfold encSpec; rw [if_neg c2, if_neg c3]
    rw [he, if_neg (by decide), if_pos rfl]; rfl

end Go.Proofs.Ytnoclgnlmkpkbaa.Pure
