/- An entry of which 32 bits in a row are others is none of its length. -/
import Derived.Test.YtinbediigibolaaPUndoBurstsx6
import Derived.Test.YtinbediigibolaaCrcMath
import Derived.OpenShut
namespace Go.Proofs.Ytinbediigibolaa.Pure
open Go.RowKit Go.Proofs.YtinbediigibolaaX Go.Proofs.Ytinbediigibolaa.PUndoBursts Go.Proofs.YtinbediigibolaaW.PrintWords Go.Proofs.YtinbediigibolaaW.PrintLast Go.Proofs.YtinbediigibolaaW.PrintMore

theorem words_wf {l : List Int} (h : ∀ x ∈ l, (Lit.int .u64 x).wf = true) : Words l := fun x hx => by
  have := bounds_u64 (h x hx)
  omega
theorem w64 {x : Int} (h : -9223372036854775808 ≤ x ∧ x ≤ 9223372036854775807) : wrap64 x = x := by unfold wrap64; omega
theorem words_nil : Words [] := fun x hx => by simp at hx
theorem words_app {l m : List Int} (hl : Words l) (hm : Words m) : Words (l ++ m) := fun x hx => by
  rcases List.mem_append.mp hx with h | h
  · exact hl x h
  · exact hm x h
theorem words_one {x : Int} (h0 : 0 ≤ x) (h1 : x < 18446744073709551616) : Words [x] := fun y hy => by
  have : y = x := by simpa using hy
  omega
theorem words_take {l : List Int} (hl : Words l) (n : Nat) : Words (l.take n) := fun x hx => hl x (List.mem_of_mem_take hx)
theorem words_drop {l : List Int} (hl : Words l) (n : Nat) : Words (l.drop n) := fun x hx => hl x (List.mem_of_mem_drop hx)
theorem more_nat {s : Nat} {l : List Int} (hl : Words l) (h : s < 4294967296) : seal_More.f (s : Int) l = some ((nmore s l : Nat) : Int) := congrArg some (crcMore_nat s l hl h)
theorem of_nat {l : List Int} (hl : Words l) : seal_Of.f l = some ((nmore 0 l : Nat) : Int) := by
  unfold seal_Of.f
  rw [show (0 : Int) = ((0 : Nat) : Int) from rfl, more_nat hl (by decide)]
  rfl
theorem seal_eq {l : List Int} (hl : Words l) (hs : l.length ≤ 1000) : seal_Seal.f l = some (l ++ [((nmore 0 l : Nat) : Int)]) := by
  unfold seal_Seal.f
  have hc := nmore_lt 0 l hl (by decide)
  rw [if_pos (by omega), show crcMore 0 l = ((nmore 0 l : Nat) : Int) from crcMore_nat 0 l hl (by decide), IntKind.wrap_u64, Int.emod_eq_of_lt (by omega) (by omega)]
theorem open_nil : seal_Open.f [] = some ([], false) := by
  unfold seal_Open.f
  rw [if_pos (by simp [wrap64])]
theorem open_eq {l : List Int} (x : Int) (hl : Words l) (hs : l.length ≤ 1000) : seal_Open.f (l ++ [x]) = some (if x = ((nmore 0 l : Nat) : Int) then (l, true) else ([], false)) := by
  unfold seal_Open.f
  have e : wrap64 (((l ++ [x]).length : Int) - 1) = (l.length : Int) := by
    rw [w64 (by simp; omega)]
    simp
  have hc := nmore_lt 0 l hl (by decide)
  rw [e, if_neg (by omega), if_pos (by omega), if_pos (by simp; omega), if_pos (by simp; omega), Int.toNat_natCast, List.take_left, of_nat hl]
  simp only [Option.bind_some]
  rw [show rd (l ++ [x]) (l.length : Int) = x from by simp [rd], IntKind.wrap_u64, Int.emod_eq_of_lt (by omega) (by omega)]
  by_cases c : x = ((nmore 0 l : Nat) : Int)
  · rw [if_pos c, if_pos c, if_pos (by simp; omega)]; rfl
  · rw [if_neg c, if_neg c]
theorem rd_drop (l : List Int) (i : Nat) (h : i < l.length) : l.drop i = rd l (i : Int) :: l.drop (i + 1) := by
  rw [List.drop_eq_getElem_cons h]
  simp [rd, h]
theorem mask_bit (n j : Nat) : (2 ^ n - 1).testBit j = decide (j < n) := Nat.testBit_two_pow_sub_one n j
theorem fits_eq (a n : Nat) (h1 : 1 ≤ n) (h : a + n ≤ 64) : field_Fits.f (a : Int) (n : Int) = some true := by
  unfold field_Fits.f
  rw [if_pos (by omega), if_pos (by omega), if_pos (by omega), w64 (by omega), decide_eq_true (by omega)]
theorem mask_eq (n : Nat) (h1 : 1 ≤ n) (h : n ≤ 64) : field_mask.f (n : Int) = some ((2 ^ n - 1 : Nat) : Int) := by
  unfold field_mask.f
  rw [w64 (by omega), if_pos (by omega), show (64 : Int) - (n : Int) = ((64 - n : Nat) : Int) from by omega]
  unfold shr
  rw [Int.toNat_natCast, show min (64 - n) IntKind.u64.bits = 64 - n from by simp only [IntKind.bits]; omega]
  have h2 : (18446744073709551615 : Nat) / 2 ^ (64 - n) = 2 ^ n - 1 := by
    have e : 2 ^ n * 2 ^ (64 - n) = 18446744073709551616 := by rw [← Nat.pow_add, show n + (64 - n) = 64 from by omega]
    have p1 := Nat.two_pow_pos n
    have p2 := Nat.two_pow_pos (64 - n)
    have e2 : (2 ^ n - 1) * 2 ^ (64 - n) + 2 ^ (64 - n) = 18446744073709551616 := by
      rw [Nat.sub_mul, Nat.one_mul, e]
      have : 2 ^ (64 - n) ≤ 18446744073709551616 := by rw [← e]; exact Nat.le_mul_of_pos_left _ p1
      omega
    apply Nat.div_eq_of_lt_le
    · omega
    · rw [Nat.succ_mul]; omega
  rw [show (18446744073709551615 : Int) / 2 ^ (64 - n) = (((18446744073709551615 : Nat) / 2 ^ (64 - n) : Nat) : Int) from by simp, h2]
theorem shr_nat (w a : Nat) (ha : a ≤ 64) : shr .u64 (w : Int) (a : Int) = ((w / 2 ^ a : Nat) : Int) := by
  unfold shr
  rw [Int.toNat_natCast, show min a IntKind.u64.bits = a from by simp only [IntKind.bits]; omega]
  simp
theorem shl_nat (w a : Nat) (ha : a ≤ 64) : shl .u64 (w : Int) (a : Int) = ((w * 2 ^ a % 18446744073709551616 : Nat) : Int) := by
  unfold shl
  rw [Int.toNat_natCast, show min a IntKind.u64.bits = a from by simp only [IntKind.bits]; omega, IntKind.wrap_u64]
  simp
theorem get_eq (w a n : Nat) (hw : w < 18446744073709551616) (h1 : 1 ≤ n) (h : a + n ≤ 64) : field_Get.f (w : Int) (a : Int) (n : Int) = some ((w / 2 ^ a % 2 ^ n : Nat) : Int) := by
  unfold field_Get.f
  have hp : 2 ^ n ≤ 2 ^ 64 := Nat.pow_le_pow_right (by omega) (by omega)
  have hp0 := Nat.two_pow_pos n
  rw [fits_eq a n h1 h, Option.bind_some, if_pos rfl, if_pos (by omega), mask_eq n h1 (by omega), Option.bind_some, shr_nat w a (by omega), u64_and_nat _ _ (Nat.lt_of_le_of_lt (Nat.div_le_self _ _) hw) (by omega), Nat.and_two_pow_sub_one_eq_mod]
def putN (w a n v : Nat) : Nat := 2 ^ a * (2 ^ n * (w / 2 ^ (a + n)) + v % 2 ^ n) + w % 2 ^ a
theorem putN_bit (w a n v j : Nat) : (putN w a n v).testBit j = if a ≤ j ∧ j < a + n then v.testBit (j - a) else w.testBit j := by
  unfold putN
  rw [Nat.testBit_two_pow_mul_add _ (Nat.mod_lt _ (Nat.two_pow_pos a))]
  by_cases h1 : j < a
  · rw [if_pos h1, if_neg (by omega), Nat.testBit_mod_two_pow]
    simp [h1]
  · rw [if_neg h1, Nat.testBit_two_pow_mul_add _ (Nat.mod_lt _ (Nat.two_pow_pos n))]
    by_cases h2 : j < a + n
    · rw [if_pos (by omega), if_pos (by omega), Nat.testBit_mod_two_pow]
      simp [show j - a < n from by omega]
    · rw [if_neg (by omega), if_neg (by omega), ← Nat.shiftRight_eq_div_pow, Nat.testBit_shiftRight, show a + n + (j - a - n) = j from by omega]
theorem putN_lt (w a n v : Nat) (hw : w < 2 ^ 64) (h : a + n ≤ 64) : putN w a n v < 2 ^ 64 := by
  apply Nat.lt_pow_two_of_testBit
  intro j hj
  rw [putN_bit, if_neg (by omega)]
  exact Nat.testBit_lt_two_pow (Nat.lt_of_lt_of_le hw (Nat.pow_le_pow_right (by omega) hj))
theorem put_eq (w a n v : Nat) (hw : w < 18446744073709551616) (h1 : 1 ≤ n) (h : a + n ≤ 64) : field_Put.f (w : Int) (a : Int) (n : Int) (v : Int) = some ((putN w a n v : Nat) : Int) := by
  unfold field_Put.f
  have hp : 2 ^ n ≤ 2 ^ 64 := Nat.pow_le_pow_right (by omega) (by omega)
  have hp0 := Nat.two_pow_pos n
  have e1 : ∀ x : Nat, x % 18446744073709551616 < 18446744073709551616 := fun x => Nat.mod_lt _ (by decide)
  rw [fits_eq a n h1 h, Option.bind_some, if_pos rfl, mask_eq n h1 (by omega), Option.bind_some, if_pos (by omega), shl_nat _ a (by omega), shl_nat v a (by omega), u64_andNot_nat _ _ hw (e1 _), u64_and_nat _ _ (e1 _) (e1 _), u64_or_nat]
  · congr 2
    apply Nat.eq_of_testBit_eq
    intro j
    have hMb : ((2 ^ n - 1) * 2 ^ a % 18446744073709551616).testBit j = (decide (j < 64) && (decide (j ≥ a) && decide (j - a < n))) := by
      rw [show (18446744073709551616 : Nat) = 2 ^ 64 from rfl, Nat.testBit_mod_two_pow, Nat.mul_comm, Nat.testBit_two_pow_mul, mask_bit]
    have hVb : (v * 2 ^ a % 18446744073709551616).testBit j = (decide (j < 64) && (decide (j ≥ a) && v.testBit (j - a))) := by
      rw [show (18446744073709551616 : Nat) = 2 ^ 64 from rfl, Nat.testBit_mod_two_pow, Nat.mul_comm, Nat.testBit_two_pow_mul]
    have hm : (2 ^ n - 1) * 2 ^ a % 18446744073709551616 < 2 ^ 64 := e1 _
    generalize (2 ^ n - 1) * 2 ^ a % 18446744073709551616 = M at hMb hm ⊢
    have hnot := Nat.testBit_two_pow_sub_succ (n := 64) hm j
    rw [show 2 ^ 64 - (M + 1) = 18446744073709551615 - M from by omega] at hnot
    rw [putN_bit, Nat.testBit_or, Nat.testBit_and, Nat.testBit_and, hnot, hVb, hMb]
    by_cases hj : j < 64
    · by_cases h2 : a ≤ j
      · by_cases h3 : j - a < n
        · rw [if_pos (by omega)]; simp [hj, h2, h3]
        · rw [if_neg (by omega)]; simp [hj, h2, h3]
      · rw [if_neg (by omega)]; simp [hj, h2]
    · have hwj : w.testBit j = false := Nat.testBit_lt_two_pow (Nat.lt_of_lt_of_le (show w < 2 ^ 64 from hw) (Nat.pow_le_pow_right (by omega) (by omega)))
      rw [if_neg (by omega)]; simp [hj, hwj]
  · exact Nat.lt_of_le_of_lt Nat.and_le_left hw
  · exact Nat.lt_of_le_of_lt Nat.and_le_left (e1 _)
theorem rd_in (l : List Int) (i : Nat) (h : i < l.length) : rd l (i : Int) ∈ l := by
  simp [rd, h]
theorem tdiv_nn' (n : Nat) (a : Int) (_ : 0 ≤ a) : Int.tdiv (n : Int) a = (n : Int) / a := Int.tdiv_eq_ediv_of_nonneg (by omega)
theorem tmod_nn' (n : Nat) (a : Int) (_ : 0 ≤ a) : Int.tmod (n : Int) a = (n : Int) % a := Int.tmod_eq_emod_of_nonneg (by omega)
def goodE (x : S25) : Bool := decide (0 ≤ x.f0 ∧ x.f0 < 65536 ∧ 1 ≤ x.f1.length ∧ x.f1.length ≤ 4096)
def headE (g : Int) (x : S25) : Int := x.f0 + 1048576 * (x.f1.length : Int) + 281474976710656 * (g % 65536)
def bodyE (g : Int) (x : S25) : List Int := headE g x :: x.f1
def wordsE (g : Int) (x : S25) : List Int := bodyE g x ++ [((nmore 0 (bodyE g x) : Nat) : Int)]
theorem goodE_spec {x : S25} (h : goodE x = true) : 0 ≤ x.f0 ∧ x.f0 < 65536 ∧ 1 ≤ x.f1.length ∧ x.f1.length ≤ 4096 := of_decide_eq_true h
theorem right_val (a : Int) (l : List Int) : undo_Right.f a l = some (goodE ⟨a, l⟩) := by
  unfold undo_Right.f goodE
  dsimp only
  by_cases h1 : a ≥ 0
  · rw [if_pos h1]
    by_cases h2 : a < 65536
    · rw [if_pos h2]
      by_cases h3 : (l.length : Int) ≥ 1
      · rw [if_pos h3]
        congr 1
        exact decide_eq_decide.2 (by omega)
      · rw [if_neg h3]; congr 1; exact (decide_eq_false (by omega)).symm
    · rw [if_neg h2]; congr 1; exact (decide_eq_false (by omega)).symm
  · rw [if_neg h1]; congr 1; exact (decide_eq_false (by omega)).symm
theorem size_val (a : Int) (l : List Int) : undo_Size.f a l = some (if goodE ⟨a, l⟩ = true then (l.length : Int) + 2 else 0) := by
  unfold undo_Size.f
  rw [right_val, Option.bind_some]
  by_cases h : goodE ⟨a, l⟩ = true
  · have := goodE_spec h
    rw [if_pos h, if_pos h, w64 (by dsimp only at this; omega)]
  · rw [if_neg h, if_neg h]
theorem first_nat (at_ n g : Nat) (h1 : at_ < 1048576) (h2 : n < 65536) : putN (putN at_ 20 16 n) 48 16 g = at_ + 1048576 * n + 281474976710656 * (g % 65536) := by
  have e1 : putN at_ 20 16 n = at_ + 1048576 * n := by unfold putN; omega
  rw [e1]
  unfold putN
  omega
theorem first_val (g : Int) (hg : 0 ≤ g ∧ g < 18446744073709551616) (a : Int) (l : List Int) (h : goodE ⟨a, l⟩ = true) : undo_first.f g a l = some (headE g ⟨a, l⟩) := by
  obtain ⟨h1, h2, h3, h4⟩ := goodE_spec h
  dsimp only at h1 h2 h3 h4
  obtain ⟨n, rfl⟩ := Int.eq_ofNat_of_zero_le h1
  obtain ⟨gn, rfl⟩ := Int.eq_ofNat_of_zero_le hg.1
  unfold undo_first.f
  rw [IntKind.wrap_u64, IntKind.wrap_u64, show ((n : Int) % 18446744073709551616) = (n : Int) by omega, show ((l.length : Int) % 18446744073709551616) = (l.length : Int) by omega]
  rw [show (field_Put.f (n : Int) 20 16 (l.length : Int)) = some ((putN n 20 16 l.length : Nat) : Int) from put_eq n 20 16 l.length (by omega) (by decide) (by decide), Option.bind_some]
  have hlt : putN n 20 16 l.length < 18446744073709551616 := putN_lt n 20 16 l.length (by omega) (by decide)
  rw [show (field_Put.f ((putN n 20 16 l.length : Nat) : Int) 48 16 (gn : Int)) = some ((putN (putN n 20 16 l.length) 48 16 gn : Nat) : Int) from put_eq _ 48 16 gn hlt (by decide) (by decide), Option.bind_some, first_nat n l.length gn (by omega) (by omega)]
  unfold headE
  dsimp only
  congr 1
theorem headE_lt {g : Int} {x : S25} (h : goodE x = true) : 0 ≤ headE g x ∧ headE g x < 18446744073709551616 := by
  obtain ⟨h1, h2, h3, h4⟩ := goodE_spec h
  unfold headE
  omega
theorem body_words {g : Int} {x : S25} (h : goodE x = true) (hx : Words x.f1) : Words (bodyE g x) := fun y hy => by
  rcases List.mem_cons.1 hy with rfl | hy
  · exact headE_lt h
  · exact hx y hy
theorem enc_val (g : Int) (hg : 0 ≤ g ∧ g < 18446744073709551616) (a : Int) (l : List Int) (hl : Words l) (hs : l.length ≤ 900) : undo_Encode.f g a l = some (if goodE ⟨a, l⟩ = true then (wordsE g ⟨a, l⟩, 0) else ([], 1)) := by
  unfold undo_Encode.f
  rw [right_val, Option.bind_some]
  by_cases h : goodE ⟨a, l⟩ = true
  · rw [if_pos h, if_pos h, first_val g hg a l h, Option.bind_some, Option.bind_some]
    simp only [List.length_cons, List.length_nil, List.cons_append, List.nil_append]
    rw [if_pos (by omega), show seal_Seal.f (headE g ⟨a, l⟩ :: l) = _ from seal_eq (body_words h hl) (by simp; omega), Option.bind_some]
    rfl
  · rw [if_neg h, if_neg h]
theorem words_loop (l : List Int) (hs : l.length ≤ 100000) (d : Nat) : ∀ (k i : Nat), d + 1 ≤ k → i + d = l.length → lockfastref01_Words.l0 k l l (i : Int) = some true := by
  induction d with
  | zero =>
    intro k i hk hi
    obtain ⟨k, rfl⟩ : ∃ j, k = j + 1 := ⟨k - 1, by omega⟩
    rw [lockfastref01_Words.l0, if_neg (by omega)]
  | succ d ih =>
    intro k i hk hi
    obtain ⟨k, rfl⟩ : ∃ j, k = j + 1 := ⟨k - 1, by omega⟩
    rw [lockfastref01_Words.l0, if_pos (by omega), if_pos (by omega), if_pos (by omega), if_pos rfl, w64 (by omega)]
    exact ih k (i + 1) (by omega) (by omega)
theorem words_refl (k : Nat) (l : List Int) (hs : l.length ≤ 100000) (hk : l.length + 1 ≤ k) : lockfastref01_Words.f k l l = some true := by
  unfold lockfastref01_Words.f
  rw [if_pos rfl]
  exact words_loop l hs l.length k 0 (by omega) (by omega)
theorem words_val_loop (l m : List Int) (hl : l.length = m.length) (hs : l.length ≤ 100000) (d : Nat) : ∀ (k i : Nat), d + 1 ≤ k → i + d = l.length → lockfastref01_Words.l0 k l m (i : Int) = some (decide (l.drop i = m.drop i)) := by
  induction d with
  | zero =>
    intro k i hk hi
    obtain ⟨k, rfl⟩ : ∃ j, k = j + 1 := ⟨k - 1, by omega⟩
    rw [lockfastref01_Words.l0, if_neg (by omega), List.drop_eq_nil_of_le (by omega), List.drop_eq_nil_of_le (by omega)]
    rfl
  | succ d ih =>
    intro k i hk hi
    obtain ⟨k, rfl⟩ : ∃ j, k = j + 1 := ⟨k - 1, by omega⟩
    rw [lockfastref01_Words.l0, if_pos (by omega), if_pos (by omega), if_pos (by omega), rd_drop l i (by omega), rd_drop m i (by omega)]
    by_cases h : rd l (i : Int) = rd m (i : Int)
    · rw [if_pos h, w64 (by omega)]
      rw [show ((i : Int) + 1) = ((i + 1 : Nat) : Int) by omega, ih k (i + 1) (by omega) (by omega), h]
      congr 1
      exact decide_eq_decide.2 (by simp)
    · rw [if_neg h]
      congr 1
      exact (decide_eq_false (fun e => h (by injection e))).symm
theorem words_val (k : Nat) (l m : List Int) (hs : l.length ≤ 100000) (hk : l.length + 1 ≤ k) : lockfastref01_Words.f k l m = some (decide (l = m)) := by
  unfold lockfastref01_Words.f
  by_cases h : (l.length : Int) = (m.length : Int)
  · rw [if_pos h]
    have := words_val_loop l m (by omega) hs l.length k 0 (by omega) (by omega)
    simpa using this
  · rw [if_neg h]
    congr 1
    exact (decide_eq_false (fun e => h (by rw [e]))).symm
theorem same_loop (l : List S25) (hs : l.length ≤ 1000) (hb : ∀ x ∈ l, x.f1.length ≤ 1000) (d : Nat) : ∀ (k i : Nat), d + 1010 ≤ k → i + d = l.length → lockfastref13_Same.l0 k l l (i : Int) = some true := by
  induction d with
  | zero =>
    intro k i hk hi
    obtain ⟨k, rfl⟩ : ∃ j, k = j + 1 := ⟨k - 1, by omega⟩
    rw [lockfastref13_Same.l0, if_neg (by omega)]
  | succ d ih =>
    intro k i hk hi
    obtain ⟨k, rfl⟩ : ∃ j, k = j + 1 := ⟨k - 1, by omega⟩
    have hm : (rd_T25 l (i : Int)).f1.length ≤ 1000 := by
      have hi' : i < l.length := by omega
      have : rd_T25 l (i : Int) = l[i] := by simp [rd_T25, List.getD_eq_getElem?_getD, List.getElem?_eq_getElem hi']
      rw [this]
      exact hb _ (List.getElem_mem hi')
    rw [lockfastref13_Same.l0, if_pos (by omega), if_pos (by omega), if_pos (by omega), if_pos rfl, words_refl k _ (by omega) (by omega), Option.bind_some, if_pos rfl, w64 (by omega)]
    exact ih k (i + 1) (by omega) (by omega)
theorem same_refl (k : Nat) (l : List S25) (hs : l.length ≤ 1000) (hb : ∀ x ∈ l, x.f1.length ≤ 1000) (hk : l.length + 1010 ≤ k) : lockfastref13_Same.f k l l = some true := by
  unfold lockfastref13_Same.f
  rw [if_pos rfl]
  exact same_loop l hs hb l.length k 0 (by omega) (by omega)
theorem take_rd (l : List Int) (n : Nat) (h : n < l.length) : l.take (n + 1) = l.take n ++ [rd l (n : Int)] := by
  rw [List.take_succ_eq_append_getElem h]
  simp [rd, List.getD_eq_getElem?_getD, List.getElem?_eq_getElem h]
def manyE (w : Int) : Nat := (w / 1048576 % 65536).toNat
def entryAt (l : List Int) : S25 := ⟨rd l 0 % 1048576, (l.drop 1).take (manyE (rd l 0))⟩
def okE (g : Int) (l : List Int) : Bool := decide (manyE (rd l 0) + 2 ≤ l.length ∧ goodE (entryAt l) = true ∧ wordsE g (entryAt l) = l.take (manyE (rd l 0) + 2))
theorem rd_words {l : List Int} (hl : Words l) (h : 0 < l.length) : 0 ≤ rd l 0 ∧ rd l 0 < 18446744073709551616 := by
  have : rd l 0 = l[0] := by simp [rd, List.getD_eq_getElem?_getD, List.getElem?_eq_getElem h]
  rw [this]
  exact hl _ (List.getElem_mem h)
theorem take_body (l : List Int) (h : 0 < l.length) (m : Nat) : l.take (m + 1) = rd l 0 :: (l.drop 1).take m := by
  cases l with
  | nil => simp at h
  | cons x t => simp [rd]
theorem take_two (l : List Int) (m : Nat) (h : m + 2 ≤ l.length) : l.take (m + 2) = (rd l 0 :: (l.drop 1).take m) ++ [rd l ((m + 1 : Nat) : Int)] := by
  rw [take_rd l (m + 1) (by omega), take_body l (by omega) m]
theorem ok_iff (g : Int) (l : List Int) (h : manyE (rd l 0) + 2 ≤ l.length) : okE g l = true ↔ goodE (entryAt l) = true ∧ headE g (entryAt l) = rd l 0 ∧ rd l ((manyE (rd l 0) + 1 : Nat) : Int) = ((nmore 0 (l.take (manyE (rd l 0) + 1)) : Nat) : Int) := by
  unfold okE
  rw [decide_eq_true_eq]
  have e1 : l.take (manyE (rd l 0) + 1) = rd l 0 :: (entryAt l).f1 := take_body l (by omega) _
  have e2 : l.take (manyE (rd l 0) + 2) = (rd l 0 :: (entryAt l).f1) ++ [rd l ((manyE (rd l 0) + 1 : Nat) : Int)] := take_two l _ h
  rw [e1, e2]
  constructor
  · rintro ⟨_, h2, h3⟩
    unfold wordsE bodyE at h3
    have h4 := List.append_inj h3 (by simp)
    have h5 : headE g (entryAt l) = rd l 0 := by
      have := h4.1
      injection this
    have h6 := h4.2
    rw [h5] at h6
    injection h6 with h6
    exact ⟨h2, h5, h6.symm⟩
  · rintro ⟨h2, h3, h4⟩
    refine ⟨h, h2, ?_⟩
    unfold wordsE bodyE
    rw [h3, h4]
theorem one_val (g : Int) (hg : 0 ≤ g ∧ g < 18446744073709551616) (l : List Int) (hl : Words l) (h0 : 0 < l.length) (hs : l.length ≤ 900) :
    ∃ a o b, undo_one.f g l = some (a, o, b) ∧ b = okE g l ∧ (b = true → (⟨a, o⟩ : S25) = entryAt l) := by
  obtain ⟨hw0, hw1⟩ := rd_words hl h0
  obtain ⟨wn, hwn⟩ := Int.eq_ofNat_of_zero_le hw0
  have hm : manyE (rd l 0) = wn / 1048576 % 65536 := by unfold manyE; rw [hwn]; omega
  obtain ⟨m, hmm⟩ : ∃ m, m = manyE (rd l 0) := ⟨_, rfl⟩
  have hget : field_Get.f (rd l 0) 20 16 = some (m : Int) := by
    rw [hwn]
    have := get_eq wn 20 16 (by omega) (by decide) (by decide)
    rw [hmm, hm]
    simpa using this
  have hget2 : field_Get.f (rd l 0) 0 20 = some (rd l 0 % 1048576) := by
    rw [hwn]
    have := get_eq wn 0 20 (by omega) (by decide) (by decide)
    rw [show ((wn : Int) % 1048576) = ((wn % 1048576 : Nat) : Int) by omega]
    simpa using this
  have hmlt : m < 65536 := by rw [hmm, hm]; omega
  unfold undo_one.f
  rw [if_pos (by omega), hget, Option.bind_some, w64 (x := (m : Int)) (by omega), w64 (x := (m : Int) + 2) (by omega)]
  by_cases c1 : (l.length : Int) < (m : Int) + 2
  · rw [if_pos c1]
    refine ⟨0, [], false, rfl, ?_, fun h => by cases h⟩
    unfold okE
    exact (decide_eq_false (fun h => by rw [← hmm] at h; omega)).symm
  have hlen : m + 2 ≤ l.length := by omega
  rw [if_neg c1, if_pos (by omega), if_pos (by omega), show ((m : Int) + 2).toNat = (m + 1) + 1 by omega, take_rd l (m + 1) (by omega), open_eq _ (words_take hl _) (by rw [List.length_take]; omega), Option.bind_some]
  have hiff := ok_iff g l (by rw [← hmm]; exact hlen)
  rw [← hmm] at hiff
  by_cases c2 : rd l ((m + 1 : Nat) : Int) = ((nmore 0 (l.take (m + 1)) : Nat) : Int)
  · rw [if_pos c2]
    have ebody : l.take (m + 1) = rd l 0 :: (entryAt l).f1 := by rw [take_body l h0 m]; unfold entryAt; rw [← hmm]
    dsimp only
    rw [if_pos rfl, ebody, if_pos (by simp)]
    have er : rd (rd l 0 :: (entryAt l).f1) 0 = rd l 0 := by simp [rd]
    rw [er, hget2, Option.bind_some, w64 (x := rd l 0 % 1048576) (by omega), List.drop_succ_cons, List.drop_zero, right_val, Option.bind_some]
    have ee : (⟨rd l 0 % 1048576, (entryAt l).f1⟩ : S25) = entryAt l := rfl
    rw [ee]
    by_cases c3 : goodE (entryAt l) = true
    · rw [if_pos c3, show undo_first.f g (rd l 0 % 1048576) (entryAt l).f1 = some (headE g (entryAt l)) from first_val g hg _ _ c3, Option.bind_some]
      refine ⟨_, _, _, rfl, ?_, fun _ => rfl⟩
      by_cases c4 : headE g (entryAt l) = rd l 0
      · rw [hiff.2 ⟨c3, c4, c2⟩, c4, beq_self_eq_true]
      · rw [Bool.eq_false_iff.2 (fun h => c4 (hiff.1 h).2.1)]
        exact beq_false_of_ne c4
    · rw [if_neg c3]
      exact ⟨_, _, _, rfl, (Bool.eq_false_iff.2 (fun h => c3 (hiff.1 h).1)).symm, fun h => by cases h⟩
  · rw [if_neg c2]
    dsimp only
    rw [if_neg (by decide)]
    exact ⟨_, _, _, rfl, (Bool.eq_false_iff.2 (fun h => c2 (hiff.1 h).2.2)).symm, fun h => by cases h⟩
def decF (g : Int) : Nat → List Int → Option (List S25)
  | 0, _ => some []
  | k + 1, l => if l.length = 0 then some [] else if okE g l = true then (decF g k (l.drop (manyE (rd l 0) + 2))).map (entryAt l :: ·) else none
def decR : Option (List S25) → List S25 × Bool
  | some ys => (ys, true)
  | none => ([], false)
theorem ents_val (g : Int) (hg : 0 ≤ g ∧ g < 18446744073709551616) : ∀ (k : Nat) (l : List Int), Words l → l.length < k → l.length ≤ 900 →
    ∃ ys, undo_ents g k l = some ys ∧ ys.length ≤ l.length ∧ (if ys.all (·.2) = true then some (ys.map (·.1)) else none) = decF g k l
  | 0, _, _, h, _ => by omega
  | k + 1, l, hl, hk, hs => by
    by_cases h0 : 0 < l.length
    · obtain ⟨a, o, b, hone, hb, he⟩ := one_val g hg l hl h0 hs
      have hdec : decF g (k + 1) l = if okE g l = true then (decF g k (l.drop (manyE (rd l 0) + 2))).map (entryAt l :: ·) else none := by rw [decF, if_neg (by omega)]
      rw [undo_ents, if_pos h0, hone, Option.bind_some, hdec]
      dsimp only
      cases b with
      | false =>
        rw [if_neg (by decide), if_neg (by rw [← hb]; decide)]
        exact ⟨_, rfl, by simp; omega, by simp⟩
      | true =>
        have hok : okE g l = true := hb.symm
        have hent := he rfl
        have hlen : manyE (rd l 0) + 2 ≤ l.length := (of_decide_eq_true hok).1
        have hgood : goodE (entryAt l) = true := (of_decide_eq_true hok).2.1
        have ha : a = (entryAt l).f0 := congrArg S25.f0 hent
        have ho : o = (entryAt l).f1 := congrArg S25.f1 hent
        have hol : o.length = manyE (rd l 0) := by rw [ho]; simp [entryAt]; omega
        rw [if_pos rfl, if_pos hok, size_val, hent, if_pos hgood, Option.bind_some, if_pos (by omega), if_pos (by omega), show ((o.length : Int) + 2).toNat = manyE (rd l 0) + 2 by omega]
        obtain ⟨ys, h1, h2, h3⟩ := ents_val g hg k (l.drop (manyE (rd l 0) + 2)) (words_drop hl _) (by rw [List.length_drop]; omega) (by rw [List.length_drop]; omega)
        rw [h1, Option.bind_some, ← h3]
        refine ⟨_, rfl, by rw [List.length_cons]; rw [List.length_drop] at h2; omega, ?_⟩
        simp only [List.all_cons, Bool.true_and, List.map_cons]
        by_cases c : ys.all (·.2) = true
        · rw [if_pos c, if_pos c]; rfl
        · rw [if_neg c, if_neg c]; rfl
    · rw [undo_ents, if_neg h0, decF, if_pos (by omega)]
      exact ⟨[], rfl, by simp, by simp⟩
theorem dec_val (g : Int) (hg : 0 ≤ g ∧ g < 18446744073709551616) (l : List Int) (hl : Words l) (hs : l.length ≤ 900) : undo_Decode.f g l = some (decR (decF g (l.length + 1) l)) := by
  obtain ⟨ys, h1, h2, h3⟩ := ents_val g hg (l.length + 1) l hl (by omega) hs
  unfold undo_Decode.f
  rw [h1, Option.bind_some, if_pos (by omega), ← h3]
  by_cases c : ys.all (·.2) = true
  · rw [if_pos c, if_pos c]; rfl
  · rw [if_neg c, if_neg c]; rfl
theorem decF_more (g : Int) : ∀ (k j : Nat) (l : List Int), l.length < k → l.length < j → decF g k l = decF g j l
  | 0, _, _, h, _ => by omega
  | _ + 1, 0, _, _, h => by omega
  | k + 1, j + 1, l, h1, h2 => by
    rw [decF, decF]
    by_cases h0 : l.length = 0
    · rw [if_pos h0, if_pos h0]
    · rw [if_neg h0, if_neg h0, decF_more g k j _ (by rw [List.length_drop]; omega) (by rw [List.length_drop]; omega)]
theorem decF_len (g : Int) : ∀ (k : Nat) (l : List Int) (ys : List S25), decF g k l = some ys → ys.length ≤ l.length ∧ ∀ x ∈ ys, x.f1.length ≤ l.length
  | 0, l, ys, h => by
    injection h with h
    subst h
    exact ⟨by simp, fun x hx => by simp at hx⟩
  | k + 1, l, ys, h => by
    rw [decF] at h
    by_cases h0 : l.length = 0
    · rw [if_pos h0] at h
      injection h with h
      subst h
      exact ⟨by simp, fun x hx => by simp at hx⟩
    · rw [if_neg h0] at h
      by_cases c : okE g l = true
      · rw [if_pos c] at h
        obtain ⟨zs, h1, rfl⟩ := Option.map_eq_some_iff.1 h
        obtain ⟨h2, h3⟩ := decF_len g k _ zs h1
        rw [List.length_drop] at h2 h3
        refine ⟨by rw [List.length_cons]; omega, fun x hx => ?_⟩
        rcases List.mem_cons.1 hx with rfl | hx
        · simp [entryAt]; omega
        · have := h3 x hx; omega
      · rw [if_neg c] at h; cases h
theorem many_head (g : Int) (x : S25) (h : goodE x = true) : manyE (headE g x) = x.f1.length := by
  obtain ⟨h1, h2, h3, h4⟩ := goodE_spec h
  unfold manyE headE
  omega
theorem wordsE_len (g : Int) (x : S25) : (wordsE g x).length = x.f1.length + 2 := by simp [wordsE, bodyE]
theorem rd_wordsE (g : Int) (x : S25) (t : List Int) : rd (wordsE g x ++ t) 0 = headE g x := by simp [wordsE, bodyE, rd]
theorem entry_wordsE (g : Int) (x : S25) (t : List Int) (h : goodE x = true) : entryAt (wordsE g x ++ t) = x := by
  obtain ⟨h1, h2, h3, h4⟩ := goodE_spec h
  unfold entryAt
  rw [rd_wordsE, many_head g x h]
  have e1 : headE g x % 1048576 = x.f0 := by unfold headE; omega
  have e2 : ((wordsE g x ++ t).drop 1).take x.f1.length = x.f1 := by simp [wordsE, bodyE]
  rw [e1, e2]
theorem ok_wordsE (g : Int) (x : S25) (t : List Int) (h : goodE x = true) : okE g (wordsE g x ++ t) = true := by
  unfold okE
  rw [rd_wordsE, many_head g x h, entry_wordsE g x t h, decide_eq_true_eq]
  refine ⟨by rw [List.length_append, wordsE_len]; omega, h, ?_⟩
  rw [List.take_append_of_le_length (by rw [wordsE_len]; omega), List.take_of_length_le (by rw [wordsE_len]; omega)]
theorem ok_other (g o : Int) (x : S25) (t : List Int) (h : goodE x = true) (hne : g % 65536 ≠ o % 65536) : okE o (wordsE g x ++ t) = false := by
  unfold okE
  rw [rd_wordsE, many_head g x h, entry_wordsE g x t h, decide_eq_false_iff_not]
  rintro ⟨_, _, h3⟩
  rw [List.take_append_of_le_length (by rw [wordsE_len]; omega), List.take_of_length_le (by rw [wordsE_len]; omega)] at h3
  have h4 : headE o x = headE g x := by
    unfold wordsE bodyE at h3
    have := (List.append_inj h3 (by simp)).1
    injection this
  unfold headE at h4
  omega
theorem ok_short (g : Int) (x : S25) (h : goodE x = true) : okE g (bodyE g x) = false := by
  unfold okE
  rw [show rd (bodyE g x) 0 = headE g x by simp [bodyE, rd], many_head g x h, decide_eq_false_iff_not]
  rintro ⟨h1, _⟩
  simp [bodyE] at h1
theorem decF_app (g : Int) : ∀ (l : List S25) (rest : List Int) (k : Nat), (∀ x ∈ l, goodE x = true) → (l.flatMap (wordsE g) ++ rest).length < k → decF g k (l.flatMap (wordsE g) ++ rest) = (decF g (rest.length + 1) rest).map (l ++ ·)
  | [], rest, k, _, hk => by
    rw [List.flatMap_nil, List.nil_append] at hk ⊢
    rw [decF_more g k (rest.length + 1) rest hk (by omega)]
    cases decF g (rest.length + 1) rest with
    | none => rfl
    | some ys => rfl
  | x :: l, rest, k, hg, hk => by
    have hx := hg x (by simp)
    rw [List.flatMap_cons, List.append_assoc] at hk ⊢
    have hlen : (wordsE g x ++ (l.flatMap (wordsE g) ++ rest)).length = x.f1.length + 2 + (l.flatMap (wordsE g) ++ rest).length := by rw [List.length_append, wordsE_len]
    obtain ⟨k, rfl⟩ : ∃ j, k = j + 1 := ⟨k - 1, by omega⟩
    rw [decF, if_neg (by omega), if_pos (ok_wordsE g x _ hx), rd_wordsE, many_head g x hx, entry_wordsE g x _ hx]
    have hdrop : (wordsE g x ++ (l.flatMap (wordsE g) ++ rest)).drop (x.f1.length + 2) = l.flatMap (wordsE g) ++ rest := by
      rw [← wordsE_len g x, List.drop_left]
    rw [hdrop, decF_app g l rest k (fun y hy => hg y (List.mem_cons_of_mem _ hy)) (by omega)]
    cases decF g (rest.length + 1) rest with
    | none => rfl
    | some ys => rfl
theorem decF_list (g : Int) (l : List S25) (k : Nat) (hg : ∀ x ∈ l, goodE x = true) (hk : (l.flatMap (wordsE g)).length < k) : decF g k (l.flatMap (wordsE g)) = some l := by
  have := decF_app g l [] k hg (by simpa using hk)
  rw [List.append_nil] at this
  rw [this, decF]
  simp
theorem wordsE_mod (g o : Int) (x : S25) (h : g % 65536 = o % 65536) : wordsE g x = wordsE o x := by
  have : headE g x = headE o x := by unfold headE; rw [h]
  unfold wordsE bodyE
  rw [this]
theorem decF_other (g o : Int) (x : S25) (l : List S25) (k : Nat) (hg : ∀ y ∈ x :: l, goodE y = true) (hk : ((x :: l).flatMap (wordsE g)).length < k) (hne : g % 65536 ≠ o % 65536) : decF o k ((x :: l).flatMap (wordsE g)) = none := by
  obtain ⟨k, rfl⟩ : ∃ j, k = j + 1 := ⟨k - 1, by omega⟩
  rw [List.flatMap_cons, decF, if_neg (by rw [List.length_append, wordsE_len]; omega), if_neg (by rw [ok_other g o x _ (hg x (by simp)) hne]; decide)]
theorem decF_cut (g : Int) (l : List S25) (x : S25) (k : Nat) (hg : ∀ y ∈ l ++ [x], goodE y = true) (hk : (l.flatMap (wordsE g) ++ bodyE g x).length < k) : decF g k (l.flatMap (wordsE g) ++ bodyE g x) = none := by
  rw [decF_app g l (bodyE g x) k (fun y hy => hg y (List.mem_append_left _ hy)) hk, decF, if_neg (by simp [bodyE]), if_neg (by rw [ok_short g x (hg x (by simp))]; decide)]
  rfl
theorem flat_words (g : Int) (l : List S25) (hg : ∀ x ∈ l, goodE x = true) (hw : ∀ x ∈ l, Words x.f1) : Words (l.flatMap (wordsE g)) := fun y hy => by
  obtain ⟨x, hx, hy⟩ := List.mem_flatMap.1 hy
  have hb := body_words (g := g) (hg x hx) (hw x hx)
  rcases List.mem_append.1 hy with hy | hy
  · exact hb y hy
  · have hc := nmore_lt 0 _ hb (by decide)
    rw [List.mem_singleton.1 hy]
    omega
theorem flat_len (g : Int) : ∀ (l : List S25), (∀ x ∈ l, x.f1.length ≤ 20) → (l.flatMap (wordsE g)).length ≤ 22 * l.length
  | [], _ => by simp
  | x :: l, h => by
    rw [List.flatMap_cons, List.length_append, wordsE_len, List.length_cons]
    have h1 := h x (by simp)
    have h2 := flat_len g l (fun y hy => h y (List.mem_cons_of_mem _ hy))
    omega

/-- A bit of a number of 32, as the law asks for it. -/
theorem shr_bit (b i : Nat) (hb : b < 4294967296) (hi : i < 32) : Go.bits .and .u32 (shr .u32 (b : Int) (i : Int)) 1 = ((b / 2 ^ i % 2 : Nat) : Int) := by
  have h1 : shr .u32 (b : Int) (i : Int) = ((b / 2 ^ i : Nat) : Int) := by
    unfold shr
    rw [Int.toNat_natCast, show min i IntKind.u32.bits = i from by simp only [IntKind.bits]; omega]
    simp
  rw [h1, show (1 : Int) = ((1 : Nat) : Int) from rfl, u32_and_nat _ _ (Nat.lt_of_le_of_lt (Nat.div_le_self _ _) hb) (by decide), nat_mask1]
theorem shl_one (i : Nat) (hi : i < 64) : shl .u64 1 (i : Int) = ((2 ^ i : Nat) : Int) := by
  have h : 2 ^ i < 2 ^ 64 := Nat.pow_lt_pow_right (by omega) hi
  unfold shl
  rw [Int.toNat_natCast, show min i IntKind.u64.bits = i from by simp only [IntKind.bits]; omega, IntKind.wrap_u64, Int.one_mul, show (2 : Int) ^ i = ((2 ^ i : Nat) : Int) from by simp]
  generalize 2 ^ i = n at h ⊢
  omega
/-- One bit of a row of words, turned. -/
theorem flip_big (x : List Int) (hw : Words x) (p : Nat) (h : p < 64 * x.length) :
    (x.set ((p / 64 : Nat) : Int).toNat (Go.bits .xor .u64 (rd x ((p / 64 : Nat) : Int)) (shl .u64 1 ((p % 64 : Nat) : Int)))).length = x.length ∧
    Words (x.set ((p / 64 : Nat) : Int).toNat (Go.bits .xor .u64 (rd x ((p / 64 : Nat) : Int)) (shl .u64 1 ((p % 64 : Nat) : Int)))) ∧
    big (x.set ((p / 64 : Nat) : Int).toNat (Go.bits .xor .u64 (rd x ((p / 64 : Nat) : Int)) (shl .u64 1 ((p % 64 : Nat) : Int)))) = big x ^^^ 2 ^ p := by
  have hj : p / 64 < x.length := by omega
  have hm : rd x ((p / 64 : Nat) : Int) ∈ x := rd_in x _ hj
  have hr := hw _ hm
  obtain ⟨n, hn⟩ := Int.eq_ofNat_of_zero_le hr.1
  have hn2 : n < 2 ^ 64 := by omega
  have hp2 : 2 ^ (p % 64) < 2 ^ 64 := Nat.pow_lt_pow_right (by omega) (by omega)
  have hv : Go.bits .xor .u64 (rd x ((p / 64 : Nat) : Int)) (shl .u64 1 ((p % 64 : Nat) : Int)) = (((rd x ((p / 64 : Nat) : Int)).toNat ^^^ 2 ^ (p % 64) : Nat) : Int) := by
    rw [shl_one _ (by omega), hn, u64_xor_nat _ _ hn2 hp2, Int.toNat_natCast]
  have hlt : (rd x ((p / 64 : Nat) : Int)).toNat ^^^ 2 ^ (p % 64) < 2 ^ 64 := by
    rw [hn, Int.toNat_natCast]; exact Nat.xor_lt_two_pow hn2 hp2
  rw [hv, Int.toNat_natCast]
  refine ⟨by simp, fun y hy => ?_, ?_⟩
  · rcases List.mem_or_eq_of_mem_set hy with hy | hy
    · exact hw y hy
    · rw [hy]; omega
  · rw [big_set x (p / 64) _ hj (fun y hy => (hw y hy).1), ← Nat.pow_add, show 64 * (p / 64) + p % 64 = p from by omega]
theorem nfold_sealed (m : List Int) : nfold ones (m ++ [((nmore 0 m : Nat) : Int)]) = nturn 64 ones := by
  rw [nfold_append]
  show nturn 64 (nfold ones m ^^^ ((nmore 0 m : Nat) : Int).toNat) = nturn 64 ones
  rw [Int.toNat_natCast]
  unfold nmore
  rw [Nat.xor_zero]
  congr 1
  rw [Nat.xor_comm ones, ← Nat.xor_assoc, Nat.xor_self, Nat.zero_xor]
theorem nmore_wordsE (g : Int) (x : S25) : nmore 0 (wordsE g x) = ones ^^^ nturn 64 ones := by
  unfold wordsE
  rw [show nmore 0 (bodyE g x ++ [((nmore 0 (bodyE g x) : Nat) : Int)]) = ones ^^^ nfold (ones ^^^ 0) (bodyE g x ++ [((nmore 0 (bodyE g x) : Nat) : Int)]) from rfl, Nat.xor_zero, nfold_sealed]
theorem wordsE_words {g : Int} {x : S25} (h : goodE x = true) (hx : Words x.f1) : Words (wordsE g x) := by
  have := flat_words g [x] (fun y hy => by rw [List.mem_singleton.1 hy]; exact h) (fun y hy => by rw [List.mem_singleton.1 hy]; exact hx)
  simpa using this
theorem burst_dec (g : Int) (x : S25) (hx : goodE x = true) (y : List Int) (hyl : y.length = x.f1.length + 2) (hyh : rd y 0 = headE g x) (k : Nat) :
    decF g (k + 2) y = if okE g y = true then some [entryAt y] else none := by
  rw [decF, if_neg (by omega)]
  by_cases c : okE g y = true
  · rw [if_pos c, if_pos c, hyh, many_head g x hx, List.drop_eq_nil_of_le (by omega), decF, if_pos (by simp)]
    rfl
  · rw [if_neg c, if_neg c]
theorem ok_is (g : Int) (x : S25) (hx : goodE x = true) (y : List Int) (hyl : y.length = x.f1.length + 2) (hyh : rd y 0 = headE g x) (h : okE g y = true) : y = wordsE g (entryAt y) := by
  have h3 := (of_decide_eq_true h).2.2
  rw [hyh, many_head g x hx, List.take_of_length_le (by omega)] at h3
  exact h3.symm
theorem bursts_loop (g : Int) (hg : 0 ≤ g ∧ g < 18446744073709551616) (x : S25) (hx : goodE x = true) (hxl : x.f1.length ≤ 20) (by_ : Nat) (hb : by_ < 4294967296) (K : Nat) (hK : K < 64 * (x.f1.length + 1)) (d : Nat) : ∀ (k i : Nat) (y : List Int), 2 * d + 1200 ≤ k → i + d = 32 →
    y.length = x.f1.length + 2 → Words y → rd y 0 = headE g x → big y = big (wordsE g x) ^^^ (2 ^ (64 + K) * (by_ % 2 ^ i)) → (by_ % 2 ^ i = 0 → y = wordsE g x) →
    lockfastlaw13_UndoBursts.l0 k g (by_ : Int) true (wordsE g x) y (64 * ((x.f1.length : Int) + 1)) (K : Int) (i : Int) x.f0 x.f1 = some true := by
  have hwl := wordsE_len g x
  have fin : ∀ (k i : Nat) (y : List Int), 1100 ≤ k → y.length = x.f1.length + 2 → Words y → rd y 0 = headE g x → i ≤ 32 → big y = big (wordsE g x) ^^^ (2 ^ (64 + K) * (by_ % 2 ^ i)) → (by_ % 2 ^ i = 0 → y = wordsE g x) →
      lockfastlaw13_UndoBursts.j1 k g (by_ : Int) true (wordsE g x) y (64 * ((x.f1.length : Int) + 1)) (K : Int) (i : Int) false x.f0 x.f1 = some true := by
    intro k i y hk hyl hyw hyh hi hbig hzero
    obtain ⟨k, rfl⟩ : ∃ k', k = k' + 1 := ⟨k - 1, by omega⟩
    rw [lockfastlaw13_UndoBursts.j1, if_neg (by decide), dec_val g hg y hyw (by omega), Option.bind_some, words_val k _ _ (by omega) (by omega), Option.bind_some, if_pos rfl]
    have hlt : by_ % 2 ^ i < 2 ^ 32 := Nat.lt_of_le_of_lt (Nat.mod_le _ _) hb
    obtain ⟨kk, hkk⟩ : ∃ kk, y.length + 1 = kk + 2 := ⟨y.length - 1, by omega⟩
    rw [hkk, burst_dec g x hx y hyl hyh kk]
    by_cases c : okE g y = true
    · have hy := ok_is g x hx y hyl hyh c
      have e1 : nmore 0 (wordsE g x) = nmore 0 y := by rw [nmore_wordsE, hy, nmore_wordsE]
      have e2 := hzero (nmore_burst 0 (64 + K) _ (wordsE g x) y (by omega) (by omega) hlt hbig e1)
      have e3 : entryAt y = x := by
        rw [e2]
        have := entry_wordsE g x [] hx
        rwa [List.append_nil] at this
      rw [if_pos c, e3]
      simp only [decR]
      rw [decide_eq_true e2.symm]
      have hs := same_refl k [x] (by simp) (fun z hz => by rw [List.mem_singleton.1 hz]; omega) (by simp; omega)
      have he : (⟨x.f0, x.f1⟩ : S25) = x := rfl
      rw [he, hs]
      rfl
    · have hne : ¬ wordsE g x = y := fun e => by
        rw [← e] at c
        have := ok_wordsE g x [] hx
        rw [List.append_nil] at this
        exact c this
      rw [if_neg c, decide_eq_false hne]
      rfl
  induction d with
  | zero =>
    intro k i y hk hi hyl hyw hyh hbig hzero
    obtain ⟨k, rfl⟩ : ∃ k', k = k' + 1 := ⟨k - 1, by omega⟩
    rw [lockfastlaw13_UndoBursts.l0, if_neg (by omega)]
    exact fin k i y (by omega) hyl hyw hyh (by omega) hbig hzero
  | succ d ih =>
    intro k i y hk hi hyl hyw hyh hbig hzero
    obtain ⟨k, rfl⟩ : ∃ k', k = k' + 2 := ⟨k - 2, by omega⟩
    rw [lockfastlaw13_UndoBursts.l0, if_pos (by omega), w64 (by omega)]
    by_cases e : (K : Int) + (i : Int) < 64 * ((x.f1.length : Int) + 1)
    · rw [decide_eq_true e, lockfastlaw13_UndoBursts.j1]
      have hs2 : by_ % 2 ^ (i + 1) = by_ % 2 ^ i + 2 ^ i * (by_ / 2 ^ i % 2) := Nat.mod_pow_succ
      rw [if_pos rfl, if_pos (by omega), shr_bit by_ i hb (by omega), w64 (show -9223372036854775808 ≤ (i : Int) + 1 ∧ (i : Int) + 1 ≤ 9223372036854775807 from by omega)]
      by_cases e1 : by_ / 2 ^ i % 2 = 1
      · rw [e1, if_pos (show ((1 : Nat) : Int) = 1 from rfl)]
        rw [show wrap64 ((K : Int) + (i : Int)) = ((K + i : Nat) : Int) from by rw [w64 (by omega)]; omega]
        rw [show Int.tdiv ((K + i : Nat) : Int) 64 = (((K + i) / 64 : Nat) : Int) from Int.tdiv_eq_ediv_of_nonneg (by omega), show Int.tmod ((K + i : Nat) : Int) 64 = (((K + i) % 64 : Nat) : Int) from Int.tmod_eq_emod_of_nonneg (by omega)]
        rw [w64 (x := (((K + i) / 64 : Nat) : Int)) (by omega), w64 (x := 1 + (((K + i) / 64 : Nat) : Int)) (by omega), if_pos (by omega), if_pos (by omega), if_pos (by omega)]
        have hq1 : (1 : Int) + (((K + i) / 64 : Nat) : Int) = (((64 + K + i) / 64 : Nat) : Int) := by omega
        have hq2 : (((K + i) % 64 : Nat) : Int) = (((64 + K + i) % 64 : Nat) : Int) := by omega
        rw [hq1, hq2]
        obtain ⟨h1, h2, h3⟩ := flip_big y hyw (64 + K + i) (by omega)
        refine ih (k + 0) (i + 1) _ (by omega) (by omega) (by rw [h1]; exact hyl) h2 ?_ ?_ ?_
        · rw [← hyh]
          simp only [rd, Int.toNat_natCast, List.getD_eq_getElem?_getD, List.getElem?_set]
          rw [if_neg (by omega)]
        · rw [h3, hbig, hs2, e1, Nat.mul_one, Nat.pow_add 2 (64 + K) i, Nat.xor_assoc, ← mul_xor]
          congr 2
          have hx1 := xor_low i (by_ % 2 ^ i) 1 (Nat.mod_lt _ (Nat.two_pow_pos i))
          rw [Nat.mul_one] at hx1
          omega
        · intro q
          rw [hs2, e1] at q
          have := Nat.two_pow_pos i
          omega
      · have e0 : by_ / 2 ^ i % 2 = 0 := by omega
        rw [e0, if_neg (show ¬ ((0 : Nat) : Int) = 1 from by decide)]
        refine ih (k + 0) (i + 1) y (by omega) (by omega) hyl hyw hyh ?_ ?_
        · rw [hs2, e0, Nat.mul_zero, Nat.add_zero]; exact hbig
        · intro q
          rw [hs2, e0, Nat.mul_zero, Nat.add_zero] at q
          exact hzero q
    · rw [decide_eq_false e]
      exact fin (k + 1) i y (by omega) hyl hyw hyh (by omega) hbig hzero
theorem UndoBursts : lockfastlaw13_UndoBursts.Pure := by
  intro a0 a1 l1 a2 a3 h0 _ _ hwf h2 h3
  refine ⟨3000, ?_⟩
  have hw := words_wf hwf
  have hg := bounds_u64 h0
  have hg' : 0 ≤ a0 ∧ a0 < 18446744073709551616 := by omega
  have hb2 := bounds_u16 h2
  have hb3 := bounds_u32 h3
  unfold lockfastlaw13_UndoBursts.f
  rw [show lockfastlaw13_awake.f = some true from rfl, Option.bind_some]
  by_cases hl : (l1.length : Int) > 20
  · rw [if_pos hl]
  rw [if_neg hl, enc_val a0 hg' a1 l1 hw (by omega), Option.bind_some]
  by_cases c : goodE ⟨a1, l1⟩ = true
  · have hwl : (wordsE a0 ⟨a1, l1⟩).length = l1.length + 2 := wordsE_len a0 ⟨a1, l1⟩
    have hn : wrap64 (64 * wrap64 (((wordsE a0 ⟨a1, l1⟩).length : Int) - 1)) = 64 * ((l1.length : Int) + 1) := by
      rw [w64 (x := ((wordsE a0 ⟨a1, l1⟩).length : Int) - 1) (by omega), w64 (by omega)]
      omega
    rw [if_pos c]
    dsimp only
    rw [if_pos rfl, Option.bind_some, if_pos (by simp; omega), hn, if_neg (by omega), if_neg (by omega), List.nil_append]
    obtain ⟨y, rfl⟩ := Int.eq_ofNat_of_zero_le (show 0 ≤ a3 by omega)
    obtain ⟨z, rfl⟩ := Int.eq_ofNat_of_zero_le (show 0 ≤ a2 by omega)
    have hK : Int.tmod (wrap64 (z : Int)) (64 * ((l1.length : Int) + 1)) = ((z % (64 * (l1.length + 1)) : Nat) : Int) := by
      rw [w64 (by omega), tmod_nn' z _ (by omega)]
      simp
    rw [hK]
    exact bursts_loop a0 hg' ⟨a1, l1⟩ c (by dsimp only; omega) y (by omega) (z % (64 * (l1.length + 1))) (Nat.mod_lt _ (by omega)) 32 3000 0 (wordsE a0 ⟨a1, l1⟩) (by omega) (by omega) hwl (wordsE_words c hw) (by have := rd_wordsE a0 ⟨a1, l1⟩ []; rwa [List.append_nil] at this) (by simp [Nat.mod_one]) (fun _ => rfl)
  · rw [if_neg c]
    dsimp only
    rw [if_neg (by decide)]

end Go.Proofs.Ytinbediigibolaa.Pure
