/- Taken back an image is as it was ahead of all changes. -/
import Derived.Test.YtinbediigibolaaPUndoFirstx7
import Derived.Test.YtinbediigibolaaCrcMath
import Derived.OpenShut
namespace Go.Proofs.Ytinbediigibolaa.Pure
open Go.RowKit Go.Proofs.YtinbediigibolaaX Go.Proofs.Ytinbediigibolaa.PUndoFirst Go.Proofs.YtinbediigibolaaW.PrintWords Go.Proofs.YtinbediigibolaaW.PrintLast Go.Proofs.YtinbediigibolaaW.PrintMore

theorem words_wf {l : List Int} (h : ∀ x ∈ l, (Lit.int .u64 x).wf = true) : Words l := fun x hx => by
  have := bounds_u64 (h x hx)
  omega
theorem w64 {x : Int} (h : -9223372036854775808 ≤ x ∧ x ≤ 9223372036854775807) : wrap64 x = x := by unfold wrap64; omega
theorem words_nil : Words [] := fun x hx => by simp at hx
theorem words_app {l m : List Int} (hl : Words l) (hm : Words m) : Words (l ++ m) := fun x hx => by
  rcases List.mem_append.mp hx with h | h
  · exact hl x h
  · exact hm x h
theorem words_one {x : Int} (h0 : 0 ≤ x) (h1 : x < 18446744073709551616) : Words [x] := fun y hy => by
  have : y = x := by simpa using hy
  omega
theorem words_take {l : List Int} (hl : Words l) (n : Nat) : Words (l.take n) := fun x hx => hl x (List.mem_of_mem_take hx)
theorem words_drop {l : List Int} (hl : Words l) (n : Nat) : Words (l.drop n) := fun x hx => hl x (List.mem_of_mem_drop hx)
theorem more_nat {s : Nat} {l : List Int} (hl : Words l) (h : s < 4294967296) : seal_More.f (s : Int) l = some ((nmore s l : Nat) : Int) := congrArg some (crcMore_nat s l hl h)
theorem of_nat {l : List Int} (hl : Words l) : seal_Of.f l = some ((nmore 0 l : Nat) : Int) := by
  unfold seal_Of.f
  rw [show (0 : Int) = ((0 : Nat) : Int) from rfl, more_nat hl (by decide)]
  rfl
theorem seal_eq {l : List Int} (hl : Words l) (hs : l.length ≤ 1000) : seal_Seal.f l = some (l ++ [((nmore 0 l : Nat) : Int)]) := by
  unfold seal_Seal.f
  have hc := nmore_lt 0 l hl (by decide)
  rw [if_pos (by omega), show crcMore 0 l = ((nmore 0 l : Nat) : Int) from crcMore_nat 0 l hl (by decide), IntKind.wrap_u64, Int.emod_eq_of_lt (by omega) (by omega)]
theorem open_nil : seal_Open.f [] = some ([], false) := by
  unfold seal_Open.f
  rw [if_pos (by simp [wrap64])]
theorem open_eq {l : List Int} (x : Int) (hl : Words l) (hs : l.length ≤ 1000) : seal_Open.f (l ++ [x]) = some (if x = ((nmore 0 l : Nat) : Int) then (l, true) else ([], false)) := by
  unfold seal_Open.f
  have e : wrap64 (((l ++ [x]).length : Int) - 1) = (l.length : Int) := by
    rw [w64 (by simp; omega)]
    simp
  have hc := nmore_lt 0 l hl (by decide)
  rw [e, if_neg (by omega), if_pos (by omega), if_pos (by simp; omega), if_pos (by simp; omega), Int.toNat_natCast, List.take_left, of_nat hl]
  simp only [Option.bind_some]
  rw [show rd (l ++ [x]) (l.length : Int) = x from by simp [rd], IntKind.wrap_u64, Int.emod_eq_of_lt (by omega) (by omega)]
  by_cases c : x = ((nmore 0 l : Nat) : Int)
  · rw [if_pos c, if_pos c, if_pos (by simp; omega)]; rfl
  · rw [if_neg c, if_neg c]
theorem rd_drop (l : List Int) (i : Nat) (h : i < l.length) : l.drop i = rd l (i : Int) :: l.drop (i + 1) := by
  rw [List.drop_eq_getElem_cons h]
  simp [rd, h]
theorem mask_bit (n j : Nat) : (2 ^ n - 1).testBit j = decide (j < n) := Nat.testBit_two_pow_sub_one n j
theorem fits_eq (a n : Nat) (h1 : 1 ≤ n) (h : a + n ≤ 64) : field_Fits.f (a : Int) (n : Int) = some true := by
  unfold field_Fits.f
  rw [if_pos (by omega), if_pos (by omega), if_pos (by omega), w64 (by omega), decide_eq_true (by omega)]
theorem mask_eq (n : Nat) (h1 : 1 ≤ n) (h : n ≤ 64) : field_mask.f (n : Int) = some ((2 ^ n - 1 : Nat) : Int) := by
  unfold field_mask.f
  rw [w64 (by omega), if_pos (by omega), show (64 : Int) - (n : Int) = ((64 - n : Nat) : Int) from by omega]
  unfold shr
  rw [Int.toNat_natCast, show min (64 - n) IntKind.u64.bits = 64 - n from by simp only [IntKind.bits]; omega]
  have h2 : (18446744073709551615 : Nat) / 2 ^ (64 - n) = 2 ^ n - 1 := by
    have e : 2 ^ n * 2 ^ (64 - n) = 18446744073709551616 := by rw [← Nat.pow_add, show n + (64 - n) = 64 from by omega]
    have p1 := Nat.two_pow_pos n
    have p2 := Nat.two_pow_pos (64 - n)
    have e2 : (2 ^ n - 1) * 2 ^ (64 - n) + 2 ^ (64 - n) = 18446744073709551616 := by
      rw [Nat.sub_mul, Nat.one_mul, e]
      have : 2 ^ (64 - n) ≤ 18446744073709551616 := by rw [← e]; exact Nat.le_mul_of_pos_left _ p1
      omega
    apply Nat.div_eq_of_lt_le
    · omega
    · rw [Nat.succ_mul]; omega
  rw [show (18446744073709551615 : Int) / 2 ^ (64 - n) = (((18446744073709551615 : Nat) / 2 ^ (64 - n) : Nat) : Int) from by simp, h2]
theorem shr_nat (w a : Nat) (ha : a ≤ 64) : shr .u64 (w : Int) (a : Int) = ((w / 2 ^ a : Nat) : Int) := by
  unfold shr
  rw [Int.toNat_natCast, show min a IntKind.u64.bits = a from by simp only [IntKind.bits]; omega]
  simp
theorem shl_nat (w a : Nat) (ha : a ≤ 64) : shl .u64 (w : Int) (a : Int) = ((w * 2 ^ a % 18446744073709551616 : Nat) : Int) := by
  unfold shl
  rw [Int.toNat_natCast, show min a IntKind.u64.bits = a from by simp only [IntKind.bits]; omega, IntKind.wrap_u64]
  simp
theorem get_eq (w a n : Nat) (hw : w < 18446744073709551616) (h1 : 1 ≤ n) (h : a + n ≤ 64) : field_Get.f (w : Int) (a : Int) (n : Int) = some ((w / 2 ^ a % 2 ^ n : Nat) : Int) := by
  unfold field_Get.f
  have hp : 2 ^ n ≤ 2 ^ 64 := Nat.pow_le_pow_right (by omega) (by omega)
  have hp0 := Nat.two_pow_pos n
  rw [fits_eq a n h1 h, Option.bind_some, if_pos rfl, if_pos (by omega), mask_eq n h1 (by omega), Option.bind_some, shr_nat w a (by omega), u64_and_nat _ _ (Nat.lt_of_le_of_lt (Nat.div_le_self _ _) hw) (by omega), Nat.and_two_pow_sub_one_eq_mod]
def putN (w a n v : Nat) : Nat := 2 ^ a * (2 ^ n * (w / 2 ^ (a + n)) + v % 2 ^ n) + w % 2 ^ a
theorem putN_bit (w a n v j : Nat) : (putN w a n v).testBit j = if a ≤ j ∧ j < a + n then v.testBit (j - a) else w.testBit j := by
  unfold putN
  rw [Nat.testBit_two_pow_mul_add _ (Nat.mod_lt _ (Nat.two_pow_pos a))]
  by_cases h1 : j < a
  · rw [if_pos h1, if_neg (by omega), Nat.testBit_mod_two_pow]
    simp [h1]
  · rw [if_neg h1, Nat.testBit_two_pow_mul_add _ (Nat.mod_lt _ (Nat.two_pow_pos n))]
    by_cases h2 : j < a + n
    · rw [if_pos (by omega), if_pos (by omega), Nat.testBit_mod_two_pow]
      simp [show j - a < n from by omega]
    · rw [if_neg (by omega), if_neg (by omega), ← Nat.shiftRight_eq_div_pow, Nat.testBit_shiftRight, show a + n + (j - a - n) = j from by omega]
theorem putN_lt (w a n v : Nat) (hw : w < 2 ^ 64) (h : a + n ≤ 64) : putN w a n v < 2 ^ 64 := by
  apply Nat.lt_pow_two_of_testBit
  intro j hj
  rw [putN_bit, if_neg (by omega)]
  exact Nat.testBit_lt_two_pow (Nat.lt_of_lt_of_le hw (Nat.pow_le_pow_right (by omega) hj))
theorem put_eq (w a n v : Nat) (hw : w < 18446744073709551616) (h1 : 1 ≤ n) (h : a + n ≤ 64) : field_Put.f (w : Int) (a : Int) (n : Int) (v : Int) = some ((putN w a n v : Nat) : Int) := by
  unfold field_Put.f
  have hp : 2 ^ n ≤ 2 ^ 64 := Nat.pow_le_pow_right (by omega) (by omega)
  have hp0 := Nat.two_pow_pos n
  have e1 : ∀ x : Nat, x % 18446744073709551616 < 18446744073709551616 := fun x => Nat.mod_lt _ (by decide)
  rw [fits_eq a n h1 h, Option.bind_some, if_pos rfl, mask_eq n h1 (by omega), Option.bind_some, if_pos (by omega), shl_nat _ a (by omega), shl_nat v a (by omega), u64_andNot_nat _ _ hw (e1 _), u64_and_nat _ _ (e1 _) (e1 _), u64_or_nat]
  · congr 2
    apply Nat.eq_of_testBit_eq
    intro j
    have hMb : ((2 ^ n - 1) * 2 ^ a % 18446744073709551616).testBit j = (decide (j < 64) && (decide (j ≥ a) && decide (j - a < n))) := by
      rw [show (18446744073709551616 : Nat) = 2 ^ 64 from rfl, Nat.testBit_mod_two_pow, Nat.mul_comm, Nat.testBit_two_pow_mul, mask_bit]
    have hVb : (v * 2 ^ a % 18446744073709551616).testBit j = (decide (j < 64) && (decide (j ≥ a) && v.testBit (j - a))) := by
      rw [show (18446744073709551616 : Nat) = 2 ^ 64 from rfl, Nat.testBit_mod_two_pow, Nat.mul_comm, Nat.testBit_two_pow_mul]
    have hm : (2 ^ n - 1) * 2 ^ a % 18446744073709551616 < 2 ^ 64 := e1 _
    generalize (2 ^ n - 1) * 2 ^ a % 18446744073709551616 = M at hMb hm ⊢
    have hnot := Nat.testBit_two_pow_sub_succ (n := 64) hm j
    rw [show 2 ^ 64 - (M + 1) = 18446744073709551615 - M from by omega] at hnot
    rw [putN_bit, Nat.testBit_or, Nat.testBit_and, Nat.testBit_and, hnot, hVb, hMb]
    by_cases hj : j < 64
    · by_cases h2 : a ≤ j
      · by_cases h3 : j - a < n
        · rw [if_pos (by omega)]; simp [hj, h2, h3]
        · rw [if_neg (by omega)]; simp [hj, h2, h3]
      · rw [if_neg (by omega)]; simp [hj, h2]
    · have hwj : w.testBit j = false := Nat.testBit_lt_two_pow (Nat.lt_of_lt_of_le (show w < 2 ^ 64 from hw) (Nat.pow_le_pow_right (by omega) (by omega)))
      rw [if_neg (by omega)]; simp [hj, hwj]
  · exact Nat.lt_of_le_of_lt Nat.and_le_left hw
  · exact Nat.lt_of_le_of_lt Nat.and_le_left (e1 _)
theorem rd_in (l : List Int) (i : Nat) (h : i < l.length) : rd l (i : Int) ∈ l := by
  simp [rd, h]
theorem tdiv_nn' (n : Nat) (a : Int) (_ : 0 ≤ a) : Int.tdiv (n : Int) a = (n : Int) / a := Int.tdiv_eq_ediv_of_nonneg (by omega)
theorem tmod_nn' (n : Nat) (a : Int) (_ : 0 ≤ a) : Int.tmod (n : Int) a = (n : Int) % a := Int.tmod_eq_emod_of_nonneg (by omega)
def goodE (x : S25) : Bool := decide (0 ≤ x.f0 ∧ x.f0 < 65536 ∧ 1 ≤ x.f1.length ∧ x.f1.length ≤ 4096)
def headE (g : Int) (x : S25) : Int := x.f0 + 1048576 * (x.f1.length : Int) + 281474976710656 * (g % 65536)
def bodyE (g : Int) (x : S25) : List Int := headE g x :: x.f1
def wordsE (g : Int) (x : S25) : List Int := bodyE g x ++ [((nmore 0 (bodyE g x) : Nat) : Int)]
theorem goodE_spec {x : S25} (h : goodE x = true) : 0 ≤ x.f0 ∧ x.f0 < 65536 ∧ 1 ≤ x.f1.length ∧ x.f1.length ≤ 4096 := of_decide_eq_true h
theorem right_val (a : Int) (l : List Int) : undo_Right.f a l = some (goodE ⟨a, l⟩) := by
  unfold undo_Right.f goodE
  dsimp only
  by_cases h1 : a ≥ 0
  · rw [if_pos h1]
    by_cases h2 : a < 65536
    · rw [if_pos h2]
      by_cases h3 : (l.length : Int) ≥ 1
      · rw [if_pos h3]
        congr 1
        exact decide_eq_decide.2 (by omega)
      · rw [if_neg h3]; congr 1; exact (decide_eq_false (by omega)).symm
    · rw [if_neg h2]; congr 1; exact (decide_eq_false (by omega)).symm
  · rw [if_neg h1]; congr 1; exact (decide_eq_false (by omega)).symm
theorem size_val (a : Int) (l : List Int) : undo_Size.f a l = some (if goodE ⟨a, l⟩ = true then (l.length : Int) + 2 else 0) := by
  unfold undo_Size.f
  rw [right_val, Option.bind_some]
  by_cases h : goodE ⟨a, l⟩ = true
  · have := goodE_spec h
    rw [if_pos h, if_pos h, w64 (by dsimp only at this; omega)]
  · rw [if_neg h, if_neg h]
theorem first_nat (at_ n g : Nat) (h1 : at_ < 1048576) (h2 : n < 65536) : putN (putN at_ 20 16 n) 48 16 g = at_ + 1048576 * n + 281474976710656 * (g % 65536) := by
  have e1 : putN at_ 20 16 n = at_ + 1048576 * n := by unfold putN; omega
  rw [e1]
  unfold putN
  omega
theorem first_val (g : Int) (hg : 0 ≤ g ∧ g < 18446744073709551616) (a : Int) (l : List Int) (h : goodE ⟨a, l⟩ = true) : undo_first.f g a l = some (headE g ⟨a, l⟩) := by
  obtain ⟨h1, h2, h3, h4⟩ := goodE_spec h
  dsimp only at h1 h2 h3 h4
  obtain ⟨n, rfl⟩ := Int.eq_ofNat_of_zero_le h1
  obtain ⟨gn, rfl⟩ := Int.eq_ofNat_of_zero_le hg.1
  unfold undo_first.f
  rw [IntKind.wrap_u64, IntKind.wrap_u64, show ((n : Int) % 18446744073709551616) = (n : Int) by omega, show ((l.length : Int) % 18446744073709551616) = (l.length : Int) by omega]
  rw [show (field_Put.f (n : Int) 20 16 (l.length : Int)) = some ((putN n 20 16 l.length : Nat) : Int) from put_eq n 20 16 l.length (by omega) (by decide) (by decide), Option.bind_some]
  have hlt : putN n 20 16 l.length < 18446744073709551616 := putN_lt n 20 16 l.length (by omega) (by decide)
  rw [show (field_Put.f ((putN n 20 16 l.length : Nat) : Int) 48 16 (gn : Int)) = some ((putN (putN n 20 16 l.length) 48 16 gn : Nat) : Int) from put_eq _ 48 16 gn hlt (by decide) (by decide), Option.bind_some, first_nat n l.length gn (by omega) (by omega)]
  unfold headE
  dsimp only
  congr 1
theorem headE_lt {g : Int} {x : S25} (h : goodE x = true) : 0 ≤ headE g x ∧ headE g x < 18446744073709551616 := by
  obtain ⟨h1, h2, h3, h4⟩ := goodE_spec h
  unfold headE
  omega
theorem body_words {g : Int} {x : S25} (h : goodE x = true) (hx : Words x.f1) : Words (bodyE g x) := fun y hy => by
  rcases List.mem_cons.1 hy with rfl | hy
  · exact headE_lt h
  · exact hx y hy
theorem enc_val (g : Int) (hg : 0 ≤ g ∧ g < 18446744073709551616) (a : Int) (l : List Int) (hl : Words l) (hs : l.length ≤ 900) : undo_Encode.f g a l = some (if goodE ⟨a, l⟩ = true then (wordsE g ⟨a, l⟩, 0) else ([], 1)) := by
  unfold undo_Encode.f
  rw [right_val, Option.bind_some]
  by_cases h : goodE ⟨a, l⟩ = true
  · rw [if_pos h, if_pos h, first_val g hg a l h, Option.bind_some, Option.bind_some]
    simp only [List.length_cons, List.length_nil, List.cons_append, List.nil_append]
    rw [if_pos (by omega), show seal_Seal.f (headE g ⟨a, l⟩ :: l) = _ from seal_eq (body_words h hl) (by simp; omega), Option.bind_some]
    rfl
  · rw [if_neg h, if_neg h]
theorem words_loop (l : List Int) (hs : l.length ≤ 100000) (d : Nat) : ∀ (k i : Nat), d + 1 ≤ k → i + d = l.length → lockfastref01_Words.l0 k l l (i : Int) = some true := by
  induction d with
  | zero =>
    intro k i hk hi
    obtain ⟨k, rfl⟩ : ∃ j, k = j + 1 := ⟨k - 1, by omega⟩
    rw [lockfastref01_Words.l0, if_neg (by omega)]
  | succ d ih =>
    intro k i hk hi
    obtain ⟨k, rfl⟩ : ∃ j, k = j + 1 := ⟨k - 1, by omega⟩
    rw [lockfastref01_Words.l0, if_pos (by omega), if_pos (by omega), if_pos (by omega), if_pos rfl, w64 (by omega)]
    exact ih k (i + 1) (by omega) (by omega)
theorem words_refl (k : Nat) (l : List Int) (hs : l.length ≤ 100000) (hk : l.length + 1 ≤ k) : lockfastref01_Words.f k l l = some true := by
  unfold lockfastref01_Words.f
  rw [if_pos rfl]
  exact words_loop l hs l.length k 0 (by omega) (by omega)
theorem words_val_loop (l m : List Int) (hl : l.length = m.length) (hs : l.length ≤ 100000) (d : Nat) : ∀ (k i : Nat), d + 1 ≤ k → i + d = l.length → lockfastref01_Words.l0 k l m (i : Int) = some (decide (l.drop i = m.drop i)) := by
  induction d with
  | zero =>
    intro k i hk hi
    obtain ⟨k, rfl⟩ : ∃ j, k = j + 1 := ⟨k - 1, by omega⟩
    rw [lockfastref01_Words.l0, if_neg (by omega), List.drop_eq_nil_of_le (by omega), List.drop_eq_nil_of_le (by omega)]
    rfl
  | succ d ih =>
    intro k i hk hi
    obtain ⟨k, rfl⟩ : ∃ j, k = j + 1 := ⟨k - 1, by omega⟩
    rw [lockfastref01_Words.l0, if_pos (by omega), if_pos (by omega), if_pos (by omega), rd_drop l i (by omega), rd_drop m i (by omega)]
    by_cases h : rd l (i : Int) = rd m (i : Int)
    · rw [if_pos h, w64 (by omega)]
      rw [show ((i : Int) + 1) = ((i + 1 : Nat) : Int) by omega, ih k (i + 1) (by omega) (by omega), h]
      congr 1
      exact decide_eq_decide.2 (by simp)
    · rw [if_neg h]
      congr 1
      exact (decide_eq_false (fun e => h (by injection e))).symm
theorem words_val (k : Nat) (l m : List Int) (hs : l.length ≤ 100000) (hk : l.length + 1 ≤ k) : lockfastref01_Words.f k l m = some (decide (l = m)) := by
  unfold lockfastref01_Words.f
  by_cases h : (l.length : Int) = (m.length : Int)
  · rw [if_pos h]
    have := words_val_loop l m (by omega) hs l.length k 0 (by omega) (by omega)
    simpa using this
  · rw [if_neg h]
    congr 1
    exact (decide_eq_false (fun e => h (by rw [e]))).symm
theorem same_loop (l : List S25) (hs : l.length ≤ 1000) (hb : ∀ x ∈ l, x.f1.length ≤ 1000) (d : Nat) : ∀ (k i : Nat), d + 1010 ≤ k → i + d = l.length → lockfastref13_Same.l0 k l l (i : Int) = some true := by
  induction d with
  | zero =>
    intro k i hk hi
    obtain ⟨k, rfl⟩ : ∃ j, k = j + 1 := ⟨k - 1, by omega⟩
    rw [lockfastref13_Same.l0, if_neg (by omega)]
  | succ d ih =>
    intro k i hk hi
    obtain ⟨k, rfl⟩ : ∃ j, k = j + 1 := ⟨k - 1, by omega⟩
    have hm : (rd_T25 l (i : Int)).f1.length ≤ 1000 := by
      have hi' : i < l.length := by omega
      have : rd_T25 l (i : Int) = l[i] := by simp [rd_T25, List.getD_eq_getElem?_getD, List.getElem?_eq_getElem hi']
      rw [this]
      exact hb _ (List.getElem_mem hi')
    rw [lockfastref13_Same.l0, if_pos (by omega), if_pos (by omega), if_pos (by omega), if_pos rfl, words_refl k _ (by omega) (by omega), Option.bind_some, if_pos rfl, w64 (by omega)]
    exact ih k (i + 1) (by omega) (by omega)
theorem same_refl (k : Nat) (l : List S25) (hs : l.length ≤ 1000) (hb : ∀ x ∈ l, x.f1.length ≤ 1000) (hk : l.length + 1010 ≤ k) : lockfastref13_Same.f k l l = some true := by
  unfold lockfastref13_Same.f
  rw [if_pos rfl]
  exact same_loop l hs hb l.length k 0 (by omega) (by omega)
theorem rd_T_at (l : List S25) (i : Nat) (h : i < l.length) : rd_T25 l (i : Int) = l[i] := by simp [rd_T25, List.getD_eq_getElem?_getD, List.getElem?_eq_getElem h]
theorem drop_T (l : List S25) (i : Nat) (h : i < l.length) : l.drop i = rd_T25 l (i : Int) :: l.drop (i + 1) := by
  rw [List.drop_eq_getElem_cons h, rd_T_at l i h]
def fewB (l : List S25) : Bool := l.all (fun x => decide (x.f1.length ≤ 20)) && decide (l.length ≤ 12)
theorem few_loop (l : List S25) (hs : l.length ≤ 9223372036854775807) (d : Nat) : ∀ (k i : Nat), d + 1 ≤ k → i + d = l.length → lockfastlaw13_few.l0 k l (i : Int) = some ((l.drop i).all (fun x => decide (x.f1.length ≤ 20)) && decide (l.length ≤ 12)) := by
  induction d with
  | zero =>
    intro k i hk hi
    obtain ⟨k, rfl⟩ : ∃ j, k = j + 1 := ⟨k - 1, by omega⟩
    rw [lockfastlaw13_few.l0, if_neg (by omega), List.drop_eq_nil_of_le (by omega)]
    simp only [List.all_nil, Bool.true_and]
    congr 1
    exact decide_eq_decide.2 (by omega)
  | succ d ih =>
    intro k i hk hi
    obtain ⟨k, rfl⟩ : ∃ j, k = j + 1 := ⟨k - 1, by omega⟩
    rw [lockfastlaw13_few.l0, if_pos (by omega), if_pos (by omega), drop_T l i (by omega), List.all_cons]
    by_cases c : ((rd_T25 l (i : Int)).f1.length : Int) > 20
    · rw [if_pos c, decide_eq_false (by omega), Bool.false_and, Bool.false_and]
    · rw [if_neg c, decide_eq_true (show (rd_T25 l (i : Int)).f1.length ≤ 20 by omega), Bool.true_and, w64 (by omega)]
      exact ih k (i + 1) (by omega) (by omega)
theorem few_val (k : Nat) (l : List S25) (hs : l.length ≤ 9223372036854775807) (hk : l.length + 1 ≤ k) : lockfastlaw13_few.f k l = some (fewB l) := by
  unfold lockfastlaw13_few.f fewB
  have := few_loop l hs l.length k 0 (by omega) (by omega)
  rwa [List.drop_zero] at this
theorem fewB_spec {l : List S25} (h : fewB l = true) : l.length ≤ 12 ∧ ∀ x ∈ l, x.f1.length ≤ 20 := by
  unfold fewB at h
  rw [Bool.and_eq_true] at h
  exact ⟨of_decide_eq_true h.2, fun x hx => of_decide_eq_true (List.all_eq_true.1 h.1 x hx)⟩
def hitE (x : S25) (w : Int) : Option Int := if 0 ≤ w - x.f0 ∧ w - x.f0 < (x.f1.length : Int) then some (rd x.f1 (w - x.f0)) else none
def firstE : List S25 → Int → Int → Int
  | [], _, z => z
  | x :: t, w, z => match hitE x w with
    | some v => v
    | none => firstE t w z
def nearE (x : S25) : Prop := -1099511627776 ≤ x.f0 ∧ x.f0 ≤ 1099511627776 ∧ x.f1.length ≤ 20
theorem rd_set (o : List Int) (j : Nat) (v : Int) (i : Nat) (h : i < o.length) : rd (o.set j v) (i : Int) = if j = i then v else rd o (i : Int) := by
  simp only [rd, Int.toNat_natCast, List.getD_eq_getElem?_getD, List.getElem?_set]
  by_cases c : j = i
  · subst c
    rw [if_pos rfl, if_pos h, if_pos rfl]; rfl
  · rw [if_neg c, if_neg c]
theorem put_rd (a w : Int) (o : List Int) (i : Nat) (h : i < o.length) : rd (undo_put a w o) (i : Int) = if a = (i : Int) then w else rd o (i : Int) := by
  unfold undo_put
  by_cases c0 : 0 ≤ a
  · rw [if_pos c0]
    by_cases c1 : a < (o.length : Int)
    · rw [if_pos c1, rd_set o a.toNat w i h]
      by_cases c : a = (i : Int)
      · rw [if_pos (by omega), if_pos c]
      · rw [if_neg (by omega), if_neg c]
    · rw [if_neg c1, if_neg (by omega)]
  · rw [if_neg c0, if_neg (by omega)]
theorem backN_rd (a : Int) (old : List Int) (ha : -1099511627776 ≤ a ∧ a ≤ 1099511627776) (o : List Int) (i : Nat) (h : i < o.length) : ∀ (k : Nat), k ≤ 1000000 → rd (undo_backN a old k o) (i : Int) = if 0 ≤ (i : Int) - a ∧ (i : Int) - a < (k : Int) then rd old ((i : Int) - a) else rd o (i : Int)
  | 0, _ => by rw [undo_backN, if_neg (by omega)]
  | k + 1, hk => by
    rw [undo_backN, put_rd _ _ _ i (by rw [undo_backN_length]; exact h), w64 (by omega), backN_rd a old ha o i h k (by omega)]
    by_cases c : a + (k : Int) = (i : Int)
    · rw [if_pos c, if_pos (by omega), show (i : Int) - a = (k : Int) by omega]
    · rw [if_neg c]
      by_cases c2 : 0 ≤ (i : Int) - a ∧ (i : Int) - a < (k : Int)
      · rw [if_pos c2, if_pos (by omega)]
      · rw [if_neg c2, if_neg (by omega)]
theorem back1_rd (x : S25) (hx : nearE x) (o : List Int) (i : Nat) (h : i < o.length) : rd (undo_back1 x o) (i : Int) = (hitE x (i : Int)).getD (rd o (i : Int)) := by
  obtain ⟨h1, h2, h3⟩ := hx
  unfold undo_back1 hitE
  rw [backN_rd x.f0 x.f1 ⟨h1, h2⟩ o i h _ (by omega)]
  split <;> rfl
theorem back1_len (x : S25) (o : List Int) : (undo_back1 x o).length = o.length := undo_backN_length _ _ _ _
theorem foldr_len (o : List Int) : ∀ (l : List S25), (l.foldr undo_back1 o).length = o.length
  | [] => rfl
  | x :: l => by rw [List.foldr_cons, back1_len, foldr_len o l]
theorem foldr_rd (o : List Int) (i : Nat) (h : i < o.length) : ∀ (l : List S25), (∀ x ∈ l, nearE x) → rd (l.foldr undo_back1 o) (i : Int) = firstE l (i : Int) (rd o (i : Int))
  | [], _ => rfl
  | x :: l, hl => by
    rw [List.foldr_cons, back1_rd x (hl x (by simp)) _ i (by rw [foldr_len]; exact h), foldr_rd o i h l (fun y hy => hl y (List.mem_cons_of_mem _ hy)), firstE]
    cases hitE x (i : Int) <;> rfl
theorem list_rd (o : List Int) : o = (List.range o.length).map (fun (i : Nat) => rd o (i : Int)) := by
  apply List.ext_getElem
  · simp
  · intro i h1 h2
    simp [rd, List.getD_eq_getElem?_getD, List.getElem?_eq_getElem h1]
theorem ext_rd {o p : List Int} (hl : o.length = p.length) (h : ∀ i : Nat, i < o.length → rd o (i : Int) = rd p (i : Int)) : o = p := by
  rw [list_rd o, list_rd p, hl]
  apply List.map_congr_left
  intro i hi
  exact h i (by have := List.mem_range.1 hi; omega)
def noteE (e : S25) (now : List Int) : S25 := ⟨e.f0, (List.range e.f1.length).map (fun (k : Nat) => rd now (e.f0 + (k : Int)))⟩
def notes : List S25 → List Int → List S25
  | [], _ => []
  | e :: t, now => noteE e now :: notes t (undo_back1 e now)
def finals : List S25 → List Int → List Int
  | [], now => now
  | e :: t, now => finals t (undo_back1 e now)
def hits (e : S25) (i : Int) : Prop := 0 ≤ i - e.f0 ∧ i - e.f0 < (e.f1.length : Int)
theorem note_len (e : S25) (now : List Int) : (noteE e now).f1.length = e.f1.length := by simp [noteE]
theorem note_hit (e : S25) (now : List Int) (i : Int) (h : hits e i) : hitE (noteE e now) i = some (rd now i) := by
  have e1 : (noteE e now).f0 = e.f0 := rfl
  unfold hitE
  rw [note_len, e1]
  rw [if_pos (show 0 ≤ i - e.f0 ∧ i - e.f0 < (e.f1.length : Int) from h)]
  obtain ⟨h1, h2⟩ := h
  obtain ⟨j, hj⟩ := Int.eq_ofNat_of_zero_le h1
  rw [hj]
  have hjl : j < e.f1.length := by omega
  have e2 : rd (noteE e now).f1 (j : Int) = rd now (e.f0 + (j : Int)) := by
    simp [noteE, rd, List.getD_eq_getElem?_getD, hjl]
  rw [e2, show e.f0 + (j : Int) = i by omega]
theorem note_miss (e : S25) (now : List Int) (i : Int) (h : ¬ hits e i) : hitE (noteE e now) i = none := by
  unfold hitE
  rw [note_len]
  exact if_neg h
theorem hit_miss (e : S25) (i : Int) (h : ¬ hits e i) : hitE e i = none := if_neg h
theorem near_note {e : S25} {now : List Int} (h : nearE e) : nearE (noteE e now) := ⟨h.1, h.2.1, by rw [note_len]; exact h.2.2⟩
theorem notes_near : ∀ (l : List S25) (now : List Int), (∀ e ∈ l, nearE e) → ∀ x ∈ notes l now, nearE x
  | [], _, _, x, hx => by simp [notes] at hx
  | e :: t, now, h, x, hx => by
    rcases List.mem_cons.1 hx with rfl | hx
    · exact near_note (h e (by simp))
    · exact notes_near t _ (fun y hy => h y (List.mem_cons_of_mem _ hy)) x hx
theorem notes_len : ∀ (l : List S25) (now : List Int), (notes l now).length = l.length
  | [], _ => rfl
  | e :: t, now => by rw [notes, List.length_cons, List.length_cons, notes_len t]
theorem finals_len : ∀ (l : List S25) (now : List Int), (finals l now).length = now.length
  | [], _ => rfl
  | e :: t, now => by rw [finals, finals_len t, back1_len]
theorem notes_app (e : S25) : ∀ (p : List S25) (now : List Int), notes (p ++ [e]) now = notes p now ++ [noteE e (finals p now)]
  | [], _ => rfl
  | x :: p, now => by rw [List.cons_append, notes, notes, finals, notes_app e p]; rfl
theorem finals_app (e : S25) : ∀ (p : List S25) (now : List Int), finals (p ++ [e]) now = undo_back1 e (finals p now)
  | [], _ => rfl
  | x :: p, now => by rw [List.cons_append, finals, finals, finals_app e p]
theorem finals_rd (i : Nat) : ∀ (l : List S25) (now : List Int), i < now.length → (∀ e ∈ l, nearE e) → (∀ e ∈ l, ¬ hits e (i : Int)) → rd (finals l now) (i : Int) = rd now (i : Int)
  | [], _, _, _, _ => rfl
  | e :: t, now, hi, hn, hm => by
    rw [finals, finals_rd i t _ (by rw [back1_len]; exact hi) (fun y hy => hn y (List.mem_cons_of_mem _ hy)) (fun y hy => hm y (List.mem_cons_of_mem _ hy)), back1_rd e (hn e (by simp)) now i hi, hit_miss e _ (hm e (by simp))]
    rfl
theorem notes_rd (o : List Int) (i : Nat) (ho : i < o.length) : ∀ (l : List S25) (now : List Int), i < now.length → (∀ e ∈ l, nearE e) →
    ((∃ e ∈ l, hits e (i : Int)) → rd ((notes l now).foldr undo_back1 o) (i : Int) = rd now (i : Int)) ∧ ((∀ e ∈ l, ¬ hits e (i : Int)) → rd ((notes l now).foldr undo_back1 o) (i : Int) = rd o (i : Int))
  | [], _, _, _ => ⟨fun h => (by obtain ⟨e, he, _⟩ := h; cases he), fun _ => rfl⟩
  | e :: t, now, hi, hn => by
    have ih := notes_rd o i ho t (undo_back1 e now) (by rw [back1_len]; exact hi) (fun y hy => hn y (List.mem_cons_of_mem _ hy))
    rw [notes, List.foldr_cons, back1_rd _ (near_note (hn e (by simp))) _ i (by rw [foldr_len]; exact ho)]
    by_cases c : hits e (i : Int)
    · rw [note_hit e now _ c]
      exact ⟨fun _ => rfl, fun h => absurd c (h e (by simp))⟩
    · rw [note_miss e now _ c]
      refine ⟨fun ⟨y, hy, hh⟩ => ?_, fun h => ?_⟩
      · have hy2 : y ∈ t := by
          rcases List.mem_cons.1 hy with rfl | hy
          · exact absurd hh c
          · exact hy
        have h1 := ih.1 ⟨y, hy2, hh⟩
        rw [back1_rd e (hn e (by simp)) now i hi, hit_miss e _ c] at h1
        exact h1
      · exact ih.2 (fun y hy => h y (List.mem_cons_of_mem _ hy))
theorem back_notes (l : List S25) (im o : List Int) (hlen : o.length = im.length) (hn : ∀ e ∈ l, nearE e) (h : ∀ i : Nat, i < im.length → (∀ e ∈ l, ¬ hits e (i : Int)) → rd o (i : Int) = rd im (i : Int)) : (notes l im).foldr undo_back1 o = im := by
  refine ext_rd (by rw [foldr_len]; exact hlen) (fun i hi => ?_)
  rw [foldr_len] at hi
  obtain ⟨h1, h2⟩ := notes_rd o i hi l im (by omega) hn
  by_cases c : ∃ e ∈ l, hits e (i : Int)
  · exact h1 c
  · have c2 : ∀ e ∈ l, ¬ hits e (i : Int) := fun e he hh => c ⟨e, he, hh⟩
    rw [h2 c2]
    exact h i (by omega) c2
def fitsE (n : Nat) (e : S25) : Prop := 0 ≤ e.f0 ∧ e.f0 ≤ 60 ∧ e.f0 + (e.f1.length : Int) ≤ (n : Int)
theorem notes_within (n : Nat) (hn : n ≤ 60) : ∀ (l : List S25) (now : List Int), (∀ e ∈ l, fitsE n e) → (notes l now).any (outB (n : Int)) = false
  | [], _, _ => rfl
  | e :: t, now, h => by
    obtain ⟨h1, h2, h3⟩ := h e (by simp)
    rw [notes, List.any_cons, notes_within n hn t _ (fun y hy => h y (List.mem_cons_of_mem _ hy)), Bool.or_false]
    unfold outB
    rw [note_len, w64 (by omega)]
    have e1 : (noteE e now).f0 = e.f0 := rfl
    rw [e1, decide_eq_false (by omega), decide_eq_false (by omega)]
    rfl

theorem l2_loop (im : List Int) (l : List S25) (b : Bool) (noted : List S25) (now : List Int) (i : Nat) (hi : i < l.length) (hf : fitsE now.length (rd_T25 l (i : Int))) (N : Nat) (R : Bool)
    (hnext : ∀ k, N ≤ k → lockfastlaw13_UndoFirst.l0 k im l b (undo_back1 (rd_T25 l (i : Int)) now) noted ((i + 1 : Nat) : Int) = some R) (hl : l.length ≤ 12) (hs : (rd_T25 l (i : Int)).f1.length ≤ 20) (d : Nat) :
    ∀ (k q : Nat), N + d + 1 ≤ k → q + d = (rd_T25 l (i : Int)).f1.length → lockfastlaw13_UndoFirst.l2 k im l b (undo_backN (rd_T25 l (i : Int)).f0 (rd_T25 l (i : Int)).f1 q now) noted (i : Int) (q : Int) = some R := by
  obtain ⟨f1, f2, f3⟩ := hf
  induction d with
  | zero =>
    intro k q hk hq
    obtain ⟨k, rfl⟩ : ∃ m, k = m + 1 := ⟨k - 1, by omega⟩
    rw [lockfastlaw13_UndoFirst.l2, if_pos (by omega), if_pos (by omega), if_neg (by omega), w64 (by omega), show q = (rd_T25 l (i : Int)).f1.length by omega]
    exact hnext k (by omega)
  | succ d ih =>
    intro k q hk hq
    obtain ⟨k, rfl⟩ : ∃ m, k = m + 1 := ⟨k - 1, by omega⟩
    have hbl := undo_backN_length (rd_T25 l (i : Int)).f0 (rd_T25 l (i : Int)).f1 q now
    rw [lockfastlaw13_UndoFirst.l2, if_pos (by omega), if_pos (by omega), if_pos (by omega), if_pos (by omega), w64 (x := (rd_T25 l (i : Int)).f0 + (q : Int)) (by omega), if_pos (by omega), if_pos (by omega), w64 (by omega)]
    have hb : (undo_backN (rd_T25 l (i : Int)).f0 (rd_T25 l (i : Int)).f1 q now).set ((rd_T25 l (i : Int)).f0 + (q : Int)).toNat (rd (rd_T25 l (i : Int)).f1 (q : Int)) = undo_backN (rd_T25 l (i : Int)).f0 (rd_T25 l (i : Int)).f1 (q + 1) now := by
      rw [undo_backN, w64 (by omega), undo_put_in _ _ _ (by omega) (by omega)]
    rw [hb]
    exact ih k (q + 1) (by omega) (by omega)
theorem l1_loop (im : List Int) (l : List S25) (b : Bool) (noted : List S25) (now : List Int) (i : Nat) (hi : i < l.length) (hf : fitsE now.length (rd_T25 l (i : Int))) (N : Nat) (R : Bool) (hnl : noted.length ≤ 12)
    (hnext : ∀ k, N ≤ k → lockfastlaw13_UndoFirst.l2 k im l b now (noted ++ [noteE (rd_T25 l (i : Int)) now]) (i : Int) 0 = some R) (hs : (rd_T25 l (i : Int)).f1.length ≤ 20) (d : Nat) :
    ∀ (k q : Nat), N + d + 1 ≤ k → q + d = (rd_T25 l (i : Int)).f1.length → lockfastlaw13_UndoFirst.l1 k im l b now noted (i : Int) (q : Int) (rd_T25 l (i : Int)).f0 ((List.range q).map (fun (k : Nat) => rd now ((rd_T25 l (i : Int)).f0 + (k : Int)))) = some R := by
  obtain ⟨f1, f2, f3⟩ := hf
  induction d with
  | zero =>
    intro k q hk hq
    obtain ⟨k, rfl⟩ : ∃ m, k = m + 1 := ⟨k - 1, by omega⟩
    rw [lockfastlaw13_UndoFirst.l1, if_pos (by omega), if_pos (by omega), if_neg (by omega), if_pos (by omega), show q = (rd_T25 l (i : Int)).f1.length by omega]
    exact hnext k (by omega)
  | succ d ih =>
    intro k q hk hq
    obtain ⟨k, rfl⟩ : ∃ m, k = m + 1 := ⟨k - 1, by omega⟩
    rw [lockfastlaw13_UndoFirst.l1, if_pos (by omega), if_pos (by omega), if_pos (by omega), w64 (x := (rd_T25 l (i : Int)).f0 + (q : Int)) (by omega), if_pos (by omega), if_pos (by omega), if_pos (by simp; omega), w64 (by omega)]
    have hr : (List.range q).map (fun (k : Nat) => rd now ((rd_T25 l (i : Int)).f0 + (k : Int))) ++ [rd now ((rd_T25 l (i : Int)).f0 + (q : Int))] = (List.range (q + 1)).map (fun (k : Nat) => rd now ((rd_T25 l (i : Int)).f0 + (k : Int))) := by simp [List.range_succ]
    rw [hr]
    exact ih k (q + 1) (by omega) (by omega)
theorem first_loop (im : List Int) (h1 : im.length ≤ 60) (l : List S25) (hl : l.length ≤ 12) (hb : ∀ x ∈ l, x.f1.length ≤ 20) (d : Nat) : ∀ (k i : Nat), 100 * d + 400 ≤ k → i + d = l.length → (∀ e ∈ l.take i, fitsE im.length e) →
    lockfastlaw13_UndoFirst.l0 k im l true (finals (l.take i) im) (notes (l.take i) im) (i : Int) = some true := by
  induction d with
  | zero =>
    intro k i hk hi hf
    obtain ⟨k, rfl⟩ : ∃ m, k = m + 1 := ⟨k - 1, by omega⟩
    rw [List.take_of_length_le (by omega)] at hf ⊢
    have hn : ∀ e ∈ l, nearE e := fun e he => ⟨by have := (hf e he).1; omega, by have := (hf e he).2.1; omega, hb e he⟩
    have hfl := finals_len l im
    have hnl := notes_len l im
    have hb1 : (notes l im).foldr undo_back1 (finals l im) = im := back_notes l im _ hfl hn (fun i hi hm => finals_rd i l im hi hn hm)
    have hb2 : (notes l im).foldr undo_back1 im = im := back_notes l im im rfl hn (fun _ _ _ => rfl)
    have hback : ∀ o : List Int, o.length = im.length → undo_Back.f o (notes l im) = some ((notes l im).foldr undo_back1 o) := fun o ho => by unfold undo_Back.f; rw [if_pos (by omega), if_pos (by omega)]
    have hwi : undo_Within.f (notes l im) (im.length : Int) = some true := by
      unfold undo_Within.f
      rw [notes_within im.length h1 l im hf]
      rfl
    rw [lockfastlaw13_UndoFirst.l0, if_neg (by omega), hback _ hfl, Option.bind_some, if_pos rfl, hb1, words_refl k _ (by omega) (by omega), Option.bind_some, if_pos rfl, hback im rfl, Option.bind_some, hb2, words_refl k _ (by omega) (by omega), Option.bind_some, if_pos rfl, hwi, Option.bind_some]
  | succ d ih =>
    intro k i hk hi hf
    obtain ⟨k, rfl⟩ : ∃ m, k = m + 2 := ⟨k - 2, by omega⟩
    have hi' : i < l.length := by omega
    have hmem : rd_T25 l (i : Int) ∈ l := by rw [rd_T_at l i hi']; exact List.getElem_mem hi'
    have hs := hb _ hmem
    have hj : lockfastlaw13_UndoFirst.j2 (k + 1) im l true (finals (l.take i) im) (notes (l.take i) im) (i : Int) true = some true := by rw [lockfastlaw13_UndoFirst.j2, if_pos rfl]
    rw [lockfastlaw13_UndoFirst.l0, if_pos (by omega), if_pos (by omega)]
    by_cases c1 : (rd_T25 l (i : Int)).f0 < 0
    · rw [if_pos c1]; exact hj
    rw [if_neg c1]
    by_cases c2 : (rd_T25 l (i : Int)).f0 > 60
    · rw [if_pos c2]; exact hj
    rw [if_neg c2, w64 (by omega)]
    by_cases c3 : (rd_T25 l (i : Int)).f0 + ((rd_T25 l (i : Int)).f1.length : Int) > (im.length : Int)
    · rw [decide_eq_true c3]; exact hj
    rw [decide_eq_false c3, lockfastlaw13_UndoFirst.j2, if_neg (by decide), if_pos (by omega), if_pos (by omega)]
    have hfit : fitsE im.length (rd_T25 l (i : Int)) := ⟨by omega, by omega, by omega⟩
    have hfl := finals_len (l.take i) im
    have hnl := notes_len (l.take i) im
    rw [List.length_take] at hnl
    have ht : l.take (i + 1) = l.take i ++ [rd_T25 l (i : Int)] := by rw [List.take_succ_eq_append_getElem hi', rd_T_at l i hi']
    have hnext : ∀ k, 100 * d + 400 ≤ k → lockfastlaw13_UndoFirst.l0 k im l true (undo_back1 (rd_T25 l (i : Int)) (finals (l.take i) im)) (notes (l.take i) im ++ [noteE (rd_T25 l (i : Int)) (finals (l.take i) im)]) ((i + 1 : Nat) : Int) = some true := fun k' hk' => by
      have := ih k' (i + 1) hk' (by omega) (fun e he => by
        rw [ht] at he
        rcases List.mem_append.1 he with h | h
        · exact hf e h
        · rw [List.mem_singleton.1 h]; exact hfit)
      rwa [ht, finals_app, notes_app] at this
    refine l1_loop im l true _ _ i hi' (by rw [hfl]; exact hfit) (100 * d + 425) true (by omega) (fun k' hk' => ?_) hs (rd_T25 l (i : Int)).f1.length k 0 (by omega) (by omega)
    exact l2_loop im l true _ _ i hi' (by rw [hfl]; exact hfit) (100 * d + 400) true hnext hl hs (rd_T25 l (i : Int)).f1.length k' 0 (by omega) (by omega)
theorem UndoFirst : lockfastlaw13_UndoFirst.Pure := by
  intro l0 l1 _ _ _ hm _
  obtain ⟨K, hK⟩ : ∃ K, K = l1.length + 3000 := ⟨_, rfl⟩
  refine ⟨K, ?_⟩
  have hj : lockfastlaw13_UndoFirst.j0 K l0 l1 true true = some true := by
    obtain ⟨K, rfl⟩ : ∃ j, K = j + 1 := ⟨K - 1, by omega⟩
    rw [lockfastlaw13_UndoFirst.j0, if_pos rfl]
  unfold lockfastlaw13_UndoFirst.f
  rw [show lockfastlaw13_awake.f = some true from rfl, Option.bind_some, few_val _ l1 (by simpa [maxLen] using hm) (by omega), Option.bind_some]
  by_cases c0 : (l0.length : Int) = 0
  · rw [if_pos c0]; exact hj
  rw [if_neg c0]
  by_cases c1 : (l0.length : Int) > 60
  · rw [if_pos c1]; exact hj
  rw [if_neg c1]
  by_cases c : fewB l1 = true
  · obtain ⟨h1, h2⟩ := fewB_spec c
    rw [c]
    obtain ⟨K, rfl⟩ : ∃ j, K = j + 1 := ⟨K - 1, by omega⟩
    rw [lockfastlaw13_UndoFirst.j0, if_neg (by decide), Option.bind_some, List.nil_append, if_pos (by simp; omega)]
    exact first_loop l0 (by omega) l1 h1 h2 l1.length K 0 (by omega) (by omega) (by simp)
  · rw [Bool.eq_false_iff.2 c]
    exact hj

end Go.Proofs.Ytinbediigibolaa.Pure
