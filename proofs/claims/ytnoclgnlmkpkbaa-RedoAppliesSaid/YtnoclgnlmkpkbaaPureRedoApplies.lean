/- What operations do. -/
import Derived.Test.YtnoclgnlmkpkbaaPRedoAppliesx8
import Derived.Test.YtnoclgnlmkpkbaaCrcMath
import Derived.OpenShut
namespace Go.Proofs.Ytnoclgnlmkpkbaa.Pure
open Go.RowKit Go.Proofs.YtnoclgnlmkpkbaaX Go.Proofs.Ytnoclgnlmkpkbaa.PRedoApplies Go.Proofs.YtnoclgnlmkpkbaaW.PrintWords Go.Proofs.YtnoclgnlmkpkbaaW.PrintLast Go.Proofs.YtnoclgnlmkpkbaaW.PrintMore

theorem words_wf {l : List Int} (h : ∀ x ∈ l, (Lit.int .u64 x).wf = true) : Words l := fun x hx => by
  have := bounds_u64 (h x hx)
  omega
theorem w64 {x : Int} (h : -9223372036854775808 ≤ x ∧ x ≤ 9223372036854775807) : wrap64 x = x := by unfold wrap64; omega
theorem words_nil : Words [] := fun x hx => by simp at hx
theorem words_app {l m : List Int} (hl : Words l) (hm : Words m) : Words (l ++ m) := fun x hx => by
  rcases List.mem_append.mp hx with h | h
  · exact hl x h
  · exact hm x h
theorem words_one {x : Int} (h0 : 0 ≤ x) (h1 : x < 18446744073709551616) : Words [x] := fun y hy => by
  have : y = x := by simpa using hy
  omega
theorem words_take {l : List Int} (hl : Words l) (n : Nat) : Words (l.take n) := fun x hx => hl x (List.mem_of_mem_take hx)
theorem words_drop {l : List Int} (hl : Words l) (n : Nat) : Words (l.drop n) := fun x hx => hl x (List.mem_of_mem_drop hx)
theorem more_nat {s : Nat} {l : List Int} (hl : Words l) (h : s < 4294967296) : seal_More.f (s : Int) l = some ((nmore s l : Nat) : Int) := congrArg some (crcMore_nat s l hl h)
theorem of_nat {l : List Int} (hl : Words l) : seal_Of.f l = some ((nmore 0 l : Nat) : Int) := by
  unfold seal_Of.f
  rw [show (0 : Int) = ((0 : Nat) : Int) from rfl, more_nat hl (by decide)]
  rfl
theorem seal_eq {l : List Int} (hl : Words l) (hs : l.length ≤ 1000) : seal_Seal.f l = some (l ++ [((nmore 0 l : Nat) : Int)]) := by
  unfold seal_Seal.f
  have hc := nmore_lt 0 l hl (by decide)
  rw [if_pos (by omega), show crcMore 0 l = ((nmore 0 l : Nat) : Int) from crcMore_nat 0 l hl (by decide), IntKind.wrap_u64, Int.emod_eq_of_lt (by omega) (by omega)]
theorem open_nil : seal_Open.f [] = some ([], false) := by
  unfold seal_Open.f
  rw [if_pos (by simp [wrap64])]
theorem open_eq {l : List Int} (x : Int) (hl : Words l) (hs : l.length ≤ 1000) : seal_Open.f (l ++ [x]) = some (if x = ((nmore 0 l : Nat) : Int) then (l, true) else ([], false)) := by
  unfold seal_Open.f
  have e : wrap64 (((l ++ [x]).length : Int) - 1) = (l.length : Int) := by
    rw [w64 (by simp; omega)]
    simp
  have hc := nmore_lt 0 l hl (by decide)
  rw [e, if_neg (by omega), if_pos (by omega), if_pos (by simp; omega), if_pos (by simp; omega), Int.toNat_natCast, List.take_left, of_nat hl]
  simp only [Option.bind_some]
  rw [show rd (l ++ [x]) (l.length : Int) = x from by simp [rd], IntKind.wrap_u64, Int.emod_eq_of_lt (by omega) (by omega)]
  by_cases c : x = ((nmore 0 l : Nat) : Int)
  · rw [if_pos c, if_pos c, if_pos (by simp; omega)]; rfl
  · rw [if_neg c, if_neg c]
theorem words_loop (l m : List Int) (hlen : l.length = m.length) (hs : l.length ≤ 1000) (d : Nat) : ∀ (k i : Nat), d + 1 ≤ k → i + d = l.length → lockfastref01_Words.l0 k l m (i : Int) = some (decide (l.drop i = m.drop i)) := by
  induction d with
  | zero =>
    intro k i hk hi
    obtain ⟨k, rfl⟩ : ∃ k', k = k' + 1 := ⟨k - 1, by omega⟩
    simp only [lockfastref01_Words.l0]
    rw [if_neg (by omega), List.drop_eq_nil_of_le (by omega), List.drop_eq_nil_of_le (by omega)]
    simp
  | succ d ih =>
    intro k i hk hi
    obtain ⟨k, rfl⟩ : ∃ k', k = k' + 1 := ⟨k - 1, by omega⟩
    have h1 : l.drop i = rd l (i : Int) :: l.drop (i + 1) := by
      rw [List.drop_eq_getElem_cons (by omega)]
      simp [rd, show i < l.length from by omega]
    have h2 : m.drop i = rd m (i : Int) :: m.drop (i + 1) := by
      rw [List.drop_eq_getElem_cons (by omega)]
      simp [rd, show i < m.length from by omega]
    simp only [lockfastref01_Words.l0]
    rw [if_pos (by omega), if_pos (by omega), if_pos (by omega), h1, h2]
    by_cases e : rd l (i : Int) = rd m (i : Int)
    · rw [if_pos e, e, w64 (by omega), show (i : Int) + 1 = ((i + 1 : Nat) : Int) from rfl, ih k (i + 1) (by omega) (by omega)]
      simp
    · rw [if_neg e]
      simp [e]
theorem wordsf_eq (k : Nat) (l m : List Int) (hs : l.length ≤ 1000) (hk : l.length + 1 ≤ k) : lockfastref01_Words.f k l m = some (decide (l = m)) := by
  unfold lockfastref01_Words.f
  by_cases e : l.length = m.length
  · rw [if_pos (by omega)]
    have h := words_loop l m e hs l.length k 0 (by omega) (by omega)
    simpa using h
  · rw [if_neg (by omega)]
    have : l ≠ m := fun h => e (by rw [h])
    simp [this]
theorem rd_in (l : List Int) (i : Nat) (h : i < l.length) : rd l (i : Int) ∈ l := by
  simp [rd, h]
/-- A bit of a number of 32, as the law asks for it. -/
theorem tdiv_nat (a b : Nat) : Int.tdiv (a : Int) (b : Int) = ((a / b : Nat) : Int) := by
  rw [Int.tdiv_eq_ediv_of_nonneg (by omega)]; rfl
theorem bit_loop (d : Nat) : ∀ (k i w : Nat) (n : Int), d + 1 ≤ k → n = (i : Int) + d → i + d ≤ 1000 → w < 18446744073709551616 → lockfastref01_Bit.l0 k (w : Int) n (i : Int) = some (w.testBit d) := by
  induction d with
  | zero =>
    intro k i w n hk hn hs hw
    obtain ⟨k, rfl⟩ : ∃ k', k = k' + 1 := ⟨k - 1, by omega⟩
    simp only [lockfastref01_Bit.l0]
    rw [if_neg (by omega), Int.tmod_eq_emod_of_nonneg (by omega), Nat.testBit_zero]
    congr 1
    rcases Nat.mod_two_eq_zero_or_one w with e | e
    · rw [show (w : Int) % 2 = 0 from by omega, e]; rfl
    · rw [show (w : Int) % 2 = 1 from by omega, e]; rfl
  | succ d ih =>
    intro k i w n hk hn hs hw
    obtain ⟨k, rfl⟩ : ∃ k', k = k' + 1 := ⟨k - 1, by omega⟩
    simp only [lockfastref01_Bit.l0]
    rw [if_pos (by omega), show Int.tdiv (w : Int) 2 = ((w / 2 : Nat) : Int) from tdiv_nat w 2, IntKind.wrap_u64, w64 (by omega), show ((w / 2 : Nat) : Int) % 18446744073709551616 = ((w / 2 : Nat) : Int) from by omega, show (i : Int) + 1 = ((i + 1 : Nat) : Int) from rfl, ih k (i + 1) (w / 2) n (by omega) (by omega) (by omega) (by omega), Nat.testBit_add_one]
theorem bitf_eq (k w i : Nat) (hk : i + 1 ≤ k) (hs : i ≤ 1000) (hw : w < 18446744073709551616) : lockfastref01_Bit.f k (w : Int) (i : Int) = some (w.testBit i) :=
  bit_loop i k 0 w i (by omega) (by omega) (by omega) hw
def maskA (x : S38) : Nat := if x.f0 = 0 then 0 else if x.f0 = 2 then x.f2.toNat else 18446744073709551615
def maskB (x : S38) : Nat := if x.f0 = 0 ∨ x.f0 = 1 then x.f2.toNat else 0
def doN (n : Nat) (x : S38) : Nat := (n &&& maskA x) ||| maskB x
theorem and_ones (n : Nat) (hn : n < 18446744073709551616) : n &&& 18446744073709551615 = n := by
  have := Nat.and_two_pow_sub_one_eq_mod n 64
  rw [show (2 ^ 64 - 1 : Nat) = 18446744073709551615 by decide, show (2 ^ 64 : Nat) = 18446744073709551616 by decide, Nat.mod_eq_of_lt hn] at this
  exact this
theorem maskB_lt (x : S38) (h : 0 ≤ x.f2 ∧ x.f2 < 18446744073709551616) : maskB x < 18446744073709551616 := by unfold maskB; split <;> omega
theorem doN_lt (n : Nat) (hn : n < 18446744073709551616) (x : S38) (h : 0 ≤ x.f2 ∧ x.f2 < 18446744073709551616) : doN n x < 18446744073709551616 :=
  Nat.or_lt_two_pow (n := 64) (Nat.lt_of_le_of_lt Nat.and_le_left hn) (maskB_lt x h)
theorem do_eq (n : Nat) (hn : n < 18446744073709551616) (x : S38) (h : 0 ≤ x.f2 ∧ x.f2 < 18446744073709551616) : redo_Do.f (n : Int) x.f0 x.f1 x.f2 = some ((doN n x : Nat) : Int) := by
  obtain ⟨v, hv⟩ := Int.eq_ofNat_of_zero_le h.1
  have hv64 : v < 18446744073709551616 := by omega
  unfold redo_Do.f doN maskA maskB
  rw [hv, Int.toNat_natCast]
  by_cases c0 : x.f0 = 0
  · rw [if_pos c0, if_pos c0, if_pos (Or.inl c0)]; unfold redo_value_set.f; simp
  by_cases c1 : x.f0 = 1
  · rw [if_neg c0, if_pos c1, if_neg c0, if_neg (by omega), if_pos (Or.inr c1), and_ones n hn]; unfold redo_value_or.f; rw [u64_or_nat n v hn hv64]
  by_cases c2 : x.f0 = 2
  · rw [if_neg c0, if_neg c1, if_pos c2, if_neg c0, if_pos c2, if_neg (by omega)]; unfold redo_value_and.f; rw [u64_and_nat n v hn hv64]; simp
  · rw [if_neg c0, if_neg c1, if_neg c2, if_neg c0, if_neg c2, if_neg (by omega), and_ones n hn]; simp
def stepL (img : List Int) (x : S38) : List Int := if 0 ≤ x.f1 ∧ x.f1 < (img.length : Int) then img.set x.f1.toNat ((doN (rd img x.f1).toNat x : Nat) : Int) else img
theorem step_len (img : List Int) (x : S38) : (stepL img x).length = img.length := by unfold stepL; split <;> simp
theorem fold_len (l : List S38) : ∀ img, (l.foldl stepL img).length = img.length := by
  induction l with
  | nil => intro img; rfl
  | cons x t ih => intro img; rw [List.foldl_cons, ih, step_len]
theorem step_words (img : List Int) (x : S38) (hw : Words img) (h : 0 ≤ x.f2 ∧ x.f2 < 18446744073709551616) : Words (stepL img x) := by
  unfold stepL
  split
  · rename_i c
    intro y hy
    rcases List.mem_or_eq_of_mem_set hy with hy | rfl
    · exact hw y hy
    · have hm : rd img x.f1 ∈ img := by
        have := rd_in img x.f1.toNat (by omega)
        rwa [Int.toNat_of_nonneg c.1] at this
      have h1 := hw _ hm
      have h2 := doN_lt (rd img x.f1).toNat (by omega) x h
      omega
  · exact hw
theorem fold_words (l : List S38) (h : ∀ x ∈ l, 0 ≤ x.f2 ∧ x.f2 < 18446744073709551616) : ∀ img, Words img → Words (l.foldl stepL img) := by
  induction l with
  | nil => intro img hw; exact hw
  | cons x t ih => intro img hw; rw [List.foldl_cons]; exact ih (fun y hy => h y (by simp [hy])) _ (step_words img x hw (h x (by simp)))
theorem rd_T_drop' (l : List S38) (i : Nat) (h : i < l.length) : l.drop i = rd_T38 l (i : Int) :: l.drop (i + 1) := by
  rw [List.drop_eq_getElem_cons h]
  simp [rd_T38, List.getD_eq_getElem?_getD, List.getElem?_eq_getElem h]
theorem rd_T_mem' (l : List S38) (i : Nat) (h : i < l.length) : rd_T38 l (i : Int) ∈ l := by
  have : rd_T38 l (i : Int) = l[i] := by simp [rd_T38, List.getD_eq_getElem?_getD, List.getElem?_eq_getElem h]
  rw [this]; exact List.getElem_mem h
theorem within_one (x : S38) (n : Int) : redo_Within.f [x] n = some (decide (0 ≤ x.f1 ∧ x.f1 < n)) := by
  unfold redo_Within.f outB
  by_cases c1 : x.f1 < 0 <;> by_cases c2 : n ≤ x.f1 <;> simp [c1, c2] <;> omega
theorem apply_loop (l : List S38) (hl : l.length ≤ 1000) (h : ∀ x ∈ l, 0 ≤ x.f2 ∧ x.f2 < 18446744073709551616) (d : Nat) : ∀ (k i : Nat) (img : List Int), d + 1 ≤ k → i + d = l.length → Words img → img.length ≤ 1000 →
    redo_Apply.l0 k img l (l.length : Int) (i : Int) = some ((l.drop i).foldl stepL img) := by
  induction d with
  | zero =>
    intro k i img hk hi _ _
    obtain ⟨k, rfl⟩ : ∃ j, k = j + 1 := ⟨k - 1, by omega⟩
    rw [redo_Apply.l0, if_neg (by omega), List.drop_eq_nil_of_le (by omega)]; rfl
  | succ d ih =>
    intro k i img hk hi hw hs
    obtain ⟨k, rfl⟩ : ∃ j, k = j + 1 := ⟨k - 1, by omega⟩
    have hlt : i < l.length := by omega
    have hx := h _ (rd_T_mem' l i hlt)
    rw [redo_Apply.l0, if_pos (by omega), if_pos (by omega), if_pos (by omega), within_one, Option.bind_some, rd_T_drop' l i hlt, List.foldl_cons, w64 (by omega)]
    by_cases c : 0 ≤ (rd_T38 l (i : Int)).f1 ∧ (rd_T38 l (i : Int)).f1 < (img.length : Int)
    · have hm : rd img (rd_T38 l (i : Int)).f1 ∈ img := by
        have := rd_in img (rd_T38 l (i : Int)).f1.toNat (by omega)
        rwa [Int.toNat_of_nonneg c.1] at this
      obtain ⟨n, hn⟩ := Int.eq_ofNat_of_zero_le (hw _ hm).1
      have hn64 : n < 18446744073709551616 := by have := (hw _ hm).2; omega
      have hst : stepL img (rd_T38 l (i : Int)) = img.set (rd_T38 l (i : Int)).f1.toNat ((doN n (rd_T38 l (i : Int)) : Nat) : Int) := by
        unfold stepL; rw [if_pos c, hn, Int.toNat_natCast]
      rw [decide_eq_true (by exact c), if_pos rfl, if_pos c.1, if_pos c.2, hn, do_eq n hn64 _ hx, Option.bind_some, ← hst]
      exact ih k (i + 1) _ (by omega) (by omega) (step_words _ _ hw hx) (by rw [step_len]; exact hs)
    · have hst : stepL img (rd_T38 l (i : Int)) = img := by unfold stepL; rw [if_neg c]
      rw [decide_eq_false (by exact c), if_neg (by decide), hst]
      exact ih k (i + 1) _ (by omega) (by omega) hw hs
theorem apply_eq (k : Nat) (img : List Int) (l : List S38) (hl : l.length ≤ 1000) (h : ∀ x ∈ l, 0 ≤ x.f2 ∧ x.f2 < 18446744073709551616) (hw : Words img) (hs : img.length ≤ 1000) (hk : l.length + 1 ≤ k) : redo_Apply.f k img l = some (l.foldl stepL img) := by
  unfold redo_Apply.f slices_Clone_uint64_uint64.f
  rw [if_pos (by omega), Option.bind_some]
  exact apply_loop l hl h l.length k 0 img (by omega) (by omega) hw hs
theorem mod_bit (n i : Nat) : n % 2 ^ (i + 1) = n % 2 ^ i + (if n.testBit i = true then 2 ^ i else 0) := by
  rw [Nat.pow_succ, Nat.mod_mul, Nat.testBit_eq_decide_div_mod_eq]
  rcases Nat.mod_two_eq_zero_or_one (n / 2 ^ i) with h | h <;> simp [h]
theorem refdo_loop (w v r : Nat) (f0 f1 : Int) (hw : w < 18446744073709551616) (hv : v < 18446744073709551616) (hr : r < 18446744073709551616)
    (hf : (f0 = 1 ∧ ∀ i, r.testBit i = (w.testBit i || v.testBit i)) ∨ (f0 = 2 ∧ ∀ i, r.testBit i = (w.testBit i && v.testBit i))) (d : Nat) : ∀ (k i : Nat), d + 100 ≤ k → i + d = 64 →
    lockfastref12_Do.l0 k (w : Int) ((r % 2 ^ i : Nat) : Int) ((2 ^ i % 18446744073709551616 : Nat) : Int) (i : Int) f0 f1 (v : Int) = some (r : Int) := by
  induction d with
  | zero =>
    intro k i hk hi
    obtain ⟨k, rfl⟩ : ∃ j, k = j + 1 := ⟨k - 1, by omega⟩
    obtain rfl : i = 64 := by omega
    rw [lockfastref12_Do.l0, if_neg (by omega), Nat.mod_eq_of_lt hr]
  | succ d ih =>
    intro k i hk hi
    obtain ⟨k, rfl⟩ : ∃ j, k = j + 1 := ⟨k - 1, by omega⟩
    have g1 : (i : Int) < 64 := by omega
    have g2 : i + 1 ≤ k := by omega
    have g3 : i ≤ 1000 := by omega
    have hi1 : wrap64 ((i : Int) + 1) = ((i + 1 : Nat) : Int) := by rw [w64 (by omega)]; rfl
    have hnext := ih k (i + 1) (by omega) (by omega)
    have hm := mod_bit r i
    have hle : 2 ^ (i + 1) ≤ 2 ^ 64 := Nat.pow_le_pow_right (by omega) (by omega)
    rw [Nat.pow_succ] at hle
    have hlt := Nat.mod_lt r (Nat.two_pow_pos i)
    have hw2 : IntKind.u64.wrap (2 * ((2 ^ i % 18446744073709551616 : Nat) : Int)) = ((2 ^ (i + 1) % 18446744073709551616 : Nat) : Int) := by
      rw [IntKind.wrap_u64, Nat.pow_succ]
      generalize 2 ^ i = P at *
      omega
    have hadd : r.testBit i = true → IntKind.u64.wrap (((r % 2 ^ i : Nat) : Int) + ((2 ^ i % 18446744073709551616 : Nat) : Int)) = ((r % 2 ^ (i + 1) : Nat) : Int) := fun hb => by
      rw [hm, if_pos hb, IntKind.wrap_u64]
      generalize r % 2 ^ i = R at *
      generalize 2 ^ i = P at *
      omega
    have hno : r.testBit i = false → ((r % 2 ^ i : Nat) : Int) = ((r % 2 ^ (i + 1) : Nat) : Int) := fun hb => by
      rw [hm, hb, if_neg (by decide), Nat.add_zero]
    rw [lockfastref12_Do.l0, if_pos g1, bitf_eq k w i g2 g3 hw, Option.bind_some, bitf_eq k v i g2 g3 hv, Option.bind_some, hw2, hi1]
    rcases hf with ⟨rfl, hbit⟩ | ⟨rfl, hbit⟩
    · have hb := hbit i
      rw [if_pos rfl]
      cases hwb : w.testBit i with
      | true => rw [if_pos rfl, hadd (by rw [hb, hwb]; rfl)]; exact hnext
      | false =>
        rw [if_neg (by decide)]
        cases hvb : v.testBit i with
        | true => rw [if_pos rfl, hadd (by rw [hb, hwb, hvb]; rfl)]; exact hnext
        | false => rw [if_neg (by decide), if_neg (by decide), hno (by rw [hb, hwb, hvb]; rfl)]; exact hnext
    · have hb := hbit i
      rw [if_neg (by decide), if_pos rfl]
      cases hwb : w.testBit i with
      | true =>
        rw [if_pos rfl]
        cases hvb : v.testBit i with
        | true => rw [if_pos rfl, hadd (by rw [hb, hwb, hvb]; rfl)]; exact hnext
        | false => rw [if_neg (by decide), hno (by rw [hb, hwb, hvb]; rfl)]; exact hnext
      | false => rw [if_neg (by decide), hno (by rw [hb, hwb]; rfl)]; exact hnext
theorem refdo_eq (k n : Nat) (hn : n < 18446744073709551616) (x : S38) (h : 0 ≤ x.f2 ∧ x.f2 < 18446744073709551616) (hk : 200 ≤ k) : lockfastref12_Do.f k (n : Int) x.f0 x.f1 x.f2 = some ((doN n x : Nat) : Int) := by
  obtain ⟨k, rfl⟩ : ∃ j, k = j + 1 := ⟨k - 1, by omega⟩
  have hlt := doN_lt n hn x h
  obtain ⟨v, hv⟩ := Int.eq_ofNat_of_zero_le h.1
  have hv64 : v < 18446744073709551616 := by omega
  unfold lockfastref12_Do.f
  rw [hv]
  by_cases c0 : x.f0 = 0
  · rw [if_pos c0]
    unfold doN maskA maskB
    rw [if_pos c0, if_pos (Or.inl c0), hv, Int.toNat_natCast]
    simp
  have e0 : ∀ r : Nat, ((r % 2 ^ 0 : Nat) : Int) = 0 := fun r => by rw [Nat.pow_zero, Nat.mod_one]; rfl
  by_cases c1 : x.f0 = 1
  · have hd : doN n x = n ||| v := by
      unfold doN maskA maskB
      rw [if_neg c0, if_neg (by omega), if_pos (Or.inr c1), hv, Int.toNat_natCast, and_ones n hn]
    rw [if_neg c0, if_pos c1, lockfastref12_Do.j0, if_neg (by decide)]
    have hl := refdo_loop n v (doN n x) x.f0 x.f1 hn hv64 hlt (Or.inl ⟨c1, fun i => by rw [hd, Nat.testBit_or]⟩) 64 k 0 (by omega) (by omega)
    rw [e0] at hl
    exact hl
  by_cases c2 : x.f0 = 2
  · have hd : doN n x = n &&& v := by
      unfold doN maskA maskB
      rw [if_neg c0, if_pos c2, if_neg (by omega), hv, Int.toNat_natCast, Nat.or_zero]
    rw [if_neg c0, if_neg c1, lockfastref12_Do.j0, c2, bne_self_eq_false, if_neg (by decide)]
    have hl := refdo_loop n v (doN n x) x.f0 x.f1 hn hv64 hlt (Or.inr ⟨c2, fun i => by rw [hd, Nat.testBit_and]⟩) 64 k 0 (by omega) (by omega)
    rw [e0, c2] at hl
    exact hl
  · have hd : doN n x = n := by
      unfold doN maskA maskB
      rw [if_neg c0, if_neg c2, if_neg (by omega), and_ones n hn, Nat.or_zero]
    rw [if_neg c0, if_neg c1, lockfastref12_Do.j0, show (x.f0 != 2) = true by rw [bne_iff_ne]; exact c2, if_pos rfl, hd]
theorem refapply_loop (l : List S38) (hl : l.length ≤ 1000) (h : ∀ x ∈ l, 0 ≤ x.f2 ∧ x.f2 < 18446744073709551616) (d : Nat) : ∀ (k i : Nat) (img : List Int), d + 300 ≤ k → i + d = l.length → Words img → img.length ≤ 1000 →
    lockfastref12_Apply.l0 k l img (i : Int) = some ((l.drop i).foldl stepL img) := by
  induction d with
  | zero =>
    intro k i img hk hi _ _
    obtain ⟨k, rfl⟩ : ∃ j, k = j + 1 := ⟨k - 1, by omega⟩
    rw [lockfastref12_Apply.l0, if_neg (by omega), List.drop_eq_nil_of_le (by omega)]; rfl
  | succ d ih =>
    intro k i img hk hi hw hs
    obtain ⟨k, rfl⟩ : ∃ j, k = j + 1 := ⟨k - 1, by omega⟩
    have hlt : i < l.length := by omega
    have hx := h _ (rd_T_mem' l i hlt)
    rw [lockfastref12_Apply.l0, if_pos (by omega), if_pos (by omega), rd_T_drop' l i hlt, List.foldl_cons, w64 (by omega)]
    by_cases c : 0 ≤ (rd_T38 l (i : Int)).f1 ∧ (rd_T38 l (i : Int)).f1 < (img.length : Int)
    · have hm : rd img (rd_T38 l (i : Int)).f1 ∈ img := by
        have := rd_in img (rd_T38 l (i : Int)).f1.toNat (by omega)
        rwa [Int.toNat_of_nonneg c.1] at this
      obtain ⟨n, hn⟩ := Int.eq_ofNat_of_zero_le (hw _ hm).1
      have hn64 : n < 18446744073709551616 := by have := (hw _ hm).2; omega
      have hst : stepL img (rd_T38 l (i : Int)) = img.set (rd_T38 l (i : Int)).f1.toNat ((doN n (rd_T38 l (i : Int)) : Nat) : Int) := by
        unfold stepL; rw [if_pos c, hn, Int.toNat_natCast]
      rw [if_pos c.1, if_pos c.2, if_pos c.1, hn, refdo_eq k n hn64 _ hx (by omega), Option.bind_some, ← hst]
      exact ih k (i + 1) _ (by omega) (by omega) (step_words _ _ hw hx) (by rw [step_len]; exact hs)
    · have hst : stepL img (rd_T38 l (i : Int)) = img := by unfold stepL; rw [if_neg c]
      have hn := ih k (i + 1) img (by omega) (by omega) hw hs
      rw [hst]
      by_cases c1 : (rd_T38 l (i : Int)).f1 ≥ 0
      · rw [if_pos c1, if_neg (by omega)]; exact hn
      · rw [if_neg c1]; exact hn
theorem refapply_eq (k : Nat) (img : List Int) (l : List S38) (hl : l.length ≤ 1000) (h : ∀ x ∈ l, 0 ≤ x.f2 ∧ x.f2 < 18446744073709551616) (hw : Words img) (hs : img.length ≤ 1000) (hk : 1300 ≤ k) : lockfastref12_Apply.f k img l = some (l.foldl stepL img) := by
  unfold lockfastref12_Apply.f
  rw [Option.bind_some, if_pos (by simp; omega), List.nil_append]
  exact refapply_loop l hl h l.length k 0 img (by omega) (by omega) hw hs
def inB (n : Int) (x : S38) : Bool := decide (0 ≤ x.f1 ∧ x.f1 < n)
theorem within_val (l : List S38) (n : Int) : redo_Within.f l n = some (l.all (inB n)) := by
  unfold redo_Within.f
  rw [List.not_any_eq_all_not]
  congr 2
  funext x
  unfold outB inB
  by_cases c1 : x.f1 < 0 <;> by_cases c2 : n ≤ x.f1 <;> simp [c1, c2] <;> omega
theorem refwithin_loop (l : List S38) (hl : l.length ≤ 1000) (n : Int) (d : Nat) : ∀ (k i : Nat), d + 1 ≤ k → i + d = l.length → lockfastref12_Within.l0 k l n (i : Int) = some ((l.drop i).all (inB n)) := by
  induction d with
  | zero =>
    intro k i hk hi
    obtain ⟨k, rfl⟩ : ∃ j, k = j + 1 := ⟨k - 1, by omega⟩
    rw [lockfastref12_Within.l0, if_neg (by omega), List.drop_eq_nil_of_le (by omega)]; rfl
  | succ d ih =>
    intro k i hk hi
    obtain ⟨k, rfl⟩ : ∃ j, k = j + 1 := ⟨k - 1, by omega⟩
    have hlt : i < l.length := by omega
    rw [lockfastref12_Within.l0, if_pos (by omega), if_pos (by omega), rd_T_drop' l i hlt, List.all_cons, w64 (by omega)]
    by_cases c1 : (rd_T38 l (i : Int)).f1 < 0
    · rw [if_pos c1, show inB n (rd_T38 l (i : Int)) = false from decide_eq_false (by omega), Bool.false_and]
    · by_cases c2 : n ≤ (rd_T38 l (i : Int)).f1
      · rw [if_neg c1, if_pos c2, show inB n (rd_T38 l (i : Int)) = false from decide_eq_false (by omega), Bool.false_and]
      · rw [if_neg c1, if_neg c2, show inB n (rd_T38 l (i : Int)) = true from decide_eq_true (by omega), Bool.true_and]
        exact ih k (i + 1) (by omega) (by omega)
theorem vals_of {l : List S38} (h : ∀ x ∈ l, (Lit.int .i64 x.f0).wf = true ∧ (Lit.int .i64 x.f1).wf = true ∧ (Lit.int .u64 x.f2).wf = true) : ∀ x ∈ l, 0 ≤ x.f2 ∧ x.f2 < 18446744073709551616 := fun x hx => by
  have := bounds_u64 (h x hx).2.2
  omega
theorem awake_true : lockfastlaw12_awake.f 3000 = some true := by decide +kernel
theorem RedoApplies : lockfastlaw12_RedoApplies.Pure := by
  intro l0 l1 a2 a3_0 a3_1 a3_2 a4 _ _ hw0 _ hwf ha2 _ _ ha32 _
  refine ⟨3000, ?_⟩
  have h := vals_of hwf
  have hw := words_wf hw0
  have hb2 : 0 ≤ a2 ∧ a2 ≤ 18446744073709551615 := bounds_u64 ha2
  have hb3 : 0 ≤ a3_2 ∧ a3_2 ≤ 18446744073709551615 := bounds_u64 ha32
  unfold lockfastlaw12_RedoApplies.f
  rw [awake_true, Option.bind_some]
  have hj : lockfastlaw12_RedoApplies.j0 3000 l0 l1 a2 a4 true true a3_0 a3_1 a3_2 = some true := by
    show lockfastlaw12_RedoApplies.j0 (2999 + 1) _ _ _ _ _ _ _ _ _ = _
    rw [lockfastlaw12_RedoApplies.j0, if_pos rfl]
  by_cases c0 : (l0.length : Int) > 40
  · rw [if_pos c0]; exact hj
  rw [if_neg c0]
  by_cases c1 : (l1.length : Int) > 30
  · rw [decide_eq_true c1]; exact hj
  rw [decide_eq_false c1]
  show lockfastlaw12_RedoApplies.j0 (2999 + 1) _ _ _ _ _ _ _ _ _ = _
  obtain ⟨n, rfl⟩ := Int.eq_ofNat_of_zero_le hb2.1
  have hd := do_eq n (by omega) ⟨a3_0, a3_1, a3_2⟩ ⟨hb3.1, by show a3_2 < _; omega⟩
  have hrd := refdo_eq 2999 n (by omega) ⟨a3_0, a3_1, a3_2⟩ ⟨hb3.1, by show a3_2 < _; omega⟩ (by omega)
  dsimp only at hd hrd
  have hin := refwithin_loop l1 (by omega) a4 l1.length 2999 0 (by omega) (by omega)
  rw [lockfastlaw12_RedoApplies.j0, if_neg (by decide), if_pos rfl, apply_eq 2999 l0 l1 (by omega) h hw (by omega) (by omega), Option.bind_some, refapply_eq 2999 l0 l1 (by omega) h hw (by omega) (by omega), Option.bind_some, wordsf_eq 2999 _ _ (by rw [fold_len]; omega) (by rw [fold_len]; omega), Option.bind_some, decide_eq_true rfl, if_pos rfl, hd, Option.bind_some, hrd, Option.bind_some, if_pos rfl, within_val, Option.bind_some]
  unfold lockfastref12_Within.f
  rw [show (0 : Int) = ((0 : Nat) : Int) from rfl, hin, Option.bind_some, List.drop_zero, beq_self_eq_true]

end Go.Proofs.Ytnoclgnlmkpkbaa.Pure
