/- Operations that turn unlike bits. -/
import Derived.Test.YtnoclgnlmkpkbaaPRedoApartx7
import Derived.Test.YtnoclgnlmkpkbaaCrcMath
import Derived.OpenShut
namespace Go.Proofs.Ytnoclgnlmkpkbaa.Pure
open Go.RowKit Go.Proofs.YtnoclgnlmkpkbaaX Go.Proofs.Ytnoclgnlmkpkbaa.PRedoApart Go.Proofs.YtnoclgnlmkpkbaaW.PrintWords Go.Proofs.YtnoclgnlmkpkbaaW.PrintLast Go.Proofs.YtnoclgnlmkpkbaaW.PrintMore

theorem words_wf {l : List Int} (h : ∀ x ∈ l, (Lit.int .u64 x).wf = true) : Words l := fun x hx => by
  have := bounds_u64 (h x hx)
  omega
theorem w64 {x : Int} (h : -9223372036854775808 ≤ x ∧ x ≤ 9223372036854775807) : wrap64 x = x := by unfold wrap64; omega
theorem words_nil : Words [] := fun x hx => by simp at hx
theorem words_app {l m : List Int} (hl : Words l) (hm : Words m) : Words (l ++ m) := fun x hx => by
  rcases List.mem_append.mp hx with h | h
  · exact hl x h
  · exact hm x h
theorem words_one {x : Int} (h0 : 0 ≤ x) (h1 : x < 18446744073709551616) : Words [x] := fun y hy => by
  have : y = x := by simpa using hy
  omega
theorem words_take {l : List Int} (hl : Words l) (n : Nat) : Words (l.take n) := fun x hx => hl x (List.mem_of_mem_take hx)
theorem words_drop {l : List Int} (hl : Words l) (n : Nat) : Words (l.drop n) := fun x hx => hl x (List.mem_of_mem_drop hx)
theorem more_nat {s : Nat} {l : List Int} (hl : Words l) (h : s < 4294967296) : seal_More.f (s : Int) l = some ((nmore s l : Nat) : Int) := congrArg some (crcMore_nat s l hl h)
theorem of_nat {l : List Int} (hl : Words l) : seal_Of.f l = some ((nmore 0 l : Nat) : Int) := by
  unfold seal_Of.f
  rw [show (0 : Int) = ((0 : Nat) : Int) from rfl, more_nat hl (by decide)]
  rfl
theorem seal_eq {l : List Int} (hl : Words l) (hs : l.length ≤ 1000) : seal_Seal.f l = some (l ++ [((nmore 0 l : Nat) : Int)]) := by
  unfold seal_Seal.f
  have hc := nmore_lt 0 l hl (by decide)
  rw [if_pos (by omega), show crcMore 0 l = ((nmore 0 l : Nat) : Int) from crcMore_nat 0 l hl (by decide), IntKind.wrap_u64, Int.emod_eq_of_lt (by omega) (by omega)]
theorem open_nil : seal_Open.f [] = some ([], false) := by
  unfold seal_Open.f
  rw [if_pos (by simp [wrap64])]
theorem open_eq {l : List Int} (x : Int) (hl : Words l) (hs : l.length ≤ 1000) : seal_Open.f (l ++ [x]) = some (if x = ((nmore 0 l : Nat) : Int) then (l, true) else ([], false)) := by
  unfold seal_Open.f
  have e : wrap64 (((l ++ [x]).length : Int) - 1) = (l.length : Int) := by
    rw [w64 (by simp; omega)]
    simp
  have hc := nmore_lt 0 l hl (by decide)
  rw [e, if_neg (by omega), if_pos (by omega), if_pos (by simp; omega), if_pos (by simp; omega), Int.toNat_natCast, List.take_left, of_nat hl]
  simp only [Option.bind_some]
  rw [show rd (l ++ [x]) (l.length : Int) = x from by simp [rd], IntKind.wrap_u64, Int.emod_eq_of_lt (by omega) (by omega)]
  by_cases c : x = ((nmore 0 l : Nat) : Int)
  · rw [if_pos c, if_pos c, if_pos (by simp; omega)]; rfl
  · rw [if_neg c, if_neg c]
theorem words_loop (l m : List Int) (hlen : l.length = m.length) (hs : l.length ≤ 1000) (d : Nat) : ∀ (k i : Nat), d + 1 ≤ k → i + d = l.length → lockfastref01_Words.l0 k l m (i : Int) = some (decide (l.drop i = m.drop i)) := by
  induction d with
  | zero =>
    intro k i hk hi
    obtain ⟨k, rfl⟩ : ∃ k', k = k' + 1 := ⟨k - 1, by omega⟩
    simp only [lockfastref01_Words.l0]
    rw [if_neg (by omega), List.drop_eq_nil_of_le (by omega), List.drop_eq_nil_of_le (by omega)]
    simp
  | succ d ih =>
    intro k i hk hi
    obtain ⟨k, rfl⟩ : ∃ k', k = k' + 1 := ⟨k - 1, by omega⟩
    have h1 : l.drop i = rd l (i : Int) :: l.drop (i + 1) := by
      rw [List.drop_eq_getElem_cons (by omega)]
      simp [rd, show i < l.length from by omega]
    have h2 : m.drop i = rd m (i : Int) :: m.drop (i + 1) := by
      rw [List.drop_eq_getElem_cons (by omega)]
      simp [rd, show i < m.length from by omega]
    simp only [lockfastref01_Words.l0]
    rw [if_pos (by omega), if_pos (by omega), if_pos (by omega), h1, h2]
    by_cases e : rd l (i : Int) = rd m (i : Int)
    · rw [if_pos e, e, w64 (by omega), show (i : Int) + 1 = ((i + 1 : Nat) : Int) from rfl, ih k (i + 1) (by omega) (by omega)]
      simp
    · rw [if_neg e]
      simp [e]
theorem wordsf_eq (k : Nat) (l m : List Int) (hs : l.length ≤ 1000) (hk : l.length + 1 ≤ k) : lockfastref01_Words.f k l m = some (decide (l = m)) := by
  unfold lockfastref01_Words.f
  by_cases e : l.length = m.length
  · rw [if_pos (by omega)]
    have h := words_loop l m e hs l.length k 0 (by omega) (by omega)
    simpa using h
  · rw [if_neg (by omega)]
    have : l ≠ m := fun h => e (by rw [h])
    simp [this]
theorem rd_in (l : List Int) (i : Nat) (h : i < l.length) : rd l (i : Int) ∈ l := by
  simp [rd, h]
/-- A bit of a number of 32, as the law asks for it. -/
def maskA (x : S38) : Nat := if x.f0 = 0 then 0 else if x.f0 = 2 then x.f2.toNat else 18446744073709551615
def maskB (x : S38) : Nat := if x.f0 = 0 ∨ x.f0 = 1 then x.f2.toNat else 0
def doN (n : Nat) (x : S38) : Nat := (n &&& maskA x) ||| maskB x
theorem and_ones (n : Nat) (hn : n < 18446744073709551616) : n &&& 18446744073709551615 = n := by
  have := Nat.and_two_pow_sub_one_eq_mod n 64
  rw [show (2 ^ 64 - 1 : Nat) = 18446744073709551615 by decide, show (2 ^ 64 : Nat) = 18446744073709551616 by decide, Nat.mod_eq_of_lt hn] at this
  exact this
theorem maskB_lt (x : S38) (h : 0 ≤ x.f2 ∧ x.f2 < 18446744073709551616) : maskB x < 18446744073709551616 := by unfold maskB; split <;> omega
theorem doN_lt (n : Nat) (hn : n < 18446744073709551616) (x : S38) (h : 0 ≤ x.f2 ∧ x.f2 < 18446744073709551616) : doN n x < 18446744073709551616 :=
  Nat.or_lt_two_pow (n := 64) (Nat.lt_of_le_of_lt Nat.and_le_left hn) (maskB_lt x h)
theorem do_eq (n : Nat) (hn : n < 18446744073709551616) (x : S38) (h : 0 ≤ x.f2 ∧ x.f2 < 18446744073709551616) : redo_Do.f (n : Int) x.f0 x.f1 x.f2 = some ((doN n x : Nat) : Int) := by
  obtain ⟨v, hv⟩ := Int.eq_ofNat_of_zero_le h.1
  have hv64 : v < 18446744073709551616 := by omega
  unfold redo_Do.f doN maskA maskB
  rw [hv, Int.toNat_natCast]
  by_cases c0 : x.f0 = 0
  · rw [if_pos c0, if_pos c0, if_pos (Or.inl c0)]; unfold redo_value_set.f; simp
  by_cases c1 : x.f0 = 1
  · rw [if_neg c0, if_pos c1, if_neg c0, if_neg (by omega), if_pos (Or.inr c1), and_ones n hn]; unfold redo_value_or.f; rw [u64_or_nat n v hn hv64]
  by_cases c2 : x.f0 = 2
  · rw [if_neg c0, if_neg c1, if_pos c2, if_neg c0, if_pos c2, if_neg (by omega)]; unfold redo_value_and.f; rw [u64_and_nat n v hn hv64]; simp
  · rw [if_neg c0, if_neg c1, if_neg c2, if_neg c0, if_neg c2, if_neg (by omega), and_ones n hn]; simp
def stepL (img : List Int) (x : S38) : List Int := if 0 ≤ x.f1 ∧ x.f1 < (img.length : Int) then img.set x.f1.toNat ((doN (rd img x.f1).toNat x : Nat) : Int) else img
theorem step_len (img : List Int) (x : S38) : (stepL img x).length = img.length := by unfold stepL; split <;> simp
theorem fold_len (l : List S38) : ∀ img, (l.foldl stepL img).length = img.length := by
  induction l with
  | nil => intro img; rfl
  | cons x t ih => intro img; rw [List.foldl_cons, ih, step_len]
theorem step_words (img : List Int) (x : S38) (hw : Words img) (h : 0 ≤ x.f2 ∧ x.f2 < 18446744073709551616) : Words (stepL img x) := by
  unfold stepL
  split
  · rename_i c
    intro y hy
    rcases List.mem_or_eq_of_mem_set hy with hy | rfl
    · exact hw y hy
    · have hm : rd img x.f1 ∈ img := by
        have := rd_in img x.f1.toNat (by omega)
        rwa [Int.toNat_of_nonneg c.1] at this
      have h1 := hw _ hm
      have h2 := doN_lt (rd img x.f1).toNat (by omega) x h
      omega
  · exact hw
theorem fold_words (l : List S38) (h : ∀ x ∈ l, 0 ≤ x.f2 ∧ x.f2 < 18446744073709551616) : ∀ img, Words img → Words (l.foldl stepL img) := by
  induction l with
  | nil => intro img hw; exact hw
  | cons x t ih => intro img hw; rw [List.foldl_cons]; exact ih (fun y hy => h y (by simp [hy])) _ (step_words img x hw (h x (by simp)))
theorem rd_T_drop' (l : List S38) (i : Nat) (h : i < l.length) : l.drop i = rd_T38 l (i : Int) :: l.drop (i + 1) := by
  rw [List.drop_eq_getElem_cons h]
  simp [rd_T38, List.getD_eq_getElem?_getD, List.getElem?_eq_getElem h]
theorem rd_T_mem' (l : List S38) (i : Nat) (h : i < l.length) : rd_T38 l (i : Int) ∈ l := by
  have : rd_T38 l (i : Int) = l[i] := by simp [rd_T38, List.getD_eq_getElem?_getD, List.getElem?_eq_getElem h]
  rw [this]; exact List.getElem_mem h
theorem within_one (x : S38) (n : Int) : redo_Within.f [x] n = some (decide (0 ≤ x.f1 ∧ x.f1 < n)) := by
  unfold redo_Within.f outB
  by_cases c1 : x.f1 < 0 <;> by_cases c2 : n ≤ x.f1 <;> simp [c1, c2] <;> omega
theorem apply_loop (l : List S38) (hl : l.length ≤ 1000) (h : ∀ x ∈ l, 0 ≤ x.f2 ∧ x.f2 < 18446744073709551616) (d : Nat) : ∀ (k i : Nat) (img : List Int), d + 1 ≤ k → i + d = l.length → Words img → img.length ≤ 1000 →
    redo_Apply.l0 k img l (l.length : Int) (i : Int) = some ((l.drop i).foldl stepL img) := by
  induction d with
  | zero =>
    intro k i img hk hi _ _
    obtain ⟨k, rfl⟩ : ∃ j, k = j + 1 := ⟨k - 1, by omega⟩
    rw [redo_Apply.l0, if_neg (by omega), List.drop_eq_nil_of_le (by omega)]; rfl
  | succ d ih =>
    intro k i img hk hi hw hs
    obtain ⟨k, rfl⟩ : ∃ j, k = j + 1 := ⟨k - 1, by omega⟩
    have hlt : i < l.length := by omega
    have hx := h _ (rd_T_mem' l i hlt)
    rw [redo_Apply.l0, if_pos (by omega), if_pos (by omega), if_pos (by omega), within_one, Option.bind_some, rd_T_drop' l i hlt, List.foldl_cons, w64 (by omega)]
    by_cases c : 0 ≤ (rd_T38 l (i : Int)).f1 ∧ (rd_T38 l (i : Int)).f1 < (img.length : Int)
    · have hm : rd img (rd_T38 l (i : Int)).f1 ∈ img := by
        have := rd_in img (rd_T38 l (i : Int)).f1.toNat (by omega)
        rwa [Int.toNat_of_nonneg c.1] at this
      obtain ⟨n, hn⟩ := Int.eq_ofNat_of_zero_le (hw _ hm).1
      have hn64 : n < 18446744073709551616 := by have := (hw _ hm).2; omega
      have hst : stepL img (rd_T38 l (i : Int)) = img.set (rd_T38 l (i : Int)).f1.toNat ((doN n (rd_T38 l (i : Int)) : Nat) : Int) := by
        unfold stepL; rw [if_pos c, hn, Int.toNat_natCast]
      rw [decide_eq_true (by exact c), if_pos rfl, if_pos c.1, if_pos c.2, hn, do_eq n hn64 _ hx, Option.bind_some, ← hst]
      exact ih k (i + 1) _ (by omega) (by omega) (step_words _ _ hw hx) (by rw [step_len]; exact hs)
    · have hst : stepL img (rd_T38 l (i : Int)) = img := by unfold stepL; rw [if_neg c]
      rw [decide_eq_false (by exact c), if_neg (by decide), hst]
      exact ih k (i + 1) _ (by omega) (by omega) hw hs
theorem apply_eq (k : Nat) (img : List Int) (l : List S38) (hl : l.length ≤ 1000) (h : ∀ x ∈ l, 0 ≤ x.f2 ∧ x.f2 < 18446744073709551616) (hw : Words img) (hs : img.length ≤ 1000) (hk : l.length + 1 ≤ k) : redo_Apply.f k img l = some (l.foldl stepL img) := by
  unfold redo_Apply.f slices_Clone_uint64_uint64.f
  rw [if_pos (by omega), Option.bind_some]
  exact apply_loop l hl h l.length k 0 img (by omega) (by omega) hw hs
/-- What the operations do with the word at a place. -/
def runC (p : Int) (l : List S38) (n : Nat) : Nat := l.foldl (fun n x => if x.f1 = p then doN n x else n) n
theorem rd_set (img : List Int) (i j : Nat) (v : Int) (hj : j < img.length) : rd (img.set j v) (i : Int) = if i = j then v else rd img (i : Int) := by
  simp only [rd, Int.toNat_natCast, List.getD_eq_getElem?_getD, List.getElem?_set]
  by_cases c : j = i
  · subst c; simp [hj]
  · rw [if_neg c, if_neg (by omega)]
theorem fold_cell (p : Nat) (l : List S38) (h : ∀ x ∈ l, 0 ≤ x.f2 ∧ x.f2 < 18446744073709551616) : ∀ img, Words img → p < img.length → rd (l.foldl stepL img) (p : Int) = ((runC (p : Int) l (rd img (p : Int)).toNat : Nat) : Int) := by
  induction l with
  | nil =>
    intro img hw hp
    have := (hw _ (rd_in img p hp)).1
    show rd img (p : Int) = (((rd img (p : Int)).toNat : Nat) : Int)
    omega
  | cons x t ih =>
    intro img hw hp
    rw [List.foldl_cons, ih (fun y hy => h y (by simp [hy])) _ (step_words img x hw (h x (by simp))) (by rw [step_len]; exact hp)]
    congr 1
    show runC (p : Int) t _ = t.foldl _ (if x.f1 = (p : Int) then doN (rd img (p : Int)).toNat x else (rd img (p : Int)).toNat)
    unfold runC
    congr 1
    unfold stepL
    by_cases c : 0 ≤ x.f1 ∧ x.f1 < (img.length : Int)
    · rw [if_pos c, rd_set _ _ _ _ (by omega)]
      by_cases e : x.f1 = (p : Int)
      · rw [if_pos e, if_pos (by omega), e, Int.toNat_natCast]
      · rw [if_neg e, if_neg (by omega)]
    · rw [if_neg c, if_neg (by omega)]
theorem run_mask (p : Int) (l : List S38) (h : ∀ x ∈ l, 0 ≤ x.f2 ∧ x.f2 < 18446744073709551616) : ∃ A B, ∀ n, n < 18446744073709551616 → runC p l n = (n &&& A) ||| B := by
  induction l with
  | nil => exact ⟨18446744073709551615, 0, fun n hn => by rw [and_ones n hn, Nat.or_zero]; rfl⟩
  | cons x t ih =>
    obtain ⟨A, B, hAB⟩ := ih (fun y hy => h y (by simp [hy]))
    by_cases e : x.f1 = p
    · refine ⟨maskA x &&& A, (maskB x &&& A) ||| B, fun n hn => ?_⟩
      have h1 : runC p (x :: t) n = runC p t (doN n x) := by unfold runC; rw [List.foldl_cons, if_pos e]
      rw [h1, hAB _ (doN_lt n hn x (h x (by simp)))]
      unfold doN
      apply Nat.eq_of_testBit_eq
      intro j
      simp only [Nat.testBit_or, Nat.testBit_and]
      cases n.testBit j <;> cases (maskA x).testBit j <;> cases (maskB x).testBit j <;> cases A.testBit j <;> cases B.testBit j <;> rfl
    · exact ⟨A, B, fun n hn => by
        have h1 : runC p (x :: t) n = runC p t n := by unfold runC; rw [List.foldl_cons, if_neg e]
        rw [h1, hAB n hn]⟩
theorem run_lt (p : Int) (l : List S38) (h : ∀ x ∈ l, 0 ≤ x.f2 ∧ x.f2 < 18446744073709551616) : ∀ n, n < 18446744073709551616 → runC p l n < 18446744073709551616 := by
  induction l with
  | nil => intro n hn; exact hn
  | cons x t ih =>
    intro n hn
    unfold runC
    rw [List.foldl_cons]
    refine ih (fun y hy => h y (by simp [hy])) _ ?_
    split
    · exact doN_lt n hn x (h x (by simp))
    · exact hn
theorem run_idem (p : Int) (l : List S38) (h : ∀ x ∈ l, 0 ≤ x.f2 ∧ x.f2 < 18446744073709551616) (n : Nat) (hn : n < 18446744073709551616) : runC p l (runC p l n) = runC p l n := by
  obtain ⟨A, B, hAB⟩ := run_mask p l h
  rw [hAB _ (run_lt p l h n hn), hAB n hn]
  apply Nat.eq_of_testBit_eq
  intro j
  simp only [Nat.testBit_or, Nat.testBit_and]
  cases n.testBit j <;> cases A.testBit j <;> cases B.testBit j <;> rfl
theorem ext_rd (a b : List Int) (hl : a.length = b.length) (h : ∀ p : Nat, p < a.length → rd a (p : Int) = rd b (p : Int)) : a = b := by
  refine List.ext_getElem hl fun i h1 h2 => ?_
  have := h i h1
  simpa [rd, List.getD_eq_getElem?_getD, List.getElem?_eq_getElem h1, List.getElem?_eq_getElem h2] using this
theorem fold_idem (l : List S38) (h : ∀ x ∈ l, 0 ≤ x.f2 ∧ x.f2 < 18446744073709551616) (img : List Int) (hw : Words img) : l.foldl stepL (l.foldl stepL img) = l.foldl stepL img := by
  refine ext_rd _ _ (by rw [fold_len]) fun p hp => ?_
  rw [fold_len, fold_len] at hp
  rw [fold_cell p l h _ (fold_words l h img hw) (by rw [fold_len]; exact hp), fold_cell p l h img hw hp, Int.toNat_natCast, run_idem _ l h _ (by have := hw _ (rd_in img p hp); omega)]
theorem shl_one (i : Nat) (hi : i < 64) : shl .u64 1 (i : Int) = ((2 ^ i : Nat) : Int) := by
  have h : 2 ^ i < 2 ^ 64 := Nat.pow_lt_pow_right (by omega) hi
  unfold shl
  rw [Int.toNat_natCast, show min i IntKind.u64.bits = i from by simp only [IntKind.bits]; omega, IntKind.wrap_u64, Int.one_mul, show (2 : Int) ^ i = ((2 ^ i : Nat) : Int) from by simp]
  generalize 2 ^ i = n at h ⊢
  omega
/-- An operation that turns at most the bit j. -/
def Tch (x : S38) (j : Nat) : Prop := (∀ i, (maskB x).testBit i = true → i = j) ∧ (∀ i, i < 64 → i ≠ j → (maskA x).testBit i = true) ∧ 0 ≤ x.f2 ∧ x.f2 < 18446744073709551616
theorem do_comm (n jx jy : Nat) (x y : S38) (hx : Tch x jx) (hy : Tch y jy) (h1 : jx < 64) (h2 : jy < 64) (hne : jx ≠ jy) : doN (doN n x) y = doN (doN n y) x := by
  unfold doN
  apply Nat.eq_of_testBit_eq
  intro i
  simp only [Nat.testBit_or, Nat.testBit_and]
  by_cases cx : i = jx
  · have b1 : (maskB y).testBit i = false := by
      cases hb : (maskB y).testBit i with
      | false => rfl
      | true => exact absurd ((hy.1 i hb).symm.trans cx) (fun e => hne e.symm)
    have a1 : (maskA y).testBit i = true := hy.2.1 i (by omega) (by omega)
    rw [b1, a1]; simp
  · have b1 : (maskB x).testBit i = false := by
      cases hb : (maskB x).testBit i with
      | false => rfl
      | true => exact absurd (hx.1 i hb) cx
    by_cases cy : i = jy
    · have a1 : (maskA x).testBit i = true := hx.2.1 i (by omega) (by omega)
      rw [b1, a1]; simp
    · have b2 : (maskB y).testBit i = false := by
        cases hb : (maskB y).testBit i with
        | false => rfl
        | true => exact absurd (hy.1 i hb) cy
      rw [b1, b2]
      cases n.testBit i <;> cases (maskA x).testBit i <;> cases (maskA y).testBit i <;> rfl
def Low (k : Nat) (x : S38) : Prop := ∃ j, j < k ∧ Tch x j
def High (k : Nat) (x : S38) : Prop := ∃ j, k ≤ j ∧ j < 64 ∧ Tch x j
theorem step_comm (k : Nat) (_ : k ≤ 64) (x y : S38) (hx : Low k x) (hy : High k y) (img : List Int) (hw : Words img) : stepL (stepL img x) y = stepL (stepL img y) x := by
  obtain ⟨jx, hjx, tx⟩ := hx
  obtain ⟨jy, hjy, hjy2, ty⟩ := hy
  refine ext_rd _ _ (by simp only [step_len]) fun p hp => ?_
  simp only [step_len] at hp
  have e1 := fold_cell p [x, y] (fun z hz => by
    simp only [List.mem_cons, List.not_mem_nil, or_false] at hz
    rcases hz with rfl | rfl
    · exact tx.2.2
    · exact ty.2.2) img hw hp
  have e2 := fold_cell p [y, x] (fun z hz => by
    simp only [List.mem_cons, List.not_mem_nil, or_false] at hz
    rcases hz with rfl | rfl
    · exact ty.2.2
    · exact tx.2.2) img hw hp
  simp only [List.foldl_cons, List.foldl_nil] at e1 e2
  rw [e1, e2]
  congr 1
  unfold runC
  simp only [List.foldl_cons, List.foldl_nil]
  by_cases c1 : x.f1 = (p : Int) <;> by_cases c2 : y.f1 = (p : Int) <;> simp only [c1, c2, if_true, if_false]
  exact do_comm _ jx jy x y tx ty (by omega) hjy2 (by omega)
theorem high_val {k : Nat} {y : S38} (h : High k y) : 0 ≤ y.f2 ∧ y.f2 < 18446744073709551616 := by obtain ⟨j, _, _, t⟩ := h; exact t.2.2
theorem low_val {k : Nat} {y : S38} (h : Low k y) : 0 ≤ y.f2 ∧ y.f2 < 18446744073709551616 := by obtain ⟨j, _, t⟩ := h; exact t.2.2
theorem fold_comm1 (k : Nat) (hk : k ≤ 64) (x : S38) (hx : Low k x) (m : List S38) (hm : ∀ y ∈ m, High k y) : ∀ img, Words img → stepL (m.foldl stepL img) x = m.foldl stepL (stepL img x) := by
  induction m with
  | nil => intro img _; rfl
  | cons y t ih =>
    intro img hw
    have hy := hm y (by simp)
    rw [List.foldl_cons, List.foldl_cons, ih (fun z hz => hm z (by simp [hz])) _ (step_words img y hw (high_val hy)), step_comm k hk x y hx hy img hw]
theorem fold_comm (k : Nat) (hk : k ≤ 64) (l m : List S38) (hm : ∀ y ∈ m, High k y) (hl : ∀ x ∈ l, Low k x) : ∀ img, Words img → m.foldl stepL (l.foldl stepL img) = l.foldl stepL (m.foldl stepL img) := by
  induction l with
  | nil => intro img _; rfl
  | cons x t ih =>
    intro img hw
    have hx := hl x (by simp)
    rw [List.foldl_cons, List.foldl_cons, ih (fun z hz => hl z (by simp [hz])) _ (step_words img x hw (low_val hx)), fold_comm1 k hk x hx m hm img hw]
theorem ones_bit (i : Nat) : (18446744073709551615 : Nat).testBit i = decide (i < 64) := by
  have := Nat.testBit_two_pow_sub_one 64 i
  rwa [show (2 ^ 64 - 1 : Nat) = 18446744073709551615 by decide] at this
theorem pow_lt64 (j : Nat) (hj : j < 64) : 2 ^ j < 18446744073709551616 := Nat.pow_lt_pow_right (by omega : 1 < 2) hj
theorem tch_or (j : Nat) (hj : j < 64) (at_ : Int) : Tch ⟨1, at_, ((2 ^ j : Nat) : Int)⟩ j := by
  have hp := pow_lt64 j hj
  refine ⟨fun i hi => ?_, fun i h1 h2 => ?_, Int.natCast_nonneg _, Int.ofNat_lt.2 hp⟩
  · unfold maskB at hi
    rw [if_pos (Or.inr rfl), Int.toNat_natCast, Nat.testBit_two_pow] at hi
    exact (of_decide_eq_true hi).symm
  · unfold maskA
    rw [if_neg (by dsimp only; omega), if_neg (by dsimp only; omega), ones_bit]
    exact decide_eq_true h1
theorem tch_and (j : Nat) (hj : j < 64) (at_ : Int) : Tch ⟨2, at_, ((18446744073709551615 ^^^ 2 ^ j : Nat) : Int)⟩ j := by
  have hp := pow_lt64 j hj
  have hx : 18446744073709551615 ^^^ 2 ^ j < 18446744073709551616 := Nat.xor_lt_two_pow (n := 64) (by decide) hp
  refine ⟨fun i hi => ?_, fun i h1 h2 => ?_, Int.natCast_nonneg _, Int.ofNat_lt.2 hx⟩
  · unfold maskB at hi
    rw [if_neg (by dsimp only; omega)] at hi
    simp at hi
  · unfold maskA
    rw [if_neg (by dsimp only; omega), if_pos rfl, Int.toNat_natCast, Nat.testBit_xor, ones_bit, Nat.testBit_two_pow, decide_eq_true h1, decide_eq_false (fun e => h2 e.symm)]
    rfl
theorem xor_pow (j : Nat) (hj : j < 64) : Go.bits .xor .u64 IntKind.u64.max ((2 ^ j : Nat) : Int) = ((18446744073709551615 ^^^ 2 ^ j : Nat) : Int) := by
  rw [show IntKind.u64.max = ((18446744073709551615 : Nat) : Int) by decide]
  exact u64_xor_nat 18446744073709551615 (2 ^ j) (by decide) (pow_lt64 j hj)
theorem tmod_nat' (a b : Nat) : Int.tmod (a : Int) (b : Int) = ((a % b : Nat) : Int) := by
  rw [Int.tmod_eq_emod_of_nonneg (by omega)]; rfl
theorem apart_end (img a b : List Int) (hs : img.length ≤ 40) (hw : Words img) (kk : Nat) (hk2 : kk ≤ 63) (k : Nat) (l m mx : List S38) (i : Int) (hk : 100 ≤ k)
    (hl : ∀ x ∈ l, Low kk x) (hm : ∀ y ∈ m, High kk y) (hmx : ∀ J, Words J → mx.foldl stepL J = m.foldl stepL (l.foldl stepL J)) (hv : ∀ x ∈ mx, 0 ≤ x.f2 ∧ x.f2 < 18446744073709551616) (l1 : l.length ≤ 30) (l2 : m.length ≤ 30) (l3 : mx.length ≤ 60) :
    lockfastlaw12_RedoApart.j2 (k + 1) img a b true (kk : Int) l m mx i false = some true := by
  have hlv : ∀ x ∈ l, 0 ≤ x.f2 ∧ x.f2 < 18446744073709551616 := fun x hx => low_val (hl x hx)
  have hmv : ∀ x ∈ m, 0 ≤ x.f2 ∧ x.f2 < 18446744073709551616 := fun x hx => high_val (hm x hx)
  have hc := fold_comm kk (by omega) l m hm hl img hw
  rw [lockfastlaw12_RedoApart.j2, if_neg (by decide), apply_eq k img l (by omega) hlv hw (by omega) (by omega), Option.bind_some, apply_eq k _ m (by omega) hmv (fold_words l hlv img hw) (by rw [fold_len]; omega) (by omega), Option.bind_some,
    apply_eq k img m (by omega) hmv hw (by omega) (by omega), Option.bind_some, apply_eq k _ l (by omega) hlv (fold_words m hmv img hw) (by rw [fold_len]; omega) (by omega), Option.bind_some, apply_eq k img mx (by omega) hv hw (by omega) (by omega), Option.bind_some, if_pos rfl, ← hc, hmx img hw,
    wordsf_eq k _ _ (by simp only [fold_len]; omega) (by simp only [fold_len]; omega), Option.bind_some, decide_eq_true rfl, if_pos rfl, Option.bind_some]
theorem apart_loop (img a b : List Int) (h0 : 0 < img.length) (hs : img.length ≤ 40) (hw : Words img) (ha : ∀ x ∈ a, 0 ≤ x ∧ x ≤ 255) (hb : ∀ x ∈ b, 0 ≤ x ∧ x ≤ 255) (la : a.length ≤ 15) (lb : b.length ≤ 15) (kk : Nat) (hk1 : 1 ≤ kk) (hk2 : kk ≤ 63) (d : Nat) : ∀ (k i : Nat) (l m mx : List S38), 3 * d + 300 ≤ k → i + d = max a.length b.length →
    (∀ x ∈ l, Low kk x) → (∀ y ∈ m, High kk y) → (∀ J, Words J → mx.foldl stepL J = m.foldl stepL (l.foldl stepL J)) → (∀ x ∈ mx, 0 ≤ x.f2 ∧ x.f2 < 18446744073709551616) → l.length ≤ i → m.length ≤ i → mx.length ≤ 2 * i →
    lockfastlaw12_RedoApart.l0 k img a b true (kk : Int) l m mx (i : Int) = some true := by
  induction d with
  | zero =>
    intro k i l m mx hk hi hl hm hmx hv l1 l2 l3
    obtain ⟨k, rfl⟩ : ∃ j, k = j + 1 + 1 := ⟨k - 2, by omega⟩
    rw [lockfastlaw12_RedoApart.l0, if_neg (by omega), decide_eq_false (by omega)]
    exact apart_end img a b hs hw kk hk2 k l m mx _ (by omega) hl hm hmx hv (by omega) (by omega) (by omega)
  | succ d ih =>
    intro k i l m mx hk hi hl hm hmx hv l1 l2 l3
    have hor : ¬ (i : Int) < (a.length : Int) → (i : Int) < (b.length : Int) := fun h => by clear ih hl hm hmx hv hk; omega
    obtain ⟨k, rfl⟩ : ∃ j, k = j + 1 + 1 + 1 := ⟨k - 3, by omega⟩
    have hi1 : Aside0 (wrap64 ((i : Int) + 1) = ((i + 1 : Nat) : Int)) := ⟨by rw [w64 (by omega)]; rfl⟩
    have hj3 : ∀ (l m mx : List S38), (∀ x ∈ l, Low kk x) → (∀ y ∈ m, High kk y) → (∀ J, Words J → mx.foldl stepL J = m.foldl stepL (l.foldl stepL J)) → (∀ x ∈ mx, 0 ≤ x.f2 ∧ x.f2 < 18446744073709551616) → l.length ≤ i + 1 → m.length ≤ i → mx.length ≤ 2 * i + 1 →
        lockfastlaw12_RedoApart.j3 (k + 1) img a b true (kk : Int) l m mx (i : Int) = some true := by
      intro l m mx hl hm hmx hv l1 l2 l3
      rw [lockfastlaw12_RedoApart.j3]
      by_cases c : (i : Int) < (b.length : Int)
      · obtain ⟨n, hn⟩ := Int.eq_ofNat_of_zero_le (hb _ (rd_in b i (by omega))).1
        have hn255 : n ≤ 255 := by have := (hb _ (rd_in b i (by omega))).2; omega
        have e0 : Aside0 (wrap64 (64 - (kk : Int)) = ((64 - kk : Nat) : Int)) := ⟨by rw [w64 (by omega)]; omega⟩
        have e1 : Aside0 (Int.tmod (wrap64 (n : Int)) ((64 - kk : Nat) : Int) = ((n % (64 - kk) : Nat) : Int)) := ⟨by rw [w64 (by omega), tmod_nat']⟩
        have e2 : Aside0 (Int.tmod (wrap64 (n : Int)) (img.length : Int) = ((n % img.length : Nat) : Int)) := ⟨by rw [w64 (by omega), tmod_nat']⟩
        have e3 : Int.tmod (n : Int) 3 = ((n % 3 : Nat) : Int) := tmod_nat' n 3
        have hlt : n % (64 - kk) < 64 - kk := Nat.mod_lt _ (by omega)
        have e4 : Aside0 (wrap64 ((kk : Int) + ((n % (64 - kk) : Nat) : Int)) = ((kk + n % (64 - kk) : Nat) : Int)) := ⟨by rw [w64 (by omega)]; rfl⟩
        have hj : kk + n % (64 - kk) < 64 := by omega
        rw [if_pos c, if_pos (by omega), if_neg (by omega), hn, e0.out, if_neg (by omega), e1.out, e2.out, e3, e4.out, if_pos (by omega), shl_one _ hj, xor_pow _ hj, hi1.out]
        have hge : kk ≤ kk + n % (64 - kk) := Nat.le_add_right _ _
        clear e0 e1 e2 e3 e4
        generalize kk + n % (64 - kk) = j at *
        have hnext : ∀ y : S38, High kk y → lockfastlaw12_RedoApart.l0 k img a b true (kk : Int) l (m ++ [y]) (mx ++ [y]) ((i + 1 : Nat) : Int) = some true := fun y hy =>
          ih k (i + 1) l (m ++ [y]) (mx ++ [y]) (by omega) (by omega) hl (fun z hz => by
            rw [List.mem_append, List.mem_singleton] at hz
            rcases hz with hz | rfl
            · exact hm z hz
            · exact hy) (fun J hJ => by rw [List.foldl_append, List.foldl_append, hmx J hJ]) (fun z hz => by
            rw [List.mem_append, List.mem_singleton] at hz
            rcases hz with hz | rfl
            · exact hv z hz
            · exact high_val hy) (by omega) (by simp; omega) (by simp; omega)
        by_cases c3 : ((n % 3 : Nat) : Int) = 0
        · rw [if_pos c3, if_pos (by omega), if_pos (by omega)]
          exact hnext _ ⟨j, by omega, hj, tch_and j hj _⟩
        · rw [if_neg c3, if_pos (by omega), if_pos (by omega)]
          exact hnext _ ⟨j, by omega, hj, tch_or j hj _⟩
      · rw [if_neg c, hi1.out]
        exact ih k (i + 1) l m mx (by omega) (by omega) hl hm hmx hv (by omega) (by omega) (by omega)
    have hj2 : lockfastlaw12_RedoApart.j2 (k + 1 + 1) img a b true (kk : Int) l m mx (i : Int) true = some true := by
      rw [lockfastlaw12_RedoApart.j2, if_pos rfl]
      by_cases c : (i : Int) < (a.length : Int)
      · obtain ⟨n, hn⟩ := Int.eq_ofNat_of_zero_le (ha _ (rd_in a i (by omega))).1
        have hn255 : n ≤ 255 := by have := (ha _ (rd_in a i (by omega))).2; omega
        have e1 : Aside0 (Int.tmod (wrap64 (n : Int)) (kk : Int) = ((n % kk : Nat) : Int)) := ⟨by rw [w64 (by omega), tmod_nat']⟩
        have e2 : Aside0 (Int.tmod (wrap64 (n : Int)) (img.length : Int) = ((n % img.length : Nat) : Int)) := ⟨by rw [w64 (by omega), tmod_nat']⟩
        have e3 : Int.tmod (n : Int) 3 = ((n % 3 : Nat) : Int) := tmod_nat' n 3
        have hlt : n % kk < kk := Nat.mod_lt _ (by omega)
        have hj : n % kk < 64 := by omega
        rw [if_pos c, if_pos (by omega), if_neg (by omega), if_neg (by omega), hn, e1.out, e2.out, e3, if_pos (by omega), shl_one _ hj, xor_pow _ hj]
        clear e1 e2 e3
        generalize n % kk = j at *
        have hnext : ∀ x : S38, Low kk x → lockfastlaw12_RedoApart.j3 (k + 1) img a b true (kk : Int) (l ++ [x]) m (mx ++ [x]) (i : Int) = some true := fun x hx =>
          hj3 (l ++ [x]) m (mx ++ [x]) (fun z hz => by
            rw [List.mem_append, List.mem_singleton] at hz
            rcases hz with hz | rfl
            · exact hl z hz
            · exact hx) hm (fun J hJ => by
              rw [List.foldl_append, List.foldl_append, hmx J hJ]
              exact fold_comm1 kk (by omega) x hx m hm _ (fold_words l (fun z hz => low_val (hl z hz)) J hJ)) (fun z hz => by
            rw [List.mem_append, List.mem_singleton] at hz
            rcases hz with hz | rfl
            · exact hv z hz
            · exact low_val hx) (by simp; omega) (by omega) (by simp; omega)
        by_cases c3 : ((n % 3 : Nat) : Int) = 0
        · rw [if_pos c3, if_pos (by omega), if_pos (by omega)]
          exact hnext _ ⟨j, hlt, tch_and j hj _⟩
        · rw [if_neg c3, if_pos (by omega), if_pos (by omega)]
          exact hnext _ ⟨j, hlt, tch_or j hj _⟩
      · rw [if_neg c]
        exact hj3 l m mx hl hm hmx hv (by omega) l2 (by omega)
    rw [lockfastlaw12_RedoApart.l0]
    by_cases c : (i : Int) < (a.length : Int)
    · rw [if_pos c]; exact hj2
    · rw [if_neg c, decide_eq_true (hor c)]; exact hj2
theorem awake_true : lockfastlaw12_awake.f 3000 = some true := by decide +kernel
theorem RedoApart : lockfastlaw12_RedoApart.Pure := by
  intro l0 l1 l2 a3 _ _ hw0 _ _ hw1 _ _ hw2 ha3
  refine ⟨3000, ?_⟩
  have hw := words_wf hw0
  have hb : 0 ≤ a3 ∧ a3 ≤ 255 := bounds_u8 ha3
  unfold lockfastlaw12_RedoApart.f
  rw [awake_true, Option.bind_some]
  have hj : lockfastlaw12_RedoApart.j0 3000 l0 l1 l2 a3 true true = some true := by
    show lockfastlaw12_RedoApart.j0 (2999 + 1) _ _ _ _ _ _ = _
    rw [lockfastlaw12_RedoApart.j0, if_pos rfl]
  by_cases c0 : (l0.length : Int) = 0
  · rw [if_pos c0]; exact hj
  rw [if_neg c0]
  by_cases c1 : (l0.length : Int) > 40
  · rw [if_pos c1]; exact hj
  rw [if_neg c1]
  by_cases c2 : (l1.length : Int) > 15
  · rw [if_pos c2]; exact hj
  rw [if_neg c2]
  by_cases c3 : (l2.length : Int) > 15
  · rw [decide_eq_true c3]; exact hj
  rw [decide_eq_false c3]
  show lockfastlaw12_RedoApart.j0 (2999 + 1) _ _ _ _ _ _ = _
  obtain ⟨c, rfl⟩ := Int.eq_ofNat_of_zero_le hb.1
  have e1 : wrap64 (1 + wrap64 (Int.tmod (c : Int) 63)) = ((1 + c % 63 : Nat) : Int) := by
    rw [show Int.tmod (c : Int) 63 = ((c % 63 : Nat) : Int) from tmod_nat' c 63, w64 (x := ((c % 63 : Nat) : Int)) (by omega), w64 (by omega)]
    rfl
  rw [lockfastlaw12_RedoApart.j0, if_neg (by decide), e1]
  exact apart_loop l0 l1 l2 (by omega) (by omega) hw (fun x hx => bounds_u8 (hw1 x hx)) (fun x hx => bounds_u8 (hw2 x hx)) (by omega) (by omega) (1 + c % 63) (by omega) (by omega) (max l1.length l2.length) 2999 0 [] [] [] (by omega) (by omega) (fun x hx => by simp at hx) (fun x hx => by simp at hx) (fun J _ => rfl) (fun x hx => by simp at hx) (by simp) (by simp) (by simp)

end Go.Proofs.Ytnoclgnlmkpkbaa.Pure
