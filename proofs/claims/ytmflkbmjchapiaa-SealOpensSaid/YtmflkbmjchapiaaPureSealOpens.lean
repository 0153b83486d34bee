/- What is opened is what stands ahead of its own check sum; what is sealed is opened. -/
import Derived.Test.YtmflkbmjchapiaaPSealOpensx3
import Derived.Test.YtmflkbmjchapiaaCrcMath
import Derived.OpenShut
namespace Go.Proofs.Ytmflkbmjchapiaa.Pure
open Go.RowKit Go.Proofs.YtmflkbmjchapiaaX Go.Proofs.Ytmflkbmjchapiaa.PSealOpens Go.Proofs.YtmflkbmjchapiaaW.PrintWords Go.Proofs.YtmflkbmjchapiaaW.PrintLast Go.Proofs.YtmflkbmjchapiaaW.PrintMore

theorem words_wf {l : List Int} (h : ∀ x ∈ l, (Lit.int .u64 x).wf = true) : Words l := fun x hx => by
  have := bounds_u64 (h x hx)
  omega
theorem w64 {x : Int} (h : -9223372036854775808 ≤ x ∧ x ≤ 9223372036854775807) : wrap64 x = x := by unfold wrap64; omega
theorem words_nil : Words [] := fun x hx => by simp at hx
theorem words_app {l m : List Int} (hl : Words l) (hm : Words m) : Words (l ++ m) := fun x hx => by
  rcases List.mem_append.mp hx with h | h
  · exact hl x h
  · exact hm x h
theorem words_one {x : Int} (h0 : 0 ≤ x) (h1 : x < 18446744073709551616) : Words [x] := fun y hy => by
  have : y = x := by simpa using hy
  omega
theorem words_take {l : List Int} (hl : Words l) (n : Nat) : Words (l.take n) := fun x hx => hl x (List.mem_of_mem_take hx)
theorem words_drop {l : List Int} (hl : Words l) (n : Nat) : Words (l.drop n) := fun x hx => hl x (List.mem_of_mem_drop hx)
theorem more_nat {s : Nat} {l : List Int} (hl : Words l) (h : s < 4294967296) : seal_More.f (s : Int) l = some ((nmore s l : Nat) : Int) := congrArg some (crcMore_nat s l hl h)
theorem of_nat {l : List Int} (hl : Words l) : seal_Of.f l = some ((nmore 0 l : Nat) : Int) := by
  unfold seal_Of.f
  rw [show (0 : Int) = ((0 : Nat) : Int) from rfl, more_nat hl (by decide)]
  rfl
theorem seal_eq {l : List Int} (hl : Words l) (hs : l.length ≤ 1000) : seal_Seal.f l = some (l ++ [((nmore 0 l : Nat) : Int)]) := by
  unfold seal_Seal.f
  have hc := nmore_lt 0 l hl (by decide)
  rw [if_pos (by omega), show crcMore 0 l = ((nmore 0 l : Nat) : Int) from crcMore_nat 0 l hl (by decide), IntKind.wrap_u64, Int.emod_eq_of_lt (by omega) (by omega)]
theorem open_nil : seal_Open.f [] = some ([], false) := by
  unfold seal_Open.f
  rw [if_pos (by simp [wrap64])]
theorem open_eq {l : List Int} (x : Int) (hl : Words l) (hs : l.length ≤ 1000) : seal_Open.f (l ++ [x]) = some (if x = ((nmore 0 l : Nat) : Int) then (l, true) else ([], false)) := by
  unfold seal_Open.f
  have e : wrap64 (((l ++ [x]).length : Int) - 1) = (l.length : Int) := by
    rw [w64 (by simp; omega)]
    simp
  have hc := nmore_lt 0 l hl (by decide)
  rw [e, if_neg (by omega), if_pos (by omega), if_pos (by simp; omega), if_pos (by simp; omega), Int.toNat_natCast, List.take_left, of_nat hl]
  simp only [Option.bind_some]
  rw [show rd (l ++ [x]) (l.length : Int) = x from by simp [rd], IntKind.wrap_u64, Int.emod_eq_of_lt (by omega) (by omega)]
  by_cases c : x = ((nmore 0 l : Nat) : Int)
  · rw [if_pos c, if_pos c, if_pos (by simp; omega)]; rfl
  · rw [if_neg c, if_neg c]
theorem nmore_seven : nmore 0 [7] = 1877464688 := by decide +kernel
theorem nmore_nought : nmore 0 [0] = 1696784233 := by decide +kernel
theorem nmore_nil : nmore 0 [] = 0 := by decide +kernel
theorem awake_true : lockfastlaw02_awake.f = some true := by
  unfold lockfastlaw02_awake.f
  rw [seal_eq (words_one (by decide) (by decide)) (by decide)]
  simp only [Option.bind_some]
  rw [open_eq _ (words_one (by decide) (by decide)) (by decide), of_nat words_nil, of_nat (words_one (by decide) (by decide)), nmore_nought, nmore_nil, if_pos rfl]
  rfl
theorem tdiv_nat (a b : Nat) : Int.tdiv (a : Int) (b : Int) = ((a / b : Nat) : Int) := by
  rw [Int.tdiv_eq_ediv_of_nonneg (by omega)]; rfl
theorem tmod_nat (a b : Nat) : Int.tmod (a : Int) (b : Int) = ((a % b : Nat) : Int) := by
  rw [Int.tmod_eq_emod_of_nonneg (by omega)]; rfl
theorem bit_xor (a b i : Nat) : (a ^^^ b) / 2 ^ i % 2 = (a / 2 ^ i % 2 + b / 2 ^ i % 2) % 2 := by
  rw [← Nat.shiftRight_eq_div_pow, Nat.shiftRight_xor_distrib, xor_mod2, Nat.shiftRight_eq_div_pow, Nat.shiftRight_eq_div_pow]
theorem pow_le_of (i : Nat) (h : i ≤ 31) : 1 ≤ 2 ^ i ∧ 2 ^ i ≤ 2147483648 := ⟨Nat.one_le_two_pow, Nat.le_trans (Nat.pow_le_pow_right (by omega) h) (by decide)⟩
theorem xor_loop (a b : Nat) (ha : a < 4294967296) (hb : b < 4294967296) (d : Nat) : ∀ (k i : Nat), d + 1 ≤ k → i + d = 32 → lockfastref02_xor.l0 k (a : Int) (b : Int) (((a ^^^ b) % 2 ^ i : Nat) : Int) ((2 ^ min i 31 : Nat) : Int) (i : Int) = some ((a ^^^ b : Nat) : Int) := by
  induction d with
  | zero =>
    intro k i hk hi
    obtain ⟨k, rfl⟩ : ∃ k', k = k' + 1 := ⟨k - 1, by omega⟩
    obtain rfl : i = 32 := by omega
    have hx : a ^^^ b < 2 ^ 32 := Nat.xor_lt_two_pow ha hb
    simp only [lockfastref02_xor.l0]
    rw [if_neg (by decide), Nat.mod_eq_of_lt hx]
  | succ d ih =>
    intro k i hk hi
    obtain ⟨k, rfl⟩ : ∃ k', k = k' + 1 := ⟨k - 1, by omega⟩
    have hp := pow_le_of i (by omega)
    have ha2 : a / 2 ^ i < 4294967296 := Nat.lt_of_le_of_lt (Nat.div_le_self _ _) ha
    have hb2 : b / 2 ^ i < 4294967296 := Nat.lt_of_le_of_lt (Nat.div_le_self _ _) hb
    have hx := bit_xor a b i
    have hs : (a ^^^ b) % 2 ^ (i + 1) = (a ^^^ b) % 2 ^ i + 2 ^ i * ((a ^^^ b) / 2 ^ i % 2) := Nat.mod_pow_succ
    have hlt : (a ^^^ b) % 2 ^ i < 2 ^ i := Nat.mod_lt _ (by omega)
    have ih1 := ih k (i + 1) (by omega) (by omega)
    rw [hs] at ih1
    have hm : min i 31 = i := by omega
    simp only [lockfastref02_xor.l0]
    rw [hm, if_pos (by omega), if_neg (by omega), tdiv_nat, tdiv_nat]
    by_cases e : a / 2 ^ i % 2 = b / 2 ^ i % 2
    · rw [if_pos (by omega)]
      have hz : (a ^^^ b) / 2 ^ i % 2 = 0 := by omega
      rw [hz, Nat.mul_zero, Nat.add_zero] at ih1
      by_cases e2 : (i : Int) < 31
      · have hw : min (i + 1) 31 = i + 1 := by omega
        have hp2 := pow_le_of (i + 1) (by omega)
        rw [hw] at ih1
        rw [if_pos e2, w64 (by omega), show ((2 : Int) * ((2 ^ i : Nat) : Int)) % 4294967296 = ((2 ^ (i + 1) : Nat) : Int) from by rw [Nat.pow_succ] at hp2 ⊢; omega]
        exact ih1
      · obtain rfl : i = 31 := by omega
        rw [if_neg e2, w64 (by omega)]
        exact ih1
    · rw [if_neg (by omega)]
      have hz : (a ^^^ b) / 2 ^ i % 2 = 1 := by omega
      rw [hz, Nat.mul_one] at ih1
      have hsum : ((((a ^^^ b) % 2 ^ i : Nat) : Int) + ((2 ^ i : Nat) : Int)) % 4294967296 = (((a ^^^ b) % 2 ^ i + 2 ^ i : Nat) : Int) := by omega
      by_cases e2 : (i : Int) < 31
      · have hw : min (i + 1) 31 = i + 1 := by omega
        have hp2 := pow_le_of (i + 1) (by omega)
        rw [hw] at ih1
        rw [if_pos e2, w64 (by omega), hsum, show ((2 : Int) * ((2 ^ i : Nat) : Int)) % 4294967296 = ((2 ^ (i + 1) : Nat) : Int) from by rw [Nat.pow_succ] at hp2 ⊢; omega]
        exact ih1
      · obtain rfl : i = 31 := by omega
        rw [if_neg e2, w64 (by omega), hsum]
        exact ih1
theorem xor_eq (a b k : Nat) (ha : a < 4294967296) (hb : b < 4294967296) (hk : 40 ≤ k) : lockfastref02_xor.f k (a : Int) (b : Int) = some ((a ^^^ b : Nat) : Int) := by
  have h := xor_loop a b ha hb 32 k 0 (by omega) (by omega)
  rw [Nat.pow_zero, Nat.mod_one] at h
  exact h
theorem on_loop (d : Nat) : ∀ (k i r w : Nat), d + 41 ≤ k → i + d = 64 → r < 4294967296 → w < 2 ^ d → lockfastref02_On.l0 k (r : Int) (w : Int) (i : Int) = some ((nturn d (r ^^^ w) : Nat) : Int) := by
  induction d with
  | zero =>
    intro k i r w hk hi hr hw
    obtain ⟨k, rfl⟩ : ∃ k', k = k' + 1 := ⟨k - 1, by omega⟩
    obtain rfl : i = 64 := by omega
    obtain rfl : w = 0 := by omega
    simp only [lockfastref02_On.l0]
    rw [if_neg (by decide), Nat.xor_zero, nturn_0]
  | succ d ih =>
    intro k i r w hk hi hr hw
    obtain ⟨k, rfl⟩ : ∃ k', k = k' + 1 := ⟨k - 1, by omega⟩
    have hw64 : w < 2 ^ 64 := Nat.lt_of_lt_of_le hw (Nat.pow_le_pow_right (by omega) (by omega))
    have hw2 : w / 2 < 2 ^ d := by rw [Nat.pow_succ] at hw; omega
    simp only [lockfastref02_On.l0]
    have t1 : Int.tmod (r : Int) 2 = ((r % 2 : Nat) : Int) := tmod_nat r 2
    have t2 : Int.tmod (w : Int) 2 = ((w % 2 : Nat) : Int) := tmod_nat w 2
    have t3 : Int.tdiv (r : Int) 2 = ((r / 2 : Nat) : Int) := tdiv_nat r 2
    have t4 : Int.tdiv (w : Int) 2 = ((w / 2 : Nat) : Int) := tdiv_nat w 2
    rw [if_pos (by omega), t1, t2, t3, t4, IntKind.wrap_u64, IntKind.wrap_u64, w64 (by omega), show ((r / 2 : Nat) : Int) % 4294967296 = ((r / 2 : Nat) : Int) from by omega, show ((w / 2 : Nat) : Int) % 18446744073709551616 = ((w / 2 : Nat) : Int) from by omega,
      nturn_s]
    have hn : nstep (r ^^^ w) = if (r % 2 + w % 2) % 2 = 1 then (r / 2 ^^^ w / 2) ^^^ 3988292384 else r / 2 ^^^ w / 2 := by
      unfold nstep
      rw [xor_mod2, xor_div2]
    by_cases e : r % 2 = w % 2
    · rw [if_pos (by omega), hn, if_neg (by omega)]
      exact ih k (i + 1) (r / 2) (w / 2) (by omega) (by omega) (by omega) hw2
    · have hx : r / 2 ^^^ 3988292384 < 2 ^ 32 := Nat.xor_lt_two_pow (by omega) (by omega)
      rw [if_neg (by omega), show (3988292384 : Int) = ((3988292384 : Nat) : Int) from rfl, xor_eq _ _ _ (by omega) (by omega) (by omega), hn, if_pos (by omega)]
      have h := ih k (i + 1) (r / 2 ^^^ 3988292384) (w / 2) (by omega) (by omega) hx hw2
      rw [Nat.xor_assoc, Nat.xor_comm 3988292384, ← Nat.xor_assoc] at h
      exact h
theorem on_eq (k r w : Nat) (hk : 110 ≤ k) (hr : r < 4294967296) (hw : w < 2 ^ 64) : lockfastref02_On.f k (r : Int) (w : Int) = some ((nturn 64 (r ^^^ w) : Nat) : Int) :=
  on_loop 64 k 0 r w (by omega) (by omega) hr hw
theorem ones_sub (x : Nat) (h : x < 4294967296) : 4294967295 - x = ones ^^^ x := by
  apply Nat.eq_of_testBit_eq
  intro i
  have h1 := Nat.testBit_two_pow_sub_succ (n := 32) h i
  rw [show (2 : Nat) ^ 32 - (x + 1) = 4294967295 - x from by omega] at h1
  have h2 : ones.testBit i = decide (i < 32) := by
    have h3 := Nat.testBit_two_pow_sub_succ (n := 32) (x := 0) (by decide) i
    show Nat.testBit 4294967295 i = _
    simpa using h3
  rw [h1, Nat.testBit_xor, h2]
  by_cases e : i < 32
  · simp [e]
  · have h4 : x.testBit i = false := Nat.testBit_lt_two_pow (Nat.lt_of_lt_of_le (show x < 2 ^ 32 from h) (show 2 ^ 32 ≤ 2 ^ i from Nat.pow_le_pow_right (by omega) (by omega)))
    simp [e, h4]
theorem rd_drop (l : List Int) (i : Nat) (h : i < l.length) : l.drop i = rd l (i : Int) :: l.drop (i + 1) := by
  rw [List.drop_eq_getElem_cons h]
  simp [rd, h]
theorem more_loop (l : List Int) (hl : Words l) (hs : l.length ≤ 1000) (d : Nat) : ∀ (k i r : Nat), d + 120 ≤ k → i + d = l.length → r < 4294967296 → lockfastref02_More.l0 k l (r : Int) (i : Int) = some ((ones ^^^ nfold r (l.drop i) : Nat) : Int) := by
  induction d with
  | zero =>
    intro k i r hk hi hr
    obtain ⟨k, rfl⟩ : ∃ k', k = k' + 1 := ⟨k - 1, by omega⟩
    simp only [lockfastref02_More.l0]
    rw [if_neg (by omega), show ((4294967295 : Int) - (r : Int)) % 4294967296 = ((4294967295 - r : Nat) : Int) from by omega, ones_sub r hr, List.drop_eq_nil_of_le (by omega)]
    rfl
  | succ d ih =>
    intro k i r hk hi hr
    obtain ⟨k, rfl⟩ : ∃ k', k = k' + 1 := ⟨k - 1, by omega⟩
    have hd := rd_drop l i (by omega)
    have hm : rd l (i : Int) ∈ l := List.mem_of_mem_drop (i := i) (by rw [hd]; simp)
    have hw := hl _ hm
    simp only [lockfastref02_More.l0]
    rw [if_pos (by omega), if_pos (by omega), hd, w64 (by omega)]
    obtain ⟨n, hn⟩ := Int.eq_ofNat_of_zero_le hw.1
    rw [hn, on_eq k r n (by omega) hr (by omega)]
    exact ih k (i + 1) (nturn 64 (r ^^^ n)) (by omega) (by omega) (nturn64_lt r n hr (by omega))
theorem refmore_eq (s k : Nat) (l : List Int) (hl : Words l) (hs : l.length ≤ 1000) (hk : l.length + 120 ≤ k) (h : s < 4294967296) : lockfastref02_More.f k (s : Int) l = some ((nmore s l : Nat) : Int) := by
  have h1 := more_loop l hl hs l.length k 0 (ones ^^^ s) (by omega) (by omega) (ones_lt s h)
  unfold lockfastref02_More.f
  rw [show ((4294967295 : Int) - (s : Int)) % 4294967296 = ((ones ^^^ s : Nat) : Int) from by rw [← ones_sub s h]; omega]
  exact h1
theorem refof_eq (k : Nat) (l : List Int) (hl : Words l) (hs : l.length ≤ 1000) (hk : l.length + 120 ≤ k) : lockfastref02_Of.f k l = some ((nmore 0 l : Nat) : Int) := by
  unfold lockfastref02_Of.f
  rw [show (0 : Int) = ((0 : Nat) : Int) from rfl, refmore_eq 0 k l hl hs hk (by decide)]
  rfl
theorem words_loop (l m : List Int) (hlen : l.length = m.length) (hs : l.length ≤ 1000) (d : Nat) : ∀ (k i : Nat), d + 1 ≤ k → i + d = l.length → lockfastref01_Words.l0 k l m (i : Int) = some (decide (l.drop i = m.drop i)) := by
  induction d with
  | zero =>
    intro k i hk hi
    obtain ⟨k, rfl⟩ : ∃ k', k = k' + 1 := ⟨k - 1, by omega⟩
    simp only [lockfastref01_Words.l0]
    rw [if_neg (by omega), List.drop_eq_nil_of_le (by omega), List.drop_eq_nil_of_le (by omega)]
    simp
  | succ d ih =>
    intro k i hk hi
    obtain ⟨k, rfl⟩ : ∃ k', k = k' + 1 := ⟨k - 1, by omega⟩
    have h1 : l.drop i = rd l (i : Int) :: l.drop (i + 1) := by
      rw [List.drop_eq_getElem_cons (by omega)]
      simp [rd, show i < l.length from by omega]
    have h2 : m.drop i = rd m (i : Int) :: m.drop (i + 1) := by
      rw [List.drop_eq_getElem_cons (by omega)]
      simp [rd, show i < m.length from by omega]
    simp only [lockfastref01_Words.l0]
    rw [if_pos (by omega), if_pos (by omega), if_pos (by omega), h1, h2]
    by_cases e : rd l (i : Int) = rd m (i : Int)
    · rw [if_pos e, e, w64 (by omega), show (i : Int) + 1 = ((i + 1 : Nat) : Int) from rfl, ih k (i + 1) (by omega) (by omega)]
      simp
    · rw [if_neg e]
      simp [e]
theorem wordsf_eq (k : Nat) (l m : List Int) (hs : l.length ≤ 1000) (hk : l.length + 1 ≤ k) : lockfastref01_Words.f k l m = some (decide (l = m)) := by
  unfold lockfastref01_Words.f
  by_cases e : l.length = m.length
  · rw [if_pos (by omega)]
    have h := words_loop l m e hs l.length k 0 (by omega) (by omega)
    simpa using h
  · rw [if_neg (by omega)]
    have : l ≠ m := fun h => e (by rw [h])
    simp [this]

theorem j1_of (k : Nat) (l : List Int) (c : Int) (hs : l.length ≤ 40) (hk : 200 ≤ k) (hc0 : 0 ≤ c) (hc1 : c < 4294967296) (h1 : seal_Seal.f l = some (l ++ [c])) (h2 : seal_Open.f (l ++ [c]) = some (l, true)) (h3 : ∀ j, 199 ≤ j → lockfastref02_Of.f j l = some c) : lockfastlaw02_SealOpens.j1 k l true (l.length : Int) false = some true := by
  obtain ⟨k, rfl⟩ : ∃ k', k = k' + 1 := ⟨k - 1, by omega⟩
  have e1 : ((l ++ [c]).length : Int) = (l.length : Int) + 1 := by simp
  have e2 : rd (l ++ [c]) (l.length : Int) = c := by simp [rd]
  have e3 : IntKind.u64.wrap c = c := by rw [IntKind.wrap_u64]; omega
  have e4 : lockfastref01_Words.f k l l = some true := by rw [wordsf_eq k l l (by omega) (by omega), decide_eq_true rfl]
  simp only [lockfastlaw02_SealOpens.j1]
  rw [if_neg (by decide), h1, Option.bind_some, w64 (by omega), if_pos e1, h2, Option.bind_some, if_pos rfl, if_pos (show (0 : Int) ≤ (l.length : Int) from by omega), if_pos (show (l.length : Int) ≤ ((l ++ [c]).length : Int) from by omega), Int.toNat_natCast, List.take_left, e4, Option.bind_some, if_pos rfl, if_pos (show (l.length : Int) < ((l ++ [c]).length : Int) from by omega), h3 k (by omega), Option.bind_some, e2, e3, if_pos rfl, if_pos trivial, Option.bind_some]
theorem j1_eq (k : Nat) (l : List Int) (hw : Words l) (hs : l.length ≤ 40) (hk : 200 ≤ k) : lockfastlaw02_SealOpens.j1 k l true (l.length : Int) false = some true := by
  have hc := nmore_lt 0 l hw (by decide)
  exact j1_of k l _ hs hk (by omega) (by omega) (seal_eq hw (by omega)) (by rw [open_eq _ hw (by omega), if_pos rfl]) (fun j hj => refof_eq j l hw (by omega) (by omega))
theorem SealOpens : lockfastlaw02_SealOpens.Pure := by
  intro l0 _ _ h2
  refine ⟨300, ?_⟩
  have hw := words_wf h2
  unfold lockfastlaw02_SealOpens.f
  rw [awake_true]
  simp only [Option.bind_some]
  by_cases c : (l0.length : Int) > 40
  · rw [if_pos c]
  · rw [if_neg c]
    rcases List.eq_nil_or_concat l0 with rfl | ⟨m, x, hmx⟩
    · rw [open_nil]
      simp only [Option.bind_some]
      rw [if_neg (by simp)]
      simp only [lockfastlaw02_SealOpens.j0]
      rw [if_neg (by simp), if_neg (by simp), if_pos (by simp)]
      exact j1_eq 299 [] hw (by simp) (by omega)
    · rw [List.concat_eq_append] at hmx
      subst hmx
      have hc : m.length ≤ 39 := by simp at c; omega
      have hm : Words m := fun y hy => hw y (by simp [hy])
      have hx : rd (m ++ [x]) (m.length : Int) = x := by simp [rd]
      have hl : ((m ++ [x]).length : Int) = (m.length : Int) + 1 := by simp
      have hn := nmore_lt 0 m hm (by decide)
      have hj := j1_eq 299 (m ++ [x]) hw (by simp; omega) (by omega)
      rw [hl] at hj
      rw [open_eq x hm (by omega)]
      simp only [Option.bind_some]
      rw [hl, show wrap64 ((m.length : Int) + 1 - 1) = (m.length : Int) from by rw [w64 (by omega)]; omega, if_pos (by omega), if_pos (by omega), if_pos (by omega), if_pos (by omega), Int.toNat_natCast, List.take_left, refof_eq 300 m hm (by omega) (by omega)]
      simp only [Option.bind_some]
      rw [hx, IntKind.wrap_u64, show ((nmore 0 m : Nat) : Int) % 18446744073709551616 = ((nmore 0 m : Nat) : Int) from by omega]
      by_cases e : x = ((nmore 0 m : Nat) : Int)
      · rw [if_pos e, ← e]
        simp only [lockfastlaw02_SealOpens.j0]
        rw [if_neg (by simp), if_pos trivial, show wrap64 ((m.length : Int) + 1 - 1) = (m.length : Int) from by rw [w64 (by omega)]; omega, if_pos (by omega), if_pos (by rw [hl]; omega), Int.toNat_natCast, List.take_left, wordsf_eq 299 m m (by omega) (by omega)]
        simp only [Option.bind_some, decide_true, Bool.not_true]
        exact hj
      · rw [if_neg e]
        have e2 : (x == ((nmore 0 m : Nat) : Int)) = false := beq_eq_false_iff_ne.mpr e
        rw [e2]
        simp only [lockfastlaw02_SealOpens.j0]
        rw [if_neg (by simp), if_neg (by simp), if_pos (by simp)]
        exact hj

end Go.Proofs.Ytmflkbmjchapiaa.Pure
