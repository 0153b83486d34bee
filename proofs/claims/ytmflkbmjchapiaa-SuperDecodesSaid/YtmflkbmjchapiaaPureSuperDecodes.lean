/- What words are the head of is as the reference says, which tries each number of lanes. -/
import Derived.Test.YtmflkbmjchapiaaPSuperDecodesx7
import Derived.Test.YtmflkbmjchapiaaCrcMath
import Derived.OpenShut
namespace Go.Proofs.Ytmflkbmjchapiaa.Pure
open Go.RowKit Go.Proofs.YtmflkbmjchapiaaX Go.Proofs.Ytmflkbmjchapiaa.PSuperDecodes Go.Proofs.YtmflkbmjchapiaaW.PrintWords Go.Proofs.YtmflkbmjchapiaaW.PrintLast Go.Proofs.YtmflkbmjchapiaaW.PrintMore

theorem words_wf {l : List Int} (h : ∀ x ∈ l, (Lit.int .u64 x).wf = true) : Words l := fun x hx => by
  have := bounds_u64 (h x hx)
  omega
theorem w64 {x : Int} (h : -9223372036854775808 ≤ x ∧ x ≤ 9223372036854775807) : wrap64 x = x := by unfold wrap64; omega
theorem words_nil : Words [] := fun x hx => by simp at hx
theorem words_app {l m : List Int} (hl : Words l) (hm : Words m) : Words (l ++ m) := fun x hx => by
  rcases List.mem_append.mp hx with h | h
  · exact hl x h
  · exact hm x h
theorem words_one {x : Int} (h0 : 0 ≤ x) (h1 : x < 18446744073709551616) : Words [x] := fun y hy => by
  have : y = x := by simpa using hy
  omega
theorem words_take {l : List Int} (hl : Words l) (n : Nat) : Words (l.take n) := fun x hx => hl x (List.mem_of_mem_take hx)
theorem words_drop {l : List Int} (hl : Words l) (n : Nat) : Words (l.drop n) := fun x hx => hl x (List.mem_of_mem_drop hx)
theorem more_nat {s : Nat} {l : List Int} (hl : Words l) (h : s < 4294967296) : seal_More.f (s : Int) l = some ((nmore s l : Nat) : Int) := congrArg some (crcMore_nat s l hl h)
theorem of_nat {l : List Int} (hl : Words l) : seal_Of.f l = some ((nmore 0 l : Nat) : Int) := by
  unfold seal_Of.f
  rw [show (0 : Int) = ((0 : Nat) : Int) from rfl, more_nat hl (by decide)]
  rfl
theorem seal_eq {l : List Int} (hl : Words l) (hs : l.length ≤ 1000) : seal_Seal.f l = some (l ++ [((nmore 0 l : Nat) : Int)]) := by
  unfold seal_Seal.f
  have hc := nmore_lt 0 l hl (by decide)
  rw [if_pos (by omega), show crcMore 0 l = ((nmore 0 l : Nat) : Int) from crcMore_nat 0 l hl (by decide), IntKind.wrap_u64, Int.emod_eq_of_lt (by omega) (by omega)]
theorem tdiv_nn (x n : Int) (h : 0 ≤ x) : Int.tdiv x n = x / n := Int.tdiv_eq_ediv_of_nonneg h
theorem tmodn (x n : Int) (h : 0 ≤ x) : Int.tmod x n = x % n := Int.tmod_eq_emod_of_nonneg h

def chunksZ (W L : Int) : Int := if 1 ≤ L ∧ L ≤ 64 ∧ 1 ≤ W ∧ W ≤ 65536 ∧ 10 + 73 * L ≤ W then (W - (10 + 73 * L)) / 33 else 0

theorem can_eq (W L : Int) : geo_can.f W L = some (decide (1 ≤ L ∧ L ≤ 64 ∧ 1 ≤ W ∧ W ≤ 65536)) := by
  unfold geo_can.f
  by_cases h1 : L ≥ 1
  · rw [if_pos h1]
    by_cases h2 : L ≤ 64
    · rw [if_pos h2]
      by_cases h3 : W ≥ 1
      · rw [if_pos h3]; congr 1; rw [decide_eq_decide]; omega
      · rw [if_neg h3]; congr 1; symm; rw [decide_eq_false_iff_not]; omega
    · rw [if_neg h2]; congr 1; symm; rw [decide_eq_false_iff_not]; omega
  · rw [if_neg h1]; congr 1; symm; rw [decide_eq_false_iff_not]; omega

theorem table_eq (W L : Int) (h1 : 1 ≤ L) (h2 : L ≤ 64) : geo_table.f W L = some (10 + 73 * L) := by
  unfold geo_table.f geo_logs.f
  simp only [Option.bind_some]
  rw [w64 (x := 10 + L) (by omega), w64 (x := L * 72) (by omega), w64 (by omega)]
  congr 1; omega

theorem chunks_eq (W L : Int) : geo_Chunks.f W L = some (chunksZ W L) := by
  unfold geo_Chunks.f
  rw [can_eq]; simp only [Option.bind_some]
  by_cases h : 1 ≤ L ∧ L ≤ 64 ∧ 1 ≤ W ∧ W ≤ 65536
  · rw [if_pos (decide_eq_true h), table_eq _ _ h.1 h.2.1]; simp only [Option.bind_some]
    rw [w64 (x := W - (10 + 73 * L)) (by omega)]
    congr 1; unfold chunksZ
    by_cases hp : 10 + 73 * L ≤ W
    · rw [if_pos (by omega), tdiv_nn _ _ (by omega), w64 (by omega)]; unfold mx; split <;> omega
    · rw [if_neg (by omega)]
      obtain ⟨y, hy⟩ : ∃ y, W - (10 + 73 * L) = -y := ⟨-(W - (10 + 73 * L)), by omega⟩
      rw [hy, Int.neg_tdiv, tdiv_nn _ _ (by omega), w64 (by omega)]; unfold mx; split <;> omega
  · rw [if_neg (by simpa using h)]; congr 1; unfold chunksZ; rw [if_neg (by omega)]


theorem chunksZ_le (W L : Int) : 0 ≤ chunksZ W L ∧ chunksZ W L ≤ 1984 := by unfold chunksZ; split <;> omega


theorem refl0 (W L : Int) (h1 : 1 ≤ L) (h2 : L ≤ 64) (h3 : W ≤ 65536) (d : Nat) : ∀ (k : Nat) (n : Int), 0 ≤ n → n + d = chunksZ W L → d < k → lockfastref05_Chunks.l0 k n W L = some (chunksZ W L) := by
  have hb := chunksZ_le W L
  induction d with
  | zero =>
    intro k n h0 hn hk
    obtain ⟨k, rfl⟩ : ∃ m, k = m + 1 := ⟨k - 1, by omega⟩
    simp only [lockfastref05_Chunks.l0]
    rw [w64 (x := n + 1) (by omega), w64 (x := 73 * L) (by omega), w64 (x := 10 + 73 * L) (by omega), w64 (x := 33 * (n + 1)) (by omega), w64 (by omega), if_neg ?_]
    · congr 1; omega
    · unfold chunksZ at hn; split at hn <;> omega
  | succ d ih =>
    intro k n h0 hn hk
    obtain ⟨k, rfl⟩ : ∃ m, k = m + 1 := ⟨k - 1, by omega⟩
    simp only [lockfastref05_Chunks.l0]
    rw [w64 (x := n + 1) (by omega), w64 (x := 73 * L) (by omega), w64 (x := 10 + 73 * L) (by omega), w64 (x := 33 * (n + 1)) (by omega), w64 (by omega), if_pos ?_]
    · exact ih k (n + 1) (by omega) (by omega) (by omega)
    · unfold chunksZ at hn; split at hn <;> omega

theorem refChunks_eq (k : Nat) (hk : 2000 ≤ k) (W L : Int) : lockfastref05_Chunks.f k W L = some (chunksZ W L) := by
  have hb := chunksZ_le W L
  obtain ⟨k, rfl⟩ : ∃ m, k = m + 1 := ⟨k - 1, by omega⟩
  unfold lockfastref05_Chunks.f
  by_cases h1 : L < 1
  · rw [if_pos h1]; simp only [lockfastref05_Chunks.j0]; rw [if_pos trivial]; congr 1; unfold chunksZ; rw [if_neg (by omega)]
  · rw [if_neg h1]
    by_cases h2 : L > 64
    · rw [if_pos h2]; simp only [lockfastref05_Chunks.j0]; rw [if_pos trivial]; congr 1; unfold chunksZ; rw [if_neg (by omega)]
    · rw [if_neg h2]; simp only [lockfastref05_Chunks.j0]
      by_cases h3 : W > 65536
      · rw [if_pos (decide_eq_true h3)]; congr 1; unfold chunksZ; rw [if_neg (by omega)]
      · rw [if_neg (by simpa using h3)]
        exact refl0 W L (by omega) (by omega) (by omega) (chunksZ W L).toNat k 0 (by omega) (by omega) (by omega)
theorem super_right (W L : Int) : geo_Right.f W L = some (decide (0 < chunksZ W L)) := by
  unfold geo_Right.f; rw [chunks_eq]; rfl
/-- A head's words ahead of its check sum. -/
def hd (W L : Int) : List Int := [6076272092419149644, 1, W, L, chunksZ W L, 0, 0]
def hsum (W L : Int) : Int := ((nmore 0 (hd W L) : Nat) : Int)
def head (W L : Int) : List Int := [6076272092419149644, 1, W, L, chunksZ W L, 0, 0, hsum W L]
theorem chunksZ_in {W L : Int} (h : 0 < chunksZ W L) : 1 ≤ L ∧ L ≤ 64 ∧ 1 ≤ W ∧ W ≤ 65536 ∧ 10 + 73 * L + 33 ≤ W := by unfold chunksZ at h; split at h <;> omega
theorem hd_words {W L : Int} (h : 0 < chunksZ W L) : Words (hd W L) := by
  have hc := chunksZ_in h
  have hb := chunksZ_le W L
  intro x hx
  simp only [hd, List.mem_cons, List.not_mem_nil, or_false] at hx
  rcases hx with rfl | rfl | rfl | rfl | rfl | rfl | rfl <;> omega
theorem hsum_in {W L : Int} (h : 0 < chunksZ W L) : 0 ≤ hsum W L ∧ hsum W L < 4294967296 := by
  have := nmore_lt 0 (hd W L) (hd_words h) (by decide)
  unfold hsum
  omega
theorem head_words {W L : Int} (h : 0 < chunksZ W L) : Words (head W L) := by
  have hs := hsum_in h
  intro x hx
  have e : head W L = hd W L ++ [hsum W L] := rfl
  rw [e] at hx
  rcases List.mem_append.mp hx with hx | hx
  · exact hd_words h x hx
  · have : x = hsum W L := by simpa using hx
    omega
theorem of_eq {W L : Int} (h : 0 < chunksZ W L) : super_of.f W L = some (6076272092419149644, 1, W, L, chunksZ W L, 0, 0, hsum W L) := by
  have hc := chunksZ_in h
  have hb := chunksZ_le W L
  have u : ∀ x : Int, 0 ≤ x → x < 18446744073709551616 → IntKind.u64.wrap x = x := fun x h0 h1 => by rw [IntKind.wrap_u64]; omega
  unfold super_of.f
  rw [chunks_eq, Option.bind_some, u W (by omega) (by omega), u L (by omega) (by omega), u (chunksZ W L) (by omega) (by omega)]
  rw [show ([6076272092419149644, 1, W, L, chunksZ W L, 0, 0] : List Int) = hd W L from rfl, seal_eq (hd_words h) (by simp [hd]), Option.bind_some]
  rw [show hd W L ++ [((nmore 0 (hd W L) : Nat) : Int)] = head W L from rfl, show ((head W L).length : Int) = 8 from rfl]
  rw [if_pos (by decide), if_pos (by decide), if_pos (by decide), if_pos (by decide), if_pos (by decide), if_pos (by decide), if_pos (by decide), if_pos (by decide)]
  rfl
theorem encode_eq (W L : Int) : super_Encode.f W L = some (if 0 < chunksZ W L then (head W L, 0) else ([], 1)) := by
  unfold super_Encode.f
  rw [super_right, Option.bind_some]
  by_cases h : 0 < chunksZ W L
  · rw [decide_eq_true h, if_pos rfl, of_eq h, Option.bind_some, if_pos h]
    rfl
  · rw [decide_eq_false h, if_neg (by decide), if_neg h]
theorem encode_ok {W L : Int} (h : 0 < chunksZ W L) : super_Encode.f W L = some (head W L, 0) := by rw [encode_eq, if_pos h]
theorem eight (l : List Int) (h : 8 ≤ l.length) : ∃ a0 a1 a2 a3 a4 a5 a6 a7 t, l = a0 :: a1 :: a2 :: a3 :: a4 :: a5 :: a6 :: a7 :: t := by
  match l, h with
  | a0 :: a1 :: a2 :: a3 :: a4 :: a5 :: a6 :: a7 :: t, _ => exact ⟨a0, a1, a2, a3, a4, a5, a6, a7, t, rfl⟩
/-- Words that are a pool's head, their own number and their fourth word being its geometry. -/
def HR (l : List Int) : Prop := 0 < chunksZ (l.length : Int) (rd l 3) ∧ l.take 8 = head (l.length : Int) (rd l 3)
instance (l : List Int) : Decidable (HR l) := by unfold HR; infer_instance
theorem decode_eq (l : List Int) (hw : Words l) : super_Decode.f l = some (if HR l then ((l.length : Int), rd l 3, 0) else (0, 0, 7)) := by
  unfold super_Decode.f
  by_cases h8 : (l.length : Int) < 8
  · rw [if_pos h8, if_neg (fun h => by have := chunksZ_in h.1; omega)]
  · obtain ⟨a0, a1, a2, a3, a4, a5, a6, a7, t, hl⟩ := eight l (by omega)
    have h3 := hw a3 (by rw [hl]; simp)
    have ht : l.take 8 = [a0, a1, a2, a3, a4, a5, a6, a7] := by rw [hl]; rfl
    have hr : rd l 3 = a3 := by rw [hl]; rfl
    have hHR : HR l ↔ 0 < chunksZ (l.length : Int) a3 ∧ [a0, a1, a2, a3, a4, a5, a6, a7] = head (l.length : Int) a3 := by
      unfold HR
      rw [ht, hr]
    have hif : ∀ x y : Int × Int × Int, (if HR l then x else y) = if 0 < chunksZ (l.length : Int) a3 ∧ [a0, a1, a2, a3, a4, a5, a6, a7] = head (l.length : Int) a3 then x else y := fun x y => by
      by_cases c : HR l
      · rw [if_pos c, if_pos (hHR.mp c)]
      · rw [if_neg c, if_neg (fun q => c (hHR.mpr q))]
    rw [if_neg h8, if_pos (by omega), hif, ht, hr]
    have e3 : rd [a0, a1, a2, a3, a4, a5, a6, a7] 3 = a3 := rfl
    have e0 : rd [a0, a1, a2, a3, a4, a5, a6, a7] 0 = a0 := rfl
    have e1 : rd [a0, a1, a2, a3, a4, a5, a6, a7] 1 = a1 := rfl
    have e2 : rd [a0, a1, a2, a3, a4, a5, a6, a7] 2 = a2 := rfl
    have e4 : rd [a0, a1, a2, a3, a4, a5, a6, a7] 4 = a4 := rfl
    have e5 : rd [a0, a1, a2, a3, a4, a5, a6, a7] 5 = a5 := rfl
    have e6 : rd [a0, a1, a2, a3, a4, a5, a6, a7] 6 = a6 := rfl
    have e7 : rd [a0, a1, a2, a3, a4, a5, a6, a7] 7 = a7 := rfl
    rw [e0, e1, e2, e3, e4, e5, e6, e7, show (([a0, a1, a2, a3, a4, a5, a6, a7] : List Int).length : Int) = 8 from rfl]
    rw [if_pos (by decide), if_pos (by decide), if_pos (by decide), if_pos (by decide), if_pos (by decide), if_pos (by decide), if_pos (by decide), if_pos (by decide)]
    generalize (l.length : Int) = n at *
    by_cases h64 : a3 > 64
    · rw [if_pos h64, if_neg (fun h => by have := chunksZ_in h.1; omega)]
    · rw [if_neg h64, w64 (by omega), super_right, Option.bind_some]
      by_cases hc : 0 < chunksZ n a3
      · rw [decide_eq_true hc, if_pos rfl, of_eq hc, Option.bind_some]
        have nd : ∀ x y : Int, (x == y) = decide (x = y) := fun x y => by by_cases h : x = y <;> simp [h]
        have hh : [a0, a1, a2, a3, a4, a5, a6, a7] = head n a3 ↔ a0 = 6076272092419149644 ∧ a1 = 1 ∧ a2 = n ∧ a4 = chunksZ n a3 ∧ a5 = 0 ∧ a6 = 0 ∧ a7 = hsum n a3 := by
          unfold head
          simp only [List.cons.injEq, true_and, and_true]
        by_cases c : a0 = 6076272092419149644 ∧ a1 = 1 ∧ a2 = n ∧ a4 = chunksZ n a3 ∧ a5 = 0 ∧ a6 = 0 ∧ a7 = hsum n a3
        · rw [if_pos (⟨hc, hh.mpr c⟩ : _ ∧ _)]
          obtain ⟨q0, q1, q2, q4, q5, q6, q7⟩ := c
          rw [if_neg]
          dsimp only
          rw [q0, q1, q2, q4, q5, q6, q7]
          simp
        · rw [if_neg (fun q : _ ∧ _ => c (hh.mp q.2)), if_pos]
          dsimp only
          simp only [nd, ← decide_not, ← Bool.decide_or, decide_eq_true_eq]
          have nn : ¬ ¬ a3 = a3 := fun h => h rfl
          by_cases q0 : a0 = 6076272092419149644
          · by_cases q1 : a1 = 1
            · by_cases q2 : a2 = n
              · by_cases q4 : a4 = chunksZ n a3
                · by_cases q5 : a5 = 0
                  · by_cases q6 : a6 = 0
                    · exact .inr (.inr (.inr (.inr (.inr (.inr (.inr (fun q7 => c ⟨q0, q1, q2, q4, q5, q6, q7⟩)))))))
                    · exact .inr (.inr (.inr (.inr (.inr (.inr (.inl q6))))))
                  · exact .inr (.inr (.inr (.inr (.inr (.inl q5)))))
                · exact .inr (.inr (.inr (.inr (.inl q4))))
              · exact .inr (.inr (.inl q2))
            · exact .inr (.inl q1)
          · exact .inl q0
      · rw [decide_eq_false hc, if_neg (by decide), if_neg (fun h : _ ∧ _ => hc h.1)]
theorem head_take (W L : Int) (t : List Int) : (head W L ++ t).take 8 = head W L := List.take_left' rfl
theorem head_rd (W L : Int) (t : List Int) : rd (head W L ++ t) 3 = L := rfl
theorem HR_head (W L : Int) (t : List Int) (h : 0 < chunksZ W L) : HR (head W L ++ t) ↔ (t.length : Int) + 8 = W := by
  unfold HR
  rw [head_take, head_rd, show ((head W L ++ t).length : Int) = (t.length : Int) + 8 from by rw [List.length_append, show (head W L).length = 8 from rfl]; omega]
  constructor
  · rintro ⟨_, e⟩
    unfold head at e
    simp only [List.cons.injEq] at e
    exact e.2.2.1.symm
  · intro e
    rw [e]
    exact ⟨h, rfl⟩
theorem nought_words (n : Nat) : Words (List.replicate n 0) := fun x hx => by
  have := List.eq_of_mem_replicate hx
  omega
theorem super_awake : lockfastlaw06_awake.f = some true := by
  have hc : chunksZ 149 1 = 2 := by decide
  unfold lockfastlaw06_awake.f
  rw [encode_ok (by omega), Option.bind_some]
  dsimp only
  rw [if_pos rfl, show ((head 149 1).length : Int) = 8 from rfl, if_pos (by decide), if_pos (by rw [show (head 149 1).length = 8 from rfl]; decide), decode_eq _ (words_app (head_words (by omega)) (nought_words 141)), Option.bind_some, if_pos ((HR_head 149 1 (List.replicate 141 0) (by omega)).mpr (by rw [List.length_replicate]; rfl))]
  rw [head_rd, show (((head 149 1 ++ List.replicate 141 (0 : Int) : List Int).length : Nat) : Int) = (149 : Int) from by rw [List.length_append, List.length_replicate]; rfl]
  rw [if_pos rfl, if_pos (by decide), if_pos (by decide), show rd (head 149 1) 4 = chunksZ 149 1 from rfl, hc]
  rfl
theorem tdiv_nat (a b : Nat) : Int.tdiv (a : Int) (b : Int) = ((a / b : Nat) : Int) := by
  rw [Int.tdiv_eq_ediv_of_nonneg (by omega)]; rfl
theorem tmod_nat (a b : Nat) : Int.tmod (a : Int) (b : Int) = ((a % b : Nat) : Int) := by
  rw [Int.tmod_eq_emod_of_nonneg (by omega)]; rfl
theorem bit_xor (a b i : Nat) : (a ^^^ b) / 2 ^ i % 2 = (a / 2 ^ i % 2 + b / 2 ^ i % 2) % 2 := by
  rw [← Nat.shiftRight_eq_div_pow, Nat.shiftRight_xor_distrib, xor_mod2, Nat.shiftRight_eq_div_pow, Nat.shiftRight_eq_div_pow]
theorem pow_le_of (i : Nat) (h : i ≤ 31) : 1 ≤ 2 ^ i ∧ 2 ^ i ≤ 2147483648 := ⟨Nat.one_le_two_pow, Nat.le_trans (Nat.pow_le_pow_right (by omega) h) (by decide)⟩
theorem xor_loop (a b : Nat) (ha : a < 4294967296) (hb : b < 4294967296) (d : Nat) : ∀ (k i : Nat), d + 1 ≤ k → i + d = 32 → lockfastref02_xor.l0 k (a : Int) (b : Int) (((a ^^^ b) % 2 ^ i : Nat) : Int) ((2 ^ min i 31 : Nat) : Int) (i : Int) = some ((a ^^^ b : Nat) : Int) := by
  induction d with
  | zero =>
    intro k i hk hi
    obtain ⟨k, rfl⟩ : ∃ k', k = k' + 1 := ⟨k - 1, by omega⟩
    obtain rfl : i = 32 := by omega
    have hx : a ^^^ b < 2 ^ 32 := Nat.xor_lt_two_pow ha hb
    simp only [lockfastref02_xor.l0]
    rw [if_neg (by decide), Nat.mod_eq_of_lt hx]
  | succ d ih =>
    intro k i hk hi
    obtain ⟨k, rfl⟩ : ∃ k', k = k' + 1 := ⟨k - 1, by omega⟩
    have hp := pow_le_of i (by omega)
    have ha2 : a / 2 ^ i < 4294967296 := Nat.lt_of_le_of_lt (Nat.div_le_self _ _) ha
    have hb2 : b / 2 ^ i < 4294967296 := Nat.lt_of_le_of_lt (Nat.div_le_self _ _) hb
    have hx := bit_xor a b i
    have hs : (a ^^^ b) % 2 ^ (i + 1) = (a ^^^ b) % 2 ^ i + 2 ^ i * ((a ^^^ b) / 2 ^ i % 2) := Nat.mod_pow_succ
    have hlt : (a ^^^ b) % 2 ^ i < 2 ^ i := Nat.mod_lt _ (by omega)
    have ih1 := ih k (i + 1) (by omega) (by omega)
    rw [hs] at ih1
    have hm : min i 31 = i := by omega
    simp only [lockfastref02_xor.l0]
    rw [hm, if_pos (by omega), if_neg (by omega), tdiv_nat, tdiv_nat]
    by_cases e : a / 2 ^ i % 2 = b / 2 ^ i % 2
    · rw [if_pos (by omega)]
      have hz : (a ^^^ b) / 2 ^ i % 2 = 0 := by omega
      rw [hz, Nat.mul_zero, Nat.add_zero] at ih1
      by_cases e2 : (i : Int) < 31
      · have hw : min (i + 1) 31 = i + 1 := by omega
        have hp2 := pow_le_of (i + 1) (by omega)
        rw [hw] at ih1
        rw [if_pos e2, w64 (by omega), show ((2 : Int) * ((2 ^ i : Nat) : Int)) % 4294967296 = ((2 ^ (i + 1) : Nat) : Int) from by rw [Nat.pow_succ] at hp2 ⊢; omega]
        exact ih1
      · obtain rfl : i = 31 := by omega
        rw [if_neg e2, w64 (by omega)]
        exact ih1
    · rw [if_neg (by omega)]
      have hz : (a ^^^ b) / 2 ^ i % 2 = 1 := by omega
      rw [hz, Nat.mul_one] at ih1
      have hsum : ((((a ^^^ b) % 2 ^ i : Nat) : Int) + ((2 ^ i : Nat) : Int)) % 4294967296 = (((a ^^^ b) % 2 ^ i + 2 ^ i : Nat) : Int) := by omega
      by_cases e2 : (i : Int) < 31
      · have hw : min (i + 1) 31 = i + 1 := by omega
        have hp2 := pow_le_of (i + 1) (by omega)
        rw [hw] at ih1
        rw [if_pos e2, w64 (by omega), hsum, show ((2 : Int) * ((2 ^ i : Nat) : Int)) % 4294967296 = ((2 ^ (i + 1) : Nat) : Int) from by rw [Nat.pow_succ] at hp2 ⊢; omega]
        exact ih1
      · obtain rfl : i = 31 := by omega
        rw [if_neg e2, w64 (by omega), hsum]
        exact ih1
theorem xor_eq (a b k : Nat) (ha : a < 4294967296) (hb : b < 4294967296) (hk : 40 ≤ k) : lockfastref02_xor.f k (a : Int) (b : Int) = some ((a ^^^ b : Nat) : Int) := by
  have h := xor_loop a b ha hb 32 k 0 (by omega) (by omega)
  rw [Nat.pow_zero, Nat.mod_one] at h
  exact h
theorem on_loop (d : Nat) : ∀ (k i r w : Nat), d + 41 ≤ k → i + d = 64 → r < 4294967296 → w < 2 ^ d → lockfastref02_On.l0 k (r : Int) (w : Int) (i : Int) = some ((nturn d (r ^^^ w) : Nat) : Int) := by
  induction d with
  | zero =>
    intro k i r w hk hi hr hw
    obtain ⟨k, rfl⟩ : ∃ k', k = k' + 1 := ⟨k - 1, by omega⟩
    obtain rfl : i = 64 := by omega
    obtain rfl : w = 0 := by omega
    simp only [lockfastref02_On.l0]
    rw [if_neg (by decide), Nat.xor_zero, nturn_0]
  | succ d ih =>
    intro k i r w hk hi hr hw
    obtain ⟨k, rfl⟩ : ∃ k', k = k' + 1 := ⟨k - 1, by omega⟩
    have hw64 : w < 2 ^ 64 := Nat.lt_of_lt_of_le hw (Nat.pow_le_pow_right (by omega) (by omega))
    have hw2 : w / 2 < 2 ^ d := by rw [Nat.pow_succ] at hw; omega
    simp only [lockfastref02_On.l0]
    have t1 : Int.tmod (r : Int) 2 = ((r % 2 : Nat) : Int) := tmod_nat r 2
    have t2 : Int.tmod (w : Int) 2 = ((w % 2 : Nat) : Int) := tmod_nat w 2
    have t3 : Int.tdiv (r : Int) 2 = ((r / 2 : Nat) : Int) := tdiv_nat r 2
    have t4 : Int.tdiv (w : Int) 2 = ((w / 2 : Nat) : Int) := tdiv_nat w 2
    rw [if_pos (by omega), t1, t2, t3, t4, IntKind.wrap_u64, IntKind.wrap_u64, w64 (by omega), show ((r / 2 : Nat) : Int) % 4294967296 = ((r / 2 : Nat) : Int) from by omega, show ((w / 2 : Nat) : Int) % 18446744073709551616 = ((w / 2 : Nat) : Int) from by omega,
      nturn_s]
    have hn : nstep (r ^^^ w) = if (r % 2 + w % 2) % 2 = 1 then (r / 2 ^^^ w / 2) ^^^ 3988292384 else r / 2 ^^^ w / 2 := by
      unfold nstep
      rw [xor_mod2, xor_div2]
    by_cases e : r % 2 = w % 2
    · rw [if_pos (by omega), hn, if_neg (by omega)]
      exact ih k (i + 1) (r / 2) (w / 2) (by omega) (by omega) (by omega) hw2
    · have hx : r / 2 ^^^ 3988292384 < 2 ^ 32 := Nat.xor_lt_two_pow (by omega) (by omega)
      rw [if_neg (by omega), show (3988292384 : Int) = ((3988292384 : Nat) : Int) from rfl, xor_eq _ _ _ (by omega) (by omega) (by omega), hn, if_pos (by omega)]
      have h := ih k (i + 1) (r / 2 ^^^ 3988292384) (w / 2) (by omega) (by omega) hx hw2
      rw [Nat.xor_assoc, Nat.xor_comm 3988292384, ← Nat.xor_assoc] at h
      exact h
theorem on_eq (k r w : Nat) (hk : 110 ≤ k) (hr : r < 4294967296) (hw : w < 2 ^ 64) : lockfastref02_On.f k (r : Int) (w : Int) = some ((nturn 64 (r ^^^ w) : Nat) : Int) :=
  on_loop 64 k 0 r w (by omega) (by omega) hr hw
theorem ones_sub (x : Nat) (h : x < 4294967296) : 4294967295 - x = ones ^^^ x := by
  apply Nat.eq_of_testBit_eq
  intro i
  have h1 := Nat.testBit_two_pow_sub_succ (n := 32) h i
  rw [show (2 : Nat) ^ 32 - (x + 1) = 4294967295 - x from by omega] at h1
  have h2 : ones.testBit i = decide (i < 32) := by
    have h3 := Nat.testBit_two_pow_sub_succ (n := 32) (x := 0) (by decide) i
    show Nat.testBit 4294967295 i = _
    simpa using h3
  rw [h1, Nat.testBit_xor, h2]
  by_cases e : i < 32
  · simp [e]
  · have h4 : x.testBit i = false := Nat.testBit_lt_two_pow (Nat.lt_of_lt_of_le (show x < 2 ^ 32 from h) (show 2 ^ 32 ≤ 2 ^ i from Nat.pow_le_pow_right (by omega) (by omega)))
    simp [e, h4]
theorem rd_drop (l : List Int) (i : Nat) (h : i < l.length) : l.drop i = rd l (i : Int) :: l.drop (i + 1) := by
  rw [List.drop_eq_getElem_cons h]
  simp [rd, h]
theorem more_loop (l : List Int) (hl : Words l) (hs : l.length ≤ 1000) (d : Nat) : ∀ (k i r : Nat), d + 120 ≤ k → i + d = l.length → r < 4294967296 → lockfastref02_More.l0 k l (r : Int) (i : Int) = some ((ones ^^^ nfold r (l.drop i) : Nat) : Int) := by
  induction d with
  | zero =>
    intro k i r hk hi hr
    obtain ⟨k, rfl⟩ : ∃ k', k = k' + 1 := ⟨k - 1, by omega⟩
    simp only [lockfastref02_More.l0]
    rw [if_neg (by omega), show ((4294967295 : Int) - (r : Int)) % 4294967296 = ((4294967295 - r : Nat) : Int) from by omega, ones_sub r hr, List.drop_eq_nil_of_le (by omega)]
    rfl
  | succ d ih =>
    intro k i r hk hi hr
    obtain ⟨k, rfl⟩ : ∃ k', k = k' + 1 := ⟨k - 1, by omega⟩
    have hd := rd_drop l i (by omega)
    have hm : rd l (i : Int) ∈ l := List.mem_of_mem_drop (i := i) (by rw [hd]; simp)
    have hw := hl _ hm
    simp only [lockfastref02_More.l0]
    rw [if_pos (by omega), if_pos (by omega), hd, w64 (by omega)]
    obtain ⟨n, hn⟩ := Int.eq_ofNat_of_zero_le hw.1
    rw [hn, on_eq k r n (by omega) hr (by omega)]
    exact ih k (i + 1) (nturn 64 (r ^^^ n)) (by omega) (by omega) (nturn64_lt r n hr (by omega))
theorem refmore_eq (s k : Nat) (l : List Int) (hl : Words l) (hs : l.length ≤ 1000) (hk : l.length + 120 ≤ k) (h : s < 4294967296) : lockfastref02_More.f k (s : Int) l = some ((nmore s l : Nat) : Int) := by
  have h1 := more_loop l hl hs l.length k 0 (ones ^^^ s) (by omega) (by omega) (ones_lt s h)
  unfold lockfastref02_More.f
  rw [show ((4294967295 : Int) - (s : Int)) % 4294967296 = ((ones ^^^ s : Nat) : Int) from by rw [← ones_sub s h]; omega]
  exact h1
theorem refof_eq (k : Nat) (l : List Int) (hl : Words l) (hs : l.length ≤ 1000) (hk : l.length + 120 ≤ k) : lockfastref02_Of.f k l = some ((nmore 0 l : Nat) : Int) := by
  unfold lockfastref02_Of.f
  rw [show (0 : Int) = ((0 : Nat) : Int) from rfl, refmore_eq 0 k l hl hs hk (by decide)]
  rfl
abbrev NAME : ByteArray := ⟨#[84, 83, 65, 70, 75, 67, 79, 76]⟩
theorem name_size : ((NAME.size : Nat) : Int) = 8 := rfl
theorem ref_step (k : Nat) (x i W L x' : Int) (h0 : 0 ≤ i) (h8 : i < 8) (hx : IntKind.u64.wrap (IntKind.u64.wrap (256 * x) + IntKind.u64.wrap (bt NAME i)) = x') : lockfastref06_Encode.l0 (k + 1) x NAME i W L = lockfastref06_Encode.l0 k x' NAME (i + 1) W L := by
  simp only [lockfastref06_Encode.l0]
  rw [if_pos (show i < ((NAME.size : Nat) : Int) from by rw [name_size]; exact h8), if_pos h0, hx, w64 (by omega)]
theorem ref_name (k : Nat) (W L : Int) : lockfastref06_Encode.l0 (k + 8) 0 NAME 0 W L = lockfastref06_Encode.l0 k 6076272092419149644 NAME 8 W L := by
  rw [ref_step (k + 7) 0 0 W L 84 (by decide) (by decide) (by decide +kernel), ref_step (k + 6) 84 (0 + 1) W L 21587 (by decide) (by decide) (by decide +kernel), ref_step (k + 5) 21587 (0 + 1 + 1) W L 5526337 (by decide) (by decide) (by decide +kernel), ref_step (k + 4) 5526337 (0 + 1 + 1 + 1) W L 1414742342 (by decide) (by decide) (by decide +kernel),
    ref_step (k + 3) 1414742342 (0 + 1 + 1 + 1 + 1) W L 362174039627 (by decide) (by decide) (by decide +kernel), ref_step (k + 2) 362174039627 (0 + 1 + 1 + 1 + 1 + 1) W L 92716554144579 (by decide) (by decide) (by decide +kernel), ref_step (k + 1) 92716554144579 (0 + 1 + 1 + 1 + 1 + 1 + 1) W L 23735437861012303 (by decide) (by decide) (by decide +kernel), ref_step k 23735437861012303 (0 + 1 + 1 + 1 + 1 + 1 + 1 + 1) W L 6076272092419149644 (by decide) (by decide) (by decide +kernel)]
  rfl
theorem refencode_eq (k : Nat) (hk : 2200 ≤ k) (W L : Int) : lockfastref06_Encode.f k W L = some (if 0 < chunksZ W L then (head W L, 0) else ([], 1)) := by
  unfold lockfastref06_Encode.f lockfastref05_Right.f
  rw [refChunks_eq k (by omega), Option.bind_some, Option.bind_some]
  by_cases h : 0 < chunksZ W L
  · have hc := chunksZ_in h
    have hb := chunksZ_le W L
    have hs := hsum_in h
    have u : ∀ x : Int, 0 ≤ x → x < 18446744073709551616 → IntKind.u64.wrap x = x := fun x h0 h1 => by rw [IntKind.wrap_u64]; omega
    obtain ⟨k, rfl⟩ : ∃ k', k = k' + 1 + 8 := ⟨k - 9, by omega⟩
    rw [if_pos (decide_eq_true (by omega)), if_pos h, ref_name]
    simp only [lockfastref06_Encode.l0]
    rw [if_neg (show ¬ 8 < ((NAME.size : Nat) : Int) from by rw [name_size]; decide), refChunks_eq k (by omega), Option.bind_some, Option.bind_some, u W (by omega) (by omega), u L (by omega) (by omega), u (chunksZ W L) (by omega) (by omega)]
    rw [show ([6076272092419149644, 1, W, L, chunksZ W L, 0, 0] : List Int) = hd W L from rfl, refof_eq k (hd W L) (hd_words h) (by simp [hd]) (by simp [hd]; omega), Option.bind_some, if_pos (by simp [hd]), show ((nmore 0 (hd W L) : Nat) : Int) = hsum W L from rfl, u _ hs.1 (by omega)]
    rfl
  · rw [if_neg (by simp only [decide_eq_true_eq]; omega), if_neg h]
/-- The inner loop: the head's words are held against those asked, one by one; where one differs the next number of lanes is tried. -/
theorem ref_same (x h : List Int) (n c : Int) (hx : 8 ≤ x.length) (hh : h.length = 8) (R : Int × Int × Int) (K : Nat) (hn : ∀ k, K ≤ k → lockfastref06_Decode.l0 k x (wrap64 (c + 1)) = some R) (d : Nat) : ∀ (k i : Nat), K + d + 3 ≤ k → i + d = 8 →
    lockfastref06_Decode.l1 k x c h true (i : Int) n c = some (if (x.take 8).drop i = h.drop i then (n, c, 0) else R) := by
  induction d with
  | zero =>
    intro k i hk hi
    obtain ⟨k, rfl⟩ : ∃ k', k = k' + 1 := ⟨k - 1, by omega⟩
    simp only [lockfastref06_Decode.l1]
    rw [if_pos trivial, if_neg (by omega), List.drop_eq_nil_of_le (by rw [List.length_take]; omega), List.drop_eq_nil_of_le (by omega), if_pos rfl]
  | succ d ih =>
    intro k i hk hi
    obtain ⟨k, rfl⟩ : ∃ k', k = k' + 1 := ⟨k - 1, by omega⟩
    have h1 : (x.take 8).drop i = rd x (i : Int) :: (x.take 8).drop (i + 1) := by
      rw [List.drop_eq_getElem_cons (by rw [List.length_take]; omega)]
      simp [rd, show i < x.length from by omega]
    have h2 : h.drop i = rd h (i : Int) :: h.drop (i + 1) := by
      rw [List.drop_eq_getElem_cons (by omega)]
      simp [rd, show i < h.length from by omega]
    simp only [lockfastref06_Decode.l1]
    rw [if_pos trivial, if_pos (by omega), if_pos (by omega), if_pos (by omega), if_pos (by omega), w64 (by omega)]
    by_cases e : rd h (i : Int) = rd x (i : Int)
    · rw [e, beq_self_eq_true, show (i : Int) + 1 = ((i + 1 : Nat) : Int) from rfl, ih k (i + 1) (by omega) (by omega)]
      congr 1
      by_cases q : (x.take 8).drop (i + 1) = h.drop (i + 1)
      · rw [if_pos q, if_pos (by rw [h1, h2, e, q])]
      · rw [if_neg q, if_neg (by rw [h1, h2, e]; simpa using q)]
    · rw [show (rd h (i : Int) == rd x (i : Int)) = false from by simpa using e]
      obtain ⟨k, rfl⟩ : ∃ k', k = k' + 1 := ⟨k - 1, by omega⟩
      simp only [lockfastref06_Decode.l1]
      rw [if_neg (by decide), hn k (by omega), if_neg (by rw [h1, h2]; simp only [List.cons.injEq, not_and]; intro q; exact absurd q.symm e)]
/-- The outer loop: from a number of lanes on. -/
theorem ref_lanes (x : List Int) (hs : x.length ≤ 1000) (d : Nat) : ∀ (k c : Nat), 20 * d + 2300 ≤ k → c + d = 65 → lockfastref06_Decode.l0 k x (c : Int) = some (if HR x ∧ (c : Int) ≤ rd x 3 then ((x.length : Int), rd x 3, 0) else (0, 0, 7)) := by
  induction d with
  | zero =>
    intro k c hk hc
    obtain ⟨k, rfl⟩ : ∃ k', k = k' + 2 := ⟨k - 2, by omega⟩
    simp only [lockfastref06_Decode.l0]
    rw [if_neg (by omega)]
    simp only [lockfastref06_Decode.j1]
    rw [if_neg (by decide), if_neg (fun q => by have := chunksZ_in q.1.1; omega)]
  | succ d ih =>
    intro k c hk hc
    obtain ⟨k, rfl⟩ : ∃ k', k = k' + 2 := ⟨k - 2, by omega⟩
    simp only [lockfastref06_Decode.l0]
    rw [if_pos (by omega)]
    by_cases h8 : (x.length : Int) ≥ 8
    · rw [decide_eq_true h8]
      simp only [lockfastref06_Decode.j1]
      rw [if_pos trivial, refencode_eq k (by omega), Option.bind_some]
      have hn : ∀ k', 20 * d + 2300 ≤ k' → lockfastref06_Decode.l0 k' x (wrap64 ((c : Int) + 1)) = some (if HR x ∧ ((c + 1 : Nat) : Int) ≤ rd x 3 then ((x.length : Int), rd x 3, 0) else (0, 0, 7)) := fun k' hk' => by
        rw [w64 (by omega), show (c : Int) + 1 = ((c + 1 : Nat) : Int) from rfl, ih k' (c + 1) hk' (by omega)]
      by_cases hg : 0 < chunksZ (x.length : Int) (c : Int)
      · rw [if_pos hg]
        dsimp only
        rw [beq_self_eq_true]
        have r0 := ref_same x (head (x.length : Int) (c : Int)) (x.length : Int) (c : Int) (by omega) rfl _ (20 * d + 2300) hn 8 k 0 (by omega) (by omega)
        rw [List.drop_zero, List.drop_zero] at r0
        refine r0.trans ?_
        congr 1
        by_cases e : x.take 8 = head (x.length : Int) (c : Int)
        · have hr : rd x 3 = (c : Int) := by
            obtain ⟨a0, a1, a2, a3, a4, a5, a6, a7, t, hl⟩ := eight x (by omega)
            have ht : x.take 8 = [a0, a1, a2, a3, a4, a5, a6, a7] := by rw [hl]; rfl
            rw [ht] at e
            unfold head at e
            simp only [List.cons.injEq] at e
            rw [hl]
            exact e.2.2.2.1
          have hq : HR x := by
            unfold HR
            rw [hr]
            exact ⟨hg, e⟩
          rw [if_pos e, if_pos ⟨hq, by omega⟩, hr]
        · rw [if_neg e]
          by_cases q : HR x ∧ (c : Int) ≤ rd x 3
          · have hne : rd x 3 ≠ (c : Int) := fun r => e (by have := q.1.2; rwa [r] at this)
            rw [if_pos q, if_pos ⟨q.1, by omega⟩]
          · rw [if_neg q, if_neg (fun r => q ⟨r.1, by omega⟩)]
      · rw [if_neg hg]
        dsimp only
        obtain ⟨k, rfl⟩ : ∃ k', k = k' + 1 := ⟨k - 1, by omega⟩
        rw [show ((1 : Int) == 0) = false from by decide]
        simp only [lockfastref06_Decode.l1]
        rw [if_neg (by decide), hn k (by omega)]
        congr 1
        by_cases q : HR x ∧ (c : Int) ≤ rd x 3
        · have hne : rd x 3 ≠ (c : Int) := fun r => hg (by have := q.1.1; rwa [r] at this)
          rw [if_pos q, if_pos ⟨q.1, by omega⟩]
        · rw [if_neg q, if_neg (fun r => q ⟨r.1, by omega⟩)]
    · rw [decide_eq_false h8]
      simp only [lockfastref06_Decode.j1]
      rw [if_neg (by decide), if_neg (fun q => by have := chunksZ_in q.1.1; omega)]
theorem refdecode_eq (k : Nat) (hk : 4000 ≤ k) (x : List Int) (hs : x.length ≤ 1000) : lockfastref06_Decode.f k x = some (if HR x then ((x.length : Int), rd x 3, 0) else (0, 0, 7)) := by
  unfold lockfastref06_Decode.f
  rw [show (1 : Int) = ((1 : Nat) : Int) from rfl, ref_lanes x hs 64 k 1 (by omega) (by omega)]
  congr 1
  by_cases q : HR x
  · have := chunksZ_in q.1
    rw [if_pos q, if_pos ⟨q, by omega⟩]
  · rw [if_neg q, if_neg (fun r => q r.1)]

theorem words_set {l : List Int} (hl : Words l) (i : Nat) {v : Int} (h0 : 0 ≤ v) (h1 : v < 18446744073709551616) : Words (l.set i v) := fun x hx => by
  rcases List.mem_or_eq_of_mem_set hx with h | h
  · exact hl x h
  · rw [h]; exact ⟨h0, h1⟩
theorem SuperDecodes : lockfastlaw06_SuperDecodes.Pure := by
  intro l a _ _ h2 ha
  refine ⟨5001, ?_⟩
  have hw := words_wf h2
  have hA := bounds_u16 ha
  unfold lockfastlaw06_SuperDecodes.f
  rw [super_awake, Option.bind_some]
  by_cases c : (l.length : Int) > 8
  · rw [if_pos c]
  · have hm : wrap64 (Int.tmod a 301) = a % 301 := by rw [Int.tmod_eq_emod_of_nonneg hA.1, w64 (by omega)]
    obtain ⟨n, hn⟩ := Int.eq_ofNat_of_zero_le (show 0 ≤ a % 301 from by omega)
    rw [if_neg c, Option.bind_some, if_pos (by simp; omega), Option.bind_some, hm, hn, if_pos (by omega), List.nil_append, Int.toNat_natCast, if_pos (by omega), Option.bind_some]
    have hx : Words (l ++ List.replicate n 0) := words_app hw (nought_words n)
    have hs : (l ++ List.replicate n 0).length ≤ 1000 := by rw [List.length_append, List.length_replicate]; omega
    generalize l ++ List.replicate n 0 = x at hx hs
    rw [decode_eq x hx, Option.bind_some, refdecode_eq 5001 (by decide) x hs, Option.bind_some, if_pos rfl]
    simp only [beq_self_eq_true, Bool.not_true, Bool.or_self, lockfastlaw06_SuperDecodes.j0]
    rw [if_neg (by decide)]
    by_cases h8 : (x.length : Int) < 8
    · rw [if_pos h8]
    · have hc := nmore_lt 0 (x.take 7) (words_take hx 7) (by decide)
      rw [if_neg h8, if_pos (by omega), of_nat (words_take hx 7), Option.bind_some, if_pos (by omega), Option.bind_some]
      have hy : Words (x.set (7 : Int).toNat (IntKind.u64.wrap ((nmore 0 (x.take 7) : Nat) : Int))) := words_set hx _ (by rw [IntKind.wrap_u64]; omega) (by rw [IntKind.wrap_u64]; omega)
      have hys : (x.set (7 : Int).toNat (IntKind.u64.wrap ((nmore 0 (x.take 7) : Nat) : Int))).length ≤ 1000 := by rw [List.length_set]; exact hs
      generalize x.set (7 : Int).toNat (IntKind.u64.wrap ((nmore 0 (x.take 7) : Nat) : Int)) = y at hy hys
      rw [decode_eq y hy, Option.bind_some, refdecode_eq 5000 (by decide) y hys, Option.bind_some, if_pos rfl, if_pos trivial]
      simp only [beq_self_eq_true, Bool.and_self]

end Go.Proofs.Ytmflkbmjchapiaa.Pure
