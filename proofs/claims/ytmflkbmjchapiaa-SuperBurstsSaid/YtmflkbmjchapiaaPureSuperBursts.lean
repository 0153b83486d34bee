/- A head that differs within 32 bits in a row is none: all right heads have one check sum with theirs. -/
import Derived.Test.YtmflkbmjchapiaaPSuperBurstsx7
import Derived.Test.YtmflkbmjchapiaaCrcMath
import Derived.OpenShut
namespace Go.Proofs.Ytmflkbmjchapiaa.Pure
open Go.RowKit Go.Proofs.YtmflkbmjchapiaaX Go.Proofs.Ytmflkbmjchapiaa.PSuperBursts Go.Proofs.YtmflkbmjchapiaaW.PrintWords Go.Proofs.YtmflkbmjchapiaaW.PrintLast Go.Proofs.YtmflkbmjchapiaaW.PrintMore

theorem words_wf {l : List Int} (h : ∀ x ∈ l, (Lit.int .u64 x).wf = true) : Words l := fun x hx => by
  have := bounds_u64 (h x hx)
  omega
theorem w64 {x : Int} (h : -9223372036854775808 ≤ x ∧ x ≤ 9223372036854775807) : wrap64 x = x := by unfold wrap64; omega
theorem words_nil : Words [] := fun x hx => by simp at hx
theorem words_app {l m : List Int} (hl : Words l) (hm : Words m) : Words (l ++ m) := fun x hx => by
  rcases List.mem_append.mp hx with h | h
  · exact hl x h
  · exact hm x h
theorem words_one {x : Int} (h0 : 0 ≤ x) (h1 : x < 18446744073709551616) : Words [x] := fun y hy => by
  have : y = x := by simpa using hy
  omega
theorem words_take {l : List Int} (hl : Words l) (n : Nat) : Words (l.take n) := fun x hx => hl x (List.mem_of_mem_take hx)
theorem words_drop {l : List Int} (hl : Words l) (n : Nat) : Words (l.drop n) := fun x hx => hl x (List.mem_of_mem_drop hx)
theorem more_nat {s : Nat} {l : List Int} (hl : Words l) (h : s < 4294967296) : seal_More.f (s : Int) l = some ((nmore s l : Nat) : Int) := congrArg some (crcMore_nat s l hl h)
theorem of_nat {l : List Int} (hl : Words l) : seal_Of.f l = some ((nmore 0 l : Nat) : Int) := by
  unfold seal_Of.f
  rw [show (0 : Int) = ((0 : Nat) : Int) from rfl, more_nat hl (by decide)]
  rfl
theorem seal_eq {l : List Int} (hl : Words l) (hs : l.length ≤ 1000) : seal_Seal.f l = some (l ++ [((nmore 0 l : Nat) : Int)]) := by
  unfold seal_Seal.f
  have hc := nmore_lt 0 l hl (by decide)
  rw [if_pos (by omega), show crcMore 0 l = ((nmore 0 l : Nat) : Int) from crcMore_nat 0 l hl (by decide), IntKind.wrap_u64, Int.emod_eq_of_lt (by omega) (by omega)]
theorem tdiv_nn (x n : Int) (h : 0 ≤ x) : Int.tdiv x n = x / n := Int.tdiv_eq_ediv_of_nonneg h
theorem tmodn (x n : Int) (h : 0 ≤ x) : Int.tmod x n = x % n := Int.tmod_eq_emod_of_nonneg h

def chunksZ (W L : Int) : Int := if 1 ≤ L ∧ L ≤ 64 ∧ 1 ≤ W ∧ W ≤ 65536 ∧ 10 + 73 * L ≤ W then (W - (10 + 73 * L)) / 33 else 0

theorem can_eq (W L : Int) : geo_can.f W L = some (decide (1 ≤ L ∧ L ≤ 64 ∧ 1 ≤ W ∧ W ≤ 65536)) := by
  unfold geo_can.f
  by_cases h1 : L ≥ 1
  · rw [if_pos h1]
    by_cases h2 : L ≤ 64
    · rw [if_pos h2]
      by_cases h3 : W ≥ 1
      · rw [if_pos h3]; congr 1; rw [decide_eq_decide]; omega
      · rw [if_neg h3]; congr 1; symm; rw [decide_eq_false_iff_not]; omega
    · rw [if_neg h2]; congr 1; symm; rw [decide_eq_false_iff_not]; omega
  · rw [if_neg h1]; congr 1; symm; rw [decide_eq_false_iff_not]; omega

theorem table_eq (W L : Int) (h1 : 1 ≤ L) (h2 : L ≤ 64) : geo_table.f W L = some (10 + 73 * L) := by
  unfold geo_table.f geo_logs.f
  simp only [Option.bind_some]
  rw [w64 (x := 10 + L) (by omega), w64 (x := L * 72) (by omega), w64 (by omega)]
  congr 1; omega

theorem chunks_eq (W L : Int) : geo_Chunks.f W L = some (chunksZ W L) := by
  unfold geo_Chunks.f
  rw [can_eq]; simp only [Option.bind_some]
  by_cases h : 1 ≤ L ∧ L ≤ 64 ∧ 1 ≤ W ∧ W ≤ 65536
  · rw [if_pos (decide_eq_true h), table_eq _ _ h.1 h.2.1]; simp only [Option.bind_some]
    rw [w64 (x := W - (10 + 73 * L)) (by omega)]
    congr 1; unfold chunksZ
    by_cases hp : 10 + 73 * L ≤ W
    · rw [if_pos (by omega), tdiv_nn _ _ (by omega), w64 (by omega)]; unfold mx; split <;> omega
    · rw [if_neg (by omega)]
      obtain ⟨y, hy⟩ : ∃ y, W - (10 + 73 * L) = -y := ⟨-(W - (10 + 73 * L)), by omega⟩
      rw [hy, Int.neg_tdiv, tdiv_nn _ _ (by omega), w64 (by omega)]; unfold mx; split <;> omega
  · rw [if_neg (by simpa using h)]; congr 1; unfold chunksZ; rw [if_neg (by omega)]


theorem chunksZ_le (W L : Int) : 0 ≤ chunksZ W L ∧ chunksZ W L ≤ 1984 := by unfold chunksZ; split <;> omega

theorem small_eq (a b c : Int) (ha : 0 ≤ a ∧ a ≤ 255) (hb : 0 ≤ b ∧ b ≤ 255) (hc : 0 ≤ c ∧ c ≤ 255) :
    lockfastref05_Small.f a b c = some (10 + 73 * (1 + a % 64) + 33 * (1 + b % 200) + c % 33, 1 + a % 64) := by
  unfold lockfastref05_Small.f
  rw [tmodn _ _ ha.1, tmodn _ _ hb.1, tmodn _ _ hc.1, w64 (x := a % 64) (by omega), w64 (x := b % 200) (by omega), w64 (x := c % 33) (by omega), w64 (x := 1 + a % 64) (by omega), w64 (x := 1 + b % 200) (by omega), w64 (x := 73 * (1 + a % 64)) (by omega), w64 (x := 10 + 73 * (1 + a % 64)) (by omega), w64 (x := 33 * (1 + b % 200)) (by omega), w64 (x := 10 + 73 * (1 + a % 64) + 33 * (1 + b % 200)) (by omega), w64 (by omega)]

theorem small_chunks (a b c : Int) : chunksZ (10 + 73 * (1 + a % 64) + 33 * (1 + b % 200) + c % 33) (1 + a % 64) = 1 + b % 200 := by
  unfold chunksZ; rw [if_pos (by omega)]; omega
theorem super_right (W L : Int) : geo_Right.f W L = some (decide (0 < chunksZ W L)) := by
  unfold geo_Right.f; rw [chunks_eq]; rfl
/-- A head's words ahead of its check sum. -/
def hd (W L : Int) : List Int := [6076272092419149644, 1, W, L, chunksZ W L, 0, 0]
def hsum (W L : Int) : Int := ((nmore 0 (hd W L) : Nat) : Int)
def head (W L : Int) : List Int := [6076272092419149644, 1, W, L, chunksZ W L, 0, 0, hsum W L]
theorem chunksZ_in {W L : Int} (h : 0 < chunksZ W L) : 1 ≤ L ∧ L ≤ 64 ∧ 1 ≤ W ∧ W ≤ 65536 ∧ 10 + 73 * L + 33 ≤ W := by unfold chunksZ at h; split at h <;> omega
theorem hd_words {W L : Int} (h : 0 < chunksZ W L) : Words (hd W L) := by
  have hc := chunksZ_in h
  have hb := chunksZ_le W L
  intro x hx
  simp only [hd, List.mem_cons, List.not_mem_nil, or_false] at hx
  rcases hx with rfl | rfl | rfl | rfl | rfl | rfl | rfl <;> omega
theorem hsum_in {W L : Int} (h : 0 < chunksZ W L) : 0 ≤ hsum W L ∧ hsum W L < 4294967296 := by
  have := nmore_lt 0 (hd W L) (hd_words h) (by decide)
  unfold hsum
  omega
theorem head_words {W L : Int} (h : 0 < chunksZ W L) : Words (head W L) := by
  have hs := hsum_in h
  intro x hx
  have e : head W L = hd W L ++ [hsum W L] := rfl
  rw [e] at hx
  rcases List.mem_append.mp hx with hx | hx
  · exact hd_words h x hx
  · have : x = hsum W L := by simpa using hx
    omega
theorem of_eq {W L : Int} (h : 0 < chunksZ W L) : super_of.f W L = some (6076272092419149644, 1, W, L, chunksZ W L, 0, 0, hsum W L) := by
  have hc := chunksZ_in h
  have hb := chunksZ_le W L
  have u : ∀ x : Int, 0 ≤ x → x < 18446744073709551616 → IntKind.u64.wrap x = x := fun x h0 h1 => by rw [IntKind.wrap_u64]; omega
  unfold super_of.f
  rw [chunks_eq, Option.bind_some, u W (by omega) (by omega), u L (by omega) (by omega), u (chunksZ W L) (by omega) (by omega)]
  rw [show ([6076272092419149644, 1, W, L, chunksZ W L, 0, 0] : List Int) = hd W L from rfl, seal_eq (hd_words h) (by simp [hd]), Option.bind_some]
  rw [show hd W L ++ [((nmore 0 (hd W L) : Nat) : Int)] = head W L from rfl, show ((head W L).length : Int) = 8 from rfl]
  rw [if_pos (by decide), if_pos (by decide), if_pos (by decide), if_pos (by decide), if_pos (by decide), if_pos (by decide), if_pos (by decide), if_pos (by decide)]
  rfl
theorem encode_eq (W L : Int) : super_Encode.f W L = some (if 0 < chunksZ W L then (head W L, 0) else ([], 1)) := by
  unfold super_Encode.f
  rw [super_right, Option.bind_some]
  by_cases h : 0 < chunksZ W L
  · rw [decide_eq_true h, if_pos rfl, of_eq h, Option.bind_some, if_pos h]
    rfl
  · rw [decide_eq_false h, if_neg (by decide), if_neg h]
theorem encode_ok {W L : Int} (h : 0 < chunksZ W L) : super_Encode.f W L = some (head W L, 0) := by rw [encode_eq, if_pos h]
theorem eight (l : List Int) (h : 8 ≤ l.length) : ∃ a0 a1 a2 a3 a4 a5 a6 a7 t, l = a0 :: a1 :: a2 :: a3 :: a4 :: a5 :: a6 :: a7 :: t := by
  match l, h with
  | a0 :: a1 :: a2 :: a3 :: a4 :: a5 :: a6 :: a7 :: t, _ => exact ⟨a0, a1, a2, a3, a4, a5, a6, a7, t, rfl⟩
/-- Words that are a pool's head, their own number and their fourth word being its geometry. -/
def HR (l : List Int) : Prop := 0 < chunksZ (l.length : Int) (rd l 3) ∧ l.take 8 = head (l.length : Int) (rd l 3)
instance (l : List Int) : Decidable (HR l) := by unfold HR; infer_instance
theorem decode_eq (l : List Int) (hw : Words l) : super_Decode.f l = some (if HR l then ((l.length : Int), rd l 3, 0) else (0, 0, 7)) := by
  unfold super_Decode.f
  by_cases h8 : (l.length : Int) < 8
  · rw [if_pos h8, if_neg (fun h => by have := chunksZ_in h.1; omega)]
  · obtain ⟨a0, a1, a2, a3, a4, a5, a6, a7, t, hl⟩ := eight l (by omega)
    have h3 := hw a3 (by rw [hl]; simp)
    have ht : l.take 8 = [a0, a1, a2, a3, a4, a5, a6, a7] := by rw [hl]; rfl
    have hr : rd l 3 = a3 := by rw [hl]; rfl
    have hHR : HR l ↔ 0 < chunksZ (l.length : Int) a3 ∧ [a0, a1, a2, a3, a4, a5, a6, a7] = head (l.length : Int) a3 := by
      unfold HR
      rw [ht, hr]
    have hif : ∀ x y : Int × Int × Int, (if HR l then x else y) = if 0 < chunksZ (l.length : Int) a3 ∧ [a0, a1, a2, a3, a4, a5, a6, a7] = head (l.length : Int) a3 then x else y := fun x y => by
      by_cases c : HR l
      · rw [if_pos c, if_pos (hHR.mp c)]
      · rw [if_neg c, if_neg (fun q => c (hHR.mpr q))]
    rw [if_neg h8, if_pos (by omega), hif, ht, hr]
    have e3 : rd [a0, a1, a2, a3, a4, a5, a6, a7] 3 = a3 := rfl
    have e0 : rd [a0, a1, a2, a3, a4, a5, a6, a7] 0 = a0 := rfl
    have e1 : rd [a0, a1, a2, a3, a4, a5, a6, a7] 1 = a1 := rfl
    have e2 : rd [a0, a1, a2, a3, a4, a5, a6, a7] 2 = a2 := rfl
    have e4 : rd [a0, a1, a2, a3, a4, a5, a6, a7] 4 = a4 := rfl
    have e5 : rd [a0, a1, a2, a3, a4, a5, a6, a7] 5 = a5 := rfl
    have e6 : rd [a0, a1, a2, a3, a4, a5, a6, a7] 6 = a6 := rfl
    have e7 : rd [a0, a1, a2, a3, a4, a5, a6, a7] 7 = a7 := rfl
    rw [e0, e1, e2, e3, e4, e5, e6, e7, show (([a0, a1, a2, a3, a4, a5, a6, a7] : List Int).length : Int) = 8 from rfl]
    rw [if_pos (by decide), if_pos (by decide), if_pos (by decide), if_pos (by decide), if_pos (by decide), if_pos (by decide), if_pos (by decide), if_pos (by decide)]
    generalize (l.length : Int) = n at *
    by_cases h64 : a3 > 64
    · rw [if_pos h64, if_neg (fun h => by have := chunksZ_in h.1; omega)]
    · rw [if_neg h64, w64 (by omega), super_right, Option.bind_some]
      by_cases hc : 0 < chunksZ n a3
      · rw [decide_eq_true hc, if_pos rfl, of_eq hc, Option.bind_some]
        have nd : ∀ x y : Int, (x == y) = decide (x = y) := fun x y => by by_cases h : x = y <;> simp [h]
        have hh : [a0, a1, a2, a3, a4, a5, a6, a7] = head n a3 ↔ a0 = 6076272092419149644 ∧ a1 = 1 ∧ a2 = n ∧ a4 = chunksZ n a3 ∧ a5 = 0 ∧ a6 = 0 ∧ a7 = hsum n a3 := by
          unfold head
          simp only [List.cons.injEq, true_and, and_true]
        by_cases c : a0 = 6076272092419149644 ∧ a1 = 1 ∧ a2 = n ∧ a4 = chunksZ n a3 ∧ a5 = 0 ∧ a6 = 0 ∧ a7 = hsum n a3
        · rw [if_pos (⟨hc, hh.mpr c⟩ : _ ∧ _)]
          obtain ⟨q0, q1, q2, q4, q5, q6, q7⟩ := c
          rw [if_neg]
          dsimp only
          rw [q0, q1, q2, q4, q5, q6, q7]
          simp
        · rw [if_neg (fun q : _ ∧ _ => c (hh.mp q.2)), if_pos]
          dsimp only
          simp only [nd, ← decide_not, ← Bool.decide_or, decide_eq_true_eq]
          have nn : ¬ ¬ a3 = a3 := fun h => h rfl
          by_cases q0 : a0 = 6076272092419149644
          · by_cases q1 : a1 = 1
            · by_cases q2 : a2 = n
              · by_cases q4 : a4 = chunksZ n a3
                · by_cases q5 : a5 = 0
                  · by_cases q6 : a6 = 0
                    · exact .inr (.inr (.inr (.inr (.inr (.inr (.inr (fun q7 => c ⟨q0, q1, q2, q4, q5, q6, q7⟩)))))))
                    · exact .inr (.inr (.inr (.inr (.inr (.inr (.inl q6))))))
                  · exact .inr (.inr (.inr (.inr (.inr (.inl q5)))))
                · exact .inr (.inr (.inr (.inr (.inl q4))))
              · exact .inr (.inr (.inl q2))
            · exact .inr (.inl q1)
          · exact .inl q0
      · rw [decide_eq_false hc, if_neg (by decide), if_neg (fun h : _ ∧ _ => hc h.1)]
theorem head_take (W L : Int) (t : List Int) : (head W L ++ t).take 8 = head W L := List.take_left' rfl
theorem head_rd (W L : Int) (t : List Int) : rd (head W L ++ t) 3 = L := rfl
theorem HR_head (W L : Int) (t : List Int) (h : 0 < chunksZ W L) : HR (head W L ++ t) ↔ (t.length : Int) + 8 = W := by
  unfold HR
  rw [head_take, head_rd, show ((head W L ++ t).length : Int) = (t.length : Int) + 8 from by rw [List.length_append, show (head W L).length = 8 from rfl]; omega]
  constructor
  · rintro ⟨_, e⟩
    unfold head at e
    simp only [List.cons.injEq] at e
    exact e.2.2.1.symm
  · intro e
    rw [e]
    exact ⟨h, rfl⟩
theorem nought_words (n : Nat) : Words (List.replicate n 0) := fun x hx => by
  have := List.eq_of_mem_replicate hx
  omega
theorem super_awake : lockfastlaw06_awake.f = some true := by
  have hc : chunksZ 149 1 = 2 := by decide
  unfold lockfastlaw06_awake.f
  rw [encode_ok (by omega), Option.bind_some]
  dsimp only
  rw [if_pos rfl, show ((head 149 1).length : Int) = 8 from rfl, if_pos (by decide), if_pos (by rw [show (head 149 1).length = 8 from rfl]; decide), decode_eq _ (words_app (head_words (by omega)) (nought_words 141)), Option.bind_some, if_pos ((HR_head 149 1 (List.replicate 141 0) (by omega)).mpr (by rw [List.length_replicate]; rfl))]
  rw [head_rd, show (((head 149 1 ++ List.replicate 141 (0 : Int) : List Int).length : Nat) : Int) = (149 : Int) from by rw [List.length_append, List.length_replicate]; rfl]
  rw [if_pos rfl, if_pos (by decide), if_pos (by decide), show rd (head 149 1) 4 = chunksZ 149 1 from rfl, hc]
  rfl
theorem words_loop (l m : List Int) (hlen : l.length = m.length) (hs : l.length ≤ 1000) (d : Nat) : ∀ (k i : Nat), d + 1 ≤ k → i + d = l.length → lockfastref01_Words.l0 k l m (i : Int) = some (decide (l.drop i = m.drop i)) := by
  induction d with
  | zero =>
    intro k i hk hi
    obtain ⟨k, rfl⟩ : ∃ k', k = k' + 1 := ⟨k - 1, by omega⟩
    simp only [lockfastref01_Words.l0]
    rw [if_neg (by omega), List.drop_eq_nil_of_le (by omega), List.drop_eq_nil_of_le (by omega)]
    simp
  | succ d ih =>
    intro k i hk hi
    obtain ⟨k, rfl⟩ : ∃ k', k = k' + 1 := ⟨k - 1, by omega⟩
    have h1 : l.drop i = rd l (i : Int) :: l.drop (i + 1) := by
      rw [List.drop_eq_getElem_cons (by omega)]
      simp [rd, show i < l.length from by omega]
    have h2 : m.drop i = rd m (i : Int) :: m.drop (i + 1) := by
      rw [List.drop_eq_getElem_cons (by omega)]
      simp [rd, show i < m.length from by omega]
    simp only [lockfastref01_Words.l0]
    rw [if_pos (by omega), if_pos (by omega), if_pos (by omega), h1, h2]
    by_cases e : rd l (i : Int) = rd m (i : Int)
    · rw [if_pos e, e, w64 (by omega), show (i : Int) + 1 = ((i + 1 : Nat) : Int) from rfl, ih k (i + 1) (by omega) (by omega)]
      simp
    · rw [if_neg e]
      simp [e]
theorem wordsf_eq (k : Nat) (l m : List Int) (hs : l.length ≤ 1000) (hk : l.length + 1 ≤ k) : lockfastref01_Words.f k l m = some (decide (l = m)) := by
  unfold lockfastref01_Words.f
  by_cases e : l.length = m.length
  · rw [if_pos (by omega)]
    have h := words_loop l m e hs l.length k 0 (by omega) (by omega)
    simpa using h
  · rw [if_neg (by omega)]
    have : l ≠ m := fun h => e (by rw [h])
    simp [this]
theorem rd_in (l : List Int) (i : Nat) (h : i < l.length) : rd l (i : Int) ∈ l := by
  simp [rd, h]
/-- A bit of a number of 32, as the law asks for it. -/
theorem shr_bit (b i : Nat) (hb : b < 4294967296) (hi : i < 32) : Go.bits .and .u32 (shr .u32 (b : Int) (i : Int)) 1 = ((b / 2 ^ i % 2 : Nat) : Int) := by
  have h1 : shr .u32 (b : Int) (i : Int) = ((b / 2 ^ i : Nat) : Int) := by
    unfold shr
    rw [Int.toNat_natCast, show min i IntKind.u32.bits = i from by simp only [IntKind.bits]; omega]
    simp
  rw [h1, show (1 : Int) = ((1 : Nat) : Int) from rfl, u32_and_nat _ _ (Nat.lt_of_le_of_lt (Nat.div_le_self _ _) hb) (by decide), nat_mask1]
theorem shl_one (i : Nat) (hi : i < 64) : shl .u64 1 (i : Int) = ((2 ^ i : Nat) : Int) := by
  have h : 2 ^ i < 2 ^ 64 := Nat.pow_lt_pow_right (by omega) hi
  unfold shl
  rw [Int.toNat_natCast, show min i IntKind.u64.bits = i from by simp only [IntKind.bits]; omega, IntKind.wrap_u64, Int.one_mul, show (2 : Int) ^ i = ((2 ^ i : Nat) : Int) from by simp]
  generalize 2 ^ i = n at h ⊢
  omega
/-- One bit of a row of words, turned. -/
theorem flip_big (x : List Int) (hw : Words x) (p : Nat) (h : p < 64 * x.length) :
    (x.set ((p / 64 : Nat) : Int).toNat (Go.bits .xor .u64 (rd x ((p / 64 : Nat) : Int)) (shl .u64 1 ((p % 64 : Nat) : Int)))).length = x.length ∧
    Words (x.set ((p / 64 : Nat) : Int).toNat (Go.bits .xor .u64 (rd x ((p / 64 : Nat) : Int)) (shl .u64 1 ((p % 64 : Nat) : Int)))) ∧
    big (x.set ((p / 64 : Nat) : Int).toNat (Go.bits .xor .u64 (rd x ((p / 64 : Nat) : Int)) (shl .u64 1 ((p % 64 : Nat) : Int)))) = big x ^^^ 2 ^ p := by
  have hj : p / 64 < x.length := by omega
  have hm : rd x ((p / 64 : Nat) : Int) ∈ x := rd_in x _ hj
  have hr := hw _ hm
  obtain ⟨n, hn⟩ := Int.eq_ofNat_of_zero_le hr.1
  have hn2 : n < 2 ^ 64 := by omega
  have hp2 : 2 ^ (p % 64) < 2 ^ 64 := Nat.pow_lt_pow_right (by omega) (by omega)
  have hv : Go.bits .xor .u64 (rd x ((p / 64 : Nat) : Int)) (shl .u64 1 ((p % 64 : Nat) : Int)) = (((rd x ((p / 64 : Nat) : Int)).toNat ^^^ 2 ^ (p % 64) : Nat) : Int) := by
    rw [shl_one _ (by omega), hn, u64_xor_nat _ _ hn2 hp2, Int.toNat_natCast]
  have hlt : (rd x ((p / 64 : Nat) : Int)).toNat ^^^ 2 ^ (p % 64) < 2 ^ 64 := by
    rw [hn, Int.toNat_natCast]; exact Nat.xor_lt_two_pow hn2 hp2
  rw [hv, Int.toNat_natCast]
  refine ⟨by simp, fun y hy => ?_, ?_⟩
  · rcases List.mem_or_eq_of_mem_set hy with hy | hy
    · exact hw y hy
    · rw [hy]; omega
  · rw [big_set x (p / 64) _ hj (fun y hy => (hw y hy).1), ← Nat.pow_add, show 64 * (p / 64) + p % 64 = p from by omega]

theorem nfold_sealed (m : List Int) : nfold ones (m ++ [((nmore 0 m : Nat) : Int)]) = nturn 64 ones := by
  rw [nfold_append]
  show nturn 64 (nfold ones m ^^^ ((nmore 0 m : Nat) : Int).toNat) = nturn 64 ones
  rw [Int.toNat_natCast]
  unfold nmore
  rw [Nat.xor_zero]
  congr 1
  rw [Nat.xor_comm ones, ← Nat.xor_assoc, Nat.xor_self, Nat.zero_xor]
theorem nmore_head (W L : Int) : nmore 0 (head W L) = ones ^^^ nturn 64 ones := by
  have e : head W L = hd W L ++ [((nmore 0 (hd W L) : Nat) : Int)] := rfl
  unfold nmore
  rw [Nat.xor_zero, e, nfold_sealed _]
theorem bursts_loop (W L : Int) (h : 0 < chunksZ W L) (z : List Int) (hz : Words z) (hzl : (z.length : Int) + 8 = W) (by_ : Nat) (hb : by_ < 4294967296) (K : Nat) (hK : K < 512) (d : Nat) : ∀ (k i : Nat) (x : List Int), 2 * d + 100 ≤ k → i + d = 32 → K + i ≤ 512 → x.length = 8 → Words x →
    big x = big (head W L) ^^^ (2 ^ K * (by_ % 2 ^ i)) → (by_ % 2 ^ i = 0 → x = head W L) → lockfastlaw06_SuperBursts.l0 k (by_ : Int) true (head W L) (x ++ z) (K : Int) (i : Int) = some true := by
  have hc := chunksZ_in h
  have hh : (head W L).length = 8 := rfl
  have fin : ∀ (k i : Nat) (x : List Int), 60 ≤ k → x.length = 8 → Words x → i ≤ 32 → big x = big (head W L) ^^^ (2 ^ K * (by_ % 2 ^ i)) → (by_ % 2 ^ i = 0 → x = head W L) → lockfastlaw06_SuperBursts.j2 k (by_ : Int) true (head W L) (x ++ z) (K : Int) (i : Int) false = some true := by
    intro k i x hk hx hw hi hbig hzero
    obtain ⟨k, rfl⟩ : ∃ k', k = k' + 1 := ⟨k - 1, by omega⟩
    simp only [lockfastlaw06_SuperBursts.j2]
    have htk : (x ++ z).take 8 = x := List.take_left' hx
    have hlen : ((x ++ z).length : Int) = W := by rw [List.length_append, hx]; omega
    rw [if_neg (by decide), decode_eq _ (words_app hw hz), Option.bind_some, if_pos (by rw [hlen]; omega), htk, wordsf_eq k x (head W L) (by omega) (by omega), Option.bind_some, if_pos trivial]
    have hlt : by_ % 2 ^ i < 2 ^ 32 := Nat.lt_of_le_of_lt (Nat.mod_le _ _) hb
    by_cases e : x = head W L
    · rw [decide_eq_true e, e, if_pos ((HR_head W L z h).mpr hzl)]
      rfl
    · have hno : ¬ HR (x ++ z) := by
        rintro ⟨q1, q2⟩
        rw [hlen] at q1 q2
        rw [htk] at q2
        have e1 := nmore_head W L
        have e2 := nmore_head W (rd (x ++ z) 3)
        rw [← q2] at e2
        exact e (hzero (nmore_burst 0 K _ (head W L) x (by rw [hx]; rfl) (by rw [hh]; omega) hlt hbig (by rw [e1, e2])))
      rw [decide_eq_false e, if_neg hno]
      rfl
  induction d with
  | zero =>
    intro k i x hk hi hKi hx hw hbig hzero
    obtain ⟨k, rfl⟩ : ∃ k', k = k' + 1 := ⟨k - 1, by omega⟩
    simp only [lockfastlaw06_SuperBursts.l0]
    rw [if_neg (by omega)]
    exact fin k i x (by omega) hx hw (by omega) hbig hzero
  | succ d ih =>
    intro k i x hk hi hKi hx hw hbig hzero
    obtain ⟨k, rfl⟩ : ∃ k', k = k' + 2 := ⟨k - 2, by omega⟩
    simp only [lockfastlaw06_SuperBursts.l0]
    rw [if_pos (by omega), w64 (by omega)]
    by_cases e : (K : Int) + (i : Int) < 512
    · rw [decide_eq_true e]
      simp only [lockfastlaw06_SuperBursts.j2]
      have hs2 : by_ % 2 ^ (i + 1) = by_ % 2 ^ i + 2 ^ i * (by_ / 2 ^ i % 2) := Nat.mod_pow_succ
      rw [if_pos trivial, if_pos (by omega), shr_bit by_ i hb (by omega), w64 (show -9223372036854775808 ≤ (i : Int) + 1 ∧ (i : Int) + 1 ≤ 9223372036854775807 from by omega)]
      by_cases e1 : by_ / 2 ^ i % 2 = 1
      · rw [e1, if_pos (show ((1 : Nat) : Int) = 1 from rfl)]
        rw [show wrap64 ((K : Int) + (i : Int)) = ((K + i : Nat) : Int) from by rw [w64 (by omega)]; omega]
        rw [show Int.tdiv ((K + i : Nat) : Int) 64 = (((K + i) / 64 : Nat) : Int) from Int.tdiv_eq_ediv_of_nonneg (by omega), show Int.tmod ((K + i : Nat) : Int) 64 = (((K + i) % 64 : Nat) : Int) from Int.tmod_eq_emod_of_nonneg (by omega)]
        rw [w64 (by omega), if_pos (by omega), if_pos (by rw [List.length_append]; omega), if_pos (by omega)]
        have hj : (K + i) / 64 < x.length := by omega
        have hrd : rd (x ++ z) (((K + i) / 64 : Nat) : Int) = rd x (((K + i) / 64 : Nat) : Int) := by
          unfold rd
          rw [Int.toNat_natCast, List.getD_eq_getElem?_getD, List.getD_eq_getElem?_getD, List.getElem?_append_left hj]
        rw [hrd, Int.toNat_natCast, List.set_append_left _ _ hj]
        obtain ⟨h1, h2, h3⟩ := flip_big x hw (K + i) (by omega)
        rw [Int.toNat_natCast] at h1 h2 h3
        refine ih (k + 0) (i + 1) _ (by omega) (by omega) (by omega) (by rw [h1]; exact hx) h2 ?_ ?_
        · rw [h3, hbig, hs2, e1, Nat.mul_one, Nat.pow_add, Nat.xor_assoc, ← mul_xor]
          congr 2
          have hx1 := xor_low i (by_ % 2 ^ i) 1 (Nat.mod_lt _ (Nat.two_pow_pos i))
          rw [Nat.mul_one] at hx1
          omega
        · intro q
          rw [hs2, e1] at q
          have := Nat.two_pow_pos i
          omega
      · have e0 : by_ / 2 ^ i % 2 = 0 := by omega
        rw [e0, if_neg (by decide)]
        refine ih (k + 0) (i + 1) x (by omega) (by omega) (by omega) hx hw ?_ ?_
        · rw [hs2, e0, Nat.mul_zero, Nat.add_zero]; exact hbig
        · rw [hs2, e0, Nat.mul_zero, Nat.add_zero]; exact hzero
    · rw [decide_eq_false e]
      exact fin (k + 1) i x (by omega) hx hw (by omega) hbig hzero
theorem SuperBursts : lockfastlaw06_SuperBursts.Pure := by
  intro a b c at_ by_ ha hb hc hat hby
  refine ⟨300, ?_⟩
  have hA := bounds_u16 hat
  have hB := bounds_u32 hby
  obtain ⟨n, rfl⟩ := Int.eq_ofNat_of_zero_le hA.1
  obtain ⟨y, rfl⟩ := Int.eq_ofNat_of_zero_le hB.1
  have h1 := small_chunks a b c
  unfold lockfastlaw06_SuperBursts.f
  rw [super_awake, Option.bind_some, small_eq a b c (bounds_u8 ha) (bounds_u8 hb) (bounds_u8 hc), Option.bind_some]
  dsimp only
  have hp : 0 < chunksZ (10 + 73 * (1 + a % 64) + 33 * (1 + b % 200) + c % 33) (1 + a % 64) := by omega
  generalize 10 + 73 * (1 + a % 64) + 33 * (1 + b % 200) + c % 33 = W at *
  generalize 1 + a % 64 = L at *
  have hi := chunksZ_in hp
  rw [encode_ok hp, Option.bind_some]
  dsimp only
  rw [if_pos rfl, show (((head W L).length : Int) != 8) = false from rfl]
  simp only [lockfastlaw06_SuperBursts.j0]
  obtain ⟨m, hm⟩ := Int.eq_ofNat_of_zero_le (show 0 ≤ W - 8 from by omega)
  rw [if_neg (by decide), Option.bind_some, if_pos (by show 0 + 8 < _; decide), Option.bind_some, w64 (by omega), hm, if_pos (by omega), List.nil_append, Int.toNat_natCast, if_pos (by rw [show (head W L).length = 8 from rfl]; omega)]
  rw [show Int.tmod (wrap64 (n : Int)) 512 = ((n % 512 : Nat) : Int) from by rw [w64 (by omega), Int.tmod_eq_emod_of_nonneg (by omega)]; rfl]
  exact bursts_loop W L hp (List.replicate m 0) (nought_words m) (by rw [List.length_replicate]; omega) y (by omega) (n % 512) (Nat.mod_lt _ (by decide)) 32 299 0 (head W L) (by omega) (by omega) (by omega) rfl (head_words hp) (by rw [Nat.pow_zero, Nat.mod_one, Nat.mul_zero, Nat.xor_zero]) (fun _ => rfl)

end Go.Proofs.Ytmflkbmjchapiaa.Pure
