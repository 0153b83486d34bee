/- What is encoded is decoded, whatever stands behind it; with a word more, or fewer, it is not. -/
import Derived.Test.YtmflkbmjchapiaaPSuperBackx5
import Derived.Test.YtmflkbmjchapiaaCrcMath
import Derived.OpenShut
namespace Go.Proofs.Ytmflkbmjchapiaa.Pure
open Go.RowKit Go.Proofs.YtmflkbmjchapiaaX Go.Proofs.Ytmflkbmjchapiaa.PSuperBack Go.Proofs.YtmflkbmjchapiaaW.PrintWords Go.Proofs.YtmflkbmjchapiaaW.PrintLast Go.Proofs.YtmflkbmjchapiaaW.PrintMore

theorem words_wf {l : List Int} (h : ∀ x ∈ l, (Lit.int .u64 x).wf = true) : Words l := fun x hx => by
  have := bounds_u64 (h x hx)
  omega
theorem w64 {x : Int} (h : -9223372036854775808 ≤ x ∧ x ≤ 9223372036854775807) : wrap64 x = x := by unfold wrap64; omega
theorem words_nil : Words [] := fun x hx => by simp at hx
theorem words_app {l m : List Int} (hl : Words l) (hm : Words m) : Words (l ++ m) := fun x hx => by
  rcases List.mem_append.mp hx with h | h
  · exact hl x h
  · exact hm x h
theorem words_one {x : Int} (h0 : 0 ≤ x) (h1 : x < 18446744073709551616) : Words [x] := fun y hy => by
  have : y = x := by simpa using hy
  omega
theorem words_take {l : List Int} (hl : Words l) (n : Nat) : Words (l.take n) := fun x hx => hl x (List.mem_of_mem_take hx)
theorem words_drop {l : List Int} (hl : Words l) (n : Nat) : Words (l.drop n) := fun x hx => hl x (List.mem_of_mem_drop hx)
theorem more_nat {s : Nat} {l : List Int} (hl : Words l) (h : s < 4294967296) : seal_More.f (s : Int) l = some ((nmore s l : Nat) : Int) := congrArg some (crcMore_nat s l hl h)
theorem of_nat {l : List Int} (hl : Words l) : seal_Of.f l = some ((nmore 0 l : Nat) : Int) := by
  unfold seal_Of.f
  rw [show (0 : Int) = ((0 : Nat) : Int) from rfl, more_nat hl (by decide)]
  rfl
theorem seal_eq {l : List Int} (hl : Words l) (hs : l.length ≤ 1000) : seal_Seal.f l = some (l ++ [((nmore 0 l : Nat) : Int)]) := by
  unfold seal_Seal.f
  have hc := nmore_lt 0 l hl (by decide)
  rw [if_pos (by omega), show crcMore 0 l = ((nmore 0 l : Nat) : Int) from crcMore_nat 0 l hl (by decide), IntKind.wrap_u64, Int.emod_eq_of_lt (by omega) (by omega)]
theorem tdiv_nn (x n : Int) (h : 0 ≤ x) : Int.tdiv x n = x / n := Int.tdiv_eq_ediv_of_nonneg h
theorem tmodn (x n : Int) (h : 0 ≤ x) : Int.tmod x n = x % n := Int.tmod_eq_emod_of_nonneg h

def chunksZ (W L : Int) : Int := if 1 ≤ L ∧ L ≤ 64 ∧ 1 ≤ W ∧ W ≤ 65536 ∧ 10 + 73 * L ≤ W then (W - (10 + 73 * L)) / 33 else 0

theorem can_eq (W L : Int) : geo_can.f W L = some (decide (1 ≤ L ∧ L ≤ 64 ∧ 1 ≤ W ∧ W ≤ 65536)) := by
  unfold geo_can.f
  by_cases h1 : L ≥ 1
  · rw [if_pos h1]
    by_cases h2 : L ≤ 64
    · rw [if_pos h2]
      by_cases h3 : W ≥ 1
      · rw [if_pos h3]; congr 1; rw [decide_eq_decide]; omega
      · rw [if_neg h3]; congr 1; symm; rw [decide_eq_false_iff_not]; omega
    · rw [if_neg h2]; congr 1; symm; rw [decide_eq_false_iff_not]; omega
  · rw [if_neg h1]; congr 1; symm; rw [decide_eq_false_iff_not]; omega

theorem table_eq (W L : Int) (h1 : 1 ≤ L) (h2 : L ≤ 64) : geo_table.f W L = some (10 + 73 * L) := by
  unfold geo_table.f geo_logs.f
  simp only [Option.bind_some]
  rw [w64 (x := 10 + L) (by omega), w64 (x := L * 72) (by omega), w64 (by omega)]
  congr 1; omega

theorem chunks_eq (W L : Int) : geo_Chunks.f W L = some (chunksZ W L) := by
  unfold geo_Chunks.f
  rw [can_eq]; simp only [Option.bind_some]
  by_cases h : 1 ≤ L ∧ L ≤ 64 ∧ 1 ≤ W ∧ W ≤ 65536
  · rw [if_pos (decide_eq_true h), table_eq _ _ h.1 h.2.1]; simp only [Option.bind_some]
    rw [w64 (x := W - (10 + 73 * L)) (by omega)]
    congr 1; unfold chunksZ
    by_cases hp : 10 + 73 * L ≤ W
    · rw [if_pos (by omega), tdiv_nn _ _ (by omega), w64 (by omega)]; unfold mx; split <;> omega
    · rw [if_neg (by omega)]
      obtain ⟨y, hy⟩ : ∃ y, W - (10 + 73 * L) = -y := ⟨-(W - (10 + 73 * L)), by omega⟩
      rw [hy, Int.neg_tdiv, tdiv_nn _ _ (by omega), w64 (by omega)]; unfold mx; split <;> omega
  · rw [if_neg (by simpa using h)]; congr 1; unfold chunksZ; rw [if_neg (by omega)]


theorem chunksZ_le (W L : Int) : 0 ≤ chunksZ W L ∧ chunksZ W L ≤ 1984 := by unfold chunksZ; split <;> omega

theorem small_eq (a b c : Int) (ha : 0 ≤ a ∧ a ≤ 255) (hb : 0 ≤ b ∧ b ≤ 255) (hc : 0 ≤ c ∧ c ≤ 255) :
    lockfastref05_Small.f a b c = some (10 + 73 * (1 + a % 64) + 33 * (1 + b % 200) + c % 33, 1 + a % 64) := by
  unfold lockfastref05_Small.f
  rw [tmodn _ _ ha.1, tmodn _ _ hb.1, tmodn _ _ hc.1, w64 (x := a % 64) (by omega), w64 (x := b % 200) (by omega), w64 (x := c % 33) (by omega), w64 (x := 1 + a % 64) (by omega), w64 (x := 1 + b % 200) (by omega), w64 (x := 73 * (1 + a % 64)) (by omega), w64 (x := 10 + 73 * (1 + a % 64)) (by omega), w64 (x := 33 * (1 + b % 200)) (by omega), w64 (x := 10 + 73 * (1 + a % 64) + 33 * (1 + b % 200)) (by omega), w64 (by omega)]

theorem small_chunks (a b c : Int) : chunksZ (10 + 73 * (1 + a % 64) + 33 * (1 + b % 200) + c % 33) (1 + a % 64) = 1 + b % 200 := by
  unfold chunksZ; rw [if_pos (by omega)]; omega
theorem super_right (W L : Int) : geo_Right.f W L = some (decide (0 < chunksZ W L)) := by
  unfold geo_Right.f; rw [chunks_eq]; rfl
/-- A head's words ahead of its check sum. -/
def hd (W L : Int) : List Int := [6076272092419149644, 1, W, L, chunksZ W L, 0, 0]
def hsum (W L : Int) : Int := ((nmore 0 (hd W L) : Nat) : Int)
def head (W L : Int) : List Int := [6076272092419149644, 1, W, L, chunksZ W L, 0, 0, hsum W L]
theorem chunksZ_in {W L : Int} (h : 0 < chunksZ W L) : 1 ≤ L ∧ L ≤ 64 ∧ 1 ≤ W ∧ W ≤ 65536 ∧ 10 + 73 * L + 33 ≤ W := by unfold chunksZ at h; split at h <;> omega
theorem hd_words {W L : Int} (h : 0 < chunksZ W L) : Words (hd W L) := by
  have hc := chunksZ_in h
  have hb := chunksZ_le W L
  intro x hx
  simp only [hd, List.mem_cons, List.not_mem_nil, or_false] at hx
  rcases hx with rfl | rfl | rfl | rfl | rfl | rfl | rfl <;> omega
theorem hsum_in {W L : Int} (h : 0 < chunksZ W L) : 0 ≤ hsum W L ∧ hsum W L < 4294967296 := by
  have := nmore_lt 0 (hd W L) (hd_words h) (by decide)
  unfold hsum
  omega
theorem head_words {W L : Int} (h : 0 < chunksZ W L) : Words (head W L) := by
  have hs := hsum_in h
  intro x hx
  have e : head W L = hd W L ++ [hsum W L] := rfl
  rw [e] at hx
  rcases List.mem_append.mp hx with hx | hx
  · exact hd_words h x hx
  · have : x = hsum W L := by simpa using hx
    omega
theorem of_eq {W L : Int} (h : 0 < chunksZ W L) : super_of.f W L = some (6076272092419149644, 1, W, L, chunksZ W L, 0, 0, hsum W L) := by
  have hc := chunksZ_in h
  have hb := chunksZ_le W L
  have u : ∀ x : Int, 0 ≤ x → x < 18446744073709551616 → IntKind.u64.wrap x = x := fun x h0 h1 => by rw [IntKind.wrap_u64]; omega
  unfold super_of.f
  rw [chunks_eq, Option.bind_some, u W (by omega) (by omega), u L (by omega) (by omega), u (chunksZ W L) (by omega) (by omega)]
  rw [show ([6076272092419149644, 1, W, L, chunksZ W L, 0, 0] : List Int) = hd W L from rfl, seal_eq (hd_words h) (by simp [hd]), Option.bind_some]
  rw [show hd W L ++ [((nmore 0 (hd W L) : Nat) : Int)] = head W L from rfl, show ((head W L).length : Int) = 8 from rfl]
  rw [if_pos (by decide), if_pos (by decide), if_pos (by decide), if_pos (by decide), if_pos (by decide), if_pos (by decide), if_pos (by decide), if_pos (by decide)]
  rfl
theorem encode_eq (W L : Int) : super_Encode.f W L = some (if 0 < chunksZ W L then (head W L, 0) else ([], 1)) := by
  unfold super_Encode.f
  rw [super_right, Option.bind_some]
  by_cases h : 0 < chunksZ W L
  · rw [decide_eq_true h, if_pos rfl, of_eq h, Option.bind_some, if_pos h]
    rfl
  · rw [decide_eq_false h, if_neg (by decide), if_neg h]
theorem encode_ok {W L : Int} (h : 0 < chunksZ W L) : super_Encode.f W L = some (head W L, 0) := by rw [encode_eq, if_pos h]
theorem eight (l : List Int) (h : 8 ≤ l.length) : ∃ a0 a1 a2 a3 a4 a5 a6 a7 t, l = a0 :: a1 :: a2 :: a3 :: a4 :: a5 :: a6 :: a7 :: t := by
  match l, h with
  | a0 :: a1 :: a2 :: a3 :: a4 :: a5 :: a6 :: a7 :: t, _ => exact ⟨a0, a1, a2, a3, a4, a5, a6, a7, t, rfl⟩
/-- Words that are a pool's head, their own number and their fourth word being its geometry. -/
def HR (l : List Int) : Prop := 0 < chunksZ (l.length : Int) (rd l 3) ∧ l.take 8 = head (l.length : Int) (rd l 3)
instance (l : List Int) : Decidable (HR l) := by unfold HR; infer_instance
theorem decode_eq (l : List Int) (hw : Words l) : super_Decode.f l = some (if HR l then ((l.length : Int), rd l 3, 0) else (0, 0, 7)) := by
  unfold super_Decode.f
  by_cases h8 : (l.length : Int) < 8
  · rw [if_pos h8, if_neg (fun h => by have := chunksZ_in h.1; omega)]
  · obtain ⟨a0, a1, a2, a3, a4, a5, a6, a7, t, hl⟩ := eight l (by omega)
    have h3 := hw a3 (by rw [hl]; simp)
    have ht : l.take 8 = [a0, a1, a2, a3, a4, a5, a6, a7] := by rw [hl]; rfl
    have hr : rd l 3 = a3 := by rw [hl]; rfl
    have hHR : HR l ↔ 0 < chunksZ (l.length : Int) a3 ∧ [a0, a1, a2, a3, a4, a5, a6, a7] = head (l.length : Int) a3 := by
      unfold HR
      rw [ht, hr]
    have hif : ∀ x y : Int × Int × Int, (if HR l then x else y) = if 0 < chunksZ (l.length : Int) a3 ∧ [a0, a1, a2, a3, a4, a5, a6, a7] = head (l.length : Int) a3 then x else y := fun x y => by
      by_cases c : HR l
      · rw [if_pos c, if_pos (hHR.mp c)]
      · rw [if_neg c, if_neg (fun q => c (hHR.mpr q))]
    rw [if_neg h8, if_pos (by omega), hif, ht, hr]
    have e3 : rd [a0, a1, a2, a3, a4, a5, a6, a7] 3 = a3 := rfl
    have e0 : rd [a0, a1, a2, a3, a4, a5, a6, a7] 0 = a0 := rfl
    have e1 : rd [a0, a1, a2, a3, a4, a5, a6, a7] 1 = a1 := rfl
    have e2 : rd [a0, a1, a2, a3, a4, a5, a6, a7] 2 = a2 := rfl
    have e4 : rd [a0, a1, a2, a3, a4, a5, a6, a7] 4 = a4 := rfl
    have e5 : rd [a0, a1, a2, a3, a4, a5, a6, a7] 5 = a5 := rfl
    have e6 : rd [a0, a1, a2, a3, a4, a5, a6, a7] 6 = a6 := rfl
    have e7 : rd [a0, a1, a2, a3, a4, a5, a6, a7] 7 = a7 := rfl
    rw [e0, e1, e2, e3, e4, e5, e6, e7, show (([a0, a1, a2, a3, a4, a5, a6, a7] : List Int).length : Int) = 8 from rfl]
    rw [if_pos (by decide), if_pos (by decide), if_pos (by decide), if_pos (by decide), if_pos (by decide), if_pos (by decide), if_pos (by decide), if_pos (by decide)]
    generalize (l.length : Int) = n at *
    by_cases h64 : a3 > 64
    · rw [if_pos h64, if_neg (fun h => by have := chunksZ_in h.1; omega)]
    · rw [if_neg h64, w64 (by omega), super_right, Option.bind_some]
      by_cases hc : 0 < chunksZ n a3
      · rw [decide_eq_true hc, if_pos rfl, of_eq hc, Option.bind_some]
        have nd : ∀ x y : Int, (x == y) = decide (x = y) := fun x y => by by_cases h : x = y <;> simp [h]
        have hh : [a0, a1, a2, a3, a4, a5, a6, a7] = head n a3 ↔ a0 = 6076272092419149644 ∧ a1 = 1 ∧ a2 = n ∧ a4 = chunksZ n a3 ∧ a5 = 0 ∧ a6 = 0 ∧ a7 = hsum n a3 := by
          unfold head
          simp only [List.cons.injEq, true_and, and_true]
        by_cases c : a0 = 6076272092419149644 ∧ a1 = 1 ∧ a2 = n ∧ a4 = chunksZ n a3 ∧ a5 = 0 ∧ a6 = 0 ∧ a7 = hsum n a3
        · rw [if_pos (⟨hc, hh.mpr c⟩ : _ ∧ _)]
          obtain ⟨q0, q1, q2, q4, q5, q6, q7⟩ := c
          rw [if_neg]
          dsimp only
          rw [q0, q1, q2, q4, q5, q6, q7]
          simp
        · rw [if_neg (fun q : _ ∧ _ => c (hh.mp q.2)), if_pos]
          dsimp only
          simp only [nd, ← decide_not, ← Bool.decide_or, decide_eq_true_eq]
          have nn : ¬ ¬ a3 = a3 := fun h => h rfl
          by_cases q0 : a0 = 6076272092419149644
          · by_cases q1 : a1 = 1
            · by_cases q2 : a2 = n
              · by_cases q4 : a4 = chunksZ n a3
                · by_cases q5 : a5 = 0
                  · by_cases q6 : a6 = 0
                    · exact .inr (.inr (.inr (.inr (.inr (.inr (.inr (fun q7 => c ⟨q0, q1, q2, q4, q5, q6, q7⟩)))))))
                    · exact .inr (.inr (.inr (.inr (.inr (.inr (.inl q6))))))
                  · exact .inr (.inr (.inr (.inr (.inr (.inl q5)))))
                · exact .inr (.inr (.inr (.inr (.inl q4))))
              · exact .inr (.inr (.inl q2))
            · exact .inr (.inl q1)
          · exact .inl q0
      · rw [decide_eq_false hc, if_neg (by decide), if_neg (fun h : _ ∧ _ => hc h.1)]
theorem head_take (W L : Int) (t : List Int) : (head W L ++ t).take 8 = head W L := List.take_left' rfl
theorem head_rd (W L : Int) (t : List Int) : rd (head W L ++ t) 3 = L := rfl
theorem HR_head (W L : Int) (t : List Int) (h : 0 < chunksZ W L) : HR (head W L ++ t) ↔ (t.length : Int) + 8 = W := by
  unfold HR
  rw [head_take, head_rd, show ((head W L ++ t).length : Int) = (t.length : Int) + 8 from by rw [List.length_append, show (head W L).length = 8 from rfl]; omega]
  constructor
  · rintro ⟨_, e⟩
    unfold head at e
    simp only [List.cons.injEq] at e
    exact e.2.2.1.symm
  · intro e
    rw [e]
    exact ⟨h, rfl⟩
theorem nought_words (n : Nat) : Words (List.replicate n 0) := fun x hx => by
  have := List.eq_of_mem_replicate hx
  omega
theorem super_awake : lockfastlaw06_awake.f = some true := by
  have hc : chunksZ 149 1 = 2 := by decide
  unfold lockfastlaw06_awake.f
  rw [encode_ok (by omega), Option.bind_some]
  dsimp only
  rw [if_pos rfl, show ((head 149 1).length : Int) = 8 from rfl, if_pos (by decide), if_pos (by rw [show (head 149 1).length = 8 from rfl]; decide), decode_eq _ (words_app (head_words (by omega)) (nought_words 141)), Option.bind_some, if_pos ((HR_head 149 1 (List.replicate 141 0) (by omega)).mpr (by rw [List.length_replicate]; rfl))]
  rw [head_rd, show (((head 149 1 ++ List.replicate 141 (0 : Int) : List Int).length : Nat) : Int) = (149 : Int) from by rw [List.length_append, List.length_replicate]; rfl]
  rw [if_pos rfl, if_pos (by decide), if_pos (by decide), show rd (head 149 1) 4 = chunksZ 149 1 from rfl, hc]
  rfl

theorem super_back (W L v : Int) (at_ : Nat) (h : 0 < chunksZ W L) (hat : at_ ≤ 65535) (hv : 0 ≤ v ∧ v < 18446744073709551616) :
    (if ((head W L).length : Int) = 8 then (if 0 ≤ (wrap64 (W - 8)) then (if (head W L).length + (wrap64 (W - 8) : Int).toNat < 2199023255552 then ((some (head W L ++ List.replicate (wrap64 (W - 8) : Int).toNat 0 : List Int)).bind fun y170 => (if (wrap64 (W - 8)) = 0 then (none) else (if 0 ≤ (wrap64 (8 + (Int.tmod (wrap64 (at_ : Int)) (wrap64 (W - 8))))) then (if (wrap64 (8 + (Int.tmod (wrap64 (at_ : Int)) (wrap64 (W - 8))))) < (y170.length : Int) then ((some (y170.set ((wrap64 (8 + (Int.tmod (wrap64 (at_ : Int)) (wrap64 (W - 8))))) : Int).toNat v : List Int)).bind fun y173 => ((super_Decode.f y173).bind fun bt174 => (if 0 ≤ (wrap64 (W - 1)) then (if (wrap64 (W - 1)) ≤ (y170.length : Int) then ((super_Decode.f (y173.take ((wrap64 (W - 1)) : Int).toNat)).bind fun bt182 => (if y173.length < 17592186044416 then ((super_Decode.f (y173 ++ [0])).bind fun bt189 => (if true = true then (if bt174.2.2 = 0 then (if (bt174.1 == W && (bt174.2.1 == L)) = true then (if bt182.2.2 = 7 then (some (bt189.2.2 == 7)) else (some false)) else (some false)) else (some false)) else (some false))) else (none))) else (none)) else (none)))) else (none)) else (none)))) else (none)) else (none)) else (some false)) = some true := by
  have hc := chunksZ_in h
  obtain ⟨n, hn⟩ := Int.eq_ofNat_of_zero_le (show 0 ≤ W - 9 from by omega)
  have hW : W = (n : Int) + 9 := by omega
  have hw8 : wrap64 (W - 8) = ((n + 1 : Nat) : Int) := by rw [w64 (by omega)]; omega
  have hw1 : wrap64 (W - 1) = ((8 + n : Nat) : Int) := by rw [w64 (by omega)]; omega
  have hj := Nat.mod_lt at_ (show 0 < n + 1 by omega)
  have hix : wrap64 (8 + (Int.tmod (wrap64 (at_ : Int)) ((n + 1 : Nat) : Int))) = ((8 + at_ % (n + 1) : Nat) : Int) := by
    rw [w64 (x := (at_ : Int)) (by omega), Int.tmod_eq_emod_of_nonneg (by omega), show (at_ : Int) % ((n + 1 : Nat) : Int) = ((at_ % (n + 1) : Nat) : Int) from rfl, w64 (by omega)]
    omega
  have hh : (head W L).length = 8 := rfl
  have hset : (head W L ++ List.replicate (n + 1) 0).set (8 + at_ % (n + 1)) v = head W L ++ (List.replicate (n + 1) 0).set (at_ % (n + 1)) v := by
    rw [List.set_append_right _ _ (by rw [hh]; omega), hh]
    congr 2
    omega
  have hzl : ((List.replicate (n + 1) (0 : Int)).set (at_ % (n + 1)) v).length = n + 1 := by rw [List.length_set, List.length_replicate]
  have hzw : Words ((List.replicate (n + 1) (0 : Int)).set (at_ % (n + 1)) v) := fun x hx => by
    rcases List.mem_or_eq_of_mem_set hx with q | q
    · exact nought_words (n + 1) x q
    · rw [q]; exact hv
  rw [hw8, hw1, hix, Int.toNat_natCast, Int.toNat_natCast, Int.toNat_natCast, if_pos (show ((head W L).length : Int) = 8 from rfl), if_pos (by omega), if_pos (by rw [hh]; omega), Option.bind_some, if_neg (by omega), if_pos (by omega), if_pos (by rw [List.length_append, List.length_replicate, hh]; omega), Option.bind_some, hset]
  have hly : (head W L ++ List.replicate (n + 1) (0 : Int)).length = 9 + n := by rw [List.length_append, List.length_replicate, hh]; omega
  rw [hly]
  generalize (List.replicate (n + 1) (0 : Int)).set (at_ % (n + 1)) v = z at hzl hzw
  have htake : (head W L ++ z).take (8 + n) = head W L ++ z.take n := by
    rw [List.take_append, hh, List.take_of_length_le (by rw [hh]; omega)]
    congr 2
    omega
  have y1 : HR (head W L ++ z) := (HR_head W L z h).mpr (by omega)
  have n1 : ¬ HR (head W L ++ z.take n) := fun q => by
    have := (HR_head W L (z.take n) h).mp q
    rw [List.length_take] at this
    omega
  have n2 : ¬ HR (head W L ++ (z ++ [0])) := fun q => by
    have := (HR_head W L (z ++ [0]) h).mp q
    rw [List.length_append] at this
    simp only [List.length_cons, List.length_nil] at this
    omega
  rw [decode_eq _ (words_app (head_words h) hzw), Option.bind_some, if_pos y1, if_pos (by omega), if_pos (by omega), htake, decode_eq _ (words_app (head_words h) (words_take hzw n)), Option.bind_some, if_neg n1]
  rw [if_pos (show (head W L ++ z).length < 17592186044416 from by rw [List.length_append, hh]; omega), List.append_assoc, decode_eq _ (words_app (head_words h) (words_app hzw (words_one (x := 0) (by decide) (by decide)))), Option.bind_some, if_neg n2]
  rw [if_pos rfl, if_pos rfl, head_rd, show ((head W L ++ z).length : Int) = W from by rw [List.length_append, hh]; omega, if_pos (by simp), if_pos rfl]
  rfl
theorem SuperBack : lockfastlaw06_SuperBack.Pure := by
  intro a b c at_ v ha hb hc hat hv
  have hA := bounds_u16 hat
  have hV := bounds_u64 hv
  obtain ⟨n, rfl⟩ := Int.eq_ofNat_of_zero_le hA.1
  have h1 := small_chunks a b c
  unfold lockfastlaw06_SuperBack.f
  rw [super_awake, Option.bind_some, small_eq a b c (bounds_u8 ha) (bounds_u8 hb) (bounds_u8 hc), Option.bind_some]
  dsimp only
  have hp : 0 < chunksZ (10 + 73 * (1 + a % 64) + 33 * (1 + b % 200) + c % 33) (1 + a % 64) := by omega
  generalize 10 + 73 * (1 + a % 64) + 33 * (1 + b % 200) + c % 33 = W at *
  generalize 1 + a % 64 = L at *
  have e := encode_ok hp
  rw [e, Option.bind_some, if_pos rfl]
  exact super_back W L v n hp (by omega) (by omega)

end Go.Proofs.Ytmflkbmjchapiaa.Pure
