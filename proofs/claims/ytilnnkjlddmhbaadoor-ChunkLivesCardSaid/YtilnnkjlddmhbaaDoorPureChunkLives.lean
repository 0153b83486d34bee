/- One bit is one block: each class, its bits and its blocks, gone through. -/
import Derived.Test.YtilnnkjlddmhbaaDoorPChunkLivesx5
import Derived.OpenShut
namespace Go.Proofs.YtilnnkjlddmhbaaDoor.Pure
open Go.RowKit Go.Proofs.YtilnnkjlddmhbaaDoorX Go.Proofs.YtilnnkjlddmhbaaDoor.PChunkLives Go.Proofs.YtilnnkjlddmhbaaDoorW.PrintWords Go.Proofs.YtilnnkjlddmhbaaDoorW.PrintLast Go.Proofs.YtilnnkjlddmhbaaDoorW.PrintMore

theorem w64 {x : Int} (h : -9223372036854775808 ≤ x ∧ x ≤ 9223372036854775807) : wrap64 x = x := by unfold wrap64; omega
theorem mask_bit (n j : Nat) : (2 ^ n - 1).testBit j = decide (j < n) := Nat.testBit_two_pow_sub_one n j
theorem fits_eq (a n : Nat) (h1 : 1 ≤ n) (h : a + n ≤ 64) : field_Fits.f (a : Int) (n : Int) = some true := by
  unfold field_Fits.f
  rw [if_pos (by omega), if_pos (by omega), if_pos (by omega), w64 (by omega), decide_eq_true (by omega)]
theorem mask_eq (n : Nat) (h1 : 1 ≤ n) (h : n ≤ 64) : field_mask.f (n : Int) = some ((2 ^ n - 1 : Nat) : Int) := by
  unfold field_mask.f
  rw [w64 (by omega), if_pos (by omega), show (64 : Int) - (n : Int) = ((64 - n : Nat) : Int) from by omega]
  unfold shr
  rw [Int.toNat_natCast, show min (64 - n) IntKind.u64.bits = 64 - n from by simp only [IntKind.bits]; omega]
  have h2 : (18446744073709551615 : Nat) / 2 ^ (64 - n) = 2 ^ n - 1 := by
    have e : 2 ^ n * 2 ^ (64 - n) = 18446744073709551616 := by rw [← Nat.pow_add, show n + (64 - n) = 64 from by omega]
    have p1 := Nat.two_pow_pos n
    have p2 := Nat.two_pow_pos (64 - n)
    have e2 : (2 ^ n - 1) * 2 ^ (64 - n) + 2 ^ (64 - n) = 18446744073709551616 := by
      rw [Nat.sub_mul, Nat.one_mul, e]
      have : 2 ^ (64 - n) ≤ 18446744073709551616 := by rw [← e]; exact Nat.le_mul_of_pos_left _ p1
      omega
    apply Nat.div_eq_of_lt_le
    · omega
    · rw [Nat.succ_mul]; omega
  rw [show (18446744073709551615 : Int) / 2 ^ (64 - n) = (((18446744073709551615 : Nat) / 2 ^ (64 - n) : Nat) : Int) from by simp, h2]
theorem shr_nat (w a : Nat) (ha : a ≤ 64) : shr .u64 (w : Int) (a : Int) = ((w / 2 ^ a : Nat) : Int) := by
  unfold shr
  rw [Int.toNat_natCast, show min a IntKind.u64.bits = a from by simp only [IntKind.bits]; omega]
  simp
theorem shl_nat (w a : Nat) (ha : a ≤ 64) : shl .u64 (w : Int) (a : Int) = ((w * 2 ^ a % 18446744073709551616 : Nat) : Int) := by
  unfold shl
  rw [Int.toNat_natCast, show min a IntKind.u64.bits = a from by simp only [IntKind.bits]; omega, IntKind.wrap_u64]
  simp
theorem get_eq (w a n : Nat) (hw : w < 18446744073709551616) (h1 : 1 ≤ n) (h : a + n ≤ 64) : field_Get.f (w : Int) (a : Int) (n : Int) = some ((w / 2 ^ a % 2 ^ n : Nat) : Int) := by
  unfold field_Get.f
  have hp : 2 ^ n ≤ 2 ^ 64 := Nat.pow_le_pow_right (by omega) (by omega)
  have hp0 := Nat.two_pow_pos n
  rw [fits_eq a n h1 h, Option.bind_some, if_pos rfl, if_pos (by omega), mask_eq n h1 (by omega), Option.bind_some, shr_nat w a (by omega), u64_and_nat _ _ (Nat.lt_of_le_of_lt (Nat.div_le_self _ _) hw) (by omega), Nat.and_two_pow_sub_one_eq_mod]
def putN (w a n v : Nat) : Nat := 2 ^ a * (2 ^ n * (w / 2 ^ (a + n)) + v % 2 ^ n) + w % 2 ^ a
theorem putN_bit (w a n v j : Nat) : (putN w a n v).testBit j = if a ≤ j ∧ j < a + n then v.testBit (j - a) else w.testBit j := by
  unfold putN
  rw [Nat.testBit_two_pow_mul_add _ (Nat.mod_lt _ (Nat.two_pow_pos a))]
  by_cases h1 : j < a
  · rw [if_pos h1, if_neg (by omega), Nat.testBit_mod_two_pow]
    simp [h1]
  · rw [if_neg h1, Nat.testBit_two_pow_mul_add _ (Nat.mod_lt _ (Nat.two_pow_pos n))]
    by_cases h2 : j < a + n
    · rw [if_pos (by omega), if_pos (by omega), Nat.testBit_mod_two_pow]
      simp [show j - a < n from by omega]
    · rw [if_neg (by omega), if_neg (by omega), ← Nat.shiftRight_eq_div_pow, Nat.testBit_shiftRight, show a + n + (j - a - n) = j from by omega]
theorem putN_lt (w a n v : Nat) (hw : w < 2 ^ 64) (h : a + n ≤ 64) : putN w a n v < 2 ^ 64 := by
  apply Nat.lt_pow_two_of_testBit
  intro j hj
  rw [putN_bit, if_neg (by omega)]
  exact Nat.testBit_lt_two_pow (Nat.lt_of_lt_of_le hw (Nat.pow_le_pow_right (by omega) hj))
theorem put_eq (w a n v : Nat) (hw : w < 18446744073709551616) (h1 : 1 ≤ n) (h : a + n ≤ 64) : field_Put.f (w : Int) (a : Int) (n : Int) (v : Int) = some ((putN w a n v : Nat) : Int) := by
  unfold field_Put.f
  have hp : 2 ^ n ≤ 2 ^ 64 := Nat.pow_le_pow_right (by omega) (by omega)
  have hp0 := Nat.two_pow_pos n
  have e1 : ∀ x : Nat, x % 18446744073709551616 < 18446744073709551616 := fun x => Nat.mod_lt _ (by decide)
  rw [fits_eq a n h1 h, Option.bind_some, if_pos rfl, mask_eq n h1 (by omega), Option.bind_some, if_pos (by omega), shl_nat _ a (by omega), shl_nat v a (by omega), u64_andNot_nat _ _ hw (e1 _), u64_and_nat _ _ (e1 _) (e1 _), u64_or_nat]
  · congr 2
    apply Nat.eq_of_testBit_eq
    intro j
    have hMb : ((2 ^ n - 1) * 2 ^ a % 18446744073709551616).testBit j = (decide (j < 64) && (decide (j ≥ a) && decide (j - a < n))) := by
      rw [show (18446744073709551616 : Nat) = 2 ^ 64 from rfl, Nat.testBit_mod_two_pow, Nat.mul_comm, Nat.testBit_two_pow_mul, mask_bit]
    have hVb : (v * 2 ^ a % 18446744073709551616).testBit j = (decide (j < 64) && (decide (j ≥ a) && v.testBit (j - a))) := by
      rw [show (18446744073709551616 : Nat) = 2 ^ 64 from rfl, Nat.testBit_mod_two_pow, Nat.mul_comm, Nat.testBit_two_pow_mul]
    have hm : (2 ^ n - 1) * 2 ^ a % 18446744073709551616 < 2 ^ 64 := e1 _
    generalize (2 ^ n - 1) * 2 ^ a % 18446744073709551616 = M at hMb hm ⊢
    have hnot := Nat.testBit_two_pow_sub_succ (n := 64) hm j
    rw [show 2 ^ 64 - (M + 1) = 18446744073709551615 - M from by omega] at hnot
    rw [putN_bit, Nat.testBit_or, Nat.testBit_and, Nat.testBit_and, hnot, hVb, hMb]
    by_cases hj : j < 64
    · by_cases h2 : a ≤ j
      · by_cases h3 : j - a < n
        · rw [if_pos (by omega)]; simp [hj, h2, h3]
        · rw [if_neg (by omega)]; simp [hj, h2, h3]
      · rw [if_neg (by omega)]; simp [hj, h2]
    · have hwj : w.testBit j = false := Nat.testBit_lt_two_pow (Nat.lt_of_lt_of_le (show w < 2 ^ 64 from hw) (Nat.pow_le_pow_right (by omega) (by omega)))
      rw [if_neg (by omega)]; simp [hj, hwj]
  · exact Nat.lt_of_le_of_lt Nat.and_le_left hw
  · exact Nat.lt_of_le_of_lt Nat.and_le_left (e1 _)
theorem ebit_nat (w k : Nat) (hw : w < 18446744073709551616) : ebit (w : Int) k = w.testBit k := by
  unfold ebit
  rw [show (w : Int) / 2 ^ k = ((w / 2 ^ k : Nat) : Int) from by simp, show (1 : Int) = ((1 : Nat) : Int) from rfl, u64_and_nat _ _ (Nat.lt_of_le_of_lt (Nat.div_le_self _ _) hw) (by decide), nat_mask1, Nat.testBit_eq_decide_div_mod_eq]
  congr 1
  apply propext
  omega
theorem ebit_not (w k : Nat) (hw : w < 18446744073709551616) (hk : k < 64) : ebit (Go.bits .xor .u64 IntKind.u64.max (w : Int)) k = !w.testBit k := by
  rw [show IntKind.u64.max = ((18446744073709551615 : Nat) : Int) from by decide, u64_xor_nat _ _ (by decide) hw, ebit_nat _ _ (Nat.xor_lt_two_pow (n := 64) (by decide) hw), Nat.testBit_xor, show (18446744073709551615 : Nat) = 2 ^ 64 - 1 from rfl, Nat.testBit_two_pow_sub_one]
  simp [hk]
theorem not_nat (w : Nat) (hw : w < 18446744073709551616) : Go.bits .xor .u64 IntKind.u64.max (w : Int) = ((18446744073709551615 - w : Nat) : Int) ∧ ∀ k, k < 64 → (18446744073709551615 - w).testBit k = !w.testBit k := by
  have h1 : ∀ k, (18446744073709551615 - w).testBit k = (decide (k < 64) && !w.testBit k) := fun k => by
    have h := Nat.testBit_two_pow_sub_succ (n := 64) (x := w) hw k
    rwa [show 2 ^ 64 - (w + 1) = 18446744073709551615 - w from by omega] at h
  refine ⟨?_, fun k hk => by rw [h1 k]; simp [hk]⟩
  rw [show IntKind.u64.max = ((18446744073709551615 : Nat) : Int) from by decide, u64_xor_nat _ _ (by decide) hw]
  congr 1
  apply Nat.eq_of_testBit_eq
  intro k
  rw [h1 k, Nat.testBit_xor, show (18446744073709551615 : Nat) = 2 ^ 64 - 1 from rfl, Nat.testBit_two_pow_sub_one]
  by_cases e : k < 64
  · simp [e]
  · have : w.testBit k = false := Nat.testBit_lt_two_pow (Nat.lt_of_lt_of_le (show w < 2 ^ 64 from hw) (Nat.pow_le_pow_right (by omega) (by omega)))
    simp [e, this]
/-- A chunk that can be. -/
def CR (k c l m b : Int) : Prop := 0 ≤ b ∧ ((k = 0 ∨ k = 3) ∧ c = 0 ∧ l = 0 ∧ m = 0 ∧ b = 0 ∨ k = 1 ∧ l = 0 ∧ m = 0 ∧ (c = 0 ∧ b < 256 ∨ c = 1 ∧ b < 16 ∨ c = 2 ∧ b < 4) ∨ k = 2 ∧ c = 0 ∧ l = 0 ∧ b = 0 ∧ 1 ≤ m ∧ m ≤ 8191 ∨ k = 4 ∧ c = 0 ∧ b = 0 ∧ 0 ≤ l ∧ l ≤ 63 ∧ 0 ≤ m ∧ m ≤ 7)
instance (k c l m b : Int) : Decidable (CR k c l m b) := by unfold CR; infer_instance
theorem many0 : class_Many.f 0 = some 8 := by decide
theorem many1 : class_Many.f 1 = some 4 := by decide
theorem many2 : class_Many.f 2 = some 2 := by decide
theorem right_eq (k c l m b : Int) (hb : 0 ≤ b) : chunk_Right.f k c l m b = some (decide (CR k c l m b)) := by
  unfold chunk_Right.f chunk_right.f
  have nd : ∀ x y : Int, (x == y) = decide (x = y) := fun x y => by by_cases h : x = y <;> simp [h]
  by_cases k1 : k = 1
  · subst k1
    rw [if_pos rfl]
    by_cases c0 : c ≥ 0
    · rw [if_pos c0]
      by_cases c3 : c < 3
      · rw [if_pos c3]
        have own : chunk_own.f 1 c l m b = some (1, c, 0, 0, b) := by unfold chunk_own.f; rw [if_pos rfl]
        have hM : ∃ M : Int, 0 ≤ M ∧ class_Many.f c = some M ∧ (b < shl .u64 1 M ↔ (c = 0 ∧ b < 256 ∨ c = 1 ∧ b < 16 ∨ c = 2 ∧ b < 4)) := by
          obtain rfl | rfl | rfl : c = 0 ∨ c = 1 ∨ c = 2 := by omega
          · exact ⟨8, by decide, many0, by rw [show shl .u64 1 8 = 256 from by decide]; omega⟩
          · exact ⟨4, by decide, many1, by rw [show shl .u64 1 4 = 16 from by decide]; omega⟩
          · exact ⟨2, by decide, many2, by rw [show shl .u64 1 2 = 4 from by decide]; omega⟩
        obtain ⟨M, hM0, hM1, hM2⟩ := hM
        rw [hM1, Option.bind_some, if_pos hM0, Option.bind_some, own]
        by_cases hr : b < shl .u64 1 M
        · rw [decide_eq_true hr, if_pos rfl, Option.bind_some]
          congr 1
          simp only [nd, ← Bool.decide_and, true_and, and_true]
          apply decide_eq_decide.mpr
          have := hM2.mp hr
          unfold CR
          omega
        · rw [decide_eq_false hr, if_neg (by decide)]
          congr 1
          symm
          apply decide_eq_false
          have hq : ¬ (c = 0 ∧ b < 256 ∨ c = 1 ∧ b < 16 ∨ c = 2 ∧ b < 4) := fun h => hr (hM2.mpr h)
          unfold CR
          omega
      · rw [if_neg c3, Option.bind_some, if_neg (by decide), decide_eq_false (by unfold CR; omega)]
    · rw [if_neg c0, Option.bind_some, if_neg (by decide), decide_eq_false (by unfold CR; omega)]
  · rw [if_neg k1]
    by_cases k2 : k = 2
    · subst k2
      rw [if_pos rfl]
      by_cases m1 : m ≥ 1
      · rw [if_pos m1, Option.bind_some]
        by_cases m2 : m ≤ 8191
        · rw [decide_eq_true m2, if_pos rfl]
          unfold chunk_own.f
          rw [if_neg (by decide), if_pos rfl, Option.bind_some]
          congr 1
          simp only [nd, ← Bool.decide_and, true_and]
          apply decide_eq_decide.mpr
          try rw [and_true]
          unfold CR
          omega
        · rw [decide_eq_false m2, if_neg (by decide), decide_eq_false (by unfold CR; omega)]
      · rw [if_neg m1, Option.bind_some, if_neg (by decide), decide_eq_false (by unfold CR; omega)]
    · rw [if_neg k2]
      by_cases k4 : k = 4
      · subst k4
        rw [if_pos rfl]
        by_cases hl : 0 ≤ l ∧ l < 64 ∧ 0 ≤ m ∧ m < 8
        · rw [if_pos hl.1, if_pos hl.2.1, if_pos hl.2.2.1, Option.bind_some, decide_eq_true hl.2.2.2, if_pos rfl]
          unfold chunk_own.f
          rw [if_neg (by decide), if_neg (by decide), if_pos rfl, Option.bind_some]
          congr 1
          simp only [nd, ← Bool.decide_and, true_and]
          apply decide_eq_decide.mpr
          try rw [and_true]
          unfold CR
          omega
        · rw [show (if l ≥ 0 then if l < 64 then if m ≥ 0 then some (decide (m < 8)) else some false else some false else some false) = some false from by
            by_cases q1 : l ≥ 0
            · rw [if_pos q1]
              by_cases q2 : l < 64
              · rw [if_pos q2]
                by_cases q3 : m ≥ 0
                · rw [if_pos q3, decide_eq_false (by omega)]
                · rw [if_neg q3]
              · rw [if_neg q2]
            · rw [if_neg q1], Option.bind_some, if_neg (by decide), decide_eq_false (by unfold CR; omega)]
      · rw [if_neg k4]
        by_cases k0 : k = 0 ∨ k = 3
        · rw [show (if k = 0 then some true else some (k == 3)) = some true from by
            rcases k0 with rfl | rfl <;> rfl, Option.bind_some, if_pos rfl]
          unfold chunk_own.f
          rw [if_neg k1, if_neg k2, if_neg k4, Option.bind_some]
          congr 1
          simp only [nd, ← Bool.decide_and, true_and]
          apply decide_eq_decide.mpr
          try rw [and_true]
          unfold CR
          omega
        · rw [if_neg (fun h => k0 (.inl h)), Option.bind_some, show (k == 3) = false from by simp; omega, if_neg (by decide), decide_eq_false (by unfold CR; omega)]
def cw (k c l m b : Int) : Int := k + 8 * c + 32 * l + 2048 * m + 16777216 * b
theorem put_place (w a n v : Nat) (hw : w < 18446744073709551616) (h1 : 1 ≤ n) (h : a + n ≤ 64) : chunk_place_put.f (a : Int) (n : Int) (w : Int) (v : Int) = some ((putN w a n v : Nat) : Int) := by
  unfold chunk_place_put.f
  rw [put_eq w a n v hw h1 h, Option.bind_some]
theorem word_eq (k c l m b : Int) (h : CR k c l m b) : chunk_word.f k c l m b = some (cw k c l m b) := by
  have hk : 0 ≤ k ∧ k < 8 ∧ 0 ≤ c ∧ c < 4 ∧ 0 ≤ l ∧ l < 64 ∧ 0 ≤ m ∧ m < 8192 ∧ 0 ≤ b ∧ b < 256 := by unfold CR at h; omega
  obtain ⟨K, rfl⟩ := Int.eq_ofNat_of_zero_le hk.1
  obtain ⟨C, rfl⟩ := Int.eq_ofNat_of_zero_le hk.2.2.1
  obtain ⟨L, rfl⟩ := Int.eq_ofNat_of_zero_le hk.2.2.2.2.1
  obtain ⟨M, rfl⟩ := Int.eq_ofNat_of_zero_le hk.2.2.2.2.2.2.1
  obtain ⟨B, rfl⟩ := Int.eq_ofNat_of_zero_le hk.2.2.2.2.2.2.2.2.1
  have a1 : putN 0 0 3 K = K := by unfold putN; omega
  have a2 : putN K 3 2 C = K + 8 * C := by unfold putN; omega
  have a3 : putN (K + 8 * C) 5 6 L = K + 8 * C + 32 * L := by unfold putN; omega
  have a4 : putN (K + 8 * C + 32 * L) 11 13 M = K + 8 * C + 32 * L + 2048 * M := by unfold putN; omega
  have a5 : putN (K + 8 * C + 32 * L + 2048 * M) 24 8 B = K + 8 * C + 32 * L + 2048 * M + 16777216 * B := by unfold putN; omega
  have w : ∀ x : Nat, x < 9000 → IntKind.u64.wrap (x : Int) = (x : Int) := fun x hx => by rw [IntKind.wrap_u64]; omega
  unfold chunk_word.f
  rw [w K (by omega), w C (by omega), w L (by omega), w M (by omega), show chunk_place_put.f 0 3 0 (K : Int) = _ from put_place 0 0 3 K (by decide) (by decide) (by decide), Option.bind_some, a1, show chunk_place_put.f 3 2 (K : Int) (C : Int) = _ from put_place K 3 2 C (by omega) (by decide) (by decide), Option.bind_some, a2,
    show chunk_place_put.f 5 6 ((K + 8 * C : Nat) : Int) (L : Int) = _ from put_place _ 5 6 L (by omega) (by decide) (by decide), Option.bind_some, a3, show chunk_place_put.f 11 13 ((K + 8 * C + 32 * L : Nat) : Int) (M : Int) = _ from put_place _ 11 13 M (by omega) (by decide) (by decide), Option.bind_some, a4,
    show chunk_place_put.f 24 8 ((K + 8 * C + 32 * L + 2048 * M : Nat) : Int) (B : Int) = _ from put_place _ 24 8 B (by omega) (by decide) (by decide), a5]
  exact congrArg some (by unfold cw; omega)
theorem encode_eq (k c l m b : Int) (hb : 0 ≤ b) : chunk_Encode.f k c l m b = some (if CR k c l m b then (cw k c l m b, 0) else (0, 1)) := by
  unfold chunk_Encode.f
  rw [right_eq k c l m b hb, Option.bind_some]
  by_cases h : CR k c l m b
  · rw [decide_eq_true h, if_pos rfl, word_eq k c l m b h, Option.bind_some, if_pos h]
  · rw [decide_eq_false h, if_neg (by decide), if_neg h]
theorem get_place (w a n : Nat) (hw : w < 18446744073709551616) (h1 : 1 ≤ n) (h : a + n ≤ 64) : chunk_place_get.f (a : Int) (n : Int) (w : Int) = some ((w / 2 ^ a % 2 ^ n : Nat) : Int) := by
  unfold chunk_place_get.f
  rw [get_eq w a n hw h1 h, Option.bind_some]
/-- A word that is a chunk's. -/
def WR (w : Int) : Prop := CR (w % 8) (w / 8 % 4) (w / 32 % 64) (w / 2048 % 8192) (w / 16777216 % 256) ∧ w < 4294967296
instance (w : Int) : Decidable (WR w) := by unfold WR; infer_instance
theorem decode_of (w k c l m b : Int) (g0 : chunk_place_get.f 0 3 w = some k) (g1 : chunk_place_get.f 3 2 w = some c) (g2 : chunk_place_get.f 5 6 w = some l) (g3 : chunk_place_get.f 11 13 w = some m) (g4 : chunk_place_get.f 24 8 w = some b)
    (hk : 0 ≤ k ∧ k < 9000) (hc : 0 ≤ c ∧ c < 9000) (hl : 0 ≤ l ∧ l < 9000) (hm : 0 ≤ m ∧ m < 9000) (hb : 0 ≤ b) : chunk_Decode.f w = some (if CR k c l m b ∧ cw k c l m b = w then (k, c, l, m, b, true) else (0, 0, 0, 0, 0, false)) := by
  unfold chunk_Decode.f
  rw [show chunk_kinds.f = some (0, 3) from rfl, Option.bind_some, show chunk_classes.f = some (3, 2) from rfl, show chunk_lanes.f = some (5, 6) from rfl, show chunk_manys.f = some (11, 13) from rfl, show chunk_bits.f = some (24, 8) from rfl]
  dsimp only
  rw [g0, Option.bind_some, Option.bind_some]
  dsimp only
  rw [g1, Option.bind_some, Option.bind_some]
  dsimp only
  rw [g2, Option.bind_some, Option.bind_some]
  dsimp only
  rw [g3, Option.bind_some, Option.bind_some]
  dsimp only
  rw [g4, Option.bind_some]
  rw [w64 (show -9223372036854775808 ≤ k ∧ k ≤ 9223372036854775807 from by omega), w64 (show -9223372036854775808 ≤ c ∧ c ≤ 9223372036854775807 from by omega), w64 (show -9223372036854775808 ≤ l ∧ l ≤ 9223372036854775807 from by omega), w64 (show -9223372036854775808 ≤ m ∧ m ≤ 9223372036854775807 from by omega), right_eq k c l m b hb, Option.bind_some]
  by_cases h : CR k c l m b
  · rw [decide_eq_true h, if_pos rfl, word_eq _ _ _ _ _ h, Option.bind_some]
    by_cases h2 : cw k c l m b = w
    · rw [if_pos h2, if_pos ⟨h, h2⟩]
    · rw [if_neg h2, if_neg (fun q => h2 q.2)]
  · rw [decide_eq_false h, if_neg (by decide), if_neg (fun q => h q.1)]
theorem div_cast (n a b : Nat) (x y : Int) (ha : (a : Int) = x) (hb : (b : Int) = y) : ((n / a % b : Nat) : Int) = (n : Int) / x % y := by
  subst ha hb
  rw [Int.natCast_emod, Int.natCast_ediv]
theorem decode_eq (w : Int) (h0 : 0 ≤ w) (h1 : w ≤ 18446744073709551615) : chunk_Decode.f w = some (if WR w then (w % 8, w / 8 % 4, w / 32 % 64, w / 2048 % 8192, w / 16777216 % 256, true) else (0, 0, 0, 0, 0, false)) := by
  obtain ⟨n, rfl⟩ := Int.eq_ofNat_of_zero_le h0
  have g0 := get_place n 0 3 (by omega) (by decide) (by decide)
  have g1 := get_place n 3 2 (by omega) (by decide) (by decide)
  have g2 := get_place n 5 6 (by omega) (by decide) (by decide)
  have g3 := get_place n 11 13 (by omega) (by decide) (by decide)
  have g4 := get_place n 24 8 (by omega) (by decide) (by decide)
  rw [div_cast n (2 ^ 0) (2 ^ 3) 1 8 (by decide) (by decide), Int.ediv_one] at g0
  rw [div_cast n (2 ^ 3) (2 ^ 2) 8 4 (by decide) (by decide)] at g1
  rw [div_cast n (2 ^ 5) (2 ^ 6) 32 64 (by decide) (by decide)] at g2
  rw [div_cast n (2 ^ 11) (2 ^ 13) 2048 8192 (by decide) (by decide)] at g3
  rw [div_cast n (2 ^ 24) (2 ^ 8) 16777216 256 (by decide) (by decide)] at g4
  have hd := decode_of (n : Int) _ _ _ _ _ g0 g1 g2 g3 g4 (by omega) (by omega) (by omega) (by omega) (by omega)
  have hiff : (CR ((n : Int) % 8) ((n : Int) / 8 % 4) ((n : Int) / 32 % 64) ((n : Int) / 2048 % 8192) ((n : Int) / 16777216 % 256) ∧ cw ((n : Int) % 8) ((n : Int) / 8 % 4) ((n : Int) / 32 % 64) ((n : Int) / 2048 % 8192) ((n : Int) / 16777216 % 256) = (n : Int)) ↔ WR (n : Int) := by
    unfold WR cw
    constructor
    · rintro ⟨q1, q2⟩
      exact ⟨q1, by omega⟩
    · rintro ⟨q1, q2⟩
      exact ⟨q1, by omega⟩
  rw [hd]
  by_cases h : WR (n : Int)
  · rw [if_pos h, if_pos (hiff.mpr h)]
  · rw [if_neg h, if_neg (fun q => h (hiff.mp q))]
theorem cw_fields (k c l m b : Int) (h : CR k c l m b) : 0 ≤ cw k c l m b ∧ cw k c l m b < 4294967296 ∧ cw k c l m b % 8 = k ∧ cw k c l m b / 8 % 4 = c ∧ cw k c l m b / 32 % 64 = l ∧ cw k c l m b / 2048 % 8192 = m ∧ cw k c l m b / 16777216 % 256 = b := by
  have hk : 0 ≤ k ∧ k < 8 ∧ 0 ≤ c ∧ c < 4 ∧ 0 ≤ l ∧ l < 64 ∧ 0 ≤ m ∧ m < 8192 ∧ 0 ≤ b ∧ b < 256 := by unfold CR at h; omega
  unfold cw
  omega
theorem awake_true : lockfastlaw10_awake.f = some true := by
  unfold lockfastlaw10_awake.f
  have hr : chunk_Room.f 1 2 0 0 2 = some 0 := by
    unfold chunk_Room.f
    rw [if_pos rfl, many2, Option.bind_some]
    unfold field_First.f
    rw [if_neg (by decide), Option.bind_some, show (2 : Int) = ((2 : Nat) : Int) from rfl, (not_nat 2 (by decide)).1, show held ((2 : Nat) : Int) = 1 + 1 from by decide]
    have e : ∀ j, ebit ((18446744073709551615 - 2 : Nat) : Int) j = (18446744073709551615 - 2 : Nat).testBit j := fun j => ebit_nat _ j (by decide)
    unfold firstOf
    rw [ones_miss _ 1 (by rw [e]; decide), ones_hit _ 0 (by rw [e]; decide)]
    rfl
  rw [encode_eq 1 2 0 0 2 (by decide), Option.bind_some, decode_eq 33554449 (by decide) (by decide), Option.bind_some, if_pos (show CR 1 2 0 0 2 by decide), if_pos (show WR 33554449 by decide), if_pos rfl, if_pos (by decide), if_pos rfl, if_pos (by decide)]
  rw [show chunk_Room.f (33554449 % 8) (33554449 / 8 % 4) (33554449 / 32 % 64) (33554449 / 2048 % 8192) (33554449 / 16777216 % 256) = some 0 from hr, Option.bind_some, if_pos rfl, show chunk_Bit.f 1 = some 33554432 from by decide +kernel, Option.bind_some, if_pos rfl]
  rfl

theorem lm0 : lockfastref09_Many.f 30 0 = some 8 := by decide +kernel
theorem lm1 : lockfastref09_Many.f 30 1 = some 4 := by decide +kernel
theorem lm2 : lockfastref09_Many.f 30 2 = some 2 := by decide +kernel
theorem bit_eq (i : Int) (h0 : 0 ≤ i) (h7 : i ≤ 7) : chunk_Bit.f i = some (shl .u64 1 (24 + i)) := by
  unfold chunk_Bit.f
  rw [if_neg (by omega), if_neg (by omega), w64 (by omega), if_pos (by omega)]
/-- The law, with what encode and decode come to put in. -/
def lives (cl b i : Int) : Option Bool :=
  let w := if CR 1 cl 0 0 b then (cw 1 cl 0 0 b, (0 : Int)) else (0, 1)
  let dec := fun w : Int => if WR w then (w % 8, w / 8 % 4, w / 32 % 64, w / 2048 % 8192, w / 16777216 % 256, true) else (0, 0, 0, 0, 0, false)
  let p := dec (Go.bits .or .u64 w.1 (shl .u64 1 (24 + i)))
  let q := dec (Go.bits .andNot .u64 w.1 (shl .u64 1 (24 + i)))
  if w.2 = 0 then (if p.2.2.2.2.2 = true then lockfastlaw10_ChunkLives.j0 30 true cl i (!q.2.2.2.2.2) 1 cl 0 0 b p.1 p.2.1 p.2.2.1 p.2.2.2.1 p.2.2.2.2.1 q.1 q.2.1 q.2.2.1 q.2.2.2.1 q.2.2.2.2.1 else some false) else some false
theorem lives0 : ∀ b : Nat, b < 256 → ∀ i : Nat, i < 8 → lives 0 (b : Int) (i : Int) = some true := by decide +kernel
theorem lives1 : ∀ b : Nat, b < 16 → ∀ i : Nat, i < 4 → lives 1 (b : Int) (i : Int) = some true := by decide +kernel
theorem lives2 : ∀ b : Nat, b < 4 → ∀ i : Nat, i < 2 → lives 2 (b : Int) (i : Int) = some true := by decide +kernel
theorem or_in (x y : Int) (hx : 0 ≤ x ∧ x < 18446744073709551616) (hy : 0 ≤ y ∧ y < 18446744073709551616) : 0 ≤ Go.bits .or .u64 x y ∧ Go.bits .or .u64 x y ≤ 18446744073709551615 := by
  obtain ⟨n, rfl⟩ := Int.eq_ofNat_of_zero_le hx.1
  obtain ⟨m, rfl⟩ := Int.eq_ofNat_of_zero_le hy.1
  have hn : n < 2 ^ 64 := by omega
  have hm : m < 2 ^ 64 := by omega
  have := Nat.or_lt_two_pow hn hm
  rw [u64_or_nat n m hn hm]
  omega
theorem andNot_in (x y : Int) (hx : 0 ≤ x ∧ x < 18446744073709551616) (hy : 0 ≤ y ∧ y < 18446744073709551616) : 0 ≤ Go.bits .andNot .u64 x y ∧ Go.bits .andNot .u64 x y ≤ 18446744073709551615 := by
  obtain ⟨n, rfl⟩ := Int.eq_ofNat_of_zero_le hx.1
  obtain ⟨m, rfl⟩ := Int.eq_ofNat_of_zero_le hy.1
  have hn : n < 2 ^ 64 := by omega
  have hm : m < 2 ^ 64 := by omega
  rw [u64_andNot_nat n m hn hm]
  have := Nat.and_le_left (n := n) (m := 18446744073709551615 - m)
  omega
theorem bit_in : ∀ i : Nat, i < 8 → 0 ≤ shl .u64 1 (24 + (i : Int)) ∧ shl .u64 1 (24 + (i : Int)) < 18446744073709551616 := by decide +kernel
theorem lives_law (cl b i : Nat) (hb : b < 256) (hi : i < 8) (h : lives (cl : Int) (b : Int) (i : Int) = some true) :
    ((chunk_Encode.f 1 (cl : Int) 0 0 (b : Int)).bind fun bt168 => ((chunk_Bit.f (i : Int)).bind fun t170 => ((chunk_Decode.f (Go.bits .or .u64 bt168.1 t170)).bind fun bt171 => ((chunk_Bit.f (i : Int)).bind fun t178 => ((chunk_Decode.f (Go.bits .andNot .u64 bt168.1 t178)).bind fun bt179 => (if bt168.2 = 0 then (if bt171.2.2.2.2.2 = true then (lockfastlaw10_ChunkLives.j0 30 true (cl : Int) (i : Int) (!bt179.2.2.2.2.2) 1 (cl : Int) 0 0 (b : Int) bt171.1 bt171.2.1 bt171.2.2.1 bt171.2.2.2.1 bt171.2.2.2.2.1 bt179.1 bt179.2.1 bt179.2.2.1 bt179.2.2.2.1 bt179.2.2.2.2.1) else (lockfastlaw10_ChunkLives.j0 30 true (cl : Int) (i : Int) true 1 (cl : Int) 0 0 (b : Int) bt171.1 bt171.2.1 bt171.2.2.1 bt171.2.2.2.1 bt171.2.2.2.2.1 bt179.1 bt179.2.1 bt179.2.2.1 bt179.2.2.2.1 bt179.2.2.2.2.1)) else (lockfastlaw10_ChunkLives.j0 30 true (cl : Int) (i : Int) true 1 (cl : Int) 0 0 (b : Int) bt171.1 bt171.2.1 bt171.2.2.1 bt171.2.2.2.1 bt171.2.2.2.2.1 bt179.1 bt179.2.1 bt179.2.2.1 bt179.2.2.2.1 bt179.2.2.2.2.1))))))) = some true := by
  have hB := bit_in i hi
  have hw : 0 ≤ (if CR 1 (cl : Int) 0 0 (b : Int) then (cw 1 (cl : Int) 0 0 (b : Int), (0 : Int)) else (0, 1)).1 ∧ (if CR 1 (cl : Int) 0 0 (b : Int) then (cw 1 (cl : Int) 0 0 (b : Int), (0 : Int)) else (0, 1)).1 < 18446744073709551616 := by
    by_cases c : CR 1 (cl : Int) 0 0 (b : Int)
    · rw [if_pos c]
      have := cw_fields 1 (cl : Int) 0 0 (b : Int) c
      omega
    · rw [if_neg c]; decide
  have h1 := or_in _ _ hw hB
  have h2 := andNot_in _ _ hw hB
  rw [encode_eq 1 (cl : Int) 0 0 (b : Int) (by omega), Option.bind_some, bit_eq (i : Int) (by omega) (by omega), Option.bind_some, decode_eq _ h1.1 h1.2, Option.bind_some, Option.bind_some, decode_eq _ h2.1 h2.2, Option.bind_some]
  unfold lives at h
  dsimp only at h
  split at h
  · rename_i q1
    rw [if_pos q1]
    split at h
    · rename_i q2
      rw [if_pos q2]
      exact h
    · cases h
  · cases h
theorem ChunkLives : lockfastlaw10_ChunkLives.Pure := by
  intro a b c ha hb hc
  refine ⟨30, ?_⟩
  have hA := bounds_u8 ha
  have hB := bounds_u8 hb
  have hC := bounds_u8 hc
  obtain ⟨B, rfl⟩ := Int.eq_ofNat_of_zero_le hB.1
  obtain ⟨C, rfl⟩ := Int.eq_ofNat_of_zero_le hC.1
  unfold lockfastlaw10_ChunkLives.f
  have hb0 : IntKind.u64.wrap (B : Int) = (B : Int) := by rw [IntKind.wrap_u64]; omega
  rw [awake_true, Option.bind_some, Int.tmod_eq_emod_of_nonneg hA.1, w64 (x := a % 3) (by omega), hb0, w64 (x := (C : Int)) (by omega)]
  obtain h | h | h : a % 3 = 0 ∨ a % 3 = 1 ∨ a % 3 = 2 := by omega
  · rw [h, lm0, Option.bind_some, if_neg (by decide), if_pos (by decide), show shl .u64 1 8 = 256 from by decide +kernel, if_neg (by decide), Int.tmod_eq_emod_of_nonneg hB.1, Int.tmod_eq_emod_of_nonneg hC.1, show (B : Int) % 256 = ((B % 256 : Nat) : Int) from rfl, show (C : Int) % 8 = ((C % 8 : Nat) : Int) from rfl]
    exact lives_law 0 (B % 256) (C % 8) (by omega) (by omega) (lives0 _ (by omega) _ (by omega))
  · rw [h, lm1, Option.bind_some, if_neg (by decide), if_pos (by decide), show shl .u64 1 4 = 16 from by decide +kernel, if_neg (by decide), Int.tmod_eq_emod_of_nonneg hB.1, Int.tmod_eq_emod_of_nonneg hC.1, show (B : Int) % 16 = ((B % 16 : Nat) : Int) from rfl, show (C : Int) % 4 = ((C % 4 : Nat) : Int) from rfl]
    exact lives_law 1 (B % 16) (C % 4) (by omega) (by omega) (lives1 _ (by omega) _ (by omega))
  · rw [h, lm2, Option.bind_some, if_neg (by decide), if_pos (by decide), show shl .u64 1 2 = 4 from by decide +kernel, if_neg (by decide), Int.tmod_eq_emod_of_nonneg hB.1, Int.tmod_eq_emod_of_nonneg hC.1, show (B : Int) % 4 = ((B % 4 : Nat) : Int) from rfl, show (C : Int) % 2 = ((C % 2 : Nat) : Int) from rfl]
    exact lives_law 2 (B % 4) (C % 2) (by omega) (by omega) (lives2 _ (by omega) _ (by omega))

end Go.Proofs.YtilnnkjlddmhbaaDoor.Pure
