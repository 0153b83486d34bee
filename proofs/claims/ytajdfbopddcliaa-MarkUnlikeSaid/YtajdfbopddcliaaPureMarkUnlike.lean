/- Two marks that can be have one word if they are one. -/
import Derived.Test.YtajdfbopddcliaaPMarkUnlikex3
import Derived.OpenShut
namespace Go.Proofs.Ytajdfbopddcliaa.Pure
open Go.RowKit Go.Proofs.Ytajdfbopddcliaa.PMarkUnlike Go.Proofs.YtajdfbopddcliaaW.PrintWords Go.Proofs.YtajdfbopddcliaaW.PrintLast Go.Proofs.YtajdfbopddcliaaW.PrintMore

theorem w64 {x : Int} (h : -9223372036854775808 ≤ x ∧ x ≤ 9223372036854775807) : wrap64 x = x := by unfold wrap64; omega
theorem mask_bit (n j : Nat) : (2 ^ n - 1).testBit j = decide (j < n) := Nat.testBit_two_pow_sub_one n j
theorem fits_eq (a n : Nat) (h1 : 1 ≤ n) (h : a + n ≤ 64) : field_Fits.f (a : Int) (n : Int) = some true := by
  unfold field_Fits.f
  rw [if_pos (by omega), if_pos (by omega), if_pos (by omega), w64 (by omega), decide_eq_true (by omega)]
theorem mask_eq (n : Nat) (h1 : 1 ≤ n) (h : n ≤ 64) : field_mask.f (n : Int) = some ((2 ^ n - 1 : Nat) : Int) := by
  unfold field_mask.f
  rw [w64 (by omega), if_pos (by omega), show (64 : Int) - (n : Int) = ((64 - n : Nat) : Int) from by omega]
  unfold shr
  rw [Int.toNat_natCast, show min (64 - n) IntKind.u64.bits = 64 - n from by simp only [IntKind.bits]; omega]
  have h2 : (18446744073709551615 : Nat) / 2 ^ (64 - n) = 2 ^ n - 1 := by
    have e : 2 ^ n * 2 ^ (64 - n) = 18446744073709551616 := by rw [← Nat.pow_add, show n + (64 - n) = 64 from by omega]
    have p1 := Nat.two_pow_pos n
    have p2 := Nat.two_pow_pos (64 - n)
    have e2 : (2 ^ n - 1) * 2 ^ (64 - n) + 2 ^ (64 - n) = 18446744073709551616 := by
      rw [Nat.sub_mul, Nat.one_mul, e]
      have : 2 ^ (64 - n) ≤ 18446744073709551616 := by rw [← e]; exact Nat.le_mul_of_pos_left _ p1
      omega
    apply Nat.div_eq_of_lt_le
    · omega
    · rw [Nat.succ_mul]; omega
  rw [show (18446744073709551615 : Int) / 2 ^ (64 - n) = (((18446744073709551615 : Nat) / 2 ^ (64 - n) : Nat) : Int) from by simp, h2]
theorem shr_nat (w a : Nat) (ha : a ≤ 64) : shr .u64 (w : Int) (a : Int) = ((w / 2 ^ a : Nat) : Int) := by
  unfold shr
  rw [Int.toNat_natCast, show min a IntKind.u64.bits = a from by simp only [IntKind.bits]; omega]
  simp
theorem shl_nat (w a : Nat) (ha : a ≤ 64) : shl .u64 (w : Int) (a : Int) = ((w * 2 ^ a % 18446744073709551616 : Nat) : Int) := by
  unfold shl
  rw [Int.toNat_natCast, show min a IntKind.u64.bits = a from by simp only [IntKind.bits]; omega, IntKind.wrap_u64]
  simp
theorem get_eq (w a n : Nat) (hw : w < 18446744073709551616) (h1 : 1 ≤ n) (h : a + n ≤ 64) : field_Get.f (w : Int) (a : Int) (n : Int) = some ((w / 2 ^ a % 2 ^ n : Nat) : Int) := by
  unfold field_Get.f
  have hp : 2 ^ n ≤ 2 ^ 64 := Nat.pow_le_pow_right (by omega) (by omega)
  have hp0 := Nat.two_pow_pos n
  rw [fits_eq a n h1 h, Option.bind_some, if_pos rfl, if_pos (by omega), mask_eq n h1 (by omega), Option.bind_some, shr_nat w a (by omega), u64_and_nat _ _ (Nat.lt_of_le_of_lt (Nat.div_le_self _ _) hw) (by omega), Nat.and_two_pow_sub_one_eq_mod]
def putN (w a n v : Nat) : Nat := 2 ^ a * (2 ^ n * (w / 2 ^ (a + n)) + v % 2 ^ n) + w % 2 ^ a
theorem putN_bit (w a n v j : Nat) : (putN w a n v).testBit j = if a ≤ j ∧ j < a + n then v.testBit (j - a) else w.testBit j := by
  unfold putN
  rw [Nat.testBit_two_pow_mul_add _ (Nat.mod_lt _ (Nat.two_pow_pos a))]
  by_cases h1 : j < a
  · rw [if_pos h1, if_neg (by omega), Nat.testBit_mod_two_pow]
    simp [h1]
  · rw [if_neg h1, Nat.testBit_two_pow_mul_add _ (Nat.mod_lt _ (Nat.two_pow_pos n))]
    by_cases h2 : j < a + n
    · rw [if_pos (by omega), if_pos (by omega), Nat.testBit_mod_two_pow]
      simp [show j - a < n from by omega]
    · rw [if_neg (by omega), if_neg (by omega), ← Nat.shiftRight_eq_div_pow, Nat.testBit_shiftRight, show a + n + (j - a - n) = j from by omega]
theorem putN_lt (w a n v : Nat) (hw : w < 2 ^ 64) (h : a + n ≤ 64) : putN w a n v < 2 ^ 64 := by
  apply Nat.lt_pow_two_of_testBit
  intro j hj
  rw [putN_bit, if_neg (by omega)]
  exact Nat.testBit_lt_two_pow (Nat.lt_of_lt_of_le hw (Nat.pow_le_pow_right (by omega) hj))
theorem put_eq (w a n v : Nat) (hw : w < 18446744073709551616) (h1 : 1 ≤ n) (h : a + n ≤ 64) : field_Put.f (w : Int) (a : Int) (n : Int) (v : Int) = some ((putN w a n v : Nat) : Int) := by
  unfold field_Put.f
  have hp : 2 ^ n ≤ 2 ^ 64 := Nat.pow_le_pow_right (by omega) (by omega)
  have hp0 := Nat.two_pow_pos n
  have e1 : ∀ x : Nat, x % 18446744073709551616 < 18446744073709551616 := fun x => Nat.mod_lt _ (by decide)
  rw [fits_eq a n h1 h, Option.bind_some, if_pos rfl, mask_eq n h1 (by omega), Option.bind_some, if_pos (by omega), shl_nat _ a (by omega), shl_nat v a (by omega), u64_andNot_nat _ _ hw (e1 _), u64_and_nat _ _ (e1 _) (e1 _), u64_or_nat]
  · congr 2
    apply Nat.eq_of_testBit_eq
    intro j
    have hMb : ((2 ^ n - 1) * 2 ^ a % 18446744073709551616).testBit j = (decide (j < 64) && (decide (j ≥ a) && decide (j - a < n))) := by
      rw [show (18446744073709551616 : Nat) = 2 ^ 64 from rfl, Nat.testBit_mod_two_pow, Nat.mul_comm, Nat.testBit_two_pow_mul, mask_bit]
    have hVb : (v * 2 ^ a % 18446744073709551616).testBit j = (decide (j < 64) && (decide (j ≥ a) && v.testBit (j - a))) := by
      rw [show (18446744073709551616 : Nat) = 2 ^ 64 from rfl, Nat.testBit_mod_two_pow, Nat.mul_comm, Nat.testBit_two_pow_mul]
    have hm : (2 ^ n - 1) * 2 ^ a % 18446744073709551616 < 2 ^ 64 := e1 _
    generalize (2 ^ n - 1) * 2 ^ a % 18446744073709551616 = M at hMb hm ⊢
    have hnot := Nat.testBit_two_pow_sub_succ (n := 64) hm j
    rw [show 2 ^ 64 - (M + 1) = 18446744073709551615 - M from by omega] at hnot
    rw [putN_bit, Nat.testBit_or, Nat.testBit_and, Nat.testBit_and, hnot, hVb, hMb]
    by_cases hj : j < 64
    · by_cases h2 : a ≤ j
      · by_cases h3 : j - a < n
        · rw [if_pos (by omega)]; simp [hj, h2, h3]
        · rw [if_neg (by omega)]; simp [hj, h2, h3]
      · rw [if_neg (by omega)]; simp [hj, h2]
    · have hwj : w.testBit j = false := Nat.testBit_lt_two_pow (Nat.lt_of_lt_of_le (show w < 2 ^ 64 from hw) (Nat.pow_le_pow_right (by omega) (by omega)))
      rw [if_neg (by omega)]; simp [hj, hwj]
  · exact Nat.lt_of_le_of_lt Nat.and_le_left hw
  · exact Nat.lt_of_le_of_lt Nat.and_le_left (e1 _)
theorem mget0 (w : Nat) (hw : w < 18446744073709551616) : mark_get.f (w : Int) 0 = some ((w % 4 : Nat) : Int) := by
  unfold mark_get.f mark_place.f
  rw [if_pos rfl, Option.bind_some]
  have h := get_eq w 0 2 hw (by omega) (by omega)
  rw [show ((0 : Nat) : Int) = 0 from rfl, show ((2 : Nat) : Int) = 2 from rfl] at h
  rw [h, Option.bind_some, Nat.pow_zero, Nat.div_one]
theorem mget1 (w : Nat) (hw : w < 18446744073709551616) : mark_get.f (w : Int) 1 = some ((w / 4 % 16384 : Nat) : Int) := by
  unfold mark_get.f mark_place.f
  rw [if_neg (by decide), if_pos rfl, Option.bind_some]
  have h := get_eq w 2 14 hw (by omega) (by omega)
  rw [show ((2 : Nat) : Int) = 2 from rfl, show ((14 : Nat) : Int) = 14 from rfl] at h
  rw [h, Option.bind_some]
theorem mget2 (w : Nat) (hw : w < 18446744073709551616) : mark_get.f (w : Int) 2 = some ((w / 65536 : Nat) : Int) := by
  unfold mark_get.f mark_place.f
  rw [if_neg (by decide), if_neg (by decide), if_pos rfl, Option.bind_some]
  have h := get_eq w 16 48 hw (by omega) (by omega)
  rw [show ((16 : Nat) : Int) = 16 from rfl, show ((48 : Nat) : Int) = 48 from rfl] at h
  rw [h, Option.bind_some, show w / 2 ^ 16 % 2 ^ 48 = w / 65536 from Nat.mod_eq_of_lt (by omega)]
theorem mput0 (w v : Nat) (hw : w < 18446744073709551616) : mark_put.f (w : Int) 0 (v : Int) = some ((putN w 0 2 v : Nat) : Int) := by
  unfold mark_put.f mark_place.f
  rw [if_pos rfl, Option.bind_some]
  have h := put_eq w 0 2 v hw (by omega) (by omega)
  rw [show ((0 : Nat) : Int) = 0 from rfl, show ((2 : Nat) : Int) = 2 from rfl] at h
  rw [h, Option.bind_some]
theorem mput1 (w v : Nat) (hw : w < 18446744073709551616) : mark_put.f (w : Int) 1 (v : Int) = some ((putN w 2 14 v : Nat) : Int) := by
  unfold mark_put.f mark_place.f
  rw [if_neg (by decide), if_pos rfl, Option.bind_some]
  have h := put_eq w 2 14 v hw (by omega) (by omega)
  rw [show ((2 : Nat) : Int) = 2 from rfl, show ((14 : Nat) : Int) = 14 from rfl] at h
  rw [h, Option.bind_some]
theorem mput2 (w v : Nat) (hw : w < 18446744073709551616) : mark_put.f (w : Int) 2 (v : Int) = some ((putN w 16 48 v : Nat) : Int) := by
  unfold mark_put.f mark_place.f
  rw [if_neg (by decide), if_neg (by decide), if_pos rfl, Option.bind_some]
  have h := put_eq w 16 48 v hw (by omega) (by omega)
  rw [show ((16 : Nat) : Int) = 16 from rfl, show ((48 : Nat) : Int) = 48 from rfl] at h
  rw [h, Option.bind_some]
/-- A mark that can be. -/
def MR (s c g : Int) : Prop := 0 ≤ s ∧ s ≤ 2 ∧ 0 ≤ c ∧ c ≤ 16383 ∧ 0 ≤ g ∧ g ≤ 281474976710655 ∧ (s = 0 → c = 0)
instance (s c g : Int) : Decidable (MR s c g) := by unfold MR; infer_instance
theorem right_eq (k : Nat) (s c g : Int) (hk : 1 ≤ k) (hg : 0 ≤ g) : mark_Right.f k s c g = some (decide (MR s c g)) := by
  obtain ⟨k, rfl⟩ : ∃ k', k = k' + 1 := ⟨k - 1, by omega⟩
  unfold mark_Right.f
  by_cases h1 : g > 281474976710655
  · rw [if_pos h1]
    simp only [mark_Right.j0]
    rw [if_pos trivial, decide_eq_false (by unfold MR; omega)]
  · rw [if_neg h1]
    by_cases h2 : s < 0
    · rw [if_pos h2]
      simp only [mark_Right.j0]
      rw [if_pos trivial, decide_eq_false (by unfold MR; omega)]
    · rw [if_neg h2]
      by_cases h3 : s > 2
      · rw [decide_eq_true h3]
        simp only [mark_Right.j0]
        rw [if_pos trivial, decide_eq_false (by unfold MR; omega)]
      · rw [decide_eq_false h3]
        simp only [mark_Right.j0, mark_End.f]
        rw [if_neg (by decide)]
        by_cases h4 : s = 0
        · rw [if_pos h4, Option.bind_some]
          subst h4
          by_cases h5 : c = 0
          · subst h5
            rw [decide_eq_true (by unfold MR; omega)]
            simp
          · rw [decide_eq_false (by unfold MR; omega)]
            simp [h5]
        · rw [if_neg h4]
          by_cases h5 : c ≥ 0
          · rw [if_pos h5]
            by_cases h6 : c ≤ 16383
            · rw [decide_eq_true h6, decide_eq_true (by unfold MR; omega)]
            · rw [decide_eq_false h6, decide_eq_false (by unfold MR; omega)]
          · rw [if_neg h5, decide_eq_false (by unfold MR; omega)]
theorem word_eq (s c g : Int) (h : MR s c g) : mark_word.f s c g = some (s + 4 * c + 65536 * g) := by
  obtain ⟨h1, h2, h3, h4, h5, h6, _⟩ := h
  obtain ⟨S, rfl⟩ := Int.eq_ofNat_of_zero_le h1
  obtain ⟨C, rfl⟩ := Int.eq_ofNat_of_zero_le h3
  obtain ⟨G, rfl⟩ := Int.eq_ofNat_of_zero_le h5
  unfold mark_word.f
  have a1 : putN 0 0 2 S = S := by unfold putN; omega
  have a2 : putN S 2 14 C = S + 4 * C := by unfold putN; omega
  have a3 : putN (S + 4 * C) 16 48 G = S + 4 * C + 65536 * G := by unfold putN; omega
  rw [IntKind.wrap_u64, IntKind.wrap_u64, Int.emod_eq_of_lt (by omega) (by omega), Int.emod_eq_of_lt (by omega) (by omega), show (0 : Int) = ((0 : Nat) : Int) from rfl]
  rw [show mark_put.f ((0 : Nat) : Int) ((0 : Nat) : Int) (S : Int) = _ from mput0 0 S (by omega), Option.bind_some, a1, mput1 S C (by omega), Option.bind_some, a2, mput2 (S + 4 * C) G (by omega), Option.bind_some, a3]
  congr 1
theorem encode_eq (k : Nat) (s c g : Int) (hk : 1 ≤ k) (hg : 0 ≤ g) : mark_Encode.f k s c g = some (if MR s c g then (s + 4 * c + 65536 * g, 0) else (0, 1)) := by
  unfold mark_Encode.f
  rw [right_eq k s c g hk hg, Option.bind_some]
  by_cases h : MR s c g
  · rw [decide_eq_true h, if_pos rfl, word_eq s c g h, Option.bind_some, if_pos h]
  · rw [decide_eq_false h, if_neg (by decide), if_neg h]
theorem decode_eq (k : Nat) (w : Int) (hk : 1 ≤ k) (h0 : 0 ≤ w) (h1 : w ≤ 18446744073709551615) : mark_Decode.f k w = some (if MR (w % 4) (w / 4 % 16384) (w / 65536) then (w % 4, w / 4 % 16384, w / 65536, true) else (0, 0, 0, false)) := by
  obtain ⟨n, rfl⟩ := Int.eq_ofNat_of_zero_le h0
  unfold mark_Decode.f
  rw [mget0 n (by omega), Option.bind_some, mget1 n (by omega), Option.bind_some, mget2 n (by omega), Option.bind_some, w64 (by omega), w64 (by omega), right_eq k _ _ _ hk (by omega), Option.bind_some]
  have e : ((n % 4 : Nat) : Int) = (n : Int) % 4 ∧ ((n / 4 % 16384 : Nat) : Int) = (n : Int) / 4 % 16384 ∧ ((n / 65536 : Nat) : Int) = (n : Int) / 65536 := ⟨rfl, rfl, rfl⟩
  rw [e.1, e.2.1, e.2.2]
  by_cases h : MR ((n : Int) % 4) ((n : Int) / 4 % 16384) ((n : Int) / 65536)
  · rw [decide_eq_true h, if_pos rfl, if_pos h]
  · rw [decide_eq_false h, if_neg (by decide), if_neg h]
theorem begin_eq (s c g : Int) (h0 : 0 ≤ g) (h1 : g ≤ 281474976710655) : mark_Begin.f s c g = some (1, 0, (g + 1) % 281474976710656) := by
  obtain ⟨n, rfl⟩ := Int.eq_ofNat_of_zero_le h0
  unfold mark_Begin.f
  rw [IntKind.wrap_u64, Int.emod_eq_of_lt (by omega) (by omega), show (n : Int) + 1 = ((n + 1 : Nat) : Int) from rfl, show (281474976710655 : Int) = ((281474976710655 : Nat) : Int) from rfl, u64_and_nat _ _ (by omega) (by decide),
    show (281474976710655 : Nat) = 2 ^ 48 - 1 from rfl, Nat.and_two_pow_sub_one_eq_mod]
  congr 1
theorem awake_true (k : Nat) (hk : 1 ≤ k) : lockfastlaw07_awake.f k = some true := by
  unfold lockfastlaw07_awake.f
  rw [encode_eq k 1 5 3 hk (by decide), Option.bind_some, decode_eq k 196629 hk (by decide) (by decide), Option.bind_some, if_pos (show MR 1 5 3 by decide), if_pos (show MR (196629 % 4) (196629 / 4 % 16384) (196629 / 65536) by decide), if_pos rfl, if_pos (by decide), if_pos rfl, if_pos (by decide), begin_eq _ _ _ (by decide) (by decide), Option.bind_some, if_pos (by decide)]
  rfl

theorem MarkUnlike : lockfastlaw07_MarkUnlike.Pure := by
  intro s c g s' c' g' hs hc hg hs' hc' hg'
  refine ⟨5, ?_⟩
  have hG := bounds_u64 hg
  have hG' := bounds_u64 hg'
  unfold lockfastlaw07_MarkUnlike.f
  rw [awake_true 5 (by decide), Option.bind_some, encode_eq 5 s c g (by decide) hG.1, Option.bind_some, encode_eq 5 s' c' g' (by decide) hG'.1, Option.bind_some]
  by_cases h : MR s c g
  · rw [if_pos h, if_pos rfl]
    by_cases h' : MR s' c' g'
    · rw [if_pos h', if_pos rfl, if_pos rfl]
      obtain ⟨h1, h2, h3, h4, h5, h6, h7⟩ := h
      obtain ⟨k1, k2, k3, k4, k5, k6, k7⟩ := h'
      by_cases e : s = s' ∧ c = c' ∧ g = g'
      · obtain ⟨rfl, rfl, rfl⟩ := e
        simp
      · have e1 : ¬ (s + 4 * c + 65536 * g = s' + 4 * c' + 65536 * g') := by omega
        rw [show (s + 4 * c + 65536 * g == s' + 4 * c' + 65536 * g') = false from beq_eq_false_iff_ne.mpr e1]
        have e2 : (s == s' && (c == c' && g == g')) = false := by
          by_cases a : s = s'
          · by_cases b : c = c'
            · have : ¬ g = g' := fun z => e ⟨a, b, z⟩
              simp [this]
            · simp [b]
          · simp [a]
        rw [e2]
        rfl
    · rw [if_neg h', if_neg (by decide), if_pos rfl]
      rfl
  · rw [if_neg h, if_neg (by decide), if_pos rfl, if_pos rfl]
    by_cases h' : MR s' c' g'
    · rw [if_pos h', if_pos rfl]
    · rw [if_neg h', if_neg (by decide)]
      rfl

end Go.Proofs.Ytajdfbopddcliaa.Pure
