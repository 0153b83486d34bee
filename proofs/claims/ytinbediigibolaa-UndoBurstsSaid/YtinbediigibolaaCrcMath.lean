/- The check sum's laws: a step of the register is linear and one to one, so many words' fold is turns of one long number. -/
import Derived.Test.YtinbediigibolaaCrc
namespace Go.Proofs.YtinbediigibolaaX
open Go.RowKit Go.Proofs.YtinbediigibolaaW.PrintWords
/-! ### over the naturals -/
def nstep (r : Nat) : Nat := if r % 2 = 1 then (r / 2) ^^^ 3988292384 else r / 2
def nturn : Nat → Nat → Nat
  | 0, r => r
  | n + 1, r => nturn n (nstep r)
theorem nturn_0 (r : Nat) : nturn 0 r = r := rfl
theorem nturn_s (n r : Nat) : nturn (n + 1) r = nturn n (nstep r) := rfl
theorem xor_mod2 (a b : Nat) : (a ^^^ b) % 2 = (a % 2 + b % 2) % 2 := by
  have := Nat.testBit_xor a b 0
  simp only [Nat.testBit_zero] at this
  have ha := Nat.mod_two_eq_zero_or_one a
  have hb := Nat.mod_two_eq_zero_or_one b
  have hc := Nat.mod_two_eq_zero_or_one (a ^^^ b)
  rcases ha with ha | ha <;> rcases hb with hb | hb <;> rcases hc with hc | hc <;> simp [ha, hb, hc] at this ⊢
theorem xor_div2 (a b : Nat) : (a ^^^ b) / 2 = (a / 2) ^^^ (b / 2) := by
  apply Nat.eq_of_testBit_eq
  intro i
  simp [Nat.testBit_div_two, Nat.testBit_xor]
theorem nstep_xor (a b : Nat) : nstep (a ^^^ b) = nstep a ^^^ nstep b := by
  unfold nstep
  rw [xor_mod2, xor_div2]
  rcases Nat.mod_two_eq_zero_or_one a with ha | ha <;> rcases Nat.mod_two_eq_zero_or_one b with hb | hb <;> simp [ha, hb]
  · rw [Nat.xor_assoc]
  · rw [Nat.xor_assoc, Nat.xor_comm (b / 2), ← Nat.xor_assoc]
  · rw [Nat.xor_assoc, Nat.xor_comm 3988292384, Nat.xor_assoc (b / 2), Nat.xor_self, Nat.xor_zero]
theorem nturn_xor (n : Nat) : ∀ a b, nturn n (a ^^^ b) = nturn n a ^^^ nturn n b := by
  induction n with
  | zero => intro a b; rfl
  | succ n ih => intro a b; show nturn n (nstep _) = nturn n (nstep a) ^^^ nturn n (nstep b); rw [nstep_xor, ih]
theorem nturn_add (m n : Nat) : ∀ r, nturn (m + n) r = nturn n (nturn m r) := by
  induction m with
  | zero => intro r; rw [Nat.zero_add]; rfl
  | succ m ih => intro r; rw [Nat.succ_add]; exact ih (nstep r)
theorem nstep_two (x : Nat) : nstep (2 * x) = x := by
  unfold nstep
  rw [if_neg (by omega)]; omega
theorem nturn_pow (n : Nat) : ∀ x, nturn n (2 ^ n * x) = x := by
  induction n with
  | zero => intro x; show 2 ^ 0 * x = x; omega
  | succ n ih => intro x; show nturn n (nstep (2 ^ (n + 1) * x)) = x; rw [show 2 ^ (n + 1) * x = 2 * (2 ^ n * x) from by rw [Nat.pow_succ, Nat.mul_comm (2 ^ n) 2, Nat.mul_assoc], nstep_two, ih]
theorem nstep_lt (r : Nat) (h : r < 2 ^ 32) : nstep r < 2 ^ 32 := by
  unfold nstep
  split
  · exact Nat.xor_lt_two_pow (by omega) (by omega)
  · omega
theorem nturn_lt (n : Nat) : ∀ r, r < 2 ^ 32 → nturn n r < 2 ^ 32 := by
  induction n with
  | zero => intro r h; exact h
  | succ n ih => intro r h; exact ih _ (nstep_lt r h)
theorem nstep_zero (r : Nat) (h : r < 2 ^ 32) (z : nstep r = 0) : r = 0 := by
  unfold nstep at z
  split at z
  · rename_i o
    have e : r / 2 = 3988292384 := by
      have h1 : r / 2 ^^^ 3988292384 ^^^ 3988292384 = 0 ^^^ 3988292384 := by rw [z]
      rw [Nat.xor_assoc, Nat.xor_self, Nat.xor_zero, Nat.zero_xor] at h1
      exact h1
    omega
  · omega
theorem nturn_z (n : Nat) : nturn n 0 = 0 := by
  induction n with
  | zero => rfl
  | succ n ih => exact ih
theorem nturn_zero (n : Nat) : ∀ r, r < 2 ^ 32 → nturn n r = 0 → r = 0 := by
  induction n with
  | zero => intro r _ z; exact z
  | succ n ih => intro r h z; exact nstep_zero r h (ih _ (nstep_lt r h) z)
theorem xor_eq_zero (a b : Nat) (h : a ^^^ b = 0) : a = b := by
  have h1 : a ^^^ b ^^^ b = 0 ^^^ b := by rw [h]
  rwa [Nat.xor_assoc, Nat.xor_self, Nat.xor_zero, Nat.zero_xor] at h1
theorem nturn_inj (n a b : Nat) (ha : a < 2 ^ 32) (hb : b < 2 ^ 32) (h : nturn n a = nturn n b) : a = b := by
  apply xor_eq_zero
  apply nturn_zero n _ (Nat.xor_lt_two_pow ha hb)
  rw [nturn_xor, h, Nat.xor_self]
attribute [irreducible] nturn
/-- A number below, and one above it: no bit is common. -/
theorem xor_low (n x y : Nat) (h : x < 2 ^ n) : x ^^^ (2 ^ n * y) = 2 ^ n * y + x := by
  apply Nat.eq_of_testBit_eq
  intro i
  rw [Nat.testBit_xor, Nat.testBit_two_pow_mul_add y h, Nat.testBit_two_pow_mul]
  by_cases e : i < n
  · rw [if_pos e]
    simp [show ¬ n ≤ i from by omega]
  · rw [if_neg e, Nat.testBit_lt_two_pow (Nat.lt_of_lt_of_le h (Nat.pow_le_pow_right (by omega) (by omega)))]
    simp [show n ≤ i from by omega]
theorem split_low (n r : Nat) : (r % 2 ^ n) ^^^ (2 ^ n * (r / 2 ^ n)) = r := by
  rw [xor_low n _ _ (Nat.mod_lt _ (Nat.two_pow_pos n))]; exact Nat.div_add_mod r (2 ^ n)
theorem xor_mod_pow (n a b : Nat) : (a ^^^ b) % 2 ^ n = (a % 2 ^ n) ^^^ (b % 2 ^ n) := Nat.xor_mod_two_pow
/-- A byte's step, by the table. -/
def nbyte (r w : Nat) : Nat := (r / 256) ^^^ nturn 8 ((r ^^^ w) % 256)
theorem nbyte_turn (r w : Nat) : nbyte r w = nturn 8 (r ^^^ (w % 256)) := by
  have h : r ^^^ (w % 256) = ((r ^^^ w) % 256) ^^^ (256 * (r / 256)) := by
    have h1 := xor_mod_pow 8 r w
    have h2 := split_low 8 r
    rw [show (256 : Nat) = 2 ^ 8 from rfl, h1, Nat.xor_assoc, Nat.xor_comm (w % 2 ^ 8), ← Nat.xor_assoc, h2]
  rw [h, nturn_xor, show (256 : Nat) * (r / 256) = 2 ^ 8 * (r / 256) from rfl, nturn_pow 8]
  unfold nbyte
  rw [Nat.xor_comm]
def nbytes : Nat → Nat → Nat → Nat
  | 0, r, _ => r
  | n + 1, r, w => nbytes n (nbyte r w) (w / 256)
theorem nbytes_turn (n : Nat) : ∀ r w, nbytes n r w = nturn (8 * n) (r ^^^ (w % 2 ^ (8 * n))) := by
  induction n with
  | zero => intro r w; simp [nbytes, nturn_0, Nat.mod_one]
  | succ n ih =>
    intro r w
    show nbytes n (nbyte r w) (w / 256) = _
    rw [ih, nbyte_turn, show 8 * (n + 1) = 8 + 8 * n from by omega, nturn_add 8 (8 * n)]
    congr 1
    have hs : w % 2 ^ (8 + 8 * n) = (w % 256) ^^^ (2 ^ 8 * (w / 256 % 2 ^ (8 * n))) := by
      rw [xor_low 8 _ _ (Nat.mod_lt _ (by decide)), Nat.pow_add, Nat.mod_mul]
      show w % 256 + 256 * (w / 256 % 2 ^ (8 * n)) = 256 * _ + w % 256
      omega
    rw [hs, ← Nat.xor_assoc, nturn_xor 8 (r ^^^ w % 256), nturn_pow 8]
/-- Many words as one long number, the first one lowest. -/
def big : List Int → Nat
  | [] => 0
  | w :: l => w.toNat ^^^ (2 ^ 64 * big l)
def Words (l : List Int) : Prop := ∀ x ∈ l, 0 ≤ x ∧ x < 18446744073709551616
def nfold : Nat → List Int → Nat
  | r, [] => r
  | r, w :: l => nfold (nturn 64 (r ^^^ w.toNat)) l
theorem nfold_big (l : List Int) : ∀ r, nfold r l = nturn (64 * l.length) (r ^^^ big l) := by
  induction l with
  | nil => intro r; simp [nfold, big, nturn_0]
  | cons w l ih =>
    intro r
    show nfold (nturn 64 (r ^^^ w.toNat)) l = nturn (64 * (l.length + 1)) (r ^^^ (w.toNat ^^^ 2 ^ 64 * big l))
    rw [ih, show 64 * (l.length + 1) = 64 + 64 * l.length from by omega, nturn_add 64]
    congr 1
    rw [← Nat.xor_assoc, nturn_xor 64 (r ^^^ w.toNat), nturn_pow 64]
theorem nfold_append (l m : List Int) : ∀ r, nfold r (l ++ m) = nfold (nfold r l) m := by
  induction l with
  | nil => intro r; rfl
  | cons w l ih => intro r; exact ih _
theorem nturn64_lt (r w : Nat) (hr : r < 2 ^ 32) (hw : w < 2 ^ 64) : nturn 64 (r ^^^ w) < 2 ^ 32 := by
  have hs := split_low 32 w
  rw [← hs, ← Nat.xor_assoc, show (64 : Nat) = 32 + 32 from rfl, nturn_add 32 32]
  rw [nturn_xor 32 (r ^^^ w % 2 ^ 32), nturn_pow 32]
  apply nturn_lt
  apply Nat.xor_lt_two_pow
  · apply nturn_lt
    exact Nat.xor_lt_two_pow hr (Nat.mod_lt _ (by decide))
  · omega
theorem nfold_lt (l : List Int) : ∀ r, Words l → r < 2 ^ 32 → nfold r l < 2 ^ 32 := by
  induction l with
  | nil => intro r _ h; exact h
  | cons w l ih =>
    intro r hl h
    have hw := hl w (by simp)
    exact ih _ (fun x hx => hl x (by simp [hx])) (nturn64_lt r w.toNat h (by omega))
/-! ### the program's text is that -/
theorem crcStep_nat (r : Nat) (h : r < 4294967296) : crcStep (r : Int) = (nstep r : Int) := by
  unfold crcStep nstep
  rw [show (1 : Int) = ((1 : Nat) : Int) from rfl, u32_and_nat r 1 h (by omega), nat_mask1]
  rcases Nat.mod_two_eq_zero_or_one r with e | e
  · rw [e, if_neg (by decide), if_neg (by decide)]; rfl
  · rw [e, if_pos (by decide), if_pos rfl, show (r : Int) / 2 = ((r / 2 : Nat) : Int) from rfl, show (3988292384 : Int) = ((3988292384 : Nat) : Int) from rfl, u32_xor_nat _ _ (by omega) (by omega)]
theorem crcTurn_nat (n : Nat) : ∀ r : Nat, r < 4294967296 → crcTurn n (r : Int) = (nturn n r : Int) := by
  induction n with
  | zero => intro r _; rw [nturn_0]; rfl
  | succ n ih => intro r h; show crcTurn n (crcStep r) = _; rw [crcStep_nat r h, ih _ (nstep_lt r h), nturn_s]
theorem crcByte_nat (r w : Nat) (h : r < 4294967296) : crcByte (r : Int) (w : Int) = (nbyte r w : Int) := by
  unfold crcByte
  have h1 : r ^^^ (w % 4294967296) < 2 ^ 32 := Nat.xor_lt_two_pow h (by omega)
  rw [show (w : Int) % 4294967296 = ((w % 4294967296 : Nat) : Int) from rfl, u32_xor_nat _ _ h (by omega), show (255 : Int) = ((255 : Nat) : Int) from rfl, u32_and_nat _ _ h1 (by omega), nat_mask8, crcTurn_nat _ _ (by omega), show (r : Int) / 256 = ((r / 256 : Nat) : Int) from rfl,
    u32_xor_nat _ _ (by omega) (nturn_lt _ _ (by omega))]
  unfold nbyte
  congr 3
  rw [show (256 : Nat) = 2 ^ 8 from rfl, xor_mod_pow 8, xor_mod_pow 8, show (4294967296 : Nat) = 2 ^ 32 from rfl]
  congr 1
  omega
theorem nbyte_lt (r w : Nat) (h : r < 4294967296) : nbyte r w < 4294967296 := by
  rw [nbyte_turn]
  exact nturn_lt _ _ (Nat.xor_lt_two_pow (n := 32) h (by omega))
theorem crcBytes_nat (n : Nat) : ∀ r w : Nat, r < 4294967296 → crcBytes n (r : Int) (w : Int) = (nbytes n r w : Int) := by
  induction n with
  | zero => intro r w _; rfl
  | succ n ih =>
    intro r w h
    show crcBytes n (crcByte r w) ((w : Int) / 256) = _
    rw [crcByte_nat r w h, show (w : Int) / 256 = ((w / 256 : Nat) : Int) from rfl, ih _ _ (nbyte_lt r w h)]
    rfl
theorem crcFold_nat (l : List Int) : ∀ r : Nat, Words l → r < 4294967296 → crcFold (r : Int) l = (nfold r l : Int) := by
  induction l with
  | nil => intro r _ _; rfl
  | cons w l ih =>
    intro r hl h
    have hw := hl w (by simp)
    show crcFold (crcBytes 8 r w) l = (nfold (nturn 64 (r ^^^ w.toNat)) l : Int)
    obtain ⟨n, rfl⟩ := Int.eq_ofNat_of_zero_le hw.1
    have hn : n < 2 ^ 64 := by omega
    have e := nbytes_turn 8 r n
    rw [show 8 * 8 = 64 from rfl, Nat.mod_eq_of_lt hn] at e
    rw [crcBytes_nat 8 r n h, e, ih _ (fun x hx => hl x (by simp [hx])) (nturn64_lt r n h hn)]
    rfl
def ones : Nat := 4294967295
def nmore (s : Nat) (l : List Int) : Nat := ones ^^^ nfold (ones ^^^ s) l
theorem ones_lt (s : Nat) (h : s < 4294967296) : ones ^^^ s < 4294967296 := Nat.xor_lt_two_pow (n := 32) (by decide) h
theorem nmore_lt (s : Nat) (l : List Int) (hl : Words l) (h : s < 4294967296) : nmore s l < 4294967296 := ones_lt _ (nfold_lt l _ hl (ones_lt s h))
theorem crcMore_nat (s : Nat) (l : List Int) (hl : Words l) (h : s < 4294967296) : crcMore (s : Int) l = (nmore s l : Int) := by
  unfold crcMore
  rw [show IntKind.u32.max = ((ones : Nat) : Int) from by decide, u32_xor_nat _ _ (by decide) h, crcFold_nat l _ hl (ones_lt s h), u32_xor_nat _ _ (by decide) (nfold_lt l _ hl (ones_lt s h))]
  rfl
theorem xor_xor_cancel (a b : Nat) : a ^^^ (a ^^^ b) = b := by rw [← Nat.xor_assoc, Nat.xor_self, Nat.zero_xor]
theorem nmore_append (s : Nat) (l m : List Int) : nmore s (l ++ m) = nmore (nmore s l) m := by
  unfold nmore
  rw [xor_xor_cancel, nfold_append]
theorem nmore_inj (s t : Nat) (l : List Int) (hs : s < 4294967296) (ht : t < 4294967296) (h : nmore s l = nmore t l) : s = t := by
  unfold nmore at h
  have h1 : ones ^^^ (ones ^^^ nfold (ones ^^^ s) l) = ones ^^^ (ones ^^^ nfold (ones ^^^ t) l) := by rw [h]
  rw [xor_xor_cancel, xor_xor_cancel, nfold_big, nfold_big, nturn_xor, nturn_xor _ (ones ^^^ t)] at h1
  have h2 : nturn (64 * l.length) (ones ^^^ s) = nturn (64 * l.length) (ones ^^^ t) := by
    have h3 : (nturn (64 * l.length) (ones ^^^ s) ^^^ nturn (64 * l.length) (big l)) ^^^ nturn (64 * l.length) (big l) = (nturn (64 * l.length) (ones ^^^ t) ^^^ nturn (64 * l.length) (big l)) ^^^ nturn (64 * l.length) (big l) := by rw [h1]
    rwa [Nat.xor_assoc, Nat.xor_self, Nat.xor_zero, Nat.xor_assoc, Nat.xor_self, Nat.xor_zero] at h3
  have h4 := nturn_inj _ _ _ (ones_lt s hs) (ones_lt t ht) h2
  have h5 : ones ^^^ (ones ^^^ s) = ones ^^^ (ones ^^^ t) := by rw [h4]
  rwa [xor_xor_cancel, xor_xor_cancel] at h5
/-- Two lists of one length whose long numbers differ within 32 bits, at a bit that they have, have unlike check sums. -/
theorem nmore_burst (s k c : Nat) (l m : List Int) (hlen : l.length = m.length) (hk : k ≤ 64 * l.length) (hc : c < 2 ^ 32) (hb : big m = big l ^^^ (2 ^ k * c)) (h : nmore s l = nmore s m) : c = 0 := by
  unfold nmore at h
  have h1 : ones ^^^ (ones ^^^ nfold (ones ^^^ s) l) = ones ^^^ (ones ^^^ nfold (ones ^^^ s) m) := by rw [h]
  rw [xor_xor_cancel, xor_xor_cancel, nfold_big, nfold_big, ← hlen, hb, ← Nat.xor_assoc, nturn_xor _ (ones ^^^ s ^^^ big l)] at h1
  have h2 : nturn (64 * l.length) (2 ^ k * c) = 0 := by
    have h3 := congrArg (fun z => nturn (64 * l.length) (ones ^^^ s ^^^ big l) ^^^ z) h1
    simp only [xor_xor_cancel, Nat.xor_self] at h3
    exact h3.symm
  rw [show 64 * l.length = k + (64 * l.length - k) from by omega, nturn_add k, nturn_pow] at h2
  exact nturn_zero _ _ hc h2
theorem big_set (l : List Int) : ∀ (j : Nat) (v : Nat), j < l.length → (∀ x ∈ l, 0 ≤ x) → big (l.set j (((rd l j).toNat ^^^ v : Nat) : Int)) = big l ^^^ (2 ^ (64 * j) * v) := by
  induction l with
  | nil => intro j v h _; simp at h
  | cons w l ih =>
    intro j v h hl
    cases j with
    | zero =>
      show ((((rd (w :: l) 0).toNat ^^^ v : Nat) : Int)).toNat ^^^ (2 ^ 64 * big l) = (w.toNat ^^^ (2 ^ 64 * big l)) ^^^ (2 ^ (64 * 0) * v)
      simp only [rd]
      show (w.toNat ^^^ v) ^^^ (2 ^ 64 * big l) = _
      rw [Nat.mul_zero, Nat.pow_zero, Nat.one_mul, Nat.xor_assoc, Nat.xor_comm v, ← Nat.xor_assoc]
    | succ j =>
      have h1 := ih j v (by simpa using h) (fun x hx => hl x (by simp [hx]))
      have h2 : rd (w :: l) ((j + 1 : Nat) : Int) = rd l (j : Int) := by
        simp [rd]
      rw [h2]
      show w.toNat ^^^ (2 ^ 64 * big (l.set j _)) = (w.toNat ^^^ (2 ^ 64 * big l)) ^^^ _
      rw [h1, Nat.xor_assoc]
      congr 1
      rw [show 64 * (j + 1) = 64 + 64 * j from by omega, Nat.pow_add, Nat.mul_assoc]
      apply Nat.eq_of_testBit_eq
      intro i
      simp only [Nat.testBit_xor, Nat.testBit_two_pow_mul]
      by_cases e : 64 ≤ i <;> simp [e]
theorem mul_xor (n a b : Nat) : 2 ^ n * (a ^^^ b) = (2 ^ n * a) ^^^ (2 ^ n * b) := by
  apply Nat.eq_of_testBit_eq
  intro i
  simp only [Nat.testBit_xor, Nat.testBit_two_pow_mul]
  by_cases e : n ≤ i <;> simp [e]
end Go.Proofs.YtinbediigibolaaX
