/- The check sum as the program's text reckons it, in whole numbers: a step of the register, eight of them (a table's entry), a byte, a word, many words. -/
import Derived.Laws.BitsAllLaws
import Derived.RowKit
import Derived.Test.YtinbediigibolaaWWords
namespace Go.Proofs.YtinbediigibolaaX
open Go.RowKit Go.Proofs.YtinbediigibolaaW.PrintWords
/-- A row that is read, its length spelt otherwise. -/
theorem reads_len {α : Type} {R : α → List Value → Prop} {s n m : Nat} {W : World} {A : Option Addr} {l : List α} (h : n = m) (k : ReadsRow R s W A n l) : ReadsRow R s W A m l := h ▸ k
def crcStep (r : Int) : Int := if (Go.bits .and .u32 r 1 == 1) = true then Go.bits .xor .u32 (r / 2) 3988292384 else r / 2
def crcTurn : Nat → Int → Int
  | 0, r => r
  | n + 1, r => crcTurn n (crcStep r)
def crcZero : Array Value := Array.replicate 256 (.int .u32 0)
def crcTab (k : Nat) : Array Value := Array.ofFn (fun j : Fin 256 => Value.int .u32 (if j.1 < k then crcTurn 8 (j.1 : Int) else 0))
theorem crcTab_zero : crcTab 0 = crcZero := by
  apply Array.ext
  · simp [crcTab, crcZero]
  · intro i h1 h2; simp [crcTab, crcZero]
theorem crcTab_at (k j : Nat) (hj : j < 256) : (crcTab k)[j]? = some (.int .u32 (if j < k then crcTurn 8 (j : Int) else 0)) := by
  simp [crcTab, hj]
theorem crcTab_set (k : Nat) : (crcTab k).setIfInBounds k (.int .u32 (crcTurn 8 (k : Int))) = crcTab (k + 1) := by
  apply Array.ext
  · simp [crcTab]
  · intro i h1 h2
    have hi : i < 256 := by simpa [crcTab] using h2
    rw [Array.getElem_setIfInBounds (by simpa [crcTab] using hi)]
    by_cases e : k = i
    · subst e; rw [if_pos rfl]; simp [crcTab]
    · rw [if_neg e]; simp [crcTab]
      by_cases h : i < k
      · rw [if_pos h, if_pos (by omega)]
      · rw [if_neg h, if_neg (by omega)]
def crcByte (r w : Int) : Int := Go.bits .xor .u32 (r / 256) (crcTurn 8 (Go.bits .and .u32 (Go.bits .xor .u32 r (w % 4294967296)) 255))
def crcBytes : Nat → Int → Int → Int
  | 0, r, _ => r
  | n + 1, r, w => crcBytes n (crcByte r w) (w / 256)
def crcFold : Int → List Int → Int
  | r, [] => r
  | r, w :: l => crcFold (crcBytes 8 r w) l
def crcMore (s : Int) (l : List Int) : Int := Go.bits .xor .u32 IntKind.u32.max (crcFold (Go.bits .xor .u32 IntKind.u32.max s) l)
theorem crcFold_snoc (l : List Int) (x : Int) : ∀ r, crcFold r (l ++ [x]) = crcBytes 8 (crcFold r l) x := by
  induction l with
  | nil => intro r; rfl
  | cons y l ih => intro r; exact ih _
theorem crcFold_take (r : Int) (l : List Int) (k : Nat) (h : k < l.length) : crcFold r (l.take (k + 1)) = crcBytes 8 (crcFold r (l.take k)) (rd l k) := by
  rw [List.take_succ_eq_append_getElem h, crcFold_snoc]
  congr 1
  simp [rd, h]
theorem and255 (x : Int) : 0 ≤ Go.bits .and .u32 x 255 ∧ Go.bits .and .u32 x 255 < 256 := by
  have h : Go.bits .and .u32 x 255 = IntKind.u32.wrap ((BitVec.ofInt 32 x &&& BitVec.ofInt 32 255).toNat : Int) := rfl
  have h2 : (BitVec.ofInt 32 x &&& BitVec.ofInt 32 255).toNat ≤ 255 := by
    rw [BitVec.toNat_and]
    exact Nat.le_trans Nat.and_le_right (by decide)
  rw [h, IntKind.wrap_u32']
  omega
end Go.Proofs.YtinbediigibolaaX
