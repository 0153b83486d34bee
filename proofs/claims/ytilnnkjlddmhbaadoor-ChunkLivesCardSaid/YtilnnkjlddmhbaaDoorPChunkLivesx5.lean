-- WRITTEN FOR THIS CLAIM by given.py, a program of this session's: the kit's printer, run with contracts of the session's own. It is not a text of print.sh's.
import Derived.Test.YtilnnkjlddmhbaaDoorPChunkLivesx0
import Derived.Test.YtilnnkjlddmhbaaDoorPChunkLivesx1
import Derived.Test.YtilnnkjlddmhbaaDoorPChunkLivesx3
import Derived.Test.YtilnnkjlddmhbaaDoorPChunkLivesx4
namespace Go.Proofs.YtilnnkjlddmhbaaDoor.PChunkLives
open Go.RowKit Go.Proofs.YtilnnkjlddmhbaaDoorW.PrintWords Go.Proofs.YtilnnkjlddmhbaaDoorW.PrintLast Go.Proofs.YtilnnkjlddmhbaaDoorW.PrintMore
attribute [local go_sem] max2_int min2_int max_two min_two max_three min_three max_four min_four   -- for this text's walks alone
set_option linter.unusedVariables false
set_option linter.unusedSimpArgs false
open Go.Proofs.YtilnnkjlddmhbaaDoorX

attribute [local go_sem high] eqA24
/-! ### lockfastlaw10_ChunkLives: function 7 -/
def lockfastlaw10_ChunkLives.j0 : Nat → Bool → Int → Int → Bool → Int → Int → Int → Int → Int → Int → Int → Int → Int → Int → Int → Int → Int → Int → Int → Option (Bool)
  | 0, _, _, _, _, _, _, _, _, _, _, _, _, _, _, _, _, _, _, _ => none
  | k + 1, x7, x8, x10, x67, x168000, x168001, x168002, x168003, x168004, x178000, x178001, x178002, x178003, x178004, x186000, x186001, x186002, x186003, x186004 => if x67 = true then (some false) else (if 0 ≤ x10 then (if x7 = true then (if (x178000 == 1 && (x178001 == x8 && (x178002 == 0 && (x178003 == 0 && (x178004 == (Go.bits .or .u64 x168004 (shl .u64 1 x10))))))) = true then (if (x186000 == 1 && (x186001 == x8 && (x186002 == 0 && (x186003 == 0 && (x186004 == (Go.bits .andNot .u64 x168004 (shl .u64 1 x10))))))) = true then ((chunk_Room.f x186000 x186001 x186002 x186003 x186004).bind fun t188 => (if t188 ≥ 0 then ((chunk_Room.f x186000 x186001 x186002 x186003 x186004).bind fun t189 => (if t189 ≤ x10 then ((chunk_Room.f x178000 x178001 x178002 x178003 x178004).bind fun t190 => (if t190 = x10 then (some false) else (if (Go.bits .andNot .u64 x168004 (shl .u64 1 x10)) = 0 then ((chunk_Empty.f x186000 x186001 x186002 x186003 x186004).bind fun t191 => (some t191)) else (some true)))) else (some false))) else (some false))) else (some false)) else (some false)) else (some false)) else (none))
def lockfastlaw10_ChunkLives.f (k : Nat) (a0 : Int) (a1 : Int) (a2 : Int) : Option (Bool) := (lockfastlaw10_awake.f).bind fun t165 => ((lockfastref09_Many.f k (wrap64 (Int.tmod a0 3))).bind fun t166 => (if t166 = 0 then (none) else (if 0 ≤ t166 then (if (shl .u64 1 t166) = 0 then (none) else ((chunk_Encode.f 1 (wrap64 (Int.tmod a0 3)) 0 0 (Int.tmod (IntKind.u64.wrap (a1)) (shl .u64 1 t166))).bind fun bt168 => ((chunk_Bit.f (Int.tmod (wrap64 (a2)) t166)).bind fun t170 => ((chunk_Decode.f (Go.bits .or .u64 bt168.1 t170)).bind fun bt171 => ((chunk_Bit.f (Int.tmod (wrap64 (a2)) t166)).bind fun t178 => ((chunk_Decode.f (Go.bits .andNot .u64 bt168.1 t178)).bind fun bt179 => (if bt168.2 = 0 then (if bt171.2.2.2.2.2 = true then (lockfastlaw10_ChunkLives.j0 k t165 (wrap64 (Int.tmod a0 3)) (Int.tmod (wrap64 (a2)) t166) (!bt179.2.2.2.2.2) 1 (wrap64 (Int.tmod a0 3)) 0 0 (Int.tmod (IntKind.u64.wrap (a1)) (shl .u64 1 t166)) bt171.1 bt171.2.1 bt171.2.2.1 bt171.2.2.2.1 bt171.2.2.2.2.1 bt179.1 bt179.2.1 bt179.2.2.1 bt179.2.2.2.1 bt179.2.2.2.2.1) else (lockfastlaw10_ChunkLives.j0 k t165 (wrap64 (Int.tmod a0 3)) (Int.tmod (wrap64 (a2)) t166) true 1 (wrap64 (Int.tmod a0 3)) 0 0 (Int.tmod (IntKind.u64.wrap (a1)) (shl .u64 1 t166)) bt171.1 bt171.2.1 bt171.2.2.1 bt171.2.2.2.1 bt171.2.2.2.2.1 bt179.1 bt179.2.1 bt179.2.2.1 bt179.2.2.2.1 bt179.2.2.2.2.1)) else (lockfastlaw10_ChunkLives.j0 k t165 (wrap64 (Int.tmod a0 3)) (Int.tmod (wrap64 (a2)) t166) true 1 (wrap64 (Int.tmod a0 3)) 0 0 (Int.tmod (IntKind.u64.wrap (a1)) (shl .u64 1 t166)) bt171.1 bt171.2.1 bt171.2.2.1 bt171.2.2.2.1 bt171.2.2.2.2.1 bt179.1 bt179.2.1 bt179.2.2.1 bt179.2.2.2.1 bt179.2.2.2.2.1)))))))) else (none))))
theorem lockfastlaw10_ChunkLives.mono_l : ∀ k, (∀ y0 y1 y2 y3 y4 y5 y6 y7 y8 y9 y10 y11 y12 y13 y14 y15 y16 y17 y18, LeO (lockfastlaw10_ChunkLives.j0 k y0 y1 y2 y3 y4 y5 y6 y7 y8 y9 y10 y11 y12 y13 y14 y15 y16 y17 y18) (lockfastlaw10_ChunkLives.j0 (k + 1) y0 y1 y2 y3 y4 y5 y6 y7 y8 y9 y10 y11 y12 y13 y14 y15 y16 y17 y18))
  | 0 => fun _ _ _ _ _ _ _ _ _ _ _ _ _ _ _ _ _ _ _ r h => by simp [lockfastlaw10_ChunkLives.j0] at h
  | k + 1 => by
    have ih0 := lockfastlaw10_ChunkLives.mono_l k
    · intro y0 y1 y2 y3 y4 y5 y6 y7 y8 y9 y10 y11 y12 y13 y14 y15 y16 y17 y18
      unfold lockfastlaw10_ChunkLives.j0
      repeat' first
      | (with_reducible exact ih0 _ _ _ _ _ _ _ _ _ _ _ _ _ _ _ _ _ _ _)
      | (with_reducible exact lockfastref09_Many.mono _ _)
      | (with_reducible exact LeO.refl _)
      | (with_reducible exact LeO.none _)
      | (with_reducible refine LeO.ite ?_ ?_)
      | (with_reducible refine LeO.bind ?_ (fun _ => ?_))
      | exact ih0 _ _ _ _ _ _ _ _ _ _ _ _ _ _ _ _ _ _ _
      | exact lockfastref09_Many.mono _ _
      | exact LeO.none _
      | refine LeO.ite ?_ ?_
      | refine LeO.bind ?_ (fun _ => ?_)
theorem lockfastlaw10_ChunkLives.mono : ∀ a0 a1 a2 k, LeO (lockfastlaw10_ChunkLives.f k a0 a1 a2) (lockfastlaw10_ChunkLives.f (k + 1) a0 a1 a2) := by
  intro a0 a1 a2 k
  have ih0 := lockfastlaw10_ChunkLives.mono_l k
  unfold lockfastlaw10_ChunkLives.f
  repeat' first
      | (with_reducible exact ih0 _ _ _ _ _ _ _ _ _ _ _ _ _ _ _ _ _ _ _)
      | (with_reducible exact lockfastref09_Many.mono _ _)
      | (with_reducible exact LeO.refl _)
      | (with_reducible exact LeO.none _)
      | (with_reducible refine LeO.ite ?_ ?_)
      | (with_reducible refine LeO.bind ?_ (fun _ => ?_))
      | exact ih0 _ _ _ _ _ _ _ _ _ _ _ _ _ _ _ _ _ _ _
      | exact lockfastref09_Many.mono _ _
      | exact LeO.none _
      | refine LeO.ite ?_ ?_
      | refine LeO.bind ?_ (fun _ => ?_)
def lockfastlaw10_ChunkLives.T11 : Bool × List (List Nat × List Nat) := (true, [([], []), ([], []), ([1], [1]), ([], []), ([3], [3]), ([2, 4], [2, 4]), ([0, 5], [0, 5]), ([], []), ([7, 6, 0, 1, 2, 3, 4, 5, 6, 7], [6, 7])])
def lockfastlaw10_ChunkLives.B11 : List Nat := [0, 0, 2, 0, 8, 30, 63, 0, 255]
theorem lockfastlaw10_ChunkLives.tab11 : rtab .any (opsOf Tryd.f7 11) = lockfastlaw10_ChunkLives.T11 := by kernel_rfl
theorem lockfastlaw10_ChunkLives.bits11 : waitsOk lockfastlaw10_ChunkLives.T11.2 lockfastlaw10_ChunkLives.B11 = true := by kernel_rfl
def lockfastlaw10_ChunkLives.T12 : Bool × List (List Nat × List Nat) := (true, [([], []), ([], []), ([1], [1]), ([], []), ([3], [3]), ([2, 4], [2, 4]), ([0, 5], [0, 5]), ([], []), ([7, 6, 0, 1, 2, 3, 4, 5, 6, 7], [6, 7])])
def lockfastlaw10_ChunkLives.B12 : List Nat := [0, 0, 2, 0, 8, 30, 63, 0, 255]
theorem lockfastlaw10_ChunkLives.tab12 : rtab .any (opsOf Tryd.f7 12) = lockfastlaw10_ChunkLives.T12 := by kernel_rfl
theorem lockfastlaw10_ChunkLives.bits12 : waitsOk lockfastlaw10_ChunkLives.T12.2 lockfastlaw10_ChunkLives.B12 = true := by kernel_rfl
set_option maxHeartbeats 8000000 in
set_option maxRecDepth 100000 in
theorem lockfastlaw10_ChunkLives.calls (k : Nat) (a0 : Int) (a1 : Int) (a2 : Int) (r : Bool) (w : World) (HG : GL w) (hrt : r = true) (h : lockfastlaw10_ChunkLives.f k a0 a1 a2 = some r) :
    Calls Tryd.prog 7 #[.int .u8 a0, .int .u8 a1, .int .u8 a2] w fun e w' => e = .returned (.bool r) ∧ Below w.heap.size w w' := by
  have hu24 := Tryd.underlying24
  have HB := Aside0.mk (Below.refl w.heap.size w)
  have H : ((lockfastlaw10_awake.f).bind fun t165 => ((lockfastref09_Many.f k (wrap64 (Int.tmod a0 3))).bind fun t166 => (if t166 = 0 then (none) else (if 0 ≤ t166 then (if (shl .u64 1 t166) = 0 then (none) else ((chunk_Encode.f 1 (wrap64 (Int.tmod a0 3)) 0 0 (Int.tmod (IntKind.u64.wrap (a1)) (shl .u64 1 t166))).bind fun bt168 => ((chunk_Bit.f (Int.tmod (wrap64 (a2)) t166)).bind fun t170 => ((chunk_Decode.f (Go.bits .or .u64 bt168.1 t170)).bind fun bt171 => ((chunk_Bit.f (Int.tmod (wrap64 (a2)) t166)).bind fun t178 => ((chunk_Decode.f (Go.bits .andNot .u64 bt168.1 t178)).bind fun bt179 => (if bt168.2 = 0 then (if bt171.2.2.2.2.2 = true then (lockfastlaw10_ChunkLives.j0 k t165 (wrap64 (Int.tmod a0 3)) (Int.tmod (wrap64 (a2)) t166) (!bt179.2.2.2.2.2) 1 (wrap64 (Int.tmod a0 3)) 0 0 (Int.tmod (IntKind.u64.wrap (a1)) (shl .u64 1 t166)) bt171.1 bt171.2.1 bt171.2.2.1 bt171.2.2.2.1 bt171.2.2.2.2.1 bt179.1 bt179.2.1 bt179.2.2.1 bt179.2.2.2.1 bt179.2.2.2.2.1) else (lockfastlaw10_ChunkLives.j0 k t165 (wrap64 (Int.tmod a0 3)) (Int.tmod (wrap64 (a2)) t166) true 1 (wrap64 (Int.tmod a0 3)) 0 0 (Int.tmod (IntKind.u64.wrap (a1)) (shl .u64 1 t166)) bt171.1 bt171.2.1 bt171.2.2.1 bt171.2.2.2.1 bt171.2.2.2.2.1 bt179.1 bt179.2.1 bt179.2.2.1 bt179.2.2.2.1 bt179.2.2.2.2.1)) else (lockfastlaw10_ChunkLives.j0 k t165 (wrap64 (Int.tmod a0 3)) (Int.tmod (wrap64 (a2)) t166) true 1 (wrap64 (Int.tmod a0 3)) 0 0 (Int.tmod (IntKind.u64.wrap (a1)) (shl .u64 1 t166)) bt171.1 bt171.2.1 bt171.2.2.1 bt171.2.2.2.1 bt171.2.2.2.2.1 bt179.1 bt179.2.1 bt179.2.2.1 bt179.2.2.2.1 bt179.2.2.2.2.1)))))))) else (none))))) = some r := h
  clear h
  have HRT := Aside0.mk hrt
  clear hrt
  replace H := Option.bind_eq_some_iff.mp H
  obtain ⟨t165, A40, H⟩ := H
  replace H : ((lockfastref09_Many.f k (wrap64 (Int.tmod a0 3))).bind fun t166 => (if t166 = 0 then (none) else (if 0 ≤ t166 then (if (shl .u64 1 t166) = 0 then (none) else ((chunk_Encode.f 1 (wrap64 (Int.tmod a0 3)) 0 0 (Int.tmod (IntKind.u64.wrap (a1)) (shl .u64 1 t166))).bind fun bt168 => ((chunk_Bit.f (Int.tmod (wrap64 (a2)) t166)).bind fun t170 => ((chunk_Decode.f (Go.bits .or .u64 bt168.1 t170)).bind fun bt171 => ((chunk_Bit.f (Int.tmod (wrap64 (a2)) t166)).bind fun t178 => ((chunk_Decode.f (Go.bits .andNot .u64 bt168.1 t178)).bind fun bt179 => (if bt168.2 = 0 then (if bt171.2.2.2.2.2 = true then (lockfastlaw10_ChunkLives.j0 k t165 (wrap64 (Int.tmod a0 3)) (Int.tmod (wrap64 (a2)) t166) (!bt179.2.2.2.2.2) 1 (wrap64 (Int.tmod a0 3)) 0 0 (Int.tmod (IntKind.u64.wrap (a1)) (shl .u64 1 t166)) bt171.1 bt171.2.1 bt171.2.2.1 bt171.2.2.2.1 bt171.2.2.2.2.1 bt179.1 bt179.2.1 bt179.2.2.1 bt179.2.2.2.1 bt179.2.2.2.2.1) else (lockfastlaw10_ChunkLives.j0 k t165 (wrap64 (Int.tmod a0 3)) (Int.tmod (wrap64 (a2)) t166) true 1 (wrap64 (Int.tmod a0 3)) 0 0 (Int.tmod (IntKind.u64.wrap (a1)) (shl .u64 1 t166)) bt171.1 bt171.2.1 bt171.2.2.1 bt171.2.2.2.1 bt171.2.2.2.2.1 bt179.1 bt179.2.1 bt179.2.2.1 bt179.2.2.2.1 bt179.2.2.2.2.1)) else (lockfastlaw10_ChunkLives.j0 k t165 (wrap64 (Int.tmod a0 3)) (Int.tmod (wrap64 (a2)) t166) true 1 (wrap64 (Int.tmod a0 3)) 0 0 (Int.tmod (IntKind.u64.wrap (a1)) (shl .u64 1 t166)) bt171.1 bt171.2.1 bt171.2.2.1 bt171.2.2.2.1 bt171.2.2.2.2.1 bt179.1 bt179.2.1 bt179.2.2.1 bt179.2.2.2.1 bt179.2.2.2.2.1)))))))) else (none)))) = some r := H
  have A4 := Aside0.mk A40
  clear A40
  replace H := Option.bind_eq_some_iff.mp H
  obtain ⟨t166, A50, H⟩ := H
  replace H : (if t166 = 0 then (none) else (if 0 ≤ t166 then (if (shl .u64 1 t166) = 0 then (none) else ((chunk_Encode.f 1 (wrap64 (Int.tmod a0 3)) 0 0 (Int.tmod (IntKind.u64.wrap (a1)) (shl .u64 1 t166))).bind fun bt168 => ((chunk_Bit.f (Int.tmod (wrap64 (a2)) t166)).bind fun t170 => ((chunk_Decode.f (Go.bits .or .u64 bt168.1 t170)).bind fun bt171 => ((chunk_Bit.f (Int.tmod (wrap64 (a2)) t166)).bind fun t178 => ((chunk_Decode.f (Go.bits .andNot .u64 bt168.1 t178)).bind fun bt179 => (if bt168.2 = 0 then (if bt171.2.2.2.2.2 = true then (lockfastlaw10_ChunkLives.j0 k t165 (wrap64 (Int.tmod a0 3)) (Int.tmod (wrap64 (a2)) t166) (!bt179.2.2.2.2.2) 1 (wrap64 (Int.tmod a0 3)) 0 0 (Int.tmod (IntKind.u64.wrap (a1)) (shl .u64 1 t166)) bt171.1 bt171.2.1 bt171.2.2.1 bt171.2.2.2.1 bt171.2.2.2.2.1 bt179.1 bt179.2.1 bt179.2.2.1 bt179.2.2.2.1 bt179.2.2.2.2.1) else (lockfastlaw10_ChunkLives.j0 k t165 (wrap64 (Int.tmod a0 3)) (Int.tmod (wrap64 (a2)) t166) true 1 (wrap64 (Int.tmod a0 3)) 0 0 (Int.tmod (IntKind.u64.wrap (a1)) (shl .u64 1 t166)) bt171.1 bt171.2.1 bt171.2.2.1 bt171.2.2.2.1 bt171.2.2.2.2.1 bt179.1 bt179.2.1 bt179.2.2.1 bt179.2.2.2.1 bt179.2.2.2.2.1)) else (lockfastlaw10_ChunkLives.j0 k t165 (wrap64 (Int.tmod a0 3)) (Int.tmod (wrap64 (a2)) t166) true 1 (wrap64 (Int.tmod a0 3)) 0 0 (Int.tmod (IntKind.u64.wrap (a1)) (shl .u64 1 t166)) bt171.1 bt171.2.1 bt171.2.2.1 bt171.2.2.2.1 bt171.2.2.2.2.1 bt179.1 bt179.2.1 bt179.2.2.1 bt179.2.2.2.1 bt179.2.2.2.2.1)))))))) else (none))) = some r := H
  have A5 := Aside0.mk A50
  clear A50
  by_cases c6 : t166 = 0
  · rw [if_pos c6] at H
    exact absurd H (by simp)
  · rw [if_neg c6] at H
    have c6b0 : (t166 == 0) = false := beq_eq_false_iff_ne.mpr c6
    have c6b1 : (t166 != 0) = true := bne_iff_ne.mpr c6
    by_cases c7 : 0 ≤ t166
    · rw [if_pos c7] at H
      have c7b0 := eq_true c7
      have c7b1 : decide (0 ≤ t166) = true := decide_eq_true c7
      clear c7
      obtain ⟨ji8, hji8⟩ : ∃ j_ : Int, (shl .u64 1 t166) = j_ := ⟨_, rfl⟩
      replace H : (if (ji8) = 0 then (none) else ((chunk_Encode.f 1 (wrap64 (Int.tmod a0 3)) 0 0 (Int.tmod (IntKind.u64.wrap (a1)) (ji8))).bind fun bt168 => ((chunk_Bit.f (Int.tmod (wrap64 (a2)) t166)).bind fun t170 => ((chunk_Decode.f (Go.bits .or .u64 bt168.1 t170)).bind fun bt171 => ((chunk_Bit.f (Int.tmod (wrap64 (a2)) t166)).bind fun t178 => ((chunk_Decode.f (Go.bits .andNot .u64 bt168.1 t178)).bind fun bt179 => (if bt168.2 = 0 then (if bt171.2.2.2.2.2 = true then (lockfastlaw10_ChunkLives.j0 k t165 (wrap64 (Int.tmod a0 3)) (Int.tmod (wrap64 (a2)) t166) (!bt179.2.2.2.2.2) 1 (wrap64 (Int.tmod a0 3)) 0 0 (Int.tmod (IntKind.u64.wrap (a1)) (ji8)) bt171.1 bt171.2.1 bt171.2.2.1 bt171.2.2.2.1 bt171.2.2.2.2.1 bt179.1 bt179.2.1 bt179.2.2.1 bt179.2.2.2.1 bt179.2.2.2.2.1) else (lockfastlaw10_ChunkLives.j0 k t165 (wrap64 (Int.tmod a0 3)) (Int.tmod (wrap64 (a2)) t166) true 1 (wrap64 (Int.tmod a0 3)) 0 0 (Int.tmod (IntKind.u64.wrap (a1)) (ji8)) bt171.1 bt171.2.1 bt171.2.2.1 bt171.2.2.2.1 bt171.2.2.2.2.1 bt179.1 bt179.2.1 bt179.2.2.1 bt179.2.2.2.1 bt179.2.2.2.2.1)) else (lockfastlaw10_ChunkLives.j0 k t165 (wrap64 (Int.tmod a0 3)) (Int.tmod (wrap64 (a2)) t166) true 1 (wrap64 (Int.tmod a0 3)) 0 0 (Int.tmod (IntKind.u64.wrap (a1)) (ji8)) bt171.1 bt171.2.1 bt171.2.2.1 bt171.2.2.2.1 bt171.2.2.2.2.1 bt179.1 bt179.2.1 bt179.2.2.1 bt179.2.2.2.1 bt179.2.2.2.2.1)))))))) = some r := by first | (rw [hji8] at H; exact H) | (simp only [hji8] at H ⊢; exact H)
      (try rw [hji8] at A4)
      (try rw [hji8] at A5)
      have hji8_ : (IntKind.u64.wrap (1 * 2 ^ min t166.toNat 64)) = ji8 := hji8
      have hji8z : t166 ≤ 64 → (IntKind.u64.wrap (1 * 2 ^ t166.toNat)) = ji8 := shl_small hji8
      have hji8u : (IntKind.u64.wrap (2 ^ min t166.toNat 64)) = ji8 := by have h_ := hji8_; rw [Int.one_mul] at h_; exact h_
      have hji8v : t166 ≤ 64 → (IntKind.u64.wrap (2 ^ t166.toNat)) = ji8 := fun hle_ => by have h_ := hji8z hle_; rw [Int.one_mul] at h_; exact h_
      by_cases c9 : (ji8) = 0
      · rw [if_pos c9] at H
        exact absurd H (by simp)
      · rw [if_neg c9] at H
        have c9b0 : ((ji8) == 0) = false := beq_eq_false_iff_ne.mpr c9
        have c9b1 : ((ji8) != 0) = true := bne_iff_ne.mpr c9
        replace H := Option.bind_eq_some_iff.mp H
        obtain ⟨⟨t168, t169⟩, A100, H⟩ := H
        replace H : ((chunk_Bit.f (Int.tmod (wrap64 (a2)) t166)).bind fun t170 => ((chunk_Decode.f (Go.bits .or .u64 t168 t170)).bind fun bt171 => ((chunk_Bit.f (Int.tmod (wrap64 (a2)) t166)).bind fun t178 => ((chunk_Decode.f (Go.bits .andNot .u64 t168 t178)).bind fun bt179 => (if t169 = 0 then (if bt171.2.2.2.2.2 = true then (lockfastlaw10_ChunkLives.j0 k t165 (wrap64 (Int.tmod a0 3)) (Int.tmod (wrap64 (a2)) t166) (!bt179.2.2.2.2.2) 1 (wrap64 (Int.tmod a0 3)) 0 0 (Int.tmod (IntKind.u64.wrap (a1)) (ji8)) bt171.1 bt171.2.1 bt171.2.2.1 bt171.2.2.2.1 bt171.2.2.2.2.1 bt179.1 bt179.2.1 bt179.2.2.1 bt179.2.2.2.1 bt179.2.2.2.2.1) else (lockfastlaw10_ChunkLives.j0 k t165 (wrap64 (Int.tmod a0 3)) (Int.tmod (wrap64 (a2)) t166) true 1 (wrap64 (Int.tmod a0 3)) 0 0 (Int.tmod (IntKind.u64.wrap (a1)) (ji8)) bt171.1 bt171.2.1 bt171.2.2.1 bt171.2.2.2.1 bt171.2.2.2.2.1 bt179.1 bt179.2.1 bt179.2.2.1 bt179.2.2.2.1 bt179.2.2.2.2.1)) else (lockfastlaw10_ChunkLives.j0 k t165 (wrap64 (Int.tmod a0 3)) (Int.tmod (wrap64 (a2)) t166) true 1 (wrap64 (Int.tmod a0 3)) 0 0 (Int.tmod (IntKind.u64.wrap (a1)) (ji8)) bt171.1 bt171.2.1 bt171.2.2.1 bt171.2.2.2.1 bt171.2.2.2.2.1 bt179.1 bt179.2.1 bt179.2.2.1 bt179.2.2.2.1 bt179.2.2.2.2.1)))))) = some r := H
        have A10 := Aside0.mk A100
        clear A100
        replace H := Option.bind_eq_some_iff.mp H
        obtain ⟨t170, A110, H⟩ := H
        replace H : ((chunk_Decode.f (Go.bits .or .u64 t168 t170)).bind fun bt171 => ((chunk_Bit.f (Int.tmod (wrap64 (a2)) t166)).bind fun t178 => ((chunk_Decode.f (Go.bits .andNot .u64 t168 t178)).bind fun bt179 => (if t169 = 0 then (if bt171.2.2.2.2.2 = true then (lockfastlaw10_ChunkLives.j0 k t165 (wrap64 (Int.tmod a0 3)) (Int.tmod (wrap64 (a2)) t166) (!bt179.2.2.2.2.2) 1 (wrap64 (Int.tmod a0 3)) 0 0 (Int.tmod (IntKind.u64.wrap (a1)) (ji8)) bt171.1 bt171.2.1 bt171.2.2.1 bt171.2.2.2.1 bt171.2.2.2.2.1 bt179.1 bt179.2.1 bt179.2.2.1 bt179.2.2.2.1 bt179.2.2.2.2.1) else (lockfastlaw10_ChunkLives.j0 k t165 (wrap64 (Int.tmod a0 3)) (Int.tmod (wrap64 (a2)) t166) true 1 (wrap64 (Int.tmod a0 3)) 0 0 (Int.tmod (IntKind.u64.wrap (a1)) (ji8)) bt171.1 bt171.2.1 bt171.2.2.1 bt171.2.2.2.1 bt171.2.2.2.2.1 bt179.1 bt179.2.1 bt179.2.2.1 bt179.2.2.2.1 bt179.2.2.2.2.1)) else (lockfastlaw10_ChunkLives.j0 k t165 (wrap64 (Int.tmod a0 3)) (Int.tmod (wrap64 (a2)) t166) true 1 (wrap64 (Int.tmod a0 3)) 0 0 (Int.tmod (IntKind.u64.wrap (a1)) (ji8)) bt171.1 bt171.2.1 bt171.2.2.1 bt171.2.2.2.1 bt171.2.2.2.2.1 bt179.1 bt179.2.1 bt179.2.2.1 bt179.2.2.2.1 bt179.2.2.2.2.1))))) = some r := H
        have A11 := Aside0.mk A110
        clear A110
        replace H := Option.bind_eq_some_iff.mp H
        obtain ⟨⟨t171, t172, t173, t174, t175, t176⟩, A120, H⟩ := H
        replace H : ((chunk_Bit.f (Int.tmod (wrap64 (a2)) t166)).bind fun t178 => ((chunk_Decode.f (Go.bits .andNot .u64 t168 t178)).bind fun bt179 => (if t169 = 0 then (if t176 = true then (lockfastlaw10_ChunkLives.j0 k t165 (wrap64 (Int.tmod a0 3)) (Int.tmod (wrap64 (a2)) t166) (!bt179.2.2.2.2.2) 1 (wrap64 (Int.tmod a0 3)) 0 0 (Int.tmod (IntKind.u64.wrap (a1)) (ji8)) t171 t172 t173 t174 t175 bt179.1 bt179.2.1 bt179.2.2.1 bt179.2.2.2.1 bt179.2.2.2.2.1) else (lockfastlaw10_ChunkLives.j0 k t165 (wrap64 (Int.tmod a0 3)) (Int.tmod (wrap64 (a2)) t166) true 1 (wrap64 (Int.tmod a0 3)) 0 0 (Int.tmod (IntKind.u64.wrap (a1)) (ji8)) t171 t172 t173 t174 t175 bt179.1 bt179.2.1 bt179.2.2.1 bt179.2.2.2.1 bt179.2.2.2.2.1)) else (lockfastlaw10_ChunkLives.j0 k t165 (wrap64 (Int.tmod a0 3)) (Int.tmod (wrap64 (a2)) t166) true 1 (wrap64 (Int.tmod a0 3)) 0 0 (Int.tmod (IntKind.u64.wrap (a1)) (ji8)) t171 t172 t173 t174 t175 bt179.1 bt179.2.1 bt179.2.2.1 bt179.2.2.2.1 bt179.2.2.2.2.1)))) = some r := H
        have A12 := Aside0.mk A120
        clear A120
        replace H := Option.bind_eq_some_iff.mp H
        obtain ⟨t178, A130, H⟩ := H
        replace H : ((chunk_Decode.f (Go.bits .andNot .u64 t168 t178)).bind fun bt179 => (if t169 = 0 then (if t176 = true then (lockfastlaw10_ChunkLives.j0 k t165 (wrap64 (Int.tmod a0 3)) (Int.tmod (wrap64 (a2)) t166) (!bt179.2.2.2.2.2) 1 (wrap64 (Int.tmod a0 3)) 0 0 (Int.tmod (IntKind.u64.wrap (a1)) (ji8)) t171 t172 t173 t174 t175 bt179.1 bt179.2.1 bt179.2.2.1 bt179.2.2.2.1 bt179.2.2.2.2.1) else (lockfastlaw10_ChunkLives.j0 k t165 (wrap64 (Int.tmod a0 3)) (Int.tmod (wrap64 (a2)) t166) true 1 (wrap64 (Int.tmod a0 3)) 0 0 (Int.tmod (IntKind.u64.wrap (a1)) (ji8)) t171 t172 t173 t174 t175 bt179.1 bt179.2.1 bt179.2.2.1 bt179.2.2.2.1 bt179.2.2.2.2.1)) else (lockfastlaw10_ChunkLives.j0 k t165 (wrap64 (Int.tmod a0 3)) (Int.tmod (wrap64 (a2)) t166) true 1 (wrap64 (Int.tmod a0 3)) 0 0 (Int.tmod (IntKind.u64.wrap (a1)) (ji8)) t171 t172 t173 t174 t175 bt179.1 bt179.2.1 bt179.2.2.1 bt179.2.2.2.1 bt179.2.2.2.2.1))) = some r := H
        have A13 := Aside0.mk A130
        clear A130
        replace H := Option.bind_eq_some_iff.mp H
        obtain ⟨⟨t179, t180, t181, t182, t183, t184⟩, A140, H⟩ := H
        replace H : (if t169 = 0 then (if t176 = true then (lockfastlaw10_ChunkLives.j0 k t165 (wrap64 (Int.tmod a0 3)) (Int.tmod (wrap64 (a2)) t166) (!t184) 1 (wrap64 (Int.tmod a0 3)) 0 0 (Int.tmod (IntKind.u64.wrap (a1)) (ji8)) t171 t172 t173 t174 t175 t179 t180 t181 t182 t183) else (lockfastlaw10_ChunkLives.j0 k t165 (wrap64 (Int.tmod a0 3)) (Int.tmod (wrap64 (a2)) t166) true 1 (wrap64 (Int.tmod a0 3)) 0 0 (Int.tmod (IntKind.u64.wrap (a1)) (ji8)) t171 t172 t173 t174 t175 t179 t180 t181 t182 t183)) else (lockfastlaw10_ChunkLives.j0 k t165 (wrap64 (Int.tmod a0 3)) (Int.tmod (wrap64 (a2)) t166) true 1 (wrap64 (Int.tmod a0 3)) 0 0 (Int.tmod (IntKind.u64.wrap (a1)) (ji8)) t171 t172 t173 t174 t175 t179 t180 t181 t182 t183)) = some r := H
        have A14 := Aside0.mk A140
        clear A140
        have HC15 := Aside0.mk H
        clear H
        go_enter Tryd.func7, Tryd.ntmps7
        go_upto_region 9 with (first | ((with_reducible refine gate_callee (f := 10) rfl ?_); refine goesL_ (some 20) rfl rfl Tryd.func10 (by kernel_rfl) rfl #[] rfl (by (try simp only [List.map_toArray, List.map_cons, List.map_nil]); first | done | rfl | (simp only [List.length_drop, List.length_take]; rfl)) ?_; (with_reducible refine (lockfastlaw10_awake.calls  t165 _ (by first | ((repeat (first | (with_reducible exact HG) | apply GL_drewN | apply GL_drew)); done) | exact GL_below HG (by repeat (first | (with_reducible first | exact HB.out | apply below_alloc | apply pw_below_drewN | apply below_drew1) | exact HB.out | refine below_set ?_ (Aside0.out (by assumption))))) A4.out).mono ?_); rintro e w16 ⟨rfl, hb⟩; refine ⟨_, rfl, ?_⟩; have n0_ := Aside0.mk (below_step (by repeat (first | (with_reducible first | exact HB.out | apply below_alloc | apply pw_below_drewN | apply below_drew1) | exact HB.out)) hb); clear HB; have HB := n0_; clear n0_; (try clear hb); (try clear hb2); (try clear hk); (try clear hi)) | ((with_reducible refine gate_callee (f := 23) rfl ?_); refine goesL_ (some 25) rfl rfl Tryd.func23 (by kernel_rfl) rfl #[.int .i64 (wrap64 (Int.tmod a0 3))] rfl (by (try simp only [List.map_toArray, List.map_cons, List.map_nil]); first | done | rfl | (simp only [List.length_drop, List.length_take]; rfl)) ?_; (with_reducible refine (lockfastref09_Many.calls k (wrap64 (Int.tmod a0 3)) t166 _ (by first | ((repeat (first | (with_reducible exact HG) | apply GL_drewN | apply GL_drew)); done) | exact GL_below HG (by repeat (first | (with_reducible first | exact HB.out | apply below_alloc | apply pw_below_drewN | apply below_drew1) | exact HB.out | refine below_set ?_ (Aside0.out (by assumption))))) A5.out).mono ?_); rintro e w' ⟨rfl, ⟨nd, rfl⟩⟩; refine ⟨_, rfl, ?_⟩; (try (rw [drewN_self w16]; generalize hq_ : World.drewN w16 _ = w16; have n0_ : Aside0 (Below w.heap.size w w16) := ⟨by rw [← hq_]; exact (by repeat (first | (with_reducible first | exact HB.out | apply below_alloc | apply pw_below_drewN | apply below_drew1) | exact HB.out))⟩; clear HB hq_; have HB := n0_; clear n0_))) | ((with_reducible refine gate_dst (N := 11) rfl ?_); refine box_event ?hg (N := 11) ?hd (cs := #[.int .i64 0, .int .i64 0, .int .i64 0, .int .i64 0, .int .u64 0]) (t := 24) ?hr ?_; (case hd => rfl); (case hg => rfl); (case hr => first | (go_simp; done) | (go_simp; rfl)); intro gb167 hg w17 hbox hb; have n0_ := Aside0.mk (below_step (by repeat (first | (with_reducible first | exact HB.out | apply below_alloc | apply pw_below_drewN | apply below_drew1) | exact HB.out)) hb); have n1_ := Aside0.mk (hbox); have n2_ := Aside0.mk ((by rw [hg]; exact (below_size (by repeat (first | (with_reducible first | exact HB.out | apply below_alloc | apply pw_below_drewN | apply below_drew1) | exact HB.out))) : w.heap.size ≤ gb167)); have n3_ := Aside0.mk ((by rw [hg]; exact (below_size (by repeat (first | (with_reducible first | exact HB.out | apply below_alloc | apply pw_below_drewN | apply below_drew1) | exact HB.out))) : w.heap.size ≤ gb167)); clear HB; have HB := n0_; have BK167 := n1_; have GW167 := n2_; have GE167 := n3_; clear n0_ n1_ n2_ n3_; clear hb hbox hg; have hcz18_0 : w17.cell? ⟨gb167, 0, none⟩ = some (.int .i64 0) := (blk_cell BK167.out 0).trans rfl; have hcz18_1 : w17.cell? ⟨gb167, 1, none⟩ = some (.int .i64 0) := (blk_cell BK167.out 1).trans rfl; have hcz18_2 : w17.cell? ⟨gb167, 2, none⟩ = some (.int .i64 0) := (blk_cell BK167.out 2).trans rfl; have hcz18_3 : w17.cell? ⟨gb167, 3, none⟩ = some (.int .i64 0) := (blk_cell BK167.out 3).trans rfl; have hcz18_4 : w17.cell? ⟨gb167, 4, none⟩ = some (.int .u64 0) := (blk_cell BK167.out 4).trans rfl; have hfz18_0 := blk_frozen BK167.out 0; have hfz18_1 := blk_frozen BK167.out 1; have hfz18_2 := blk_frozen BK167.out 2; have hfz18_3 := blk_frozen BK167.out 3; have hfz18_4 := blk_frozen BK167.out 4) | ((with_reducible refine gate_callee (f := 11) rfl ?_); refine goesL_ (some 39) rfl rfl Tryd.func11 (by kernel_rfl) rfl #[.agg #[.int .i64 1, .int .i64 (wrap64 (Int.tmod a0 3)), .int .i64 0, .int .i64 0, .int .u64 (Int.tmod (IntKind.u64.wrap (a1)) (ji8))]] rfl (by (try simp only [List.map_toArray, List.map_cons, List.map_nil]); first | done | (simp only [hji8]; rfl) | rfl | (simp only [List.length_drop, List.length_take]; rfl)) ?_; (with_reducible refine (chunk_Encode.calls 1 (wrap64 (Int.tmod a0 3)) 0 0 (Int.tmod (IntKind.u64.wrap (a1)) (ji8)) t168 t169 _ (by first | ((repeat (first | (with_reducible exact HG) | apply GL_drewN | apply GL_drew)); done) | exact GL_below HG (by repeat (first | (with_reducible first | exact HB.out | apply below_alloc | apply pw_below_drewN | apply below_drew1) | exact HB.out | refine below_set ?_ (Aside0.out (by assumption))))) A10.out).mono ?_); rintro e w19 ⟨rfl, hb⟩; refine ⟨_, rfl, ?_⟩; have n0_ := Aside0.mk (blk_below (g := gb167) (o := .cells #[.int .i64 1, .int .i64 (wrap64 (Int.tmod a0 3)), .int .i64 0, .int .i64 0, .int .u64 (Int.tmod (IntKind.u64.wrap (a1)) (ji8))] 24 (0, 0)) (by (with_reducible repeat (first | refine blk_drewN ?_ _ | refine blk_drew ?_ | refine blk_alloc ?_ _)); refine blk_put (cs := #[.int .i64 1, .int .i64 (wrap64 (Int.tmod a0 3)), .int .i64 0, .int .i64 0, .int .u64 0]) ?_ 4 _ rfl; (with_reducible repeat (first | refine blk_drewN ?_ _ | refine blk_drew ?_ | refine blk_alloc ?_ _)); refine blk_put (cs := #[.int .i64 1, .int .i64 (wrap64 (Int.tmod a0 3)), .int .i64 0, .int .i64 0, .int .u64 0]) ?_ 3 _ rfl; (with_reducible repeat (first | refine blk_drewN ?_ _ | refine blk_drew ?_ | refine blk_alloc ?_ _)); refine blk_put (cs := #[.int .i64 1, .int .i64 (wrap64 (Int.tmod a0 3)), .int .i64 0, .int .i64 0, .int .u64 0]) ?_ 2 _ rfl; (with_reducible repeat (first | refine blk_drewN ?_ _ | refine blk_drew ?_ | refine blk_alloc ?_ _)); refine blk_put (cs := #[.int .i64 1, .int .i64 0, .int .i64 0, .int .i64 0, .int .u64 0]) ?_ 1 _ rfl; (with_reducible repeat (first | refine blk_drewN ?_ _ | refine blk_drew ?_ | refine blk_alloc ?_ _)); refine blk_put (cs := #[.int .i64 0, .int .i64 0, .int .i64 0, .int .i64 0, .int .u64 0]) ?_ 0 _ rfl; (with_reducible repeat (first | refine blk_drewN ?_ _ | refine blk_drew ?_ | refine blk_alloc ?_ _)); exact BK167.out) hb); have n1_ := Aside0.mk (below_step (by repeat (first | (with_reducible first | exact HB.out | apply below_alloc | apply pw_below_drewN | apply below_drew1 | refine below_set ?_ GE167.out) | exact HB.out)) hb); clear BK167; clear HB; have BK167 := n0_; have HB := n1_; clear n0_ n1_; (try clear hb); (try clear hb2); (try clear hk); (try clear hi)) | ((with_reducible refine gate_callee (f := 17) rfl ?_); refine goesL_ (some 45) rfl rfl Tryd.func17 (by kernel_rfl) rfl #[.int .i64 (Int.tmod (wrap64 (a2)) t166)] rfl (by (try simp only [List.map_toArray, List.map_cons, List.map_nil]); first | done | rfl | (simp only [List.length_drop, List.length_take]; rfl)) ?_; (with_reducible refine (chunk_Bit.calls (Int.tmod (wrap64 (a2)) t166) t170 _ (by first | ((repeat (first | (with_reducible exact HG) | apply GL_drewN | apply GL_drew)); done) | exact GL_below HG (by repeat (first | (with_reducible first | exact HB.out | apply below_alloc | apply pw_below_drewN | apply below_drew1) | exact HB.out | refine below_set ?_ (Aside0.out (by assumption))))) A11.out).mono ?_); rintro e w' ⟨rfl, ⟨nd, rfl⟩⟩; refine ⟨_, rfl, ?_⟩; (try (rw [drewN_self w19]; generalize hq_ : World.drewN w19 _ = w19; have n0_ : Aside0 (w19.heap[gb167]? = some (.cells #[.int .i64 1, .int .i64 (wrap64 (Int.tmod a0 3)), .int .i64 0, .int .i64 0, .int .u64 (Int.tmod (IntKind.u64.wrap (a1)) (ji8))] 24 (0, 0))) := ⟨by rw [← hq_]; exact (by (with_reducible repeat (first | refine blk_drewN ?_ _ | refine blk_drew ?_ | refine blk_alloc ?_ _)); exact BK167.out)⟩; have n1_ : Aside0 (Below w.heap.size w w19) := ⟨by rw [← hq_]; exact (by repeat (first | (with_reducible first | exact HB.out | apply below_alloc | apply pw_below_drewN | apply below_drew1 | refine below_set ?_ GE167.out) | exact HB.out))⟩; clear BK167 HB hq_; have BK167 := n0_; have HB := n1_; clear n0_ n1_))) | ((with_reducible refine gate_callee (f := 15) rfl ?_); refine goesL_ (some 47) rfl rfl Tryd.func15 (by kernel_rfl) rfl #[.int .u64 (Go.bits .or .u64 t168 t170)] rfl (by (try simp only [List.map_toArray, List.map_cons, List.map_nil]); first | done | rfl | (simp only [List.length_drop, List.length_take]; rfl)) ?_; (with_reducible refine (chunk_Decode.calls (Go.bits .or .u64 t168 t170) t171 t172 t173 t174 t175 t176 _ (by first | ((repeat (first | (with_reducible exact HG) | apply GL_drewN | apply GL_drew)); done) | exact GL_below HG (by repeat (first | (with_reducible first | exact HB.out | apply below_alloc | apply pw_below_drewN | apply below_drew1) | exact HB.out | refine below_set ?_ (Aside0.out (by assumption))))) A12.out).mono ?_); rintro e w20 ⟨rfl, hb⟩; refine ⟨_, rfl, ?_⟩; have n0_ := Aside0.mk (blk_below (g := gb167) (o := .cells #[.int .i64 1, .int .i64 (wrap64 (Int.tmod a0 3)), .int .i64 0, .int .i64 0, .int .u64 (Int.tmod (IntKind.u64.wrap (a1)) (ji8))] 24 (0, 0)) (by (with_reducible repeat (first | refine blk_drewN ?_ _ | refine blk_drew ?_ | refine blk_alloc ?_ _)); exact BK167.out) hb); have n1_ := Aside0.mk (below_step (by repeat (first | (with_reducible first | exact HB.out | apply below_alloc | apply pw_below_drewN | apply below_drew1 | refine below_set ?_ GE167.out) | exact HB.out)) hb); clear BK167; clear HB; have BK167 := n0_; have HB := n1_; clear n0_ n1_; (try clear hb); (try clear hb2); (try clear hk); (try clear hi)) | ((with_reducible refine gate_dst (N := 14) rfl ?_); refine box_event ?hg (N := 14) ?hd (cs := #[.int .i64 0, .int .i64 0, .int .i64 0, .int .i64 0, .int .u64 0]) (t := 24) ?hr ?_; (case hd => rfl); (case hg => rfl); (case hr => first | (go_simp; done) | (go_simp; rfl)); intro gb177 hg w21 hbox hb; have n0_ := Aside0.mk (blk_below (g := gb167) (o := .cells #[.int .i64 1, .int .i64 (wrap64 (Int.tmod a0 3)), .int .i64 0, .int .i64 0, .int .u64 (Int.tmod (IntKind.u64.wrap (a1)) (ji8))] 24 (0, 0)) (by (with_reducible repeat (first | refine blk_drewN ?_ _ | refine blk_drew ?_ | refine blk_alloc ?_ _)); exact BK167.out) hb); have n1_ := Aside0.mk (below_step (by repeat (first | (with_reducible first | exact HB.out | apply below_alloc | apply pw_below_drewN | apply below_drew1 | refine below_set ?_ GE167.out) | exact HB.out)) hb); have n2_ := Aside0.mk (hbox); have n3_ := Aside0.mk ((by rw [hg]; exact (below_size (by repeat (first | (with_reducible first | exact HB.out | apply below_alloc | apply pw_below_drewN | apply below_drew1 | refine below_set ?_ GE167.out) | exact HB.out))) : w.heap.size ≤ gb177)); have n4_ := Aside0.mk ((by rw [hg]; exact (below_size (by repeat (first | (with_reducible first | exact HB.out | apply below_alloc | apply pw_below_drewN | apply below_drew1 | refine below_set ?_ GE167.out) | exact HB.out))) : w.heap.size ≤ gb177)); have n5_ := Aside0.mk ((by rw [hg]; exact Nat.ne_of_lt (blk_lt (g := gb167) (o := .cells #[.int .i64 1, .int .i64 (wrap64 (Int.tmod a0 3)), .int .i64 0, .int .i64 0, .int .u64 (Int.tmod (IntKind.u64.wrap (a1)) (ji8))] 24 (0, 0)) (by (with_reducible repeat (first | refine blk_drewN ?_ _ | refine blk_drew ?_ | refine blk_alloc ?_ _)); exact BK167.out)) : gb167 ≠ gb177)); have n6_ := Aside0.mk ((by rw [hg]; exact Nat.ne_of_gt (blk_lt (g := gb167) (o := .cells #[.int .i64 1, .int .i64 (wrap64 (Int.tmod a0 3)), .int .i64 0, .int .i64 0, .int .u64 (Int.tmod (IntKind.u64.wrap (a1)) (ji8))] 24 (0, 0)) (by (with_reducible repeat (first | refine blk_drewN ?_ _ | refine blk_drew ?_ | refine blk_alloc ?_ _)); exact BK167.out)) : gb177 ≠ gb167)); clear BK167; clear HB; have BK167 := n0_; have HB := n1_; have BK177 := n2_; have GW177 := n3_; have GE177 := n4_; have NB167_177 := n5_; have NB177_167 := n6_; clear n0_ n1_ n2_ n3_ n4_ n5_ n6_; clear hb hbox hg; have hnb22 := NB177_167.out; have hnc22 := NB167_177.out; have hcz23_0 : w21.cell? ⟨gb177, 0, none⟩ = some (.int .i64 0) := (blk_cell BK177.out 0).trans rfl; have hcz23_1 : w21.cell? ⟨gb177, 1, none⟩ = some (.int .i64 0) := (blk_cell BK177.out 1).trans rfl; have hcz23_2 : w21.cell? ⟨gb177, 2, none⟩ = some (.int .i64 0) := (blk_cell BK177.out 2).trans rfl; have hcz23_3 : w21.cell? ⟨gb177, 3, none⟩ = some (.int .i64 0) := (blk_cell BK177.out 3).trans rfl; have hcz23_4 : w21.cell? ⟨gb177, 4, none⟩ = some (.int .u64 0) := (blk_cell BK177.out 4).trans rfl; have hfz23_0 := blk_frozen BK177.out 0; have hfz23_1 := blk_frozen BK177.out 1; have hfz23_2 := blk_frozen BK177.out 2; have hfz23_3 := blk_frozen BK177.out 3; have hfz23_4 := blk_frozen BK177.out 4) | ((with_reducible refine gate_callee (f := 17) rfl ?_); refine goesL_ (some 53) rfl rfl Tryd.func17 (by kernel_rfl) rfl #[.int .i64 (Int.tmod (wrap64 (a2)) t166)] rfl (by (try simp only [List.map_toArray, List.map_cons, List.map_nil]); first | done | rfl | (simp only [List.length_drop, List.length_take]; rfl)) ?_; (with_reducible refine (chunk_Bit.calls (Int.tmod (wrap64 (a2)) t166) t178 _ (by first | ((repeat (first | (with_reducible exact HG) | apply GL_drewN | apply GL_drew)); done) | exact GL_below HG (by repeat (first | (with_reducible first | exact HB.out | apply below_alloc | apply pw_below_drewN | apply below_drew1) | exact HB.out | refine below_set ?_ (Aside0.out (by assumption))))) A13.out).mono ?_); rintro e w' ⟨rfl, ⟨nd, rfl⟩⟩; refine ⟨_, rfl, ?_⟩) | ((with_reducible refine gate_callee (f := 15) rfl ?_); refine goesL_ (some 55) rfl rfl Tryd.func15 (by kernel_rfl) rfl #[.int .u64 (Go.bits .andNot .u64 t168 t178)] rfl (by (try simp only [List.map_toArray, List.map_cons, List.map_nil]); first | done | rfl | (simp only [List.length_drop, List.length_take]; rfl)) ?_; (with_reducible refine (chunk_Decode.calls (Go.bits .andNot .u64 t168 t178) t179 t180 t181 t182 t183 t184 _ (by first | ((repeat (first | (with_reducible exact HG) | apply GL_drewN | apply GL_drew)); done) | exact GL_below HG (by repeat (first | (with_reducible first | exact HB.out | apply below_alloc | apply pw_below_drewN | apply below_drew1) | exact HB.out | refine below_set ?_ (Aside0.out (by assumption))))) A14.out).mono ?_); rintro e w24 ⟨rfl, hb⟩; refine ⟨_, rfl, ?_⟩; have n0_ := Aside0.mk (blk_below (g := gb167) (o := .cells #[.int .i64 1, .int .i64 (wrap64 (Int.tmod a0 3)), .int .i64 0, .int .i64 0, .int .u64 (Int.tmod (IntKind.u64.wrap (a1)) (ji8))] 24 (0, 0)) (by (with_reducible repeat (first | refine blk_drewN ?_ _ | refine blk_drew ?_ | refine blk_alloc ?_ _)); refine blk_far ?_ NB167_177.out _; (with_reducible repeat (first | refine blk_drewN ?_ _ | refine blk_drew ?_ | refine blk_alloc ?_ _)); refine blk_far ?_ NB167_177.out _; (with_reducible repeat (first | refine blk_drewN ?_ _ | refine blk_drew ?_ | refine blk_alloc ?_ _)); refine blk_far ?_ NB167_177.out _; (with_reducible repeat (first | refine blk_drewN ?_ _ | refine blk_drew ?_ | refine blk_alloc ?_ _)); refine blk_far ?_ NB167_177.out _; (with_reducible repeat (first | refine blk_drewN ?_ _ | refine blk_drew ?_ | refine blk_alloc ?_ _)); refine blk_far ?_ NB167_177.out _; (with_reducible repeat (first | refine blk_drewN ?_ _ | refine blk_drew ?_ | refine blk_alloc ?_ _)); exact BK167.out) hb); have n1_ := Aside0.mk (blk_below (g := gb177) (o := .cells #[.int .i64 t171, .int .i64 t172, .int .i64 t173, .int .i64 t174, .int .u64 t175] 24 (0, 0)) (by (with_reducible repeat (first | refine blk_drewN ?_ _ | refine blk_drew ?_ | refine blk_alloc ?_ _)); refine blk_put (cs := #[.int .i64 t171, .int .i64 t172, .int .i64 t173, .int .i64 t174, .int .u64 0]) ?_ 4 _ rfl; (with_reducible repeat (first | refine blk_drewN ?_ _ | refine blk_drew ?_ | refine blk_alloc ?_ _)); refine blk_put (cs := #[.int .i64 t171, .int .i64 t172, .int .i64 t173, .int .i64 0, .int .u64 0]) ?_ 3 _ rfl; (with_reducible repeat (first | refine blk_drewN ?_ _ | refine blk_drew ?_ | refine blk_alloc ?_ _)); refine blk_put (cs := #[.int .i64 t171, .int .i64 t172, .int .i64 0, .int .i64 0, .int .u64 0]) ?_ 2 _ rfl; (with_reducible repeat (first | refine blk_drewN ?_ _ | refine blk_drew ?_ | refine blk_alloc ?_ _)); refine blk_put (cs := #[.int .i64 t171, .int .i64 0, .int .i64 0, .int .i64 0, .int .u64 0]) ?_ 1 _ rfl; (with_reducible repeat (first | refine blk_drewN ?_ _ | refine blk_drew ?_ | refine blk_alloc ?_ _)); refine blk_put (cs := #[.int .i64 0, .int .i64 0, .int .i64 0, .int .i64 0, .int .u64 0]) ?_ 0 _ rfl; (with_reducible repeat (first | refine blk_drewN ?_ _ | refine blk_drew ?_ | refine blk_alloc ?_ _)); exact BK177.out) hb); have n2_ := Aside0.mk (below_step (by repeat (first | (with_reducible first | exact HB.out | apply below_alloc | apply pw_below_drewN | apply below_drew1 | refine below_set ?_ GE167.out | refine below_set ?_ GE177.out) | exact HB.out)) hb); clear BK167; clear BK177; clear HB; have BK167 := n0_; have BK177 := n1_; have HB := n2_; clear n0_ n1_ n2_; (try clear hb); (try clear hb2); (try clear hk); (try clear hi)) | ((with_reducible refine gate_dst (N := 16) rfl ?_); refine box_event ?hg (N := 16) ?hd (cs := #[.int .i64 0, .int .i64 0, .int .i64 0, .int .i64 0, .int .u64 0]) (t := 24) ?hr ?_; (case hd => rfl); (case hg => rfl); (case hr => first | (go_simp; done) | (go_simp; rfl)); intro gb185 hg w25 hbox hb; have n0_ := Aside0.mk (blk_below (g := gb167) (o := .cells #[.int .i64 1, .int .i64 (wrap64 (Int.tmod a0 3)), .int .i64 0, .int .i64 0, .int .u64 (Int.tmod (IntKind.u64.wrap (a1)) (ji8))] 24 (0, 0)) (by (with_reducible repeat (first | refine blk_drewN ?_ _ | refine blk_drew ?_ | refine blk_alloc ?_ _)); exact BK167.out) hb); have n1_ := Aside0.mk (blk_below (g := gb177) (o := .cells #[.int .i64 t171, .int .i64 t172, .int .i64 t173, .int .i64 t174, .int .u64 t175] 24 (0, 0)) (by (with_reducible repeat (first | refine blk_drewN ?_ _ | refine blk_drew ?_ | refine blk_alloc ?_ _)); exact BK177.out) hb); have n2_ := Aside0.mk (below_step (by repeat (first | (with_reducible first | exact HB.out | apply below_alloc | apply pw_below_drewN | apply below_drew1 | refine below_set ?_ GE167.out | refine below_set ?_ GE177.out) | exact HB.out)) hb); have n3_ := Aside0.mk (hbox); have n4_ := Aside0.mk ((by rw [hg]; exact (below_size (by repeat (first | (with_reducible first | exact HB.out | apply below_alloc | apply pw_below_drewN | apply below_drew1 | refine below_set ?_ GE167.out | refine below_set ?_ GE177.out) | exact HB.out))) : w.heap.size ≤ gb185)); have n5_ := Aside0.mk ((by rw [hg]; exact (below_size (by repeat (first | (with_reducible first | exact HB.out | apply below_alloc | apply pw_below_drewN | apply below_drew1 | refine below_set ?_ GE167.out | refine below_set ?_ GE177.out) | exact HB.out))) : w.heap.size ≤ gb185)); have n6_ := Aside0.mk ((by rw [hg]; exact Nat.ne_of_lt (blk_lt (g := gb167) (o := .cells #[.int .i64 1, .int .i64 (wrap64 (Int.tmod a0 3)), .int .i64 0, .int .i64 0, .int .u64 (Int.tmod (IntKind.u64.wrap (a1)) (ji8))] 24 (0, 0)) (by (with_reducible repeat (first | refine blk_drewN ?_ _ | refine blk_drew ?_ | refine blk_alloc ?_ _)); exact BK167.out)) : gb167 ≠ gb185)); have n7_ := Aside0.mk ((by rw [hg]; exact Nat.ne_of_gt (blk_lt (g := gb167) (o := .cells #[.int .i64 1, .int .i64 (wrap64 (Int.tmod a0 3)), .int .i64 0, .int .i64 0, .int .u64 (Int.tmod (IntKind.u64.wrap (a1)) (ji8))] 24 (0, 0)) (by (with_reducible repeat (first | refine blk_drewN ?_ _ | refine blk_drew ?_ | refine blk_alloc ?_ _)); exact BK167.out)) : gb185 ≠ gb167)); have n8_ := Aside0.mk ((by rw [hg]; exact Nat.ne_of_lt (blk_lt (g := gb177) (o := .cells #[.int .i64 t171, .int .i64 t172, .int .i64 t173, .int .i64 t174, .int .u64 t175] 24 (0, 0)) (by (with_reducible repeat (first | refine blk_drewN ?_ _ | refine blk_drew ?_ | refine blk_alloc ?_ _)); exact BK177.out)) : gb177 ≠ gb185)); have n9_ := Aside0.mk ((by rw [hg]; exact Nat.ne_of_gt (blk_lt (g := gb177) (o := .cells #[.int .i64 t171, .int .i64 t172, .int .i64 t173, .int .i64 t174, .int .u64 t175] 24 (0, 0)) (by (with_reducible repeat (first | refine blk_drewN ?_ _ | refine blk_drew ?_ | refine blk_alloc ?_ _)); exact BK177.out)) : gb185 ≠ gb177)); clear BK167; clear BK177; clear HB; have BK167 := n0_; have BK177 := n1_; have HB := n2_; have BK185 := n3_; have GW185 := n4_; have GE185 := n5_; have NB167_185 := n6_; have NB185_167 := n7_; have NB177_185 := n8_; have NB185_177 := n9_; clear n0_ n1_ n2_ n3_ n4_ n5_ n6_ n7_ n8_ n9_; clear hb hbox hg; have hnb26 := NB185_167.out; have hnc26 := NB167_185.out; have hnb27 := NB185_177.out; have hnc27 := NB177_185.out; have hcz28_0 : w25.cell? ⟨gb185, 0, none⟩ = some (.int .i64 0) := (blk_cell BK185.out 0).trans rfl; have hcz28_1 : w25.cell? ⟨gb185, 1, none⟩ = some (.int .i64 0) := (blk_cell BK185.out 1).trans rfl; have hcz28_2 : w25.cell? ⟨gb185, 2, none⟩ = some (.int .i64 0) := (blk_cell BK185.out 2).trans rfl; have hcz28_3 : w25.cell? ⟨gb185, 3, none⟩ = some (.int .i64 0) := (blk_cell BK185.out 3).trans rfl; have hcz28_4 : w25.cell? ⟨gb185, 4, none⟩ = some (.int .u64 0) := (blk_cell BK185.out 4).trans rfl; have hfz28_0 := blk_frozen BK185.out 0; have hfz28_1 := blk_frozen BK185.out 1; have hfz28_2 := blk_frozen BK185.out 2; have hfz28_3 := blk_frozen BK185.out 3; have hfz28_4 := blk_frozen BK185.out 4))
        (try simp only [Act.put, List.setIfInBounds_toArray, List.set_cons_zero, List.set_cons_succ])
        go_cut [67] (fun v67 wc => ∃ (kq : Nat) (x67_14 : Bool), v67 = .bool x67_14 ∧ Aside0 (lockfastlaw10_ChunkLives.j0 kq t165 (wrap64 (Int.tmod a0 3)) (Int.tmod (wrap64 (a2)) t166) x67_14 1 (wrap64 (Int.tmod a0 3)) 0 0 (Int.tmod (IntKind.u64.wrap (a1)) (ji8)) t171 t172 t173 t174 t175 t179 t180 t181 t182 t183 = some r) ∧ Aside0 (kq ≤ k) ∧ Aside0 (wc.heap[gb167]? = some (.cells #[.int .i64 1, .int .i64 (wrap64 (Int.tmod a0 3)), .int .i64 0, .int .i64 0, .int .u64 (Int.tmod (IntKind.u64.wrap (a1)) (ji8))] 24 (0, 0))) ∧ Aside0 (wc.heap[gb177]? = some (.cells #[.int .i64 t171, .int .i64 t172, .int .i64 t173, .int .i64 t174, .int .u64 t175] 24 (0, 0))) ∧ Aside0 (wc.heap[gb185]? = some (.cells #[.int .i64 t179, .int .i64 t180, .int .i64 t181, .int .i64 t182, .int .u64 t183] 24 (0, 0))) ∧ Aside0 (Below w.heap.size w wc))
        case first =>
          have H := HC15.out
          clear HC15
          by_cases c29 : t169 = 0
          · rw [if_pos c29] at H
            have c29b0 : (t169 == 0) = true := beq_iff_eq.mpr c29
            have c29b1 : (t169 != 0) = false := bne_eq_false_iff_eq.mpr c29
            clear c29
            (first | rw [c29b0] | (simp only [i64_w, i32_w]; rw [c29b0]) | skip)
            by_cases c30 : t176 = true
            · subst c30
              have H1 : (lockfastlaw10_ChunkLives.j0 k t165 (wrap64 (Int.tmod a0 3)) (Int.tmod (wrap64 (a2)) t166) (!t184) 1 (wrap64 (Int.tmod a0 3)) 0 0 (Int.tmod (IntKind.u64.wrap (a1)) (ji8)) t171 t172 t173 t174 t175 t179 t180 t181 t182 t183) = some r := by rw [if_pos rfl] at H; exact H
              clear H
              have H := H1
              clear H1
              have H' := Aside0.mk H
              clear H
              go_wp2
              go_meet
              case rel => exact ⟨_, (!t184), (by first | rfl | (simp; done) | (simp [*]; done)), (by first | exact H' | (subst_vars; exact H')), ⟨by first | omega | exact Nat.le_refl _⟩, ⟨by (with_reducible repeat (first | refine blk_drewN ?_ _ | refine blk_drew ?_ | refine blk_alloc ?_ _)); refine blk_far ?_ NB167_185.out _; (with_reducible repeat (first | refine blk_drewN ?_ _ | refine blk_drew ?_ | refine blk_alloc ?_ _)); refine blk_far ?_ NB167_185.out _; (with_reducible repeat (first | refine blk_drewN ?_ _ | refine blk_drew ?_ | refine blk_alloc ?_ _)); refine blk_far ?_ NB167_185.out _; (with_reducible repeat (first | refine blk_drewN ?_ _ | refine blk_drew ?_ | refine blk_alloc ?_ _)); refine blk_far ?_ NB167_185.out _; (with_reducible repeat (first | refine blk_drewN ?_ _ | refine blk_drew ?_ | refine blk_alloc ?_ _)); refine blk_far ?_ NB167_185.out _; (with_reducible repeat (first | refine blk_drewN ?_ _ | refine blk_drew ?_ | refine blk_alloc ?_ _)); exact BK167.out⟩, ⟨by (with_reducible repeat (first | refine blk_drewN ?_ _ | refine blk_drew ?_ | refine blk_alloc ?_ _)); refine blk_far ?_ NB177_185.out _; (with_reducible repeat (first | refine blk_drewN ?_ _ | refine blk_drew ?_ | refine blk_alloc ?_ _)); refine blk_far ?_ NB177_185.out _; (with_reducible repeat (first | refine blk_drewN ?_ _ | refine blk_drew ?_ | refine blk_alloc ?_ _)); refine blk_far ?_ NB177_185.out _; (with_reducible repeat (first | refine blk_drewN ?_ _ | refine blk_drew ?_ | refine blk_alloc ?_ _)); refine blk_far ?_ NB177_185.out _; (with_reducible repeat (first | refine blk_drewN ?_ _ | refine blk_drew ?_ | refine blk_alloc ?_ _)); refine blk_far ?_ NB177_185.out _; (with_reducible repeat (first | refine blk_drewN ?_ _ | refine blk_drew ?_ | refine blk_alloc ?_ _)); exact BK177.out⟩, ⟨by (with_reducible repeat (first | refine blk_drewN ?_ _ | refine blk_drew ?_ | refine blk_alloc ?_ _)); refine blk_put (cs := #[.int .i64 t179, .int .i64 t180, .int .i64 t181, .int .i64 t182, .int .u64 0]) ?_ 4 _ rfl; (with_reducible repeat (first | refine blk_drewN ?_ _ | refine blk_drew ?_ | refine blk_alloc ?_ _)); refine blk_put (cs := #[.int .i64 t179, .int .i64 t180, .int .i64 t181, .int .i64 0, .int .u64 0]) ?_ 3 _ rfl; (with_reducible repeat (first | refine blk_drewN ?_ _ | refine blk_drew ?_ | refine blk_alloc ?_ _)); refine blk_put (cs := #[.int .i64 t179, .int .i64 t180, .int .i64 0, .int .i64 0, .int .u64 0]) ?_ 2 _ rfl; (with_reducible repeat (first | refine blk_drewN ?_ _ | refine blk_drew ?_ | refine blk_alloc ?_ _)); refine blk_put (cs := #[.int .i64 t179, .int .i64 0, .int .i64 0, .int .i64 0, .int .u64 0]) ?_ 1 _ rfl; (with_reducible repeat (first | refine blk_drewN ?_ _ | refine blk_drew ?_ | refine blk_alloc ?_ _)); refine blk_put (cs := #[.int .i64 0, .int .i64 0, .int .i64 0, .int .i64 0, .int .u64 0]) ?_ 0 _ rfl; (with_reducible repeat (first | refine blk_drewN ?_ _ | refine blk_drew ?_ | refine blk_alloc ?_ _)); exact BK185.out⟩, ⟨by repeat (first | (with_reducible first | exact HB.out | apply below_alloc | apply pw_below_drewN | apply below_drew1 | refine below_set ?_ GE167.out | refine below_set ?_ GE177.out | refine below_set ?_ GE185.out) | exact HB.out)⟩⟩
            · replace c30 := Bool.eq_false_iff.mpr c30
              subst c30
              have H1 : (lockfastlaw10_ChunkLives.j0 k t165 (wrap64 (Int.tmod a0 3)) (Int.tmod (wrap64 (a2)) t166) true 1 (wrap64 (Int.tmod a0 3)) 0 0 (Int.tmod (IntKind.u64.wrap (a1)) (ji8)) t171 t172 t173 t174 t175 t179 t180 t181 t182 t183) = some r := by rw [if_neg (show ¬ (false = true) by decide)] at H; exact H
              clear H
              have H := H1
              clear H1
              have H' := Aside0.mk H
              clear H
              go_wp2
              go_meet
              case rel => exact ⟨_, (true), (by first | rfl | (simp; done) | (simp [*]; done)), (by first | exact H' | (subst_vars; exact H')), ⟨by first | omega | exact Nat.le_refl _⟩, ⟨by (with_reducible repeat (first | refine blk_drewN ?_ _ | refine blk_drew ?_ | refine blk_alloc ?_ _)); refine blk_far ?_ NB167_185.out _; (with_reducible repeat (first | refine blk_drewN ?_ _ | refine blk_drew ?_ | refine blk_alloc ?_ _)); refine blk_far ?_ NB167_185.out _; (with_reducible repeat (first | refine blk_drewN ?_ _ | refine blk_drew ?_ | refine blk_alloc ?_ _)); refine blk_far ?_ NB167_185.out _; (with_reducible repeat (first | refine blk_drewN ?_ _ | refine blk_drew ?_ | refine blk_alloc ?_ _)); refine blk_far ?_ NB167_185.out _; (with_reducible repeat (first | refine blk_drewN ?_ _ | refine blk_drew ?_ | refine blk_alloc ?_ _)); refine blk_far ?_ NB167_185.out _; (with_reducible repeat (first | refine blk_drewN ?_ _ | refine blk_drew ?_ | refine blk_alloc ?_ _)); exact BK167.out⟩, ⟨by (with_reducible repeat (first | refine blk_drewN ?_ _ | refine blk_drew ?_ | refine blk_alloc ?_ _)); refine blk_far ?_ NB177_185.out _; (with_reducible repeat (first | refine blk_drewN ?_ _ | refine blk_drew ?_ | refine blk_alloc ?_ _)); refine blk_far ?_ NB177_185.out _; (with_reducible repeat (first | refine blk_drewN ?_ _ | refine blk_drew ?_ | refine blk_alloc ?_ _)); refine blk_far ?_ NB177_185.out _; (with_reducible repeat (first | refine blk_drewN ?_ _ | refine blk_drew ?_ | refine blk_alloc ?_ _)); refine blk_far ?_ NB177_185.out _; (with_reducible repeat (first | refine blk_drewN ?_ _ | refine blk_drew ?_ | refine blk_alloc ?_ _)); refine blk_far ?_ NB177_185.out _; (with_reducible repeat (first | refine blk_drewN ?_ _ | refine blk_drew ?_ | refine blk_alloc ?_ _)); exact BK177.out⟩, ⟨by (with_reducible repeat (first | refine blk_drewN ?_ _ | refine blk_drew ?_ | refine blk_alloc ?_ _)); refine blk_put (cs := #[.int .i64 t179, .int .i64 t180, .int .i64 t181, .int .i64 t182, .int .u64 0]) ?_ 4 _ rfl; (with_reducible repeat (first | refine blk_drewN ?_ _ | refine blk_drew ?_ | refine blk_alloc ?_ _)); refine blk_put (cs := #[.int .i64 t179, .int .i64 t180, .int .i64 t181, .int .i64 0, .int .u64 0]) ?_ 3 _ rfl; (with_reducible repeat (first | refine blk_drewN ?_ _ | refine blk_drew ?_ | refine blk_alloc ?_ _)); refine blk_put (cs := #[.int .i64 t179, .int .i64 t180, .int .i64 0, .int .i64 0, .int .u64 0]) ?_ 2 _ rfl; (with_reducible repeat (first | refine blk_drewN ?_ _ | refine blk_drew ?_ | refine blk_alloc ?_ _)); refine blk_put (cs := #[.int .i64 t179, .int .i64 0, .int .i64 0, .int .i64 0, .int .u64 0]) ?_ 1 _ rfl; (with_reducible repeat (first | refine blk_drewN ?_ _ | refine blk_drew ?_ | refine blk_alloc ?_ _)); refine blk_put (cs := #[.int .i64 0, .int .i64 0, .int .i64 0, .int .i64 0, .int .u64 0]) ?_ 0 _ rfl; (with_reducible repeat (first | refine blk_drewN ?_ _ | refine blk_drew ?_ | refine blk_alloc ?_ _)); exact BK185.out⟩, ⟨by repeat (first | (with_reducible first | exact HB.out | apply below_alloc | apply pw_below_drewN | apply below_drew1 | refine below_set ?_ GE167.out | refine below_set ?_ GE177.out | refine below_set ?_ GE185.out) | exact HB.out)⟩⟩
          · rw [if_neg c29] at H
            have c29b0 : (t169 == 0) = false := beq_eq_false_iff_ne.mpr c29
            have c29b1 : (t169 != 0) = true := bne_iff_ne.mpr c29
            (first | rw [c29b0] | (simp only [i64_w, i32_w]; rw [c29b0]) | skip)
            have H' := Aside0.mk H
            clear H
            go_wp2
            go_meet
            case rel => exact ⟨_, (true), (by first | rfl | (simp; done) | (simp [*]; done)), (by first | exact H' | (subst_vars; exact H')), ⟨by first | omega | exact Nat.le_refl _⟩, ⟨by (with_reducible repeat (first | refine blk_drewN ?_ _ | refine blk_drew ?_ | refine blk_alloc ?_ _)); refine blk_far ?_ NB167_185.out _; (with_reducible repeat (first | refine blk_drewN ?_ _ | refine blk_drew ?_ | refine blk_alloc ?_ _)); refine blk_far ?_ NB167_185.out _; (with_reducible repeat (first | refine blk_drewN ?_ _ | refine blk_drew ?_ | refine blk_alloc ?_ _)); refine blk_far ?_ NB167_185.out _; (with_reducible repeat (first | refine blk_drewN ?_ _ | refine blk_drew ?_ | refine blk_alloc ?_ _)); refine blk_far ?_ NB167_185.out _; (with_reducible repeat (first | refine blk_drewN ?_ _ | refine blk_drew ?_ | refine blk_alloc ?_ _)); refine blk_far ?_ NB167_185.out _; (with_reducible repeat (first | refine blk_drewN ?_ _ | refine blk_drew ?_ | refine blk_alloc ?_ _)); exact BK167.out⟩, ⟨by (with_reducible repeat (first | refine blk_drewN ?_ _ | refine blk_drew ?_ | refine blk_alloc ?_ _)); refine blk_far ?_ NB177_185.out _; (with_reducible repeat (first | refine blk_drewN ?_ _ | refine blk_drew ?_ | refine blk_alloc ?_ _)); refine blk_far ?_ NB177_185.out _; (with_reducible repeat (first | refine blk_drewN ?_ _ | refine blk_drew ?_ | refine blk_alloc ?_ _)); refine blk_far ?_ NB177_185.out _; (with_reducible repeat (first | refine blk_drewN ?_ _ | refine blk_drew ?_ | refine blk_alloc ?_ _)); refine blk_far ?_ NB177_185.out _; (with_reducible repeat (first | refine blk_drewN ?_ _ | refine blk_drew ?_ | refine blk_alloc ?_ _)); refine blk_far ?_ NB177_185.out _; (with_reducible repeat (first | refine blk_drewN ?_ _ | refine blk_drew ?_ | refine blk_alloc ?_ _)); exact BK177.out⟩, ⟨by (with_reducible repeat (first | refine blk_drewN ?_ _ | refine blk_drew ?_ | refine blk_alloc ?_ _)); refine blk_put (cs := #[.int .i64 t179, .int .i64 t180, .int .i64 t181, .int .i64 t182, .int .u64 0]) ?_ 4 _ rfl; (with_reducible repeat (first | refine blk_drewN ?_ _ | refine blk_drew ?_ | refine blk_alloc ?_ _)); refine blk_put (cs := #[.int .i64 t179, .int .i64 t180, .int .i64 t181, .int .i64 0, .int .u64 0]) ?_ 3 _ rfl; (with_reducible repeat (first | refine blk_drewN ?_ _ | refine blk_drew ?_ | refine blk_alloc ?_ _)); refine blk_put (cs := #[.int .i64 t179, .int .i64 t180, .int .i64 0, .int .i64 0, .int .u64 0]) ?_ 2 _ rfl; (with_reducible repeat (first | refine blk_drewN ?_ _ | refine blk_drew ?_ | refine blk_alloc ?_ _)); refine blk_put (cs := #[.int .i64 t179, .int .i64 0, .int .i64 0, .int .i64 0, .int .u64 0]) ?_ 1 _ rfl; (with_reducible repeat (first | refine blk_drewN ?_ _ | refine blk_drew ?_ | refine blk_alloc ?_ _)); refine blk_put (cs := #[.int .i64 0, .int .i64 0, .int .i64 0, .int .i64 0, .int .u64 0]) ?_ 0 _ rfl; (with_reducible repeat (first | refine blk_drewN ?_ _ | refine blk_drew ?_ | refine blk_alloc ?_ _)); exact BK185.out⟩, ⟨by repeat (first | (with_reducible first | exact HB.out | apply below_alloc | apply pw_below_drewN | apply below_drew1 | refine below_set ?_ GE167.out | refine below_set ?_ GE177.out | refine below_set ?_ GE185.out) | exact HB.out)⟩⟩
        case rest =>
          clear HC15
          try clear c1
          try clear c2
          try clear p2
          try clear c3
          try clear c6
          try clear c6b0
          try clear c6b1
          try clear p6
          try clear c7
          try clear c7b0
          try clear c7b1
          try clear c9
          try clear c9b0
          try clear c9b1
          try clear c10
          try clear c11
          try clear c15
          try clear c17
          try clear c22
          try clear c23
          try clear c26
          try clear c27
          try clear c29
          try clear c29b0
          try clear c29b1
          try clear c30
          try clear hcz18_0
          try clear hcz18_1
          try clear hcz18_2
          try clear hcz18_3
          try clear hcz18_4
          try clear hcz23_0
          try clear hcz23_1
          try clear hcz23_2
          try clear hcz23_3
          try clear hcz23_4
          try clear hcz28_0
          try clear hcz28_1
          try clear hcz28_2
          try clear hcz28_3
          try clear hcz28_4
          try clear hfz18_0
          try clear hfz18_1
          try clear hfz18_2
          try clear hfz18_3
          try clear hfz18_4
          try clear hfz23_0
          try clear hfz23_1
          try clear hfz23_2
          try clear hfz23_3
          try clear hfz23_4
          try clear hfz28_0
          try clear hfz28_1
          try clear hfz28_2
          try clear hfz28_3
          try clear hfz28_4
          obtain ⟨kq, x67_14, rfl, HA, HJ14, BK167, BK177, BK185, HB⟩ := hcut
          cases kq with
          | zero => exact absurd HA.out (by simp [lockfastlaw10_ChunkLives.j0])
          | succ kj14 =>
            have H := HA.out
            clear HA
            simp only [lockfastlaw10_ChunkLives.j0] at H
            by_cases c31 : x67_14 = true
            · subst c31
              have H1 : (some false) = some r := by rw [if_pos rfl] at H; exact H
              clear H
              have H := H1
              clear H1
              obtain rfl := Option.some.inj H
              exact absurd HRT.out (by decide)
            · replace c31 := Bool.eq_false_iff.mpr c31
              subst c31
              have H1 : (if 0 ≤ (Int.tmod (wrap64 (a2)) t166) then (if t165 = true then (if (t171 == 1 && (t172 == (wrap64 (Int.tmod a0 3)) && (t173 == 0 && (t174 == 0 && (t175 == (Go.bits .or .u64 (Int.tmod (IntKind.u64.wrap (a1)) (ji8)) (shl .u64 1 (Int.tmod (wrap64 (a2)) t166)))))))) = true then (if (t179 == 1 && (t180 == (wrap64 (Int.tmod a0 3)) && (t181 == 0 && (t182 == 0 && (t183 == (Go.bits .andNot .u64 (Int.tmod (IntKind.u64.wrap (a1)) (ji8)) (shl .u64 1 (Int.tmod (wrap64 (a2)) t166)))))))) = true then ((chunk_Room.f t179 t180 t181 t182 t183).bind fun t188 => (if t188 ≥ 0 then ((chunk_Room.f t179 t180 t181 t182 t183).bind fun t189 => (if t189 ≤ (Int.tmod (wrap64 (a2)) t166) then ((chunk_Room.f t171 t172 t173 t174 t175).bind fun t190 => (if t190 = (Int.tmod (wrap64 (a2)) t166) then (some false) else (if (Go.bits .andNot .u64 (Int.tmod (IntKind.u64.wrap (a1)) (ji8)) (shl .u64 1 (Int.tmod (wrap64 (a2)) t166))) = 0 then ((chunk_Empty.f t179 t180 t181 t182 t183).bind fun t191 => (some t191)) else (some true)))) else (some false))) else (some false))) else (some false)) else (some false)) else (some false)) else (none)) = some r := by rw [if_neg (show ¬ (false = true) by decide)] at H; exact H
              clear H
              have H := H1
              clear H1
              obtain ⟨ji32, hji32⟩ : ∃ j_ : Int, (Int.tmod (wrap64 (a2)) t166) = j_ := ⟨_, rfl⟩
              replace H : (if 0 ≤ (ji32) then (if t165 = true then (if (t171 == 1 && (t172 == (wrap64 (Int.tmod a0 3)) && (t173 == 0 && (t174 == 0 && (t175 == (Go.bits .or .u64 (Int.tmod (IntKind.u64.wrap (a1)) (ji8)) (shl .u64 1 (ji32)))))))) = true then (if (t179 == 1 && (t180 == (wrap64 (Int.tmod a0 3)) && (t181 == 0 && (t182 == 0 && (t183 == (Go.bits .andNot .u64 (Int.tmod (IntKind.u64.wrap (a1)) (ji8)) (shl .u64 1 (ji32)))))))) = true then ((chunk_Room.f t179 t180 t181 t182 t183).bind fun t188 => (if t188 ≥ 0 then ((chunk_Room.f t179 t180 t181 t182 t183).bind fun t189 => (if t189 ≤ (ji32) then ((chunk_Room.f t171 t172 t173 t174 t175).bind fun t190 => (if t190 = (ji32) then (some false) else (if (Go.bits .andNot .u64 (Int.tmod (IntKind.u64.wrap (a1)) (ji8)) (shl .u64 1 (ji32))) = 0 then ((chunk_Empty.f t179 t180 t181 t182 t183).bind fun t191 => (some t191)) else (some true)))) else (some false))) else (some false))) else (some false)) else (some false)) else (some false)) else (none)) = some r := by first | (rw [hji32] at H; exact H) | (simp only [hji32] at H ⊢; exact H)
              by_cases c33 : 0 ≤ (ji32)
              · rw [if_pos c33] at H
                have c33b0 := eq_true c33
                have c33b1 : decide (0 ≤ (ji32)) = true := decide_eq_true c33
                clear c33
                obtain ⟨ji34, hji34⟩ : ∃ j_ : Int, (shl .u64 1 (ji32)) = j_ := ⟨_, rfl⟩
                replace H : (if t165 = true then (if (t171 == 1 && (t172 == (wrap64 (Int.tmod a0 3)) && (t173 == 0 && (t174 == 0 && (t175 == (Go.bits .or .u64 (Int.tmod (IntKind.u64.wrap (a1)) (ji8)) (ji34))))))) = true then (if (t179 == 1 && (t180 == (wrap64 (Int.tmod a0 3)) && (t181 == 0 && (t182 == 0 && (t183 == (Go.bits .andNot .u64 (Int.tmod (IntKind.u64.wrap (a1)) (ji8)) (ji34))))))) = true then ((chunk_Room.f t179 t180 t181 t182 t183).bind fun t188 => (if t188 ≥ 0 then ((chunk_Room.f t179 t180 t181 t182 t183).bind fun t189 => (if t189 ≤ (ji32) then ((chunk_Room.f t171 t172 t173 t174 t175).bind fun t190 => (if t190 = (ji32) then (some false) else (if (Go.bits .andNot .u64 (Int.tmod (IntKind.u64.wrap (a1)) (ji8)) (ji34)) = 0 then ((chunk_Empty.f t179 t180 t181 t182 t183).bind fun t191 => (some t191)) else (some true)))) else (some false))) else (some false))) else (some false)) else (some false)) else (some false)) = some r := by first | (rw [hji34] at H; exact H) | (simp only [hji34] at H ⊢; exact H)
                have hji34_ : (IntKind.u64.wrap (1 * 2 ^ min (ji32).toNat 64)) = ji34 := hji34
                have hji34z : (ji32) ≤ 64 → (IntKind.u64.wrap (1 * 2 ^ (ji32).toNat)) = ji34 := shl_small hji34
                have hji34u : (IntKind.u64.wrap (2 ^ min (ji32).toNat 64)) = ji34 := by have h_ := hji34_; rw [Int.one_mul] at h_; exact h_
                have hji34v : (ji32) ≤ 64 → (IntKind.u64.wrap (2 ^ (ji32).toNat)) = ji34 := fun hle_ => by have h_ := hji34z hle_; rw [Int.one_mul] at h_; exact h_
                have c35b0 := eq_true (of_decide_eq_true (by first | (with_reducible assumption) | assumption) : 0 ≤ (ji32))
                skip
                by_cases c37 : t165 = true
                · subst c37
                  have H1 : (if (t171 == 1 && (t172 == (wrap64 (Int.tmod a0 3)) && (t173 == 0 && (t174 == 0 && (t175 == (Go.bits .or .u64 (Int.tmod (IntKind.u64.wrap (a1)) (ji8)) (ji34))))))) = true then (if (t179 == 1 && (t180 == (wrap64 (Int.tmod a0 3)) && (t181 == 0 && (t182 == 0 && (t183 == (Go.bits .andNot .u64 (Int.tmod (IntKind.u64.wrap (a1)) (ji8)) (ji34))))))) = true then ((chunk_Room.f t179 t180 t181 t182 t183).bind fun t188 => (if t188 ≥ 0 then ((chunk_Room.f t179 t180 t181 t182 t183).bind fun t189 => (if t189 ≤ (ji32) then ((chunk_Room.f t171 t172 t173 t174 t175).bind fun t190 => (if t190 = (ji32) then (some false) else (if (Go.bits .andNot .u64 (Int.tmod (IntKind.u64.wrap (a1)) (ji8)) (ji34)) = 0 then ((chunk_Empty.f t179 t180 t181 t182 t183).bind fun t191 => (some t191)) else (some true)))) else (some false))) else (some false))) else (some false)) else (some false)) = some r := by rw [if_pos rfl] at H; exact H
                  clear H
                  have H := H1
                  clear H1
                  by_cases c38 : (t171 == 1 && (t172 == (wrap64 (Int.tmod a0 3)) && (t173 == 0 && (t174 == 0 && (t175 == (Go.bits .or .u64 (Int.tmod (IntKind.u64.wrap (a1)) (ji8)) (ji34))))))) = true
                  · rw [if_pos c38] at H
                    have c38b0 : (t171 == 1 && (t172 == (wrap64 (Int.tmod a0 3)) && (t173 == 0 && (t174 == 0 && (t175 == (Go.bits .or .u64 (Int.tmod (IntKind.u64.wrap (a1)) (ji8)) (ji34))))))) = true := c38
                    (try (have c38b1 : decide (t171 = 1 && (t172 == (wrap64 (Int.tmod a0 3)) && (t173 == 0 && (t174 == 0 && (t175 == (Go.bits .or .u64 (Int.tmod (IntKind.u64.wrap (a1)) (ji8)) (ji34))))))) = true := by simpa using c38))
                    (try (have c38b2 : (t171 == 1 && (t172 == (wrap64 (Int.tmod a0 3)) && (t173 == 0 && (t174 == 0 && (t175 == (Go.bits .or .u64 (Int.tmod (IntKind.u64.wrap (a1)) (ji8)) (ji34))))))) = true := by simpa using c38))
                    clear c38
                    by_cases c39 : (t179 == 1 && (t180 == (wrap64 (Int.tmod a0 3)) && (t181 == 0 && (t182 == 0 && (t183 == (Go.bits .andNot .u64 (Int.tmod (IntKind.u64.wrap (a1)) (ji8)) (ji34))))))) = true
                    · rw [if_pos c39] at H
                      have c39b0 : (t179 == 1 && (t180 == (wrap64 (Int.tmod a0 3)) && (t181 == 0 && (t182 == 0 && (t183 == (Go.bits .andNot .u64 (Int.tmod (IntKind.u64.wrap (a1)) (ji8)) (ji34))))))) = true := c39
                      (try (have c39b1 : decide (t179 = 1 && (t180 == (wrap64 (Int.tmod a0 3)) && (t181 == 0 && (t182 == 0 && (t183 == (Go.bits .andNot .u64 (Int.tmod (IntKind.u64.wrap (a1)) (ji8)) (ji34))))))) = true := by simpa using c39))
                      (try (have c39b2 : (t179 == 1 && (t180 == (wrap64 (Int.tmod a0 3)) && (t181 == 0 && (t182 == 0 && (t183 == (Go.bits .andNot .u64 (Int.tmod (IntKind.u64.wrap (a1)) (ji8)) (ji34))))))) = true := by simpa using c39))
                      clear c39
                      replace H := Option.bind_eq_some_iff.mp H
                      obtain ⟨t188, A400, H⟩ := H
                      replace H : (if t188 ≥ 0 then ((chunk_Room.f t179 t180 t181 t182 t183).bind fun t189 => (if t189 ≤ (ji32) then ((chunk_Room.f t171 t172 t173 t174 t175).bind fun t190 => (if t190 = (ji32) then (some false) else (if (Go.bits .andNot .u64 (Int.tmod (IntKind.u64.wrap (a1)) (ji8)) (ji34)) = 0 then ((chunk_Empty.f t179 t180 t181 t182 t183).bind fun t191 => (some t191)) else (some true)))) else (some false))) else (some false)) = some r := H
                      have A40 := Aside0.mk A400
                      clear A400
                      by_cases c41 : t188 ≥ 0
                      · rw [if_pos c41] at H
                        have c41b0 : decide (0 ≤ t188) = true := decide_eq_true c41
                        clear c41
                        replace H := Option.bind_eq_some_iff.mp H
                        obtain ⟨t189, A420, H⟩ := H
                        replace H : (if t189 ≤ (ji32) then ((chunk_Room.f t171 t172 t173 t174 t175).bind fun t190 => (if t190 = (ji32) then (some false) else (if (Go.bits .andNot .u64 (Int.tmod (IntKind.u64.wrap (a1)) (ji8)) (ji34)) = 0 then ((chunk_Empty.f t179 t180 t181 t182 t183).bind fun t191 => (some t191)) else (some true)))) else (some false)) = some r := H
                        have A42 := Aside0.mk A420
                        clear A420
                        by_cases c43 : t189 ≤ (ji32)
                        · rw [if_pos c43] at H
                          have c43b0 : decide (t189 ≤ (ji32)) = true := decide_eq_true c43
                          clear c43
                          replace H := Option.bind_eq_some_iff.mp H
                          obtain ⟨t190, A440, H⟩ := H
                          replace H : (if t190 = (ji32) then (some false) else (if (Go.bits .andNot .u64 (Int.tmod (IntKind.u64.wrap (a1)) (ji8)) (ji34)) = 0 then ((chunk_Empty.f t179 t180 t181 t182 t183).bind fun t191 => (some t191)) else (some true))) = some r := H
                          have A44 := Aside0.mk A440
                          clear A440
                          by_cases c45 : t190 = (ji32)
                          · rw [if_pos c45] at H
                            have c45b0 : (t190 == (ji32)) = true := beq_iff_eq.mpr c45
                            have c45b1 : (t190 != (ji32)) = false := bne_eq_false_iff_eq.mpr c45
                            clear c45
                            obtain rfl := Option.some.inj H
                            exact absurd HRT.out (by decide)
                          · rw [if_neg c45] at H
                            have c45b0 : (t190 == (ji32)) = false := beq_eq_false_iff_ne.mpr c45
                            have c45b1 : (t190 != (ji32)) = true := bne_iff_ne.mpr c45
                            by_cases c46 : (Go.bits .andNot .u64 (Int.tmod (IntKind.u64.wrap (a1)) (ji8)) (ji34)) = 0
                            · rw [if_pos c46] at H
                              have c46b0 : ((Go.bits .andNot .u64 (Int.tmod (IntKind.u64.wrap (a1)) (ji8)) (ji34)) == 0) = true := beq_iff_eq.mpr c46
                              have c46b1 : ((Go.bits .andNot .u64 (Int.tmod (IntKind.u64.wrap (a1)) (ji8)) (ji34)) != 0) = false := bne_eq_false_iff_eq.mpr c46
                              clear c46
                              replace H := Option.bind_eq_some_iff.mp H
                              obtain ⟨t191, A470, H⟩ := H
                              replace H : (some t191) = some r := H
                              have A47 := Aside0.mk A470
                              clear A470
                              obtain rfl := Option.some.inj H
                              simp only [Option.some.injEq, Prod.mk.injEq] at H
                              obtain ⟨rfl⟩ := H
                              try go_wp2
                              have n0_ := Aside0.mk (blk_drew BK167.out)
                              have n1_ := Aside0.mk (blk_drew BK177.out)
                              have n2_ := Aside0.mk (blk_drew BK185.out)
                              have n3_ := Aside0.mk (below_drew1 HB.out)
                              clear BK167
                              clear BK177
                              clear BK185
                              clear HB
                              have BK167 := n0_
                              have BK177 := n1_
                              have BK185 := n2_
                              have HB := n3_
                              clear n0_ n1_ n2_ n3_
                              refine start_ (n := 9) (S := fun w' => w'.cell? ⟨gb167, 0, none⟩ = some (.int .i64 1) ∧ w'.cell? ⟨gb167, 1, none⟩ = some (.int .i64 (wrap64 (Int.tmod a0 3))) ∧ w'.cell? ⟨gb167, 2, none⟩ = some (.int .i64 0) ∧ w'.cell? ⟨gb167, 3, none⟩ = some (.int .i64 0) ∧ w'.cell? ⟨gb167, 4, none⟩ = some (.int .u64 (Int.tmod (IntKind.u64.wrap (a1)) (ji8)))) (ds := []) #[false, false, false, false, false, false, false, false, false] (by kernel_rfl) rfl rfl ⟨(blk_cell BK167.out 0).trans rfl, (blk_cell BK167.out 1).trans rfl, (blk_cell BK167.out 2).trans rfl, (blk_cell BK167.out 3).trans rfl, (blk_cell BK167.out 4).trans rfl⟩ (fun hHeld => ?_); refine with_tabW lockfastlaw10_ChunkLives.tab11 lockfastlaw10_ChunkLives.bits11 (fun HT_ HW_ => ?_)
                              generalize wc.drew = w48 at BK167 BK177 BK185 HB hHeld ⊢
                              refine pure_ (i := 0) (N := some 68) (v := ?_) (a' := ?_) #[true, false, false, false, false, false, false, false, false] rfl rfl (any_of HT_.out (by kernel_rfl)) (fun _ _ _ h => h) (Or.inl ⟨by rfl, ?_⟩) ?_ ?_
                              rotate_left
                              · intro w'
                                go_simp
                                with_reducible rfl
                              rotate_left
                              · simp only [Act.put, List.setIfInBounds_toArray, List.set_cons_zero, List.set_cons_succ, i64_w, i32_w]
                                rfl
                              refine pure_ (i := 1) (N := some 69) (v := ?_) (a' := ?_) #[true, true, false, false, false, false, false, false, false] rfl rfl (any_of HT_.out (by kernel_rfl)) (fun _ _ _ h => h) (Or.inl ⟨by rfl, ?_⟩) ?_ ?_
                              rotate_left
                              · intro w'
                                go_simp
                                with_reducible rfl
                              rotate_left
                              · simp only [Act.put, List.setIfInBounds_toArray, List.set_cons_zero, List.set_cons_succ, i64_w, i32_w]
                                rfl
                              refine pure_ (i := 3) (N := some 71) (v := ?_) (a' := ?_) #[true, true, false, true, false, false, false, false, false] rfl rfl (any_of HT_.out (by kernel_rfl)) (fun _ _ _ h => h) (Or.inl ⟨by rfl, ?_⟩) ?_ ?_
                              rotate_left
                              · intro w'
                                go_simp
                                with_reducible rfl
                              rotate_left
                              · simp only [Act.put, List.setIfInBounds_toArray, List.set_cons_zero, List.set_cons_succ, i64_w, i32_w]
                                rfl
                              refine pure_ (i := 4) (N := some 72) (v := ?_) (a' := ?_) #[true, true, false, true, true, false, false, false, false] rfl rfl (any_of HT_.out (by kernel_rfl)) (fun _ _ _ h => h) (Or.inl ⟨by rfl, ?_⟩) ?_ ?_
                              rotate_left
                              · intro w'
                                go_simp
                                with_reducible rfl
                              rotate_left
                              · simp only [Act.put, List.setIfInBounds_toArray, List.set_cons_zero, List.set_cons_succ, i64_w, i32_w]
                                rfl
                              refine take_ (i := 2) (N := some 70) (v := ?_) (a' := ?_) #[true, true, true, true, true, false, false, false, false] rfl rfl (take_ofW HT_.out HW_.out (by kernel_rfl)) (fun _ _ _ h => h) (Or.inl ⟨by rfl, ?_⟩) hHeld ?_ ?_
                              rotate_left
                              · rintro w' ⟨s0, s1, s2, s3, s4⟩
                                go_simp
                                with_reducible rfl
                              rotate_left
                              · simp only [Act.put, List.setIfInBounds_toArray, List.set_cons_zero, List.set_cons_succ, i64_w, i32_w]
                                rfl
                              refine pure_ (i := 5) (N := some 73) (v := ?_) (a' := ?_) #[true, true, true, true, true, true, false, false, false] rfl rfl (any_of HT_.out (by kernel_rfl)) (fun _ _ _ h => h) (Or.inl ⟨by rfl, ?_⟩) ?_ ?_
                              rotate_left
                              · intro w'
                                go_simp
                                with_reducible rfl
                              rotate_left
                              · simp only [Act.put, List.setIfInBounds_toArray, List.set_cons_zero, List.set_cons_succ, i64_w, i32_w]
                                rfl
                              refine pure_ (i := 6) (N := some 74) (v := ?_) (a' := ?_) #[true, true, true, true, true, true, true, false, false] rfl rfl (any_of HT_.out (by kernel_rfl)) (fun _ _ _ h => h) (Or.inl ⟨by rfl, ?_⟩) ?_ ?_
                              rotate_left
                              · intro w'
                                go_simp
                                with_reducible rfl
                              rotate_left
                              · simp only [Act.put, List.setIfInBounds_toArray, List.set_cons_zero, List.set_cons_succ, i64_w, i32_w]
                                rfl
                              refine one_ (i := 7) (N := some 18) #[true, true, true, true, true, true, true, true, false] rfl rfl (one_of HT_.out (by kernel_rfl)) (by decide) (fun K hK => ?_)
                              refine box_step ?hg (N := 18) ?hd (cs := #[.int .i64 0, .int .i64 0, .int .i64 0, .int .i64 0, .int .u64 0]) (t := 24) ?hr ?_; (case hd => rfl); (case hg => rfl); (case hr => first | (go_simp; done) | (go_simp; rfl))
                              intro gb186 hg w49 hbox hb
                              have n0_ := Aside0.mk (blk_below (g := gb167) (o := .cells #[.int .i64 1, .int .i64 (wrap64 (Int.tmod a0 3)), .int .i64 0, .int .i64 0, .int .u64 (Int.tmod (IntKind.u64.wrap (a1)) (ji8))] 24 (0, 0)) (by (with_reducible repeat (first | refine blk_drewN ?_ _ | refine blk_drew ?_ | refine blk_alloc ?_ _)); exact BK167.out) hb)
                              have n1_ := Aside0.mk (blk_below (g := gb177) (o := .cells #[.int .i64 t171, .int .i64 t172, .int .i64 t173, .int .i64 t174, .int .u64 t175] 24 (0, 0)) (by (with_reducible repeat (first | refine blk_drewN ?_ _ | refine blk_drew ?_ | refine blk_alloc ?_ _)); exact BK177.out) hb)
                              have n2_ := Aside0.mk (blk_below (g := gb185) (o := .cells #[.int .i64 t179, .int .i64 t180, .int .i64 t181, .int .i64 t182, .int .u64 t183] 24 (0, 0)) (by (with_reducible repeat (first | refine blk_drewN ?_ _ | refine blk_drew ?_ | refine blk_alloc ?_ _)); exact BK185.out) hb)
                              have n3_ := Aside0.mk (below_step (by repeat (first | (with_reducible first | exact HB.out | apply below_alloc | apply pw_below_drewN | apply below_drew1 | refine below_set ?_ GE167.out | refine below_set ?_ GE177.out | refine below_set ?_ GE185.out) | exact HB.out)) hb)
                              have n4_ := Aside0.mk (hbox)
                              have n5_ := Aside0.mk ((by rw [hg]; exact (below_size (by repeat (first | (with_reducible first | exact HB.out | apply below_alloc | apply pw_below_drewN | apply below_drew1 | refine below_set ?_ GE167.out | refine below_set ?_ GE177.out | refine below_set ?_ GE185.out) | exact HB.out))) : w.heap.size ≤ gb186))
                              have n6_ := Aside0.mk ((by rw [hg]; exact (below_size (by repeat (first | (with_reducible first | exact HB.out | apply below_alloc | apply pw_below_drewN | apply below_drew1 | refine below_set ?_ GE167.out | refine below_set ?_ GE177.out | refine below_set ?_ GE185.out) | exact HB.out))) : w.heap.size ≤ gb186))
                              have n7_ := Aside0.mk ((by rw [hg]; exact Nat.ne_of_lt (blk_lt (g := gb167) (o := .cells #[.int .i64 1, .int .i64 (wrap64 (Int.tmod a0 3)), .int .i64 0, .int .i64 0, .int .u64 (Int.tmod (IntKind.u64.wrap (a1)) (ji8))] 24 (0, 0)) (by (with_reducible repeat (first | refine blk_drewN ?_ _ | refine blk_drew ?_ | refine blk_alloc ?_ _)); exact BK167.out)) : gb167 ≠ gb186))
                              have n8_ := Aside0.mk ((by rw [hg]; exact Nat.ne_of_gt (blk_lt (g := gb167) (o := .cells #[.int .i64 1, .int .i64 (wrap64 (Int.tmod a0 3)), .int .i64 0, .int .i64 0, .int .u64 (Int.tmod (IntKind.u64.wrap (a1)) (ji8))] 24 (0, 0)) (by (with_reducible repeat (first | refine blk_drewN ?_ _ | refine blk_drew ?_ | refine blk_alloc ?_ _)); exact BK167.out)) : gb186 ≠ gb167))
                              have n9_ := Aside0.mk ((by rw [hg]; exact Nat.ne_of_lt (blk_lt (g := gb177) (o := .cells #[.int .i64 t171, .int .i64 t172, .int .i64 t173, .int .i64 t174, .int .u64 t175] 24 (0, 0)) (by (with_reducible repeat (first | refine blk_drewN ?_ _ | refine blk_drew ?_ | refine blk_alloc ?_ _)); exact BK177.out)) : gb177 ≠ gb186))
                              have n10_ := Aside0.mk ((by rw [hg]; exact Nat.ne_of_gt (blk_lt (g := gb177) (o := .cells #[.int .i64 t171, .int .i64 t172, .int .i64 t173, .int .i64 t174, .int .u64 t175] 24 (0, 0)) (by (with_reducible repeat (first | refine blk_drewN ?_ _ | refine blk_drew ?_ | refine blk_alloc ?_ _)); exact BK177.out)) : gb186 ≠ gb177))
                              have n11_ := Aside0.mk ((by rw [hg]; exact Nat.ne_of_lt (blk_lt (g := gb185) (o := .cells #[.int .i64 t179, .int .i64 t180, .int .i64 t181, .int .i64 t182, .int .u64 t183] 24 (0, 0)) (by (with_reducible repeat (first | refine blk_drewN ?_ _ | refine blk_drew ?_ | refine blk_alloc ?_ _)); exact BK185.out)) : gb185 ≠ gb186))
                              have n12_ := Aside0.mk ((by rw [hg]; exact Nat.ne_of_gt (blk_lt (g := gb185) (o := .cells #[.int .i64 t179, .int .i64 t180, .int .i64 t181, .int .i64 t182, .int .u64 t183] 24 (0, 0)) (by (with_reducible repeat (first | refine blk_drewN ?_ _ | refine blk_drew ?_ | refine blk_alloc ?_ _)); exact BK185.out)) : gb186 ≠ gb185))
                              clear BK167
                              clear BK177
                              clear BK185
                              clear HB
                              have BK167 := n0_
                              have BK177 := n1_
                              have BK185 := n2_
                              have HB := n3_
                              have BK186 := n4_
                              have GW186 := n5_
                              have GE186 := n6_
                              have NB167_186 := n7_
                              have NB186_167 := n8_
                              have NB177_186 := n9_
                              have NB186_177 := n10_
                              have NB185_186 := n11_
                              have NB186_185 := n12_
                              clear n0_ n1_ n2_ n3_ n4_ n5_ n6_ n7_ n8_ n9_ n10_ n11_ n12_
                              clear hb hbox hg
                              refine hK.out _ _ ⟨(blk_cell BK167.out 0).trans rfl, (blk_cell BK167.out 1).trans rfl, (blk_cell BK167.out 2).trans rfl, (blk_cell BK167.out 3).trans rfl, (blk_cell BK167.out 4).trans rfl⟩ (fun hHeld => ?_)
                              clear hK K
                              refine norm_ (a' := ?_) ?_ ?_
                              rotate_left
                              · show Act.put _ (some 18) _ = _
                                simp only [Act.put, List.setIfInBounds_toArray, List.set_cons_zero, List.set_cons_succ, i64_w, i32_w]
                                rfl
                              refine one_ (i := 8) (N := none) #[true, true, true, true, true, true, true, true, true] rfl rfl (one_of HT_.out (by kernel_rfl)) (by decide) (fun K hK => ?_)
                              have hs50 : w49.cell? ⟨gb186, 0, none⟩ = some (.int .i64 0) := (blk_cell BK186.out 0).trans rfl
                              have hfs50 := blk_frozen BK186.out 0
                              have hns50_0 := NB167_186.out
                              have hns50_1 := NB177_186.out
                              have hns50_2 := NB185_186.out
                              have hms50_0 := NB186_167.out
                              have hms50_1 := NB186_177.out
                              have hms50_2 := NB186_185.out
                              have hs51 : w49.cell? ⟨gb186, 1, none⟩ = some (.int .i64 0) := (blk_cell BK186.out 1).trans rfl
                              have hfs51 := blk_frozen BK186.out 1
                              have hns51_0 := NB167_186.out
                              have hns51_1 := NB177_186.out
                              have hns51_2 := NB185_186.out
                              have hms51_0 := NB186_167.out
                              have hms51_1 := NB186_177.out
                              have hms51_2 := NB186_185.out
                              have hs52 : w49.cell? ⟨gb186, 2, none⟩ = some (.int .i64 0) := (blk_cell BK186.out 2).trans rfl
                              have hfs52 := blk_frozen BK186.out 2
                              have hns52_0 := NB167_186.out
                              have hns52_1 := NB177_186.out
                              have hns52_2 := NB185_186.out
                              have hms52_0 := NB186_167.out
                              have hms52_1 := NB186_177.out
                              have hms52_2 := NB186_185.out
                              have hs53 : w49.cell? ⟨gb186, 3, none⟩ = some (.int .i64 0) := (blk_cell BK186.out 3).trans rfl
                              have hfs53 := blk_frozen BK186.out 3
                              have hns53_0 := NB167_186.out
                              have hns53_1 := NB177_186.out
                              have hns53_2 := NB185_186.out
                              have hms53_0 := NB186_167.out
                              have hms53_1 := NB186_177.out
                              have hms53_2 := NB186_185.out
                              have hs54 : w49.cell? ⟨gb186, 4, none⟩ = some (.int .u64 0) := (blk_cell BK186.out 4).trans rfl
                              have hfs54 := blk_frozen BK186.out 4
                              have hns54_0 := NB167_186.out
                              have hns54_1 := NB177_186.out
                              have hns54_2 := NB185_186.out
                              have hms54_0 := NB186_167.out
                              have hms54_1 := NB186_177.out
                              have hms54_2 := NB186_185.out
                              refine skip_ (w1 := ?_) (by rfl) rfl ?_ ?_
                              rotate_left
                              · go_simp
                                rfl
                              refine hK.out _ _ ⟨((cell_far (p := ⟨gb186, _, none⟩) NB167_186.out _).trans (((cell_far (p := ⟨gb186, _, none⟩) NB167_186.out _).trans (((cell_far (p := ⟨gb186, _, none⟩) NB167_186.out _).trans (((cell_far (p := ⟨gb186, _, none⟩) NB167_186.out _).trans (((cell_far (p := ⟨gb186, _, none⟩) NB167_186.out _).trans (hHeld.1)))))))))), ((cell_far (p := ⟨gb186, _, none⟩) NB167_186.out _).trans (((cell_far (p := ⟨gb186, _, none⟩) NB167_186.out _).trans (((cell_far (p := ⟨gb186, _, none⟩) NB167_186.out _).trans (((cell_far (p := ⟨gb186, _, none⟩) NB167_186.out _).trans (((cell_far (p := ⟨gb186, _, none⟩) NB167_186.out _).trans (hHeld.2.1)))))))))), ((cell_far (p := ⟨gb186, _, none⟩) NB167_186.out _).trans (((cell_far (p := ⟨gb186, _, none⟩) NB167_186.out _).trans (((cell_far (p := ⟨gb186, _, none⟩) NB167_186.out _).trans (((cell_far (p := ⟨gb186, _, none⟩) NB167_186.out _).trans (((cell_far (p := ⟨gb186, _, none⟩) NB167_186.out _).trans (hHeld.2.2.1)))))))))), ((cell_far (p := ⟨gb186, _, none⟩) NB167_186.out _).trans (((cell_far (p := ⟨gb186, _, none⟩) NB167_186.out _).trans (((cell_far (p := ⟨gb186, _, none⟩) NB167_186.out _).trans (((cell_far (p := ⟨gb186, _, none⟩) NB167_186.out _).trans (((cell_far (p := ⟨gb186, _, none⟩) NB167_186.out _).trans (hHeld.2.2.2.1)))))))))), ((cell_far (p := ⟨gb186, _, none⟩) NB167_186.out _).trans (((cell_far (p := ⟨gb186, _, none⟩) NB167_186.out _).trans (((cell_far (p := ⟨gb186, _, none⟩) NB167_186.out _).trans (((cell_far (p := ⟨gb186, _, none⟩) NB167_186.out _).trans (((cell_far (p := ⟨gb186, _, none⟩) NB167_186.out _).trans (hHeld.2.2.2.2))))))))))⟩ (fun hHeld => ?_)
                              clear hK K
                              refine done_ (done_of HT_.out (by kernel_rfl)) ?_
                              try go_wp2
                              have n0_ : Aside0 ((((((w49.setCell ⟨gb186, 0, none⟩ (.int .i64 1)).setCell ⟨gb186, 1, none⟩ (.int .i64 (wrap64 (Int.tmod a0 3)))).setCell ⟨gb186, 2, none⟩ (.int .i64 0)).setCell ⟨gb186, 3, none⟩ (.int .i64 0)).setCell ⟨gb186, 4, none⟩ (.int .u64 (Go.bits .or .u64 (Int.tmod (IntKind.u64.wrap (a1)) (ji8)) (ji34)))).heap[gb167]? = some (.cells #[.int .i64 1, .int .i64 (wrap64 (Int.tmod a0 3)), .int .i64 0, .int .i64 0, .int .u64 (Int.tmod (IntKind.u64.wrap (a1)) (ji8))] 24 (0, 0))) := ⟨by (with_reducible repeat (first | refine blk_drewN ?_ _ | refine blk_drew ?_ | refine blk_alloc ?_ _)); refine blk_far ?_ NB167_186.out _; (with_reducible repeat (first | refine blk_drewN ?_ _ | refine blk_drew ?_ | refine blk_alloc ?_ _)); refine blk_far ?_ NB167_186.out _; (with_reducible repeat (first | refine blk_drewN ?_ _ | refine blk_drew ?_ | refine blk_alloc ?_ _)); refine blk_far ?_ NB167_186.out _; (with_reducible repeat (first | refine blk_drewN ?_ _ | refine blk_drew ?_ | refine blk_alloc ?_ _)); refine blk_far ?_ NB167_186.out _; (with_reducible repeat (first | refine blk_drewN ?_ _ | refine blk_drew ?_ | refine blk_alloc ?_ _)); refine blk_far ?_ NB167_186.out _; (with_reducible repeat (first | refine blk_drewN ?_ _ | refine blk_drew ?_ | refine blk_alloc ?_ _)); exact BK167.out⟩
                              have n1_ : Aside0 ((((((w49.setCell ⟨gb186, 0, none⟩ (.int .i64 1)).setCell ⟨gb186, 1, none⟩ (.int .i64 (wrap64 (Int.tmod a0 3)))).setCell ⟨gb186, 2, none⟩ (.int .i64 0)).setCell ⟨gb186, 3, none⟩ (.int .i64 0)).setCell ⟨gb186, 4, none⟩ (.int .u64 (Go.bits .or .u64 (Int.tmod (IntKind.u64.wrap (a1)) (ji8)) (ji34)))).heap[gb177]? = some (.cells #[.int .i64 t171, .int .i64 t172, .int .i64 t173, .int .i64 t174, .int .u64 t175] 24 (0, 0))) := ⟨by (with_reducible repeat (first | refine blk_drewN ?_ _ | refine blk_drew ?_ | refine blk_alloc ?_ _)); refine blk_far ?_ NB177_186.out _; (with_reducible repeat (first | refine blk_drewN ?_ _ | refine blk_drew ?_ | refine blk_alloc ?_ _)); refine blk_far ?_ NB177_186.out _; (with_reducible repeat (first | refine blk_drewN ?_ _ | refine blk_drew ?_ | refine blk_alloc ?_ _)); refine blk_far ?_ NB177_186.out _; (with_reducible repeat (first | refine blk_drewN ?_ _ | refine blk_drew ?_ | refine blk_alloc ?_ _)); refine blk_far ?_ NB177_186.out _; (with_reducible repeat (first | refine blk_drewN ?_ _ | refine blk_drew ?_ | refine blk_alloc ?_ _)); refine blk_far ?_ NB177_186.out _; (with_reducible repeat (first | refine blk_drewN ?_ _ | refine blk_drew ?_ | refine blk_alloc ?_ _)); exact BK177.out⟩
                              have n2_ : Aside0 ((((((w49.setCell ⟨gb186, 0, none⟩ (.int .i64 1)).setCell ⟨gb186, 1, none⟩ (.int .i64 (wrap64 (Int.tmod a0 3)))).setCell ⟨gb186, 2, none⟩ (.int .i64 0)).setCell ⟨gb186, 3, none⟩ (.int .i64 0)).setCell ⟨gb186, 4, none⟩ (.int .u64 (Go.bits .or .u64 (Int.tmod (IntKind.u64.wrap (a1)) (ji8)) (ji34)))).heap[gb185]? = some (.cells #[.int .i64 t179, .int .i64 t180, .int .i64 t181, .int .i64 t182, .int .u64 t183] 24 (0, 0))) := ⟨by (with_reducible repeat (first | refine blk_drewN ?_ _ | refine blk_drew ?_ | refine blk_alloc ?_ _)); refine blk_far ?_ NB185_186.out _; (with_reducible repeat (first | refine blk_drewN ?_ _ | refine blk_drew ?_ | refine blk_alloc ?_ _)); refine blk_far ?_ NB185_186.out _; (with_reducible repeat (first | refine blk_drewN ?_ _ | refine blk_drew ?_ | refine blk_alloc ?_ _)); refine blk_far ?_ NB185_186.out _; (with_reducible repeat (first | refine blk_drewN ?_ _ | refine blk_drew ?_ | refine blk_alloc ?_ _)); refine blk_far ?_ NB185_186.out _; (with_reducible repeat (first | refine blk_drewN ?_ _ | refine blk_drew ?_ | refine blk_alloc ?_ _)); refine blk_far ?_ NB185_186.out _; (with_reducible repeat (first | refine blk_drewN ?_ _ | refine blk_drew ?_ | refine blk_alloc ?_ _)); exact BK185.out⟩
                              have n3_ : Aside0 ((((((w49.setCell ⟨gb186, 0, none⟩ (.int .i64 1)).setCell ⟨gb186, 1, none⟩ (.int .i64 (wrap64 (Int.tmod a0 3)))).setCell ⟨gb186, 2, none⟩ (.int .i64 0)).setCell ⟨gb186, 3, none⟩ (.int .i64 0)).setCell ⟨gb186, 4, none⟩ (.int .u64 (Go.bits .or .u64 (Int.tmod (IntKind.u64.wrap (a1)) (ji8)) (ji34)))).heap[gb186]? = some (.cells #[.int .i64 1, .int .i64 (wrap64 (Int.tmod a0 3)), .int .i64 0, .int .i64 0, .int .u64 (Go.bits .or .u64 (Int.tmod (IntKind.u64.wrap (a1)) (ji8)) (ji34))] 24 (0, 0))) := ⟨by (with_reducible repeat (first | refine blk_drewN ?_ _ | refine blk_drew ?_ | refine blk_alloc ?_ _)); refine blk_put (cs := #[.int .i64 1, .int .i64 (wrap64 (Int.tmod a0 3)), .int .i64 0, .int .i64 0, .int .u64 0]) ?_ 4 _ rfl; (with_reducible repeat (first | refine blk_drewN ?_ _ | refine blk_drew ?_ | refine blk_alloc ?_ _)); refine blk_put (cs := #[.int .i64 1, .int .i64 (wrap64 (Int.tmod a0 3)), .int .i64 0, .int .i64 0, .int .u64 0]) ?_ 3 _ rfl; (with_reducible repeat (first | refine blk_drewN ?_ _ | refine blk_drew ?_ | refine blk_alloc ?_ _)); refine blk_put (cs := #[.int .i64 1, .int .i64 (wrap64 (Int.tmod a0 3)), .int .i64 0, .int .i64 0, .int .u64 0]) ?_ 2 _ rfl; (with_reducible repeat (first | refine blk_drewN ?_ _ | refine blk_drew ?_ | refine blk_alloc ?_ _)); refine blk_put (cs := #[.int .i64 1, .int .i64 0, .int .i64 0, .int .i64 0, .int .u64 0]) ?_ 1 _ rfl; (with_reducible repeat (first | refine blk_drewN ?_ _ | refine blk_drew ?_ | refine blk_alloc ?_ _)); refine blk_put (cs := #[.int .i64 0, .int .i64 0, .int .i64 0, .int .i64 0, .int .u64 0]) ?_ 0 _ rfl; (with_reducible repeat (first | refine blk_drewN ?_ _ | refine blk_drew ?_ | refine blk_alloc ?_ _)); exact BK186.out⟩
                              have n4_ : Aside0 (Below w.heap.size w (((((w49.setCell ⟨gb186, 0, none⟩ (.int .i64 1)).setCell ⟨gb186, 1, none⟩ (.int .i64 (wrap64 (Int.tmod a0 3)))).setCell ⟨gb186, 2, none⟩ (.int .i64 0)).setCell ⟨gb186, 3, none⟩ (.int .i64 0)).setCell ⟨gb186, 4, none⟩ (.int .u64 (Go.bits .or .u64 (Int.tmod (IntKind.u64.wrap (a1)) (ji8)) (ji34))))) := ⟨by repeat (first | (with_reducible first | exact HB.out | apply below_alloc | apply pw_below_drewN | apply below_drew1 | refine below_set ?_ GE167.out | refine below_set ?_ GE177.out | refine below_set ?_ GE185.out | refine below_set ?_ GE186.out) | exact HB.out)⟩
                              (try clear BK167)
                              (try clear BK177)
                              (try clear BK185)
                              (try clear BK186)
                              (try clear HB)
                              generalize (((((w49.setCell ⟨gb186, 0, none⟩ (.int .i64 1)).setCell ⟨gb186, 1, none⟩ (.int .i64 (wrap64 (Int.tmod a0 3)))).setCell ⟨gb186, 2, none⟩ (.int .i64 0)).setCell ⟨gb186, 3, none⟩ (.int .i64 0)).setCell ⟨gb186, 4, none⟩ (.int .u64 (Go.bits .or .u64 (Int.tmod (IntKind.u64.wrap (a1)) (ji8)) (ji34)))) = w55 at n0_ n1_ n2_ n3_ n4_ ⊢
                              have BK167 := n0_
                              have BK177 := n1_
                              have BK185 := n2_
                              have BK186 := n3_
                              have HB := n4_
                              clear n0_ n1_ n2_ n3_ n4_
                              have n0_ := Aside0.mk (blk_drew BK167.out)
                              have n1_ := Aside0.mk (blk_drew BK177.out)
                              have n2_ := Aside0.mk (blk_drew BK185.out)
                              have n3_ := Aside0.mk (blk_drew BK186.out)
                              have n4_ := Aside0.mk (below_drew1 HB.out)
                              clear BK167
                              clear BK177
                              clear BK185
                              clear BK186
                              clear HB
                              have BK167 := n0_
                              have BK177 := n1_
                              have BK185 := n2_
                              have BK186 := n3_
                              have HB := n4_
                              clear n0_ n1_ n2_ n3_ n4_
                              refine start_ (n := 9) (S := fun w' => w'.cell? ⟨gb167, 0, none⟩ = some (.int .i64 1) ∧ w'.cell? ⟨gb167, 1, none⟩ = some (.int .i64 (wrap64 (Int.tmod a0 3))) ∧ w'.cell? ⟨gb167, 2, none⟩ = some (.int .i64 0) ∧ w'.cell? ⟨gb167, 3, none⟩ = some (.int .i64 0) ∧ w'.cell? ⟨gb167, 4, none⟩ = some (.int .u64 (Int.tmod (IntKind.u64.wrap (a1)) (ji8)))) (ds := []) #[false, false, false, false, false, false, false, false, false] (by kernel_rfl) rfl rfl ⟨(blk_cell BK167.out 0).trans rfl, (blk_cell BK167.out 1).trans rfl, (blk_cell BK167.out 2).trans rfl, (blk_cell BK167.out 3).trans rfl, (blk_cell BK167.out 4).trans rfl⟩ (fun hHeld => ?_); refine with_tabW lockfastlaw10_ChunkLives.tab12 lockfastlaw10_ChunkLives.bits12 (fun HT_ HW_ => ?_)
                              generalize w55.drew = w56 at BK167 BK177 BK185 BK186 HB hHeld ⊢
                              refine pure_ (i := 0) (N := some 75) (v := ?_) (a' := ?_) #[true, false, false, false, false, false, false, false, false] rfl rfl (any_of HT_.out (by kernel_rfl)) (fun _ _ _ h => h) (Or.inl ⟨by rfl, ?_⟩) ?_ ?_
                              rotate_left
                              · intro w'
                                go_simp
                                with_reducible rfl
                              rotate_left
                              · simp only [Act.put, List.setIfInBounds_toArray, List.set_cons_zero, List.set_cons_succ, i64_w, i32_w]
                                rfl
                              refine pure_ (i := 1) (N := some 76) (v := ?_) (a' := ?_) #[true, true, false, false, false, false, false, false, false] rfl rfl (any_of HT_.out (by kernel_rfl)) (fun _ _ _ h => h) (Or.inl ⟨by rfl, ?_⟩) ?_ ?_
                              rotate_left
                              · intro w'
                                go_simp
                                with_reducible rfl
                              rotate_left
                              · simp only [Act.put, List.setIfInBounds_toArray, List.set_cons_zero, List.set_cons_succ, i64_w, i32_w]
                                rfl
                              refine pure_ (i := 3) (N := some 78) (v := ?_) (a' := ?_) #[true, true, false, true, false, false, false, false, false] rfl rfl (any_of HT_.out (by kernel_rfl)) (fun _ _ _ h => h) (Or.inl ⟨by rfl, ?_⟩) ?_ ?_
                              rotate_left
                              · intro w'
                                go_simp
                                with_reducible rfl
                              rotate_left
                              · simp only [Act.put, List.setIfInBounds_toArray, List.set_cons_zero, List.set_cons_succ, i64_w, i32_w]
                                rfl
                              refine pure_ (i := 4) (N := some 79) (v := ?_) (a' := ?_) #[true, true, false, true, true, false, false, false, false] rfl rfl (any_of HT_.out (by kernel_rfl)) (fun _ _ _ h => h) (Or.inl ⟨by rfl, ?_⟩) ?_ ?_
                              rotate_left
                              · intro w'
                                go_simp
                                with_reducible rfl
                              rotate_left
                              · simp only [Act.put, List.setIfInBounds_toArray, List.set_cons_zero, List.set_cons_succ, i64_w, i32_w]
                                rfl
                              refine take_ (i := 2) (N := some 77) (v := ?_) (a' := ?_) #[true, true, true, true, true, false, false, false, false] rfl rfl (take_ofW HT_.out HW_.out (by kernel_rfl)) (fun _ _ _ h => h) (Or.inl ⟨by rfl, ?_⟩) hHeld ?_ ?_
                              rotate_left
                              · rintro w' ⟨s0, s1, s2, s3, s4⟩
                                go_simp
                                with_reducible rfl
                              rotate_left
                              · simp only [Act.put, List.setIfInBounds_toArray, List.set_cons_zero, List.set_cons_succ, i64_w, i32_w]
                                rfl
                              refine pure_ (i := 5) (N := some 80) (v := ?_) (a' := ?_) #[true, true, true, true, true, true, false, false, false] rfl rfl (any_of HT_.out (by kernel_rfl)) (fun _ _ _ h => h) (Or.inl ⟨by rfl, ?_⟩) ?_ ?_
                              rotate_left
                              · intro w'
                                go_simp
                                with_reducible rfl
                              rotate_left
                              · simp only [Act.put, List.setIfInBounds_toArray, List.set_cons_zero, List.set_cons_succ, i64_w, i32_w]
                                rfl
                              refine pure_ (i := 6) (N := some 81) (v := ?_) (a' := ?_) #[true, true, true, true, true, true, true, false, false] rfl rfl (any_of HT_.out (by kernel_rfl)) (fun _ _ _ h => h) (Or.inl ⟨by rfl, ?_⟩) ?_ ?_
                              rotate_left
                              · intro w'
                                go_simp
                                with_reducible rfl
                              rotate_left
                              · simp only [Act.put, List.setIfInBounds_toArray, List.set_cons_zero, List.set_cons_succ, i64_w, i32_w]
                                rfl
                              refine one_ (i := 7) (N := some 19) #[true, true, true, true, true, true, true, true, false] rfl rfl (one_of HT_.out (by kernel_rfl)) (by decide) (fun K hK => ?_)
                              refine box_step ?hg (N := 19) ?hd (cs := #[.int .i64 0, .int .i64 0, .int .i64 0, .int .i64 0, .int .u64 0]) (t := 24) ?hr ?_; (case hd => rfl); (case hg => rfl); (case hr => first | (go_simp; done) | (go_simp; rfl))
                              intro gb187 hg w57 hbox hb
                              have n0_ := Aside0.mk (blk_below (g := gb167) (o := .cells #[.int .i64 1, .int .i64 (wrap64 (Int.tmod a0 3)), .int .i64 0, .int .i64 0, .int .u64 (Int.tmod (IntKind.u64.wrap (a1)) (ji8))] 24 (0, 0)) (by (with_reducible repeat (first | refine blk_drewN ?_ _ | refine blk_drew ?_ | refine blk_alloc ?_ _)); exact BK167.out) hb)
                              have n1_ := Aside0.mk (blk_below (g := gb177) (o := .cells #[.int .i64 t171, .int .i64 t172, .int .i64 t173, .int .i64 t174, .int .u64 t175] 24 (0, 0)) (by (with_reducible repeat (first | refine blk_drewN ?_ _ | refine blk_drew ?_ | refine blk_alloc ?_ _)); exact BK177.out) hb)
                              have n2_ := Aside0.mk (blk_below (g := gb185) (o := .cells #[.int .i64 t179, .int .i64 t180, .int .i64 t181, .int .i64 t182, .int .u64 t183] 24 (0, 0)) (by (with_reducible repeat (first | refine blk_drewN ?_ _ | refine blk_drew ?_ | refine blk_alloc ?_ _)); exact BK185.out) hb)
                              have n3_ := Aside0.mk (blk_below (g := gb186) (o := .cells #[.int .i64 1, .int .i64 (wrap64 (Int.tmod a0 3)), .int .i64 0, .int .i64 0, .int .u64 (Go.bits .or .u64 (Int.tmod (IntKind.u64.wrap (a1)) (ji8)) (ji34))] 24 (0, 0)) (by (with_reducible repeat (first | refine blk_drewN ?_ _ | refine blk_drew ?_ | refine blk_alloc ?_ _)); exact BK186.out) hb)
                              have n4_ := Aside0.mk (below_step (by repeat (first | (with_reducible first | exact HB.out | apply below_alloc | apply pw_below_drewN | apply below_drew1 | refine below_set ?_ GE167.out | refine below_set ?_ GE177.out | refine below_set ?_ GE185.out | refine below_set ?_ GE186.out) | exact HB.out)) hb)
                              have n5_ := Aside0.mk (hbox)
                              have n6_ := Aside0.mk ((by rw [hg]; exact (below_size (by repeat (first | (with_reducible first | exact HB.out | apply below_alloc | apply pw_below_drewN | apply below_drew1 | refine below_set ?_ GE167.out | refine below_set ?_ GE177.out | refine below_set ?_ GE185.out | refine below_set ?_ GE186.out) | exact HB.out))) : w.heap.size ≤ gb187))
                              have n7_ := Aside0.mk ((by rw [hg]; exact (below_size (by repeat (first | (with_reducible first | exact HB.out | apply below_alloc | apply pw_below_drewN | apply below_drew1 | refine below_set ?_ GE167.out | refine below_set ?_ GE177.out | refine below_set ?_ GE185.out | refine below_set ?_ GE186.out) | exact HB.out))) : w.heap.size ≤ gb187))
                              have n8_ := Aside0.mk ((by rw [hg]; exact Nat.ne_of_lt (blk_lt (g := gb167) (o := .cells #[.int .i64 1, .int .i64 (wrap64 (Int.tmod a0 3)), .int .i64 0, .int .i64 0, .int .u64 (Int.tmod (IntKind.u64.wrap (a1)) (ji8))] 24 (0, 0)) (by (with_reducible repeat (first | refine blk_drewN ?_ _ | refine blk_drew ?_ | refine blk_alloc ?_ _)); exact BK167.out)) : gb167 ≠ gb187))
                              have n9_ := Aside0.mk ((by rw [hg]; exact Nat.ne_of_gt (blk_lt (g := gb167) (o := .cells #[.int .i64 1, .int .i64 (wrap64 (Int.tmod a0 3)), .int .i64 0, .int .i64 0, .int .u64 (Int.tmod (IntKind.u64.wrap (a1)) (ji8))] 24 (0, 0)) (by (with_reducible repeat (first | refine blk_drewN ?_ _ | refine blk_drew ?_ | refine blk_alloc ?_ _)); exact BK167.out)) : gb187 ≠ gb167))
                              have n10_ := Aside0.mk ((by rw [hg]; exact Nat.ne_of_lt (blk_lt (g := gb177) (o := .cells #[.int .i64 t171, .int .i64 t172, .int .i64 t173, .int .i64 t174, .int .u64 t175] 24 (0, 0)) (by (with_reducible repeat (first | refine blk_drewN ?_ _ | refine blk_drew ?_ | refine blk_alloc ?_ _)); exact BK177.out)) : gb177 ≠ gb187))
                              have n11_ := Aside0.mk ((by rw [hg]; exact Nat.ne_of_gt (blk_lt (g := gb177) (o := .cells #[.int .i64 t171, .int .i64 t172, .int .i64 t173, .int .i64 t174, .int .u64 t175] 24 (0, 0)) (by (with_reducible repeat (first | refine blk_drewN ?_ _ | refine blk_drew ?_ | refine blk_alloc ?_ _)); exact BK177.out)) : gb187 ≠ gb177))
                              have n12_ := Aside0.mk ((by rw [hg]; exact Nat.ne_of_lt (blk_lt (g := gb185) (o := .cells #[.int .i64 t179, .int .i64 t180, .int .i64 t181, .int .i64 t182, .int .u64 t183] 24 (0, 0)) (by (with_reducible repeat (first | refine blk_drewN ?_ _ | refine blk_drew ?_ | refine blk_alloc ?_ _)); exact BK185.out)) : gb185 ≠ gb187))
                              have n13_ := Aside0.mk ((by rw [hg]; exact Nat.ne_of_gt (blk_lt (g := gb185) (o := .cells #[.int .i64 t179, .int .i64 t180, .int .i64 t181, .int .i64 t182, .int .u64 t183] 24 (0, 0)) (by (with_reducible repeat (first | refine blk_drewN ?_ _ | refine blk_drew ?_ | refine blk_alloc ?_ _)); exact BK185.out)) : gb187 ≠ gb185))
                              have n14_ := Aside0.mk ((by rw [hg]; exact Nat.ne_of_lt (blk_lt (g := gb186) (o := .cells #[.int .i64 1, .int .i64 (wrap64 (Int.tmod a0 3)), .int .i64 0, .int .i64 0, .int .u64 (Go.bits .or .u64 (Int.tmod (IntKind.u64.wrap (a1)) (ji8)) (ji34))] 24 (0, 0)) (by (with_reducible repeat (first | refine blk_drewN ?_ _ | refine blk_drew ?_ | refine blk_alloc ?_ _)); exact BK186.out)) : gb186 ≠ gb187))
                              have n15_ := Aside0.mk ((by rw [hg]; exact Nat.ne_of_gt (blk_lt (g := gb186) (o := .cells #[.int .i64 1, .int .i64 (wrap64 (Int.tmod a0 3)), .int .i64 0, .int .i64 0, .int .u64 (Go.bits .or .u64 (Int.tmod (IntKind.u64.wrap (a1)) (ji8)) (ji34))] 24 (0, 0)) (by (with_reducible repeat (first | refine blk_drewN ?_ _ | refine blk_drew ?_ | refine blk_alloc ?_ _)); exact BK186.out)) : gb187 ≠ gb186))
                              clear BK167
                              clear BK177
                              clear BK185
                              clear BK186
                              clear HB
                              have BK167 := n0_
                              have BK177 := n1_
                              have BK185 := n2_
                              have BK186 := n3_
                              have HB := n4_
                              have BK187 := n5_
                              have GW187 := n6_
                              have GE187 := n7_
                              have NB167_187 := n8_
                              have NB187_167 := n9_
                              have NB177_187 := n10_
                              have NB187_177 := n11_
                              have NB185_187 := n12_
                              have NB187_185 := n13_
                              have NB186_187 := n14_
                              have NB187_186 := n15_
                              clear n0_ n1_ n2_ n3_ n4_ n5_ n6_ n7_ n8_ n9_ n10_ n11_ n12_ n13_ n14_ n15_
                              clear hb hbox hg
                              refine hK.out _ _ ⟨(blk_cell BK167.out 0).trans rfl, (blk_cell BK167.out 1).trans rfl, (blk_cell BK167.out 2).trans rfl, (blk_cell BK167.out 3).trans rfl, (blk_cell BK167.out 4).trans rfl⟩ (fun hHeld => ?_)
                              clear hK K
                              refine norm_ (a' := ?_) ?_ ?_
                              rotate_left
                              · show Act.put _ (some 19) _ = _
                                simp only [Act.put, List.setIfInBounds_toArray, List.set_cons_zero, List.set_cons_succ, i64_w, i32_w]
                                rfl
                              refine one_ (i := 8) (N := none) #[true, true, true, true, true, true, true, true, true] rfl rfl (one_of HT_.out (by kernel_rfl)) (by decide) (fun K hK => ?_)
                              have hs58 : w57.cell? ⟨gb187, 0, none⟩ = some (.int .i64 0) := (blk_cell BK187.out 0).trans rfl
                              have hfs58 := blk_frozen BK187.out 0
                              have hns58_0 := NB167_187.out
                              have hns58_1 := NB177_187.out
                              have hns58_2 := NB185_187.out
                              have hns58_3 := NB186_187.out
                              have hms58_0 := NB187_167.out
                              have hms58_1 := NB187_177.out
                              have hms58_2 := NB187_185.out
                              have hms58_3 := NB187_186.out
                              have hs59 : w57.cell? ⟨gb187, 1, none⟩ = some (.int .i64 0) := (blk_cell BK187.out 1).trans rfl
                              have hfs59 := blk_frozen BK187.out 1
                              have hns59_0 := NB167_187.out
                              have hns59_1 := NB177_187.out
                              have hns59_2 := NB185_187.out
                              have hns59_3 := NB186_187.out
                              have hms59_0 := NB187_167.out
                              have hms59_1 := NB187_177.out
                              have hms59_2 := NB187_185.out
                              have hms59_3 := NB187_186.out
                              have hs60 : w57.cell? ⟨gb187, 2, none⟩ = some (.int .i64 0) := (blk_cell BK187.out 2).trans rfl
                              have hfs60 := blk_frozen BK187.out 2
                              have hns60_0 := NB167_187.out
                              have hns60_1 := NB177_187.out
                              have hns60_2 := NB185_187.out
                              have hns60_3 := NB186_187.out
                              have hms60_0 := NB187_167.out
                              have hms60_1 := NB187_177.out
                              have hms60_2 := NB187_185.out
                              have hms60_3 := NB187_186.out
                              have hs61 : w57.cell? ⟨gb187, 3, none⟩ = some (.int .i64 0) := (blk_cell BK187.out 3).trans rfl
                              have hfs61 := blk_frozen BK187.out 3
                              have hns61_0 := NB167_187.out
                              have hns61_1 := NB177_187.out
                              have hns61_2 := NB185_187.out
                              have hns61_3 := NB186_187.out
                              have hms61_0 := NB187_167.out
                              have hms61_1 := NB187_177.out
                              have hms61_2 := NB187_185.out
                              have hms61_3 := NB187_186.out
                              have hs62 : w57.cell? ⟨gb187, 4, none⟩ = some (.int .u64 0) := (blk_cell BK187.out 4).trans rfl
                              have hfs62 := blk_frozen BK187.out 4
                              have hns62_0 := NB167_187.out
                              have hns62_1 := NB177_187.out
                              have hns62_2 := NB185_187.out
                              have hns62_3 := NB186_187.out
                              have hms62_0 := NB187_167.out
                              have hms62_1 := NB187_177.out
                              have hms62_2 := NB187_185.out
                              have hms62_3 := NB187_186.out
                              refine skip_ (w1 := ?_) (by rfl) rfl ?_ ?_
                              rotate_left
                              · go_simp
                                rfl
                              refine hK.out _ _ ⟨((cell_far (p := ⟨gb187, _, none⟩) NB167_187.out _).trans (((cell_far (p := ⟨gb187, _, none⟩) NB167_187.out _).trans (((cell_far (p := ⟨gb187, _, none⟩) NB167_187.out _).trans (((cell_far (p := ⟨gb187, _, none⟩) NB167_187.out _).trans (((cell_far (p := ⟨gb187, _, none⟩) NB167_187.out _).trans (hHeld.1)))))))))), ((cell_far (p := ⟨gb187, _, none⟩) NB167_187.out _).trans (((cell_far (p := ⟨gb187, _, none⟩) NB167_187.out _).trans (((cell_far (p := ⟨gb187, _, none⟩) NB167_187.out _).trans (((cell_far (p := ⟨gb187, _, none⟩) NB167_187.out _).trans (((cell_far (p := ⟨gb187, _, none⟩) NB167_187.out _).trans (hHeld.2.1)))))))))), ((cell_far (p := ⟨gb187, _, none⟩) NB167_187.out _).trans (((cell_far (p := ⟨gb187, _, none⟩) NB167_187.out _).trans (((cell_far (p := ⟨gb187, _, none⟩) NB167_187.out _).trans (((cell_far (p := ⟨gb187, _, none⟩) NB167_187.out _).trans (((cell_far (p := ⟨gb187, _, none⟩) NB167_187.out _).trans (hHeld.2.2.1)))))))))), ((cell_far (p := ⟨gb187, _, none⟩) NB167_187.out _).trans (((cell_far (p := ⟨gb187, _, none⟩) NB167_187.out _).trans (((cell_far (p := ⟨gb187, _, none⟩) NB167_187.out _).trans (((cell_far (p := ⟨gb187, _, none⟩) NB167_187.out _).trans (((cell_far (p := ⟨gb187, _, none⟩) NB167_187.out _).trans (hHeld.2.2.2.1)))))))))), ((cell_far (p := ⟨gb187, _, none⟩) NB167_187.out _).trans (((cell_far (p := ⟨gb187, _, none⟩) NB167_187.out _).trans (((cell_far (p := ⟨gb187, _, none⟩) NB167_187.out _).trans (((cell_far (p := ⟨gb187, _, none⟩) NB167_187.out _).trans (((cell_far (p := ⟨gb187, _, none⟩) NB167_187.out _).trans (hHeld.2.2.2.2))))))))))⟩ (fun hHeld => ?_)
                              clear hK K
                              refine done_ (done_of HT_.out (by kernel_rfl)) ?_
                              have hnb63 := NB177_167.out
                              have hnc63 := NB167_177.out
                              have hnb64 := NB177_185.out
                              have hnc64 := NB185_177.out
                              have hnb65 := NB177_186.out
                              have hnc65 := NB186_177.out
                              have hnb66 := NB177_187.out
                              have hnc66 := NB187_177.out
                              have hcz67_0 : w57.cell? ⟨gb177, 0, none⟩ = some (.int .i64 t171) := (blk_cell BK177.out 0).trans rfl
                              have hcz67_1 : w57.cell? ⟨gb177, 1, none⟩ = some (.int .i64 t172) := (blk_cell BK177.out 1).trans rfl
                              have hcz67_2 : w57.cell? ⟨gb177, 2, none⟩ = some (.int .i64 t173) := (blk_cell BK177.out 2).trans rfl
                              have hcz67_3 : w57.cell? ⟨gb177, 3, none⟩ = some (.int .i64 t174) := (blk_cell BK177.out 3).trans rfl
                              have hcz67_4 : w57.cell? ⟨gb177, 4, none⟩ = some (.int .u64 t175) := (blk_cell BK177.out 4).trans rfl
                              have hfz67_0 := blk_frozen BK177.out 0
                              have hfz67_1 := blk_frozen BK177.out 1
                              have hfz67_2 := blk_frozen BK177.out 2
                              have hfz67_3 := blk_frozen BK177.out 3
                              have hfz67_4 := blk_frozen BK177.out 4
                              have hnb68 := NB186_167.out
                              have hnc68 := NB167_186.out
                              have hnb69 := NB186_185.out
                              have hnc69 := NB185_186.out
                              have hnb70 := NB186_187.out
                              have hnc70 := NB187_186.out
                              have hcz71_0 : w57.cell? ⟨gb186, 0, none⟩ = some (.int .i64 1) := (blk_cell BK186.out 0).trans rfl
                              have hcz71_1 : w57.cell? ⟨gb186, 1, none⟩ = some (.int .i64 (wrap64 (Int.tmod a0 3))) := (blk_cell BK186.out 1).trans rfl
                              have hcz71_2 : w57.cell? ⟨gb186, 2, none⟩ = some (.int .i64 0) := (blk_cell BK186.out 2).trans rfl
                              have hcz71_3 : w57.cell? ⟨gb186, 3, none⟩ = some (.int .i64 0) := (blk_cell BK186.out 3).trans rfl
                              have hcz71_4 : w57.cell? ⟨gb186, 4, none⟩ = some (.int .u64 (Go.bits .or .u64 (Int.tmod (IntKind.u64.wrap (a1)) (ji8)) (ji34))) := (blk_cell BK186.out 4).trans rfl
                              have hfz71_0 := blk_frozen BK186.out 0
                              have hfz71_1 := blk_frozen BK186.out 1
                              have hfz71_2 := blk_frozen BK186.out 2
                              have hfz71_3 := blk_frozen BK186.out 3
                              have hfz71_4 := blk_frozen BK186.out 4
                              have hnb72 := NB185_167.out
                              have hnc72 := NB167_185.out
                              have hnb73 := NB185_187.out
                              have hnc73 := NB187_185.out
                              have hcz74_0 : w57.cell? ⟨gb185, 0, none⟩ = some (.int .i64 t179) := (blk_cell BK185.out 0).trans rfl
                              have hcz74_1 : w57.cell? ⟨gb185, 1, none⟩ = some (.int .i64 t180) := (blk_cell BK185.out 1).trans rfl
                              have hcz74_2 : w57.cell? ⟨gb185, 2, none⟩ = some (.int .i64 t181) := (blk_cell BK185.out 2).trans rfl
                              have hcz74_3 : w57.cell? ⟨gb185, 3, none⟩ = some (.int .i64 t182) := (blk_cell BK185.out 3).trans rfl
                              have hcz74_4 : w57.cell? ⟨gb185, 4, none⟩ = some (.int .u64 t183) := (blk_cell BK185.out 4).trans rfl
                              have hfz74_0 := blk_frozen BK185.out 0
                              have hfz74_1 := blk_frozen BK185.out 1
                              have hfz74_2 := blk_frozen BK185.out 2
                              have hfz74_3 := blk_frozen BK185.out 3
                              have hfz74_4 := blk_frozen BK185.out 4
                              have hnb75 := NB187_167.out
                              have hnc75 := NB167_187.out
                              have hcz76_0 : w57.cell? ⟨gb187, 0, none⟩ = some (.int .i64 0) := (blk_cell BK187.out 0).trans rfl
                              have hcz76_1 : w57.cell? ⟨gb187, 1, none⟩ = some (.int .i64 0) := (blk_cell BK187.out 1).trans rfl
                              have hcz76_2 : w57.cell? ⟨gb187, 2, none⟩ = some (.int .i64 0) := (blk_cell BK187.out 2).trans rfl
                              have hcz76_3 : w57.cell? ⟨gb187, 3, none⟩ = some (.int .i64 0) := (blk_cell BK187.out 3).trans rfl
                              have hcz76_4 : w57.cell? ⟨gb187, 4, none⟩ = some (.int .u64 0) := (blk_cell BK187.out 4).trans rfl
                              have hfz76_0 := blk_frozen BK187.out 0
                              have hfz76_1 := blk_frozen BK187.out 1
                              have hfz76_2 := blk_frozen BK187.out 2
                              have hfz76_3 := blk_frozen BK187.out 3
                              have hfz76_4 := blk_frozen BK187.out 4
                              try go_wp2_with (first | (go_at_call 21; (with_reducible refine (chunk_Room.calls t179 t180 t181 t182 t183 t188 _ (by first | ((repeat (first | (with_reducible exact HG) | apply GL_drewN | apply GL_drew)); done) | exact GL_below HG (by repeat (first | (with_reducible first | exact HB.out | apply below_alloc | apply pw_below_drewN | apply below_drew1) | exact HB.out | refine below_set ?_ (Aside0.out (by assumption))))) A40.out).mono ?_); rintro e w77 ⟨rfl, hb⟩; have n0_ := Aside0.mk (blk_below (g := gb167) (o := .cells #[.int .i64 1, .int .i64 (wrap64 (Int.tmod a0 3)), .int .i64 0, .int .i64 0, .int .u64 (Int.tmod (IntKind.u64.wrap (a1)) (ji8))] 24 (0, 0)) (by (with_reducible repeat (first | refine blk_drewN ?_ _ | refine blk_drew ?_ | refine blk_alloc ?_ _)); refine blk_far ?_ NB167_187.out _; (with_reducible repeat (first | refine blk_drewN ?_ _ | refine blk_drew ?_ | refine blk_alloc ?_ _)); refine blk_far ?_ NB167_187.out _; (with_reducible repeat (first | refine blk_drewN ?_ _ | refine blk_drew ?_ | refine blk_alloc ?_ _)); refine blk_far ?_ NB167_187.out _; (with_reducible repeat (first | refine blk_drewN ?_ _ | refine blk_drew ?_ | refine blk_alloc ?_ _)); refine blk_far ?_ NB167_187.out _; (with_reducible repeat (first | refine blk_drewN ?_ _ | refine blk_drew ?_ | refine blk_alloc ?_ _)); refine blk_far ?_ NB167_187.out _; (with_reducible repeat (first | refine blk_drewN ?_ _ | refine blk_drew ?_ | refine blk_alloc ?_ _)); exact BK167.out) hb); have n1_ := Aside0.mk (blk_below (g := gb177) (o := .cells #[.int .i64 t171, .int .i64 t172, .int .i64 t173, .int .i64 t174, .int .u64 t175] 24 (0, 0)) (by (with_reducible repeat (first | refine blk_drewN ?_ _ | refine blk_drew ?_ | refine blk_alloc ?_ _)); refine blk_far ?_ NB177_187.out _; (with_reducible repeat (first | refine blk_drewN ?_ _ | refine blk_drew ?_ | refine blk_alloc ?_ _)); refine blk_far ?_ NB177_187.out _; (with_reducible repeat (first | refine blk_drewN ?_ _ | refine blk_drew ?_ | refine blk_alloc ?_ _)); refine blk_far ?_ NB177_187.out _; (with_reducible repeat (first | refine blk_drewN ?_ _ | refine blk_drew ?_ | refine blk_alloc ?_ _)); refine blk_far ?_ NB177_187.out _; (with_reducible repeat (first | refine blk_drewN ?_ _ | refine blk_drew ?_ | refine blk_alloc ?_ _)); refine blk_far ?_ NB177_187.out _; (with_reducible repeat (first | refine blk_drewN ?_ _ | refine blk_drew ?_ | refine blk_alloc ?_ _)); exact BK177.out) hb); have n2_ := Aside0.mk (blk_below (g := gb185) (o := .cells #[.int .i64 t179, .int .i64 t180, .int .i64 t181, .int .i64 t182, .int .u64 t183] 24 (0, 0)) (by (with_reducible repeat (first | refine blk_drewN ?_ _ | refine blk_drew ?_ | refine blk_alloc ?_ _)); refine blk_far ?_ NB185_187.out _; (with_reducible repeat (first | refine blk_drewN ?_ _ | refine blk_drew ?_ | refine blk_alloc ?_ _)); refine blk_far ?_ NB185_187.out _; (with_reducible repeat (first | refine blk_drewN ?_ _ | refine blk_drew ?_ | refine blk_alloc ?_ _)); refine blk_far ?_ NB185_187.out _; (with_reducible repeat (first | refine blk_drewN ?_ _ | refine blk_drew ?_ | refine blk_alloc ?_ _)); refine blk_far ?_ NB185_187.out _; (with_reducible repeat (first | refine blk_drewN ?_ _ | refine blk_drew ?_ | refine blk_alloc ?_ _)); refine blk_far ?_ NB185_187.out _; (with_reducible repeat (first | refine blk_drewN ?_ _ | refine blk_drew ?_ | refine blk_alloc ?_ _)); exact BK185.out) hb); have n3_ := Aside0.mk (blk_below (g := gb186) (o := .cells #[.int .i64 1, .int .i64 (wrap64 (Int.tmod a0 3)), .int .i64 0, .int .i64 0, .int .u64 (Go.bits .or .u64 (Int.tmod (IntKind.u64.wrap (a1)) (ji8)) (ji34))] 24 (0, 0)) (by (with_reducible repeat (first | refine blk_drewN ?_ _ | refine blk_drew ?_ | refine blk_alloc ?_ _)); refine blk_far ?_ NB186_187.out _; (with_reducible repeat (first | refine blk_drewN ?_ _ | refine blk_drew ?_ | refine blk_alloc ?_ _)); refine blk_far ?_ NB186_187.out _; (with_reducible repeat (first | refine blk_drewN ?_ _ | refine blk_drew ?_ | refine blk_alloc ?_ _)); refine blk_far ?_ NB186_187.out _; (with_reducible repeat (first | refine blk_drewN ?_ _ | refine blk_drew ?_ | refine blk_alloc ?_ _)); refine blk_far ?_ NB186_187.out _; (with_reducible repeat (first | refine blk_drewN ?_ _ | refine blk_drew ?_ | refine blk_alloc ?_ _)); refine blk_far ?_ NB186_187.out _; (with_reducible repeat (first | refine blk_drewN ?_ _ | refine blk_drew ?_ | refine blk_alloc ?_ _)); exact BK186.out) hb); have n4_ := Aside0.mk (blk_below (g := gb187) (o := .cells #[.int .i64 1, .int .i64 (wrap64 (Int.tmod a0 3)), .int .i64 0, .int .i64 0, .int .u64 (Go.bits .andNot .u64 (Int.tmod (IntKind.u64.wrap (a1)) (ji8)) (ji34))] 24 (0, 0)) (by (with_reducible repeat (first | refine blk_drewN ?_ _ | refine blk_drew ?_ | refine blk_alloc ?_ _)); refine blk_put (cs := #[.int .i64 1, .int .i64 (wrap64 (Int.tmod a0 3)), .int .i64 0, .int .i64 0, .int .u64 0]) ?_ 4 _ rfl; (with_reducible repeat (first | refine blk_drewN ?_ _ | refine blk_drew ?_ | refine blk_alloc ?_ _)); refine blk_put (cs := #[.int .i64 1, .int .i64 (wrap64 (Int.tmod a0 3)), .int .i64 0, .int .i64 0, .int .u64 0]) ?_ 3 _ rfl; (with_reducible repeat (first | refine blk_drewN ?_ _ | refine blk_drew ?_ | refine blk_alloc ?_ _)); refine blk_put (cs := #[.int .i64 1, .int .i64 (wrap64 (Int.tmod a0 3)), .int .i64 0, .int .i64 0, .int .u64 0]) ?_ 2 _ rfl; (with_reducible repeat (first | refine blk_drewN ?_ _ | refine blk_drew ?_ | refine blk_alloc ?_ _)); refine blk_put (cs := #[.int .i64 1, .int .i64 0, .int .i64 0, .int .i64 0, .int .u64 0]) ?_ 1 _ rfl; (with_reducible repeat (first | refine blk_drewN ?_ _ | refine blk_drew ?_ | refine blk_alloc ?_ _)); refine blk_put (cs := #[.int .i64 0, .int .i64 0, .int .i64 0, .int .i64 0, .int .u64 0]) ?_ 0 _ rfl; (with_reducible repeat (first | refine blk_drewN ?_ _ | refine blk_drew ?_ | refine blk_alloc ?_ _)); exact BK187.out) hb); have n5_ := Aside0.mk (below_step (by repeat (first | (with_reducible first | exact HB.out | apply below_alloc | apply pw_below_drewN | apply below_drew1 | refine below_set ?_ GE167.out | refine below_set ?_ GE177.out | refine below_set ?_ GE185.out | refine below_set ?_ GE186.out | refine below_set ?_ GE187.out) | exact HB.out)) hb); clear BK167; clear BK177; clear BK185; clear BK186; clear BK187; clear HB; have BK167 := n0_; have BK177 := n1_; have BK185 := n2_; have BK186 := n3_; have BK187 := n4_; have HB := n5_; clear n0_ n1_ n2_ n3_ n4_ n5_; (try clear hb); (try clear hb2); (try clear hk); (try clear hi); have hcz78_0 : w77.cell? ⟨gb185, 0, none⟩ = some (.int .i64 t179) := (blk_cell BK185.out 0).trans rfl; have hcz78_1 : w77.cell? ⟨gb185, 1, none⟩ = some (.int .i64 t180) := (blk_cell BK185.out 1).trans rfl; have hcz78_2 : w77.cell? ⟨gb185, 2, none⟩ = some (.int .i64 t181) := (blk_cell BK185.out 2).trans rfl; have hcz78_3 : w77.cell? ⟨gb185, 3, none⟩ = some (.int .i64 t182) := (blk_cell BK185.out 3).trans rfl; have hcz78_4 : w77.cell? ⟨gb185, 4, none⟩ = some (.int .u64 t183) := (blk_cell BK185.out 4).trans rfl; have hfz78_0 := blk_frozen BK185.out 0; have hfz78_1 := blk_frozen BK185.out 1; have hfz78_2 := blk_frozen BK185.out 2; have hfz78_3 := blk_frozen BK185.out 3; have hfz78_4 := blk_frozen BK185.out 4) | (go_at_call 21; (with_reducible refine (chunk_Room.calls t179 t180 t181 t182 t183 t189 _ (by first | ((repeat (first | (with_reducible exact HG) | apply GL_drewN | apply GL_drew)); done) | exact GL_below HG (by repeat (first | (with_reducible first | exact HB.out | apply below_alloc | apply pw_below_drewN | apply below_drew1) | exact HB.out | refine below_set ?_ (Aside0.out (by assumption))))) A42.out).mono ?_); rintro e w79 ⟨rfl, hb⟩; have n0_ := Aside0.mk (blk_below (g := gb167) (o := .cells #[.int .i64 1, .int .i64 (wrap64 (Int.tmod a0 3)), .int .i64 0, .int .i64 0, .int .u64 (Int.tmod (IntKind.u64.wrap (a1)) (ji8))] 24 (0, 0)) (by (with_reducible repeat (first | refine blk_drewN ?_ _ | refine blk_drew ?_ | refine blk_alloc ?_ _)); exact BK167.out) hb); have n1_ := Aside0.mk (blk_below (g := gb177) (o := .cells #[.int .i64 t171, .int .i64 t172, .int .i64 t173, .int .i64 t174, .int .u64 t175] 24 (0, 0)) (by (with_reducible repeat (first | refine blk_drewN ?_ _ | refine blk_drew ?_ | refine blk_alloc ?_ _)); exact BK177.out) hb); have n2_ := Aside0.mk (blk_below (g := gb185) (o := .cells #[.int .i64 t179, .int .i64 t180, .int .i64 t181, .int .i64 t182, .int .u64 t183] 24 (0, 0)) (by (with_reducible repeat (first | refine blk_drewN ?_ _ | refine blk_drew ?_ | refine blk_alloc ?_ _)); exact BK185.out) hb); have n3_ := Aside0.mk (blk_below (g := gb186) (o := .cells #[.int .i64 1, .int .i64 (wrap64 (Int.tmod a0 3)), .int .i64 0, .int .i64 0, .int .u64 (Go.bits .or .u64 (Int.tmod (IntKind.u64.wrap (a1)) (ji8)) (ji34))] 24 (0, 0)) (by (with_reducible repeat (first | refine blk_drewN ?_ _ | refine blk_drew ?_ | refine blk_alloc ?_ _)); exact BK186.out) hb); have n4_ := Aside0.mk (blk_below (g := gb187) (o := .cells #[.int .i64 1, .int .i64 (wrap64 (Int.tmod a0 3)), .int .i64 0, .int .i64 0, .int .u64 (Go.bits .andNot .u64 (Int.tmod (IntKind.u64.wrap (a1)) (ji8)) (ji34))] 24 (0, 0)) (by (with_reducible repeat (first | refine blk_drewN ?_ _ | refine blk_drew ?_ | refine blk_alloc ?_ _)); exact BK187.out) hb); have n5_ := Aside0.mk (below_step (by repeat (first | (with_reducible first | exact HB.out | apply below_alloc | apply pw_below_drewN | apply below_drew1 | refine below_set ?_ GE167.out | refine below_set ?_ GE177.out | refine below_set ?_ GE185.out | refine below_set ?_ GE186.out | refine below_set ?_ GE187.out) | exact HB.out)) hb); clear BK167; clear BK177; clear BK185; clear BK186; clear BK187; clear HB; have BK167 := n0_; have BK177 := n1_; have BK185 := n2_; have BK186 := n3_; have BK187 := n4_; have HB := n5_; clear n0_ n1_ n2_ n3_ n4_ n5_; (try clear hb); (try clear hb2); (try clear hk); (try clear hi); have hcz80_0 : w79.cell? ⟨gb177, 0, none⟩ = some (.int .i64 t171) := (blk_cell BK177.out 0).trans rfl; have hcz80_1 : w79.cell? ⟨gb177, 1, none⟩ = some (.int .i64 t172) := (blk_cell BK177.out 1).trans rfl; have hcz80_2 : w79.cell? ⟨gb177, 2, none⟩ = some (.int .i64 t173) := (blk_cell BK177.out 2).trans rfl; have hcz80_3 : w79.cell? ⟨gb177, 3, none⟩ = some (.int .i64 t174) := (blk_cell BK177.out 3).trans rfl; have hcz80_4 : w79.cell? ⟨gb177, 4, none⟩ = some (.int .u64 t175) := (blk_cell BK177.out 4).trans rfl; have hfz80_0 := blk_frozen BK177.out 0; have hfz80_1 := blk_frozen BK177.out 1; have hfz80_2 := blk_frozen BK177.out 2; have hfz80_3 := blk_frozen BK177.out 3; have hfz80_4 := blk_frozen BK177.out 4) | (go_at_call 21; (with_reducible refine (chunk_Room.calls t171 t172 t173 t174 t175 t190 _ (by first | ((repeat (first | (with_reducible exact HG) | apply GL_drewN | apply GL_drew)); done) | exact GL_below HG (by repeat (first | (with_reducible first | exact HB.out | apply below_alloc | apply pw_below_drewN | apply below_drew1) | exact HB.out | refine below_set ?_ (Aside0.out (by assumption))))) A44.out).mono ?_); rintro e w81 ⟨rfl, hb⟩; have n0_ := Aside0.mk (blk_below (g := gb167) (o := .cells #[.int .i64 1, .int .i64 (wrap64 (Int.tmod a0 3)), .int .i64 0, .int .i64 0, .int .u64 (Int.tmod (IntKind.u64.wrap (a1)) (ji8))] 24 (0, 0)) (by (with_reducible repeat (first | refine blk_drewN ?_ _ | refine blk_drew ?_ | refine blk_alloc ?_ _)); exact BK167.out) hb); have n1_ := Aside0.mk (blk_below (g := gb177) (o := .cells #[.int .i64 t171, .int .i64 t172, .int .i64 t173, .int .i64 t174, .int .u64 t175] 24 (0, 0)) (by (with_reducible repeat (first | refine blk_drewN ?_ _ | refine blk_drew ?_ | refine blk_alloc ?_ _)); exact BK177.out) hb); have n2_ := Aside0.mk (blk_below (g := gb185) (o := .cells #[.int .i64 t179, .int .i64 t180, .int .i64 t181, .int .i64 t182, .int .u64 t183] 24 (0, 0)) (by (with_reducible repeat (first | refine blk_drewN ?_ _ | refine blk_drew ?_ | refine blk_alloc ?_ _)); exact BK185.out) hb); have n3_ := Aside0.mk (blk_below (g := gb186) (o := .cells #[.int .i64 1, .int .i64 (wrap64 (Int.tmod a0 3)), .int .i64 0, .int .i64 0, .int .u64 (Go.bits .or .u64 (Int.tmod (IntKind.u64.wrap (a1)) (ji8)) (ji34))] 24 (0, 0)) (by (with_reducible repeat (first | refine blk_drewN ?_ _ | refine blk_drew ?_ | refine blk_alloc ?_ _)); exact BK186.out) hb); have n4_ := Aside0.mk (blk_below (g := gb187) (o := .cells #[.int .i64 1, .int .i64 (wrap64 (Int.tmod a0 3)), .int .i64 0, .int .i64 0, .int .u64 (Go.bits .andNot .u64 (Int.tmod (IntKind.u64.wrap (a1)) (ji8)) (ji34))] 24 (0, 0)) (by (with_reducible repeat (first | refine blk_drewN ?_ _ | refine blk_drew ?_ | refine blk_alloc ?_ _)); exact BK187.out) hb); have n5_ := Aside0.mk (below_step (by repeat (first | (with_reducible first | exact HB.out | apply below_alloc | apply pw_below_drewN | apply below_drew1 | refine below_set ?_ GE167.out | refine below_set ?_ GE177.out | refine below_set ?_ GE185.out | refine below_set ?_ GE186.out | refine below_set ?_ GE187.out) | exact HB.out)) hb); clear BK167; clear BK177; clear BK185; clear BK186; clear BK187; clear HB; have BK167 := n0_; have BK177 := n1_; have BK185 := n2_; have BK186 := n3_; have BK187 := n4_; have HB := n5_; clear n0_ n1_ n2_ n3_ n4_ n5_; (try clear hb); (try clear hb2); (try clear hk); (try clear hi); have hcz82_0 : w81.cell? ⟨gb187, 0, none⟩ = some (.int .i64 1) := (blk_cell BK187.out 0).trans rfl; have hcz82_1 : w81.cell? ⟨gb187, 1, none⟩ = some (.int .i64 (wrap64 (Int.tmod a0 3))) := (blk_cell BK187.out 1).trans rfl; have hcz82_2 : w81.cell? ⟨gb187, 2, none⟩ = some (.int .i64 0) := (blk_cell BK187.out 2).trans rfl; have hcz82_3 : w81.cell? ⟨gb187, 3, none⟩ = some (.int .i64 0) := (blk_cell BK187.out 3).trans rfl; have hcz82_4 : w81.cell? ⟨gb187, 4, none⟩ = some (.int .u64 (Go.bits .andNot .u64 (Int.tmod (IntKind.u64.wrap (a1)) (ji8)) (ji34))) := (blk_cell BK187.out 4).trans rfl; have hfz82_0 := blk_frozen BK187.out 0; have hfz82_1 := blk_frozen BK187.out 1; have hfz82_2 := blk_frozen BK187.out 2; have hfz82_3 := blk_frozen BK187.out 3; have hfz82_4 := blk_frozen BK187.out 4; have hcz83_0 : w81.cell? ⟨gb185, 0, none⟩ = some (.int .i64 t179) := (blk_cell BK185.out 0).trans rfl; have hcz83_1 : w81.cell? ⟨gb185, 1, none⟩ = some (.int .i64 t180) := (blk_cell BK185.out 1).trans rfl; have hcz83_2 : w81.cell? ⟨gb185, 2, none⟩ = some (.int .i64 t181) := (blk_cell BK185.out 2).trans rfl; have hcz83_3 : w81.cell? ⟨gb185, 3, none⟩ = some (.int .i64 t182) := (blk_cell BK185.out 3).trans rfl; have hcz83_4 : w81.cell? ⟨gb185, 4, none⟩ = some (.int .u64 t183) := (blk_cell BK185.out 4).trans rfl; have hfz83_0 := blk_frozen BK185.out 0; have hfz83_1 := blk_frozen BK185.out 1; have hfz83_2 := blk_frozen BK185.out 2; have hfz83_3 := blk_frozen BK185.out 3; have hfz83_4 := blk_frozen BK185.out 4) | (go_at_call 19; (with_reducible refine (chunk_Empty.calls t179 t180 t181 t182 t183 t191 _ (by first | ((repeat (first | (with_reducible exact HG) | apply GL_drewN | apply GL_drew)); done) | exact GL_below HG (by repeat (first | (with_reducible first | exact HB.out | apply below_alloc | apply pw_below_drewN | apply below_drew1) | exact HB.out | refine below_set ?_ (Aside0.out (by assumption))))) A47.out).mono ?_); rintro e w84 ⟨rfl, hb⟩; have n0_ := Aside0.mk (blk_below (g := gb167) (o := .cells #[.int .i64 1, .int .i64 (wrap64 (Int.tmod a0 3)), .int .i64 0, .int .i64 0, .int .u64 (Int.tmod (IntKind.u64.wrap (a1)) (ji8))] 24 (0, 0)) (by (with_reducible repeat (first | refine blk_drewN ?_ _ | refine blk_drew ?_ | refine blk_alloc ?_ _)); exact BK167.out) hb); have n1_ := Aside0.mk (blk_below (g := gb177) (o := .cells #[.int .i64 t171, .int .i64 t172, .int .i64 t173, .int .i64 t174, .int .u64 t175] 24 (0, 0)) (by (with_reducible repeat (first | refine blk_drewN ?_ _ | refine blk_drew ?_ | refine blk_alloc ?_ _)); exact BK177.out) hb); have n2_ := Aside0.mk (blk_below (g := gb185) (o := .cells #[.int .i64 t179, .int .i64 t180, .int .i64 t181, .int .i64 t182, .int .u64 t183] 24 (0, 0)) (by (with_reducible repeat (first | refine blk_drewN ?_ _ | refine blk_drew ?_ | refine blk_alloc ?_ _)); exact BK185.out) hb); have n3_ := Aside0.mk (blk_below (g := gb186) (o := .cells #[.int .i64 1, .int .i64 (wrap64 (Int.tmod a0 3)), .int .i64 0, .int .i64 0, .int .u64 (Go.bits .or .u64 (Int.tmod (IntKind.u64.wrap (a1)) (ji8)) (ji34))] 24 (0, 0)) (by (with_reducible repeat (first | refine blk_drewN ?_ _ | refine blk_drew ?_ | refine blk_alloc ?_ _)); exact BK186.out) hb); have n4_ := Aside0.mk (blk_below (g := gb187) (o := .cells #[.int .i64 1, .int .i64 (wrap64 (Int.tmod a0 3)), .int .i64 0, .int .i64 0, .int .u64 (Go.bits .andNot .u64 (Int.tmod (IntKind.u64.wrap (a1)) (ji8)) (ji34))] 24 (0, 0)) (by (with_reducible repeat (first | refine blk_drewN ?_ _ | refine blk_drew ?_ | refine blk_alloc ?_ _)); exact BK187.out) hb); have n5_ := Aside0.mk (below_step (by repeat (first | (with_reducible first | exact HB.out | apply below_alloc | apply pw_below_drewN | apply below_drew1 | refine below_set ?_ GE167.out | refine below_set ?_ GE177.out | refine below_set ?_ GE185.out | refine below_set ?_ GE186.out | refine below_set ?_ GE187.out) | exact HB.out)) hb); clear BK167; clear BK177; clear BK185; clear BK186; clear BK187; clear HB; have BK167 := n0_; have BK177 := n1_; have BK185 := n2_; have BK186 := n3_; have BK187 := n4_; have HB := n5_; clear n0_ n1_ n2_ n3_ n4_ n5_; (try clear hb); (try clear hb2); (try clear hk); (try clear hi)))
                              go_ret
                              exact ⟨by first | rfl | (simp [errW_none, errW_some] <;> rfl) | (simp only [← hji8, ← hji32, ← hji34]; first | rfl | (simp [errW_none, errW_some] <;> rfl)) | (simp [*, errW_none, errW_some] <;> rfl), by repeat (first | (with_reducible first | exact HB.out | apply below_alloc | apply pw_below_drewN | apply below_drew1 | refine below_set ?_ GE167.out | refine below_set ?_ GE177.out | refine below_set ?_ GE185.out | refine below_set ?_ GE186.out | refine below_set ?_ GE187.out) | exact HB.out)⟩
                            · rw [if_neg c46] at H
                              have c46b0 : ((Go.bits .andNot .u64 (Int.tmod (IntKind.u64.wrap (a1)) (ji8)) (ji34)) == 0) = false := beq_eq_false_iff_ne.mpr c46
                              have c46b1 : ((Go.bits .andNot .u64 (Int.tmod (IntKind.u64.wrap (a1)) (ji8)) (ji34)) != 0) = true := bne_iff_ne.mpr c46
                              obtain rfl := Option.some.inj H
                              simp only [Option.some.injEq, Prod.mk.injEq] at H
                              obtain ⟨rfl⟩ := H
                              try go_wp2
                              have n0_ := Aside0.mk (blk_drew BK167.out)
                              have n1_ := Aside0.mk (blk_drew BK177.out)
                              have n2_ := Aside0.mk (blk_drew BK185.out)
                              have n3_ := Aside0.mk (below_drew1 HB.out)
                              clear BK167
                              clear BK177
                              clear BK185
                              clear HB
                              have BK167 := n0_
                              have BK177 := n1_
                              have BK185 := n2_
                              have HB := n3_
                              clear n0_ n1_ n2_ n3_
                              refine start_ (n := 9) (S := fun w' => w'.cell? ⟨gb167, 0, none⟩ = some (.int .i64 1) ∧ w'.cell? ⟨gb167, 1, none⟩ = some (.int .i64 (wrap64 (Int.tmod a0 3))) ∧ w'.cell? ⟨gb167, 2, none⟩ = some (.int .i64 0) ∧ w'.cell? ⟨gb167, 3, none⟩ = some (.int .i64 0) ∧ w'.cell? ⟨gb167, 4, none⟩ = some (.int .u64 (Int.tmod (IntKind.u64.wrap (a1)) (ji8)))) (ds := []) #[false, false, false, false, false, false, false, false, false] (by kernel_rfl) rfl rfl ⟨(blk_cell BK167.out 0).trans rfl, (blk_cell BK167.out 1).trans rfl, (blk_cell BK167.out 2).trans rfl, (blk_cell BK167.out 3).trans rfl, (blk_cell BK167.out 4).trans rfl⟩ (fun hHeld => ?_); refine with_tabW lockfastlaw10_ChunkLives.tab11 lockfastlaw10_ChunkLives.bits11 (fun HT_ HW_ => ?_)
                              generalize wc.drew = w85 at BK167 BK177 BK185 HB hHeld ⊢
                              refine pure_ (i := 0) (N := some 68) (v := ?_) (a' := ?_) #[true, false, false, false, false, false, false, false, false] rfl rfl (any_of HT_.out (by kernel_rfl)) (fun _ _ _ h => h) (Or.inl ⟨by rfl, ?_⟩) ?_ ?_
                              rotate_left
                              · intro w'
                                go_simp
                                with_reducible rfl
                              rotate_left
                              · simp only [Act.put, List.setIfInBounds_toArray, List.set_cons_zero, List.set_cons_succ, i64_w, i32_w]
                                rfl
                              refine pure_ (i := 1) (N := some 69) (v := ?_) (a' := ?_) #[true, true, false, false, false, false, false, false, false] rfl rfl (any_of HT_.out (by kernel_rfl)) (fun _ _ _ h => h) (Or.inl ⟨by rfl, ?_⟩) ?_ ?_
                              rotate_left
                              · intro w'
                                go_simp
                                with_reducible rfl
                              rotate_left
                              · simp only [Act.put, List.setIfInBounds_toArray, List.set_cons_zero, List.set_cons_succ, i64_w, i32_w]
                                rfl
                              refine pure_ (i := 3) (N := some 71) (v := ?_) (a' := ?_) #[true, true, false, true, false, false, false, false, false] rfl rfl (any_of HT_.out (by kernel_rfl)) (fun _ _ _ h => h) (Or.inl ⟨by rfl, ?_⟩) ?_ ?_
                              rotate_left
                              · intro w'
                                go_simp
                                with_reducible rfl
                              rotate_left
                              · simp only [Act.put, List.setIfInBounds_toArray, List.set_cons_zero, List.set_cons_succ, i64_w, i32_w]
                                rfl
                              refine pure_ (i := 4) (N := some 72) (v := ?_) (a' := ?_) #[true, true, false, true, true, false, false, false, false] rfl rfl (any_of HT_.out (by kernel_rfl)) (fun _ _ _ h => h) (Or.inl ⟨by rfl, ?_⟩) ?_ ?_
                              rotate_left
                              · intro w'
                                go_simp
                                with_reducible rfl
                              rotate_left
                              · simp only [Act.put, List.setIfInBounds_toArray, List.set_cons_zero, List.set_cons_succ, i64_w, i32_w]
                                rfl
                              refine take_ (i := 2) (N := some 70) (v := ?_) (a' := ?_) #[true, true, true, true, true, false, false, false, false] rfl rfl (take_ofW HT_.out HW_.out (by kernel_rfl)) (fun _ _ _ h => h) (Or.inl ⟨by rfl, ?_⟩) hHeld ?_ ?_
                              rotate_left
                              · rintro w' ⟨s0, s1, s2, s3, s4⟩
                                go_simp
                                with_reducible rfl
                              rotate_left
                              · simp only [Act.put, List.setIfInBounds_toArray, List.set_cons_zero, List.set_cons_succ, i64_w, i32_w]
                                rfl
                              refine pure_ (i := 5) (N := some 73) (v := ?_) (a' := ?_) #[true, true, true, true, true, true, false, false, false] rfl rfl (any_of HT_.out (by kernel_rfl)) (fun _ _ _ h => h) (Or.inl ⟨by rfl, ?_⟩) ?_ ?_
                              rotate_left
                              · intro w'
                                go_simp
                                with_reducible rfl
                              rotate_left
                              · simp only [Act.put, List.setIfInBounds_toArray, List.set_cons_zero, List.set_cons_succ, i64_w, i32_w]
                                rfl
                              refine pure_ (i := 6) (N := some 74) (v := ?_) (a' := ?_) #[true, true, true, true, true, true, true, false, false] rfl rfl (any_of HT_.out (by kernel_rfl)) (fun _ _ _ h => h) (Or.inl ⟨by rfl, ?_⟩) ?_ ?_
                              rotate_left
                              · intro w'
                                go_simp
                                with_reducible rfl
                              rotate_left
                              · simp only [Act.put, List.setIfInBounds_toArray, List.set_cons_zero, List.set_cons_succ, i64_w, i32_w]
                                rfl
                              refine one_ (i := 7) (N := some 18) #[true, true, true, true, true, true, true, true, false] rfl rfl (one_of HT_.out (by kernel_rfl)) (by decide) (fun K hK => ?_)
                              refine box_step ?hg (N := 18) ?hd (cs := #[.int .i64 0, .int .i64 0, .int .i64 0, .int .i64 0, .int .u64 0]) (t := 24) ?hr ?_; (case hd => rfl); (case hg => rfl); (case hr => first | (go_simp; done) | (go_simp; rfl))
                              intro gb186 hg w86 hbox hb
                              have n0_ := Aside0.mk (blk_below (g := gb167) (o := .cells #[.int .i64 1, .int .i64 (wrap64 (Int.tmod a0 3)), .int .i64 0, .int .i64 0, .int .u64 (Int.tmod (IntKind.u64.wrap (a1)) (ji8))] 24 (0, 0)) (by (with_reducible repeat (first | refine blk_drewN ?_ _ | refine blk_drew ?_ | refine blk_alloc ?_ _)); exact BK167.out) hb)
                              have n1_ := Aside0.mk (blk_below (g := gb177) (o := .cells #[.int .i64 t171, .int .i64 t172, .int .i64 t173, .int .i64 t174, .int .u64 t175] 24 (0, 0)) (by (with_reducible repeat (first | refine blk_drewN ?_ _ | refine blk_drew ?_ | refine blk_alloc ?_ _)); exact BK177.out) hb)
                              have n2_ := Aside0.mk (blk_below (g := gb185) (o := .cells #[.int .i64 t179, .int .i64 t180, .int .i64 t181, .int .i64 t182, .int .u64 t183] 24 (0, 0)) (by (with_reducible repeat (first | refine blk_drewN ?_ _ | refine blk_drew ?_ | refine blk_alloc ?_ _)); exact BK185.out) hb)
                              have n3_ := Aside0.mk (below_step (by repeat (first | (with_reducible first | exact HB.out | apply below_alloc | apply pw_below_drewN | apply below_drew1 | refine below_set ?_ GE167.out | refine below_set ?_ GE177.out | refine below_set ?_ GE185.out) | exact HB.out)) hb)
                              have n4_ := Aside0.mk (hbox)
                              have n5_ := Aside0.mk ((by rw [hg]; exact (below_size (by repeat (first | (with_reducible first | exact HB.out | apply below_alloc | apply pw_below_drewN | apply below_drew1 | refine below_set ?_ GE167.out | refine below_set ?_ GE177.out | refine below_set ?_ GE185.out) | exact HB.out))) : w.heap.size ≤ gb186))
                              have n6_ := Aside0.mk ((by rw [hg]; exact (below_size (by repeat (first | (with_reducible first | exact HB.out | apply below_alloc | apply pw_below_drewN | apply below_drew1 | refine below_set ?_ GE167.out | refine below_set ?_ GE177.out | refine below_set ?_ GE185.out) | exact HB.out))) : w.heap.size ≤ gb186))
                              have n7_ := Aside0.mk ((by rw [hg]; exact Nat.ne_of_lt (blk_lt (g := gb167) (o := .cells #[.int .i64 1, .int .i64 (wrap64 (Int.tmod a0 3)), .int .i64 0, .int .i64 0, .int .u64 (Int.tmod (IntKind.u64.wrap (a1)) (ji8))] 24 (0, 0)) (by (with_reducible repeat (first | refine blk_drewN ?_ _ | refine blk_drew ?_ | refine blk_alloc ?_ _)); exact BK167.out)) : gb167 ≠ gb186))
                              have n8_ := Aside0.mk ((by rw [hg]; exact Nat.ne_of_gt (blk_lt (g := gb167) (o := .cells #[.int .i64 1, .int .i64 (wrap64 (Int.tmod a0 3)), .int .i64 0, .int .i64 0, .int .u64 (Int.tmod (IntKind.u64.wrap (a1)) (ji8))] 24 (0, 0)) (by (with_reducible repeat (first | refine blk_drewN ?_ _ | refine blk_drew ?_ | refine blk_alloc ?_ _)); exact BK167.out)) : gb186 ≠ gb167))
                              have n9_ := Aside0.mk ((by rw [hg]; exact Nat.ne_of_lt (blk_lt (g := gb177) (o := .cells #[.int .i64 t171, .int .i64 t172, .int .i64 t173, .int .i64 t174, .int .u64 t175] 24 (0, 0)) (by (with_reducible repeat (first | refine blk_drewN ?_ _ | refine blk_drew ?_ | refine blk_alloc ?_ _)); exact BK177.out)) : gb177 ≠ gb186))
                              have n10_ := Aside0.mk ((by rw [hg]; exact Nat.ne_of_gt (blk_lt (g := gb177) (o := .cells #[.int .i64 t171, .int .i64 t172, .int .i64 t173, .int .i64 t174, .int .u64 t175] 24 (0, 0)) (by (with_reducible repeat (first | refine blk_drewN ?_ _ | refine blk_drew ?_ | refine blk_alloc ?_ _)); exact BK177.out)) : gb186 ≠ gb177))
                              have n11_ := Aside0.mk ((by rw [hg]; exact Nat.ne_of_lt (blk_lt (g := gb185) (o := .cells #[.int .i64 t179, .int .i64 t180, .int .i64 t181, .int .i64 t182, .int .u64 t183] 24 (0, 0)) (by (with_reducible repeat (first | refine blk_drewN ?_ _ | refine blk_drew ?_ | refine blk_alloc ?_ _)); exact BK185.out)) : gb185 ≠ gb186))
                              have n12_ := Aside0.mk ((by rw [hg]; exact Nat.ne_of_gt (blk_lt (g := gb185) (o := .cells #[.int .i64 t179, .int .i64 t180, .int .i64 t181, .int .i64 t182, .int .u64 t183] 24 (0, 0)) (by (with_reducible repeat (first | refine blk_drewN ?_ _ | refine blk_drew ?_ | refine blk_alloc ?_ _)); exact BK185.out)) : gb186 ≠ gb185))
                              clear BK167
                              clear BK177
                              clear BK185
                              clear HB
                              have BK167 := n0_
                              have BK177 := n1_
                              have BK185 := n2_
                              have HB := n3_
                              have BK186 := n4_
                              have GW186 := n5_
                              have GE186 := n6_
                              have NB167_186 := n7_
                              have NB186_167 := n8_
                              have NB177_186 := n9_
                              have NB186_177 := n10_
                              have NB185_186 := n11_
                              have NB186_185 := n12_
                              clear n0_ n1_ n2_ n3_ n4_ n5_ n6_ n7_ n8_ n9_ n10_ n11_ n12_
                              clear hb hbox hg
                              refine hK.out _ _ ⟨(blk_cell BK167.out 0).trans rfl, (blk_cell BK167.out 1).trans rfl, (blk_cell BK167.out 2).trans rfl, (blk_cell BK167.out 3).trans rfl, (blk_cell BK167.out 4).trans rfl⟩ (fun hHeld => ?_)
                              clear hK K
                              refine norm_ (a' := ?_) ?_ ?_
                              rotate_left
                              · show Act.put _ (some 18) _ = _
                                simp only [Act.put, List.setIfInBounds_toArray, List.set_cons_zero, List.set_cons_succ, i64_w, i32_w]
                                rfl
                              refine one_ (i := 8) (N := none) #[true, true, true, true, true, true, true, true, true] rfl rfl (one_of HT_.out (by kernel_rfl)) (by decide) (fun K hK => ?_)
                              have hs87 : w86.cell? ⟨gb186, 0, none⟩ = some (.int .i64 0) := (blk_cell BK186.out 0).trans rfl
                              have hfs87 := blk_frozen BK186.out 0
                              have hns87_0 := NB167_186.out
                              have hns87_1 := NB177_186.out
                              have hns87_2 := NB185_186.out
                              have hms87_0 := NB186_167.out
                              have hms87_1 := NB186_177.out
                              have hms87_2 := NB186_185.out
                              have hs88 : w86.cell? ⟨gb186, 1, none⟩ = some (.int .i64 0) := (blk_cell BK186.out 1).trans rfl
                              have hfs88 := blk_frozen BK186.out 1
                              have hns88_0 := NB167_186.out
                              have hns88_1 := NB177_186.out
                              have hns88_2 := NB185_186.out
                              have hms88_0 := NB186_167.out
                              have hms88_1 := NB186_177.out
                              have hms88_2 := NB186_185.out
                              have hs89 : w86.cell? ⟨gb186, 2, none⟩ = some (.int .i64 0) := (blk_cell BK186.out 2).trans rfl
                              have hfs89 := blk_frozen BK186.out 2
                              have hns89_0 := NB167_186.out
                              have hns89_1 := NB177_186.out
                              have hns89_2 := NB185_186.out
                              have hms89_0 := NB186_167.out
                              have hms89_1 := NB186_177.out
                              have hms89_2 := NB186_185.out
                              have hs90 : w86.cell? ⟨gb186, 3, none⟩ = some (.int .i64 0) := (blk_cell BK186.out 3).trans rfl
                              have hfs90 := blk_frozen BK186.out 3
                              have hns90_0 := NB167_186.out
                              have hns90_1 := NB177_186.out
                              have hns90_2 := NB185_186.out
                              have hms90_0 := NB186_167.out
                              have hms90_1 := NB186_177.out
                              have hms90_2 := NB186_185.out
                              have hs91 : w86.cell? ⟨gb186, 4, none⟩ = some (.int .u64 0) := (blk_cell BK186.out 4).trans rfl
                              have hfs91 := blk_frozen BK186.out 4
                              have hns91_0 := NB167_186.out
                              have hns91_1 := NB177_186.out
                              have hns91_2 := NB185_186.out
                              have hms91_0 := NB186_167.out
                              have hms91_1 := NB186_177.out
                              have hms91_2 := NB186_185.out
                              refine skip_ (w1 := ?_) (by rfl) rfl ?_ ?_
                              rotate_left
                              · go_simp
                                rfl
                              refine hK.out _ _ ⟨((cell_far (p := ⟨gb186, _, none⟩) NB167_186.out _).trans (((cell_far (p := ⟨gb186, _, none⟩) NB167_186.out _).trans (((cell_far (p := ⟨gb186, _, none⟩) NB167_186.out _).trans (((cell_far (p := ⟨gb186, _, none⟩) NB167_186.out _).trans (((cell_far (p := ⟨gb186, _, none⟩) NB167_186.out _).trans (hHeld.1)))))))))), ((cell_far (p := ⟨gb186, _, none⟩) NB167_186.out _).trans (((cell_far (p := ⟨gb186, _, none⟩) NB167_186.out _).trans (((cell_far (p := ⟨gb186, _, none⟩) NB167_186.out _).trans (((cell_far (p := ⟨gb186, _, none⟩) NB167_186.out _).trans (((cell_far (p := ⟨gb186, _, none⟩) NB167_186.out _).trans (hHeld.2.1)))))))))), ((cell_far (p := ⟨gb186, _, none⟩) NB167_186.out _).trans (((cell_far (p := ⟨gb186, _, none⟩) NB167_186.out _).trans (((cell_far (p := ⟨gb186, _, none⟩) NB167_186.out _).trans (((cell_far (p := ⟨gb186, _, none⟩) NB167_186.out _).trans (((cell_far (p := ⟨gb186, _, none⟩) NB167_186.out _).trans (hHeld.2.2.1)))))))))), ((cell_far (p := ⟨gb186, _, none⟩) NB167_186.out _).trans (((cell_far (p := ⟨gb186, _, none⟩) NB167_186.out _).trans (((cell_far (p := ⟨gb186, _, none⟩) NB167_186.out _).trans (((cell_far (p := ⟨gb186, _, none⟩) NB167_186.out _).trans (((cell_far (p := ⟨gb186, _, none⟩) NB167_186.out _).trans (hHeld.2.2.2.1)))))))))), ((cell_far (p := ⟨gb186, _, none⟩) NB167_186.out _).trans (((cell_far (p := ⟨gb186, _, none⟩) NB167_186.out _).trans (((cell_far (p := ⟨gb186, _, none⟩) NB167_186.out _).trans (((cell_far (p := ⟨gb186, _, none⟩) NB167_186.out _).trans (((cell_far (p := ⟨gb186, _, none⟩) NB167_186.out _).trans (hHeld.2.2.2.2))))))))))⟩ (fun hHeld => ?_)
                              clear hK K
                              refine done_ (done_of HT_.out (by kernel_rfl)) ?_
                              try go_wp2
                              have n0_ : Aside0 ((((((w86.setCell ⟨gb186, 0, none⟩ (.int .i64 1)).setCell ⟨gb186, 1, none⟩ (.int .i64 (wrap64 (Int.tmod a0 3)))).setCell ⟨gb186, 2, none⟩ (.int .i64 0)).setCell ⟨gb186, 3, none⟩ (.int .i64 0)).setCell ⟨gb186, 4, none⟩ (.int .u64 (Go.bits .or .u64 (Int.tmod (IntKind.u64.wrap (a1)) (ji8)) (ji34)))).heap[gb167]? = some (.cells #[.int .i64 1, .int .i64 (wrap64 (Int.tmod a0 3)), .int .i64 0, .int .i64 0, .int .u64 (Int.tmod (IntKind.u64.wrap (a1)) (ji8))] 24 (0, 0))) := ⟨by (with_reducible repeat (first | refine blk_drewN ?_ _ | refine blk_drew ?_ | refine blk_alloc ?_ _)); refine blk_far ?_ NB167_186.out _; (with_reducible repeat (first | refine blk_drewN ?_ _ | refine blk_drew ?_ | refine blk_alloc ?_ _)); refine blk_far ?_ NB167_186.out _; (with_reducible repeat (first | refine blk_drewN ?_ _ | refine blk_drew ?_ | refine blk_alloc ?_ _)); refine blk_far ?_ NB167_186.out _; (with_reducible repeat (first | refine blk_drewN ?_ _ | refine blk_drew ?_ | refine blk_alloc ?_ _)); refine blk_far ?_ NB167_186.out _; (with_reducible repeat (first | refine blk_drewN ?_ _ | refine blk_drew ?_ | refine blk_alloc ?_ _)); refine blk_far ?_ NB167_186.out _; (with_reducible repeat (first | refine blk_drewN ?_ _ | refine blk_drew ?_ | refine blk_alloc ?_ _)); exact BK167.out⟩
                              have n1_ : Aside0 ((((((w86.setCell ⟨gb186, 0, none⟩ (.int .i64 1)).setCell ⟨gb186, 1, none⟩ (.int .i64 (wrap64 (Int.tmod a0 3)))).setCell ⟨gb186, 2, none⟩ (.int .i64 0)).setCell ⟨gb186, 3, none⟩ (.int .i64 0)).setCell ⟨gb186, 4, none⟩ (.int .u64 (Go.bits .or .u64 (Int.tmod (IntKind.u64.wrap (a1)) (ji8)) (ji34)))).heap[gb177]? = some (.cells #[.int .i64 t171, .int .i64 t172, .int .i64 t173, .int .i64 t174, .int .u64 t175] 24 (0, 0))) := ⟨by (with_reducible repeat (first | refine blk_drewN ?_ _ | refine blk_drew ?_ | refine blk_alloc ?_ _)); refine blk_far ?_ NB177_186.out _; (with_reducible repeat (first | refine blk_drewN ?_ _ | refine blk_drew ?_ | refine blk_alloc ?_ _)); refine blk_far ?_ NB177_186.out _; (with_reducible repeat (first | refine blk_drewN ?_ _ | refine blk_drew ?_ | refine blk_alloc ?_ _)); refine blk_far ?_ NB177_186.out _; (with_reducible repeat (first | refine blk_drewN ?_ _ | refine blk_drew ?_ | refine blk_alloc ?_ _)); refine blk_far ?_ NB177_186.out _; (with_reducible repeat (first | refine blk_drewN ?_ _ | refine blk_drew ?_ | refine blk_alloc ?_ _)); refine blk_far ?_ NB177_186.out _; (with_reducible repeat (first | refine blk_drewN ?_ _ | refine blk_drew ?_ | refine blk_alloc ?_ _)); exact BK177.out⟩
                              have n2_ : Aside0 ((((((w86.setCell ⟨gb186, 0, none⟩ (.int .i64 1)).setCell ⟨gb186, 1, none⟩ (.int .i64 (wrap64 (Int.tmod a0 3)))).setCell ⟨gb186, 2, none⟩ (.int .i64 0)).setCell ⟨gb186, 3, none⟩ (.int .i64 0)).setCell ⟨gb186, 4, none⟩ (.int .u64 (Go.bits .or .u64 (Int.tmod (IntKind.u64.wrap (a1)) (ji8)) (ji34)))).heap[gb185]? = some (.cells #[.int .i64 t179, .int .i64 t180, .int .i64 t181, .int .i64 t182, .int .u64 t183] 24 (0, 0))) := ⟨by (with_reducible repeat (first | refine blk_drewN ?_ _ | refine blk_drew ?_ | refine blk_alloc ?_ _)); refine blk_far ?_ NB185_186.out _; (with_reducible repeat (first | refine blk_drewN ?_ _ | refine blk_drew ?_ | refine blk_alloc ?_ _)); refine blk_far ?_ NB185_186.out _; (with_reducible repeat (first | refine blk_drewN ?_ _ | refine blk_drew ?_ | refine blk_alloc ?_ _)); refine blk_far ?_ NB185_186.out _; (with_reducible repeat (first | refine blk_drewN ?_ _ | refine blk_drew ?_ | refine blk_alloc ?_ _)); refine blk_far ?_ NB185_186.out _; (with_reducible repeat (first | refine blk_drewN ?_ _ | refine blk_drew ?_ | refine blk_alloc ?_ _)); refine blk_far ?_ NB185_186.out _; (with_reducible repeat (first | refine blk_drewN ?_ _ | refine blk_drew ?_ | refine blk_alloc ?_ _)); exact BK185.out⟩
                              have n3_ : Aside0 ((((((w86.setCell ⟨gb186, 0, none⟩ (.int .i64 1)).setCell ⟨gb186, 1, none⟩ (.int .i64 (wrap64 (Int.tmod a0 3)))).setCell ⟨gb186, 2, none⟩ (.int .i64 0)).setCell ⟨gb186, 3, none⟩ (.int .i64 0)).setCell ⟨gb186, 4, none⟩ (.int .u64 (Go.bits .or .u64 (Int.tmod (IntKind.u64.wrap (a1)) (ji8)) (ji34)))).heap[gb186]? = some (.cells #[.int .i64 1, .int .i64 (wrap64 (Int.tmod a0 3)), .int .i64 0, .int .i64 0, .int .u64 (Go.bits .or .u64 (Int.tmod (IntKind.u64.wrap (a1)) (ji8)) (ji34))] 24 (0, 0))) := ⟨by (with_reducible repeat (first | refine blk_drewN ?_ _ | refine blk_drew ?_ | refine blk_alloc ?_ _)); refine blk_put (cs := #[.int .i64 1, .int .i64 (wrap64 (Int.tmod a0 3)), .int .i64 0, .int .i64 0, .int .u64 0]) ?_ 4 _ rfl; (with_reducible repeat (first | refine blk_drewN ?_ _ | refine blk_drew ?_ | refine blk_alloc ?_ _)); refine blk_put (cs := #[.int .i64 1, .int .i64 (wrap64 (Int.tmod a0 3)), .int .i64 0, .int .i64 0, .int .u64 0]) ?_ 3 _ rfl; (with_reducible repeat (first | refine blk_drewN ?_ _ | refine blk_drew ?_ | refine blk_alloc ?_ _)); refine blk_put (cs := #[.int .i64 1, .int .i64 (wrap64 (Int.tmod a0 3)), .int .i64 0, .int .i64 0, .int .u64 0]) ?_ 2 _ rfl; (with_reducible repeat (first | refine blk_drewN ?_ _ | refine blk_drew ?_ | refine blk_alloc ?_ _)); refine blk_put (cs := #[.int .i64 1, .int .i64 0, .int .i64 0, .int .i64 0, .int .u64 0]) ?_ 1 _ rfl; (with_reducible repeat (first | refine blk_drewN ?_ _ | refine blk_drew ?_ | refine blk_alloc ?_ _)); refine blk_put (cs := #[.int .i64 0, .int .i64 0, .int .i64 0, .int .i64 0, .int .u64 0]) ?_ 0 _ rfl; (with_reducible repeat (first | refine blk_drewN ?_ _ | refine blk_drew ?_ | refine blk_alloc ?_ _)); exact BK186.out⟩
                              have n4_ : Aside0 (Below w.heap.size w (((((w86.setCell ⟨gb186, 0, none⟩ (.int .i64 1)).setCell ⟨gb186, 1, none⟩ (.int .i64 (wrap64 (Int.tmod a0 3)))).setCell ⟨gb186, 2, none⟩ (.int .i64 0)).setCell ⟨gb186, 3, none⟩ (.int .i64 0)).setCell ⟨gb186, 4, none⟩ (.int .u64 (Go.bits .or .u64 (Int.tmod (IntKind.u64.wrap (a1)) (ji8)) (ji34))))) := ⟨by repeat (first | (with_reducible first | exact HB.out | apply below_alloc | apply pw_below_drewN | apply below_drew1 | refine below_set ?_ GE167.out | refine below_set ?_ GE177.out | refine below_set ?_ GE185.out | refine below_set ?_ GE186.out) | exact HB.out)⟩
                              (try clear BK167)
                              (try clear BK177)
                              (try clear BK185)
                              (try clear BK186)
                              (try clear HB)
                              generalize (((((w86.setCell ⟨gb186, 0, none⟩ (.int .i64 1)).setCell ⟨gb186, 1, none⟩ (.int .i64 (wrap64 (Int.tmod a0 3)))).setCell ⟨gb186, 2, none⟩ (.int .i64 0)).setCell ⟨gb186, 3, none⟩ (.int .i64 0)).setCell ⟨gb186, 4, none⟩ (.int .u64 (Go.bits .or .u64 (Int.tmod (IntKind.u64.wrap (a1)) (ji8)) (ji34)))) = w92 at n0_ n1_ n2_ n3_ n4_ ⊢
                              have BK167 := n0_
                              have BK177 := n1_
                              have BK185 := n2_
                              have BK186 := n3_
                              have HB := n4_
                              clear n0_ n1_ n2_ n3_ n4_
                              have n0_ := Aside0.mk (blk_drew BK167.out)
                              have n1_ := Aside0.mk (blk_drew BK177.out)
                              have n2_ := Aside0.mk (blk_drew BK185.out)
                              have n3_ := Aside0.mk (blk_drew BK186.out)
                              have n4_ := Aside0.mk (below_drew1 HB.out)
                              clear BK167
                              clear BK177
                              clear BK185
                              clear BK186
                              clear HB
                              have BK167 := n0_
                              have BK177 := n1_
                              have BK185 := n2_
                              have BK186 := n3_
                              have HB := n4_
                              clear n0_ n1_ n2_ n3_ n4_
                              refine start_ (n := 9) (S := fun w' => w'.cell? ⟨gb167, 0, none⟩ = some (.int .i64 1) ∧ w'.cell? ⟨gb167, 1, none⟩ = some (.int .i64 (wrap64 (Int.tmod a0 3))) ∧ w'.cell? ⟨gb167, 2, none⟩ = some (.int .i64 0) ∧ w'.cell? ⟨gb167, 3, none⟩ = some (.int .i64 0) ∧ w'.cell? ⟨gb167, 4, none⟩ = some (.int .u64 (Int.tmod (IntKind.u64.wrap (a1)) (ji8)))) (ds := []) #[false, false, false, false, false, false, false, false, false] (by kernel_rfl) rfl rfl ⟨(blk_cell BK167.out 0).trans rfl, (blk_cell BK167.out 1).trans rfl, (blk_cell BK167.out 2).trans rfl, (blk_cell BK167.out 3).trans rfl, (blk_cell BK167.out 4).trans rfl⟩ (fun hHeld => ?_); refine with_tabW lockfastlaw10_ChunkLives.tab12 lockfastlaw10_ChunkLives.bits12 (fun HT_ HW_ => ?_)
                              generalize w92.drew = w93 at BK167 BK177 BK185 BK186 HB hHeld ⊢
                              refine pure_ (i := 0) (N := some 75) (v := ?_) (a' := ?_) #[true, false, false, false, false, false, false, false, false] rfl rfl (any_of HT_.out (by kernel_rfl)) (fun _ _ _ h => h) (Or.inl ⟨by rfl, ?_⟩) ?_ ?_
                              rotate_left
                              · intro w'
                                go_simp
                                with_reducible rfl
                              rotate_left
                              · simp only [Act.put, List.setIfInBounds_toArray, List.set_cons_zero, List.set_cons_succ, i64_w, i32_w]
                                rfl
                              refine pure_ (i := 1) (N := some 76) (v := ?_) (a' := ?_) #[true, true, false, false, false, false, false, false, false] rfl rfl (any_of HT_.out (by kernel_rfl)) (fun _ _ _ h => h) (Or.inl ⟨by rfl, ?_⟩) ?_ ?_
                              rotate_left
                              · intro w'
                                go_simp
                                with_reducible rfl
                              rotate_left
                              · simp only [Act.put, List.setIfInBounds_toArray, List.set_cons_zero, List.set_cons_succ, i64_w, i32_w]
                                rfl
                              refine pure_ (i := 3) (N := some 78) (v := ?_) (a' := ?_) #[true, true, false, true, false, false, false, false, false] rfl rfl (any_of HT_.out (by kernel_rfl)) (fun _ _ _ h => h) (Or.inl ⟨by rfl, ?_⟩) ?_ ?_
                              rotate_left
                              · intro w'
                                go_simp
                                with_reducible rfl
                              rotate_left
                              · simp only [Act.put, List.setIfInBounds_toArray, List.set_cons_zero, List.set_cons_succ, i64_w, i32_w]
                                rfl
                              refine pure_ (i := 4) (N := some 79) (v := ?_) (a' := ?_) #[true, true, false, true, true, false, false, false, false] rfl rfl (any_of HT_.out (by kernel_rfl)) (fun _ _ _ h => h) (Or.inl ⟨by rfl, ?_⟩) ?_ ?_
                              rotate_left
                              · intro w'
                                go_simp
                                with_reducible rfl
                              rotate_left
                              · simp only [Act.put, List.setIfInBounds_toArray, List.set_cons_zero, List.set_cons_succ, i64_w, i32_w]
                                rfl
                              refine take_ (i := 2) (N := some 77) (v := ?_) (a' := ?_) #[true, true, true, true, true, false, false, false, false] rfl rfl (take_ofW HT_.out HW_.out (by kernel_rfl)) (fun _ _ _ h => h) (Or.inl ⟨by rfl, ?_⟩) hHeld ?_ ?_
                              rotate_left
                              · rintro w' ⟨s0, s1, s2, s3, s4⟩
                                go_simp
                                with_reducible rfl
                              rotate_left
                              · simp only [Act.put, List.setIfInBounds_toArray, List.set_cons_zero, List.set_cons_succ, i64_w, i32_w]
                                rfl
                              refine pure_ (i := 5) (N := some 80) (v := ?_) (a' := ?_) #[true, true, true, true, true, true, false, false, false] rfl rfl (any_of HT_.out (by kernel_rfl)) (fun _ _ _ h => h) (Or.inl ⟨by rfl, ?_⟩) ?_ ?_
                              rotate_left
                              · intro w'
                                go_simp
                                with_reducible rfl
                              rotate_left
                              · simp only [Act.put, List.setIfInBounds_toArray, List.set_cons_zero, List.set_cons_succ, i64_w, i32_w]
                                rfl
                              refine pure_ (i := 6) (N := some 81) (v := ?_) (a' := ?_) #[true, true, true, true, true, true, true, false, false] rfl rfl (any_of HT_.out (by kernel_rfl)) (fun _ _ _ h => h) (Or.inl ⟨by rfl, ?_⟩) ?_ ?_
                              rotate_left
                              · intro w'
                                go_simp
                                with_reducible rfl
                              rotate_left
                              · simp only [Act.put, List.setIfInBounds_toArray, List.set_cons_zero, List.set_cons_succ, i64_w, i32_w]
                                rfl
                              refine one_ (i := 7) (N := some 19) #[true, true, true, true, true, true, true, true, false] rfl rfl (one_of HT_.out (by kernel_rfl)) (by decide) (fun K hK => ?_)
                              refine box_step ?hg (N := 19) ?hd (cs := #[.int .i64 0, .int .i64 0, .int .i64 0, .int .i64 0, .int .u64 0]) (t := 24) ?hr ?_; (case hd => rfl); (case hg => rfl); (case hr => first | (go_simp; done) | (go_simp; rfl))
                              intro gb187 hg w94 hbox hb
                              have n0_ := Aside0.mk (blk_below (g := gb167) (o := .cells #[.int .i64 1, .int .i64 (wrap64 (Int.tmod a0 3)), .int .i64 0, .int .i64 0, .int .u64 (Int.tmod (IntKind.u64.wrap (a1)) (ji8))] 24 (0, 0)) (by (with_reducible repeat (first | refine blk_drewN ?_ _ | refine blk_drew ?_ | refine blk_alloc ?_ _)); exact BK167.out) hb)
                              have n1_ := Aside0.mk (blk_below (g := gb177) (o := .cells #[.int .i64 t171, .int .i64 t172, .int .i64 t173, .int .i64 t174, .int .u64 t175] 24 (0, 0)) (by (with_reducible repeat (first | refine blk_drewN ?_ _ | refine blk_drew ?_ | refine blk_alloc ?_ _)); exact BK177.out) hb)
                              have n2_ := Aside0.mk (blk_below (g := gb185) (o := .cells #[.int .i64 t179, .int .i64 t180, .int .i64 t181, .int .i64 t182, .int .u64 t183] 24 (0, 0)) (by (with_reducible repeat (first | refine blk_drewN ?_ _ | refine blk_drew ?_ | refine blk_alloc ?_ _)); exact BK185.out) hb)
                              have n3_ := Aside0.mk (blk_below (g := gb186) (o := .cells #[.int .i64 1, .int .i64 (wrap64 (Int.tmod a0 3)), .int .i64 0, .int .i64 0, .int .u64 (Go.bits .or .u64 (Int.tmod (IntKind.u64.wrap (a1)) (ji8)) (ji34))] 24 (0, 0)) (by (with_reducible repeat (first | refine blk_drewN ?_ _ | refine blk_drew ?_ | refine blk_alloc ?_ _)); exact BK186.out) hb)
                              have n4_ := Aside0.mk (below_step (by repeat (first | (with_reducible first | exact HB.out | apply below_alloc | apply pw_below_drewN | apply below_drew1 | refine below_set ?_ GE167.out | refine below_set ?_ GE177.out | refine below_set ?_ GE185.out | refine below_set ?_ GE186.out) | exact HB.out)) hb)
                              have n5_ := Aside0.mk (hbox)
                              have n6_ := Aside0.mk ((by rw [hg]; exact (below_size (by repeat (first | (with_reducible first | exact HB.out | apply below_alloc | apply pw_below_drewN | apply below_drew1 | refine below_set ?_ GE167.out | refine below_set ?_ GE177.out | refine below_set ?_ GE185.out | refine below_set ?_ GE186.out) | exact HB.out))) : w.heap.size ≤ gb187))
                              have n7_ := Aside0.mk ((by rw [hg]; exact (below_size (by repeat (first | (with_reducible first | exact HB.out | apply below_alloc | apply pw_below_drewN | apply below_drew1 | refine below_set ?_ GE167.out | refine below_set ?_ GE177.out | refine below_set ?_ GE185.out | refine below_set ?_ GE186.out) | exact HB.out))) : w.heap.size ≤ gb187))
                              have n8_ := Aside0.mk ((by rw [hg]; exact Nat.ne_of_lt (blk_lt (g := gb167) (o := .cells #[.int .i64 1, .int .i64 (wrap64 (Int.tmod a0 3)), .int .i64 0, .int .i64 0, .int .u64 (Int.tmod (IntKind.u64.wrap (a1)) (ji8))] 24 (0, 0)) (by (with_reducible repeat (first | refine blk_drewN ?_ _ | refine blk_drew ?_ | refine blk_alloc ?_ _)); exact BK167.out)) : gb167 ≠ gb187))
                              have n9_ := Aside0.mk ((by rw [hg]; exact Nat.ne_of_gt (blk_lt (g := gb167) (o := .cells #[.int .i64 1, .int .i64 (wrap64 (Int.tmod a0 3)), .int .i64 0, .int .i64 0, .int .u64 (Int.tmod (IntKind.u64.wrap (a1)) (ji8))] 24 (0, 0)) (by (with_reducible repeat (first | refine blk_drewN ?_ _ | refine blk_drew ?_ | refine blk_alloc ?_ _)); exact BK167.out)) : gb187 ≠ gb167))
                              have n10_ := Aside0.mk ((by rw [hg]; exact Nat.ne_of_lt (blk_lt (g := gb177) (o := .cells #[.int .i64 t171, .int .i64 t172, .int .i64 t173, .int .i64 t174, .int .u64 t175] 24 (0, 0)) (by (with_reducible repeat (first | refine blk_drewN ?_ _ | refine blk_drew ?_ | refine blk_alloc ?_ _)); exact BK177.out)) : gb177 ≠ gb187))
                              have n11_ := Aside0.mk ((by rw [hg]; exact Nat.ne_of_gt (blk_lt (g := gb177) (o := .cells #[.int .i64 t171, .int .i64 t172, .int .i64 t173, .int .i64 t174, .int .u64 t175] 24 (0, 0)) (by (with_reducible repeat (first | refine blk_drewN ?_ _ | refine blk_drew ?_ | refine blk_alloc ?_ _)); exact BK177.out)) : gb187 ≠ gb177))
                              have n12_ := Aside0.mk ((by rw [hg]; exact Nat.ne_of_lt (blk_lt (g := gb185) (o := .cells #[.int .i64 t179, .int .i64 t180, .int .i64 t181, .int .i64 t182, .int .u64 t183] 24 (0, 0)) (by (with_reducible repeat (first | refine blk_drewN ?_ _ | refine blk_drew ?_ | refine blk_alloc ?_ _)); exact BK185.out)) : gb185 ≠ gb187))
                              have n13_ := Aside0.mk ((by rw [hg]; exact Nat.ne_of_gt (blk_lt (g := gb185) (o := .cells #[.int .i64 t179, .int .i64 t180, .int .i64 t181, .int .i64 t182, .int .u64 t183] 24 (0, 0)) (by (with_reducible repeat (first | refine blk_drewN ?_ _ | refine blk_drew ?_ | refine blk_alloc ?_ _)); exact BK185.out)) : gb187 ≠ gb185))
                              have n14_ := Aside0.mk ((by rw [hg]; exact Nat.ne_of_lt (blk_lt (g := gb186) (o := .cells #[.int .i64 1, .int .i64 (wrap64 (Int.tmod a0 3)), .int .i64 0, .int .i64 0, .int .u64 (Go.bits .or .u64 (Int.tmod (IntKind.u64.wrap (a1)) (ji8)) (ji34))] 24 (0, 0)) (by (with_reducible repeat (first | refine blk_drewN ?_ _ | refine blk_drew ?_ | refine blk_alloc ?_ _)); exact BK186.out)) : gb186 ≠ gb187))
                              have n15_ := Aside0.mk ((by rw [hg]; exact Nat.ne_of_gt (blk_lt (g := gb186) (o := .cells #[.int .i64 1, .int .i64 (wrap64 (Int.tmod a0 3)), .int .i64 0, .int .i64 0, .int .u64 (Go.bits .or .u64 (Int.tmod (IntKind.u64.wrap (a1)) (ji8)) (ji34))] 24 (0, 0)) (by (with_reducible repeat (first | refine blk_drewN ?_ _ | refine blk_drew ?_ | refine blk_alloc ?_ _)); exact BK186.out)) : gb187 ≠ gb186))
                              clear BK167
                              clear BK177
                              clear BK185
                              clear BK186
                              clear HB
                              have BK167 := n0_
                              have BK177 := n1_
                              have BK185 := n2_
                              have BK186 := n3_
                              have HB := n4_
                              have BK187 := n5_
                              have GW187 := n6_
                              have GE187 := n7_
                              have NB167_187 := n8_
                              have NB187_167 := n9_
                              have NB177_187 := n10_
                              have NB187_177 := n11_
                              have NB185_187 := n12_
                              have NB187_185 := n13_
                              have NB186_187 := n14_
                              have NB187_186 := n15_
                              clear n0_ n1_ n2_ n3_ n4_ n5_ n6_ n7_ n8_ n9_ n10_ n11_ n12_ n13_ n14_ n15_
                              clear hb hbox hg
                              refine hK.out _ _ ⟨(blk_cell BK167.out 0).trans rfl, (blk_cell BK167.out 1).trans rfl, (blk_cell BK167.out 2).trans rfl, (blk_cell BK167.out 3).trans rfl, (blk_cell BK167.out 4).trans rfl⟩ (fun hHeld => ?_)
                              clear hK K
                              refine norm_ (a' := ?_) ?_ ?_
                              rotate_left
                              · show Act.put _ (some 19) _ = _
                                simp only [Act.put, List.setIfInBounds_toArray, List.set_cons_zero, List.set_cons_succ, i64_w, i32_w]
                                rfl
                              refine one_ (i := 8) (N := none) #[true, true, true, true, true, true, true, true, true] rfl rfl (one_of HT_.out (by kernel_rfl)) (by decide) (fun K hK => ?_)
                              have hs95 : w94.cell? ⟨gb187, 0, none⟩ = some (.int .i64 0) := (blk_cell BK187.out 0).trans rfl
                              have hfs95 := blk_frozen BK187.out 0
                              have hns95_0 := NB167_187.out
                              have hns95_1 := NB177_187.out
                              have hns95_2 := NB185_187.out
                              have hns95_3 := NB186_187.out
                              have hms95_0 := NB187_167.out
                              have hms95_1 := NB187_177.out
                              have hms95_2 := NB187_185.out
                              have hms95_3 := NB187_186.out
                              have hs96 : w94.cell? ⟨gb187, 1, none⟩ = some (.int .i64 0) := (blk_cell BK187.out 1).trans rfl
                              have hfs96 := blk_frozen BK187.out 1
                              have hns96_0 := NB167_187.out
                              have hns96_1 := NB177_187.out
                              have hns96_2 := NB185_187.out
                              have hns96_3 := NB186_187.out
                              have hms96_0 := NB187_167.out
                              have hms96_1 := NB187_177.out
                              have hms96_2 := NB187_185.out
                              have hms96_3 := NB187_186.out
                              have hs97 : w94.cell? ⟨gb187, 2, none⟩ = some (.int .i64 0) := (blk_cell BK187.out 2).trans rfl
                              have hfs97 := blk_frozen BK187.out 2
                              have hns97_0 := NB167_187.out
                              have hns97_1 := NB177_187.out
                              have hns97_2 := NB185_187.out
                              have hns97_3 := NB186_187.out
                              have hms97_0 := NB187_167.out
                              have hms97_1 := NB187_177.out
                              have hms97_2 := NB187_185.out
                              have hms97_3 := NB187_186.out
                              have hs98 : w94.cell? ⟨gb187, 3, none⟩ = some (.int .i64 0) := (blk_cell BK187.out 3).trans rfl
                              have hfs98 := blk_frozen BK187.out 3
                              have hns98_0 := NB167_187.out
                              have hns98_1 := NB177_187.out
                              have hns98_2 := NB185_187.out
                              have hns98_3 := NB186_187.out
                              have hms98_0 := NB187_167.out
                              have hms98_1 := NB187_177.out
                              have hms98_2 := NB187_185.out
                              have hms98_3 := NB187_186.out
                              have hs99 : w94.cell? ⟨gb187, 4, none⟩ = some (.int .u64 0) := (blk_cell BK187.out 4).trans rfl
                              have hfs99 := blk_frozen BK187.out 4
                              have hns99_0 := NB167_187.out
                              have hns99_1 := NB177_187.out
                              have hns99_2 := NB185_187.out
                              have hns99_3 := NB186_187.out
                              have hms99_0 := NB187_167.out
                              have hms99_1 := NB187_177.out
                              have hms99_2 := NB187_185.out
                              have hms99_3 := NB187_186.out
                              refine skip_ (w1 := ?_) (by rfl) rfl ?_ ?_
                              rotate_left
                              · go_simp
                                rfl
                              refine hK.out _ _ ⟨((cell_far (p := ⟨gb187, _, none⟩) NB167_187.out _).trans (((cell_far (p := ⟨gb187, _, none⟩) NB167_187.out _).trans (((cell_far (p := ⟨gb187, _, none⟩) NB167_187.out _).trans (((cell_far (p := ⟨gb187, _, none⟩) NB167_187.out _).trans (((cell_far (p := ⟨gb187, _, none⟩) NB167_187.out _).trans (hHeld.1)))))))))), ((cell_far (p := ⟨gb187, _, none⟩) NB167_187.out _).trans (((cell_far (p := ⟨gb187, _, none⟩) NB167_187.out _).trans (((cell_far (p := ⟨gb187, _, none⟩) NB167_187.out _).trans (((cell_far (p := ⟨gb187, _, none⟩) NB167_187.out _).trans (((cell_far (p := ⟨gb187, _, none⟩) NB167_187.out _).trans (hHeld.2.1)))))))))), ((cell_far (p := ⟨gb187, _, none⟩) NB167_187.out _).trans (((cell_far (p := ⟨gb187, _, none⟩) NB167_187.out _).trans (((cell_far (p := ⟨gb187, _, none⟩) NB167_187.out _).trans (((cell_far (p := ⟨gb187, _, none⟩) NB167_187.out _).trans (((cell_far (p := ⟨gb187, _, none⟩) NB167_187.out _).trans (hHeld.2.2.1)))))))))), ((cell_far (p := ⟨gb187, _, none⟩) NB167_187.out _).trans (((cell_far (p := ⟨gb187, _, none⟩) NB167_187.out _).trans (((cell_far (p := ⟨gb187, _, none⟩) NB167_187.out _).trans (((cell_far (p := ⟨gb187, _, none⟩) NB167_187.out _).trans (((cell_far (p := ⟨gb187, _, none⟩) NB167_187.out _).trans (hHeld.2.2.2.1)))))))))), ((cell_far (p := ⟨gb187, _, none⟩) NB167_187.out _).trans (((cell_far (p := ⟨gb187, _, none⟩) NB167_187.out _).trans (((cell_far (p := ⟨gb187, _, none⟩) NB167_187.out _).trans (((cell_far (p := ⟨gb187, _, none⟩) NB167_187.out _).trans (((cell_far (p := ⟨gb187, _, none⟩) NB167_187.out _).trans (hHeld.2.2.2.2))))))))))⟩ (fun hHeld => ?_)
                              clear hK K
                              refine done_ (done_of HT_.out (by kernel_rfl)) ?_
                              have hnb100 := NB177_167.out
                              have hnc100 := NB167_177.out
                              have hnb101 := NB177_185.out
                              have hnc101 := NB185_177.out
                              have hnb102 := NB177_186.out
                              have hnc102 := NB186_177.out
                              have hnb103 := NB177_187.out
                              have hnc103 := NB187_177.out
                              have hcz104_0 : w94.cell? ⟨gb177, 0, none⟩ = some (.int .i64 t171) := (blk_cell BK177.out 0).trans rfl
                              have hcz104_1 : w94.cell? ⟨gb177, 1, none⟩ = some (.int .i64 t172) := (blk_cell BK177.out 1).trans rfl
                              have hcz104_2 : w94.cell? ⟨gb177, 2, none⟩ = some (.int .i64 t173) := (blk_cell BK177.out 2).trans rfl
                              have hcz104_3 : w94.cell? ⟨gb177, 3, none⟩ = some (.int .i64 t174) := (blk_cell BK177.out 3).trans rfl
                              have hcz104_4 : w94.cell? ⟨gb177, 4, none⟩ = some (.int .u64 t175) := (blk_cell BK177.out 4).trans rfl
                              have hfz104_0 := blk_frozen BK177.out 0
                              have hfz104_1 := blk_frozen BK177.out 1
                              have hfz104_2 := blk_frozen BK177.out 2
                              have hfz104_3 := blk_frozen BK177.out 3
                              have hfz104_4 := blk_frozen BK177.out 4
                              have hnb105 := NB186_167.out
                              have hnc105 := NB167_186.out
                              have hnb106 := NB186_185.out
                              have hnc106 := NB185_186.out
                              have hnb107 := NB186_187.out
                              have hnc107 := NB187_186.out
                              have hcz108_0 : w94.cell? ⟨gb186, 0, none⟩ = some (.int .i64 1) := (blk_cell BK186.out 0).trans rfl
                              have hcz108_1 : w94.cell? ⟨gb186, 1, none⟩ = some (.int .i64 (wrap64 (Int.tmod a0 3))) := (blk_cell BK186.out 1).trans rfl
                              have hcz108_2 : w94.cell? ⟨gb186, 2, none⟩ = some (.int .i64 0) := (blk_cell BK186.out 2).trans rfl
                              have hcz108_3 : w94.cell? ⟨gb186, 3, none⟩ = some (.int .i64 0) := (blk_cell BK186.out 3).trans rfl
                              have hcz108_4 : w94.cell? ⟨gb186, 4, none⟩ = some (.int .u64 (Go.bits .or .u64 (Int.tmod (IntKind.u64.wrap (a1)) (ji8)) (ji34))) := (blk_cell BK186.out 4).trans rfl
                              have hfz108_0 := blk_frozen BK186.out 0
                              have hfz108_1 := blk_frozen BK186.out 1
                              have hfz108_2 := blk_frozen BK186.out 2
                              have hfz108_3 := blk_frozen BK186.out 3
                              have hfz108_4 := blk_frozen BK186.out 4
                              have hnb109 := NB185_167.out
                              have hnc109 := NB167_185.out
                              have hnb110 := NB185_187.out
                              have hnc110 := NB187_185.out
                              have hcz111_0 : w94.cell? ⟨gb185, 0, none⟩ = some (.int .i64 t179) := (blk_cell BK185.out 0).trans rfl
                              have hcz111_1 : w94.cell? ⟨gb185, 1, none⟩ = some (.int .i64 t180) := (blk_cell BK185.out 1).trans rfl
                              have hcz111_2 : w94.cell? ⟨gb185, 2, none⟩ = some (.int .i64 t181) := (blk_cell BK185.out 2).trans rfl
                              have hcz111_3 : w94.cell? ⟨gb185, 3, none⟩ = some (.int .i64 t182) := (blk_cell BK185.out 3).trans rfl
                              have hcz111_4 : w94.cell? ⟨gb185, 4, none⟩ = some (.int .u64 t183) := (blk_cell BK185.out 4).trans rfl
                              have hfz111_0 := blk_frozen BK185.out 0
                              have hfz111_1 := blk_frozen BK185.out 1
                              have hfz111_2 := blk_frozen BK185.out 2
                              have hfz111_3 := blk_frozen BK185.out 3
                              have hfz111_4 := blk_frozen BK185.out 4
                              have hnb112 := NB187_167.out
                              have hnc112 := NB167_187.out
                              have hcz113_0 : w94.cell? ⟨gb187, 0, none⟩ = some (.int .i64 0) := (blk_cell BK187.out 0).trans rfl
                              have hcz113_1 : w94.cell? ⟨gb187, 1, none⟩ = some (.int .i64 0) := (blk_cell BK187.out 1).trans rfl
                              have hcz113_2 : w94.cell? ⟨gb187, 2, none⟩ = some (.int .i64 0) := (blk_cell BK187.out 2).trans rfl
                              have hcz113_3 : w94.cell? ⟨gb187, 3, none⟩ = some (.int .i64 0) := (blk_cell BK187.out 3).trans rfl
                              have hcz113_4 : w94.cell? ⟨gb187, 4, none⟩ = some (.int .u64 0) := (blk_cell BK187.out 4).trans rfl
                              have hfz113_0 := blk_frozen BK187.out 0
                              have hfz113_1 := blk_frozen BK187.out 1
                              have hfz113_2 := blk_frozen BK187.out 2
                              have hfz113_3 := blk_frozen BK187.out 3
                              have hfz113_4 := blk_frozen BK187.out 4
                              try go_wp2_with (first | (go_at_call 21; (with_reducible refine (chunk_Room.calls t179 t180 t181 t182 t183 t188 _ (by first | ((repeat (first | (with_reducible exact HG) | apply GL_drewN | apply GL_drew)); done) | exact GL_below HG (by repeat (first | (with_reducible first | exact HB.out | apply below_alloc | apply pw_below_drewN | apply below_drew1) | exact HB.out | refine below_set ?_ (Aside0.out (by assumption))))) A40.out).mono ?_); rintro e w114 ⟨rfl, hb⟩; have n0_ := Aside0.mk (blk_below (g := gb167) (o := .cells #[.int .i64 1, .int .i64 (wrap64 (Int.tmod a0 3)), .int .i64 0, .int .i64 0, .int .u64 (Int.tmod (IntKind.u64.wrap (a1)) (ji8))] 24 (0, 0)) (by (with_reducible repeat (first | refine blk_drewN ?_ _ | refine blk_drew ?_ | refine blk_alloc ?_ _)); refine blk_far ?_ NB167_187.out _; (with_reducible repeat (first | refine blk_drewN ?_ _ | refine blk_drew ?_ | refine blk_alloc ?_ _)); refine blk_far ?_ NB167_187.out _; (with_reducible repeat (first | refine blk_drewN ?_ _ | refine blk_drew ?_ | refine blk_alloc ?_ _)); refine blk_far ?_ NB167_187.out _; (with_reducible repeat (first | refine blk_drewN ?_ _ | refine blk_drew ?_ | refine blk_alloc ?_ _)); refine blk_far ?_ NB167_187.out _; (with_reducible repeat (first | refine blk_drewN ?_ _ | refine blk_drew ?_ | refine blk_alloc ?_ _)); refine blk_far ?_ NB167_187.out _; (with_reducible repeat (first | refine blk_drewN ?_ _ | refine blk_drew ?_ | refine blk_alloc ?_ _)); exact BK167.out) hb); have n1_ := Aside0.mk (blk_below (g := gb177) (o := .cells #[.int .i64 t171, .int .i64 t172, .int .i64 t173, .int .i64 t174, .int .u64 t175] 24 (0, 0)) (by (with_reducible repeat (first | refine blk_drewN ?_ _ | refine blk_drew ?_ | refine blk_alloc ?_ _)); refine blk_far ?_ NB177_187.out _; (with_reducible repeat (first | refine blk_drewN ?_ _ | refine blk_drew ?_ | refine blk_alloc ?_ _)); refine blk_far ?_ NB177_187.out _; (with_reducible repeat (first | refine blk_drewN ?_ _ | refine blk_drew ?_ | refine blk_alloc ?_ _)); refine blk_far ?_ NB177_187.out _; (with_reducible repeat (first | refine blk_drewN ?_ _ | refine blk_drew ?_ | refine blk_alloc ?_ _)); refine blk_far ?_ NB177_187.out _; (with_reducible repeat (first | refine blk_drewN ?_ _ | refine blk_drew ?_ | refine blk_alloc ?_ _)); refine blk_far ?_ NB177_187.out _; (with_reducible repeat (first | refine blk_drewN ?_ _ | refine blk_drew ?_ | refine blk_alloc ?_ _)); exact BK177.out) hb); have n2_ := Aside0.mk (blk_below (g := gb185) (o := .cells #[.int .i64 t179, .int .i64 t180, .int .i64 t181, .int .i64 t182, .int .u64 t183] 24 (0, 0)) (by (with_reducible repeat (first | refine blk_drewN ?_ _ | refine blk_drew ?_ | refine blk_alloc ?_ _)); refine blk_far ?_ NB185_187.out _; (with_reducible repeat (first | refine blk_drewN ?_ _ | refine blk_drew ?_ | refine blk_alloc ?_ _)); refine blk_far ?_ NB185_187.out _; (with_reducible repeat (first | refine blk_drewN ?_ _ | refine blk_drew ?_ | refine blk_alloc ?_ _)); refine blk_far ?_ NB185_187.out _; (with_reducible repeat (first | refine blk_drewN ?_ _ | refine blk_drew ?_ | refine blk_alloc ?_ _)); refine blk_far ?_ NB185_187.out _; (with_reducible repeat (first | refine blk_drewN ?_ _ | refine blk_drew ?_ | refine blk_alloc ?_ _)); refine blk_far ?_ NB185_187.out _; (with_reducible repeat (first | refine blk_drewN ?_ _ | refine blk_drew ?_ | refine blk_alloc ?_ _)); exact BK185.out) hb); have n3_ := Aside0.mk (blk_below (g := gb186) (o := .cells #[.int .i64 1, .int .i64 (wrap64 (Int.tmod a0 3)), .int .i64 0, .int .i64 0, .int .u64 (Go.bits .or .u64 (Int.tmod (IntKind.u64.wrap (a1)) (ji8)) (ji34))] 24 (0, 0)) (by (with_reducible repeat (first | refine blk_drewN ?_ _ | refine blk_drew ?_ | refine blk_alloc ?_ _)); refine blk_far ?_ NB186_187.out _; (with_reducible repeat (first | refine blk_drewN ?_ _ | refine blk_drew ?_ | refine blk_alloc ?_ _)); refine blk_far ?_ NB186_187.out _; (with_reducible repeat (first | refine blk_drewN ?_ _ | refine blk_drew ?_ | refine blk_alloc ?_ _)); refine blk_far ?_ NB186_187.out _; (with_reducible repeat (first | refine blk_drewN ?_ _ | refine blk_drew ?_ | refine blk_alloc ?_ _)); refine blk_far ?_ NB186_187.out _; (with_reducible repeat (first | refine blk_drewN ?_ _ | refine blk_drew ?_ | refine blk_alloc ?_ _)); refine blk_far ?_ NB186_187.out _; (with_reducible repeat (first | refine blk_drewN ?_ _ | refine blk_drew ?_ | refine blk_alloc ?_ _)); exact BK186.out) hb); have n4_ := Aside0.mk (blk_below (g := gb187) (o := .cells #[.int .i64 1, .int .i64 (wrap64 (Int.tmod a0 3)), .int .i64 0, .int .i64 0, .int .u64 (Go.bits .andNot .u64 (Int.tmod (IntKind.u64.wrap (a1)) (ji8)) (ji34))] 24 (0, 0)) (by (with_reducible repeat (first | refine blk_drewN ?_ _ | refine blk_drew ?_ | refine blk_alloc ?_ _)); refine blk_put (cs := #[.int .i64 1, .int .i64 (wrap64 (Int.tmod a0 3)), .int .i64 0, .int .i64 0, .int .u64 0]) ?_ 4 _ rfl; (with_reducible repeat (first | refine blk_drewN ?_ _ | refine blk_drew ?_ | refine blk_alloc ?_ _)); refine blk_put (cs := #[.int .i64 1, .int .i64 (wrap64 (Int.tmod a0 3)), .int .i64 0, .int .i64 0, .int .u64 0]) ?_ 3 _ rfl; (with_reducible repeat (first | refine blk_drewN ?_ _ | refine blk_drew ?_ | refine blk_alloc ?_ _)); refine blk_put (cs := #[.int .i64 1, .int .i64 (wrap64 (Int.tmod a0 3)), .int .i64 0, .int .i64 0, .int .u64 0]) ?_ 2 _ rfl; (with_reducible repeat (first | refine blk_drewN ?_ _ | refine blk_drew ?_ | refine blk_alloc ?_ _)); refine blk_put (cs := #[.int .i64 1, .int .i64 0, .int .i64 0, .int .i64 0, .int .u64 0]) ?_ 1 _ rfl; (with_reducible repeat (first | refine blk_drewN ?_ _ | refine blk_drew ?_ | refine blk_alloc ?_ _)); refine blk_put (cs := #[.int .i64 0, .int .i64 0, .int .i64 0, .int .i64 0, .int .u64 0]) ?_ 0 _ rfl; (with_reducible repeat (first | refine blk_drewN ?_ _ | refine blk_drew ?_ | refine blk_alloc ?_ _)); exact BK187.out) hb); have n5_ := Aside0.mk (below_step (by repeat (first | (with_reducible first | exact HB.out | apply below_alloc | apply pw_below_drewN | apply below_drew1 | refine below_set ?_ GE167.out | refine below_set ?_ GE177.out | refine below_set ?_ GE185.out | refine below_set ?_ GE186.out | refine below_set ?_ GE187.out) | exact HB.out)) hb); clear BK167; clear BK177; clear BK185; clear BK186; clear BK187; clear HB; have BK167 := n0_; have BK177 := n1_; have BK185 := n2_; have BK186 := n3_; have BK187 := n4_; have HB := n5_; clear n0_ n1_ n2_ n3_ n4_ n5_; (try clear hb); (try clear hb2); (try clear hk); (try clear hi); have hcz115_0 : w114.cell? ⟨gb185, 0, none⟩ = some (.int .i64 t179) := (blk_cell BK185.out 0).trans rfl; have hcz115_1 : w114.cell? ⟨gb185, 1, none⟩ = some (.int .i64 t180) := (blk_cell BK185.out 1).trans rfl; have hcz115_2 : w114.cell? ⟨gb185, 2, none⟩ = some (.int .i64 t181) := (blk_cell BK185.out 2).trans rfl; have hcz115_3 : w114.cell? ⟨gb185, 3, none⟩ = some (.int .i64 t182) := (blk_cell BK185.out 3).trans rfl; have hcz115_4 : w114.cell? ⟨gb185, 4, none⟩ = some (.int .u64 t183) := (blk_cell BK185.out 4).trans rfl; have hfz115_0 := blk_frozen BK185.out 0; have hfz115_1 := blk_frozen BK185.out 1; have hfz115_2 := blk_frozen BK185.out 2; have hfz115_3 := blk_frozen BK185.out 3; have hfz115_4 := blk_frozen BK185.out 4) | (go_at_call 21; (with_reducible refine (chunk_Room.calls t179 t180 t181 t182 t183 t189 _ (by first | ((repeat (first | (with_reducible exact HG) | apply GL_drewN | apply GL_drew)); done) | exact GL_below HG (by repeat (first | (with_reducible first | exact HB.out | apply below_alloc | apply pw_below_drewN | apply below_drew1) | exact HB.out | refine below_set ?_ (Aside0.out (by assumption))))) A42.out).mono ?_); rintro e w116 ⟨rfl, hb⟩; have n0_ := Aside0.mk (blk_below (g := gb167) (o := .cells #[.int .i64 1, .int .i64 (wrap64 (Int.tmod a0 3)), .int .i64 0, .int .i64 0, .int .u64 (Int.tmod (IntKind.u64.wrap (a1)) (ji8))] 24 (0, 0)) (by (with_reducible repeat (first | refine blk_drewN ?_ _ | refine blk_drew ?_ | refine blk_alloc ?_ _)); exact BK167.out) hb); have n1_ := Aside0.mk (blk_below (g := gb177) (o := .cells #[.int .i64 t171, .int .i64 t172, .int .i64 t173, .int .i64 t174, .int .u64 t175] 24 (0, 0)) (by (with_reducible repeat (first | refine blk_drewN ?_ _ | refine blk_drew ?_ | refine blk_alloc ?_ _)); exact BK177.out) hb); have n2_ := Aside0.mk (blk_below (g := gb185) (o := .cells #[.int .i64 t179, .int .i64 t180, .int .i64 t181, .int .i64 t182, .int .u64 t183] 24 (0, 0)) (by (with_reducible repeat (first | refine blk_drewN ?_ _ | refine blk_drew ?_ | refine blk_alloc ?_ _)); exact BK185.out) hb); have n3_ := Aside0.mk (blk_below (g := gb186) (o := .cells #[.int .i64 1, .int .i64 (wrap64 (Int.tmod a0 3)), .int .i64 0, .int .i64 0, .int .u64 (Go.bits .or .u64 (Int.tmod (IntKind.u64.wrap (a1)) (ji8)) (ji34))] 24 (0, 0)) (by (with_reducible repeat (first | refine blk_drewN ?_ _ | refine blk_drew ?_ | refine blk_alloc ?_ _)); exact BK186.out) hb); have n4_ := Aside0.mk (blk_below (g := gb187) (o := .cells #[.int .i64 1, .int .i64 (wrap64 (Int.tmod a0 3)), .int .i64 0, .int .i64 0, .int .u64 (Go.bits .andNot .u64 (Int.tmod (IntKind.u64.wrap (a1)) (ji8)) (ji34))] 24 (0, 0)) (by (with_reducible repeat (first | refine blk_drewN ?_ _ | refine blk_drew ?_ | refine blk_alloc ?_ _)); exact BK187.out) hb); have n5_ := Aside0.mk (below_step (by repeat (first | (with_reducible first | exact HB.out | apply below_alloc | apply pw_below_drewN | apply below_drew1 | refine below_set ?_ GE167.out | refine below_set ?_ GE177.out | refine below_set ?_ GE185.out | refine below_set ?_ GE186.out | refine below_set ?_ GE187.out) | exact HB.out)) hb); clear BK167; clear BK177; clear BK185; clear BK186; clear BK187; clear HB; have BK167 := n0_; have BK177 := n1_; have BK185 := n2_; have BK186 := n3_; have BK187 := n4_; have HB := n5_; clear n0_ n1_ n2_ n3_ n4_ n5_; (try clear hb); (try clear hb2); (try clear hk); (try clear hi); have hcz117_0 : w116.cell? ⟨gb177, 0, none⟩ = some (.int .i64 t171) := (blk_cell BK177.out 0).trans rfl; have hcz117_1 : w116.cell? ⟨gb177, 1, none⟩ = some (.int .i64 t172) := (blk_cell BK177.out 1).trans rfl; have hcz117_2 : w116.cell? ⟨gb177, 2, none⟩ = some (.int .i64 t173) := (blk_cell BK177.out 2).trans rfl; have hcz117_3 : w116.cell? ⟨gb177, 3, none⟩ = some (.int .i64 t174) := (blk_cell BK177.out 3).trans rfl; have hcz117_4 : w116.cell? ⟨gb177, 4, none⟩ = some (.int .u64 t175) := (blk_cell BK177.out 4).trans rfl; have hfz117_0 := blk_frozen BK177.out 0; have hfz117_1 := blk_frozen BK177.out 1; have hfz117_2 := blk_frozen BK177.out 2; have hfz117_3 := blk_frozen BK177.out 3; have hfz117_4 := blk_frozen BK177.out 4) | (go_at_call 21; (with_reducible refine (chunk_Room.calls t171 t172 t173 t174 t175 t190 _ (by first | ((repeat (first | (with_reducible exact HG) | apply GL_drewN | apply GL_drew)); done) | exact GL_below HG (by repeat (first | (with_reducible first | exact HB.out | apply below_alloc | apply pw_below_drewN | apply below_drew1) | exact HB.out | refine below_set ?_ (Aside0.out (by assumption))))) A44.out).mono ?_); rintro e w118 ⟨rfl, hb⟩; have n0_ := Aside0.mk (blk_below (g := gb167) (o := .cells #[.int .i64 1, .int .i64 (wrap64 (Int.tmod a0 3)), .int .i64 0, .int .i64 0, .int .u64 (Int.tmod (IntKind.u64.wrap (a1)) (ji8))] 24 (0, 0)) (by (with_reducible repeat (first | refine blk_drewN ?_ _ | refine blk_drew ?_ | refine blk_alloc ?_ _)); exact BK167.out) hb); have n1_ := Aside0.mk (blk_below (g := gb177) (o := .cells #[.int .i64 t171, .int .i64 t172, .int .i64 t173, .int .i64 t174, .int .u64 t175] 24 (0, 0)) (by (with_reducible repeat (first | refine blk_drewN ?_ _ | refine blk_drew ?_ | refine blk_alloc ?_ _)); exact BK177.out) hb); have n2_ := Aside0.mk (blk_below (g := gb185) (o := .cells #[.int .i64 t179, .int .i64 t180, .int .i64 t181, .int .i64 t182, .int .u64 t183] 24 (0, 0)) (by (with_reducible repeat (first | refine blk_drewN ?_ _ | refine blk_drew ?_ | refine blk_alloc ?_ _)); exact BK185.out) hb); have n3_ := Aside0.mk (blk_below (g := gb186) (o := .cells #[.int .i64 1, .int .i64 (wrap64 (Int.tmod a0 3)), .int .i64 0, .int .i64 0, .int .u64 (Go.bits .or .u64 (Int.tmod (IntKind.u64.wrap (a1)) (ji8)) (ji34))] 24 (0, 0)) (by (with_reducible repeat (first | refine blk_drewN ?_ _ | refine blk_drew ?_ | refine blk_alloc ?_ _)); exact BK186.out) hb); have n4_ := Aside0.mk (blk_below (g := gb187) (o := .cells #[.int .i64 1, .int .i64 (wrap64 (Int.tmod a0 3)), .int .i64 0, .int .i64 0, .int .u64 (Go.bits .andNot .u64 (Int.tmod (IntKind.u64.wrap (a1)) (ji8)) (ji34))] 24 (0, 0)) (by (with_reducible repeat (first | refine blk_drewN ?_ _ | refine blk_drew ?_ | refine blk_alloc ?_ _)); exact BK187.out) hb); have n5_ := Aside0.mk (below_step (by repeat (first | (with_reducible first | exact HB.out | apply below_alloc | apply pw_below_drewN | apply below_drew1 | refine below_set ?_ GE167.out | refine below_set ?_ GE177.out | refine below_set ?_ GE185.out | refine below_set ?_ GE186.out | refine below_set ?_ GE187.out) | exact HB.out)) hb); clear BK167; clear BK177; clear BK185; clear BK186; clear BK187; clear HB; have BK167 := n0_; have BK177 := n1_; have BK185 := n2_; have BK186 := n3_; have BK187 := n4_; have HB := n5_; clear n0_ n1_ n2_ n3_ n4_ n5_; (try clear hb); (try clear hb2); (try clear hk); (try clear hi); have hcz119_0 : w118.cell? ⟨gb187, 0, none⟩ = some (.int .i64 1) := (blk_cell BK187.out 0).trans rfl; have hcz119_1 : w118.cell? ⟨gb187, 1, none⟩ = some (.int .i64 (wrap64 (Int.tmod a0 3))) := (blk_cell BK187.out 1).trans rfl; have hcz119_2 : w118.cell? ⟨gb187, 2, none⟩ = some (.int .i64 0) := (blk_cell BK187.out 2).trans rfl; have hcz119_3 : w118.cell? ⟨gb187, 3, none⟩ = some (.int .i64 0) := (blk_cell BK187.out 3).trans rfl; have hcz119_4 : w118.cell? ⟨gb187, 4, none⟩ = some (.int .u64 (Go.bits .andNot .u64 (Int.tmod (IntKind.u64.wrap (a1)) (ji8)) (ji34))) := (blk_cell BK187.out 4).trans rfl; have hfz119_0 := blk_frozen BK187.out 0; have hfz119_1 := blk_frozen BK187.out 1; have hfz119_2 := blk_frozen BK187.out 2; have hfz119_3 := blk_frozen BK187.out 3; have hfz119_4 := blk_frozen BK187.out 4))
                              go_ret
                              exact ⟨by first | rfl | (simp [errW_none, errW_some] <;> rfl) | (simp only [← hji8, ← hji32, ← hji34]; first | rfl | (simp [errW_none, errW_some] <;> rfl)) | (simp [*, errW_none, errW_some] <;> rfl), by repeat (first | (with_reducible first | exact HB.out | apply below_alloc | apply pw_below_drewN | apply below_drew1 | refine below_set ?_ GE167.out | refine below_set ?_ GE177.out | refine below_set ?_ GE185.out | refine below_set ?_ GE186.out | refine below_set ?_ GE187.out) | exact HB.out)⟩
                        · rw [if_neg c43] at H
                          have c43b0 : decide (t189 ≤ (ji32)) = false := decide_eq_false c43
                          clear c43
                          obtain rfl := Option.some.inj H
                          exact absurd HRT.out (by decide)
                      · rw [if_neg c41] at H
                        have c41b0 : decide (0 ≤ t188) = false := decide_eq_false c41
                        clear c41
                        obtain rfl := Option.some.inj H
                        exact absurd HRT.out (by decide)
                    · rw [if_neg c39] at H
                      have c39b0 : (t179 == 1 && (t180 == (wrap64 (Int.tmod a0 3)) && (t181 == 0 && (t182 == 0 && (t183 == (Go.bits .andNot .u64 (Int.tmod (IntKind.u64.wrap (a1)) (ji8)) (ji34))))))) = false := by simpa using c39
                      (try (have c39b1 : decide (t179 = 1 && (t180 == (wrap64 (Int.tmod a0 3)) && (t181 == 0 && (t182 == 0 && (t183 == (Go.bits .andNot .u64 (Int.tmod (IntKind.u64.wrap (a1)) (ji8)) (ji34))))))) = false := by simpa using c39))
                      (try (have c39b2 : (t179 == 1 && (t180 == (wrap64 (Int.tmod a0 3)) && (t181 == 0 && (t182 == 0 && (t183 == (Go.bits .andNot .u64 (Int.tmod (IntKind.u64.wrap (a1)) (ji8)) (ji34))))))) = false := by simpa using c39))
                      (try (have c39b3 : ¬ (t179 = 1 && (t180 == (wrap64 (Int.tmod a0 3)) && (t181 == 0 && (t182 == 0 && (t183 == (Go.bits .andNot .u64 (Int.tmod (IntKind.u64.wrap (a1)) (ji8)) (ji34))))))) := by simpa using c39))
                      clear c39
                      obtain rfl := Option.some.inj H
                      exact absurd HRT.out (by decide)
                  · rw [if_neg c38] at H
                    have c38b0 : (t171 == 1 && (t172 == (wrap64 (Int.tmod a0 3)) && (t173 == 0 && (t174 == 0 && (t175 == (Go.bits .or .u64 (Int.tmod (IntKind.u64.wrap (a1)) (ji8)) (ji34))))))) = false := by simpa using c38
                    (try (have c38b1 : decide (t171 = 1 && (t172 == (wrap64 (Int.tmod a0 3)) && (t173 == 0 && (t174 == 0 && (t175 == (Go.bits .or .u64 (Int.tmod (IntKind.u64.wrap (a1)) (ji8)) (ji34))))))) = false := by simpa using c38))
                    (try (have c38b2 : (t171 == 1 && (t172 == (wrap64 (Int.tmod a0 3)) && (t173 == 0 && (t174 == 0 && (t175 == (Go.bits .or .u64 (Int.tmod (IntKind.u64.wrap (a1)) (ji8)) (ji34))))))) = false := by simpa using c38))
                    (try (have c38b3 : ¬ (t171 = 1 && (t172 == (wrap64 (Int.tmod a0 3)) && (t173 == 0 && (t174 == 0 && (t175 == (Go.bits .or .u64 (Int.tmod (IntKind.u64.wrap (a1)) (ji8)) (ji34))))))) := by simpa using c38))
                    clear c38
                    obtain rfl := Option.some.inj H
                    exact absurd HRT.out (by decide)
                · replace c37 := Bool.eq_false_iff.mpr c37
                  subst c37
                  have H1 : (some false) = some r := by rw [if_neg (show ¬ (false = true) by decide)] at H; exact H
                  clear H
                  have H := H1
                  clear H1
                  obtain rfl := Option.some.inj H
                  exact absurd HRT.out (by decide)
              · rw [if_neg c33] at H
                exact absurd H (by simp)
    · rw [if_neg c7] at H
      exact absurd H (by simp)

/-- The one pure statement of lockfastlaw10_ChunkLives. -/
def lockfastlaw10_ChunkLives.Pure : Prop := ∀ (a0 : Int) (a1 : Int) (a2 : Int), (Lit.int .u8 a0).wf = true → (Lit.int .u8 a1).wf = true → (Lit.int .u8 a2).wf = true → ∃ k, lockfastlaw10_ChunkLives.f k a0 a1 a2 = some true

end Go.Proofs.YtilnnkjlddmhbaaDoor.PChunkLives
