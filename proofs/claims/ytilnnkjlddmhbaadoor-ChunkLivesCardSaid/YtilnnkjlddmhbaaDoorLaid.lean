/- The listed variable class.blocks: what the row's premise says of the cells, and a world that meets it. -/
import Derived.Test.YtilnnkjlddmhbaaDoorRows
import Derived.Test.YtilnnkjlddmhbaaDoorGL
import Derived.ChangeSame
import Derived.ChangeVars
import Derived.JoinedOf
import Derived.RowKit
import Derived.Handed
namespace Go.Proofs.YtilnnkjlddmhbaaDoorX
open Go.ChangeShapes Go.WideShapes Go.RowKit Go.Proofs.YtilnnkjlddmhbaaDoor
theorem own : ownKnob Tryd.prog.godebug = none := by kernel_rfl
theorem blk : Tryd.prog.globalNamed "lockfast/class.blocks" = some 0 := by kernel_rfl
theorem blkType : (Tryd.prog.globals[0]?).map (·.type) = some 58 := by kernel_rfl
theorem cellsArr : Tryd.prog.cellsOf 58 = 3 := by kernel_rfl
theorem cellsInt : Tryd.prog.cellsOf 3 = 1 := by kernel_rfl
theorem int_of_trod {H : Type} {enc : TypeId × Value → H} {P : Program} {w : World} {base : Nat} {sp : Nat → Bool} {held : Bool} {fuel : Nat} {t : TypeId} {k : IntKind} {c : Value} {y : DataW H × List MemPlace}
    (ht : P.underlying t = some (.int k)) (h : DataW.trod enc P w base sp held fuel t [c] = some y) : ∃ n, c = .int k n ∧ y = (.lit (.int k n), []) := by
  cases fuel with
  | zero => simp [DataW.trod] at h
  | succ fuel =>
    cases c <;> simp [DataW.trod, ht] at h
    rename_i k' n
    obtain ⟨⟨rfl, _⟩, rfl⟩ := h
    exact ⟨n, rfl, rfl⟩
def cells3 : Array Value := #[.int .i64 4, .int .i64 8, .int .i64 16]
theorem cells_of_laid {W : World} (h : laidMet Tryd.prog [("lockfast/class.blocks", Rows.laid_lockfast_class_blocks)] W) : W.var? Tryd.prog "lockfast/class.blocks" = some cells3 := by
  obtain ⟨ps, ⟨g, t, cs, fuel, p, q, hg, ht, hvar, hd, _, _⟩, _⟩ := h
  obtain rfl := Option.some.inj (blk.symm.trans hg)
  obtain rfl := Option.some.inj (blkType.symm.trans ht)
  rw [hvar]
  congr 1
  obtain ⟨l⟩ := cs
  cases fuel with
  | zero => simp [DataW.trod] at hd
  | succ fuel =>
    simp only [DataW.trod, Tryd.underlying58, cellsArr, cellsInt] at hd
    split at hd
    · rename_i hl
      obtain ⟨c0, c1, c2, rfl⟩ : ∃ c0 c1 c2, l = [c0, c1, c2] := by
        match l, hl with
        | [a, b, c], _ => exact ⟨a, b, c, rfl⟩
      have e : List.range 3 = [0, 1, 2] := rfl
      rw [e] at hd
      simp only [Option.map_eq_some_iff, List.mapM_cons, List.mapM_nil, Option.bind_eq_bind, Option.bind_eq_some_iff, Option.pure_def, Option.some.injEq] at hd
      obtain ⟨xs, ⟨y0, h0, _, ⟨y1, h1, _, ⟨y2, h2, _, rfl, rfl⟩, rfl⟩, rfl⟩, hx⟩ := hd
      obtain ⟨n0, rfl, rfl⟩ := int_of_trod Tryd.underlying3 h0
      obtain ⟨n1, rfl, rfl⟩ := int_of_trod Tryd.underlying3 h1
      obtain ⟨n2, rfl, rfl⟩ := int_of_trod Tryd.underlying3 h2
      simp [Rows.laid_lockfast_class_blocks] at hx
      obtain ⟨⟨rfl, rfl, rfl⟩, _⟩ := hx
      rfl
    · cases hd
theorem GL_of_laid {W : World} (h : laidMet Tryd.prog [("lockfast/class.blocks", Rows.laid_lockfast_class_blocks)] W) : GL W :=
  ⟨World.var?_cell blk (cells_of_laid h) 0, World.var?_cell blk (cells_of_laid h) 1, World.var?_cell blk (cells_of_laid h) 2⟩
noncomputable def laidWorld (os : Os) : World :=
  { World.holding Tryd.prog os ⟨#[], #[], []⟩ with heap := (World.holding Tryd.prog os ⟨#[], #[], []⟩).heap.modify 0 fun
      | .cells _ t frozen => .cells cells3 t frozen
      | o => o }
end Go.Proofs.YtilnnkjlddmhbaaDoorX
