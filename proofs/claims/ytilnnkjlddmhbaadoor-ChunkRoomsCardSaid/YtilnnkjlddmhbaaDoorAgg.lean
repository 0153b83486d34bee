/- A struct of five one-cell fields, handed by value, opened: out of the library's law on whole structs, field by field. -/
import Derived.Lib.SmallJoins
namespace Go.Proofs.YtilnnkjlddmhbaaDoor
open Go.Joins Go.ChangeShapes Go.WideShapes Go.RowKit Go.Deep
section
variable {H : Type} {enc : TypeId × Value → H} {P : Program} {w : World} {base : Nat} {spare : Nat → Bool} {held : Bool}
/-- Each field's reading, whatever their number. -/
theorem fields_read {t : TypeId} {fs : Array Field} {cs : List Value} {fuel : Nat} {x : DataW H × List MemPlace} (hs : P.underlying t = some (.struct fs)) (hone : oneCellFields P fs = true)
    (h : DataW.trod enc P w base spare held fuel t cs = some x) : ∃ (ys : List (DataW H × List MemPlace)) (n : Nat), x = (.agg (ys.map (·.1)), ys.flatMap (·.2)) ∧ ys.length = fs.size ∧ cs.length = P.cellsOf t ∧
      ∀ (j : Nat) (f : Field) (c : Value) (y : DataW H × List MemPlace), fs[j]? = some f → cs[j]? = some c → ys[j]? = some y → DataW.trod enc P w base spare held n f.type [c] = some y := by
  obtain ⟨ys, n, _, hx, hl, hyl, hf⟩ := DataW.trod_struct hs h
  refine ⟨ys, n, hx, hyl, hl, fun j f c y hj hc hy => ?_⟩
  have h1 := hf j f hj
  obtain ⟨ho, hk⟩ := hone_of hone j f hj
  rw [ho, hk, hy] at h1
  obtain ⟨hlt, hce⟩ := List.getElem?_eq_some_iff.1 hc
  have h2 : (cs.drop j).take 1 = [c] := by
    rw [List.drop_eq_getElem_cons hlt, hce]
    rfl
  rwa [h2] at h1
theorem five {α : Type} (l : List α) (h : l.length = 5) : ∃ a b c d e, l = [a, b, c, d, e] := by
  match l, h with
  | [a, b, c, d, e], _ => exact ⟨a, b, c, d, e, rfl⟩
theorem open_agg5 {r : Reach} {b0 : Nat} {t : TypeId} {f0 f1 f2 f3 f4 : Field} {v : Value} {d : DataW H} {p : List MemPlace} (hs : P.underlying t = some (.struct #[f0, f1, f2, f3, f4])) (hone : oneCellFields P #[f0, f1, f2, f3, f4] = true) (hC : P.cellsOf t = 5)
    (hv : Value.okWide P w r b0 t v) (h : DataW.Trod enc P w base spare held t v d p) :
    ∃ (c0 c1 c2 c3 c4 : Value) (y0 y1 y2 y3 y4 : DataW H × List MemPlace) (n : Nat), v = .agg #[c0, c1, c2, c3, c4] ∧ d = .agg [y0.1, y1.1, y2.1, y3.1, y4.1] ∧ p = y0.2 ++ (y1.2 ++ (y2.2 ++ (y3.2 ++ y4.2))) ∧
      DataW.trod enc P w base spare held n f0.type [c0] = some y0 ∧ DataW.trod enc P w base spare held n f1.type [c1] = some y1 ∧ DataW.trod enc P w base spare held n f2.type [c2] = some y2 ∧ DataW.trod enc P w base spare held n f3.type [c3] = some y3 ∧ DataW.trod enc P w base spare held n f4.type [c4] = some y4 := by
  obtain ⟨cs, rfl, _⟩ := okWide_struct hs hv
  obtain ⟨fuel, hf⟩ := h
  obtain ⟨ys, n, hx, hyl, hl, hr⟩ := fields_read hs hone hf
  rw [hC] at hl
  have hcl : cs.toList.length = 5 := by simpa [Value.cells] using hl
  obtain ⟨c0, c1, c2, c3, c4, hc⟩ := five cs.toList hcl
  obtain ⟨y0, y1, y2, y3, y4, rfl⟩ := five ys (by simpa using hyl)
  have hcs : cs = #[c0, c1, c2, c3, c4] := by
    apply Array.toList_inj.1
    rw [hc]
  subst hcs
  simp only [Prod.mk.injEq] at hx
  exact ⟨c0, c1, c2, c3, c4, y0, y1, y2, y3, y4, n, rfl, by simpa using hx.1, by simpa using hx.2, hr 0 f0 c0 y0 rfl rfl rfl, hr 1 f1 c1 y1 rfl rfl rfl, hr 2 f2 c2 y2 rfl rfl rfl, hr 3 f3 c3 y3 rfl rfl rfl, hr 4 f4 c4 y4 rfl rfl rfl⟩
end
end Go.Proofs.YtilnnkjlddmhbaaDoor
