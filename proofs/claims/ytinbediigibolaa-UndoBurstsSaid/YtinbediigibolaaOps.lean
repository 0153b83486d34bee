/- An argument that is a slice of structs of three numbers, opened. -/
import Derived.Deep.Slices
import Derived.Deep.Fields
import Derived.ChangeSame
import Derived.Lib.SmallJoins
namespace Go.Proofs.Ytinbediigibolaa
open Go.Joins Go.ChangeShapes Go.WideShapes Go.RowKit Go.Deep
section
variable {H : Type} {enc : TypeId × Value → H} {P : Program} {w : World} {base : Nat} {spare : Nat → Bool} {held : Bool}
/-- Each field's reading, whatever their number. -/
theorem fields_read3 {t : TypeId} {fs : Array Field} {cs : List Value} {fuel : Nat} {x : DataW H × List MemPlace} (hs : P.underlying t = some (.struct fs)) (hone : oneCellFields P fs = true)
    (h : DataW.trod enc P w base spare held fuel t cs = some x) : ∃ (ys : List (DataW H × List MemPlace)) (n : Nat), ys.length = fs.size ∧ cs.length = P.cellsOf t ∧
      ∀ (j : Nat) (f : Field) (c : Value) (y : DataW H × List MemPlace), fs[j]? = some f → cs[j]? = some c → ys[j]? = some y → DataW.trod enc P w base spare held n f.type [c] = some y := by
  obtain ⟨ys, n, _, _, hl, hyl, hf⟩ := DataW.trod_struct hs h
  refine ⟨ys, n, hyl, hl, fun j f c y hj hc hy => ?_⟩
  have h1 := hf j f hj
  obtain ⟨ho, hk⟩ := hone_of hone j f hj
  rw [ho, hk, hy] at h1
  obtain ⟨hlt, hce⟩ := List.getElem?_eq_some_iff.1 hc
  have h2 : (cs.drop j).take 1 = [c] := by
    rw [List.drop_eq_getElem_cons hlt, hce]
    rfl
  rwa [h2] at h1
theorem list_of {α : Type} (Q : Nat → α → Prop) : ∀ (n : Nat), (∀ i, i < n → ∃ x, Q i x) → ∃ l : List α, l.length = n ∧ ∀ i x, l[i]? = some x → Q i x
  | 0, _ => ⟨[], rfl, fun i x h => by simp at h⟩
  | n + 1, h => by
    obtain ⟨l, hl, hq⟩ := list_of Q n (fun i hi => h i (by omega))
    obtain ⟨x, hx⟩ := h n (by omega)
    refine ⟨l ++ [x], by simp [hl], fun i y hy => ?_⟩
    by_cases e : i < n
    · rw [List.getElem?_append_left (by omega)] at hy
      exact hq i y hy
    · have hi : i = n := by
        have := (List.getElem?_eq_some_iff.1 hy).1
        simp [hl] at this
        omega
      subst hi
      rw [List.getElem?_append_right (by omega), hl] at hy
      simp at hy
      subst hy
      exact hx
theorem ops_arg {t e : TypeId} {f0 f1 f2 : Field} {k0 k1 k2 : IntKind} (ht : P.underlying t = some (.slice e)) (he : P.underlying e = some (.struct #[f0, f1, f2])) (hone : oneCellFields P #[f0, f1, f2] = true) (hC : P.cellsOf e = 3)
    (h0 : P.underlying f0.type = some (.int k0)) (h1 : P.underlying f1.type = some (.int k1)) (h2 : P.underlying f2.type = some (.int k2)) {a : Option Addr} {len cap : Nat} {d : DataW H} {p : List MemPlace} (h : DataW.Trod enc P w base spare held t (.slice a len cap) d p) :
    len ≤ cap ∧ len ≤ maxLen ∧ ∃ q : List (Int × Int × Int), q.length = len ∧ (0 < len → ∃ ad, a = some ad ∧ ∀ i x, q[i]? = some x → w.cell? (ad.add (i * 3)) = some (.int k0 x.1) ∧ w.cell? (ad.add (i * 3 + 1)) = some (.int k1 x.2.1) ∧ w.cell? (ad.add (i * 3 + 2)) = some (.int k2 x.2.2)) ∧
      ∀ x ∈ q, (Lit.int k0 x.1).wf = true ∧ (Lit.int k1 x.2.1).wf = true ∧ (Lit.int k2 x.2.2).wf = true := by
  obtain ⟨fuel, hf⟩ := h
  rcases open_slice ht hf with ⟨hcs, _⟩ | ⟨x, l, c, m, n, D, Pl, hcs, _, hl, hm, hmm, _, hi⟩
  · simp [Value.cells] at hcs
    obtain ⟨rfl, rfl, rfl⟩ := hcs
    exact ⟨by omega, by omega, [], rfl, fun h => by omega, fun x hx => by simp at hx⟩
  · simp [Value.cells] at hcs
    obtain ⟨rfl, rfl, rfl⟩ := hcs
    have hlm : len ≤ m := by rw [hmm]; split <;> omega
    obtain ⟨q, hq, hQ⟩ := list_of (fun i (y : Int × Int × Int) => (w.cell? (x.add (i * 3)) = some (.int k0 y.1) ∧ w.cell? (x.add (i * 3 + 1)) = some (.int k1 y.2.1) ∧ w.cell? (x.add (i * 3 + 2)) = some (.int k2 y.2.2)) ∧ (Lit.int k0 y.1).wf = true ∧ (Lit.int k1 y.2.1).wf = true ∧ (Lit.int k2 y.2.2).wf = true) len (fun i hil => by
      obtain ⟨cs', hc, ht'⟩ := hi i (by omega)
      rw [hC] at hc
      obtain ⟨_, hcl, hat⟩ := World.cells?_some hc
      obtain ⟨ys, n', hyl, _, hr⟩ := fields_read3 he hone ht'
      match cs', hcl, ys, hyl with
      | [c0, c1, c2], _, [y0, y1, y2], _ =>
        obtain ⟨z0, e0, _, w0⟩ := DataW.trod_int h0 (hr 0 f0 c0 y0 rfl rfl rfl)
        obtain ⟨z1, e1, _, w1⟩ := DataW.trod_int h1 (hr 1 f1 c1 y1 rfl rfl rfl)
        obtain ⟨z2, e2, _, w2⟩ := DataW.trod_int h2 (hr 2 f2 c2 y2 rfl rfl rfl)
        simp at e0 e1 e2
        subst e0; subst e1; subst e2
        refine ⟨(z0, z1, z2), ⟨?_, ?_, ?_⟩, w0, w1, w2⟩
        · have := hat 0 (by omega); rw [Go.Deep.add_add] at this; exact this
        · have := hat 1 (by omega); rw [Go.Deep.add_add] at this; exact this
        · have := hat 2 (by omega); rw [Go.Deep.add_add] at this; exact this)
    refine ⟨hl, by omega, q, hq, fun _ => ⟨x, rfl, fun i y hy => (hQ i y hy).1⟩, fun y hy => ?_⟩
    obtain ⟨i, hi', rfl⟩ := List.mem_iff_getElem.1 hy
    exact (hQ i _ (List.getElem?_eq_getElem hi')).2
end
end Go.Proofs.Ytinbediigibolaa
