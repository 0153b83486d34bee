/- An argument that is an entry (a number and words), or a slice of such, opened. -/
import Derived.Test.YtinbediigibolaaOps
import Derived.Test.YtinbediigibolaaWWords
import Derived.Test.YtinbediigibolaaWLast
import Derived.ChangeSlices
namespace Go.Proofs.Ytinbediigibolaa
open Go.Joins Go.ChangeShapes Go.WideShapes Go.RowKit Go.Deep Go.Proofs.YtinbediigibolaaW.PrintWords
section
variable {H : Type} {enc : TypeId × Value → H} {P : Program} {w : World} {base : Nat} {spare : Nat → Bool} {held : Bool}
theorem words_field {t e : TypeId} {k : IntKind} {fuel : Nat} {cs : List Value} {x : DataW H × List MemPlace} (ht : P.underlying t = some (.slice e)) (he : P.underlying e = some (.int k)) (hc : P.cellsOf e = 1) (h : DataW.trod enc P w base spare held fuel t cs = some x) :
    ∃ (A : Option Addr) (c : Nat) (l : List Int), cs = [.slice A l.length c] ∧ l.length ≤ c ∧ l.length ≤ maxLen ∧ Kd.C (Kd.int k) w A l.length l ∧ ∀ z ∈ l, (Lit.int k z).wf = true := by
  rcases open_ints ht he hc h with ⟨rfl, _⟩ | ⟨a, len, cap, zs, rfl, _, hl, hm, hz, _, hcell, hwz⟩
  · exact ⟨none, 0, [], rfl, Nat.le_refl _, by simp, Kd.C_of_reads (d := (0 : Int)) (h1 := fun _ => rfl) ⟨rfl, by simp, fun hn => absurd hn (by simp)⟩, fun z hz => by cases hz⟩
  · have hlz : len ≤ zs.length := by rw [hz]; split <;> omega
    have hlt : (zs.take len).length = len := by rw [List.length_take, Nat.min_eq_left hlz]
    refine ⟨some a, cap, zs.take len, by rw [hlt], by omega, by omega, Kd.C_of_reads (d := (0 : Int)) (h1 := fun _ => rfl) ⟨rfl, by rw [hlt]; simp only [maxLen] at hm; omega, fun hn => ⟨a, rfl, fun j hj => ?_⟩⟩, fun z hz' => hwz z (List.mem_of_mem_take hz')⟩
    have hjl : j < len := by omega
    rw [hcell j (by omega)]
    simp [List.getD_eq_getElem?_getD, hjl]
theorem ents_arg {t e es : TypeId} {f0 f1 : Field} {k0 k1 : IntKind} (ht : P.underlying t = some (.slice e)) (he : P.underlying e = some (.struct #[f0, f1])) (hone : oneCellFields P #[f0, f1] = true) (hC : P.cellsOf e = 2)
    (h0 : P.underlying f0.type = some (.int k0)) (h1 : P.underlying f1.type = some (.slice es)) (h1e : P.underlying es = some (.int k1)) (h1c : P.cellsOf es = 1) {a : Option Addr} {len cap : Nat} {d : DataW H} {p : List MemPlace} (h : DataW.Trod enc P w base spare held t (.slice a len cap) d p) :
    len ≤ cap ∧ len ≤ maxLen ∧ ∃ q : List (Int × List Int), q.length = len ∧ (0 < len → ∃ ad, a = some ad ∧ ∀ i x, q[i]? = some x → ∃ A c, w.cell? (ad.add (i * 2)) = some (.int k0 x.1) ∧ w.cell? (ad.add (i * 2 + 1)) = some (.slice A x.2.length c) ∧ x.2.length ≤ c ∧ Kd.C (Kd.int k1) w A x.2.length x.2) ∧
      ∀ x ∈ q, (Lit.int k0 x.1).wf = true ∧ ∀ z ∈ x.2, (Lit.int k1 z).wf = true := by
  obtain ⟨fuel, hf⟩ := h
  rcases open_slice ht hf with ⟨hcs, _⟩ | ⟨x, l, c, m, n, D, Pl, hcs, _, hl, hm, hmm, _, hi⟩
  · simp [Value.cells] at hcs
    obtain ⟨rfl, rfl, rfl⟩ := hcs
    exact ⟨by omega, by omega, [], rfl, fun h => by omega, fun x hx => by simp at hx⟩
  · simp [Value.cells] at hcs
    obtain ⟨rfl, rfl, rfl⟩ := hcs
    have hlm : len ≤ m := by rw [hmm]; split <;> omega
    obtain ⟨q, hq, hQ⟩ := list_of (fun i (y : Int × List Int) => (∃ A c, w.cell? (x.add (i * 2)) = some (.int k0 y.1) ∧ w.cell? (x.add (i * 2 + 1)) = some (.slice A y.2.length c) ∧ y.2.length ≤ c ∧ Kd.C (Kd.int k1) w A y.2.length y.2) ∧ (Lit.int k0 y.1).wf = true ∧ ∀ z ∈ y.2, (Lit.int k1 z).wf = true) len (fun i hil => by
      obtain ⟨cs', hc, ht'⟩ := hi i (by omega)
      rw [hC] at hc
      obtain ⟨_, hcl, hat⟩ := World.cells?_some hc
      obtain ⟨ys, n', hyl, _, hr⟩ := fields_read3 he hone ht'
      match cs', hcl, ys, hyl with
      | [c0, c1], _, [y0, y1], _ =>
        obtain ⟨z0, e0, _, w0⟩ := DataW.trod_int h0 (hr 0 f0 c0 y0 rfl rfl rfl)
        obtain ⟨A, cc, l1, e1, hlc, _, hCl, w1⟩ := words_field h1 h1e h1c (hr 1 f1 c1 y1 rfl rfl rfl)
        simp at e0 e1
        subst e0; subst e1
        refine ⟨(z0, l1), ⟨A, cc, ?_, ?_, hlc, hCl⟩, w0, w1⟩
        · have := hat 0 (by omega); rw [Go.Deep.add_add] at this; exact this
        · have := hat 1 (by omega); rw [Go.Deep.add_add] at this; exact this)
    refine ⟨hl, by omega, q, hq, fun _ => ⟨x, rfl, fun i y hy => (hQ i y hy).1⟩, fun y hy => ?_⟩
    obtain ⟨i, hi', rfl⟩ := List.mem_iff_getElem.1 hy
    exact (hQ i _ (List.getElem?_eq_getElem hi')).2
end
end Go.Proofs.Ytinbediigibolaa
