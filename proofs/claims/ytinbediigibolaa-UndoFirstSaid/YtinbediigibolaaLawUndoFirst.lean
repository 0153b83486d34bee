-- WRITTEN FOR THIS CLAIM by given.py, a program of this session's: the kit's printer, run with contracts of the session's own. It is not a text of print.sh's.
import Derived.Test.YtinbediigibolaaRows
import Derived.Test.YtinbediigibolaaPUndoFirstx7
import Derived.Test.YtinbediigibolaaPureUndoFirst
import Derived.WalkKit
import Derived.ProofKit
import Derived.OpenShut
import Derived.ShutString
import Derived.ChangeOld
import Derived.Below
import Derived.SizedLaws
import Derived.Lib.SmallJoins
import Derived.Test.YtinbediigibolaaWSized
import Derived.Test.YtinbediigibolaaEntry
namespace Go.Proofs.Ytinbediigibolaa.undoFirst
open Go.ChangeShapes Go.WideShapes Go.ChangeAt Go.RowKit Go.Joins
open Go.ChangeMaps (open_string shut_string)
set_option linter.unusedVariables false
theorem own : ownKnob Try.prog.godebug = none := by kernel_rfl
theorem laidOut : laidOutB Try.prog = true := by kernel_rfl
def IsRow (k : IntKind) (w : World) (a : Option Addr) (len cap : Nat) (zs : List Int) : Prop :=
  (a = none ∧ len = 0 ∧ cap = 0 ∧ zs = []) ∨
  ∃ x, a = some x ∧ len ≤ cap ∧ cap ≤ maxLen ∧ zs.length = cap ∧ (∀ i, i < zs.length → w.cell? (x.add i) = some (.int k (zs.getD i 0))) ∧ ∀ n ∈ zs, (Lit.int k n).wf = true
set_option maxRecDepth 100000 in
theorem lifted (os : Os) (started : os.Started) (H : Type) (enc : TypeId × Value → H) :
    ReturnsInHanded {} Try.checked os 9 .any (Rows.undoFirstSpec.pre6 enc Try.prog Try.f9 Rows.undoFirstRow.domain false) (Rows.undoFirstSpec.post enc Try.prog Try.f9 false true false false) := by
  refine returnsInHanded_of_change_sized (C := Try.checked) own started (by kernel_rfl) Try.func9
    (ChangeSpec.witness6 (enc := enc) (C := Try.checked) false ⟨#[], #[.slice none 0 0, .slice none 0 0], []⟩ 8 (by kernel_rfl) (by kernel_rfl) (by kernel_rfl) (by kernel_rfl)) ?_
  intro W base args ds gs before hval0 hW hcnd hsz0 _
  have hsz : (DataW.weightsEach Try.prog (Try.f9.params.toList ++ Rows.undoFirstSpec.plain.varTypes Try.prog) (ds ++ gs)).all (· ≤ reachBytes) = true := hsz0
  have hval : ∀ (j : Nat) t v, Try.f9.params[j]? = some t → args[j]? = some v → Value.okWide Try.prog W .any base t v := hval0
  have hW' := hW
  obtain ⟨p, q, hA0, hV, rfl, hfz, hnd⟩ := hW
  have hA : DataW.TrodAll enc Try.prog W 0 (fun _ => true) true Try.f9.params.toList args.toList ds p := hA0
  rw [Try.params9] at hA hval hsz
  obtain ⟨v0, vs0, d0, ds0, p0, q0, hargs, rfl, rfl, h0, r0⟩ := trodAll_cons hA
  obtain ⟨v1, vs1, d1, ds1, p1, q1, rfl, rfl, rfl, h1, r1⟩ := trodAll_cons r0
  obtain ⟨rfl, rfl, rfl⟩ := trodAll_nil r1
  obtain rfl : args = #[v0, v1] := by cases args; simp_all
  obtain ⟨rfl, rfl⟩ := trodVars_none hV
  obtain ⟨a0, len0, cap0, rfl⟩ := okWide_slice Try.underlying23 (hval 0 23 v0 rfl rfl)
  have k0 := h0
  have lt0 : ∀ x ∈ p0, x.block < W.heap.size := by obtain ⟨m, hm⟩ := k0; exact DataW.trod_lt m _ _ _ hm
  obtain ⟨z0, w0⟩ : ∃ zs, IsRow .u64 W a0 len0 cap0 zs := by
    obtain ⟨fuel, hf⟩ := h0
    rcases open_ints Try.underlying23 Try.underlying22 (by kernel_rfl) hf with ⟨hcs, _⟩ | ⟨x, l, c, zs, hcs, _, hl, hm, hz, _, hcell, hwz⟩
    · simp [Value.cells] at hcs
      obtain ⟨rfl, rfl, rfl⟩ := hcs
      exact ⟨[], .inl ⟨rfl, rfl, rfl, rfl⟩⟩
    · simp [Value.cells] at hcs
      obtain ⟨rfl, rfl, rfl⟩ := hcs
      exact ⟨zs, .inr ⟨_, rfl, hl, hm, by simpa using hz, hcell, hwz⟩⟩
  have y0 : len0 * 8 ≤ 140737488351232 := Go.Proofs.YtinbediigibolaaW.PrintWords.sized_ints hsz (j := 0) (t := 23) rfl rfl Try.underlying23 Try.underlying22 (by kernel_rfl) (by kernel_rfl) h0
  obtain ⟨l0, rfl, hr0, hm0, hw0, hc0⟩ := Go.Proofs.YtinbediigibolaaW.PrintWords.ReadsInt.ofRowC w0
  obtain ⟨a1, len1, cap1, rfl⟩ := okWide_slice Try.underlying34 (hval 1 34 v1 rfl rfl)
  have k1 := h1
  have lt1 : ∀ x ∈ p1, x.block < W.heap.size := by obtain ⟨m, hm⟩ := k1; exact DataW.trod_lt m _ _ _ hm
  obtain ⟨hc1, hm1, q1q, hq1, hr1, w1⟩ := ents_arg Try.underlying34 Try.underlying25 (by kernel_rfl) (by kernel_rfl) Try.underlying3 Try.underlying23 Try.underlying22 (by kernel_rfl) h1
  obtain ⟨l1, hl1⟩ : ∃ l : List PUndoFirst.S25, l = q1q.map (fun x => (⟨x.1, x.2⟩ : PUndoFirst.S25)) := ⟨_, rfl⟩
  have hll1 : l1.length = len1 := by rw [hl1, List.length_map]; exact hq1
  subst hll1
  have hC1 : Go.Proofs.YtinbediigibolaaW.PrintWords.Kd.C PUndoFirst.k25 W a1 l1.length l1 := ⟨rfl, by simpa [maxLen] using hm1, fun hn => by
    obtain ⟨ad, ea, hcell⟩ := hr1 hn
    refine ⟨ad, ea, fun j p hj => ?_⟩
    rw [hl1, List.getElem?_map] at hj
    obtain ⟨x, hx, rfl⟩ := Option.map_eq_some_iff.1 hj
    obtain ⟨A, c, g0, g1, gl, gC⟩ := hcell j x hx
    refine ⟨[.int .i64 x.1, .slice A x.2.length c], rfl, PUndoFirst.k25_mk W ⟨x.1, x.2⟩ gl gC, fun i u hu => ?_⟩
    match i, hu with
    | 0, hu => injection hu with hu; subst hu; exact g0
    | 1, hu => injection hu with hu; subst hu; exact g1⟩
  have hw1 : ∀ x ∈ l1, (Lit.int .i64 x.f0).wf = true ∧ ∀ z ∈ x.f1, (Lit.int .u64 z).wf = true := fun x hx => by
    rw [hl1] at hx
    obtain ⟨y, hy, rfl⟩ := List.mem_map.1 hx
    exact w1 y hy
  clear hA0 hval0 hsz0 hsz
  obtain ⟨kq, hq⟩ := Pure.UndoFirst l0 l1 hm0 y0 hw0 hm1 hw1
  refine (PUndoFirst.lockfastlaw13_UndoFirst.calls kq _ _ l0 _ _ l1 true W rfl (Go.Proofs.YtinbediigibolaaW.PrintWords.Kd.C_of_reads (d := (0 : Int)) (h1 := fun _ => rfl) hr0) hc0 hC1 hc1 hq).mono fun e W' ⟨he, bel0⟩ => ?_
  have bel : Below W.heap.size W W' := bel0
  subst he
  exact ⟨_, rfl, _, _, _, [], _, [], hW', trodAll_mk1 (shut_bool Try.underlying4 _), (trodAll_cons_mk (Below.trod laidOut (by kernel_rfl) (of_decide_eq_true (by kernel_rfl)) k0 bel lt0) (trodAll_cons_mk (Below.trod laidOut (by kernel_rfl) (of_decide_eq_true (by kernel_rfl)) k1 bel lt1) trodAll_mk0)), rfl, bel.frame _, fun h => by cases h⟩
theorem over : Rows.undoFirstRow.holds Try.pinned (OpenSpec.ofChange Rows.undoFirstSpec) :=
  OpenClaim.holds_of_wide 9 Try.f9 rfl rfl rfl rfl rfl rfl rfl ⟨rfl, rfl, rfl, rfl, rfl⟩ rfl rfl rfl rfl rfl (by kernel_rfl) Try.func9 (by kernel_rfl)
    (of_decide_eq_true (by kernel_rfl)) (by unfold Func.isWrapper; first | (rw [if_pos (by decide +kernel)]; kernel_rfl) | (rw [if_neg (by decide +kernel)]; exact ⟨rfl, rfl⟩))
    (fun os started H enc _ => lifted os started H enc)
theorem proved : Rows.UndoFirstSaid := over
end Go.Proofs.Ytinbediigibolaa.undoFirst
namespace Go.Proofs.Ytinbediigibolaa
/-- The row, under a short name, for the claim. -/
theorem undoFirst_holds : Rows.UndoFirstSaid := undoFirst.proved
end Go.Proofs.Ytinbediigibolaa
