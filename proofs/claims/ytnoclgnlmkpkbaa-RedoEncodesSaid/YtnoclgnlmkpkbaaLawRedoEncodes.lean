-- WRITTEN FOR THIS CLAIM by given.py, a program of this session's: the kit's printer, run with contracts of the session's own. It is not a text of print.sh's.
import Derived.Test.YtnoclgnlmkpkbaaRows
import Derived.Test.YtnoclgnlmkpkbaaPRedoEncodesx7
import Derived.Test.YtnoclgnlmkpkbaaPureRedoEncodes
import Derived.WalkKit
import Derived.ProofKit
import Derived.OpenShut
import Derived.ShutString
import Derived.ChangeOld
import Derived.Below
import Derived.SizedLaws
import Derived.Lib.SmallJoins
import Derived.Test.YtnoclgnlmkpkbaaWSized
import Derived.Test.YtnoclgnlmkpkbaaOps
namespace Go.Proofs.Ytnoclgnlmkpkbaa.redoEncodes
open Go.ChangeShapes Go.WideShapes Go.ChangeAt Go.RowKit Go.Joins
open Go.ChangeMaps (open_string shut_string)
set_option linter.unusedVariables false
theorem own : ownKnob Try.prog.godebug = none := by kernel_rfl
theorem laidOut : laidOutB Try.prog = true := by kernel_rfl
def IsRow (k : IntKind) (w : World) (a : Option Addr) (len cap : Nat) (zs : List Int) : Prop :=
  (a = none ∧ len = 0 ∧ cap = 0 ∧ zs = []) ∨
  ∃ x, a = some x ∧ len ≤ cap ∧ cap ≤ maxLen ∧ zs.length = cap ∧ (∀ i, i < zs.length → w.cell? (x.add i) = some (.int k (zs.getD i 0))) ∧ ∀ n ∈ zs, (Lit.int k n).wf = true
set_option maxRecDepth 100000 in
theorem lifted (os : Os) (started : os.Started) (H : Type) (enc : TypeId × Value → H) :
    ReturnsInHanded {} Try.checked os 3 .any (Rows.redoEncodesSpec.pre6 enc Try.prog Try.f3 Rows.redoEncodesRow.domain false) (Rows.redoEncodesSpec.post enc Try.prog Try.f3 false true false false) := by
  refine returnsInHanded_of_change_sized (C := Try.checked) own started (by kernel_rfl) Try.func3
    (ChangeSpec.witness6 (enc := enc) (C := Try.checked) false ⟨#[], #[.slice none 0 0], []⟩ 8 (by kernel_rfl) (by kernel_rfl) (by kernel_rfl) (by kernel_rfl)) ?_
  intro W base args ds gs before hval0 hW hcnd hsz0 _
  have hsz : (DataW.weightsEach Try.prog (Try.f3.params.toList ++ Rows.redoEncodesSpec.plain.varTypes Try.prog) (ds ++ gs)).all (· ≤ reachBytes) = true := hsz0
  have hval : ∀ (j : Nat) t v, Try.f3.params[j]? = some t → args[j]? = some v → Value.okWide Try.prog W .any base t v := hval0
  have hW' := hW
  obtain ⟨p, q, hA0, hV, rfl, hfz, hnd⟩ := hW
  have hA : DataW.TrodAll enc Try.prog W 0 (fun _ => true) true Try.f3.params.toList args.toList ds p := hA0
  rw [Try.params3] at hA hval hsz
  obtain ⟨v0, vs0, d0, ds0, p0, q0, hargs, rfl, rfl, h0, r0⟩ := trodAll_cons hA
  obtain ⟨rfl, rfl, rfl⟩ := trodAll_nil r0
  obtain rfl : args = #[v0] := by cases args; simp_all
  obtain ⟨rfl, rfl⟩ := trodVars_none hV
  obtain ⟨a0, len0, cap0, rfl⟩ := okWide_slice Try.underlying22 (hval 0 22 v0 rfl rfl)
  have k0 := h0
  have lt0 : ∀ x ∈ p0, x.block < W.heap.size := by obtain ⟨m, hm⟩ := k0; exact DataW.trod_lt m _ _ _ hm
  obtain ⟨hc0, hm0, q0q, hq0, hr0, w0⟩ := ops_arg Try.underlying22 Try.underlying38 (by kernel_rfl) (by kernel_rfl) Try.underlying3 Try.underlying3 Try.underlying33 h0
  obtain ⟨l0, hl0⟩ : ∃ l : List PRedoEncodes.S38, l = q0q.map (fun x => (⟨x.1, x.2.1, x.2.2⟩ : PRedoEncodes.S38)) := ⟨_, rfl⟩
  have hll0 : l0.length = len0 := by rw [hl0, List.length_map]; exact hq0
  subst hll0
  have hC0 : Go.Proofs.YtnoclgnlmkpkbaaW.PrintWords.Kd.C PRedoEncodes.k38 W a0 l0.length l0 := ⟨rfl, by simpa [maxLen] using hm0, fun hn => by
    obtain ⟨ad, ea, hcell⟩ := hr0 hn
    refine ⟨ad, ea, fun j p hj => ⟨[.int .i64 p.f0, .int .i64 p.f1, .int .u64 p.f2], rfl, PRedoEncodes.k38_mk W p, fun i u hu => ?_⟩⟩
    rw [hl0, List.getElem?_map] at hj
    obtain ⟨x, hx, rfl⟩ := Option.map_eq_some_iff.1 hj
    obtain ⟨g0, g1, g2⟩ := hcell j x hx
    match i, hu with
    | 0, hu => injection hu with hu; subst hu; exact g0
    | 1, hu => injection hu with hu; subst hu; exact g1
    | 2, hu => injection hu with hu; subst hu; exact g2⟩
  have hw0 : ∀ x ∈ l0, (Lit.int .i64 x.f0).wf = true ∧ (Lit.int .i64 x.f1).wf = true ∧ (Lit.int .u64 x.f2).wf = true := fun x hx => by
    rw [hl0] at hx
    obtain ⟨y, hy, rfl⟩ := List.mem_map.1 hx
    exact w0 y hy
  clear hA0 hval0 hsz0 hsz
  obtain ⟨kq, hq⟩ := Pure.RedoEncodes l0 hm0 hw0
  refine (PRedoEncodes.lockfastlaw12_RedoEncodes.calls kq _ _ l0 true W rfl hC0 hc0 hq).mono fun e W' ⟨he, bel0⟩ => ?_
  have bel : Below W.heap.size W W' := bel0
  subst he
  exact ⟨_, rfl, _, _, _, [], _, [], hW', trodAll_mk1 (shut_bool Try.underlying4 _), (trodAll_cons_mk (Below.trod laidOut (by kernel_rfl) (of_decide_eq_true (by kernel_rfl)) k0 bel lt0) trodAll_mk0), rfl, bel.frame _, fun h => by cases h⟩
theorem over : Rows.redoEncodesRow.holds Try.pinned (OpenSpec.ofChange Rows.redoEncodesSpec) :=
  OpenClaim.holds_of_wide 3 Try.f3 rfl rfl rfl rfl rfl rfl rfl ⟨rfl, rfl, rfl, rfl, rfl⟩ rfl rfl rfl rfl rfl (by kernel_rfl) Try.func3 (by kernel_rfl)
    (of_decide_eq_true (by kernel_rfl)) (by unfold Func.isWrapper; first | (rw [if_pos (by decide +kernel)]; kernel_rfl) | (rw [if_neg (by decide +kernel)]; exact ⟨rfl, rfl⟩))
    (fun os started H enc _ => lifted os started H enc)
theorem proved : Rows.RedoEncodesSaid := over
end Go.Proofs.Ytnoclgnlmkpkbaa.redoEncodes
namespace Go.Proofs.Ytnoclgnlmkpkbaa
/-- The row, under a short name, for the claim. -/
theorem redoEncodes_holds : Rows.RedoEncodesSaid := redoEncodes.proved
end Go.Proofs.Ytnoclgnlmkpkbaa
