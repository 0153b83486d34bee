-- WRITTEN FOR THIS CLAIM by given.py, a program of this session's: the kit's printer, run with contracts of the session's own. It is not a text of print.sh's.
import Derived.Test.YtnoclgnlmkpkbaaRows
import Derived.Test.YtnoclgnlmkpkbaaPRedoAppliesx8
import Derived.Test.YtnoclgnlmkpkbaaPureRedoApplies
import Derived.WalkKit
import Derived.ProofKit
import Derived.OpenShut
import Derived.ShutString
import Derived.ChangeOld
import Derived.Below
import Derived.SizedLaws
import Derived.Lib.SmallJoins
import Derived.Test.YtnoclgnlmkpkbaaWSized
import Derived.Test.YtnoclgnlmkpkbaaOps
namespace Go.Proofs.Ytnoclgnlmkpkbaa.redoApplies
open Go.ChangeShapes Go.WideShapes Go.ChangeAt Go.RowKit Go.Joins
open Go.ChangeMaps (open_string shut_string)
set_option linter.unusedVariables false
theorem own : ownKnob Try.prog.godebug = none := by kernel_rfl
theorem laidOut : laidOutB Try.prog = true := by kernel_rfl
def IsRow (k : IntKind) (w : World) (a : Option Addr) (len cap : Nat) (zs : List Int) : Prop :=
  (a = none ∧ len = 0 ∧ cap = 0 ∧ zs = []) ∨
  ∃ x, a = some x ∧ len ≤ cap ∧ cap ≤ maxLen ∧ zs.length = cap ∧ (∀ i, i < zs.length → w.cell? (x.add i) = some (.int k (zs.getD i 0))) ∧ ∀ n ∈ zs, (Lit.int k n).wf = true
set_option maxRecDepth 100000 in
theorem lifted (os : Os) (started : os.Started) (H : Type) (enc : TypeId × Value → H) :
    ReturnsInHanded {} Try.checked os 5 .any (Rows.redoAppliesSpec.pre6 enc Try.prog Try.f5 Rows.redoAppliesRow.domain false) (Rows.redoAppliesSpec.post enc Try.prog Try.f5 false true false false) := by
  refine returnsInHanded_of_change_sized (C := Try.checked) own started (by kernel_rfl) Try.func5
    (ChangeSpec.witness6 (enc := enc) (C := Try.checked) false ⟨#[], #[.slice none 0 0, .slice none 0 0, .int .u64 0, .agg #[.int .i64 0, .int .i64 0, .int .u64 0], .int .i64 0], []⟩ 8 (by kernel_rfl) (by kernel_rfl) (by kernel_rfl) (by kernel_rfl)) ?_
  intro W base args ds gs before hval0 hW hcnd hsz0 _
  have hsz : (DataW.weightsEach Try.prog (Try.f5.params.toList ++ Rows.redoAppliesSpec.plain.varTypes Try.prog) (ds ++ gs)).all (· ≤ reachBytes) = true := hsz0
  have hval : ∀ (j : Nat) t v, Try.f5.params[j]? = some t → args[j]? = some v → Value.okWide Try.prog W .any base t v := hval0
  have hW' := hW
  obtain ⟨p, q, hA0, hV, rfl, hfz, hnd⟩ := hW
  have hA : DataW.TrodAll enc Try.prog W 0 (fun _ => true) true Try.f5.params.toList args.toList ds p := hA0
  rw [Try.params5] at hA hval hsz
  obtain ⟨v0, vs0, d0, ds0, p0, q0, hargs, rfl, rfl, h0, r0⟩ := trodAll_cons hA
  obtain ⟨v1, vs1, d1, ds1, p1, q1, rfl, rfl, rfl, h1, r1⟩ := trodAll_cons r0
  obtain ⟨v2, vs2, d2, ds2, p2, q2, rfl, rfl, rfl, h2, r2⟩ := trodAll_cons r1
  obtain ⟨v3, vs3, d3, ds3, p3, q3, rfl, rfl, rfl, h3, r3⟩ := trodAll_cons r2
  obtain ⟨v4, vs4, d4, ds4, p4, q4, rfl, rfl, rfl, h4, r4⟩ := trodAll_cons r3
  obtain ⟨rfl, rfl, rfl⟩ := trodAll_nil r4
  obtain rfl : args = #[v0, v1, v2, v3, v4] := by cases args; simp_all
  obtain ⟨rfl, rfl⟩ := trodVars_none hV
  obtain ⟨a0, len0, cap0, rfl⟩ := okWide_slice Try.underlying24 (hval 0 24 v0 rfl rfl)
  have k0 := h0
  have lt0 : ∀ x ∈ p0, x.block < W.heap.size := by obtain ⟨m, hm⟩ := k0; exact DataW.trod_lt m _ _ _ hm
  obtain ⟨z0, w0⟩ : ∃ zs, IsRow .u64 W a0 len0 cap0 zs := by
    obtain ⟨fuel, hf⟩ := h0
    rcases open_ints Try.underlying24 Try.underlying33 (by kernel_rfl) hf with ⟨hcs, _⟩ | ⟨x, l, c, zs, hcs, _, hl, hm, hz, _, hcell, hwz⟩
    · simp [Value.cells] at hcs
      obtain ⟨rfl, rfl, rfl⟩ := hcs
      exact ⟨[], .inl ⟨rfl, rfl, rfl, rfl⟩⟩
    · simp [Value.cells] at hcs
      obtain ⟨rfl, rfl, rfl⟩ := hcs
      exact ⟨zs, .inr ⟨_, rfl, hl, hm, by simpa using hz, hcell, hwz⟩⟩
  have y0 : len0 * 8 ≤ 140737488351232 := Go.Proofs.YtnoclgnlmkpkbaaW.PrintWords.sized_ints hsz (j := 0) (t := 24) rfl rfl Try.underlying24 Try.underlying33 (by kernel_rfl) (by kernel_rfl) h0
  obtain ⟨l0, rfl, hr0, hm0, hw0, hc0⟩ := Go.Proofs.YtnoclgnlmkpkbaaW.PrintWords.ReadsInt.ofRowC w0
  obtain ⟨a1, len1, cap1, rfl⟩ := okWide_slice Try.underlying22 (hval 1 22 v1 rfl rfl)
  have k1 := h1
  have lt1 : ∀ x ∈ p1, x.block < W.heap.size := by obtain ⟨m, hm⟩ := k1; exact DataW.trod_lt m _ _ _ hm
  obtain ⟨hc1, hm1, q1q, hq1, hr1, w1⟩ := ops_arg Try.underlying22 Try.underlying38 (by kernel_rfl) (by kernel_rfl) Try.underlying3 Try.underlying3 Try.underlying33 h1
  obtain ⟨l1, hl1⟩ : ∃ l : List PRedoApplies.S38, l = q1q.map (fun x => (⟨x.1, x.2.1, x.2.2⟩ : PRedoApplies.S38)) := ⟨_, rfl⟩
  have hll1 : l1.length = len1 := by rw [hl1, List.length_map]; exact hq1
  subst hll1
  have hC1 : Go.Proofs.YtnoclgnlmkpkbaaW.PrintWords.Kd.C PRedoApplies.k38 W a1 l1.length l1 := ⟨rfl, by simpa [maxLen] using hm1, fun hn => by
    obtain ⟨ad, ea, hcell⟩ := hr1 hn
    refine ⟨ad, ea, fun j p hj => ⟨[.int .i64 p.f0, .int .i64 p.f1, .int .u64 p.f2], rfl, PRedoApplies.k38_mk W p, fun i u hu => ?_⟩⟩
    rw [hl1, List.getElem?_map] at hj
    obtain ⟨x, hx, rfl⟩ := Option.map_eq_some_iff.1 hj
    obtain ⟨g0, g1, g2⟩ := hcell j x hx
    match i, hu with
    | 0, hu => injection hu with hu; subst hu; exact g0
    | 1, hu => injection hu with hu; subst hu; exact g1
    | 2, hu => injection hu with hu; subst hu; exact g2⟩
  have hw1 : ∀ x ∈ l1, (Lit.int .i64 x.f0).wf = true ∧ (Lit.int .i64 x.f1).wf = true ∧ (Lit.int .u64 x.f2).wf = true := fun x hx => by
    rw [hl1] at hx
    obtain ⟨y, hy, rfl⟩ := List.mem_map.1 hx
    exact w1 y hy
  obtain ⟨a2, rfl, rfl, rfl, w2⟩ := open_int Try.underlying33 (hval 2 33 v2 rfl rfl) h2
  have k3 := h3
  have lt3 : ∀ x ∈ p3, x.block < W.heap.size := by obtain ⟨m, hm⟩ := k3; exact DataW.trod_lt m _ _ _ hm
  obtain ⟨c3_0, c3_1, c3_2, y3_0, y3_1, y3_2, m3, rfl, rfl, rfl, g3_0, g3_1, g3_2⟩ := open_agg3 Try.underlying38 (by kernel_rfl) (by kernel_rfl) (hval 3 38 v3 rfl rfl) h3
  obtain ⟨a3_0, e3_0, rfl, w3_0⟩ := DataW.trod_int Try.underlying3 g3_0
  simp at e3_0
  subst e3_0
  obtain ⟨a3_1, e3_1, rfl, w3_1⟩ := DataW.trod_int Try.underlying3 g3_1
  simp at e3_1
  subst e3_1
  obtain ⟨a3_2, e3_2, rfl, w3_2⟩ := DataW.trod_int Try.underlying33 g3_2
  simp at e3_2
  subst e3_2
  obtain ⟨a4, rfl, rfl, rfl, w4⟩ := open_int Try.underlying3 (hval 4 3 v4 rfl rfl) h4
  clear hA0 hval0 hsz0 hsz
  obtain ⟨kq, hq⟩ := Pure.RedoApplies l0 l1 a2 a3_0 a3_1 a3_2 a4 hm0 y0 hw0 hm1 hw1 w2 w3_0 w3_1 w3_2 w4
  refine (PRedoApplies.lockfastlaw12_RedoApplies.calls kq _ _ l0 _ _ l1 a2 a3_0 a3_1 a3_2 a4 true W rfl (Go.Proofs.YtnoclgnlmkpkbaaW.PrintWords.Kd.C_of_reads (d := (0 : Int)) (h1 := fun _ => rfl) hr0) hc0 hC1 hc1 hq).mono fun e W' ⟨he, bel0⟩ => ?_
  have bel : Below W.heap.size W W' := bel0
  subst he
  exact ⟨_, rfl, _, _, _, [], _, [], hW', trodAll_mk1 (shut_bool Try.underlying4 _), (trodAll_cons_mk (Below.trod laidOut (by kernel_rfl) (of_decide_eq_true (by kernel_rfl)) k0 bel lt0) (trodAll_cons_mk (Below.trod laidOut (by kernel_rfl) (of_decide_eq_true (by kernel_rfl)) k1 bel lt1) (trodAll_cons_mk (shut_int Try.underlying33 w2) (trodAll_cons_mk (Below.trod laidOut (by kernel_rfl) (of_decide_eq_true (by kernel_rfl)) k3 bel lt3) (trodAll_cons_mk (shut_int Try.underlying3 w4) trodAll_mk0))))), rfl, bel.frame _, fun h => by cases h⟩
theorem over : Rows.redoAppliesRow.holds Try.pinned (OpenSpec.ofChange Rows.redoAppliesSpec) :=
  OpenClaim.holds_of_wide 5 Try.f5 rfl rfl rfl rfl rfl rfl rfl ⟨rfl, rfl, rfl, rfl, rfl⟩ rfl rfl rfl rfl rfl (by kernel_rfl) Try.func5 (by kernel_rfl)
    (of_decide_eq_true (by kernel_rfl)) (by unfold Func.isWrapper; first | (rw [if_pos (by decide +kernel)]; kernel_rfl) | (rw [if_neg (by decide +kernel)]; exact ⟨rfl, rfl⟩))
    (fun os started H enc _ => lifted os started H enc)
theorem proved : Rows.RedoAppliesSaid := over
end Go.Proofs.Ytnoclgnlmkpkbaa.redoApplies
namespace Go.Proofs.Ytnoclgnlmkpkbaa
/-- The row, under a short name, for the claim. -/
theorem redoApplies_holds : Rows.RedoAppliesSaid := redoApplies.proved
end Go.Proofs.Ytnoclgnlmkpkbaa
