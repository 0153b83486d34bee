-- WRITTEN FOR THIS CLAIM by given.py, a program of this session's: the kit's printer, run with contracts of the session's own. It is not a text of print.sh's.
import Derived.Test.YtilnnkjlddmhbaaDoorRows
import Derived.Test.YtilnnkjlddmhbaaDoorPChunkRoomsx5
import Derived.Test.YtilnnkjlddmhbaaDoorPureChunkRooms
import Derived.WalkKit
import Derived.ProofKit
import Derived.OpenShut
import Derived.ShutString
import Derived.ChangeOld
import Derived.Below
import Derived.SizedLaws
import Derived.Lib.SmallJoins
import Derived.Test.YtilnnkjlddmhbaaDoorWSized
import Derived.Test.YtilnnkjlddmhbaaDoorLaid
import Derived.Test.YtilnnkjlddmhbaaDoorAgg
namespace Go.Proofs.YtilnnkjlddmhbaaDoor.chunkRooms
open Go.ChangeShapes Go.WideShapes Go.ChangeAt Go.RowKit Go.Joins
open Go.ChangeMaps (open_string shut_string)
set_option linter.unusedVariables false
theorem own : ownKnob Tryd.prog.godebug = none := by kernel_rfl
theorem laidOut : laidOutB Tryd.prog = true := by kernel_rfl
def IsRow (k : IntKind) (w : World) (a : Option Addr) (len cap : Nat) (zs : List Int) : Prop :=
  (a = none ∧ len = 0 ∧ cap = 0 ∧ zs = []) ∨
  ∃ x, a = some x ∧ len ≤ cap ∧ cap ≤ maxLen ∧ zs.length = cap ∧ (∀ i, i < zs.length → w.cell? (x.add i) = some (.int k (zs.getD i 0))) ∧ ∀ n ∈ zs, (Lit.int k n).wf = true
open Go.Proofs.YtilnnkjlddmhbaaDoorX (laidWorld cells3 GL GL_of_laid)
theorem laidWorld_row (os : Os) : ((laidWorld os).forCall (fun _ _ => 0) ⟨#[], #[.agg #[.int .i64 0, .int .i64 0, .int .i64 0, .int .i64 0, .int .u64 0], .int .i64 0], []⟩).memory.heap[0]? = some (.cells cells3 58 (0, 0)) := by kernel_rfl
set_option maxRecDepth 100000 in
theorem lifted (os : Os) (started : os.Started) (H : Type) (enc : TypeId × Value → H) :
    ReturnsInHanded {} Tryd.checked os 5 .any (fun w args => (Rows.chunkRoomsSpec.pre enc Tryd.prog Tryd.f5 [] false w args ∧ laidMet Tryd.prog [("lockfast/class.blocks", Rows.laid_lockfast_class_blocks)] w) ∧ sizedMet enc Tryd.prog Tryd.f5 (OpenSpec.ofChange Rows.chunkRoomsSpec) false w args) (Rows.chunkRoomsSpec.post enc Tryd.prog Tryd.f5 false true false false) := by
  refine returnsInHanded_of_change_and (C := Tryd.checked) (X := fun w _ => laidMet Tryd.prog [("lockfast/class.blocks", Rows.laid_lockfast_class_blocks)] w) (fun _ _ _ hh h => h.of_heap hh) own started (by kernel_rfl) Tryd.func5
    (ChangeSpec.witness_at (enc := enc) (C := Tryd.checked) (os := os) (X := fun w _ => laidMet Tryd.prog [("lockfast/class.blocks", Rows.laid_lockfast_class_blocks)] w) false (laidWorld os) #[.agg #[.int .i64 0, .int .i64 0, .int .i64 0, .int .i64 0, .int .u64 0], .int .i64 0] 8 rfl (by kernel_rfl) (by kernel_rfl) (by kernel_rfl) (by kernel_rfl) (by kernel_rfl)
      ⟨_, ⟨0, 58, cells3, 8, [], [], by kernel_rfl, by kernel_rfl, by kernel_rfl, by kernel_rfl, rfl, rfl⟩, by decide, fun b off h => by
        have h' : MemPlace.cell b off ∈ [MemPlace.cell 0 0, .cell 0 1, .cell 0 2] := h
        have hb : b = 0 := by
          simp at h'
          omega
        subst hb
        refine ⟨⟨_, _, laidWorld_row os⟩, fun u v hc => ?_⟩
        simp only [World.cell?, laidWorld_row os] at hc
        simp at h'
        rcases h' with rfl | rfl | rfl <;> simp [cells3] at hc⟩) ?_
  intro W base args ds gs before hval0 hW hcnd hsz0 hL _
  have hsz : (DataW.weightsEach Tryd.prog (Tryd.f5.params.toList ++ Rows.chunkRoomsSpec.plain.varTypes Tryd.prog) (ds ++ gs)).all (· ≤ reachBytes) = true := hsz0
  have hval : ∀ (j : Nat) t v, Tryd.f5.params[j]? = some t → args[j]? = some v → Value.okWide Tryd.prog W .any base t v := hval0
  have hW' := hW
  obtain ⟨p, q, hA0, hV, rfl, hfz, hnd⟩ := hW
  have hA : DataW.TrodAll enc Tryd.prog W 0 (fun _ => true) true Tryd.f5.params.toList args.toList ds p := hA0
  rw [Tryd.params5] at hA hval hsz
  obtain ⟨v0, vs0, d0, ds0, p0, q0, hargs, rfl, rfl, h0, r0⟩ := trodAll_cons hA
  obtain ⟨v1, vs1, d1, ds1, p1, q1, rfl, rfl, rfl, h1, r1⟩ := trodAll_cons r0
  obtain ⟨rfl, rfl, rfl⟩ := trodAll_nil r1
  obtain rfl : args = #[v0, v1] := by cases args; simp_all
  obtain ⟨rfl, rfl⟩ := trodVars_none hV
  have k0 := h0
  have lt0 : ∀ x ∈ p0, x.block < W.heap.size := by obtain ⟨m, hm⟩ := k0; exact DataW.trod_lt m _ _ _ hm
  obtain ⟨c0_0, c0_1, c0_2, c0_3, c0_4, y0_0, y0_1, y0_2, y0_3, y0_4, m0, rfl, rfl, rfl, g0_0, g0_1, g0_2, g0_3, g0_4⟩ := open_agg5 Tryd.underlying24 (by kernel_rfl) (by kernel_rfl) (hval 0 24 v0 rfl rfl) h0
  obtain ⟨a0_0, e0_0, rfl, w0_0⟩ := DataW.trod_int Tryd.underlying3 g0_0
  simp at e0_0
  subst e0_0
  obtain ⟨a0_1, e0_1, rfl, w0_1⟩ := DataW.trod_int Tryd.underlying3 g0_1
  simp at e0_1
  subst e0_1
  obtain ⟨a0_2, e0_2, rfl, w0_2⟩ := DataW.trod_int Tryd.underlying3 g0_2
  simp at e0_2
  subst e0_2
  obtain ⟨a0_3, e0_3, rfl, w0_3⟩ := DataW.trod_int Tryd.underlying3 g0_3
  simp at e0_3
  subst e0_3
  obtain ⟨a0_4, e0_4, rfl, w0_4⟩ := DataW.trod_int Tryd.underlying22 g0_4
  simp at e0_4
  subst e0_4
  obtain ⟨a1, rfl, rfl, rfl, w1⟩ := open_int Tryd.underlying3 (hval 1 3 v1 rfl rfl) h1
  clear hA0 hval0 hsz0 hsz
  obtain ⟨kq, hq⟩ := Pure.ChunkRooms a0_0 a0_1 a0_2 a0_3 a0_4 a1 w0_0 w0_1 w0_2 w0_3 w0_4 w1
  refine (PChunkRooms.lockfastlaw10_ChunkRooms.calls kq a0_0 a0_1 a0_2 a0_3 a0_4 a1 true W (GL_of_laid hL) rfl hq).mono fun e W' ⟨he, bel0⟩ => ?_
  have bel : Below W.heap.size W W' := bel0
  subst he
  exact ⟨_, rfl, _, _, _, [], _, [], hW', trodAll_mk1 (shut_bool Tryd.underlying4 _), (trodAll_cons_mk (Below.trod laidOut (by kernel_rfl) (of_decide_eq_true (by kernel_rfl)) k0 bel lt0) (trodAll_cons_mk (shut_int Tryd.underlying3 w1) trodAll_mk0)), rfl, bel.frame _, fun h => by cases h⟩
theorem over : Rows.chunkRoomsRow.holds Tryd.pinned (OpenSpec.ofChange Rows.chunkRoomsSpec) :=
  OpenClaim.holds_of_wide 5 Tryd.f5 rfl rfl rfl rfl rfl rfl rfl ⟨rfl, rfl, rfl, rfl, rfl⟩ rfl rfl rfl rfl rfl (by kernel_rfl) Tryd.func5 (by kernel_rfl)
    (of_decide_eq_true (by kernel_rfl)) (by unfold Func.isWrapper; first | (rw [if_pos (by decide +kernel)]; kernel_rfl) | (rw [if_neg (by decide +kernel)]; exact ⟨rfl, rfl⟩))
    (fun os started H enc _ => lifted os started H enc)
theorem proved : Rows.ChunkRoomsSaid := over
end Go.Proofs.YtilnnkjlddmhbaaDoor.chunkRooms
namespace Go.Proofs.YtilnnkjlddmhbaaDoor
/-- The row, under a short name, for the claim. -/
theorem chunkRooms_holds : Rows.ChunkRoomsSaid := chunkRooms.proved
end Go.Proofs.YtilnnkjlddmhbaaDoor
