/-
  No cell of these rows narrows 'for every input' (looked for: loops, veiled, ifaces, maps, wideKeys, modest, calm, conditions, laid).
  DERIVED. THE GIVEN ROWS OF THIS SEAT. 7 by the template 'for every input the law returns true; each argument reads behind the call as it read before'; 0 by the template 'total and deterministic' (their statements: YtinbediigibolaaTotals.lean).
  GIVEN WITH THE SEED: the statements are not yours to turn. If you find one false, say at which input.
  Laid BY PROGRAM, IN A SANDBOX (cutbox-rows.mjs): the forced cells as the released guide's own fill.sh prints them over the translation 70158046c31d940c… (all of the seat's roots in one cut). By AI agents, Wed Nov 11 2026. No macro, syntax, notation, axiom, sorry.
-/
import Derived.Test.YtinbediigibolaaChecked
import GoSem.Claim
import GoSem.ClaimJoined
import GoSem.ClaimMapViews
import Derived.JoinedTies
import Derived.KernelRfl
namespace Go.Proofs.Ytinbediigibolaa
/- THE CELL 'sum', in the pinned program and in every row, IS THE sha256 OF THE DUMP (.gsa) THAT YtinbediigibolaaProg.lean LOADS. Nothing in Lean hashes anything: it is a label: what it is worth is what the hold of that sum in a sandbox is worth. -/
noncomputable def Try.pinned : Pinned := { name := "ytinbediigibolaa", sum := "70158046c31d940c0e2f0e99a10adad6facaa596c3b776c1e9f3d748be995c14", checked := Try.checked }
namespace Rows
def none {H : Type} : Left H := { results := [], args := [] }

/-- 'lockfastlaw13.UndoEncodes': WHATEVER THE INPUT: true; the input reads as it did. -/
def undoEncodesSpec : ChangeSpec := { name := "undoEncodes", fn := fun _ => fun
  | [d1, d2] => { results := [.lit (.bool true)], args := [d1, d2] }
  | _ => none }
def undoEncodesRow : OpenClaim := { program := "ytinbediigibolaa", sum := "70158046c31d940c0e2f0e99a10adad6facaa596c3b776c1e9f3d748be995c14", func := "lockfast/lockfastlaw13.UndoEncodes", spec := "undoEncodes", unfollowed := true, recurses := true, apart := false }
def UndoEncodesSaid : Prop := undoEncodesRow.holds Try.pinned (OpenSpec.ofChange undoEncodesSpec)

/-- ITS FALSE NEIGHBOUR: 'it returns false'. Refute it at one input. -/
def undoEncodesWrong : ChangeSpec := { name := "undoEncodes", fn := fun _ => fun
  | [d1, d2] => { results := [.lit (.bool false)], args := [d1, d2] }
  | _ => none }
def UndoEncodesWrongFalsely : Prop := undoEncodesRow.holds Try.pinned (OpenSpec.ofChange undoEncodesWrong)

/-- 'lockfastlaw13.UndoDecodes': WHATEVER THE INPUT: true; the input reads as it did. -/
def undoDecodesSpec : ChangeSpec := { name := "undoDecodes", fn := fun _ => fun
  | [d1, d2] => { results := [.lit (.bool true)], args := [d1, d2] }
  | _ => none }
def undoDecodesRow : OpenClaim := { program := "ytinbediigibolaa", sum := "70158046c31d940c0e2f0e99a10adad6facaa596c3b776c1e9f3d748be995c14", func := "lockfast/lockfastlaw13.UndoDecodes", spec := "undoDecodes", unfollowed := true, recurses := true, apart := false }
def UndoDecodesSaid : Prop := undoDecodesRow.holds Try.pinned (OpenSpec.ofChange undoDecodesSpec)

/-- ITS FALSE NEIGHBOUR: 'it returns false'. Refute it at one input. -/
def undoDecodesWrong : ChangeSpec := { name := "undoDecodes", fn := fun _ => fun
  | [d1, d2] => { results := [.lit (.bool false)], args := [d1, d2] }
  | _ => none }
def UndoDecodesWrongFalsely : Prop := undoDecodesRow.holds Try.pinned (OpenSpec.ofChange undoDecodesWrong)

/-- 'lockfastlaw13.UndoList': WHATEVER THE INPUT: true; the input reads as it did. -/
def undoListSpec : ChangeSpec := { name := "undoList", fn := fun _ => fun
  | [d1, d2, d3] => { results := [.lit (.bool true)], args := [d1, d2, d3] }
  | _ => none }
def undoListRow : OpenClaim := { program := "ytinbediigibolaa", sum := "70158046c31d940c0e2f0e99a10adad6facaa596c3b776c1e9f3d748be995c14", func := "lockfast/lockfastlaw13.UndoList", spec := "undoList", unfollowed := true, recurses := true, apart := false }
def UndoListSaid : Prop := undoListRow.holds Try.pinned (OpenSpec.ofChange undoListSpec)

/-- ITS FALSE NEIGHBOUR: 'it returns false'. Refute it at one input. -/
def undoListWrong : ChangeSpec := { name := "undoList", fn := fun _ => fun
  | [d1, d2, d3] => { results := [.lit (.bool false)], args := [d1, d2, d3] }
  | _ => none }
def UndoListWrongFalsely : Prop := undoListRow.holds Try.pinned (OpenSpec.ofChange undoListWrong)

/-- 'lockfastlaw13.UndoBursts': WHATEVER THE INPUT: true; the input reads as it did. -/
def undoBurstsSpec : ChangeSpec := { name := "undoBursts", fn := fun _ => fun
  | [d1, d2, d3, d4] => { results := [.lit (.bool true)], args := [d1, d2, d3, d4] }
  | _ => none }
def undoBurstsRow : OpenClaim := { program := "ytinbediigibolaa", sum := "70158046c31d940c0e2f0e99a10adad6facaa596c3b776c1e9f3d748be995c14", func := "lockfast/lockfastlaw13.UndoBursts", spec := "undoBursts", unfollowed := true, recurses := true, apart := false }
def UndoBurstsSaid : Prop := undoBurstsRow.holds Try.pinned (OpenSpec.ofChange undoBurstsSpec)

/-- ITS FALSE NEIGHBOUR: 'it returns false'. Refute it at one input. -/
def undoBurstsWrong : ChangeSpec := { name := "undoBursts", fn := fun _ => fun
  | [d1, d2, d3, d4] => { results := [.lit (.bool false)], args := [d1, d2, d3, d4] }
  | _ => none }
def UndoBurstsWrongFalsely : Prop := undoBurstsRow.holds Try.pinned (OpenSpec.ofChange undoBurstsWrong)

/-- 'lockfastlaw13.UndoParts': WHATEVER THE INPUT: true; the input reads as it did. -/
def undoPartsSpec : ChangeSpec := { name := "undoParts", fn := fun _ => fun
  | [d1, d2, d3] => { results := [.lit (.bool true)], args := [d1, d2, d3] }
  | _ => none }
def undoPartsRow : OpenClaim := { program := "ytinbediigibolaa", sum := "70158046c31d940c0e2f0e99a10adad6facaa596c3b776c1e9f3d748be995c14", func := "lockfast/lockfastlaw13.UndoParts", spec := "undoParts", unfollowed := true, recurses := true, apart := false }
def UndoPartsSaid : Prop := undoPartsRow.holds Try.pinned (OpenSpec.ofChange undoPartsSpec)

/-- ITS FALSE NEIGHBOUR: 'it returns false'. Refute it at one input. -/
def undoPartsWrong : ChangeSpec := { name := "undoParts", fn := fun _ => fun
  | [d1, d2, d3] => { results := [.lit (.bool false)], args := [d1, d2, d3] }
  | _ => none }
def UndoPartsWrongFalsely : Prop := undoPartsRow.holds Try.pinned (OpenSpec.ofChange undoPartsWrong)

/-- 'lockfastlaw13.UndoBacks': WHATEVER THE INPUT: true; the input reads as it did. -/
def undoBacksSpec : ChangeSpec := { name := "undoBacks", fn := fun _ => fun
  | [d1, d2, d3] => { results := [.lit (.bool true)], args := [d1, d2, d3] }
  | _ => none }
def undoBacksRow : OpenClaim := { program := "ytinbediigibolaa", sum := "70158046c31d940c0e2f0e99a10adad6facaa596c3b776c1e9f3d748be995c14", func := "lockfast/lockfastlaw13.UndoBacks", spec := "undoBacks", unfollowed := true, recurses := true, apart := false }
def UndoBacksSaid : Prop := undoBacksRow.holds Try.pinned (OpenSpec.ofChange undoBacksSpec)

/-- ITS FALSE NEIGHBOUR: 'it returns false'. Refute it at one input. -/
def undoBacksWrong : ChangeSpec := { name := "undoBacks", fn := fun _ => fun
  | [d1, d2, d3] => { results := [.lit (.bool false)], args := [d1, d2, d3] }
  | _ => none }
def UndoBacksWrongFalsely : Prop := undoBacksRow.holds Try.pinned (OpenSpec.ofChange undoBacksWrong)

/-- 'lockfastlaw13.UndoFirst': WHATEVER THE INPUT: true; the input reads as it did. -/
def undoFirstSpec : ChangeSpec := { name := "undoFirst", fn := fun _ => fun
  | [d1, d2] => { results := [.lit (.bool true)], args := [d1, d2] }
  | _ => none }
def undoFirstRow : OpenClaim := { program := "ytinbediigibolaa", sum := "70158046c31d940c0e2f0e99a10adad6facaa596c3b776c1e9f3d748be995c14", func := "lockfast/lockfastlaw13.UndoFirst", spec := "undoFirst", unfollowed := true, recurses := true, apart := false }
def UndoFirstSaid : Prop := undoFirstRow.holds Try.pinned (OpenSpec.ofChange undoFirstSpec)

/-- ITS FALSE NEIGHBOUR: 'it returns false'. Refute it at one input. -/
def undoFirstWrong : ChangeSpec := { name := "undoFirst", fn := fun _ => fun
  | [d1, d2] => { results := [.lit (.bool false)], args := [d1, d2] }
  | _ => none }
def UndoFirstWrongFalsely : Prop := undoFirstRow.holds Try.pinned (OpenSpec.ofChange undoFirstWrong)

/- THE SECOND FORM. 'bulk': how many values and letters a reading holds, each counted each time it is reached (what is shared counts as often as it is met; a slice's spare places count too). A statement '..UptoSaid' is the law's where the arguments, and the package variables that the reading takes, are together of bulk at most 1048576: NARROWER than '..Said'. Prove '..Said' where nothing that the law and all that it calls make is longer than what came in: it says more and counts as full. Else prove '..UptoSaid'. A law counts once. -/
mutual
def uptoBulk {H : Type} : DataW H → Nat
  | .lit (.string bytes) => bytes.length + 1
  | .lit _ => 1
  | .nil => 1
  | .ptr d => uptoBulk d + 1
  | .slice elems spare => uptoBulkAll elems + uptoBulkAll spare + 1
  | .agg parts => uptoBulkAll parts + 1
  | .iface _ d => uptoBulk d + 1
  | .map entries => uptoBulkEntries entries + 1
  | .held _ => 1
def uptoBulkAll {H : Type} : List (DataW H) → Nat
  | [] => 0
  | d :: r => uptoBulk d + uptoBulkAll r
def uptoBulkEntries {H : Type} : List (Lit × DataW H) → Nat
  | [] => 0
  | x :: r => uptoBulkEntry x + uptoBulkEntries r
def uptoBulkEntry {H : Type} : Lit × DataW H → Nat
  | (.string bytes, d) => bytes.length + uptoBulk d + 1
  | (_, d) => uptoBulk d + 1
 end
def uptoSmall : (H : Type) → List (DataW H) → Bool := fun _ ds => decide (uptoBulkAll ds ≤ 1048576)
def OpenSpec.upto (s : _root_.Go.ChangeSpec) : _root_.Go.OpenSpec := { _root_.Go.OpenSpec.ofChange s with cond := some uptoSmall }

/-- 'lockfastlaw13.UndoEncodes', WHERE WHAT IT READS IS OF BULK AT MOST 1048576: true; the input reads as it did. -/
def undoEncodesUptoRow : OpenClaim := { program := "ytinbediigibolaa", sum := "70158046c31d940c0e2f0e99a10adad6facaa596c3b776c1e9f3d748be995c14", func := "lockfast/lockfastlaw13.UndoEncodes", spec := "undoEncodes", unfollowed := true, recurses := true, apart := false, narrowed := true }
def UndoEncodesUptoSaid : Prop := undoEncodesUptoRow.holds Try.pinned (OpenSpec.upto undoEncodesSpec)

/-- 'lockfastlaw13.UndoDecodes', WHERE WHAT IT READS IS OF BULK AT MOST 1048576: true; the input reads as it did. -/
def undoDecodesUptoRow : OpenClaim := { program := "ytinbediigibolaa", sum := "70158046c31d940c0e2f0e99a10adad6facaa596c3b776c1e9f3d748be995c14", func := "lockfast/lockfastlaw13.UndoDecodes", spec := "undoDecodes", unfollowed := true, recurses := true, apart := false, narrowed := true }
def UndoDecodesUptoSaid : Prop := undoDecodesUptoRow.holds Try.pinned (OpenSpec.upto undoDecodesSpec)

/-- 'lockfastlaw13.UndoList', WHERE WHAT IT READS IS OF BULK AT MOST 1048576: true; the input reads as it did. -/
def undoListUptoRow : OpenClaim := { program := "ytinbediigibolaa", sum := "70158046c31d940c0e2f0e99a10adad6facaa596c3b776c1e9f3d748be995c14", func := "lockfast/lockfastlaw13.UndoList", spec := "undoList", unfollowed := true, recurses := true, apart := false, narrowed := true }
def UndoListUptoSaid : Prop := undoListUptoRow.holds Try.pinned (OpenSpec.upto undoListSpec)

/-- 'lockfastlaw13.UndoBursts', WHERE WHAT IT READS IS OF BULK AT MOST 1048576: true; the input reads as it did. -/
def undoBurstsUptoRow : OpenClaim := { program := "ytinbediigibolaa", sum := "70158046c31d940c0e2f0e99a10adad6facaa596c3b776c1e9f3d748be995c14", func := "lockfast/lockfastlaw13.UndoBursts", spec := "undoBursts", unfollowed := true, recurses := true, apart := false, narrowed := true }
def UndoBurstsUptoSaid : Prop := undoBurstsUptoRow.holds Try.pinned (OpenSpec.upto undoBurstsSpec)

/-- 'lockfastlaw13.UndoParts', WHERE WHAT IT READS IS OF BULK AT MOST 1048576: true; the input reads as it did. -/
def undoPartsUptoRow : OpenClaim := { program := "ytinbediigibolaa", sum := "70158046c31d940c0e2f0e99a10adad6facaa596c3b776c1e9f3d748be995c14", func := "lockfast/lockfastlaw13.UndoParts", spec := "undoParts", unfollowed := true, recurses := true, apart := false, narrowed := true }
def UndoPartsUptoSaid : Prop := undoPartsUptoRow.holds Try.pinned (OpenSpec.upto undoPartsSpec)

/-- 'lockfastlaw13.UndoBacks', WHERE WHAT IT READS IS OF BULK AT MOST 1048576: true; the input reads as it did. -/
def undoBacksUptoRow : OpenClaim := { program := "ytinbediigibolaa", sum := "70158046c31d940c0e2f0e99a10adad6facaa596c3b776c1e9f3d748be995c14", func := "lockfast/lockfastlaw13.UndoBacks", spec := "undoBacks", unfollowed := true, recurses := true, apart := false, narrowed := true }
def UndoBacksUptoSaid : Prop := undoBacksUptoRow.holds Try.pinned (OpenSpec.upto undoBacksSpec)

/-- 'lockfastlaw13.UndoFirst', WHERE WHAT IT READS IS OF BULK AT MOST 1048576: true; the input reads as it did. -/
def undoFirstUptoRow : OpenClaim := { program := "ytinbediigibolaa", sum := "70158046c31d940c0e2f0e99a10adad6facaa596c3b776c1e9f3d748be995c14", func := "lockfast/lockfastlaw13.UndoFirst", spec := "undoFirst", unfollowed := true, recurses := true, apart := false, narrowed := true }
def UndoFirstUptoSaid : Prop := undoFirstUptoRow.holds Try.pinned (OpenSpec.upto undoFirstSpec)

end Rows
end Go.Proofs.Ytinbediigibolaa
