/-
  No cell of these rows narrows 'for every input' (looked for: loops, veiled, ifaces, maps, wideKeys, modest, calm, conditions, laid).
  DERIVED. THE GIVEN ROWS OF THIS SEAT. 6 by the template 'for every input the law returns true; each argument reads behind the call as it read before'; 0 by the template 'total and deterministic' (their statements: YtnoclgnlmkpkbaaTotals.lean).
  GIVEN WITH THE SEED: the statements are not yours to turn. If you find one false, say at which input.
  Laid BY PROGRAM, IN A SANDBOX (cutbox-rows.mjs): the forced cells as the released guide's own fill.sh prints them over the translation f3db3b6fc9d41974… (all of the seat's roots in one cut). By AI agents, Wed Nov 11 2026. No macro, syntax, notation, axiom, sorry.
-/
import Derived.Test.YtnoclgnlmkpkbaaChecked
import GoSem.Claim
import GoSem.ClaimJoined
import GoSem.ClaimMapViews
import Derived.JoinedTies
import Derived.KernelRfl
namespace Go.Proofs.Ytnoclgnlmkpkbaa
/- THE CELL 'sum', in the pinned program and in every row, IS THE sha256 OF THE DUMP (.gsa) THAT YtnoclgnlmkpkbaaProg.lean LOADS. Nothing in Lean hashes anything: it is a label: what it is worth is what the hold of that sum in a sandbox is worth. -/
noncomputable def Try.pinned : Pinned := { name := "ytnoclgnlmkpkbaa", sum := "f3db3b6fc9d41974dcf29603608931f84c8eece6fec4749e64e4ad381239f4c0", checked := Try.checked }
namespace Rows
def none {H : Type} : Left H := { results := [], args := [] }

/-- 'lockfastlaw12.RedoEncodes': WHATEVER THE INPUT: true; the input reads as it did. -/
def redoEncodesSpec : ChangeSpec := { name := "redoEncodes", fn := fun _ => fun
  | [d] => { results := [.lit (.bool true)], args := [d] }
  | _ => none }
def redoEncodesRow : OpenClaim := { program := "ytnoclgnlmkpkbaa", sum := "f3db3b6fc9d41974dcf29603608931f84c8eece6fec4749e64e4ad381239f4c0", func := "lockfast/lockfastlaw12.RedoEncodes", spec := "redoEncodes", unfollowed := true, recurses := true, apart := false }
def RedoEncodesSaid : Prop := redoEncodesRow.holds Try.pinned (OpenSpec.ofChange redoEncodesSpec)

/-- ITS FALSE NEIGHBOUR: 'it returns false'. Refute it at one input. -/
def redoEncodesWrong : ChangeSpec := { name := "redoEncodes", fn := fun _ => fun
  | [d] => { results := [.lit (.bool false)], args := [d] }
  | _ => none }
def RedoEncodesWrongFalsely : Prop := redoEncodesRow.holds Try.pinned (OpenSpec.ofChange redoEncodesWrong)

/-- 'lockfastlaw12.RedoDecodes': WHATEVER THE INPUT: true; the input reads as it did. -/
def redoDecodesSpec : ChangeSpec := { name := "redoDecodes", fn := fun _ => fun
  | [d1, d2] => { results := [.lit (.bool true)], args := [d1, d2] }
  | _ => none }
def redoDecodesRow : OpenClaim := { program := "ytnoclgnlmkpkbaa", sum := "f3db3b6fc9d41974dcf29603608931f84c8eece6fec4749e64e4ad381239f4c0", func := "lockfast/lockfastlaw12.RedoDecodes", spec := "redoDecodes", unfollowed := true, recurses := true, apart := false }
def RedoDecodesSaid : Prop := redoDecodesRow.holds Try.pinned (OpenSpec.ofChange redoDecodesSpec)

/-- ITS FALSE NEIGHBOUR: 'it returns false'. Refute it at one input. -/
def redoDecodesWrong : ChangeSpec := { name := "redoDecodes", fn := fun _ => fun
  | [d1, d2] => { results := [.lit (.bool false)], args := [d1, d2] }
  | _ => none }
def RedoDecodesWrongFalsely : Prop := redoDecodesRow.holds Try.pinned (OpenSpec.ofChange redoDecodesWrong)

/-- 'lockfastlaw12.RedoApplies': WHATEVER THE INPUT: true; the input reads as it did. -/
def redoAppliesSpec : ChangeSpec := { name := "redoApplies", fn := fun _ => fun
  | [d1, d2, d3, d4, d5] => { results := [.lit (.bool true)], args := [d1, d2, d3, d4, d5] }
  | _ => none }
def redoAppliesRow : OpenClaim := { program := "ytnoclgnlmkpkbaa", sum := "f3db3b6fc9d41974dcf29603608931f84c8eece6fec4749e64e4ad381239f4c0", func := "lockfast/lockfastlaw12.RedoApplies", spec := "redoApplies", unfollowed := true, recurses := true, apart := false }
def RedoAppliesSaid : Prop := redoAppliesRow.holds Try.pinned (OpenSpec.ofChange redoAppliesSpec)

/-- ITS FALSE NEIGHBOUR: 'it returns false'. Refute it at one input. -/
def redoAppliesWrong : ChangeSpec := { name := "redoApplies", fn := fun _ => fun
  | [d1, d2, d3, d4, d5] => { results := [.lit (.bool false)], args := [d1, d2, d3, d4, d5] }
  | _ => none }
def RedoAppliesWrongFalsely : Prop := redoAppliesRow.holds Try.pinned (OpenSpec.ofChange redoAppliesWrong)

/-- 'lockfastlaw12.RedoBack': WHATEVER THE INPUT: true; the input reads as it did. -/
def redoBackSpec : ChangeSpec := { name := "redoBack", fn := fun _ => fun
  | [d1, d2] => { results := [.lit (.bool true)], args := [d1, d2] }
  | _ => none }
def redoBackRow : OpenClaim := { program := "ytnoclgnlmkpkbaa", sum := "f3db3b6fc9d41974dcf29603608931f84c8eece6fec4749e64e4ad381239f4c0", func := "lockfast/lockfastlaw12.RedoBack", spec := "redoBack", unfollowed := true, recurses := true, apart := false }
def RedoBackSaid : Prop := redoBackRow.holds Try.pinned (OpenSpec.ofChange redoBackSpec)

/-- ITS FALSE NEIGHBOUR: 'it returns false'. Refute it at one input. -/
def redoBackWrong : ChangeSpec := { name := "redoBack", fn := fun _ => fun
  | [d1, d2] => { results := [.lit (.bool false)], args := [d1, d2] }
  | _ => none }
def RedoBackWrongFalsely : Prop := redoBackRow.holds Try.pinned (OpenSpec.ofChange redoBackWrong)

/-- 'lockfastlaw12.RedoAgain': WHATEVER THE INPUT: true; the input reads as it did. -/
def redoAgainSpec : ChangeSpec := { name := "redoAgain", fn := fun _ => fun
  | [d1, d2, d3] => { results := [.lit (.bool true)], args := [d1, d2, d3] }
  | _ => none }
def redoAgainRow : OpenClaim := { program := "ytnoclgnlmkpkbaa", sum := "f3db3b6fc9d41974dcf29603608931f84c8eece6fec4749e64e4ad381239f4c0", func := "lockfast/lockfastlaw12.RedoAgain", spec := "redoAgain", unfollowed := true, recurses := true, apart := false }
def RedoAgainSaid : Prop := redoAgainRow.holds Try.pinned (OpenSpec.ofChange redoAgainSpec)

/-- ITS FALSE NEIGHBOUR: 'it returns false'. Refute it at one input. -/
def redoAgainWrong : ChangeSpec := { name := "redoAgain", fn := fun _ => fun
  | [d1, d2, d3] => { results := [.lit (.bool false)], args := [d1, d2, d3] }
  | _ => none }
def RedoAgainWrongFalsely : Prop := redoAgainRow.holds Try.pinned (OpenSpec.ofChange redoAgainWrong)

/-- 'lockfastlaw12.RedoApart': WHATEVER THE INPUT: true; the input reads as it did. -/
def redoApartSpec : ChangeSpec := { name := "redoApart", fn := fun _ => fun
  | [d1, d2, d3, d4] => { results := [.lit (.bool true)], args := [d1, d2, d3, d4] }
  | _ => none }
def redoApartRow : OpenClaim := { program := "ytnoclgnlmkpkbaa", sum := "f3db3b6fc9d41974dcf29603608931f84c8eece6fec4749e64e4ad381239f4c0", func := "lockfast/lockfastlaw12.RedoApart", spec := "redoApart", unfollowed := true, recurses := true, apart := false }
def RedoApartSaid : Prop := redoApartRow.holds Try.pinned (OpenSpec.ofChange redoApartSpec)

/-- ITS FALSE NEIGHBOUR: 'it returns false'. Refute it at one input. -/
def redoApartWrong : ChangeSpec := { name := "redoApart", fn := fun _ => fun
  | [d1, d2, d3, d4] => { results := [.lit (.bool false)], args := [d1, d2, d3, d4] }
  | _ => none }
def RedoApartWrongFalsely : Prop := redoApartRow.holds Try.pinned (OpenSpec.ofChange redoApartWrong)

/- THE SECOND FORM. 'bulk': how many values and letters a reading holds, each counted each time it is reached (what is shared counts as often as it is met; a slice's spare places count too). A statement '..UptoSaid' is the law's where the arguments, and the package variables that the reading takes, are together of bulk at most 1048576: NARROWER than '..Said'. Prove '..Said' where nothing that the law and all that it calls make is longer than what came in: it says more and counts as full. Else prove '..UptoSaid'. A law counts once. -/
mutual
def uptoBulk {H : Type} : DataW H → Nat
  | .lit (.string bytes) => bytes.length + 1
  | .lit _ => 1
  | .nil => 1
  | .ptr d => uptoBulk d + 1
  | .slice elems spare => uptoBulkAll elems + uptoBulkAll spare + 1
  | .agg parts => uptoBulkAll parts + 1
  | .iface _ d => uptoBulk d + 1
  | .map entries => uptoBulkEntries entries + 1
  | .held _ => 1
def uptoBulkAll {H : Type} : List (DataW H) → Nat
  | [] => 0
  | d :: r => uptoBulk d + uptoBulkAll r
def uptoBulkEntries {H : Type} : List (Lit × DataW H) → Nat
  | [] => 0
  | x :: r => uptoBulkEntry x + uptoBulkEntries r
def uptoBulkEntry {H : Type} : Lit × DataW H → Nat
  | (.string bytes, d) => bytes.length + uptoBulk d + 1
  | (_, d) => uptoBulk d + 1
 end
def uptoSmall : (H : Type) → List (DataW H) → Bool := fun _ ds => decide (uptoBulkAll ds ≤ 1048576)
def OpenSpec.upto (s : _root_.Go.ChangeSpec) : _root_.Go.OpenSpec := { _root_.Go.OpenSpec.ofChange s with cond := some uptoSmall }

/-- 'lockfastlaw12.RedoEncodes', WHERE WHAT IT READS IS OF BULK AT MOST 1048576: true; the input reads as it did. -/
def redoEncodesUptoRow : OpenClaim := { program := "ytnoclgnlmkpkbaa", sum := "f3db3b6fc9d41974dcf29603608931f84c8eece6fec4749e64e4ad381239f4c0", func := "lockfast/lockfastlaw12.RedoEncodes", spec := "redoEncodes", unfollowed := true, recurses := true, apart := false, narrowed := true }
def RedoEncodesUptoSaid : Prop := redoEncodesUptoRow.holds Try.pinned (OpenSpec.upto redoEncodesSpec)

/-- 'lockfastlaw12.RedoDecodes', WHERE WHAT IT READS IS OF BULK AT MOST 1048576: true; the input reads as it did. -/
def redoDecodesUptoRow : OpenClaim := { program := "ytnoclgnlmkpkbaa", sum := "f3db3b6fc9d41974dcf29603608931f84c8eece6fec4749e64e4ad381239f4c0", func := "lockfast/lockfastlaw12.RedoDecodes", spec := "redoDecodes", unfollowed := true, recurses := true, apart := false, narrowed := true }
def RedoDecodesUptoSaid : Prop := redoDecodesUptoRow.holds Try.pinned (OpenSpec.upto redoDecodesSpec)

/-- 'lockfastlaw12.RedoApplies', WHERE WHAT IT READS IS OF BULK AT MOST 1048576: true; the input reads as it did. -/
def redoAppliesUptoRow : OpenClaim := { program := "ytnoclgnlmkpkbaa", sum := "f3db3b6fc9d41974dcf29603608931f84c8eece6fec4749e64e4ad381239f4c0", func := "lockfast/lockfastlaw12.RedoApplies", spec := "redoApplies", unfollowed := true, recurses := true, apart := false, narrowed := true }
def RedoAppliesUptoSaid : Prop := redoAppliesUptoRow.holds Try.pinned (OpenSpec.upto redoAppliesSpec)

/-- 'lockfastlaw12.RedoBack', WHERE WHAT IT READS IS OF BULK AT MOST 1048576: true; the input reads as it did. -/
def redoBackUptoRow : OpenClaim := { program := "ytnoclgnlmkpkbaa", sum := "f3db3b6fc9d41974dcf29603608931f84c8eece6fec4749e64e4ad381239f4c0", func := "lockfast/lockfastlaw12.RedoBack", spec := "redoBack", unfollowed := true, recurses := true, apart := false, narrowed := true }
def RedoBackUptoSaid : Prop := redoBackUptoRow.holds Try.pinned (OpenSpec.upto redoBackSpec)

/-- 'lockfastlaw12.RedoAgain', WHERE WHAT IT READS IS OF BULK AT MOST 1048576: true; the input reads as it did. -/
def redoAgainUptoRow : OpenClaim := { program := "ytnoclgnlmkpkbaa", sum := "f3db3b6fc9d41974dcf29603608931f84c8eece6fec4749e64e4ad381239f4c0", func := "lockfast/lockfastlaw12.RedoAgain", spec := "redoAgain", unfollowed := true, recurses := true, apart := false, narrowed := true }
def RedoAgainUptoSaid : Prop := redoAgainUptoRow.holds Try.pinned (OpenSpec.upto redoAgainSpec)

/-- 'lockfastlaw12.RedoApart', WHERE WHAT IT READS IS OF BULK AT MOST 1048576: true; the input reads as it did. -/
def redoApartUptoRow : OpenClaim := { program := "ytnoclgnlmkpkbaa", sum := "f3db3b6fc9d41974dcf29603608931f84c8eece6fec4749e64e4ad381239f4c0", func := "lockfast/lockfastlaw12.RedoApart", spec := "redoApart", unfollowed := true, recurses := true, apart := false, narrowed := true }
def RedoApartUptoSaid : Prop := redoApartUptoRow.holds Try.pinned (OpenSpec.upto redoApartSpec)

end Rows
end Go.Proofs.Ytnoclgnlmkpkbaa
