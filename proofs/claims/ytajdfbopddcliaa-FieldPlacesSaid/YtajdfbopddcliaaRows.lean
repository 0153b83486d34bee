/-
  No cell of these rows narrows 'for every input' (looked for: loops, veiled, ifaces, maps, wideKeys, modest, calm, conditions, laid).
  DERIVED. THE GIVEN ROWS OF THIS SEAT. 12 by the template 'for every input the law returns true; each argument reads behind the call as it read before'; 0 by the template 'total and deterministic' (their statements: YtajdfbopddcliaaTotals.lean).
  GIVEN WITH THE SEED: the statements are not yours to turn. If you find one false, say at which input.
  Laid BY PROGRAM, IN A SANDBOX (cutbox-rows.mjs): the forced cells as the released guide's own fill.sh prints them over the translation 3cf671015bd0c677… (all of the seat's roots in one cut). By AI agents, Wed Nov 11 2026. No macro, syntax, notation, axiom, sorry.
-/
import Derived.Test.YtajdfbopddcliaaChecked
import GoSem.Claim
import GoSem.ClaimJoined
import GoSem.ClaimMapViews
import Derived.JoinedTies
import Derived.KernelRfl
namespace Go.Proofs.Ytajdfbopddcliaa
/- THE CELL 'sum', in the pinned program and in every row, IS THE sha256 OF THE DUMP (.gsa) THAT YtajdfbopddcliaaProg.lean LOADS. Nothing in Lean hashes anything: it is a label: what it is worth is what the hold of that sum in a sandbox is worth. -/
noncomputable def Try.pinned : Pinned := { name := "ytajdfbopddcliaa", sum := "3cf671015bd0c677408fa69be6ebe0406ae6be26342a0dfa2fde31312057f38e", checked := Try.checked }
namespace Rows
def none {H : Type} : Left H := { results := [], args := [] }

/-- 'lockfastlaw07.MarkEncodes': WHATEVER THE INPUT: true; the input reads as it did. -/
def markEncodesSpec : ChangeSpec := { name := "markEncodes", fn := fun _ => fun
  | [d] => { results := [.lit (.bool true)], args := [d] }
  | _ => none }
def markEncodesRow : OpenClaim := { program := "ytajdfbopddcliaa", sum := "3cf671015bd0c677408fa69be6ebe0406ae6be26342a0dfa2fde31312057f38e", func := "lockfast/lockfastlaw07.MarkEncodes", spec := "markEncodes", apart := false }
def MarkEncodesSaid : Prop := markEncodesRow.holds Try.pinned (OpenSpec.ofChange markEncodesSpec)

/-- ITS FALSE NEIGHBOUR: 'it returns false'. Refute it at one input. -/
def markEncodesWrong : ChangeSpec := { name := "markEncodes", fn := fun _ => fun
  | [d] => { results := [.lit (.bool false)], args := [d] }
  | _ => none }
def MarkEncodesWrongFalsely : Prop := markEncodesRow.holds Try.pinned (OpenSpec.ofChange markEncodesWrong)

/-- 'lockfastlaw07.MarkDecodes': WHATEVER THE INPUT: true; the input reads as it did. -/
def markDecodesSpec : ChangeSpec := { name := "markDecodes", fn := fun _ => fun
  | [d] => { results := [.lit (.bool true)], args := [d] }
  | _ => none }
def markDecodesRow : OpenClaim := { program := "ytajdfbopddcliaa", sum := "3cf671015bd0c677408fa69be6ebe0406ae6be26342a0dfa2fde31312057f38e", func := "lockfast/lockfastlaw07.MarkDecodes", spec := "markDecodes", apart := false }
def MarkDecodesSaid : Prop := markDecodesRow.holds Try.pinned (OpenSpec.ofChange markDecodesSpec)

/-- ITS FALSE NEIGHBOUR: 'it returns false'. Refute it at one input. -/
def markDecodesWrong : ChangeSpec := { name := "markDecodes", fn := fun _ => fun
  | [d] => { results := [.lit (.bool false)], args := [d] }
  | _ => none }
def MarkDecodesWrongFalsely : Prop := markDecodesRow.holds Try.pinned (OpenSpec.ofChange markDecodesWrong)

/-- 'lockfastlaw07.MarkTurns': WHATEVER THE INPUT: true; the input reads as it did. -/
def markTurnsSpec : ChangeSpec := { name := "markTurns", fn := fun _ => fun
  | [d] => { results := [.lit (.bool true)], args := [d] }
  | _ => none }
def markTurnsRow : OpenClaim := { program := "ytajdfbopddcliaa", sum := "3cf671015bd0c677408fa69be6ebe0406ae6be26342a0dfa2fde31312057f38e", func := "lockfast/lockfastlaw07.MarkTurns", spec := "markTurns", apart := false }
def MarkTurnsSaid : Prop := markTurnsRow.holds Try.pinned (OpenSpec.ofChange markTurnsSpec)

/-- ITS FALSE NEIGHBOUR: 'it returns false'. Refute it at one input. -/
def markTurnsWrong : ChangeSpec := { name := "markTurns", fn := fun _ => fun
  | [d] => { results := [.lit (.bool false)], args := [d] }
  | _ => none }
def MarkTurnsWrongFalsely : Prop := markTurnsRow.holds Try.pinned (OpenSpec.ofChange markTurnsWrong)

/-- 'lockfastlaw07.MarkBack': WHATEVER THE INPUT: true; the input reads as it did. -/
def markBackSpec : ChangeSpec := { name := "markBack", fn := fun _ => fun
  | [d1, d2] => { results := [.lit (.bool true)], args := [d1, d2] }
  | _ => none }
def markBackRow : OpenClaim := { program := "ytajdfbopddcliaa", sum := "3cf671015bd0c677408fa69be6ebe0406ae6be26342a0dfa2fde31312057f38e", func := "lockfast/lockfastlaw07.MarkBack", spec := "markBack", apart := false }
def MarkBackSaid : Prop := markBackRow.holds Try.pinned (OpenSpec.ofChange markBackSpec)

/-- ITS FALSE NEIGHBOUR: 'it returns false'. Refute it at one input. -/
def markBackWrong : ChangeSpec := { name := "markBack", fn := fun _ => fun
  | [d1, d2] => { results := [.lit (.bool false)], args := [d1, d2] }
  | _ => none }
def MarkBackWrongFalsely : Prop := markBackRow.holds Try.pinned (OpenSpec.ofChange markBackWrong)

/-- 'lockfastlaw07.MarkRounds': WHATEVER THE INPUT: true; the input reads as it did. -/
def markRoundsSpec : ChangeSpec := { name := "markRounds", fn := fun _ => fun
  | [d1, d2] => { results := [.lit (.bool true)], args := [d1, d2] }
  | _ => none }
def markRoundsRow : OpenClaim := { program := "ytajdfbopddcliaa", sum := "3cf671015bd0c677408fa69be6ebe0406ae6be26342a0dfa2fde31312057f38e", func := "lockfast/lockfastlaw07.MarkRounds", spec := "markRounds", apart := false }
def MarkRoundsSaid : Prop := markRoundsRow.holds Try.pinned (OpenSpec.ofChange markRoundsSpec)

/-- ITS FALSE NEIGHBOUR: 'it returns false'. Refute it at one input. -/
def markRoundsWrong : ChangeSpec := { name := "markRounds", fn := fun _ => fun
  | [d1, d2] => { results := [.lit (.bool false)], args := [d1, d2] }
  | _ => none }
def MarkRoundsWrongFalsely : Prop := markRoundsRow.holds Try.pinned (OpenSpec.ofChange markRoundsWrong)

/-- 'lockfastlaw07.MarkUnlike': WHATEVER THE INPUT: true; the input reads as it did. -/
def markUnlikeSpec : ChangeSpec := { name := "markUnlike", fn := fun _ => fun
  | [d1, d2] => { results := [.lit (.bool true)], args := [d1, d2] }
  | _ => none }
def markUnlikeRow : OpenClaim := { program := "ytajdfbopddcliaa", sum := "3cf671015bd0c677408fa69be6ebe0406ae6be26342a0dfa2fde31312057f38e", func := "lockfast/lockfastlaw07.MarkUnlike", spec := "markUnlike", apart := false }
def MarkUnlikeSaid : Prop := markUnlikeRow.holds Try.pinned (OpenSpec.ofChange markUnlikeSpec)

/-- ITS FALSE NEIGHBOUR: 'it returns false'. Refute it at one input. -/
def markUnlikeWrong : ChangeSpec := { name := "markUnlike", fn := fun _ => fun
  | [d1, d2] => { results := [.lit (.bool false)], args := [d1, d2] }
  | _ => none }
def MarkUnlikeWrongFalsely : Prop := markUnlikeRow.holds Try.pinned (OpenSpec.ofChange markUnlikeWrong)

/-- 'lockfastlaw01.FieldTells': WHATEVER THE INPUT: true; the input reads as it did. -/
def fieldTellsSpec : ChangeSpec := { name := "fieldTells", fn := fun _ => fun
  | [d1, d2, d3, d4] => { results := [.lit (.bool true)], args := [d1, d2, d3, d4] }
  | _ => none }
def fieldTellsRow : OpenClaim := { program := "ytajdfbopddcliaa", sum := "3cf671015bd0c677408fa69be6ebe0406ae6be26342a0dfa2fde31312057f38e", func := "lockfast/lockfastlaw01.FieldTells", spec := "fieldTells", unfollowed := true, recurses := true, apart := false }
def FieldTellsSaid : Prop := fieldTellsRow.holds Try.pinned (OpenSpec.ofChange fieldTellsSpec)

/-- ITS FALSE NEIGHBOUR: 'it returns false'. Refute it at one input. -/
def fieldTellsWrong : ChangeSpec := { name := "fieldTells", fn := fun _ => fun
  | [d1, d2, d3, d4] => { results := [.lit (.bool false)], args := [d1, d2, d3, d4] }
  | _ => none }
def FieldTellsWrongFalsely : Prop := fieldTellsRow.holds Try.pinned (OpenSpec.ofChange fieldTellsWrong)

/-- 'lockfastlaw01.FieldCounts': WHATEVER THE INPUT: true; the input reads as it did. -/
def fieldCountsSpec : ChangeSpec := { name := "fieldCounts", fn := fun _ => fun
  | [d1, d2] => { results := [.lit (.bool true)], args := [d1, d2] }
  | _ => none }
def fieldCountsRow : OpenClaim := { program := "ytajdfbopddcliaa", sum := "3cf671015bd0c677408fa69be6ebe0406ae6be26342a0dfa2fde31312057f38e", func := "lockfast/lockfastlaw01.FieldCounts", spec := "fieldCounts", unfollowed := true, recurses := true, apart := false }
def FieldCountsSaid : Prop := fieldCountsRow.holds Try.pinned (OpenSpec.ofChange fieldCountsSpec)

/-- ITS FALSE NEIGHBOUR: 'it returns false'. Refute it at one input. -/
def fieldCountsWrong : ChangeSpec := { name := "fieldCounts", fn := fun _ => fun
  | [d1, d2] => { results := [.lit (.bool false)], args := [d1, d2] }
  | _ => none }
def FieldCountsWrongFalsely : Prop := fieldCountsRow.holds Try.pinned (OpenSpec.ofChange fieldCountsWrong)

/-- 'lockfastlaw01.FieldBack': WHATEVER THE INPUT: true; the input reads as it did. -/
def fieldBackSpec : ChangeSpec := { name := "fieldBack", fn := fun _ => fun
  | [d1, d2, d3, d4] => { results := [.lit (.bool true)], args := [d1, d2, d3, d4] }
  | _ => none }
def fieldBackRow : OpenClaim := { program := "ytajdfbopddcliaa", sum := "3cf671015bd0c677408fa69be6ebe0406ae6be26342a0dfa2fde31312057f38e", func := "lockfast/lockfastlaw01.FieldBack", spec := "fieldBack", unfollowed := true, recurses := true, apart := false }
def FieldBackSaid : Prop := fieldBackRow.holds Try.pinned (OpenSpec.ofChange fieldBackSpec)

/-- ITS FALSE NEIGHBOUR: 'it returns false'. Refute it at one input. -/
def fieldBackWrong : ChangeSpec := { name := "fieldBack", fn := fun _ => fun
  | [d1, d2, d3, d4] => { results := [.lit (.bool false)], args := [d1, d2, d3, d4] }
  | _ => none }
def FieldBackWrongFalsely : Prop := fieldBackRow.holds Try.pinned (OpenSpec.ofChange fieldBackWrong)

/-- 'lockfastlaw01.FieldApart': WHATEVER THE INPUT: true; the input reads as it did. -/
def fieldApartSpec : ChangeSpec := { name := "fieldApart", fn := fun _ => fun
  | [d1, d2, d3, d4, d5, d6] => { results := [.lit (.bool true)], args := [d1, d2, d3, d4, d5, d6] }
  | _ => none }
def fieldApartRow : OpenClaim := { program := "ytajdfbopddcliaa", sum := "3cf671015bd0c677408fa69be6ebe0406ae6be26342a0dfa2fde31312057f38e", func := "lockfast/lockfastlaw01.FieldApart", spec := "fieldApart", unfollowed := true, recurses := true, apart := false }
def FieldApartSaid : Prop := fieldApartRow.holds Try.pinned (OpenSpec.ofChange fieldApartSpec)

/-- ITS FALSE NEIGHBOUR: 'it returns false'. Refute it at one input. -/
def fieldApartWrong : ChangeSpec := { name := "fieldApart", fn := fun _ => fun
  | [d1, d2, d3, d4, d5, d6] => { results := [.lit (.bool false)], args := [d1, d2, d3, d4, d5, d6] }
  | _ => none }
def FieldApartWrongFalsely : Prop := fieldApartRow.holds Try.pinned (OpenSpec.ofChange fieldApartWrong)

/-- 'lockfastlaw01.FieldFirst': WHATEVER THE INPUT: true; the input reads as it did. -/
def fieldFirstSpec : ChangeSpec := { name := "fieldFirst", fn := fun _ => fun
  | [d1, d2] => { results := [.lit (.bool true)], args := [d1, d2] }
  | _ => none }
def fieldFirstRow : OpenClaim := { program := "ytajdfbopddcliaa", sum := "3cf671015bd0c677408fa69be6ebe0406ae6be26342a0dfa2fde31312057f38e", func := "lockfast/lockfastlaw01.FieldFirst", spec := "fieldFirst", unfollowed := true, recurses := true, apart := false }
def FieldFirstSaid : Prop := fieldFirstRow.holds Try.pinned (OpenSpec.ofChange fieldFirstSpec)

/-- ITS FALSE NEIGHBOUR: 'it returns false'. Refute it at one input. -/
def fieldFirstWrong : ChangeSpec := { name := "fieldFirst", fn := fun _ => fun
  | [d1, d2] => { results := [.lit (.bool false)], args := [d1, d2] }
  | _ => none }
def FieldFirstWrongFalsely : Prop := fieldFirstRow.holds Try.pinned (OpenSpec.ofChange fieldFirstWrong)

/-- 'lockfastlaw01.FieldPlaces': WHATEVER THE INPUT: true; the input reads as it did. -/
def fieldPlacesSpec : ChangeSpec := { name := "fieldPlaces", fn := fun _ => fun
  | [d1, d2] => { results := [.lit (.bool true)], args := [d1, d2] }
  | _ => none }
def fieldPlacesRow : OpenClaim := { program := "ytajdfbopddcliaa", sum := "3cf671015bd0c677408fa69be6ebe0406ae6be26342a0dfa2fde31312057f38e", func := "lockfast/lockfastlaw01.FieldPlaces", spec := "fieldPlaces", unfollowed := true, recurses := true, apart := false }
def FieldPlacesSaid : Prop := fieldPlacesRow.holds Try.pinned (OpenSpec.ofChange fieldPlacesSpec)

/-- ITS FALSE NEIGHBOUR: 'it returns false'. Refute it at one input. -/
def fieldPlacesWrong : ChangeSpec := { name := "fieldPlaces", fn := fun _ => fun
  | [d1, d2] => { results := [.lit (.bool false)], args := [d1, d2] }
  | _ => none }
def FieldPlacesWrongFalsely : Prop := fieldPlacesRow.holds Try.pinned (OpenSpec.ofChange fieldPlacesWrong)

/- THE SECOND FORM. 'bulk': how many values and letters a reading holds, each counted each time it is reached (what is shared counts as often as it is met; a slice's spare places count too). A statement '..UptoSaid' is the law's where the arguments, and the package variables that the reading takes, are together of bulk at most 1048576: NARROWER than '..Said'. Prove '..Said' where nothing that the law and all that it calls make is longer than what came in: it says more and counts as full. Else prove '..UptoSaid'. A law counts once. -/
mutual
def uptoBulk {H : Type} : DataW H → Nat
  | .lit (.string bytes) => bytes.length + 1
  | .lit _ => 1
  | .nil => 1
  | .ptr d => uptoBulk d + 1
  | .slice elems spare => uptoBulkAll elems + uptoBulkAll spare + 1
  | .agg parts => uptoBulkAll parts + 1
  | .iface _ d => uptoBulk d + 1
  | .map entries => uptoBulkEntries entries + 1
  | .held _ => 1
def uptoBulkAll {H : Type} : List (DataW H) → Nat
  | [] => 0
  | d :: r => uptoBulk d + uptoBulkAll r
def uptoBulkEntries {H : Type} : List (Lit × DataW H) → Nat
  | [] => 0
  | x :: r => uptoBulkEntry x + uptoBulkEntries r
def uptoBulkEntry {H : Type} : Lit × DataW H → Nat
  | (.string bytes, d) => bytes.length + uptoBulk d + 1
  | (_, d) => uptoBulk d + 1
 end
def uptoSmall : (H : Type) → List (DataW H) → Bool := fun _ ds => decide (uptoBulkAll ds ≤ 1048576)
def OpenSpec.upto (s : _root_.Go.ChangeSpec) : _root_.Go.OpenSpec := { _root_.Go.OpenSpec.ofChange s with cond := some uptoSmall }

/-- 'lockfastlaw07.MarkEncodes', WHERE WHAT IT READS IS OF BULK AT MOST 1048576: true; the input reads as it did. -/
def markEncodesUptoRow : OpenClaim := { program := "ytajdfbopddcliaa", sum := "3cf671015bd0c677408fa69be6ebe0406ae6be26342a0dfa2fde31312057f38e", func := "lockfast/lockfastlaw07.MarkEncodes", spec := "markEncodes", apart := false, narrowed := true }
def MarkEncodesUptoSaid : Prop := markEncodesUptoRow.holds Try.pinned (OpenSpec.upto markEncodesSpec)

/-- 'lockfastlaw07.MarkDecodes', WHERE WHAT IT READS IS OF BULK AT MOST 1048576: true; the input reads as it did. -/
def markDecodesUptoRow : OpenClaim := { program := "ytajdfbopddcliaa", sum := "3cf671015bd0c677408fa69be6ebe0406ae6be26342a0dfa2fde31312057f38e", func := "lockfast/lockfastlaw07.MarkDecodes", spec := "markDecodes", apart := false, narrowed := true }
def MarkDecodesUptoSaid : Prop := markDecodesUptoRow.holds Try.pinned (OpenSpec.upto markDecodesSpec)

/-- 'lockfastlaw07.MarkTurns', WHERE WHAT IT READS IS OF BULK AT MOST 1048576: true; the input reads as it did. -/
def markTurnsUptoRow : OpenClaim := { program := "ytajdfbopddcliaa", sum := "3cf671015bd0c677408fa69be6ebe0406ae6be26342a0dfa2fde31312057f38e", func := "lockfast/lockfastlaw07.MarkTurns", spec := "markTurns", apart := false, narrowed := true }
def MarkTurnsUptoSaid : Prop := markTurnsUptoRow.holds Try.pinned (OpenSpec.upto markTurnsSpec)

/-- 'lockfastlaw07.MarkBack', WHERE WHAT IT READS IS OF BULK AT MOST 1048576: true; the input reads as it did. -/
def markBackUptoRow : OpenClaim := { program := "ytajdfbopddcliaa", sum := "3cf671015bd0c677408fa69be6ebe0406ae6be26342a0dfa2fde31312057f38e", func := "lockfast/lockfastlaw07.MarkBack", spec := "markBack", apart := false, narrowed := true }
def MarkBackUptoSaid : Prop := markBackUptoRow.holds Try.pinned (OpenSpec.upto markBackSpec)

/-- 'lockfastlaw07.MarkRounds', WHERE WHAT IT READS IS OF BULK AT MOST 1048576: true; the input reads as it did. -/
def markRoundsUptoRow : OpenClaim := { program := "ytajdfbopddcliaa", sum := "3cf671015bd0c677408fa69be6ebe0406ae6be26342a0dfa2fde31312057f38e", func := "lockfast/lockfastlaw07.MarkRounds", spec := "markRounds", apart := false, narrowed := true }
def MarkRoundsUptoSaid : Prop := markRoundsUptoRow.holds Try.pinned (OpenSpec.upto markRoundsSpec)

/-- 'lockfastlaw07.MarkUnlike', WHERE WHAT IT READS IS OF BULK AT MOST 1048576: true; the input reads as it did. -/
def markUnlikeUptoRow : OpenClaim := { program := "ytajdfbopddcliaa", sum := "3cf671015bd0c677408fa69be6ebe0406ae6be26342a0dfa2fde31312057f38e", func := "lockfast/lockfastlaw07.MarkUnlike", spec := "markUnlike", apart := false, narrowed := true }
def MarkUnlikeUptoSaid : Prop := markUnlikeUptoRow.holds Try.pinned (OpenSpec.upto markUnlikeSpec)

/-- 'lockfastlaw01.FieldTells', WHERE WHAT IT READS IS OF BULK AT MOST 1048576: true; the input reads as it did. -/
def fieldTellsUptoRow : OpenClaim := { program := "ytajdfbopddcliaa", sum := "3cf671015bd0c677408fa69be6ebe0406ae6be26342a0dfa2fde31312057f38e", func := "lockfast/lockfastlaw01.FieldTells", spec := "fieldTells", unfollowed := true, recurses := true, apart := false, narrowed := true }
def FieldTellsUptoSaid : Prop := fieldTellsUptoRow.holds Try.pinned (OpenSpec.upto fieldTellsSpec)

/-- 'lockfastlaw01.FieldCounts', WHERE WHAT IT READS IS OF BULK AT MOST 1048576: true; the input reads as it did. -/
def fieldCountsUptoRow : OpenClaim := { program := "ytajdfbopddcliaa", sum := "3cf671015bd0c677408fa69be6ebe0406ae6be26342a0dfa2fde31312057f38e", func := "lockfast/lockfastlaw01.FieldCounts", spec := "fieldCounts", unfollowed := true, recurses := true, apart := false, narrowed := true }
def FieldCountsUptoSaid : Prop := fieldCountsUptoRow.holds Try.pinned (OpenSpec.upto fieldCountsSpec)

/-- 'lockfastlaw01.FieldBack', WHERE WHAT IT READS IS OF BULK AT MOST 1048576: true; the input reads as it did. -/
def fieldBackUptoRow : OpenClaim := { program := "ytajdfbopddcliaa", sum := "3cf671015bd0c677408fa69be6ebe0406ae6be26342a0dfa2fde31312057f38e", func := "lockfast/lockfastlaw01.FieldBack", spec := "fieldBack", unfollowed := true, recurses := true, apart := false, narrowed := true }
def FieldBackUptoSaid : Prop := fieldBackUptoRow.holds Try.pinned (OpenSpec.upto fieldBackSpec)

/-- 'lockfastlaw01.FieldApart', WHERE WHAT IT READS IS OF BULK AT MOST 1048576: true; the input reads as it did. -/
def fieldApartUptoRow : OpenClaim := { program := "ytajdfbopddcliaa", sum := "3cf671015bd0c677408fa69be6ebe0406ae6be26342a0dfa2fde31312057f38e", func := "lockfast/lockfastlaw01.FieldApart", spec := "fieldApart", unfollowed := true, recurses := true, apart := false, narrowed := true }
def FieldApartUptoSaid : Prop := fieldApartUptoRow.holds Try.pinned (OpenSpec.upto fieldApartSpec)

/-- 'lockfastlaw01.FieldFirst', WHERE WHAT IT READS IS OF BULK AT MOST 1048576: true; the input reads as it did. -/
def fieldFirstUptoRow : OpenClaim := { program := "ytajdfbopddcliaa", sum := "3cf671015bd0c677408fa69be6ebe0406ae6be26342a0dfa2fde31312057f38e", func := "lockfast/lockfastlaw01.FieldFirst", spec := "fieldFirst", unfollowed := true, recurses := true, apart := false, narrowed := true }
def FieldFirstUptoSaid : Prop := fieldFirstUptoRow.holds Try.pinned (OpenSpec.upto fieldFirstSpec)

/-- 'lockfastlaw01.FieldPlaces', WHERE WHAT IT READS IS OF BULK AT MOST 1048576: true; the input reads as it did. -/
def fieldPlacesUptoRow : OpenClaim := { program := "ytajdfbopddcliaa", sum := "3cf671015bd0c677408fa69be6ebe0406ae6be26342a0dfa2fde31312057f38e", func := "lockfast/lockfastlaw01.FieldPlaces", spec := "fieldPlaces", unfollowed := true, recurses := true, apart := false, narrowed := true }
def FieldPlacesUptoSaid : Prop := fieldPlacesUptoRow.holds Try.pinned (OpenSpec.upto fieldPlacesSpec)

end Rows
end Go.Proofs.Ytajdfbopddcliaa
