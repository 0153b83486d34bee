/-
  No cell of these rows narrows 'for every input' (looked for: loops, veiled, ifaces, maps, wideKeys, modest, calm, conditions, laid).
  DERIVED. THE GIVEN ROWS OF THIS SEAT. 11 by the template 'for every input the law returns true; each argument reads behind the call as it read before'; 0 by the template 'total and deterministic' (their statements: YtmflkbmjchapiaaTotals.lean).
  GIVEN WITH THE SEED: the statements are not yours to turn. If you find one false, say at which input.
  Laid BY PROGRAM, IN A SANDBOX (cutbox-rows.mjs): the forced cells as the released guide's own fill.sh prints them over the translation cb266cc40592a880… (all of the seat's roots in one cut). By AI agents, Wed Nov 11 2026. No macro, syntax, notation, axiom, sorry.
-/
import Derived.Test.YtmflkbmjchapiaaChecked
import GoSem.Claim
import GoSem.ClaimJoined
import GoSem.ClaimMapViews
import Derived.JoinedTies
import Derived.KernelRfl
namespace Go.Proofs.Ytmflkbmjchapiaa
/- THE CELL 'sum', in the pinned program and in every row, IS THE sha256 OF THE DUMP (.gsa) THAT YtmflkbmjchapiaaProg.lean LOADS. Nothing in Lean hashes anything: it is a label: what it is worth is what the hold of that sum in a sandbox is worth. -/
noncomputable def Try.pinned : Pinned := { name := "ytmflkbmjchapiaa", sum := "cb266cc40592a880ffeab9ac6c9980b2715fc68c0a5b1d5bd73672131740b870", checked := Try.checked }
namespace Rows
def none {H : Type} : Left H := { results := [], args := [] }

/-- 'lockfastlaw02.SealTells': WHATEVER THE INPUT: true; the input reads as it did. -/
def sealTellsSpec : ChangeSpec := { name := "sealTells", fn := fun _ => fun
  | [d1, d2] => { results := [.lit (.bool true)], args := [d1, d2] }
  | _ => none }
def sealTellsRow : OpenClaim := { program := "ytmflkbmjchapiaa", sum := "cb266cc40592a880ffeab9ac6c9980b2715fc68c0a5b1d5bd73672131740b870", func := "lockfast/lockfastlaw02.SealTells", spec := "sealTells", unfollowed := true, recurses := true, apart := false }
def SealTellsSaid : Prop := sealTellsRow.holds Try.pinned (OpenSpec.ofChange sealTellsSpec)

/-- ITS FALSE NEIGHBOUR: 'it returns false'. Refute it at one input. -/
def sealTellsWrong : ChangeSpec := { name := "sealTells", fn := fun _ => fun
  | [d1, d2] => { results := [.lit (.bool false)], args := [d1, d2] }
  | _ => none }
def SealTellsWrongFalsely : Prop := sealTellsRow.holds Try.pinned (OpenSpec.ofChange sealTellsWrong)

/-- 'lockfastlaw02.SealOpens': WHATEVER THE INPUT: true; the input reads as it did. -/
def sealOpensSpec : ChangeSpec := { name := "sealOpens", fn := fun _ => fun
  | [d] => { results := [.lit (.bool true)], args := [d] }
  | _ => none }
def sealOpensRow : OpenClaim := { program := "ytmflkbmjchapiaa", sum := "cb266cc40592a880ffeab9ac6c9980b2715fc68c0a5b1d5bd73672131740b870", func := "lockfast/lockfastlaw02.SealOpens", spec := "sealOpens", unfollowed := true, recurses := true, apart := false }
def SealOpensSaid : Prop := sealOpensRow.holds Try.pinned (OpenSpec.ofChange sealOpensSpec)

/-- ITS FALSE NEIGHBOUR: 'it returns false'. Refute it at one input. -/
def sealOpensWrong : ChangeSpec := { name := "sealOpens", fn := fun _ => fun
  | [d] => { results := [.lit (.bool false)], args := [d] }
  | _ => none }
def SealOpensWrongFalsely : Prop := sealOpensRow.holds Try.pinned (OpenSpec.ofChange sealOpensWrong)

/-- 'lockfastlaw02.SealParts': WHATEVER THE INPUT: true; the input reads as it did. -/
def sealPartsSpec : ChangeSpec := { name := "sealParts", fn := fun _ => fun
  | [d1, d2] => { results := [.lit (.bool true)], args := [d1, d2] }
  | _ => none }
def sealPartsRow : OpenClaim := { program := "ytmflkbmjchapiaa", sum := "cb266cc40592a880ffeab9ac6c9980b2715fc68c0a5b1d5bd73672131740b870", func := "lockfast/lockfastlaw02.SealParts", spec := "sealParts", unfollowed := true, recurses := true, apart := false }
def SealPartsSaid : Prop := sealPartsRow.holds Try.pinned (OpenSpec.ofChange sealPartsSpec)

/-- ITS FALSE NEIGHBOUR: 'it returns false'. Refute it at one input. -/
def sealPartsWrong : ChangeSpec := { name := "sealParts", fn := fun _ => fun
  | [d1, d2] => { results := [.lit (.bool false)], args := [d1, d2] }
  | _ => none }
def SealPartsWrongFalsely : Prop := sealPartsRow.holds Try.pinned (OpenSpec.ofChange sealPartsWrong)

/-- 'lockfastlaw02.SealBursts': WHATEVER THE INPUT: true; the input reads as it did. -/
def sealBurstsSpec : ChangeSpec := { name := "sealBursts", fn := fun _ => fun
  | [d1, d2, d3] => { results := [.lit (.bool true)], args := [d1, d2, d3] }
  | _ => none }
def sealBurstsRow : OpenClaim := { program := "ytmflkbmjchapiaa", sum := "cb266cc40592a880ffeab9ac6c9980b2715fc68c0a5b1d5bd73672131740b870", func := "lockfast/lockfastlaw02.SealBursts", spec := "sealBursts", unfollowed := true, recurses := true, apart := false }
def SealBurstsSaid : Prop := sealBurstsRow.holds Try.pinned (OpenSpec.ofChange sealBurstsSpec)

/-- ITS FALSE NEIGHBOUR: 'it returns false'. Refute it at one input. -/
def sealBurstsWrong : ChangeSpec := { name := "sealBursts", fn := fun _ => fun
  | [d1, d2, d3] => { results := [.lit (.bool false)], args := [d1, d2, d3] }
  | _ => none }
def SealBurstsWrongFalsely : Prop := sealBurstsRow.holds Try.pinned (OpenSpec.ofChange sealBurstsWrong)

/-- 'lockfastlaw02.SealSums': WHATEVER THE INPUT: true; the input reads as it did. -/
def sealSumsSpec : ChangeSpec := { name := "sealSums", fn := fun _ => fun
  | [d1, d2, d3] => { results := [.lit (.bool true)], args := [d1, d2, d3] }
  | _ => none }
def sealSumsRow : OpenClaim := { program := "ytmflkbmjchapiaa", sum := "cb266cc40592a880ffeab9ac6c9980b2715fc68c0a5b1d5bd73672131740b870", func := "lockfast/lockfastlaw02.SealSums", spec := "sealSums", unfollowed := true, recurses := true, apart := false }
def SealSumsSaid : Prop := sealSumsRow.holds Try.pinned (OpenSpec.ofChange sealSumsSpec)

/-- ITS FALSE NEIGHBOUR: 'it returns false'. Refute it at one input. -/
def sealSumsWrong : ChangeSpec := { name := "sealSums", fn := fun _ => fun
  | [d1, d2, d3] => { results := [.lit (.bool false)], args := [d1, d2, d3] }
  | _ => none }
def SealSumsWrongFalsely : Prop := sealSumsRow.holds Try.pinned (OpenSpec.ofChange sealSumsWrong)

/-- 'lockfastlaw02.SealHalves': WHATEVER THE INPUT: true; the input reads as it did. -/
def sealHalvesSpec : ChangeSpec := { name := "sealHalves", fn := fun _ => fun
  | [d1, d2, d3] => { results := [.lit (.bool true)], args := [d1, d2, d3] }
  | _ => none }
def sealHalvesRow : OpenClaim := { program := "ytmflkbmjchapiaa", sum := "cb266cc40592a880ffeab9ac6c9980b2715fc68c0a5b1d5bd73672131740b870", func := "lockfast/lockfastlaw02.SealHalves", spec := "sealHalves", unfollowed := true, recurses := true, apart := false }
def SealHalvesSaid : Prop := sealHalvesRow.holds Try.pinned (OpenSpec.ofChange sealHalvesSpec)

/-- ITS FALSE NEIGHBOUR: 'it returns false'. Refute it at one input. -/
def sealHalvesWrong : ChangeSpec := { name := "sealHalves", fn := fun _ => fun
  | [d1, d2, d3] => { results := [.lit (.bool false)], args := [d1, d2, d3] }
  | _ => none }
def SealHalvesWrongFalsely : Prop := sealHalvesRow.holds Try.pinned (OpenSpec.ofChange sealHalvesWrong)

/-- 'lockfastlaw06.SuperEncodes': WHATEVER THE INPUT: true; the input reads as it did. -/
def superEncodesSpec : ChangeSpec := { name := "superEncodes", fn := fun _ => fun
  | [d] => { results := [.lit (.bool true)], args := [d] }
  | _ => none }
def superEncodesRow : OpenClaim := { program := "ytmflkbmjchapiaa", sum := "cb266cc40592a880ffeab9ac6c9980b2715fc68c0a5b1d5bd73672131740b870", func := "lockfast/lockfastlaw06.SuperEncodes", spec := "superEncodes", unfollowed := true, recurses := true, apart := false }
def SuperEncodesSaid : Prop := superEncodesRow.holds Try.pinned (OpenSpec.ofChange superEncodesSpec)

/-- ITS FALSE NEIGHBOUR: 'it returns false'. Refute it at one input. -/
def superEncodesWrong : ChangeSpec := { name := "superEncodes", fn := fun _ => fun
  | [d] => { results := [.lit (.bool false)], args := [d] }
  | _ => none }
def SuperEncodesWrongFalsely : Prop := superEncodesRow.holds Try.pinned (OpenSpec.ofChange superEncodesWrong)

/-- 'lockfastlaw06.SuperDecodes': WHATEVER THE INPUT: true; the input reads as it did. -/
def superDecodesSpec : ChangeSpec := { name := "superDecodes", fn := fun _ => fun
  | [d1, d2] => { results := [.lit (.bool true)], args := [d1, d2] }
  | _ => none }
def superDecodesRow : OpenClaim := { program := "ytmflkbmjchapiaa", sum := "cb266cc40592a880ffeab9ac6c9980b2715fc68c0a5b1d5bd73672131740b870", func := "lockfast/lockfastlaw06.SuperDecodes", spec := "superDecodes", unfollowed := true, recurses := true, apart := false }
def SuperDecodesSaid : Prop := superDecodesRow.holds Try.pinned (OpenSpec.ofChange superDecodesSpec)

/-- ITS FALSE NEIGHBOUR: 'it returns false'. Refute it at one input. -/
def superDecodesWrong : ChangeSpec := { name := "superDecodes", fn := fun _ => fun
  | [d1, d2] => { results := [.lit (.bool false)], args := [d1, d2] }
  | _ => none }
def SuperDecodesWrongFalsely : Prop := superDecodesRow.holds Try.pinned (OpenSpec.ofChange superDecodesWrong)

/-- 'lockfastlaw06.SuperBack': WHATEVER THE INPUT: true; the input reads as it did. -/
def superBackSpec : ChangeSpec := { name := "superBack", fn := fun _ => fun
  | [d1, d2, d3, d4, d5] => { results := [.lit (.bool true)], args := [d1, d2, d3, d4, d5] }
  | _ => none }
def superBackRow : OpenClaim := { program := "ytmflkbmjchapiaa", sum := "cb266cc40592a880ffeab9ac6c9980b2715fc68c0a5b1d5bd73672131740b870", func := "lockfast/lockfastlaw06.SuperBack", spec := "superBack", unfollowed := true, recurses := true, apart := false }
def SuperBackSaid : Prop := superBackRow.holds Try.pinned (OpenSpec.ofChange superBackSpec)

/-- ITS FALSE NEIGHBOUR: 'it returns false'. Refute it at one input. -/
def superBackWrong : ChangeSpec := { name := "superBack", fn := fun _ => fun
  | [d1, d2, d3, d4, d5] => { results := [.lit (.bool false)], args := [d1, d2, d3, d4, d5] }
  | _ => none }
def SuperBackWrongFalsely : Prop := superBackRow.holds Try.pinned (OpenSpec.ofChange superBackWrong)

/-- 'lockfastlaw06.SuperBursts': WHATEVER THE INPUT: true; the input reads as it did. -/
def superBurstsSpec : ChangeSpec := { name := "superBursts", fn := fun _ => fun
  | [d1, d2, d3, d4, d5] => { results := [.lit (.bool true)], args := [d1, d2, d3, d4, d5] }
  | _ => none }
def superBurstsRow : OpenClaim := { program := "ytmflkbmjchapiaa", sum := "cb266cc40592a880ffeab9ac6c9980b2715fc68c0a5b1d5bd73672131740b870", func := "lockfast/lockfastlaw06.SuperBursts", spec := "superBursts", unfollowed := true, recurses := true, apart := false }
def SuperBurstsSaid : Prop := superBurstsRow.holds Try.pinned (OpenSpec.ofChange superBurstsSpec)

/-- ITS FALSE NEIGHBOUR: 'it returns false'. Refute it at one input. -/
def superBurstsWrong : ChangeSpec := { name := "superBursts", fn := fun _ => fun
  | [d1, d2, d3, d4, d5] => { results := [.lit (.bool false)], args := [d1, d2, d3, d4, d5] }
  | _ => none }
def SuperBurstsWrongFalsely : Prop := superBurstsRow.holds Try.pinned (OpenSpec.ofChange superBurstsWrong)

/-- 'lockfastlaw06.SuperUnlike': WHATEVER THE INPUT: true; the input reads as it did. -/
def superUnlikeSpec : ChangeSpec := { name := "superUnlike", fn := fun _ => fun
  | [d1, d2, d3, d4, d5, d6] => { results := [.lit (.bool true)], args := [d1, d2, d3, d4, d5, d6] }
  | _ => none }
def superUnlikeRow : OpenClaim := { program := "ytmflkbmjchapiaa", sum := "cb266cc40592a880ffeab9ac6c9980b2715fc68c0a5b1d5bd73672131740b870", func := "lockfast/lockfastlaw06.SuperUnlike", spec := "superUnlike", unfollowed := true, recurses := true, apart := false }
def SuperUnlikeSaid : Prop := superUnlikeRow.holds Try.pinned (OpenSpec.ofChange superUnlikeSpec)

/-- ITS FALSE NEIGHBOUR: 'it returns false'. Refute it at one input. -/
def superUnlikeWrong : ChangeSpec := { name := "superUnlike", fn := fun _ => fun
  | [d1, d2, d3, d4, d5, d6] => { results := [.lit (.bool false)], args := [d1, d2, d3, d4, d5, d6] }
  | _ => none }
def SuperUnlikeWrongFalsely : Prop := superUnlikeRow.holds Try.pinned (OpenSpec.ofChange superUnlikeWrong)

/- THE SECOND FORM. 'bulk': how many values and letters a reading holds, each counted each time it is reached (what is shared counts as often as it is met; a slice's spare places count too). A statement '..UptoSaid' is the law's where the arguments, and the package variables that the reading takes, are together of bulk at most 1048576: NARROWER than '..Said'. Prove '..Said' where nothing that the law and all that it calls make is longer than what came in: it says more and counts as full. Else prove '..UptoSaid'. A law counts once. -/
mutual
def uptoBulk {H : Type} : DataW H → Nat
  | .lit (.string bytes) => bytes.length + 1
  | .lit _ => 1
  | .nil => 1
  | .ptr d => uptoBulk d + 1
  | .slice elems spare => uptoBulkAll elems + uptoBulkAll spare + 1
  | .agg parts => uptoBulkAll parts + 1
  | .iface _ d => uptoBulk d + 1
  | .map entries => uptoBulkEntries entries + 1
  | .held _ => 1
def uptoBulkAll {H : Type} : List (DataW H) → Nat
  | [] => 0
  | d :: r => uptoBulk d + uptoBulkAll r
def uptoBulkEntries {H : Type} : List (Lit × DataW H) → Nat
  | [] => 0
  | x :: r => uptoBulkEntry x + uptoBulkEntries r
def uptoBulkEntry {H : Type} : Lit × DataW H → Nat
  | (.string bytes, d) => bytes.length + uptoBulk d + 1
  | (_, d) => uptoBulk d + 1
 end
def uptoSmall : (H : Type) → List (DataW H) → Bool := fun _ ds => decide (uptoBulkAll ds ≤ 1048576)
def OpenSpec.upto (s : _root_.Go.ChangeSpec) : _root_.Go.OpenSpec := { _root_.Go.OpenSpec.ofChange s with cond := some uptoSmall }

/-- 'lockfastlaw02.SealTells', WHERE WHAT IT READS IS OF BULK AT MOST 1048576: true; the input reads as it did. -/
def sealTellsUptoRow : OpenClaim := { program := "ytmflkbmjchapiaa", sum := "cb266cc40592a880ffeab9ac6c9980b2715fc68c0a5b1d5bd73672131740b870", func := "lockfast/lockfastlaw02.SealTells", spec := "sealTells", unfollowed := true, recurses := true, apart := false, narrowed := true }
def SealTellsUptoSaid : Prop := sealTellsUptoRow.holds Try.pinned (OpenSpec.upto sealTellsSpec)

/-- 'lockfastlaw02.SealOpens', WHERE WHAT IT READS IS OF BULK AT MOST 1048576: true; the input reads as it did. -/
def sealOpensUptoRow : OpenClaim := { program := "ytmflkbmjchapiaa", sum := "cb266cc40592a880ffeab9ac6c9980b2715fc68c0a5b1d5bd73672131740b870", func := "lockfast/lockfastlaw02.SealOpens", spec := "sealOpens", unfollowed := true, recurses := true, apart := false, narrowed := true }
def SealOpensUptoSaid : Prop := sealOpensUptoRow.holds Try.pinned (OpenSpec.upto sealOpensSpec)

/-- 'lockfastlaw02.SealParts', WHERE WHAT IT READS IS OF BULK AT MOST 1048576: true; the input reads as it did. -/
def sealPartsUptoRow : OpenClaim := { program := "ytmflkbmjchapiaa", sum := "cb266cc40592a880ffeab9ac6c9980b2715fc68c0a5b1d5bd73672131740b870", func := "lockfast/lockfastlaw02.SealParts", spec := "sealParts", unfollowed := true, recurses := true, apart := false, narrowed := true }
def SealPartsUptoSaid : Prop := sealPartsUptoRow.holds Try.pinned (OpenSpec.upto sealPartsSpec)

/-- 'lockfastlaw02.SealBursts', WHERE WHAT IT READS IS OF BULK AT MOST 1048576: true; the input reads as it did. -/
def sealBurstsUptoRow : OpenClaim := { program := "ytmflkbmjchapiaa", sum := "cb266cc40592a880ffeab9ac6c9980b2715fc68c0a5b1d5bd73672131740b870", func := "lockfast/lockfastlaw02.SealBursts", spec := "sealBursts", unfollowed := true, recurses := true, apart := false, narrowed := true }
def SealBurstsUptoSaid : Prop := sealBurstsUptoRow.holds Try.pinned (OpenSpec.upto sealBurstsSpec)

/-- 'lockfastlaw02.SealSums', WHERE WHAT IT READS IS OF BULK AT MOST 1048576: true; the input reads as it did. -/
def sealSumsUptoRow : OpenClaim := { program := "ytmflkbmjchapiaa", sum := "cb266cc40592a880ffeab9ac6c9980b2715fc68c0a5b1d5bd73672131740b870", func := "lockfast/lockfastlaw02.SealSums", spec := "sealSums", unfollowed := true, recurses := true, apart := false, narrowed := true }
def SealSumsUptoSaid : Prop := sealSumsUptoRow.holds Try.pinned (OpenSpec.upto sealSumsSpec)

/-- 'lockfastlaw02.SealHalves', WHERE WHAT IT READS IS OF BULK AT MOST 1048576: true; the input reads as it did. -/
def sealHalvesUptoRow : OpenClaim := { program := "ytmflkbmjchapiaa", sum := "cb266cc40592a880ffeab9ac6c9980b2715fc68c0a5b1d5bd73672131740b870", func := "lockfast/lockfastlaw02.SealHalves", spec := "sealHalves", unfollowed := true, recurses := true, apart := false, narrowed := true }
def SealHalvesUptoSaid : Prop := sealHalvesUptoRow.holds Try.pinned (OpenSpec.upto sealHalvesSpec)

/-- 'lockfastlaw06.SuperEncodes', WHERE WHAT IT READS IS OF BULK AT MOST 1048576: true; the input reads as it did. -/
def superEncodesUptoRow : OpenClaim := { program := "ytmflkbmjchapiaa", sum := "cb266cc40592a880ffeab9ac6c9980b2715fc68c0a5b1d5bd73672131740b870", func := "lockfast/lockfastlaw06.SuperEncodes", spec := "superEncodes", unfollowed := true, recurses := true, apart := false, narrowed := true }
def SuperEncodesUptoSaid : Prop := superEncodesUptoRow.holds Try.pinned (OpenSpec.upto superEncodesSpec)

/-- 'lockfastlaw06.SuperDecodes', WHERE WHAT IT READS IS OF BULK AT MOST 1048576: true; the input reads as it did. -/
def superDecodesUptoRow : OpenClaim := { program := "ytmflkbmjchapiaa", sum := "cb266cc40592a880ffeab9ac6c9980b2715fc68c0a5b1d5bd73672131740b870", func := "lockfast/lockfastlaw06.SuperDecodes", spec := "superDecodes", unfollowed := true, recurses := true, apart := false, narrowed := true }
def SuperDecodesUptoSaid : Prop := superDecodesUptoRow.holds Try.pinned (OpenSpec.upto superDecodesSpec)

/-- 'lockfastlaw06.SuperBack', WHERE WHAT IT READS IS OF BULK AT MOST 1048576: true; the input reads as it did. -/
def superBackUptoRow : OpenClaim := { program := "ytmflkbmjchapiaa", sum := "cb266cc40592a880ffeab9ac6c9980b2715fc68c0a5b1d5bd73672131740b870", func := "lockfast/lockfastlaw06.SuperBack", spec := "superBack", unfollowed := true, recurses := true, apart := false, narrowed := true }
def SuperBackUptoSaid : Prop := superBackUptoRow.holds Try.pinned (OpenSpec.upto superBackSpec)

/-- 'lockfastlaw06.SuperBursts', WHERE WHAT IT READS IS OF BULK AT MOST 1048576: true; the input reads as it did. -/
def superBurstsUptoRow : OpenClaim := { program := "ytmflkbmjchapiaa", sum := "cb266cc40592a880ffeab9ac6c9980b2715fc68c0a5b1d5bd73672131740b870", func := "lockfast/lockfastlaw06.SuperBursts", spec := "superBursts", unfollowed := true, recurses := true, apart := false, narrowed := true }
def SuperBurstsUptoSaid : Prop := superBurstsUptoRow.holds Try.pinned (OpenSpec.upto superBurstsSpec)

/-- 'lockfastlaw06.SuperUnlike', WHERE WHAT IT READS IS OF BULK AT MOST 1048576: true; the input reads as it did. -/
def superUnlikeUptoRow : OpenClaim := { program := "ytmflkbmjchapiaa", sum := "cb266cc40592a880ffeab9ac6c9980b2715fc68c0a5b1d5bd73672131740b870", func := "lockfast/lockfastlaw06.SuperUnlike", spec := "superUnlike", unfollowed := true, recurses := true, apart := false, narrowed := true }
def SuperUnlikeUptoSaid : Prop := superUnlikeUptoRow.holds Try.pinned (OpenSpec.upto superUnlikeSpec)

end Rows
end Go.Proofs.Ytmflkbmjchapiaa
