/-
  NARROWER THAN 'FOR EVERY INPUT', by the rows' own cells (each row's printed sentence says how): ClassFills: laid · ClassTells: laid · ClassFits: laid · ClassMore: laid · ClassWrong: laid.
  DERIVED. THE GIVEN ROWS OF THIS SEAT. 5 by the template 'for every input the law returns true; each argument reads behind the call as it read before'; 0 by the template 'total and deterministic' (their statements: YtnkigdcicnhepaaDoorTotals.lean).
  GIVEN WITH THE SEED: the statements are not yours to turn. If you find one false, say at which input.
  Laid BY PROGRAM, IN A SANDBOX (cutbox-rows.mjs): the forced cells as the released guide's own fill.sh prints them over the translation 57f6aebe4a1e7120… (all of the seat's roots in one cut). By AI agents, Wed Nov 11 2026. No macro, syntax, notation, axiom, sorry.
-/
import Derived.Test.YtnkigdcicnhepaaDoorChecked
import GoSem.Claim
import GoSem.ClaimJoined
import GoSem.ClaimMapViews
import Derived.JoinedTies
import Derived.KernelRfl
namespace Go.Proofs.YtnkigdcicnhepaaDoor
/- THE CELL 'sum', in the pinned program and in every row, IS THE sha256 OF THE DUMP (.gsa) THAT YtnkigdcicnhepaaDoorProg.lean LOADS. Nothing in Lean hashes anything: it is a label: what it is worth is what the hold of that sum in a sandbox is worth. -/
noncomputable def Tryd.pinned : Pinned := { name := "ytnkigdcicnhepaadoor", sum := "57f6aebe4a1e712088abf75356a07f525cdb2d4d175c090e6eeda6a73465d002", checked := Tryd.checked }
namespace Rows
def none {H : Type} : Left H := { results := [], args := [] }

/- WHAT THE LISTED PACKAGE-LEVEL VARIABLES READ AS WHEN THE CALL BEGINS. Each datum BY PROGRAM (the guide's laid-datum.mjs) off the statement by which the dump's own 'gosem.cut.vars' lays the variable. In a bare row this is a premise. The card (YtnkigdcicnhepaaDoorCards.lean) ties it to the program's text. -/
def laid_lockfast_class_blocks {H : Type} : DataW H := .agg [.lit (.int .i64 4), .lit (.int .i64 8), .lit (.int .i64 16)]

/-- 'lockfastlaw09.ClassFills': WHATEVER THE INPUT: true; the input reads as it did. -/
def classFillsSpec : ChangeSpec := { name := "classFills", fn := fun _ => fun
  | [d] => { results := [.lit (.bool true)], args := [d] }
  | _ => none }
def classFillsRow : OpenClaim := { program := "ytnkigdcicnhepaadoor", sum := "57f6aebe4a1e712088abf75356a07f525cdb2d4d175c090e6eeda6a73465d002", func := "lockfast/lockfastlaw09.ClassFills", spec := "classFills", named := ["lockfast/class.blocks"], apart := false, laid := [("lockfast/class.blocks", laid_lockfast_class_blocks)] }
def ClassFillsSaid : Prop := classFillsRow.holds Tryd.pinned (OpenSpec.ofChange classFillsSpec)

/-- ITS FALSE NEIGHBOUR: 'it returns false'. Refute it at one input. -/
def classFillsWrong : ChangeSpec := { name := "classFills", fn := fun _ => fun
  | [d] => { results := [.lit (.bool false)], args := [d] }
  | _ => none }
def ClassFillsWrongFalsely : Prop := classFillsRow.holds Tryd.pinned (OpenSpec.ofChange classFillsWrong)

/-- 'lockfastlaw09.ClassTells': WHATEVER THE INPUT: true; the input reads as it did. -/
def classTellsSpec : ChangeSpec := { name := "classTells", fn := fun _ => fun
  | [d1, d2] => { results := [.lit (.bool true)], args := [d1, d2] }
  | _ => none }
def classTellsRow : OpenClaim := { program := "ytnkigdcicnhepaadoor", sum := "57f6aebe4a1e712088abf75356a07f525cdb2d4d175c090e6eeda6a73465d002", func := "lockfast/lockfastlaw09.ClassTells", spec := "classTells", named := ["lockfast/class.blocks"], apart := false, laid := [("lockfast/class.blocks", laid_lockfast_class_blocks)] }
def ClassTellsSaid : Prop := classTellsRow.holds Tryd.pinned (OpenSpec.ofChange classTellsSpec)

/-- ITS FALSE NEIGHBOUR: 'it returns false'. Refute it at one input. -/
def classTellsWrong : ChangeSpec := { name := "classTells", fn := fun _ => fun
  | [d1, d2] => { results := [.lit (.bool false)], args := [d1, d2] }
  | _ => none }
def ClassTellsWrongFalsely : Prop := classTellsRow.holds Tryd.pinned (OpenSpec.ofChange classTellsWrong)

/-- 'lockfastlaw09.ClassFits': WHATEVER THE INPUT: true; the input reads as it did. -/
def classFitsSpec : ChangeSpec := { name := "classFits", fn := fun _ => fun
  | [d] => { results := [.lit (.bool true)], args := [d] }
  | _ => none }
def classFitsRow : OpenClaim := { program := "ytnkigdcicnhepaadoor", sum := "57f6aebe4a1e712088abf75356a07f525cdb2d4d175c090e6eeda6a73465d002", func := "lockfast/lockfastlaw09.ClassFits", spec := "classFits", named := ["lockfast/class.blocks"], apart := false, laid := [("lockfast/class.blocks", laid_lockfast_class_blocks)] }
def ClassFitsSaid : Prop := classFitsRow.holds Tryd.pinned (OpenSpec.ofChange classFitsSpec)

/-- ITS FALSE NEIGHBOUR: 'it returns false'. Refute it at one input. -/
def classFitsWrong : ChangeSpec := { name := "classFits", fn := fun _ => fun
  | [d] => { results := [.lit (.bool false)], args := [d] }
  | _ => none }
def ClassFitsWrongFalsely : Prop := classFitsRow.holds Tryd.pinned (OpenSpec.ofChange classFitsWrong)

/-- 'lockfastlaw09.ClassMore': WHATEVER THE INPUT: true; the input reads as it did. -/
def classMoreSpec : ChangeSpec := { name := "classMore", fn := fun _ => fun
  | [d1, d2] => { results := [.lit (.bool true)], args := [d1, d2] }
  | _ => none }
def classMoreRow : OpenClaim := { program := "ytnkigdcicnhepaadoor", sum := "57f6aebe4a1e712088abf75356a07f525cdb2d4d175c090e6eeda6a73465d002", func := "lockfast/lockfastlaw09.ClassMore", spec := "classMore", named := ["lockfast/class.blocks"], apart := false, laid := [("lockfast/class.blocks", laid_lockfast_class_blocks)] }
def ClassMoreSaid : Prop := classMoreRow.holds Tryd.pinned (OpenSpec.ofChange classMoreSpec)

/-- ITS FALSE NEIGHBOUR: 'it returns false'. Refute it at one input. -/
def classMoreWrong : ChangeSpec := { name := "classMore", fn := fun _ => fun
  | [d1, d2] => { results := [.lit (.bool false)], args := [d1, d2] }
  | _ => none }
def ClassMoreWrongFalsely : Prop := classMoreRow.holds Tryd.pinned (OpenSpec.ofChange classMoreWrong)

/-- 'lockfastlaw09.ClassWrong': WHATEVER THE INPUT: true; the input reads as it did. -/
def classWrongSpec : ChangeSpec := { name := "classWrong", fn := fun _ => fun
  | [d] => { results := [.lit (.bool true)], args := [d] }
  | _ => none }
def classWrongRow : OpenClaim := { program := "ytnkigdcicnhepaadoor", sum := "57f6aebe4a1e712088abf75356a07f525cdb2d4d175c090e6eeda6a73465d002", func := "lockfast/lockfastlaw09.ClassWrong", spec := "classWrong", named := ["lockfast/class.blocks"], apart := false, laid := [("lockfast/class.blocks", laid_lockfast_class_blocks)] }
def ClassWrongSaid : Prop := classWrongRow.holds Tryd.pinned (OpenSpec.ofChange classWrongSpec)

/-- ITS FALSE NEIGHBOUR: 'it returns false'. Refute it at one input. -/
def classWrongWrong : ChangeSpec := { name := "classWrong", fn := fun _ => fun
  | [d] => { results := [.lit (.bool false)], args := [d] }
  | _ => none }
def ClassWrongWrongFalsely : Prop := classWrongRow.holds Tryd.pinned (OpenSpec.ofChange classWrongWrong)

/- THE SECOND FORM. 'bulk': how many values and letters a reading holds, each counted each time it is reached (what is shared counts as often as it is met; a slice's spare places count too). A statement '..UptoSaid' is the law's where the arguments, and the package variables that the reading takes, are together of bulk at most 1048576: NARROWER than '..Said'. Prove '..Said' where nothing that the law and all that it calls make is longer than what came in: it says more and counts as full. Else prove '..UptoSaid'. A law counts once. -/
mutual
def uptoBulk {H : Type} : DataW H → Nat
  | .lit (.string bytes) => bytes.length + 1
  | .lit _ => 1
  | .nil => 1
  | .ptr d => uptoBulk d + 1
  | .slice elems spare => uptoBulkAll elems + uptoBulkAll spare + 1
  | .agg parts => uptoBulkAll parts + 1
  | .iface _ d => uptoBulk d + 1
  | .map entries => uptoBulkEntries entries + 1
  | .held _ => 1
def uptoBulkAll {H : Type} : List (DataW H) → Nat
  | [] => 0
  | d :: r => uptoBulk d + uptoBulkAll r
def uptoBulkEntries {H : Type} : List (Lit × DataW H) → Nat
  | [] => 0
  | x :: r => uptoBulkEntry x + uptoBulkEntries r
def uptoBulkEntry {H : Type} : Lit × DataW H → Nat
  | (.string bytes, d) => bytes.length + uptoBulk d + 1
  | (_, d) => uptoBulk d + 1
 end
def uptoSmall : (H : Type) → List (DataW H) → Bool := fun _ ds => decide (uptoBulkAll ds ≤ 1048576)
def OpenSpec.upto (s : _root_.Go.ChangeSpec) : _root_.Go.OpenSpec := { _root_.Go.OpenSpec.ofChange s with cond := some uptoSmall }

/-- 'lockfastlaw09.ClassFills', WHERE WHAT IT READS IS OF BULK AT MOST 1048576: true; the input reads as it did. -/
def classFillsUptoRow : OpenClaim := { program := "ytnkigdcicnhepaadoor", sum := "57f6aebe4a1e712088abf75356a07f525cdb2d4d175c090e6eeda6a73465d002", func := "lockfast/lockfastlaw09.ClassFills", spec := "classFills", named := ["lockfast/class.blocks"], apart := false, laid := [("lockfast/class.blocks", laid_lockfast_class_blocks)], narrowed := true }
def ClassFillsUptoSaid : Prop := classFillsUptoRow.holds Tryd.pinned (OpenSpec.upto classFillsSpec)

/-- 'lockfastlaw09.ClassTells', WHERE WHAT IT READS IS OF BULK AT MOST 1048576: true; the input reads as it did. -/
def classTellsUptoRow : OpenClaim := { program := "ytnkigdcicnhepaadoor", sum := "57f6aebe4a1e712088abf75356a07f525cdb2d4d175c090e6eeda6a73465d002", func := "lockfast/lockfastlaw09.ClassTells", spec := "classTells", named := ["lockfast/class.blocks"], apart := false, laid := [("lockfast/class.blocks", laid_lockfast_class_blocks)], narrowed := true }
def ClassTellsUptoSaid : Prop := classTellsUptoRow.holds Tryd.pinned (OpenSpec.upto classTellsSpec)

/-- 'lockfastlaw09.ClassFits', WHERE WHAT IT READS IS OF BULK AT MOST 1048576: true; the input reads as it did. -/
def classFitsUptoRow : OpenClaim := { program := "ytnkigdcicnhepaadoor", sum := "57f6aebe4a1e712088abf75356a07f525cdb2d4d175c090e6eeda6a73465d002", func := "lockfast/lockfastlaw09.ClassFits", spec := "classFits", named := ["lockfast/class.blocks"], apart := false, laid := [("lockfast/class.blocks", laid_lockfast_class_blocks)], narrowed := true }
def ClassFitsUptoSaid : Prop := classFitsUptoRow.holds Tryd.pinned (OpenSpec.upto classFitsSpec)

/-- 'lockfastlaw09.ClassMore', WHERE WHAT IT READS IS OF BULK AT MOST 1048576: true; the input reads as it did. -/
def classMoreUptoRow : OpenClaim := { program := "ytnkigdcicnhepaadoor", sum := "57f6aebe4a1e712088abf75356a07f525cdb2d4d175c090e6eeda6a73465d002", func := "lockfast/lockfastlaw09.ClassMore", spec := "classMore", named := ["lockfast/class.blocks"], apart := false, laid := [("lockfast/class.blocks", laid_lockfast_class_blocks)], narrowed := true }
def ClassMoreUptoSaid : Prop := classMoreUptoRow.holds Tryd.pinned (OpenSpec.upto classMoreSpec)

/-- 'lockfastlaw09.ClassWrong', WHERE WHAT IT READS IS OF BULK AT MOST 1048576: true; the input reads as it did. -/
def classWrongUptoRow : OpenClaim := { program := "ytnkigdcicnhepaadoor", sum := "57f6aebe4a1e712088abf75356a07f525cdb2d4d175c090e6eeda6a73465d002", func := "lockfast/lockfastlaw09.ClassWrong", spec := "classWrong", named := ["lockfast/class.blocks"], apart := false, laid := [("lockfast/class.blocks", laid_lockfast_class_blocks)], narrowed := true }
def ClassWrongUptoSaid : Prop := classWrongUptoRow.holds Tryd.pinned (OpenSpec.upto classWrongSpec)

end Rows
end Go.Proofs.YtnkigdcicnhepaaDoor
