/-
  NARROWER THAN 'FOR EVERY INPUT', by the rows' own cells (each row's printed sentence says how): ChunkEncodes: laid · ChunkDecodes: laid · ChunkRooms: laid · ChunkBack: laid · ChunkLives: laid · ChunkFills: laid · ChunkUnlike: laid.
  DERIVED. THE GIVEN ROWS OF THIS SEAT. 7 by the template 'for every input the law returns true; each argument reads behind the call as it read before'; 0 by the template 'total and deterministic' (their statements: YtilnnkjlddmhbaaDoorTotals.lean).
  GIVEN WITH THE SEED: the statements are not yours to turn. If you find one false, say at which input.
  Laid BY PROGRAM, IN A SANDBOX (cutbox-rows.mjs): the forced cells as the released guide's own fill.sh prints them over the translation 2909ae2fbe299241… (all of the seat's roots in one cut). By AI agents, Wed Nov 11 2026. No macro, syntax, notation, axiom, sorry.
-/
import Derived.Test.YtilnnkjlddmhbaaDoorChecked
import GoSem.Claim
import GoSem.ClaimJoined
import GoSem.ClaimMapViews
import Derived.JoinedTies
import Derived.KernelRfl
namespace Go.Proofs.YtilnnkjlddmhbaaDoor
/- THE CELL 'sum', in the pinned program and in every row, IS THE sha256 OF THE DUMP (.gsa) THAT YtilnnkjlddmhbaaDoorProg.lean LOADS. Nothing in Lean hashes anything: it is a label: what it is worth is what the hold of that sum in a sandbox is worth. -/
noncomputable def Tryd.pinned : Pinned := { name := "ytilnnkjlddmhbaadoor", sum := "2909ae2fbe299241c9b7cd5c5abdd5e0bfc15f5db9fd69306fcb79ae53bed0e7", checked := Tryd.checked }
namespace Rows
def none {H : Type} : Left H := { results := [], args := [] }

/- WHAT THE LISTED PACKAGE-LEVEL VARIABLES READ AS WHEN THE CALL BEGINS. Each datum BY PROGRAM (the guide's laid-datum.mjs) off the statement by which the dump's own 'gosem.cut.vars' lays the variable. In a bare row this is a premise. The card (YtilnnkjlddmhbaaDoorCards.lean) ties it to the program's text. -/
def laid_lockfast_class_blocks {H : Type} : DataW H := .agg [.lit (.int .i64 4), .lit (.int .i64 8), .lit (.int .i64 16)]

/-- 'lockfastlaw10.ChunkEncodes': WHATEVER THE INPUT: true; the input reads as it did. -/
def chunkEncodesSpec : ChangeSpec := { name := "chunkEncodes", fn := fun _ => fun
  | [d] => { results := [.lit (.bool true)], args := [d] }
  | _ => none }
def chunkEncodesRow : OpenClaim := { program := "ytilnnkjlddmhbaadoor", sum := "2909ae2fbe299241c9b7cd5c5abdd5e0bfc15f5db9fd69306fcb79ae53bed0e7", func := "lockfast/lockfastlaw10.ChunkEncodes", spec := "chunkEncodes", unfollowed := true, recurses := true, named := ["lockfast/class.blocks"], apart := false, laid := [("lockfast/class.blocks", laid_lockfast_class_blocks)] }
def ChunkEncodesSaid : Prop := chunkEncodesRow.holds Tryd.pinned (OpenSpec.ofChange chunkEncodesSpec)

/-- ITS FALSE NEIGHBOUR: 'it returns false'. Refute it at one input. -/
def chunkEncodesWrong : ChangeSpec := { name := "chunkEncodes", fn := fun _ => fun
  | [d] => { results := [.lit (.bool false)], args := [d] }
  | _ => none }
def ChunkEncodesWrongFalsely : Prop := chunkEncodesRow.holds Tryd.pinned (OpenSpec.ofChange chunkEncodesWrong)

/-- 'lockfastlaw10.ChunkDecodes': WHATEVER THE INPUT: true; the input reads as it did. -/
def chunkDecodesSpec : ChangeSpec := { name := "chunkDecodes", fn := fun _ => fun
  | [d] => { results := [.lit (.bool true)], args := [d] }
  | _ => none }
def chunkDecodesRow : OpenClaim := { program := "ytilnnkjlddmhbaadoor", sum := "2909ae2fbe299241c9b7cd5c5abdd5e0bfc15f5db9fd69306fcb79ae53bed0e7", func := "lockfast/lockfastlaw10.ChunkDecodes", spec := "chunkDecodes", unfollowed := true, recurses := true, named := ["lockfast/class.blocks"], apart := false, laid := [("lockfast/class.blocks", laid_lockfast_class_blocks)] }
def ChunkDecodesSaid : Prop := chunkDecodesRow.holds Tryd.pinned (OpenSpec.ofChange chunkDecodesSpec)

/-- ITS FALSE NEIGHBOUR: 'it returns false'. Refute it at one input. -/
def chunkDecodesWrong : ChangeSpec := { name := "chunkDecodes", fn := fun _ => fun
  | [d] => { results := [.lit (.bool false)], args := [d] }
  | _ => none }
def ChunkDecodesWrongFalsely : Prop := chunkDecodesRow.holds Tryd.pinned (OpenSpec.ofChange chunkDecodesWrong)

/-- 'lockfastlaw10.ChunkRooms': WHATEVER THE INPUT: true; the input reads as it did. -/
def chunkRoomsSpec : ChangeSpec := { name := "chunkRooms", fn := fun _ => fun
  | [d1, d2] => { results := [.lit (.bool true)], args := [d1, d2] }
  | _ => none }
def chunkRoomsRow : OpenClaim := { program := "ytilnnkjlddmhbaadoor", sum := "2909ae2fbe299241c9b7cd5c5abdd5e0bfc15f5db9fd69306fcb79ae53bed0e7", func := "lockfast/lockfastlaw10.ChunkRooms", spec := "chunkRooms", unfollowed := true, recurses := true, named := ["lockfast/class.blocks"], apart := false, laid := [("lockfast/class.blocks", laid_lockfast_class_blocks)] }
def ChunkRoomsSaid : Prop := chunkRoomsRow.holds Tryd.pinned (OpenSpec.ofChange chunkRoomsSpec)

/-- ITS FALSE NEIGHBOUR: 'it returns false'. Refute it at one input. -/
def chunkRoomsWrong : ChangeSpec := { name := "chunkRooms", fn := fun _ => fun
  | [d1, d2] => { results := [.lit (.bool false)], args := [d1, d2] }
  | _ => none }
def ChunkRoomsWrongFalsely : Prop := chunkRoomsRow.holds Tryd.pinned (OpenSpec.ofChange chunkRoomsWrong)

/-- 'lockfastlaw10.ChunkBack': WHATEVER THE INPUT: true; the input reads as it did. -/
def chunkBackSpec : ChangeSpec := { name := "chunkBack", fn := fun _ => fun
  | [d1, d2] => { results := [.lit (.bool true)], args := [d1, d2] }
  | _ => none }
def chunkBackRow : OpenClaim := { program := "ytilnnkjlddmhbaadoor", sum := "2909ae2fbe299241c9b7cd5c5abdd5e0bfc15f5db9fd69306fcb79ae53bed0e7", func := "lockfast/lockfastlaw10.ChunkBack", spec := "chunkBack", unfollowed := true, recurses := true, named := ["lockfast/class.blocks"], apart := false, laid := [("lockfast/class.blocks", laid_lockfast_class_blocks)] }
def ChunkBackSaid : Prop := chunkBackRow.holds Tryd.pinned (OpenSpec.ofChange chunkBackSpec)

/-- ITS FALSE NEIGHBOUR: 'it returns false'. Refute it at one input. -/
def chunkBackWrong : ChangeSpec := { name := "chunkBack", fn := fun _ => fun
  | [d1, d2] => { results := [.lit (.bool false)], args := [d1, d2] }
  | _ => none }
def ChunkBackWrongFalsely : Prop := chunkBackRow.holds Tryd.pinned (OpenSpec.ofChange chunkBackWrong)

/-- 'lockfastlaw10.ChunkLives': WHATEVER THE INPUT: true; the input reads as it did. -/
def chunkLivesSpec : ChangeSpec := { name := "chunkLives", fn := fun _ => fun
  | [d1, d2, d3] => { results := [.lit (.bool true)], args := [d1, d2, d3] }
  | _ => none }
def chunkLivesRow : OpenClaim := { program := "ytilnnkjlddmhbaadoor", sum := "2909ae2fbe299241c9b7cd5c5abdd5e0bfc15f5db9fd69306fcb79ae53bed0e7", func := "lockfast/lockfastlaw10.ChunkLives", spec := "chunkLives", unfollowed := true, recurses := true, named := ["lockfast/class.blocks"], apart := false, laid := [("lockfast/class.blocks", laid_lockfast_class_blocks)] }
def ChunkLivesSaid : Prop := chunkLivesRow.holds Tryd.pinned (OpenSpec.ofChange chunkLivesSpec)

/-- ITS FALSE NEIGHBOUR: 'it returns false'. Refute it at one input. -/
def chunkLivesWrong : ChangeSpec := { name := "chunkLives", fn := fun _ => fun
  | [d1, d2, d3] => { results := [.lit (.bool false)], args := [d1, d2, d3] }
  | _ => none }
def ChunkLivesWrongFalsely : Prop := chunkLivesRow.holds Tryd.pinned (OpenSpec.ofChange chunkLivesWrong)

/-- 'lockfastlaw10.ChunkFills': WHATEVER THE INPUT: true; the input reads as it did. -/
def chunkFillsSpec : ChangeSpec := { name := "chunkFills", fn := fun _ => fun
  | [d] => { results := [.lit (.bool true)], args := [d] }
  | _ => none }
def chunkFillsRow : OpenClaim := { program := "ytilnnkjlddmhbaadoor", sum := "2909ae2fbe299241c9b7cd5c5abdd5e0bfc15f5db9fd69306fcb79ae53bed0e7", func := "lockfast/lockfastlaw10.ChunkFills", spec := "chunkFills", unfollowed := true, recurses := true, named := ["lockfast/class.blocks"], apart := false, laid := [("lockfast/class.blocks", laid_lockfast_class_blocks)] }
def ChunkFillsSaid : Prop := chunkFillsRow.holds Tryd.pinned (OpenSpec.ofChange chunkFillsSpec)

/-- ITS FALSE NEIGHBOUR: 'it returns false'. Refute it at one input. -/
def chunkFillsWrong : ChangeSpec := { name := "chunkFills", fn := fun _ => fun
  | [d] => { results := [.lit (.bool false)], args := [d] }
  | _ => none }
def ChunkFillsWrongFalsely : Prop := chunkFillsRow.holds Tryd.pinned (OpenSpec.ofChange chunkFillsWrong)

/-- 'lockfastlaw10.ChunkUnlike': WHATEVER THE INPUT: true; the input reads as it did. -/
def chunkUnlikeSpec : ChangeSpec := { name := "chunkUnlike", fn := fun _ => fun
  | [d1, d2] => { results := [.lit (.bool true)], args := [d1, d2] }
  | _ => none }
def chunkUnlikeRow : OpenClaim := { program := "ytilnnkjlddmhbaadoor", sum := "2909ae2fbe299241c9b7cd5c5abdd5e0bfc15f5db9fd69306fcb79ae53bed0e7", func := "lockfast/lockfastlaw10.ChunkUnlike", spec := "chunkUnlike", unfollowed := true, recurses := true, named := ["lockfast/class.blocks"], apart := false, laid := [("lockfast/class.blocks", laid_lockfast_class_blocks)] }
def ChunkUnlikeSaid : Prop := chunkUnlikeRow.holds Tryd.pinned (OpenSpec.ofChange chunkUnlikeSpec)

/-- ITS FALSE NEIGHBOUR: 'it returns false'. Refute it at one input. -/
def chunkUnlikeWrong : ChangeSpec := { name := "chunkUnlike", fn := fun _ => fun
  | [d1, d2] => { results := [.lit (.bool false)], args := [d1, d2] }
  | _ => none }
def ChunkUnlikeWrongFalsely : Prop := chunkUnlikeRow.holds Tryd.pinned (OpenSpec.ofChange chunkUnlikeWrong)

/- THE SECOND FORM. 'bulk': how many values and letters a reading holds, each counted each time it is reached (what is shared counts as often as it is met; a slice's spare places count too). A statement '..UptoSaid' is the law's where the arguments, and the package variables that the reading takes, are together of bulk at most 1048576: NARROWER than '..Said'. Prove '..Said' where nothing that the law and all that it calls make is longer than what came in: it says more and counts as full. Else prove '..UptoSaid'. A law counts once. -/
mutual
def uptoBulk {H : Type} : DataW H → Nat
  | .lit (.string bytes) => bytes.length + 1
  | .lit _ => 1
  | .nil => 1
  | .ptr d => uptoBulk d + 1
  | .slice elems spare => uptoBulkAll elems + uptoBulkAll spare + 1
  | .agg parts => uptoBulkAll parts + 1
  | .iface _ d => uptoBulk d + 1
  | .map entries => uptoBulkEntries entries + 1
  | .held _ => 1
def uptoBulkAll {H : Type} : List (DataW H) → Nat
  | [] => 0
  | d :: r => uptoBulk d + uptoBulkAll r
def uptoBulkEntries {H : Type} : List (Lit × DataW H) → Nat
  | [] => 0
  | x :: r => uptoBulkEntry x + uptoBulkEntries r
def uptoBulkEntry {H : Type} : Lit × DataW H → Nat
  | (.string bytes, d) => bytes.length + uptoBulk d + 1
  | (_, d) => uptoBulk d + 1
 end
def uptoSmall : (H : Type) → List (DataW H) → Bool := fun _ ds => decide (uptoBulkAll ds ≤ 1048576)
def OpenSpec.upto (s : _root_.Go.ChangeSpec) : _root_.Go.OpenSpec := { _root_.Go.OpenSpec.ofChange s with cond := some uptoSmall }

/-- 'lockfastlaw10.ChunkEncodes', WHERE WHAT IT READS IS OF BULK AT MOST 1048576: true; the input reads as it did. -/
def chunkEncodesUptoRow : OpenClaim := { program := "ytilnnkjlddmhbaadoor", sum := "2909ae2fbe299241c9b7cd5c5abdd5e0bfc15f5db9fd69306fcb79ae53bed0e7", func := "lockfast/lockfastlaw10.ChunkEncodes", spec := "chunkEncodes", unfollowed := true, recurses := true, named := ["lockfast/class.blocks"], apart := false, laid := [("lockfast/class.blocks", laid_lockfast_class_blocks)], narrowed := true }
def ChunkEncodesUptoSaid : Prop := chunkEncodesUptoRow.holds Tryd.pinned (OpenSpec.upto chunkEncodesSpec)

/-- 'lockfastlaw10.ChunkDecodes', WHERE WHAT IT READS IS OF BULK AT MOST 1048576: true; the input reads as it did. -/
def chunkDecodesUptoRow : OpenClaim := { program := "ytilnnkjlddmhbaadoor", sum := "2909ae2fbe299241c9b7cd5c5abdd5e0bfc15f5db9fd69306fcb79ae53bed0e7", func := "lockfast/lockfastlaw10.ChunkDecodes", spec := "chunkDecodes", unfollowed := true, recurses := true, named := ["lockfast/class.blocks"], apart := false, laid := [("lockfast/class.blocks", laid_lockfast_class_blocks)], narrowed := true }
def ChunkDecodesUptoSaid : Prop := chunkDecodesUptoRow.holds Tryd.pinned (OpenSpec.upto chunkDecodesSpec)

/-- 'lockfastlaw10.ChunkRooms', WHERE WHAT IT READS IS OF BULK AT MOST 1048576: true; the input reads as it did. -/
def chunkRoomsUptoRow : OpenClaim := { program := "ytilnnkjlddmhbaadoor", sum := "2909ae2fbe299241c9b7cd5c5abdd5e0bfc15f5db9fd69306fcb79ae53bed0e7", func := "lockfast/lockfastlaw10.ChunkRooms", spec := "chunkRooms", unfollowed := true, recurses := true, named := ["lockfast/class.blocks"], apart := false, laid := [("lockfast/class.blocks", laid_lockfast_class_blocks)], narrowed := true }
def ChunkRoomsUptoSaid : Prop := chunkRoomsUptoRow.holds Tryd.pinned (OpenSpec.upto chunkRoomsSpec)

/-- 'lockfastlaw10.ChunkBack', WHERE WHAT IT READS IS OF BULK AT MOST 1048576: true; the input reads as it did. -/
def chunkBackUptoRow : OpenClaim := { program := "ytilnnkjlddmhbaadoor", sum := "2909ae2fbe299241c9b7cd5c5abdd5e0bfc15f5db9fd69306fcb79ae53bed0e7", func := "lockfast/lockfastlaw10.ChunkBack", spec := "chunkBack", unfollowed := true, recurses := true, named := ["lockfast/class.blocks"], apart := false, laid := [("lockfast/class.blocks", laid_lockfast_class_blocks)], narrowed := true }
def ChunkBackUptoSaid : Prop := chunkBackUptoRow.holds Tryd.pinned (OpenSpec.upto chunkBackSpec)

/-- 'lockfastlaw10.ChunkLives', WHERE WHAT IT READS IS OF BULK AT MOST 1048576: true; the input reads as it did. -/
def chunkLivesUptoRow : OpenClaim := { program := "ytilnnkjlddmhbaadoor", sum := "2909ae2fbe299241c9b7cd5c5abdd5e0bfc15f5db9fd69306fcb79ae53bed0e7", func := "lockfast/lockfastlaw10.ChunkLives", spec := "chunkLives", unfollowed := true, recurses := true, named := ["lockfast/class.blocks"], apart := false, laid := [("lockfast/class.blocks", laid_lockfast_class_blocks)], narrowed := true }
def ChunkLivesUptoSaid : Prop := chunkLivesUptoRow.holds Tryd.pinned (OpenSpec.upto chunkLivesSpec)

/-- 'lockfastlaw10.ChunkFills', WHERE WHAT IT READS IS OF BULK AT MOST 1048576: true; the input reads as it did. -/
def chunkFillsUptoRow : OpenClaim := { program := "ytilnnkjlddmhbaadoor", sum := "2909ae2fbe299241c9b7cd5c5abdd5e0bfc15f5db9fd69306fcb79ae53bed0e7", func := "lockfast/lockfastlaw10.ChunkFills", spec := "chunkFills", unfollowed := true, recurses := true, named := ["lockfast/class.blocks"], apart := false, laid := [("lockfast/class.blocks", laid_lockfast_class_blocks)], narrowed := true }
def ChunkFillsUptoSaid : Prop := chunkFillsUptoRow.holds Tryd.pinned (OpenSpec.upto chunkFillsSpec)

/-- 'lockfastlaw10.ChunkUnlike', WHERE WHAT IT READS IS OF BULK AT MOST 1048576: true; the input reads as it did. -/
def chunkUnlikeUptoRow : OpenClaim := { program := "ytilnnkjlddmhbaadoor", sum := "2909ae2fbe299241c9b7cd5c5abdd5e0bfc15f5db9fd69306fcb79ae53bed0e7", func := "lockfast/lockfastlaw10.ChunkUnlike", spec := "chunkUnlike", unfollowed := true, recurses := true, named := ["lockfast/class.blocks"], apart := false, laid := [("lockfast/class.blocks", laid_lockfast_class_blocks)], narrowed := true }
def ChunkUnlikeUptoSaid : Prop := chunkUnlikeUptoRow.holds Tryd.pinned (OpenSpec.upto chunkUnlikeSpec)

end Rows
end Go.Proofs.YtilnnkjlddmhbaaDoor
