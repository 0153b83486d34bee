/-
  No cell of these rows narrows 'for every input' (looked for: loops, veiled, ifaces, maps, wideKeys, modest, calm, conditions, laid).
  DERIVED. THE GIVEN ROWS OF THIS SEAT. 6 by the template 'for every input the law returns true; each argument reads behind the call as it read before'; 0 by the template 'total and deterministic' (their statements: YtnkigdcicnhepaaTotals.lean).
  GIVEN WITH THE SEED: the statements are not yours to turn. If you find one false, say at which input.
  Laid BY PROGRAM, IN A SANDBOX (cutbox-rows.mjs): the forced cells as the released guide's own fill.sh prints them over the translation dd84406b1b5cbf5f… (all of the seat's roots in one cut). By AI agents, Wed Nov 11 2026. No macro, syntax, notation, axiom, sorry.
-/
import Derived.Test.YtnkigdcicnhepaaChecked
import GoSem.Claim
import GoSem.ClaimJoined
import GoSem.ClaimMapViews
import Derived.JoinedTies
import Derived.KernelRfl
namespace Go.Proofs.Ytnkigdcicnhepaa
/- THE CELL 'sum', in the pinned program and in every row, IS THE sha256 OF THE DUMP (.gsa) THAT YtnkigdcicnhepaaProg.lean LOADS. Nothing in Lean hashes anything: it is a label: what it is worth is what the hold of that sum in a sandbox is worth. -/
noncomputable def Try.pinned : Pinned := { name := "ytnkigdcicnhepaa", sum := "dd84406b1b5cbf5fb30d3a81c4fdd21454f2cdd3dd4cbb1791d9d8efc483ded9", checked := Try.checked }
namespace Rows
def none {H : Type} : Left H := { results := [], args := [] }

/-- 'lockfastlaw05.GeoMore': WHATEVER THE INPUT: true; the input reads as it did. -/
def geoMoreSpec : ChangeSpec := { name := "geoMore", fn := fun _ => fun
  | [d1, d2, d3, d4] => { results := [.lit (.bool true)], args := [d1, d2, d3, d4] }
  | _ => none }
def geoMoreRow : OpenClaim := { program := "ytnkigdcicnhepaa", sum := "dd84406b1b5cbf5fb30d3a81c4fdd21454f2cdd3dd4cbb1791d9d8efc483ded9", func := "lockfast/lockfastlaw05.GeoMore", spec := "geoMore", apart := false }
def GeoMoreSaid : Prop := geoMoreRow.holds Try.pinned (OpenSpec.ofChange geoMoreSpec)

/-- ITS FALSE NEIGHBOUR: 'it returns false'. Refute it at one input. -/
def geoMoreWrong : ChangeSpec := { name := "geoMore", fn := fun _ => fun
  | [d1, d2, d3, d4] => { results := [.lit (.bool false)], args := [d1, d2, d3, d4] }
  | _ => none }
def GeoMoreWrongFalsely : Prop := geoMoreRow.holds Try.pinned (OpenSpec.ofChange geoMoreWrong)

/-- 'lockfastlaw05.GeoOf': WHATEVER THE INPUT: true; the input reads as it did. -/
def geoOfSpec : ChangeSpec := { name := "geoOf", fn := fun _ => fun
  | [d1, d2] => { results := [.lit (.bool true)], args := [d1, d2] }
  | _ => none }
def geoOfRow : OpenClaim := { program := "ytnkigdcicnhepaa", sum := "dd84406b1b5cbf5fb30d3a81c4fdd21454f2cdd3dd4cbb1791d9d8efc483ded9", func := "lockfast/lockfastlaw05.GeoOf", spec := "geoOf", apart := false }
def GeoOfSaid : Prop := geoOfRow.holds Try.pinned (OpenSpec.ofChange geoOfSpec)

/-- ITS FALSE NEIGHBOUR: 'it returns false'. Refute it at one input. -/
def geoOfWrong : ChangeSpec := { name := "geoOf", fn := fun _ => fun
  | [d1, d2] => { results := [.lit (.bool false)], args := [d1, d2] }
  | _ => none }
def GeoOfWrongFalsely : Prop := geoOfRow.holds Try.pinned (OpenSpec.ofChange geoOfWrong)

/-- 'lockfastlaw05.GeoWords': WHATEVER THE INPUT: true; the input reads as it did. -/
def geoWordsSpec : ChangeSpec := { name := "geoWords", fn := fun _ => fun
  | [d1, d2, d3, d4, d5, d6] => { results := [.lit (.bool true)], args := [d1, d2, d3, d4, d5, d6] }
  | _ => none }
def geoWordsRow : OpenClaim := { program := "ytnkigdcicnhepaa", sum := "dd84406b1b5cbf5fb30d3a81c4fdd21454f2cdd3dd4cbb1791d9d8efc483ded9", func := "lockfast/lockfastlaw05.GeoWords", spec := "geoWords", apart := false }
def GeoWordsSaid : Prop := geoWordsRow.holds Try.pinned (OpenSpec.ofChange geoWordsSpec)

/-- ITS FALSE NEIGHBOUR: 'it returns false'. Refute it at one input. -/
def geoWordsWrong : ChangeSpec := { name := "geoWords", fn := fun _ => fun
  | [d1, d2, d3, d4, d5, d6] => { results := [.lit (.bool false)], args := [d1, d2, d3, d4, d5, d6] }
  | _ => none }
def GeoWordsWrongFalsely : Prop := geoWordsRow.holds Try.pinned (OpenSpec.ofChange geoWordsWrong)

/-- 'lockfasttop.Names': WHATEVER THE INPUT: true; the input reads as it did. -/
def namesSpec : ChangeSpec := { name := "names", fn := fun _ => fun
  | [] => { results := [.lit (.bool true)], args := [] }
  | _ => none }
def namesRow : OpenClaim := { program := "ytnkigdcicnhepaa", sum := "dd84406b1b5cbf5fb30d3a81c4fdd21454f2cdd3dd4cbb1791d9d8efc483ded9", func := "lockfast/lockfasttop.Names", spec := "names", apart := false }
def NamesSaid : Prop := namesRow.holds Try.pinned (OpenSpec.ofChange namesSpec)

/-- ITS FALSE NEIGHBOUR: 'it returns false'. Refute it at one input. -/
def namesWrong : ChangeSpec := { name := "names", fn := fun _ => fun
  | [] => { results := [.lit (.bool false)], args := [] }
  | _ => none }
def NamesWrongFalsely : Prop := namesRow.holds Try.pinned (OpenSpec.ofChange namesWrong)

/-- 'lockfastlaw05.GeoTells': WHATEVER THE INPUT: true; the input reads as it did. -/
def geoTellsSpec : ChangeSpec := { name := "geoTells", fn := fun _ => fun
  | [d1, d2, d3] => { results := [.lit (.bool true)], args := [d1, d2, d3] }
  | _ => none }
def geoTellsRow : OpenClaim := { program := "ytnkigdcicnhepaa", sum := "dd84406b1b5cbf5fb30d3a81c4fdd21454f2cdd3dd4cbb1791d9d8efc483ded9", func := "lockfast/lockfastlaw05.GeoTells", spec := "geoTells", unfollowed := true, recurses := true, apart := false }
def GeoTellsSaid : Prop := geoTellsRow.holds Try.pinned (OpenSpec.ofChange geoTellsSpec)

/-- ITS FALSE NEIGHBOUR: 'it returns false'. Refute it at one input. -/
def geoTellsWrong : ChangeSpec := { name := "geoTells", fn := fun _ => fun
  | [d1, d2, d3] => { results := [.lit (.bool false)], args := [d1, d2, d3] }
  | _ => none }
def GeoTellsWrongFalsely : Prop := geoTellsRow.holds Try.pinned (OpenSpec.ofChange geoTellsWrong)

/-- 'lockfastlaw05.GeoApart': WHATEVER THE INPUT: true; the input reads as it did. -/
def geoApartSpec : ChangeSpec := { name := "geoApart", fn := fun _ => fun
  | [d1, d2, d3] => { results := [.lit (.bool true)], args := [d1, d2, d3] }
  | _ => none }
def geoApartRow : OpenClaim := { program := "ytnkigdcicnhepaa", sum := "dd84406b1b5cbf5fb30d3a81c4fdd21454f2cdd3dd4cbb1791d9d8efc483ded9", func := "lockfast/lockfastlaw05.GeoApart", spec := "geoApart", unfollowed := true, recurses := true, apart := false }
def GeoApartSaid : Prop := geoApartRow.holds Try.pinned (OpenSpec.ofChange geoApartSpec)

/-- ITS FALSE NEIGHBOUR: 'it returns false'. Refute it at one input. -/
def geoApartWrong : ChangeSpec := { name := "geoApart", fn := fun _ => fun
  | [d1, d2, d3] => { results := [.lit (.bool false)], args := [d1, d2, d3] }
  | _ => none }
def GeoApartWrongFalsely : Prop := geoApartRow.holds Try.pinned (OpenSpec.ofChange geoApartWrong)

/- THE SECOND FORM. 'bulk': how many values and letters a reading holds, each counted each time it is reached (what is shared counts as often as it is met; a slice's spare places count too). A statement '..UptoSaid' is the law's where the arguments, and the package variables that the reading takes, are together of bulk at most 1048576: NARROWER than '..Said'. Prove '..Said' where nothing that the law and all that it calls make is longer than what came in: it says more and counts as full. Else prove '..UptoSaid'. A law counts once. -/
mutual
def uptoBulk {H : Type} : DataW H → Nat
  | .lit (.string bytes) => bytes.length + 1
  | .lit _ => 1
  | .nil => 1
  | .ptr d => uptoBulk d + 1
  | .slice elems spare => uptoBulkAll elems + uptoBulkAll spare + 1
  | .agg parts => uptoBulkAll parts + 1
  | .iface _ d => uptoBulk d + 1
  | .map entries => uptoBulkEntries entries + 1
  | .held _ => 1
def uptoBulkAll {H : Type} : List (DataW H) → Nat
  | [] => 0
  | d :: r => uptoBulk d + uptoBulkAll r
def uptoBulkEntries {H : Type} : List (Lit × DataW H) → Nat
  | [] => 0
  | x :: r => uptoBulkEntry x + uptoBulkEntries r
def uptoBulkEntry {H : Type} : Lit × DataW H → Nat
  | (.string bytes, d) => bytes.length + uptoBulk d + 1
  | (_, d) => uptoBulk d + 1
 end
def uptoSmall : (H : Type) → List (DataW H) → Bool := fun _ ds => decide (uptoBulkAll ds ≤ 1048576)
def OpenSpec.upto (s : _root_.Go.ChangeSpec) : _root_.Go.OpenSpec := { _root_.Go.OpenSpec.ofChange s with cond := some uptoSmall }

/-- 'lockfastlaw05.GeoMore', WHERE WHAT IT READS IS OF BULK AT MOST 1048576: true; the input reads as it did. -/
def geoMoreUptoRow : OpenClaim := { program := "ytnkigdcicnhepaa", sum := "dd84406b1b5cbf5fb30d3a81c4fdd21454f2cdd3dd4cbb1791d9d8efc483ded9", func := "lockfast/lockfastlaw05.GeoMore", spec := "geoMore", apart := false, narrowed := true }
def GeoMoreUptoSaid : Prop := geoMoreUptoRow.holds Try.pinned (OpenSpec.upto geoMoreSpec)

/-- 'lockfastlaw05.GeoOf', WHERE WHAT IT READS IS OF BULK AT MOST 1048576: true; the input reads as it did. -/
def geoOfUptoRow : OpenClaim := { program := "ytnkigdcicnhepaa", sum := "dd84406b1b5cbf5fb30d3a81c4fdd21454f2cdd3dd4cbb1791d9d8efc483ded9", func := "lockfast/lockfastlaw05.GeoOf", spec := "geoOf", apart := false, narrowed := true }
def GeoOfUptoSaid : Prop := geoOfUptoRow.holds Try.pinned (OpenSpec.upto geoOfSpec)

/-- 'lockfastlaw05.GeoWords', WHERE WHAT IT READS IS OF BULK AT MOST 1048576: true; the input reads as it did. -/
def geoWordsUptoRow : OpenClaim := { program := "ytnkigdcicnhepaa", sum := "dd84406b1b5cbf5fb30d3a81c4fdd21454f2cdd3dd4cbb1791d9d8efc483ded9", func := "lockfast/lockfastlaw05.GeoWords", spec := "geoWords", apart := false, narrowed := true }
def GeoWordsUptoSaid : Prop := geoWordsUptoRow.holds Try.pinned (OpenSpec.upto geoWordsSpec)

/-- 'lockfasttop.Names', WHERE WHAT IT READS IS OF BULK AT MOST 1048576: true; the input reads as it did. -/
def namesUptoRow : OpenClaim := { program := "ytnkigdcicnhepaa", sum := "dd84406b1b5cbf5fb30d3a81c4fdd21454f2cdd3dd4cbb1791d9d8efc483ded9", func := "lockfast/lockfasttop.Names", spec := "names", apart := false, narrowed := true }
def NamesUptoSaid : Prop := namesUptoRow.holds Try.pinned (OpenSpec.upto namesSpec)

/-- 'lockfastlaw05.GeoTells', WHERE WHAT IT READS IS OF BULK AT MOST 1048576: true; the input reads as it did. -/
def geoTellsUptoRow : OpenClaim := { program := "ytnkigdcicnhepaa", sum := "dd84406b1b5cbf5fb30d3a81c4fdd21454f2cdd3dd4cbb1791d9d8efc483ded9", func := "lockfast/lockfastlaw05.GeoTells", spec := "geoTells", unfollowed := true, recurses := true, apart := false, narrowed := true }
def GeoTellsUptoSaid : Prop := geoTellsUptoRow.holds Try.pinned (OpenSpec.upto geoTellsSpec)

/-- 'lockfastlaw05.GeoApart', WHERE WHAT IT READS IS OF BULK AT MOST 1048576: true; the input reads as it did. -/
def geoApartUptoRow : OpenClaim := { program := "ytnkigdcicnhepaa", sum := "dd84406b1b5cbf5fb30d3a81c4fdd21454f2cdd3dd4cbb1791d9d8efc483ded9", func := "lockfast/lockfastlaw05.GeoApart", spec := "geoApart", unfollowed := true, recurses := true, apart := false, narrowed := true }
def GeoApartUptoSaid : Prop := geoApartUptoRow.holds Try.pinned (OpenSpec.upto geoApartSpec)

end Rows
end Go.Proofs.Ytnkigdcicnhepaa
