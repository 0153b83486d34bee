/-
  DERIVED. GIVEN WITH THE SEED: THE CARDS: each row of YtnkigdcicnhepaaDoorRows.lean that lists a variable, with what it lists TIED to the program's text (the seventh form; the later family's looks); each row that meets fmt, with fmt's text TOLD by the authors' own Lean function (tested against real Go, not proved from fmt's source: count such statements apart). THE CARD IS WHAT COUNTS. Prove the row's statement (the work); the ties are given (YtnkigdcicnhepaaDoorTie.lean); close each card by the builder's one call (the guide's Derived/Test/ToyasCard.lean, 'card_holds'). Laid BY PROGRAM, IN A SANDBOX (cutbox-door.mjs). By AI agents, Wed Nov 11 2026. No macro, syntax, notation, axiom, sorry.
-/
import Derived.Test.YtnkigdcicnhepaaDoorRows
import GoSem.ClaimSeven
namespace Go.Proofs.YtnkigdcicnhepaaDoor
namespace Rows

/-- THE TIED CARD OF 'lockfastlaw09.ClassFills'. -/
def classFillsCard : Claim7 := { stood := { row := classFillsRow, standIns := [], harness := (true, "e2205055cf8dd1ffb667a4f2dbf76a418809a2b3582e2a4e313fcc96b4d3ea26"), looks := false }, kinds := [], alts := [], laidByText := true, laidKinds := [.data], laidTests := true, laidLooks := .later }
def ClassFillsCardSaid : Prop := Claim7.holds Tryd.pinned (.plain (OpenSpec.ofChange classFillsSpec)) classFillsCard

/-- THE TIED CARD OF 'lockfastlaw09.ClassTells'. -/
def classTellsCard : Claim7 := { stood := { row := classTellsRow, standIns := [], harness := (true, "e2205055cf8dd1ffb667a4f2dbf76a418809a2b3582e2a4e313fcc96b4d3ea26"), looks := false }, kinds := [], alts := [], laidByText := true, laidKinds := [.data], laidTests := true, laidLooks := .later }
def ClassTellsCardSaid : Prop := Claim7.holds Tryd.pinned (.plain (OpenSpec.ofChange classTellsSpec)) classTellsCard

/-- THE TIED CARD OF 'lockfastlaw09.ClassFits'. -/
def classFitsCard : Claim7 := { stood := { row := classFitsRow, standIns := [], harness := (true, "e2205055cf8dd1ffb667a4f2dbf76a418809a2b3582e2a4e313fcc96b4d3ea26"), looks := false }, kinds := [], alts := [], laidByText := true, laidKinds := [.data], laidTests := true, laidLooks := .later }
def ClassFitsCardSaid : Prop := Claim7.holds Tryd.pinned (.plain (OpenSpec.ofChange classFitsSpec)) classFitsCard

/-- THE TIED CARD OF 'lockfastlaw09.ClassMore'. -/
def classMoreCard : Claim7 := { stood := { row := classMoreRow, standIns := [], harness := (true, "e2205055cf8dd1ffb667a4f2dbf76a418809a2b3582e2a4e313fcc96b4d3ea26"), looks := false }, kinds := [], alts := [], laidByText := true, laidKinds := [.data], laidTests := true, laidLooks := .later }
def ClassMoreCardSaid : Prop := Claim7.holds Tryd.pinned (.plain (OpenSpec.ofChange classMoreSpec)) classMoreCard

/-- THE TIED CARD OF 'lockfastlaw09.ClassWrong'. -/
def classWrongCard : Claim7 := { stood := { row := classWrongRow, standIns := [], harness := (true, "e2205055cf8dd1ffb667a4f2dbf76a418809a2b3582e2a4e313fcc96b4d3ea26"), looks := false }, kinds := [], alts := [], laidByText := true, laidKinds := [.data], laidTests := true, laidLooks := .later }
def ClassWrongCardSaid : Prop := Claim7.holds Tryd.pinned (.plain (OpenSpec.ofChange classWrongSpec)) classWrongCard

/-- THE SECOND FORM's CARD OF 'lockfastlaw09.ClassFills'. -/
def classFillsUptoCard : Claim7 := { stood := { row := classFillsUptoRow, standIns := [], harness := (true, "e2205055cf8dd1ffb667a4f2dbf76a418809a2b3582e2a4e313fcc96b4d3ea26"), looks := false }, kinds := [], alts := [], laidByText := true, laidKinds := [.data], laidTests := true, laidLooks := .later }
def ClassFillsUptoCardSaid : Prop := Claim7.holds Tryd.pinned (.plain (OpenSpec.upto classFillsSpec)) classFillsUptoCard

/-- THE SECOND FORM's CARD OF 'lockfastlaw09.ClassTells'. -/
def classTellsUptoCard : Claim7 := { stood := { row := classTellsUptoRow, standIns := [], harness := (true, "e2205055cf8dd1ffb667a4f2dbf76a418809a2b3582e2a4e313fcc96b4d3ea26"), looks := false }, kinds := [], alts := [], laidByText := true, laidKinds := [.data], laidTests := true, laidLooks := .later }
def ClassTellsUptoCardSaid : Prop := Claim7.holds Tryd.pinned (.plain (OpenSpec.upto classTellsSpec)) classTellsUptoCard

/-- THE SECOND FORM's CARD OF 'lockfastlaw09.ClassFits'. -/
def classFitsUptoCard : Claim7 := { stood := { row := classFitsUptoRow, standIns := [], harness := (true, "e2205055cf8dd1ffb667a4f2dbf76a418809a2b3582e2a4e313fcc96b4d3ea26"), looks := false }, kinds := [], alts := [], laidByText := true, laidKinds := [.data], laidTests := true, laidLooks := .later }
def ClassFitsUptoCardSaid : Prop := Claim7.holds Tryd.pinned (.plain (OpenSpec.upto classFitsSpec)) classFitsUptoCard

/-- THE SECOND FORM's CARD OF 'lockfastlaw09.ClassMore'. -/
def classMoreUptoCard : Claim7 := { stood := { row := classMoreUptoRow, standIns := [], harness := (true, "e2205055cf8dd1ffb667a4f2dbf76a418809a2b3582e2a4e313fcc96b4d3ea26"), looks := false }, kinds := [], alts := [], laidByText := true, laidKinds := [.data], laidTests := true, laidLooks := .later }
def ClassMoreUptoCardSaid : Prop := Claim7.holds Tryd.pinned (.plain (OpenSpec.upto classMoreSpec)) classMoreUptoCard

/-- THE SECOND FORM's CARD OF 'lockfastlaw09.ClassWrong'. -/
def classWrongUptoCard : Claim7 := { stood := { row := classWrongUptoRow, standIns := [], harness := (true, "e2205055cf8dd1ffb667a4f2dbf76a418809a2b3582e2a4e313fcc96b4d3ea26"), looks := false }, kinds := [], alts := [], laidByText := true, laidKinds := [.data], laidTests := true, laidLooks := .later }
def ClassWrongUptoCardSaid : Prop := Claim7.holds Tryd.pinned (.plain (OpenSpec.upto classWrongSpec)) classWrongUptoCard
end Rows
end Go.Proofs.YtnkigdcicnhepaaDoor
