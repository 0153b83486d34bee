/-
  DERIVED. GIVEN WITH THE SEED: THE CARDS: each row of YtilnnkjlddmhbaaDoorRows.lean that lists a variable, with what it lists TIED to the program's text (the seventh form; the later family's looks); each row that meets fmt, with fmt's text TOLD by the authors' own Lean function (tested against real Go, not proved from fmt's source: count such statements apart). THE CARD IS WHAT COUNTS. Prove the row's statement (the work); the ties are given (YtilnnkjlddmhbaaDoorTie.lean); close each card by the builder's one call (the guide's Derived/Test/ToyasCard.lean, 'card_holds'). Laid BY PROGRAM, IN A SANDBOX (cutbox-door.mjs). By AI agents, Wed Nov 11 2026. No macro, syntax, notation, axiom, sorry.
-/
import Derived.Test.YtilnnkjlddmhbaaDoorRows
import GoSem.ClaimSeven
namespace Go.Proofs.YtilnnkjlddmhbaaDoor
namespace Rows

/-- THE TIED CARD OF 'lockfastlaw10.ChunkEncodes'. -/
def chunkEncodesCard : Claim7 := { stood := { row := chunkEncodesRow, standIns := [], harness := (true, "8505f85318eefa516ed2407784fce1bc0d69b4420185b6b3b0706b80825e57c6"), looks := false }, kinds := [], alts := [], laidByText := true, laidKinds := [.data], laidTests := true, laidLooks := .later }
def ChunkEncodesCardSaid : Prop := Claim7.holds Tryd.pinned (.plain (OpenSpec.ofChange chunkEncodesSpec)) chunkEncodesCard

/-- THE TIED CARD OF 'lockfastlaw10.ChunkDecodes'. -/
def chunkDecodesCard : Claim7 := { stood := { row := chunkDecodesRow, standIns := [], harness := (true, "8505f85318eefa516ed2407784fce1bc0d69b4420185b6b3b0706b80825e57c6"), looks := false }, kinds := [], alts := [], laidByText := true, laidKinds := [.data], laidTests := true, laidLooks := .later }
def ChunkDecodesCardSaid : Prop := Claim7.holds Tryd.pinned (.plain (OpenSpec.ofChange chunkDecodesSpec)) chunkDecodesCard

/-- THE TIED CARD OF 'lockfastlaw10.ChunkRooms'. -/
def chunkRoomsCard : Claim7 := { stood := { row := chunkRoomsRow, standIns := [], harness := (true, "8505f85318eefa516ed2407784fce1bc0d69b4420185b6b3b0706b80825e57c6"), looks := false }, kinds := [], alts := [], laidByText := true, laidKinds := [.data], laidTests := true, laidLooks := .later }
def ChunkRoomsCardSaid : Prop := Claim7.holds Tryd.pinned (.plain (OpenSpec.ofChange chunkRoomsSpec)) chunkRoomsCard

/-- THE TIED CARD OF 'lockfastlaw10.ChunkBack'. -/
def chunkBackCard : Claim7 := { stood := { row := chunkBackRow, standIns := [], harness := (true, "8505f85318eefa516ed2407784fce1bc0d69b4420185b6b3b0706b80825e57c6"), looks := false }, kinds := [], alts := [], laidByText := true, laidKinds := [.data], laidTests := true, laidLooks := .later }
def ChunkBackCardSaid : Prop := Claim7.holds Tryd.pinned (.plain (OpenSpec.ofChange chunkBackSpec)) chunkBackCard

/-- THE TIED CARD OF 'lockfastlaw10.ChunkLives'. -/
def chunkLivesCard : Claim7 := { stood := { row := chunkLivesRow, standIns := [], harness := (true, "8505f85318eefa516ed2407784fce1bc0d69b4420185b6b3b0706b80825e57c6"), looks := false }, kinds := [], alts := [], laidByText := true, laidKinds := [.data], laidTests := true, laidLooks := .later }
def ChunkLivesCardSaid : Prop := Claim7.holds Tryd.pinned (.plain (OpenSpec.ofChange chunkLivesSpec)) chunkLivesCard

/-- THE TIED CARD OF 'lockfastlaw10.ChunkFills'. -/
def chunkFillsCard : Claim7 := { stood := { row := chunkFillsRow, standIns := [], harness := (true, "8505f85318eefa516ed2407784fce1bc0d69b4420185b6b3b0706b80825e57c6"), looks := false }, kinds := [], alts := [], laidByText := true, laidKinds := [.data], laidTests := true, laidLooks := .later }
def ChunkFillsCardSaid : Prop := Claim7.holds Tryd.pinned (.plain (OpenSpec.ofChange chunkFillsSpec)) chunkFillsCard

/-- THE TIED CARD OF 'lockfastlaw10.ChunkUnlike'. -/
def chunkUnlikeCard : Claim7 := { stood := { row := chunkUnlikeRow, standIns := [], harness := (true, "8505f85318eefa516ed2407784fce1bc0d69b4420185b6b3b0706b80825e57c6"), looks := false }, kinds := [], alts := [], laidByText := true, laidKinds := [.data], laidTests := true, laidLooks := .later }
def ChunkUnlikeCardSaid : Prop := Claim7.holds Tryd.pinned (.plain (OpenSpec.ofChange chunkUnlikeSpec)) chunkUnlikeCard

/-- THE SECOND FORM's CARD OF 'lockfastlaw10.ChunkEncodes'. -/
def chunkEncodesUptoCard : Claim7 := { stood := { row := chunkEncodesUptoRow, standIns := [], harness := (true, "8505f85318eefa516ed2407784fce1bc0d69b4420185b6b3b0706b80825e57c6"), looks := false }, kinds := [], alts := [], laidByText := true, laidKinds := [.data], laidTests := true, laidLooks := .later }
def ChunkEncodesUptoCardSaid : Prop := Claim7.holds Tryd.pinned (.plain (OpenSpec.upto chunkEncodesSpec)) chunkEncodesUptoCard

/-- THE SECOND FORM's CARD OF 'lockfastlaw10.ChunkDecodes'. -/
def chunkDecodesUptoCard : Claim7 := { stood := { row := chunkDecodesUptoRow, standIns := [], harness := (true, "8505f85318eefa516ed2407784fce1bc0d69b4420185b6b3b0706b80825e57c6"), looks := false }, kinds := [], alts := [], laidByText := true, laidKinds := [.data], laidTests := true, laidLooks := .later }
def ChunkDecodesUptoCardSaid : Prop := Claim7.holds Tryd.pinned (.plain (OpenSpec.upto chunkDecodesSpec)) chunkDecodesUptoCard

/-- THE SECOND FORM's CARD OF 'lockfastlaw10.ChunkRooms'. -/
def chunkRoomsUptoCard : Claim7 := { stood := { row := chunkRoomsUptoRow, standIns := [], harness := (true, "8505f85318eefa516ed2407784fce1bc0d69b4420185b6b3b0706b80825e57c6"), looks := false }, kinds := [], alts := [], laidByText := true, laidKinds := [.data], laidTests := true, laidLooks := .later }
def ChunkRoomsUptoCardSaid : Prop := Claim7.holds Tryd.pinned (.plain (OpenSpec.upto chunkRoomsSpec)) chunkRoomsUptoCard

/-- THE SECOND FORM's CARD OF 'lockfastlaw10.ChunkBack'. -/
def chunkBackUptoCard : Claim7 := { stood := { row := chunkBackUptoRow, standIns := [], harness := (true, "8505f85318eefa516ed2407784fce1bc0d69b4420185b6b3b0706b80825e57c6"), looks := false }, kinds := [], alts := [], laidByText := true, laidKinds := [.data], laidTests := true, laidLooks := .later }
def ChunkBackUptoCardSaid : Prop := Claim7.holds Tryd.pinned (.plain (OpenSpec.upto chunkBackSpec)) chunkBackUptoCard

/-- THE SECOND FORM's CARD OF 'lockfastlaw10.ChunkLives'. -/
def chunkLivesUptoCard : Claim7 := { stood := { row := chunkLivesUptoRow, standIns := [], harness := (true, "8505f85318eefa516ed2407784fce1bc0d69b4420185b6b3b0706b80825e57c6"), looks := false }, kinds := [], alts := [], laidByText := true, laidKinds := [.data], laidTests := true, laidLooks := .later }
def ChunkLivesUptoCardSaid : Prop := Claim7.holds Tryd.pinned (.plain (OpenSpec.upto chunkLivesSpec)) chunkLivesUptoCard

/-- THE SECOND FORM's CARD OF 'lockfastlaw10.ChunkFills'. -/
def chunkFillsUptoCard : Claim7 := { stood := { row := chunkFillsUptoRow, standIns := [], harness := (true, "8505f85318eefa516ed2407784fce1bc0d69b4420185b6b3b0706b80825e57c6"), looks := false }, kinds := [], alts := [], laidByText := true, laidKinds := [.data], laidTests := true, laidLooks := .later }
def ChunkFillsUptoCardSaid : Prop := Claim7.holds Tryd.pinned (.plain (OpenSpec.upto chunkFillsSpec)) chunkFillsUptoCard

/-- THE SECOND FORM's CARD OF 'lockfastlaw10.ChunkUnlike'. -/
def chunkUnlikeUptoCard : Claim7 := { stood := { row := chunkUnlikeUptoRow, standIns := [], harness := (true, "8505f85318eefa516ed2407784fce1bc0d69b4420185b6b3b0706b80825e57c6"), looks := false }, kinds := [], alts := [], laidByText := true, laidKinds := [.data], laidTests := true, laidLooks := .later }
def ChunkUnlikeUptoCardSaid : Prop := Claim7.holds Tryd.pinned (.plain (OpenSpec.upto chunkUnlikeSpec)) chunkUnlikeUptoCard
end Rows
end Go.Proofs.YtilnnkjlddmhbaaDoor
