-- WRITTEN FOR THIS CLAIM by given.py, a program of this session's: the kit's printer, run with contracts of the session's own. It is not a text of print.sh's.
/- The card of the law ClassTells: its row, its listed variable tied to the program's text by the given tie. -/
import Derived.Test.YtnkigdcicnhepaaDoorLawClassTells
import Derived.Test.YtnkigdcicnhepaaDoorTie
import Derived.Test.YtnkigdcicnhepaaDoorCards
import Derived.SevenTiedAt
namespace Go.Proofs.YtnkigdcicnhepaaDoor
open Go
theorem classTells_card_holds : Rows.ClassTellsCardSaid :=
  Claim7.holds_tied_plain_at .later [] [.data] true (true, "e2205055cf8dd1ffb667a4f2dbf76a418809a2b3582e2a4e313fcc96b4d3ea26") false
    classTells_holds (fun _ h => by cases h) (by kernel_rfl) (fun _ h => by cases h) classTells_row_tie rfl ⟨rfl, rfl⟩ (by kernel_rfl) rfl
    (fun f fn hf hfn => by
      obtain rfl : f = 4 := Option.some.inj ((show Tryd.prog.funcNamed "lockfast/lockfastlaw09.ClassTells" = some 4 by kernel_rfl).symm.trans hf) |>.symm
      obtain rfl : fn = Tryd.f4 := (Option.some.inj (Tryd.func4.symm.trans hfn)).symm
      exact ⟨by kernel_rfl, fun j t ht => by
        have hm := Array.mem_of_getElem? ht
        rw [Tryd.params4] at hm
        simp only [List.mem_toArray, List.mem_cons, List.not_mem_nil, or_false] at hm
        rcases hm with rfl | rfl
        · exact (show Tryd.prog.wantsStandIn 3 = false by kernel_rfl)
        · exact (show Tryd.prog.wantsStandIn 3 = false by kernel_rfl)⟩)
    (by kernel_rfl)
end Go.Proofs.YtnkigdcicnhepaaDoor
