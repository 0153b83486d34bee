-- WRITTEN FOR THIS CLAIM by given.py, a program of this session's: the kit's printer, run with contracts of the session's own. It is not a text of print.sh's.
/- The card of the law ChunkLives: its row, its listed variable tied to the program's text by the given tie. -/
import Derived.Test.YtilnnkjlddmhbaaDoorLawChunkLives
import Derived.Test.YtilnnkjlddmhbaaDoorTie
import Derived.Test.YtilnnkjlddmhbaaDoorCards
import Derived.SevenTiedAt
namespace Go.Proofs.YtilnnkjlddmhbaaDoor
open Go
theorem chunkLives_card_holds : Rows.ChunkLivesCardSaid :=
  Claim7.holds_tied_plain_at .later [] [.data] true (true, "8505f85318eefa516ed2407784fce1bc0d69b4420185b6b3b0706b80825e57c6") false
    chunkLives_holds (fun _ h => by cases h) (by kernel_rfl) (fun _ h => by cases h) chunkLives_row_tie rfl ⟨rfl, rfl⟩ (by kernel_rfl) rfl
    (fun f fn hf hfn => by
      obtain rfl : f = 7 := Option.some.inj ((show Tryd.prog.funcNamed "lockfast/lockfastlaw10.ChunkLives" = some 7 by kernel_rfl).symm.trans hf) |>.symm
      obtain rfl : fn = Tryd.f7 := (Option.some.inj (Tryd.func7.symm.trans hfn)).symm
      exact ⟨by kernel_rfl, fun j t ht => by
        have hm := Array.mem_of_getElem? ht
        rw [Tryd.params7] at hm
        simp only [List.mem_toArray, List.mem_cons, List.not_mem_nil, or_false] at hm
        rcases hm with rfl | rfl | rfl
        · exact (show Tryd.prog.wantsStandIn 5 = false by kernel_rfl)
        · exact (show Tryd.prog.wantsStandIn 5 = false by kernel_rfl)
        · exact (show Tryd.prog.wantsStandIn 5 = false by kernel_rfl)⟩)
    (by kernel_rfl)
end Go.Proofs.YtilnnkjlddmhbaaDoor
