-- WRITTEN FOR THIS CLAIM by given.py, a program of this session's: the kit's printer, run with contracts of the session's own. It is not a text of print.sh's.
import Derived.Test.YtmflkbmjchapiaaProg
import Derived.Below
import Derived.Deep.Draws
import Derived.Deep.AppendLies
import Derived.Maps.AppendAt
import Derived.OwnWalk
import Derived.Laws.BytesArg
import Derived.Laws.MakeOwn
import Derived.Laws.OwnMore
import Derived.Deep.OwnRows
import Derived.Tactics
import Derived.Lib.ConvBytes
import Derived.Laws.Slices
import Derived.WalkKit
import Derived.KernelRfl
import Derived.RowKit3
import Derived.Deep.LoopGhost
import Derived.Deep.QuietTactic
import Derived.BigQuiet
import Derived.WideLaws
import Derived.Deep.DeepCutAuto
import Derived.Deep.CutBlock
import Derived.Deep.RegionHeld3
import Derived.Laws.Rows
import Derived.Lib.AppendStr
import Derived.ArgAppend
import Derived.Laws.IdiomCopy
import Derived.OrdersHeld
import Derived.Laws.BitsLemmas
import Derived.RowKit
import Derived.Test.YtmflkbmjchapiaaCrc
import Derived.Test.YtmflkbmjchapiaaKeep
import Derived.Laws.BitsAllLaws
import Derived.Laws.EntriesVeiled
import Derived.Laws.Cover3
import Derived.Test.YtmflkbmjchapiaaEqArr
import Derived.Test.YtmflkbmjchapiaaFull
import Derived.Test.YtmflkbmjchapiaaWWords
import Derived.Test.YtmflkbmjchapiaaWLast
import Derived.Test.YtmflkbmjchapiaaWTab
import Derived.Test.YtmflkbmjchapiaaWFour
import Derived.Test.YtmflkbmjchapiaaWQPut
import Derived.Test.YtmflkbmjchapiaaWApart
import Derived.Test.YtmflkbmjchapiaaWArr
import Derived.Test.YtmflkbmjchapiaaWZeros
import Derived.Test.YtmflkbmjchapiaaWFoot
import Derived.Test.YtmflkbmjchapiaaWKept
import Derived.Test.YtmflkbmjchapiaaWShare
import Derived.Test.YtmflkbmjchapiaaWN
import Derived.Test.YtmflkbmjchapiaaWFootNe
import Derived.Test.YtmflkbmjchapiaaWAt
import Derived.Test.YtmflkbmjchapiaaWEqStruct
import Derived.Test.YtmflkbmjchapiaaWRepsOne
import Derived.Test.YtmflkbmjchapiaaWInv
import Derived.Test.YtmflkbmjchapiaaWInvWords
import Derived.Test.YtmflkbmjchapiaaWGuard
import Derived.Test.YtmflkbmjchapiaaWNEv
import Derived.Test.YtmflkbmjchapiaaWMore
namespace Go.Proofs.Ytmflkbmjchapiaa.PSuperBack
open Go.RowKit Go.Proofs.YtmflkbmjchapiaaW.PrintWords Go.Proofs.YtmflkbmjchapiaaW.PrintLast Go.Proofs.YtmflkbmjchapiaaW.PrintMore
attribute [local go_sem] max2_int min2_int max_two min_two max_three min_three max_four min_four   -- for this text's walks alone
set_option linter.unusedVariables false
set_option linter.unusedSimpArgs false
open Go.Proofs.YtmflkbmjchapiaaX



def errW : Option Int → Value
  | none => .nilIface
  | some c => .iface 0 (.int .i64 c)
theorem errW_none : errW none = .nilIface := rfl
theorem errW_some (c : Int) : errW (some c) = .iface 0 (.int .i64 c) := rfl

theorem info30 : (Try.prog.info? 30).map (fun i => (i.zero, i.size, i.bytes)) = some (some (.int .u64 0), 1, 8) := by kernel_rfl
-- the values' own types

end Go.Proofs.Ytmflkbmjchapiaa.PSuperBack
