-- WRITTEN FOR THIS CLAIM by given.py, a program of this session's: the kit's printer, run with contracts of the session's own. It is not a text of print.sh's.
import Derived.Test.YtilnnkjlddmhbaaDoorProg
import Derived.Below
import Derived.Deep.Draws
import Derived.Deep.AppendLies
import Derived.Maps.AppendAt
import Derived.OwnWalk
import Derived.Laws.BytesArg
import Derived.Laws.MakeOwn
import Derived.Laws.OwnMore
import Derived.Deep.OwnRows
import Derived.Tactics
import Derived.Lib.ConvBytes
import Derived.Laws.Slices
import Derived.WalkKit
import Derived.KernelRfl
import Derived.RowKit3
import Derived.Deep.LoopGhost
import Derived.Deep.QuietTactic
import Derived.BigQuiet
import Derived.WideLaws
import Derived.Deep.DeepCutAuto
import Derived.Deep.CutBlock
import Derived.Deep.RegionHeld3
import Derived.Laws.Rows
import Derived.Lib.AppendStr
import Derived.ArgAppend
import Derived.Laws.IdiomCopy
import Derived.OrdersHeld
import Derived.Laws.BitsLemmas
import Derived.RowKit
import Derived.Test.YtilnnkjlddmhbaaDoorGL
import Derived.Test.YtilnnkjlddmhbaaDoorEach
import Derived.Laws.BitsAllLaws
import Derived.Laws.EntriesVeiled
import Derived.Test.YtilnnkjlddmhbaaDoorWWords
import Derived.Test.YtilnnkjlddmhbaaDoorWLast
import Derived.Test.YtilnnkjlddmhbaaDoorWTab
import Derived.Test.YtilnnkjlddmhbaaDoorWFour
import Derived.Test.YtilnnkjlddmhbaaDoorWQPut
import Derived.Test.YtilnnkjlddmhbaaDoorWApart
import Derived.Test.YtilnnkjlddmhbaaDoorWArr
import Derived.Test.YtilnnkjlddmhbaaDoorWZeros
import Derived.Test.YtilnnkjlddmhbaaDoorWFoot
import Derived.Test.YtilnnkjlddmhbaaDoorWKept
import Derived.Test.YtilnnkjlddmhbaaDoorWShare
import Derived.Test.YtilnnkjlddmhbaaDoorWN
import Derived.Test.YtilnnkjlddmhbaaDoorWFootNe
import Derived.Test.YtilnnkjlddmhbaaDoorWAt
import Derived.Test.YtilnnkjlddmhbaaDoorWEqStruct
import Derived.Test.YtilnnkjlddmhbaaDoorWRepsOne
import Derived.Test.YtilnnkjlddmhbaaDoorWInv
import Derived.Test.YtilnnkjlddmhbaaDoorWInvWords
import Derived.Test.YtilnnkjlddmhbaaDoorWGuard
import Derived.Test.YtilnnkjlddmhbaaDoorWNEv
import Derived.Test.YtilnnkjlddmhbaaDoorWMore
namespace Go.Proofs.YtilnnkjlddmhbaaDoor.PChunkLives
open Go.RowKit Go.Proofs.YtilnnkjlddmhbaaDoorW.PrintWords Go.Proofs.YtilnnkjlddmhbaaDoorW.PrintLast Go.Proofs.YtilnnkjlddmhbaaDoorW.PrintMore
attribute [local go_sem] max2_int min2_int max_two min_two max_three min_three max_four min_four   -- for this text's walks alone
set_option linter.unusedVariables false
set_option linter.unusedSimpArgs false
open Go.Proofs.YtilnnkjlddmhbaaDoorX



def errW : Option Int → Value
  | none => .nilIface
  | some c => .iface 0 (.int .i64 c)
theorem errW_none : errW none = .nilIface := rfl
theorem errW_some (c : Int) : errW (some c) = .iface 0 (.int .i64 c) := rfl

-- the values' own types

end Go.Proofs.YtilnnkjlddmhbaaDoor.PChunkLives
