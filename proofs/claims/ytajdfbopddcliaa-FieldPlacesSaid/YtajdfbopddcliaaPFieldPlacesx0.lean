-- WRITTEN FOR THIS CLAIM by given.py, a program of this session's: the kit's printer, run with contracts of the session's own. It is not a text of print.sh's.
import Derived.Test.YtajdfbopddcliaaProg
import Derived.Below
import Derived.Deep.Draws
import Derived.Deep.AppendLies
import Derived.Maps.AppendAt
import Derived.OwnWalk
import Derived.Laws.BytesArg
import Derived.Laws.MakeOwn
import Derived.Laws.OwnMore
import Derived.Deep.OwnRows
import Derived.Tactics
import Derived.Lib.ConvBytes
import Derived.Laws.Slices
import Derived.WalkKit
import Derived.KernelRfl
import Derived.RowKit3
import Derived.Deep.LoopGhost
import Derived.Deep.QuietTactic
import Derived.BigQuiet
import Derived.WideLaws
import Derived.Deep.DeepCutAuto
import Derived.Deep.CutBlock
import Derived.Deep.RegionHeld3
import Derived.Laws.Rows
import Derived.Lib.AppendStr
import Derived.ArgAppend
import Derived.Laws.IdiomCopy
import Derived.OrdersHeld
import Derived.Laws.BitsLemmas
import Derived.RowKit
import Derived.Test.YtajdfbopddcliaaEach
import Derived.Laws.BitsAllLaws
import Derived.Laws.EntriesVeiled
import Derived.Test.YtajdfbopddcliaaWWords
import Derived.Test.YtajdfbopddcliaaWLast
import Derived.Test.YtajdfbopddcliaaWTab
import Derived.Test.YtajdfbopddcliaaWFour
import Derived.Test.YtajdfbopddcliaaWQPut
import Derived.Test.YtajdfbopddcliaaWApart
import Derived.Test.YtajdfbopddcliaaWArr
import Derived.Test.YtajdfbopddcliaaWZeros
import Derived.Test.YtajdfbopddcliaaWFoot
import Derived.Test.YtajdfbopddcliaaWKept
import Derived.Test.YtajdfbopddcliaaWShare
import Derived.Test.YtajdfbopddcliaaWN
import Derived.Test.YtajdfbopddcliaaWFootNe
import Derived.Test.YtajdfbopddcliaaWAt
import Derived.Test.YtajdfbopddcliaaWEqStruct
import Derived.Test.YtajdfbopddcliaaWRepsOne
import Derived.Test.YtajdfbopddcliaaWInv
import Derived.Test.YtajdfbopddcliaaWInvWords
import Derived.Test.YtajdfbopddcliaaWGuard
import Derived.Test.YtajdfbopddcliaaWNEv
import Derived.Test.YtajdfbopddcliaaWMore
namespace Go.Proofs.Ytajdfbopddcliaa.PFieldPlaces
open Go.RowKit Go.Proofs.YtajdfbopddcliaaW.PrintWords Go.Proofs.YtajdfbopddcliaaW.PrintLast Go.Proofs.YtajdfbopddcliaaW.PrintMore
attribute [local go_sem] max2_int min2_int max_two min_two max_three min_three max_four min_four   -- for this text's walks alone
set_option linter.unusedVariables false
set_option linter.unusedSimpArgs false
open Go.Proofs.YtajdfbopddcliaaX



def errW : Option Int → Value
  | none => .nilIface
  | some c => .iface 0 (.int .i64 c)
theorem errW_none : errW none = .nilIface := rfl
theorem errW_some (c : Int) : errW (some c) = .iface 0 (.int .i64 c) := rfl

-- the values' own types

end Go.Proofs.Ytajdfbopddcliaa.PFieldPlaces
