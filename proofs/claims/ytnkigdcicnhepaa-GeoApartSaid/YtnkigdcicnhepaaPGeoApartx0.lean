-- WRITTEN FOR THIS CLAIM by given.py, a program of this session's: the kit's printer, run with contracts of the session's own. It is not a text of print.sh's.
import Derived.Test.YtnkigdcicnhepaaProg
import Derived.Below
import Derived.Deep.Draws
import Derived.Deep.AppendLies
import Derived.Maps.AppendAt
import Derived.OwnWalk
import Derived.Laws.BytesArg
import Derived.Laws.MakeOwn
import Derived.Laws.OwnMore
import Derived.Deep.OwnRows
import Derived.Tactics
import Derived.Lib.ConvBytes
import Derived.Laws.Slices
import Derived.WalkKit
import Derived.KernelRfl
import Derived.RowKit3
import Derived.Deep.LoopGhost
import Derived.Deep.QuietTactic
import Derived.BigQuiet
import Derived.WideLaws
import Derived.Deep.DeepCutAuto
import Derived.Deep.CutBlock
import Derived.Deep.RegionHeld3
import Derived.Laws.Rows
import Derived.Lib.AppendStr
import Derived.ArgAppend
import Derived.Laws.IdiomCopy
import Derived.OrdersHeld
import Derived.Laws.BitsLemmas
import Derived.RowKit
import Derived.Test.YtnkigdcicnhepaaField
import Derived.Test.YtnkigdcicnhepaaWWords
import Derived.Test.YtnkigdcicnhepaaWLast
import Derived.Test.YtnkigdcicnhepaaWTab
import Derived.Test.YtnkigdcicnhepaaWFour
import Derived.Test.YtnkigdcicnhepaaWQPut
import Derived.Test.YtnkigdcicnhepaaWApart
import Derived.Test.YtnkigdcicnhepaaWArr
import Derived.Test.YtnkigdcicnhepaaWZeros
import Derived.Test.YtnkigdcicnhepaaWFoot
import Derived.Test.YtnkigdcicnhepaaWKept
import Derived.Test.YtnkigdcicnhepaaWShare
import Derived.Test.YtnkigdcicnhepaaWN
import Derived.Test.YtnkigdcicnhepaaWFootNe
import Derived.Test.YtnkigdcicnhepaaWAt
import Derived.Test.YtnkigdcicnhepaaWEqStruct
import Derived.Test.YtnkigdcicnhepaaWRepsOne
import Derived.Test.YtnkigdcicnhepaaWInv
import Derived.Test.YtnkigdcicnhepaaWInvWords
import Derived.Test.YtnkigdcicnhepaaWGuard
import Derived.Test.YtnkigdcicnhepaaWNEv
import Derived.Test.YtnkigdcicnhepaaWMore
namespace Go.Proofs.Ytnkigdcicnhepaa.PGeoApart
open Go.RowKit Go.Proofs.YtnkigdcicnhepaaW.PrintWords Go.Proofs.YtnkigdcicnhepaaW.PrintLast Go.Proofs.YtnkigdcicnhepaaW.PrintMore
attribute [local go_sem] max2_int min2_int max_two min_two max_three min_three max_four min_four   -- for this text's walks alone
set_option linter.unusedVariables false
set_option linter.unusedSimpArgs false



def errW : Option Int → Value
  | none => .nilIface
  | some c => .iface 0 (.int .i64 c)
theorem errW_none : errW none = .nilIface := rfl
theorem errW_some (c : Int) : errW (some c) = .iface 0 (.int .i64 c) := rfl

-- the values' own types

end Go.Proofs.Ytnkigdcicnhepaa.PGeoApart
