-- WRITTEN FOR THIS CLAIM by given.py, a program of this session's: the kit's printer, run with contracts of the session's own. It is not a text of print.sh's.
import Derived.Test.YtnkigdcicnhepaaDoorProg
import Derived.Below
import Derived.Deep.Draws
import Derived.Deep.AppendLies
import Derived.Maps.AppendAt
import Derived.OwnWalk
import Derived.Laws.BytesArg
import Derived.Laws.MakeOwn
import Derived.Laws.OwnMore
import Derived.Deep.OwnRows
import Derived.Tactics
import Derived.Lib.ConvBytes
import Derived.Laws.Slices
import Derived.WalkKit
import Derived.KernelRfl
import Derived.RowKit3
import Derived.Deep.LoopGhost
import Derived.Deep.QuietTactic
import Derived.BigQuiet
import Derived.WideLaws
import Derived.Deep.DeepCutAuto
import Derived.Deep.CutBlock
import Derived.Deep.RegionHeld3
import Derived.Laws.Rows
import Derived.Lib.AppendStr
import Derived.ArgAppend
import Derived.Laws.IdiomCopy
import Derived.OrdersHeld
import Derived.Laws.BitsLemmas
import Derived.RowKit
import Derived.Test.YtnkigdcicnhepaaDoorGL
import Derived.Test.YtnkigdcicnhepaaDoorWWords
import Derived.Test.YtnkigdcicnhepaaDoorWLast
import Derived.Test.YtnkigdcicnhepaaDoorWTab
import Derived.Test.YtnkigdcicnhepaaDoorWFour
import Derived.Test.YtnkigdcicnhepaaDoorWQPut
import Derived.Test.YtnkigdcicnhepaaDoorWApart
import Derived.Test.YtnkigdcicnhepaaDoorWArr
import Derived.Test.YtnkigdcicnhepaaDoorWZeros
import Derived.Test.YtnkigdcicnhepaaDoorWFoot
import Derived.Test.YtnkigdcicnhepaaDoorWKept
import Derived.Test.YtnkigdcicnhepaaDoorWShare
import Derived.Test.YtnkigdcicnhepaaDoorWN
import Derived.Test.YtnkigdcicnhepaaDoorWFootNe
import Derived.Test.YtnkigdcicnhepaaDoorWAt
import Derived.Test.YtnkigdcicnhepaaDoorWEqStruct
import Derived.Test.YtnkigdcicnhepaaDoorWRepsOne
import Derived.Test.YtnkigdcicnhepaaDoorWInv
import Derived.Test.YtnkigdcicnhepaaDoorWInvWords
import Derived.Test.YtnkigdcicnhepaaDoorWGuard
import Derived.Test.YtnkigdcicnhepaaDoorWNEv
import Derived.Test.YtnkigdcicnhepaaDoorWMore
namespace Go.Proofs.YtnkigdcicnhepaaDoor.PClassTells
open Go.RowKit Go.Proofs.YtnkigdcicnhepaaDoorW.PrintWords Go.Proofs.YtnkigdcicnhepaaDoorW.PrintLast Go.Proofs.YtnkigdcicnhepaaDoorW.PrintMore
attribute [local go_sem] max2_int min2_int max_two min_two max_three min_three max_four min_four   -- for this text's walks alone
set_option linter.unusedVariables false
set_option linter.unusedSimpArgs false
open Go.Proofs.YtnkigdcicnhepaaDoorX



def errW : Option Int → Value
  | none => .nilIface
  | some c => .iface 0 (.int .i64 c)
theorem errW_none : errW none = .nilIface := rfl
theorem errW_some (c : Int) : errW (some c) = .iface 0 (.int .i64 c) := rfl

-- the values' own types

end Go.Proofs.YtnkigdcicnhepaaDoor.PClassTells
