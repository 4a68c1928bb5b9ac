/- A print of one function, renamed (two functions bear one short name). -/
import Derived.Test.YtpchbdpepgeibaaDoorProg
import Derived.Below
import Derived.Deep.Draws
import Derived.Deep.AppendLies
import Derived.Maps.AppendAt
import Derived.OwnWalk
import Derived.Laws.BytesArg
import Derived.Laws.MakeOwn
import Derived.Laws.OwnMore
import Derived.Deep.OwnRows
import Derived.Tactics
import Derived.Lib.ConvBytes
import Derived.Laws.Slices
import Derived.WalkKit
import Derived.KernelRfl
import Derived.RowKit3
import Derived.Deep.LoopGhost
import Derived.Deep.QuietTactic
import Derived.BigQuiet
import Derived.WideLaws
import Derived.Deep.DeepCutAuto
import Derived.Deep.CutBlock
import Derived.Deep.RegionHeld3
import Derived.Laws.Rows
import Derived.Lib.AppendStr
import Derived.ArgAppend
import Derived.Laws.IdiomCopy
import Derived.OrdersHeld
import Derived.Laws.BitsLemmas
import Derived.RowKit
import Derived.Test.YtpchbdpepgeibaaDoorWWords
import Derived.Test.YtpchbdpepgeibaaDoorWLast
import Derived.Test.YtpchbdpepgeibaaDoorWTab
import Derived.Test.YtpchbdpepgeibaaDoorWFour
import Derived.Test.YtpchbdpepgeibaaDoorWQPut
import Derived.Test.YtpchbdpepgeibaaDoorWApart
import Derived.Test.YtpchbdpepgeibaaDoorWArr
import Derived.Test.YtpchbdpepgeibaaDoorWZeros
import Derived.Test.YtpchbdpepgeibaaDoorWFoot
import Derived.Test.YtpchbdpepgeibaaDoorWKept
import Derived.Test.YtpchbdpepgeibaaDoorWShare
import Derived.Test.YtpchbdpepgeibaaDoorWN
import Derived.Test.YtpchbdpepgeibaaDoorWFootNe
import Derived.Test.YtpchbdpepgeibaaDoorWAt
import Derived.Test.YtpchbdpepgeibaaDoorWEqStruct
import Derived.Test.YtpchbdpepgeibaaDoorWRepsOne
import Derived.Test.YtpchbdpepgeibaaDoorWInv
import Derived.Test.YtpchbdpepgeibaaDoorWInvWords
import Derived.Test.YtpchbdpepgeibaaDoorWGuard
import Derived.Test.YtpchbdpepgeibaaDoorWNEv
import Derived.Test.YtpchbdpepgeibaaDoorWMore
namespace Go.Proofs.YtpchbdpepgeibaaDoor.RAt
open Go.RowKit Go.Proofs.YtpchbdpepgeibaaDoorW.PrintWords Go.Proofs.YtpchbdpepgeibaaDoorW.PrintLast Go.Proofs.YtpchbdpepgeibaaDoorW.PrintMore
attribute [local go_sem] max2_int min2_int max_two min_two max_three min_three max_four min_four   -- for this text's walks alone
set_option linter.unusedVariables false
set_option linter.unusedSimpArgs false



def errW : Option Int → Value
  | none => .nilIface
  | some c => .iface 0 (.int .i64 c)
theorem errW_none : errW none = .nilIface := rfl
theorem errW_some (c : Int) : errW (some c) = .iface 0 (.int .i64 c) := rfl

-- the values' own types

end Go.Proofs.YtpchbdpepgeibaaDoor.RAt
