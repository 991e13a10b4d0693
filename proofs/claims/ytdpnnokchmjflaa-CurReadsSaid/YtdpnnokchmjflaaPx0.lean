-- Made by a program of this session (xprint) out of the translation. Not trusted: Lean checks it.
import Derived.Test.YtdpnnokchmjflaaProg
import Derived.Below
import Derived.Deep.Draws
import Derived.Deep.AppendLies
import Derived.Maps.AppendAt
import Derived.OwnWalk
import Derived.Laws.BytesArg
import Derived.Laws.MakeOwn
import Derived.Laws.OwnMore
import Derived.Deep.OwnRows
import Derived.Tactics
import Derived.Lib.ConvBytes
import Derived.Laws.Slices
import Derived.WalkKit
import Derived.KernelRfl
import Derived.RowKit3
import Derived.Deep.LoopGhost
import Derived.Deep.QuietTactic
import Derived.BigQuiet
import Derived.WideLaws
import Derived.Deep.DeepCutAuto
import Derived.Deep.CutBlock
import Derived.Deep.RegionHeld3
import Derived.Laws.Rows
import Derived.Lib.AppendStr
import Derived.ArgAppend
import Derived.Laws.IdiomCopy
import Derived.OrdersHeld
import Derived.Laws.BitsLemmas
import Derived.RowKit
import Derived.Test.YtdpnnokchmjflaaXBe
import Derived.Test.YtdpnnokchmjflaaWWords
import Derived.Test.YtdpnnokchmjflaaWLast
import Derived.Test.YtdpnnokchmjflaaWTab
import Derived.Test.YtdpnnokchmjflaaWFour
import Derived.Test.YtdpnnokchmjflaaWQPut
import Derived.Test.YtdpnnokchmjflaaWApart
import Derived.Test.YtdpnnokchmjflaaWArr
import Derived.Test.YtdpnnokchmjflaaWZeros
import Derived.Test.YtdpnnokchmjflaaWFoot
import Derived.Test.YtdpnnokchmjflaaWKept
import Derived.Test.YtdpnnokchmjflaaWShare
import Derived.Test.YtdpnnokchmjflaaWN
import Derived.Test.YtdpnnokchmjflaaWFootNe
import Derived.Test.YtdpnnokchmjflaaWAt
import Derived.Test.YtdpnnokchmjflaaWEqStruct
import Derived.Test.YtdpnnokchmjflaaWRepsOne
import Derived.Test.YtdpnnokchmjflaaWInv
import Derived.Test.YtdpnnokchmjflaaWInvWords
import Derived.Test.YtdpnnokchmjflaaWGuard
import Derived.Test.YtdpnnokchmjflaaWNEv
import Derived.Test.YtdpnnokchmjflaaWMore
namespace Go.Proofs.Ytdpnnokchmjflaa.P
open Go.RowKit Go.Proofs.YtdpnnokchmjflaaW.PrintWords Go.Proofs.YtdpnnokchmjflaaW.PrintLast Go.Proofs.YtdpnnokchmjflaaW.PrintMore
attribute [local go_sem] max2_int min2_int max_two min_two max_three min_three max_four min_four   -- for this text's walks alone
set_option linter.unusedVariables false
set_option linter.unusedSimpArgs false



def errW : Option Int → Value
  | none => .nilIface
  | some c => .iface 0 (.int .i64 c)
theorem errW_none : errW none = .nilIface := rfl
theorem errW_some (c : Int) : errW (some c) = .iface 0 (.int .i64 c) := rfl

theorem info5 : (Try.prog.info? 5).map (fun i => (i.zero, i.size, i.bytes)) = some (some (.int .u8 0), 1, 1) := by kernel_rfl
-- the values' own types

end Go.Proofs.Ytdpnnokchmjflaa.P
