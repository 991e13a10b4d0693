-- Made by a program of this session (xprint) out of the translation. Not trusted: Lean checks it.
import Derived.Test.YtfomgljhcegjdaaProg
import Derived.Below
import Derived.Deep.Draws
import Derived.Deep.AppendLies
import Derived.Maps.AppendAt
import Derived.OwnWalk
import Derived.Laws.BytesArg
import Derived.Laws.MakeOwn
import Derived.Laws.OwnMore
import Derived.Deep.OwnRows
import Derived.Tactics
import Derived.Lib.ConvBytes
import Derived.Laws.Slices
import Derived.WalkKit
import Derived.KernelRfl
import Derived.RowKit3
import Derived.Deep.LoopGhost
import Derived.Deep.QuietTactic
import Derived.BigQuiet
import Derived.WideLaws
import Derived.Deep.DeepCutAuto
import Derived.Deep.CutBlock
import Derived.Deep.RegionHeld3
import Derived.Laws.Rows
import Derived.Lib.AppendStr
import Derived.ArgAppend
import Derived.Laws.IdiomCopy
import Derived.OrdersHeld
import Derived.Laws.BitsLemmas
import Derived.RowKit
import Derived.Test.YtfomgljhcegjdaaXBe
import Derived.Test.YtfomgljhcegjdaaWWords
import Derived.Test.YtfomgljhcegjdaaWLast
import Derived.Test.YtfomgljhcegjdaaWTab
import Derived.Test.YtfomgljhcegjdaaWFour
import Derived.Test.YtfomgljhcegjdaaWQPut
import Derived.Test.YtfomgljhcegjdaaWApart
import Derived.Test.YtfomgljhcegjdaaWArr
import Derived.Test.YtfomgljhcegjdaaWZeros
import Derived.Test.YtfomgljhcegjdaaWFoot
import Derived.Test.YtfomgljhcegjdaaWKept
import Derived.Test.YtfomgljhcegjdaaWShare
import Derived.Test.YtfomgljhcegjdaaWN
import Derived.Test.YtfomgljhcegjdaaWFootNe
import Derived.Test.YtfomgljhcegjdaaWAt
import Derived.Test.YtfomgljhcegjdaaWEqStruct
import Derived.Test.YtfomgljhcegjdaaWRepsOne
import Derived.Test.YtfomgljhcegjdaaWInv
import Derived.Test.YtfomgljhcegjdaaWInvWords
import Derived.Test.YtfomgljhcegjdaaWGuard
import Derived.Test.YtfomgljhcegjdaaWNEv
import Derived.Test.YtfomgljhcegjdaaWMore
namespace Go.Proofs.Ytfomgljhcegjdaa.P
open Go.RowKit Go.Proofs.YtfomgljhcegjdaaW.PrintWords Go.Proofs.YtfomgljhcegjdaaW.PrintLast Go.Proofs.YtfomgljhcegjdaaW.PrintMore
attribute [local go_sem] max2_int min2_int max_two min_two max_three min_three max_four min_four   -- for this text's walks alone
set_option linter.unusedVariables false
set_option linter.unusedSimpArgs false



def errW : Option Int → Value
  | none => .nilIface
  | some c => .iface 0 (.int .i64 c)
theorem errW_none : errW none = .nilIface := rfl
theorem errW_some (c : Int) : errW (some c) = .iface 0 (.int .i64 c) := rfl

theorem info5 : (Try.prog.info? 5).map (fun i => (i.zero, i.size, i.bytes)) = some (some (.int .u8 0), 1, 1) := by kernel_rfl
-- the values' own types

end Go.Proofs.Ytfomgljhcegjdaa.P
