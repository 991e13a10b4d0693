-- Made by a program of this session (xprint) out of the translation. Not trusted: Lean checks it.
import Derived.Test.YtbfmdfolboankaaProg
import Derived.Below
import Derived.Deep.Draws
import Derived.Deep.AppendLies
import Derived.Maps.AppendAt
import Derived.OwnWalk
import Derived.Laws.BytesArg
import Derived.Laws.MakeOwn
import Derived.Laws.OwnMore
import Derived.Deep.OwnRows
import Derived.Tactics
import Derived.Lib.ConvBytes
import Derived.Laws.Slices
import Derived.WalkKit
import Derived.KernelRfl
import Derived.RowKit3
import Derived.Deep.LoopGhost
import Derived.Deep.QuietTactic
import Derived.BigQuiet
import Derived.WideLaws
import Derived.Deep.DeepCutAuto
import Derived.Deep.CutBlock
import Derived.Deep.RegionHeld3
import Derived.Laws.Rows
import Derived.Lib.AppendStr
import Derived.ArgAppend
import Derived.Laws.IdiomCopy
import Derived.OrdersHeld
import Derived.Laws.BitsLemmas
import Derived.RowKit
import Derived.Test.YtbfmdfolboankaaWWords
import Derived.Test.YtbfmdfolboankaaWLast
import Derived.Test.YtbfmdfolboankaaWTab
import Derived.Test.YtbfmdfolboankaaWFour
import Derived.Test.YtbfmdfolboankaaWQPut
import Derived.Test.YtbfmdfolboankaaWApart
import Derived.Test.YtbfmdfolboankaaWArr
import Derived.Test.YtbfmdfolboankaaWZeros
import Derived.Test.YtbfmdfolboankaaWFoot
import Derived.Test.YtbfmdfolboankaaWKept
import Derived.Test.YtbfmdfolboankaaWShare
import Derived.Test.YtbfmdfolboankaaWN
import Derived.Test.YtbfmdfolboankaaWFootNe
import Derived.Test.YtbfmdfolboankaaWAt
import Derived.Test.YtbfmdfolboankaaWEqStruct
import Derived.Test.YtbfmdfolboankaaWRepsOne
import Derived.Test.YtbfmdfolboankaaWInv
import Derived.Test.YtbfmdfolboankaaWInvWords
import Derived.Test.YtbfmdfolboankaaWGuard
import Derived.Test.YtbfmdfolboankaaWNEv
import Derived.Test.YtbfmdfolboankaaWMore
namespace Go.Proofs.Ytbfmdfolboankaa.P
open Go.RowKit Go.Proofs.YtbfmdfolboankaaW.PrintWords Go.Proofs.YtbfmdfolboankaaW.PrintLast Go.Proofs.YtbfmdfolboankaaW.PrintMore
attribute [local go_sem] max2_int min2_int max_two min_two max_three min_three max_four min_four   -- for this text's walks alone
set_option linter.unusedVariables false
set_option linter.unusedSimpArgs false



def errW : Option Int → Value
  | none => .nilIface
  | some c => .iface 0 (.int .i64 c)
theorem errW_none : errW none = .nilIface := rfl
theorem errW_some (c : Int) : errW (some c) = .iface 0 (.int .i64 c) := rfl

-- the values' own types

end Go.Proofs.Ytbfmdfolboankaa.P
