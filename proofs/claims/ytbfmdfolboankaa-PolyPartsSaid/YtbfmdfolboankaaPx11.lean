-- Made by a program of this session (xprint) out of the translation. Not trusted: Lean checks it.
import Derived.Test.YtbfmdfolboankaaPx0
namespace Go.Proofs.Ytbfmdfolboankaa.P
open Go.RowKit Go.Proofs.YtbfmdfolboankaaW.PrintWords Go.Proofs.YtbfmdfolboankaaW.PrintLast Go.Proofs.YtbfmdfolboankaaW.PrintMore
attribute [local go_sem] max2_int min2_int max_two min_two max_three min_three max_four min_four   -- for this text's walks alone
set_option linter.unusedVariables false
set_option linter.unusedSimpArgs false

/-! ### tillrollref02_Last: function 15 -/
def tillrollref02_Last.f (a0 : Int) : Option (Int) := some (IntKind.u64.wrap (4294967295 - a0))
set_option maxHeartbeats 8000000 in
set_option maxRecDepth 100000 in
theorem tillrollref02_Last.calls (a0 : Int) (r : Int) (w : World) (h : tillrollref02_Last.f a0 = some r) :
    Calls Try.prog 15 #[.int .u64 a0] w fun e w' => e = .returned (.int .u64 r) ∧ Drawn0 w w' := by
  have H : (some (IntKind.u64.wrap (4294967295 - a0))) = some r := h
  clear h
  obtain rfl := Option.some.inj H
  go_enter Try.func15, Try.ntmps15
  go_wp2
  go_ret
  exact ⟨by first | rfl | (simp; done) | (simp [*]; done), by repeat (first | exact Drawn0.refl _ | apply Drawn0.step)⟩

end Go.Proofs.Ytbfmdfolboankaa.P
