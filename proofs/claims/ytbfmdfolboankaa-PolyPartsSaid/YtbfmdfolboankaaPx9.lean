-- Made by a program of this session (xprint) out of the translation. Not trusted: Lean checks it.
import Derived.Test.YtbfmdfolboankaaPx0
import Derived.Test.YtbfmdfolboankaaPx8
namespace Go.Proofs.Ytbfmdfolboankaa.P
open Go.RowKit Go.Proofs.YtbfmdfolboankaaW.PrintWords Go.Proofs.YtbfmdfolboankaaW.PrintLast Go.Proofs.YtbfmdfolboankaaW.PrintMore
attribute [local go_sem] max2_int min2_int max_two min_two max_three min_three max_four min_four   -- for this text's walks alone
set_option linter.unusedVariables false
set_option linter.unusedSimpArgs false

/-! ### tillrollref02_step: function 19 -/
def tillrollref02_step.f (k : Nat) (a0 : Int) (a1 : Int) : Option (Int) := if (IntKind.u64.wrap (Int.tdiv a0 2147483648)) = a1 then (some (Int.tmod (IntKind.u64.wrap (2 * a0)) 4294967296)) else ((tillrollref02_Xor.f k (Int.tmod (IntKind.u64.wrap (2 * a0)) 4294967296) 79764919).bind fun t101 => (some t101))
theorem tillrollref02_step.mono : ∀ a0 a1 k, LeO (tillrollref02_step.f k a0 a1) (tillrollref02_step.f (k + 1) a0 a1) := by
  intro a0 a1 k
  unfold tillrollref02_step.f
  repeat' first
      | (with_reducible exact tillrollref02_Xor.mono _ _ _)
      | (with_reducible exact LeO.refl _)
      | (with_reducible exact LeO.none _)
      | (with_reducible refine LeO.ite ?_ ?_)
      | (with_reducible refine LeO.bind ?_ (fun _ => ?_))
      | exact tillrollref02_Xor.mono _ _ _
      | exact LeO.none _
      | refine LeO.ite ?_ ?_
      | refine LeO.bind ?_ (fun _ => ?_)
set_option maxHeartbeats 8000000 in
set_option maxRecDepth 100000 in
theorem tillrollref02_step.calls (k : Nat) (a0 : Int) (a1 : Int) (r : Int) (w : World) (h : tillrollref02_step.f k a0 a1 = some r) :
    Calls Try.prog 19 #[.int .u64 a0, .int .u64 a1] w fun e w' => e = .returned (.int .u64 r) ∧ Drawn0 w w' := by
  have H : (if (IntKind.u64.wrap (Int.tdiv a0 2147483648)) = a1 then (some (Int.tmod (IntKind.u64.wrap (2 * a0)) 4294967296)) else ((tillrollref02_Xor.f k (Int.tmod (IntKind.u64.wrap (2 * a0)) 4294967296) 79764919).bind fun t101 => (some t101))) = some r := h
  clear h
  by_cases c3 : (IntKind.u64.wrap (Int.tdiv a0 2147483648)) = a1
  · rw [if_pos c3] at H
    have c3b0 : ((IntKind.u64.wrap (Int.tdiv a0 2147483648)) == a1) = true := beq_iff_eq.mpr c3
    have c3b1 : ((IntKind.u64.wrap (Int.tdiv a0 2147483648)) != a1) = false := bne_eq_false_iff_eq.mpr c3
    clear c3
    obtain rfl := Option.some.inj H
    go_enter Try.func19, Try.ntmps19
    go_wp2
    go_ret
    exact ⟨by first | rfl | (simp; done) | (simp [*]; done), by repeat (first | exact Drawn0.refl _ | apply Drawn0.step)⟩
  · rw [if_neg c3] at H
    have c3b0 : ((IntKind.u64.wrap (Int.tdiv a0 2147483648)) == a1) = false := beq_eq_false_iff_ne.mpr c3
    have c3b1 : ((IntKind.u64.wrap (Int.tdiv a0 2147483648)) != a1) = true := bne_iff_ne.mpr c3
    replace H := Option.bind_eq_some_iff.mp H
    obtain ⟨t101, A40, H⟩ := H
    replace H : (some t101) = some r := H
    have A4 := Aside0.mk A40
    clear A40
    obtain rfl := Option.some.inj H
    go_enter Try.func19, Try.ntmps19
    go_wp2_with (first | ((with_reducible refine gate_callee (f := 20) rfl ?_); refine goesL_ (some 15) rfl rfl Try.func20 (by kernel_rfl) rfl #[.int .u64 (Int.tmod (IntKind.u64.wrap (2 * a0)) 4294967296), .int .u64 79764919] rfl (by (try simp only [List.map_toArray, List.map_cons, List.map_nil]); first | done | rfl | (simp only [List.length_drop, List.length_take]; rfl)) ?_; (with_reducible refine (tillrollref02_Xor.calls k (Int.tmod (IntKind.u64.wrap (2 * a0)) 4294967296) 79764919 t101 _ A4.out).mono ?_); rintro e w' ⟨rfl, ⟨nd, rfl⟩⟩; refine ⟨_, rfl, ?_⟩))
    go_ret
    exact ⟨by first | rfl | (simp; done) | (simp [*]; done), by repeat (first | exact Drawn0.refl _ | apply Drawn0.step)⟩

end Go.Proofs.Ytbfmdfolboankaa.P
