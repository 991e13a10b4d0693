-- Made by a program of this session (xprint) out of the translation. Not trusted: Lean checks it.
import Derived.Test.YtbfmdfolboankaaPx0
import Derived.Test.YtbfmdfolboankaaPx10
import Derived.Test.YtbfmdfolboankaaPx11
namespace Go.Proofs.Ytbfmdfolboankaa.P
open Go.RowKit Go.Proofs.YtbfmdfolboankaaW.PrintWords Go.Proofs.YtbfmdfolboankaaW.PrintLast Go.Proofs.YtbfmdfolboankaaW.PrintMore
attribute [local go_sem] max2_int min2_int max_two min_two max_three min_three max_four min_four   -- for this text's walks alone
set_option linter.unusedVariables false
set_option linter.unusedSimpArgs false

/-! ### tillrollref02_Sum: function 11 -/
def tillrollref02_Sum.f (k : Nat) (a0 : ByteArray) : Option (Int) := (tillrollref02_More.f k 4294967295 a0).bind fun t103 => ((tillrollref02_Last.f t103).bind fun t104 => (some t104))
theorem tillrollref02_Sum.mono : ∀ a0 k, LeO (tillrollref02_Sum.f k a0) (tillrollref02_Sum.f (k + 1) a0) := by
  intro a0 k
  unfold tillrollref02_Sum.f
  repeat' first
      | (with_reducible exact tillrollref02_More.mono _ _ _)
      | (with_reducible exact LeO.refl _)
      | (with_reducible exact LeO.none _)
      | (with_reducible refine LeO.ite ?_ ?_)
      | (with_reducible refine LeO.bind ?_ (fun _ => ?_))
      | exact tillrollref02_More.mono _ _ _
      | exact LeO.none _
      | refine LeO.ite ?_ ?_
      | refine LeO.bind ?_ (fun _ => ?_)
set_option maxHeartbeats 8000000 in
set_option maxRecDepth 100000 in
theorem tillrollref02_Sum.calls (k : Nat) (a0 : ByteArray) (r : Int) (w : World) (h : tillrollref02_Sum.f k a0 = some r) :
    Calls Try.prog 11 #[.string a0] w fun e w' => e = .returned (.int .u64 r) ∧ Drawn0 w w' := by
  have H : ((tillrollref02_More.f k 4294967295 a0).bind fun t103 => ((tillrollref02_Last.f t103).bind fun t104 => (some t104))) = some r := h
  clear h
  replace H := Option.bind_eq_some_iff.mp H
  obtain ⟨t103, A20, H⟩ := H
  replace H : ((tillrollref02_Last.f t103).bind fun t104 => (some t104)) = some r := H
  have A2 := Aside0.mk A20
  clear A20
  replace H := Option.bind_eq_some_iff.mp H
  obtain ⟨t104, A30, H⟩ := H
  replace H : (some t104) = some r := H
  have A3 := Aside0.mk A30
  clear A30
  obtain rfl := Option.some.inj H
  go_enter Try.func11, Try.ntmps11
  go_wp2_with (first | ((with_reducible refine gate_callee (f := 13) rfl ?_); refine goesL_ (some 5) rfl rfl Try.func13 (by kernel_rfl) rfl #[.int .u64 4294967295, .string a0] rfl (by (try simp only [List.map_toArray, List.map_cons, List.map_nil]); first | done | rfl | (simp only [List.length_drop, List.length_take]; rfl)) ?_; (with_reducible refine (tillrollref02_More.calls k 4294967295 a0 t103 _ A2.out).mono ?_); rintro e w' ⟨rfl, ⟨nd, rfl⟩⟩; refine ⟨_, rfl, ?_⟩) | ((with_reducible refine gate_callee (f := 15) rfl ?_); refine goesL_ (some 7) rfl rfl Try.func15 (by kernel_rfl) rfl #[.int .u64 t103] rfl (by (try simp only [List.map_toArray, List.map_cons, List.map_nil]); first | done | rfl | (simp only [List.length_drop, List.length_take]; rfl)) ?_; (with_reducible refine (tillrollref02_Last.calls t103 t104 _ A3.out).mono ?_); rintro e w' ⟨rfl, ⟨nd, rfl⟩⟩; refine ⟨_, rfl, ?_⟩))
  go_ret
  exact ⟨by first | rfl | (simp; done) | (simp [*]; done), by repeat (first | exact Drawn0.refl _ | apply Drawn0.step)⟩

end Go.Proofs.Ytbfmdfolboankaa.P
