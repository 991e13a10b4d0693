-- Made by a program of this session (xprint) out of the translation. Not trusted: Lean checks it.
import Derived.Test.YtogaopfkmmnkiaaPx0
import Derived.Test.YtogaopfkmmnkiaaPx6
import Derived.Test.YtogaopfkmmnkiaaPx7
import Derived.Test.YtogaopfkmmnkiaaPx8
namespace Go.Proofs.Ytogaopfkmmnkiaa.P
open Go.RowKit Go.Proofs.YtogaopfkmmnkiaaW.PrintWords Go.Proofs.YtogaopfkmmnkiaaW.PrintLast Go.Proofs.YtogaopfkmmnkiaaW.PrintMore
attribute [local go_sem] max2_int min2_int max_two min_two max_three min_three max_four min_four   -- for this text's walks alone
set_option linter.unusedVariables false
set_option linter.unusedSimpArgs false

/-! ### tillrolllaw01_BeOrder: function 6 -/
def tillrolllaw01_BeOrder.f (k : Nat) (a0 : Int) (a1 : Int) (a2 : Int) : Option (Bool) := (be_Sign.f a0 (wrap64 (1 + (wrap64 (Int.tmod a2 64))))).bind fun t140 => ((tillrolllaw01_wakes.f k).bind fun t141 => (if t141 = true then ((be_Put.f a0 8).bind fun t142 => ((be_Put.f a1 8).bind fun t143 => (if ((Op.bytesLess t142.toList t143.toList) == (decide (a0 < a1))) = true then ((be_Wide.f t140 (wrap64 (1 + (wrap64 (Int.tmod a2 64))))).bind fun t144 => (if t144 = true then ((be_Wide.f t140 (mn 64 (wrap64 ((wrap64 (1 + (wrap64 (Int.tmod a2 64)))) + 1)))).bind fun t145 => (if t145 = true then ((be_Sign.f (IntKind.u64.wrap (t140)) (wrap64 (1 + (wrap64 (Int.tmod a2 64))))).bind fun t146 => (if t146 = t140 then ((be_Sign.f a0 64).bind fun t147 => (some (t147 == (wrap64 (a0))))) else (some false))) else (some false))) else (some false))) else (some false)))) else (some false)))
theorem tillrolllaw01_BeOrder.mono : ∀ a0 a1 a2 k, LeO (tillrolllaw01_BeOrder.f k a0 a1 a2) (tillrolllaw01_BeOrder.f (k + 1) a0 a1 a2) := by
  intro a0 a1 a2 k
  unfold tillrolllaw01_BeOrder.f
  repeat' first
      | (with_reducible exact tillrolllaw01_wakes.mono _)
      | (with_reducible exact LeO.refl _)
      | (with_reducible exact LeO.none _)
      | (with_reducible refine LeO.ite ?_ ?_)
      | (with_reducible refine LeO.bind ?_ (fun _ => ?_))
      | exact tillrolllaw01_wakes.mono _
      | exact LeO.none _
      | refine LeO.ite ?_ ?_
      | refine LeO.bind ?_ (fun _ => ?_)
set_option maxHeartbeats 8000000 in
set_option maxRecDepth 100000 in
theorem tillrolllaw01_BeOrder.calls (k : Nat) (a0 : Int) (a1 : Int) (a2 : Int) (r : Bool) (w : World) (h : tillrolllaw01_BeOrder.f k a0 a1 a2 = some r) :
    Calls Try.prog 6 #[.int .u64 a0, .int .u64 a1, .int .u8 a2] w fun e w' => e = .returned (.bool r) ∧ Below w.heap.size w w' := by
  have HB := Aside0.mk (Below.refl w.heap.size w)
  have H : ((be_Sign.f a0 (wrap64 (1 + (wrap64 (Int.tmod a2 64))))).bind fun t140 => ((tillrolllaw01_wakes.f k).bind fun t141 => (if t141 = true then ((be_Put.f a0 8).bind fun t142 => ((be_Put.f a1 8).bind fun t143 => (if ((Op.bytesLess t142.toList t143.toList) == (decide (a0 < a1))) = true then ((be_Wide.f t140 (wrap64 (1 + (wrap64 (Int.tmod a2 64))))).bind fun t144 => (if t144 = true then ((be_Wide.f t140 (mn 64 (wrap64 ((wrap64 (1 + (wrap64 (Int.tmod a2 64)))) + 1)))).bind fun t145 => (if t145 = true then ((be_Sign.f (IntKind.u64.wrap (t140)) (wrap64 (1 + (wrap64 (Int.tmod a2 64))))).bind fun t146 => (if t146 = t140 then ((be_Sign.f a0 64).bind fun t147 => (some (t147 == (wrap64 (a0))))) else (some false))) else (some false))) else (some false))) else (some false)))) else (some false)))) = some r := h
  clear h
  replace H := Option.bind_eq_some_iff.mp H
  obtain ⟨t140, A40, H⟩ := H
  replace H : ((tillrolllaw01_wakes.f k).bind fun t141 => (if t141 = true then ((be_Put.f a0 8).bind fun t142 => ((be_Put.f a1 8).bind fun t143 => (if ((Op.bytesLess t142.toList t143.toList) == (decide (a0 < a1))) = true then ((be_Wide.f t140 (wrap64 (1 + (wrap64 (Int.tmod a2 64))))).bind fun t144 => (if t144 = true then ((be_Wide.f t140 (mn 64 (wrap64 ((wrap64 (1 + (wrap64 (Int.tmod a2 64)))) + 1)))).bind fun t145 => (if t145 = true then ((be_Sign.f (IntKind.u64.wrap (t140)) (wrap64 (1 + (wrap64 (Int.tmod a2 64))))).bind fun t146 => (if t146 = t140 then ((be_Sign.f a0 64).bind fun t147 => (some (t147 == (wrap64 (a0))))) else (some false))) else (some false))) else (some false))) else (some false)))) else (some false))) = some r := H
  have A4 := Aside0.mk A40
  clear A40
  replace H := Option.bind_eq_some_iff.mp H
  obtain ⟨t141, A50, H⟩ := H
  replace H : (if t141 = true then ((be_Put.f a0 8).bind fun t142 => ((be_Put.f a1 8).bind fun t143 => (if ((Op.bytesLess t142.toList t143.toList) == (decide (a0 < a1))) = true then ((be_Wide.f t140 (wrap64 (1 + (wrap64 (Int.tmod a2 64))))).bind fun t144 => (if t144 = true then ((be_Wide.f t140 (mn 64 (wrap64 ((wrap64 (1 + (wrap64 (Int.tmod a2 64)))) + 1)))).bind fun t145 => (if t145 = true then ((be_Sign.f (IntKind.u64.wrap (t140)) (wrap64 (1 + (wrap64 (Int.tmod a2 64))))).bind fun t146 => (if t146 = t140 then ((be_Sign.f a0 64).bind fun t147 => (some (t147 == (wrap64 (a0))))) else (some false))) else (some false))) else (some false))) else (some false)))) else (some false)) = some r := H
  have A5 := Aside0.mk A50
  clear A50
  by_cases c6 : t141 = true
  · subst c6
    have H1 : ((be_Put.f a0 8).bind fun t142 => ((be_Put.f a1 8).bind fun t143 => (if ((Op.bytesLess t142.toList t143.toList) == (decide (a0 < a1))) = true then ((be_Wide.f t140 (wrap64 (1 + (wrap64 (Int.tmod a2 64))))).bind fun t144 => (if t144 = true then ((be_Wide.f t140 (mn 64 (wrap64 ((wrap64 (1 + (wrap64 (Int.tmod a2 64)))) + 1)))).bind fun t145 => (if t145 = true then ((be_Sign.f (IntKind.u64.wrap (t140)) (wrap64 (1 + (wrap64 (Int.tmod a2 64))))).bind fun t146 => (if t146 = t140 then ((be_Sign.f a0 64).bind fun t147 => (some (t147 == (wrap64 (a0))))) else (some false))) else (some false))) else (some false))) else (some false)))) = some r := by rw [if_pos rfl] at H; exact H
    clear H
    have H := H1
    clear H1
    replace H := Option.bind_eq_some_iff.mp H
    obtain ⟨t142, A70, H⟩ := H
    replace H : ((be_Put.f a1 8).bind fun t143 => (if ((Op.bytesLess t142.toList t143.toList) == (decide (a0 < a1))) = true then ((be_Wide.f t140 (wrap64 (1 + (wrap64 (Int.tmod a2 64))))).bind fun t144 => (if t144 = true then ((be_Wide.f t140 (mn 64 (wrap64 ((wrap64 (1 + (wrap64 (Int.tmod a2 64)))) + 1)))).bind fun t145 => (if t145 = true then ((be_Sign.f (IntKind.u64.wrap (t140)) (wrap64 (1 + (wrap64 (Int.tmod a2 64))))).bind fun t146 => (if t146 = t140 then ((be_Sign.f a0 64).bind fun t147 => (some (t147 == (wrap64 (a0))))) else (some false))) else (some false))) else (some false))) else (some false))) = some r := H
    have A7 := Aside0.mk A70
    clear A70
    replace H := Option.bind_eq_some_iff.mp H
    obtain ⟨t143, A80, H⟩ := H
    replace H : (if ((Op.bytesLess t142.toList t143.toList) == (decide (a0 < a1))) = true then ((be_Wide.f t140 (wrap64 (1 + (wrap64 (Int.tmod a2 64))))).bind fun t144 => (if t144 = true then ((be_Wide.f t140 (mn 64 (wrap64 ((wrap64 (1 + (wrap64 (Int.tmod a2 64)))) + 1)))).bind fun t145 => (if t145 = true then ((be_Sign.f (IntKind.u64.wrap (t140)) (wrap64 (1 + (wrap64 (Int.tmod a2 64))))).bind fun t146 => (if t146 = t140 then ((be_Sign.f a0 64).bind fun t147 => (some (t147 == (wrap64 (a0))))) else (some false))) else (some false))) else (some false))) else (some false)) = some r := H
    have A8 := Aside0.mk A80
    clear A80
    by_cases c9 : ((Op.bytesLess t142.toList t143.toList) == (decide (a0 < a1))) = true
    · rw [if_pos c9] at H
      have c9b0 : ((Op.bytesLess t142.toList t143.toList) == (decide (a0 < a1))) = true := c9
      (try (have c9b1 : decide ((Op.bytesLess t142.toList t143.toList) = (decide (a0 < a1))) = true := by simpa using c9))
      (try (have c9b2 : ((Op.bytesLess t142.toList t143.toList) == (decide (a0 < a1))) = true := by simpa using c9))
      clear c9
      replace H := Option.bind_eq_some_iff.mp H
      obtain ⟨t144, A100, H⟩ := H
      replace H : (if t144 = true then ((be_Wide.f t140 (mn 64 (wrap64 ((wrap64 (1 + (wrap64 (Int.tmod a2 64)))) + 1)))).bind fun t145 => (if t145 = true then ((be_Sign.f (IntKind.u64.wrap (t140)) (wrap64 (1 + (wrap64 (Int.tmod a2 64))))).bind fun t146 => (if t146 = t140 then ((be_Sign.f a0 64).bind fun t147 => (some (t147 == (wrap64 (a0))))) else (some false))) else (some false))) else (some false)) = some r := H
      have A10 := Aside0.mk A100
      clear A100
      by_cases c11 : t144 = true
      · subst c11
        have H1 : ((be_Wide.f t140 (mn 64 (wrap64 ((wrap64 (1 + (wrap64 (Int.tmod a2 64)))) + 1)))).bind fun t145 => (if t145 = true then ((be_Sign.f (IntKind.u64.wrap (t140)) (wrap64 (1 + (wrap64 (Int.tmod a2 64))))).bind fun t146 => (if t146 = t140 then ((be_Sign.f a0 64).bind fun t147 => (some (t147 == (wrap64 (a0))))) else (some false))) else (some false))) = some r := by rw [if_pos rfl] at H; exact H
        clear H
        have H := H1
        clear H1
        obtain ⟨ji12, hji12⟩ : ∃ j_ : Int, (mn 64 (wrap64 ((wrap64 (1 + (wrap64 (Int.tmod a2 64)))) + 1))) = j_ := ⟨_, rfl⟩
        replace H : ((be_Wide.f t140 (ji12)).bind fun t145 => (if t145 = true then ((be_Sign.f (IntKind.u64.wrap (t140)) (wrap64 (1 + (wrap64 (Int.tmod a2 64))))).bind fun t146 => (if t146 = t140 then ((be_Sign.f a0 64).bind fun t147 => (some (t147 == (wrap64 (a0))))) else (some false))) else (some false))) = some r := by first | (rw [hji12] at H; exact H) | (simp only [hji12] at H ⊢; exact H)
        (try rw [hji12] at A4)
        (try rw [hji12] at A5)
        (try rw [hji12] at A7)
        (try rw [hji12] at A8)
        (try rw [hji12] at A10)
        (try (have hji12h : ji12 ≤ 64 := by (rw [← hji12]; unfold mn; (repeat' split) <;> omega)))
        (try (have hji12g : ji12 ≤ 64 := by omega))
        have hji12_ : (if (wrap64 ((wrap64 (1 + (wrap64 (Int.tmod a2 64)))) + 1)) < 64 then (wrap64 ((wrap64 (1 + (wrap64 (Int.tmod a2 64)))) + 1)) else 64) = ji12 := hji12
        replace H := Option.bind_eq_some_iff.mp H
        obtain ⟨t145, A130, H⟩ := H
        replace H : (if t145 = true then ((be_Sign.f (IntKind.u64.wrap (t140)) (wrap64 (1 + (wrap64 (Int.tmod a2 64))))).bind fun t146 => (if t146 = t140 then ((be_Sign.f a0 64).bind fun t147 => (some (t147 == (wrap64 (a0))))) else (some false))) else (some false)) = some r := H
        have A13 := Aside0.mk A130
        clear A130
        by_cases c14 : t145 = true
        · subst c14
          have H1 : ((be_Sign.f (IntKind.u64.wrap (t140)) (wrap64 (1 + (wrap64 (Int.tmod a2 64))))).bind fun t146 => (if t146 = t140 then ((be_Sign.f a0 64).bind fun t147 => (some (t147 == (wrap64 (a0))))) else (some false))) = some r := by rw [if_pos rfl] at H; exact H
          clear H
          have H := H1
          clear H1
          replace H := Option.bind_eq_some_iff.mp H
          obtain ⟨t146, A150, H⟩ := H
          replace H : (if t146 = t140 then ((be_Sign.f a0 64).bind fun t147 => (some (t147 == (wrap64 (a0))))) else (some false)) = some r := H
          have A15 := Aside0.mk A150
          clear A150
          by_cases c16 : t146 = t140
          · rw [if_pos c16] at H
            have c16b0 : (t146 == t140) = true := beq_iff_eq.mpr c16
            have c16b1 : (t146 != t140) = false := bne_eq_false_iff_eq.mpr c16
            clear c16
            replace H := Option.bind_eq_some_iff.mp H
            obtain ⟨t147, A170, H⟩ := H
            replace H : (some (t147 == (wrap64 (a0)))) = some r := H
            have A17 := Aside0.mk A170
            clear A170
            obtain rfl := Option.some.inj H
            go_enter Try.func6, Try.ntmps6
            go_wp2_with (first | ((with_reducible refine gate_callee (f := 15) rfl ?_); refine goesL_ (some 15) rfl rfl Try.func15 (by kernel_rfl) rfl #[.int .u64 a0, .int .i64 (wrap64 (1 + (wrap64 (Int.tmod a2 64))))] rfl (by (try simp only [List.map_toArray, List.map_cons, List.map_nil]); first | done | rfl | (simp only [List.length_drop, List.length_take]; rfl)) ?_; (with_reducible refine (be_Sign.calls a0 (wrap64 (1 + (wrap64 (Int.tmod a2 64)))) t140 _ A4.out).mono ?_); rintro e w' ⟨rfl, ⟨nd, rfl⟩⟩; refine ⟨_, rfl, ?_⟩) | ((with_reducible refine gate_callee (f := 10) rfl ?_); refine goesL_ (some 16) rfl rfl Try.func10 (by kernel_rfl) rfl #[] rfl (by (try simp only [List.map_toArray, List.map_cons, List.map_nil]); first | done | rfl | (simp only [List.length_drop, List.length_take]; rfl)) ?_; (with_reducible refine (tillrolllaw01_wakes.calls k  true _ A5.out).mono ?_); rintro e w18 ⟨rfl, hb⟩; refine ⟨_, rfl, ?_⟩; have n0_ := Aside0.mk (below_step (by repeat (first | (with_reducible first | exact HB.out | apply below_alloc | apply pw_below_drewN | apply below_drew1) | exact HB.out)) hb); clear HB; have HB := n0_; clear n0_; (try clear hb); (try clear hb2); (try clear hk); (try clear hi)) | (go_at_call 8; (with_reducible refine (be_Put.calls a0 8 t142 _ A7.out).mono ?_); rintro e w19 ⟨rfl, hb⟩; have n0_ := Aside0.mk (below_step (by repeat (first | (with_reducible first | exact HB.out | apply below_alloc | apply pw_below_drewN | apply below_drew1) | exact HB.out)) hb); clear HB; have HB := n0_; clear n0_; (try clear hb); (try clear hb2); (try clear hk); (try clear hi)) | (go_at_call 8; (with_reducible refine (be_Put.calls a1 8 t143 _ A8.out).mono ?_); rintro e w20 ⟨rfl, hb⟩; have n0_ := Aside0.mk (below_step (by repeat (first | (with_reducible first | exact HB.out | apply below_alloc | apply pw_below_drewN | apply below_drew1) | exact HB.out)) hb); clear HB; have HB := n0_; clear n0_; (try clear hb); (try clear hb2); (try clear hk); (try clear hi)) | (go_at_call 17; (with_reducible refine (be_Wide.calls t140 (wrap64 (1 + (wrap64 (Int.tmod a2 64)))) true _ A10.out).mono ?_); rintro e w' ⟨rfl, ⟨nd, rfl⟩⟩) | (go_at_call 17; (with_reducible refine (be_Wide.calls t140 ji12 true _ A13.out).mono ?_); rintro e w' ⟨rfl, ⟨nd, rfl⟩⟩) | (go_at_call 15; (with_reducible refine (be_Sign.calls (IntKind.u64.wrap (t140)) (wrap64 (1 + (wrap64 (Int.tmod a2 64)))) t146 _ A15.out).mono ?_); rintro e w' ⟨rfl, ⟨nd, rfl⟩⟩) | (go_at_call 15; (with_reducible refine (be_Sign.calls a0 64 t147 _ A17.out).mono ?_); rintro e w' ⟨rfl, ⟨nd, rfl⟩⟩))
            go_ret
            exact ⟨by first | rfl | (simp [errW_none, errW_some] <;> rfl) | (simp only [← hji12]; first | rfl | (simp [errW_none, errW_some] <;> rfl)) | (simp [*, errW_none, errW_some] <;> rfl), by repeat (first | (with_reducible first | exact HB.out | apply below_alloc | apply pw_below_drewN | apply below_drew1) | exact HB.out)⟩
          · rw [if_neg c16] at H
            have c16b0 : (t146 == t140) = false := beq_eq_false_iff_ne.mpr c16
            have c16b1 : (t146 != t140) = true := bne_iff_ne.mpr c16
            obtain rfl := Option.some.inj H
            go_enter Try.func6, Try.ntmps6
            go_wp2_with (first | ((with_reducible refine gate_callee (f := 15) rfl ?_); refine goesL_ (some 15) rfl rfl Try.func15 (by kernel_rfl) rfl #[.int .u64 a0, .int .i64 (wrap64 (1 + (wrap64 (Int.tmod a2 64))))] rfl (by (try simp only [List.map_toArray, List.map_cons, List.map_nil]); first | done | rfl | (simp only [List.length_drop, List.length_take]; rfl)) ?_; (with_reducible refine (be_Sign.calls a0 (wrap64 (1 + (wrap64 (Int.tmod a2 64)))) t140 _ A4.out).mono ?_); rintro e w' ⟨rfl, ⟨nd, rfl⟩⟩; refine ⟨_, rfl, ?_⟩) | ((with_reducible refine gate_callee (f := 10) rfl ?_); refine goesL_ (some 16) rfl rfl Try.func10 (by kernel_rfl) rfl #[] rfl (by (try simp only [List.map_toArray, List.map_cons, List.map_nil]); first | done | rfl | (simp only [List.length_drop, List.length_take]; rfl)) ?_; (with_reducible refine (tillrolllaw01_wakes.calls k  true _ A5.out).mono ?_); rintro e w21 ⟨rfl, hb⟩; refine ⟨_, rfl, ?_⟩; have n0_ := Aside0.mk (below_step (by repeat (first | (with_reducible first | exact HB.out | apply below_alloc | apply pw_below_drewN | apply below_drew1) | exact HB.out)) hb); clear HB; have HB := n0_; clear n0_; (try clear hb); (try clear hb2); (try clear hk); (try clear hi)) | (go_at_call 8; (with_reducible refine (be_Put.calls a0 8 t142 _ A7.out).mono ?_); rintro e w22 ⟨rfl, hb⟩; have n0_ := Aside0.mk (below_step (by repeat (first | (with_reducible first | exact HB.out | apply below_alloc | apply pw_below_drewN | apply below_drew1) | exact HB.out)) hb); clear HB; have HB := n0_; clear n0_; (try clear hb); (try clear hb2); (try clear hk); (try clear hi)) | (go_at_call 8; (with_reducible refine (be_Put.calls a1 8 t143 _ A8.out).mono ?_); rintro e w23 ⟨rfl, hb⟩; have n0_ := Aside0.mk (below_step (by repeat (first | (with_reducible first | exact HB.out | apply below_alloc | apply pw_below_drewN | apply below_drew1) | exact HB.out)) hb); clear HB; have HB := n0_; clear n0_; (try clear hb); (try clear hb2); (try clear hk); (try clear hi)) | (go_at_call 17; (with_reducible refine (be_Wide.calls t140 (wrap64 (1 + (wrap64 (Int.tmod a2 64)))) true _ A10.out).mono ?_); rintro e w' ⟨rfl, ⟨nd, rfl⟩⟩) | (go_at_call 17; (with_reducible refine (be_Wide.calls t140 ji12 true _ A13.out).mono ?_); rintro e w' ⟨rfl, ⟨nd, rfl⟩⟩) | (go_at_call 15; (with_reducible refine (be_Sign.calls (IntKind.u64.wrap (t140)) (wrap64 (1 + (wrap64 (Int.tmod a2 64)))) t146 _ A15.out).mono ?_); rintro e w' ⟨rfl, ⟨nd, rfl⟩⟩))
            go_ret
            exact ⟨by first | rfl | (simp [errW_none, errW_some] <;> rfl) | (simp only [← hji12]; first | rfl | (simp [errW_none, errW_some] <;> rfl)) | (simp [*, errW_none, errW_some] <;> rfl), by repeat (first | (with_reducible first | exact HB.out | apply below_alloc | apply pw_below_drewN | apply below_drew1) | exact HB.out)⟩
        · replace c14 := Bool.eq_false_iff.mpr c14
          subst c14
          have H1 : (some false) = some r := by rw [if_neg (show ¬ (false = true) by decide)] at H; exact H
          clear H
          have H := H1
          clear H1
          obtain rfl := Option.some.inj H
          go_enter Try.func6, Try.ntmps6
          go_wp2_with (first | ((with_reducible refine gate_callee (f := 15) rfl ?_); refine goesL_ (some 15) rfl rfl Try.func15 (by kernel_rfl) rfl #[.int .u64 a0, .int .i64 (wrap64 (1 + (wrap64 (Int.tmod a2 64))))] rfl (by (try simp only [List.map_toArray, List.map_cons, List.map_nil]); first | done | rfl | (simp only [List.length_drop, List.length_take]; rfl)) ?_; (with_reducible refine (be_Sign.calls a0 (wrap64 (1 + (wrap64 (Int.tmod a2 64)))) t140 _ A4.out).mono ?_); rintro e w' ⟨rfl, ⟨nd, rfl⟩⟩; refine ⟨_, rfl, ?_⟩) | ((with_reducible refine gate_callee (f := 10) rfl ?_); refine goesL_ (some 16) rfl rfl Try.func10 (by kernel_rfl) rfl #[] rfl (by (try simp only [List.map_toArray, List.map_cons, List.map_nil]); first | done | rfl | (simp only [List.length_drop, List.length_take]; rfl)) ?_; (with_reducible refine (tillrolllaw01_wakes.calls k  true _ A5.out).mono ?_); rintro e w24 ⟨rfl, hb⟩; refine ⟨_, rfl, ?_⟩; have n0_ := Aside0.mk (below_step (by repeat (first | (with_reducible first | exact HB.out | apply below_alloc | apply pw_below_drewN | apply below_drew1) | exact HB.out)) hb); clear HB; have HB := n0_; clear n0_; (try clear hb); (try clear hb2); (try clear hk); (try clear hi)) | (go_at_call 8; (with_reducible refine (be_Put.calls a0 8 t142 _ A7.out).mono ?_); rintro e w25 ⟨rfl, hb⟩; have n0_ := Aside0.mk (below_step (by repeat (first | (with_reducible first | exact HB.out | apply below_alloc | apply pw_below_drewN | apply below_drew1) | exact HB.out)) hb); clear HB; have HB := n0_; clear n0_; (try clear hb); (try clear hb2); (try clear hk); (try clear hi)) | (go_at_call 8; (with_reducible refine (be_Put.calls a1 8 t143 _ A8.out).mono ?_); rintro e w26 ⟨rfl, hb⟩; have n0_ := Aside0.mk (below_step (by repeat (first | (with_reducible first | exact HB.out | apply below_alloc | apply pw_below_drewN | apply below_drew1) | exact HB.out)) hb); clear HB; have HB := n0_; clear n0_; (try clear hb); (try clear hb2); (try clear hk); (try clear hi)) | (go_at_call 17; (with_reducible refine (be_Wide.calls t140 (wrap64 (1 + (wrap64 (Int.tmod a2 64)))) true _ A10.out).mono ?_); rintro e w' ⟨rfl, ⟨nd, rfl⟩⟩) | (go_at_call 17; (with_reducible refine (be_Wide.calls t140 ji12 false _ A13.out).mono ?_); rintro e w' ⟨rfl, ⟨nd, rfl⟩⟩))
          go_ret
          exact ⟨by first | rfl | (simp [errW_none, errW_some] <;> rfl) | (simp only [← hji12]; first | rfl | (simp [errW_none, errW_some] <;> rfl)) | (simp [*, errW_none, errW_some] <;> rfl), by repeat (first | (with_reducible first | exact HB.out | apply below_alloc | apply pw_below_drewN | apply below_drew1) | exact HB.out)⟩
      · replace c11 := Bool.eq_false_iff.mpr c11
        subst c11
        have H1 : (some false) = some r := by rw [if_neg (show ¬ (false = true) by decide)] at H; exact H
        clear H
        have H := H1
        clear H1
        obtain rfl := Option.some.inj H
        go_enter Try.func6, Try.ntmps6
        go_wp2_with (first | ((with_reducible refine gate_callee (f := 15) rfl ?_); refine goesL_ (some 15) rfl rfl Try.func15 (by kernel_rfl) rfl #[.int .u64 a0, .int .i64 (wrap64 (1 + (wrap64 (Int.tmod a2 64))))] rfl (by (try simp only [List.map_toArray, List.map_cons, List.map_nil]); first | done | rfl | (simp only [List.length_drop, List.length_take]; rfl)) ?_; (with_reducible refine (be_Sign.calls a0 (wrap64 (1 + (wrap64 (Int.tmod a2 64)))) t140 _ A4.out).mono ?_); rintro e w' ⟨rfl, ⟨nd, rfl⟩⟩; refine ⟨_, rfl, ?_⟩) | ((with_reducible refine gate_callee (f := 10) rfl ?_); refine goesL_ (some 16) rfl rfl Try.func10 (by kernel_rfl) rfl #[] rfl (by (try simp only [List.map_toArray, List.map_cons, List.map_nil]); first | done | rfl | (simp only [List.length_drop, List.length_take]; rfl)) ?_; (with_reducible refine (tillrolllaw01_wakes.calls k  true _ A5.out).mono ?_); rintro e w27 ⟨rfl, hb⟩; refine ⟨_, rfl, ?_⟩; have n0_ := Aside0.mk (below_step (by repeat (first | (with_reducible first | exact HB.out | apply below_alloc | apply pw_below_drewN | apply below_drew1) | exact HB.out)) hb); clear HB; have HB := n0_; clear n0_; (try clear hb); (try clear hb2); (try clear hk); (try clear hi)) | (go_at_call 8; (with_reducible refine (be_Put.calls a0 8 t142 _ A7.out).mono ?_); rintro e w28 ⟨rfl, hb⟩; have n0_ := Aside0.mk (below_step (by repeat (first | (with_reducible first | exact HB.out | apply below_alloc | apply pw_below_drewN | apply below_drew1) | exact HB.out)) hb); clear HB; have HB := n0_; clear n0_; (try clear hb); (try clear hb2); (try clear hk); (try clear hi)) | (go_at_call 8; (with_reducible refine (be_Put.calls a1 8 t143 _ A8.out).mono ?_); rintro e w29 ⟨rfl, hb⟩; have n0_ := Aside0.mk (below_step (by repeat (first | (with_reducible first | exact HB.out | apply below_alloc | apply pw_below_drewN | apply below_drew1) | exact HB.out)) hb); clear HB; have HB := n0_; clear n0_; (try clear hb); (try clear hb2); (try clear hk); (try clear hi)) | (go_at_call 17; (with_reducible refine (be_Wide.calls t140 (wrap64 (1 + (wrap64 (Int.tmod a2 64)))) false _ A10.out).mono ?_); rintro e w' ⟨rfl, ⟨nd, rfl⟩⟩))
        go_ret
        exact ⟨by first | rfl | (simp [errW_none, errW_some] <;> rfl) | (simp [*, errW_none, errW_some] <;> rfl), by repeat (first | (with_reducible first | exact HB.out | apply below_alloc | apply pw_below_drewN | apply below_drew1) | exact HB.out)⟩
    · rw [if_neg c9] at H
      have c9b0 : ((Op.bytesLess t142.toList t143.toList) == (decide (a0 < a1))) = false := by simpa using c9
      (try (have c9b1 : decide ((Op.bytesLess t142.toList t143.toList) = (decide (a0 < a1))) = false := by simpa using c9))
      (try (have c9b2 : ((Op.bytesLess t142.toList t143.toList) == (decide (a0 < a1))) = false := by simpa using c9))
      (try (have c9b3 : ¬ ((Op.bytesLess t142.toList t143.toList) = (decide (a0 < a1))) := by simpa using c9))
      clear c9
      obtain rfl := Option.some.inj H
      go_enter Try.func6, Try.ntmps6
      go_wp2_with (first | ((with_reducible refine gate_callee (f := 15) rfl ?_); refine goesL_ (some 15) rfl rfl Try.func15 (by kernel_rfl) rfl #[.int .u64 a0, .int .i64 (wrap64 (1 + (wrap64 (Int.tmod a2 64))))] rfl (by (try simp only [List.map_toArray, List.map_cons, List.map_nil]); first | done | rfl | (simp only [List.length_drop, List.length_take]; rfl)) ?_; (with_reducible refine (be_Sign.calls a0 (wrap64 (1 + (wrap64 (Int.tmod a2 64)))) t140 _ A4.out).mono ?_); rintro e w' ⟨rfl, ⟨nd, rfl⟩⟩; refine ⟨_, rfl, ?_⟩) | ((with_reducible refine gate_callee (f := 10) rfl ?_); refine goesL_ (some 16) rfl rfl Try.func10 (by kernel_rfl) rfl #[] rfl (by (try simp only [List.map_toArray, List.map_cons, List.map_nil]); first | done | rfl | (simp only [List.length_drop, List.length_take]; rfl)) ?_; (with_reducible refine (tillrolllaw01_wakes.calls k  true _ A5.out).mono ?_); rintro e w30 ⟨rfl, hb⟩; refine ⟨_, rfl, ?_⟩; have n0_ := Aside0.mk (below_step (by repeat (first | (with_reducible first | exact HB.out | apply below_alloc | apply pw_below_drewN | apply below_drew1) | exact HB.out)) hb); clear HB; have HB := n0_; clear n0_; (try clear hb); (try clear hb2); (try clear hk); (try clear hi)) | (go_at_call 8; (with_reducible refine (be_Put.calls a0 8 t142 _ A7.out).mono ?_); rintro e w31 ⟨rfl, hb⟩; have n0_ := Aside0.mk (below_step (by repeat (first | (with_reducible first | exact HB.out | apply below_alloc | apply pw_below_drewN | apply below_drew1) | exact HB.out)) hb); clear HB; have HB := n0_; clear n0_; (try clear hb); (try clear hb2); (try clear hk); (try clear hi)) | (go_at_call 8; (with_reducible refine (be_Put.calls a1 8 t143 _ A8.out).mono ?_); rintro e w32 ⟨rfl, hb⟩; have n0_ := Aside0.mk (below_step (by repeat (first | (with_reducible first | exact HB.out | apply below_alloc | apply pw_below_drewN | apply below_drew1) | exact HB.out)) hb); clear HB; have HB := n0_; clear n0_; (try clear hb); (try clear hb2); (try clear hk); (try clear hi)))
      go_ret
      exact ⟨by first | rfl | (simp [errW_none, errW_some] <;> rfl) | (simp [*, errW_none, errW_some] <;> rfl), by repeat (first | (with_reducible first | exact HB.out | apply below_alloc | apply pw_below_drewN | apply below_drew1) | exact HB.out)⟩
  · replace c6 := Bool.eq_false_iff.mpr c6
    subst c6
    have H1 : (some false) = some r := by rw [if_neg (show ¬ (false = true) by decide)] at H; exact H
    clear H
    have H := H1
    clear H1
    obtain rfl := Option.some.inj H
    go_enter Try.func6, Try.ntmps6
    go_wp2_with (first | ((with_reducible refine gate_callee (f := 15) rfl ?_); refine goesL_ (some 15) rfl rfl Try.func15 (by kernel_rfl) rfl #[.int .u64 a0, .int .i64 (wrap64 (1 + (wrap64 (Int.tmod a2 64))))] rfl (by (try simp only [List.map_toArray, List.map_cons, List.map_nil]); first | done | rfl | (simp only [List.length_drop, List.length_take]; rfl)) ?_; (with_reducible refine (be_Sign.calls a0 (wrap64 (1 + (wrap64 (Int.tmod a2 64)))) t140 _ A4.out).mono ?_); rintro e w' ⟨rfl, ⟨nd, rfl⟩⟩; refine ⟨_, rfl, ?_⟩) | ((with_reducible refine gate_callee (f := 10) rfl ?_); refine goesL_ (some 16) rfl rfl Try.func10 (by kernel_rfl) rfl #[] rfl (by (try simp only [List.map_toArray, List.map_cons, List.map_nil]); first | done | rfl | (simp only [List.length_drop, List.length_take]; rfl)) ?_; (with_reducible refine (tillrolllaw01_wakes.calls k  false _ A5.out).mono ?_); rintro e w33 ⟨rfl, hb⟩; refine ⟨_, rfl, ?_⟩; have n0_ := Aside0.mk (below_step (by repeat (first | (with_reducible first | exact HB.out | apply below_alloc | apply pw_below_drewN | apply below_drew1) | exact HB.out)) hb); clear HB; have HB := n0_; clear n0_; (try clear hb); (try clear hb2); (try clear hk); (try clear hi)))
    go_ret
    exact ⟨by first | rfl | (simp [errW_none, errW_some] <;> rfl) | (simp [*, errW_none, errW_some] <;> rfl), by repeat (first | (with_reducible first | exact HB.out | apply below_alloc | apply pw_below_drewN | apply below_drew1) | exact HB.out)⟩

/-- THE ONE PURE STATEMENT of tillrolllaw01_BeOrder: yours. -/
def tillrolllaw01_BeOrder.Pure : Prop := ∀ (a0 : Int) (a1 : Int) (a2 : Int), (Lit.int .u64 a0).wf = true → (Lit.int .u64 a1).wf = true → (Lit.int .u8 a2).wf = true → ∃ k, tillrolllaw01_BeOrder.f k a0 a1 a2 = some true
theorem tillrolllaw01_BeOrder.walk (P : tillrolllaw01_BeOrder.Pure) (a0 : Int) (a1 : Int) (a2 : Int) (w : World) (w0 : (Lit.int .u64 a0).wf = true) (w1 : (Lit.int .u64 a1).wf = true) (w2 : (Lit.int .u8 a2).wf = true) :
    Calls Try.prog 6 #[.int .u64 a0, .int .u64 a1, .int .u8 a2] w fun e w' => e = .returned (.bool true) ∧ Below w.heap.size w w' := by
  obtain ⟨k, h⟩ := P a0 a1 a2 w0 w1 w2
  refine (tillrolllaw01_BeOrder.calls k a0 a1 a2 true w h).mono ?_
  rintro e w' ⟨rfl, hd⟩
  exact ⟨rfl, hd⟩

end Go.Proofs.Ytogaopfkmmnkiaa.P
