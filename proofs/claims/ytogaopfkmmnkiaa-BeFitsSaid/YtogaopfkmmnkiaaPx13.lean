-- Made by a program of this session (xprint) out of the translation. Not trusted: Lean checks it.
import Derived.Test.YtogaopfkmmnkiaaPx0
import Derived.Test.YtogaopfkmmnkiaaPx11
namespace Go.Proofs.Ytogaopfkmmnkiaa.P
open Go.RowKit Go.Proofs.YtogaopfkmmnkiaaW.PrintWords Go.Proofs.YtogaopfkmmnkiaaW.PrintLast Go.Proofs.YtogaopfkmmnkiaaW.PrintMore
attribute [local go_sem] max2_int min2_int max_two min_two max_three min_three max_four min_four   -- for this text's walks alone
set_option linter.unusedVariables false
set_option linter.unusedSimpArgs false

/-! ### tillrollref01_Sign: function 16 -/
def tillrollref01_Sign.j0 : Nat → Int → Int → Bool → Option (Int)
  | 0, _, _, _ => none
  | k + 1, x0, x1, x13 => if x13 = true then (some 0) else (if x1 = 64 then (if x0 < 9223372036854775808 then (some (wrap64 (x0))) else (some (wrap64 ((wrap64 ((wrap64 (IntKind.u64.wrap (x0 - 9223372036854775808))) - 9223372036854775807)) - 1)))) else ((tillrollref01_power.f k x1).bind fun t120 => ((tillrollref01_power.f k (wrap64 (x1 - 1))).bind fun t121 => (if t120 = 0 then (none) else (if (Int.tmod x0 t120) < t121 then (some (wrap64 (Int.tmod x0 t120))) else (some (wrap64 ((wrap64 (IntKind.u64.wrap ((Int.tmod x0 t120) - t121))) - (wrap64 (t121))))))))))
def tillrollref01_Sign.f (k : Nat) (a0 : Int) (a1 : Int) : Option (Int) := if a1 < 1 then (tillrollref01_Sign.j0 k a0 a1 true) else (tillrollref01_Sign.j0 k a0 a1 (decide (a1 > 64)))
theorem tillrollref01_Sign.mono_l : ∀ k, (∀ y0 y1 y2, LeO (tillrollref01_Sign.j0 k y0 y1 y2) (tillrollref01_Sign.j0 (k + 1) y0 y1 y2))
  | 0 => fun _ _ _ r h => by simp [tillrollref01_Sign.j0] at h
  | k + 1 => by
    have ih0 := tillrollref01_Sign.mono_l k
    · intro y0 y1 y2
      unfold tillrollref01_Sign.j0
      repeat' first
      | (with_reducible exact ih0 _ _ _)
      | (with_reducible exact tillrollref01_power.mono _ _)
      | (with_reducible exact LeO.refl _)
      | (with_reducible exact LeO.none _)
      | (with_reducible refine LeO.ite ?_ ?_)
      | (with_reducible refine LeO.bind ?_ (fun _ => ?_))
      | exact ih0 _ _ _
      | exact tillrollref01_power.mono _ _
      | exact LeO.none _
      | refine LeO.ite ?_ ?_
      | refine LeO.bind ?_ (fun _ => ?_)
theorem tillrollref01_Sign.mono : ∀ a0 a1 k, LeO (tillrollref01_Sign.f k a0 a1) (tillrollref01_Sign.f (k + 1) a0 a1) := by
  intro a0 a1 k
  have ih0 := tillrollref01_Sign.mono_l k
  unfold tillrollref01_Sign.f
  repeat' first
      | (with_reducible exact ih0 _ _ _)
      | (with_reducible exact tillrollref01_power.mono _ _)
      | (with_reducible exact LeO.refl _)
      | (with_reducible exact LeO.none _)
      | (with_reducible refine LeO.ite ?_ ?_)
      | (with_reducible refine LeO.bind ?_ (fun _ => ?_))
      | exact ih0 _ _ _
      | exact tillrollref01_power.mono _ _
      | exact LeO.none _
      | refine LeO.ite ?_ ?_
      | refine LeO.bind ?_ (fun _ => ?_)
set_option maxHeartbeats 8000000 in
set_option maxRecDepth 100000 in
theorem tillrollref01_Sign.calls (k : Nat) (a0 : Int) (a1 : Int) (r : Int) (w : World) (h : tillrollref01_Sign.f k a0 a1 = some r) :
    Calls Try.prog 16 #[.int .u64 a0, .int .i64 a1] w fun e w' => e = .returned (.int .i64 r) ∧ Drawn0 w w' := by
  have H : (if a1 < 1 then (tillrollref01_Sign.j0 k a0 a1 true) else (tillrollref01_Sign.j0 k a0 a1 (decide (a1 > 64)))) = some r := h
  clear h
  have HC3 := Aside0.mk H
  clear H
  go_enter Try.func16, Try.ntmps16
  go_upto_region 1 with (fail)
  go_cut [13] (fun v13 wc => ∃ (kq : Nat) (x13_2 : Bool), v13 = .bool x13_2 ∧ Aside0 (tillrollref01_Sign.j0 kq a0 a1 x13_2 = some r) ∧ Aside0 (kq ≤ k) ∧ Drawn0 w wc)
  case first =>
    have H := HC3.out
    clear HC3
    by_cases c4 : a1 < 1
    · rw [if_pos c4] at H
      have c4b0 : decide (a1 < 1) = true := decide_eq_true c4
      clear c4
      (first | rw [c4b0] | (simp only [i64_w, i32_w]; rw [c4b0]) | skip)
      have H' := Aside0.mk H
      clear H
      go_wp2
      go_meet
      case rel => exact ⟨_, (true), (by first | rfl | (simp; done) | (simp [*]; done)), H', ⟨by first | omega | exact Nat.le_refl _⟩, by repeat (first | exact Drawn0.refl _ | apply Drawn0.step)⟩
    · rw [if_neg c4] at H
      have c4b0 : decide (a1 < 1) = false := decide_eq_false c4
      clear c4
      (first | rw [c4b0] | (simp only [i64_w, i32_w]; rw [c4b0]) | skip)
      have H' := Aside0.mk H
      clear H
      go_wp2
      go_meet
      case rel => exact ⟨_, (decide (a1 > 64)), (by first | rfl | (simp; done) | (simp [*]; done)), H', ⟨by first | omega | exact Nat.le_refl _⟩, by repeat (first | exact Drawn0.refl _ | apply Drawn0.step)⟩
  case rest =>
    clear HC3
    try clear c1
    try clear p2
    try clear c4
    try clear c4b0
    obtain ⟨kq, x13_2, rfl, HA, HJ2, ⟨mc2, rfl⟩⟩ := hcut
    cases kq with
    | zero => exact absurd HA.out (by simp [tillrollref01_Sign.j0])
    | succ kj2 =>
      have H := HA.out
      clear HA
      simp only [tillrollref01_Sign.j0] at H
      by_cases c5 : x13_2 = true
      · subst c5
        have H1 : (some 0) = some r := by rw [if_pos rfl] at H; exact H
        clear H
        have H := H1
        clear H1
        obtain rfl := Option.some.inj H
        go_wp2
        go_ret
        exact ⟨by first | rfl | (simp; done) | (simp [*]; done), by repeat (first | exact Drawn0.refl _ | apply Drawn0.step)⟩
      · replace c5 := Bool.eq_false_iff.mpr c5
        subst c5
        have H1 : (if a1 = 64 then (if a0 < 9223372036854775808 then (some (wrap64 (a0))) else (some (wrap64 ((wrap64 ((wrap64 (IntKind.u64.wrap (a0 - 9223372036854775808))) - 9223372036854775807)) - 1)))) else ((tillrollref01_power.f kj2 a1).bind fun t120 => ((tillrollref01_power.f kj2 (wrap64 (a1 - 1))).bind fun t121 => (if t120 = 0 then (none) else (if (Int.tmod a0 t120) < t121 then (some (wrap64 (Int.tmod a0 t120))) else (some (wrap64 ((wrap64 (IntKind.u64.wrap ((Int.tmod a0 t120) - t121))) - (wrap64 (t121)))))))))) = some r := by rw [if_neg (show ¬ (false = true) by decide)] at H; exact H
        clear H
        have H := H1
        clear H1
        by_cases c6 : a1 = 64
        · rw [if_pos c6] at H
          have c6b0 : (a1 == 64) = true := beq_iff_eq.mpr c6
          have c6b1 : (a1 != 64) = false := bne_eq_false_iff_eq.mpr c6
          clear c6
          by_cases c7 : a0 < 9223372036854775808
          · rw [if_pos c7] at H
            have c7b0 : decide (a0 < 9223372036854775808) = true := decide_eq_true c7
            clear c7
            obtain rfl := Option.some.inj H
            go_wp2
            go_ret
            exact ⟨by first | rfl | (simp; done) | (simp [*]; done), by repeat (first | exact Drawn0.refl _ | apply Drawn0.step)⟩
          · rw [if_neg c7] at H
            have c7b0 : decide (a0 < 9223372036854775808) = false := decide_eq_false c7
            clear c7
            obtain rfl := Option.some.inj H
            go_wp2
            go_ret
            exact ⟨by first | rfl | (simp; done) | (simp [*]; done), by repeat (first | exact Drawn0.refl _ | apply Drawn0.step)⟩
        · rw [if_neg c6] at H
          have c6b0 : (a1 == 64) = false := beq_eq_false_iff_ne.mpr c6
          have c6b1 : (a1 != 64) = true := bne_iff_ne.mpr c6
          replace H := Option.bind_eq_some_iff.mp H
          obtain ⟨t120, A80, H⟩ := H
          replace H : ((tillrollref01_power.f kj2 (wrap64 (a1 - 1))).bind fun t121 => (if t120 = 0 then (none) else (if (Int.tmod a0 t120) < t121 then (some (wrap64 (Int.tmod a0 t120))) else (some (wrap64 ((wrap64 (IntKind.u64.wrap ((Int.tmod a0 t120) - t121))) - (wrap64 (t121)))))))) = some r := H
          have A8 := Aside0.mk A80
          clear A80
          replace H := Option.bind_eq_some_iff.mp H
          obtain ⟨t121, A90, H⟩ := H
          replace H : (if t120 = 0 then (none) else (if (Int.tmod a0 t120) < t121 then (some (wrap64 (Int.tmod a0 t120))) else (some (wrap64 ((wrap64 (IntKind.u64.wrap ((Int.tmod a0 t120) - t121))) - (wrap64 (t121))))))) = some r := H
          have A9 := Aside0.mk A90
          clear A90
          by_cases c10 : t120 = 0
          · rw [if_pos c10] at H
            exact absurd H (by simp)
          · rw [if_neg c10] at H
            have c10b0 : (t120 == 0) = false := beq_eq_false_iff_ne.mpr c10
            have c10b1 : (t120 != 0) = true := bne_iff_ne.mpr c10
            by_cases c11 : (Int.tmod a0 t120) < t121
            · rw [if_pos c11] at H
              have c11b0 : decide ((Int.tmod a0 t120) < t121) = true := decide_eq_true c11
              clear c11
              obtain rfl := Option.some.inj H
              go_wp2_with (first | ((with_reducible refine gate_callee (f := 20) rfl ?_); refine goesL_ (some 26) rfl rfl Try.func20 (by kernel_rfl) rfl #[.int .i64 a1] rfl (by (try simp only [List.map_toArray, List.map_cons, List.map_nil]); first | done | rfl | (simp only [List.length_drop, List.length_take]; rfl)) ?_; (with_reducible refine (tillrollref01_power.calls kj2 a1 t120 _ A8.out).mono ?_); rintro e w' ⟨rfl, ⟨nd, rfl⟩⟩; refine ⟨_, rfl, ?_⟩) | ((with_reducible refine gate_callee (f := 20) rfl ?_); refine goesL_ (some 29) rfl rfl Try.func20 (by kernel_rfl) rfl #[.int .i64 (wrap64 (a1 - 1))] rfl (by (try simp only [List.map_toArray, List.map_cons, List.map_nil]); first | done | rfl | (simp only [List.length_drop, List.length_take]; rfl)) ?_; (with_reducible refine (tillrollref01_power.calls kj2 (wrap64 (a1 - 1)) t121 _ A9.out).mono ?_); rintro e w' ⟨rfl, ⟨nd, rfl⟩⟩; refine ⟨_, rfl, ?_⟩))
              go_ret
              exact ⟨by first | rfl | (simp; done) | (simp [*]; done), by repeat (first | exact Drawn0.refl _ | apply Drawn0.step)⟩
            · rw [if_neg c11] at H
              have c11b0 : decide ((Int.tmod a0 t120) < t121) = false := decide_eq_false c11
              clear c11
              obtain rfl := Option.some.inj H
              go_wp2_with (first | ((with_reducible refine gate_callee (f := 20) rfl ?_); refine goesL_ (some 26) rfl rfl Try.func20 (by kernel_rfl) rfl #[.int .i64 a1] rfl (by (try simp only [List.map_toArray, List.map_cons, List.map_nil]); first | done | rfl | (simp only [List.length_drop, List.length_take]; rfl)) ?_; (with_reducible refine (tillrollref01_power.calls kj2 a1 t120 _ A8.out).mono ?_); rintro e w' ⟨rfl, ⟨nd, rfl⟩⟩; refine ⟨_, rfl, ?_⟩) | ((with_reducible refine gate_callee (f := 20) rfl ?_); refine goesL_ (some 29) rfl rfl Try.func20 (by kernel_rfl) rfl #[.int .i64 (wrap64 (a1 - 1))] rfl (by (try simp only [List.map_toArray, List.map_cons, List.map_nil]); first | done | rfl | (simp only [List.length_drop, List.length_take]; rfl)) ?_; (with_reducible refine (tillrollref01_power.calls kj2 (wrap64 (a1 - 1)) t121 _ A9.out).mono ?_); rintro e w' ⟨rfl, ⟨nd, rfl⟩⟩; refine ⟨_, rfl, ?_⟩))
              go_ret
              exact ⟨by first | rfl | (simp; done) | (simp [*]; done), by repeat (first | exact Drawn0.refl _ | apply Drawn0.step)⟩

end Go.Proofs.Ytogaopfkmmnkiaa.P
