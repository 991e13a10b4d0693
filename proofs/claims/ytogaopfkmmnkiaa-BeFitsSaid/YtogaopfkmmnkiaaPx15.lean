-- Made by a program of this session (xprint) out of the translation. Not trusted: Lean checks it.
import Derived.Test.YtogaopfkmmnkiaaPx0
import Derived.Test.YtogaopfkmmnkiaaPx5
import Derived.Test.YtogaopfkmmnkiaaPx6
import Derived.Test.YtogaopfkmmnkiaaPx7
import Derived.Test.YtogaopfkmmnkiaaPx8
import Derived.Test.YtogaopfkmmnkiaaPx12
import Derived.Test.YtogaopfkmmnkiaaPx13
import Derived.Test.YtogaopfkmmnkiaaPx14
namespace Go.Proofs.Ytogaopfkmmnkiaa.P
open Go.RowKit Go.Proofs.YtogaopfkmmnkiaaW.PrintWords Go.Proofs.YtogaopfkmmnkiaaW.PrintLast Go.Proofs.YtogaopfkmmnkiaaW.PrintMore
attribute [local go_sem] max2_int min2_int max_two min_two max_three min_three max_four min_four   -- for this text's walks alone
set_option linter.unusedVariables false
set_option linter.unusedSimpArgs false

/-! ### tillrolllaw01_BeFits: function 4 -/
def tillrolllaw01_BeFits.l0 : Nat → Int → List Int → Int → Int → Option (Bool)
  | 0, _, _, _, _ => none
  | k + 1, x0, x11, x12, x13 => if x13 < x12 then (if 0 ≤ x13 then (if x13 < (x11.length : Int) then ((be_Fits.f x0 (rd x11 x13)).bind fun t128 => ((tillrollref01_Fits.f k x0 (rd x11 x13)).bind fun t129 => (if (t128 != t129) = true then (some false) else ((be_Sign.f x0 (rd x11 x13)).bind fun t130 => ((tillrollref01_Sign.f k x0 (rd x11 x13)).bind fun t131 => (if t130 = t131 then ((be_Wide.f (wrap64 (x0)) (rd x11 x13)).bind fun t132 => ((tillrollref01_Wide.f k (wrap64 (x0)) (rd x11 x13)).bind fun t133 => (if (t132 != t133) = true then (some false) else (tillrolllaw01_BeFits.l0 k x0 x11 x12 (wrap64 (x13 + 1)))))) else (some false))))))) else (none)) else (none)) else ((tillrolllaw01_wakes.f k).bind fun t126 => (some t126))
def tillrolllaw01_BeFits.f (k : Nat) (a0 : Int) (a1 : Int) : Option (Bool) := (some (([a1, (mx 0 a1) % 70] : List Int) : List Int)).bind fun y123 => (tillrolllaw01_BeFits.l0 k a0 y123 (y123.length : Int) 0)
theorem tillrolllaw01_BeFits.mono_l : ∀ k, (∀ y0 y1 y2 y3, LeO (tillrolllaw01_BeFits.l0 k y0 y1 y2 y3) (tillrolllaw01_BeFits.l0 (k + 1) y0 y1 y2 y3))
  | 0 => fun _ _ _ _ r h => by simp [tillrolllaw01_BeFits.l0] at h
  | k + 1 => by
    have ih0 := tillrolllaw01_BeFits.mono_l k
    · intro y0 y1 y2 y3
      unfold tillrolllaw01_BeFits.l0
      repeat' first
      | (with_reducible exact ih0 _ _ _ _)
      | (with_reducible exact tillrolllaw01_wakes.mono _)
      | (with_reducible exact tillrollref01_Fits.mono _ _ _)
      | (with_reducible exact tillrollref01_Sign.mono _ _ _)
      | (with_reducible exact tillrollref01_Wide.mono _ _ _)
      | (with_reducible exact LeO.refl _)
      | (with_reducible exact LeO.none _)
      | (with_reducible refine LeO.ite ?_ ?_)
      | (with_reducible refine LeO.bind ?_ (fun _ => ?_))
      | exact ih0 _ _ _ _
      | exact tillrolllaw01_wakes.mono _
      | exact tillrollref01_Fits.mono _ _ _
      | exact tillrollref01_Sign.mono _ _ _
      | exact tillrollref01_Wide.mono _ _ _
      | exact LeO.none _
      | refine LeO.ite ?_ ?_
      | refine LeO.bind ?_ (fun _ => ?_)
theorem tillrolllaw01_BeFits.mono : ∀ a0 a1 k, LeO (tillrolllaw01_BeFits.f k a0 a1) (tillrolllaw01_BeFits.f (k + 1) a0 a1) := by
  intro a0 a1 k
  have ih0 := tillrolllaw01_BeFits.mono_l k
  unfold tillrolllaw01_BeFits.f
  repeat' first
      | (with_reducible exact ih0 _ _ _ _)
      | (with_reducible exact tillrolllaw01_wakes.mono _)
      | (with_reducible exact tillrollref01_Fits.mono _ _ _)
      | (with_reducible exact tillrollref01_Sign.mono _ _ _)
      | (with_reducible exact tillrollref01_Wide.mono _ _ _)
      | (with_reducible exact LeO.refl _)
      | (with_reducible exact LeO.none _)
      | (with_reducible refine LeO.ite ?_ ?_)
      | (with_reducible refine LeO.bind ?_ (fun _ => ?_))
      | exact ih0 _ _ _ _
      | exact tillrolllaw01_wakes.mono _
      | exact tillrollref01_Fits.mono _ _ _
      | exact tillrollref01_Sign.mono _ _ _
      | exact tillrollref01_Wide.mono _ _ _
      | exact LeO.none _
      | refine LeO.ite ?_ ?_
      | refine LeO.bind ?_ (fun _ => ?_)
set_option maxHeartbeats 8000000 in
set_option maxRecDepth 100000 in
theorem tillrolllaw01_BeFits.calls (k : Nat) (a0 : Int) (a1 : Int) (r : Bool) (w : World) (h : tillrolllaw01_BeFits.f k a0 a1 = some r) :
    Calls Try.prog 4 #[.int .u64 a0, .int .i64 a1] w fun e w' => e = .returned (.bool r) ∧ Below w.heap.size w w' := by
  have HB := Aside0.mk (Below.refl w.heap.size w)
  have H : ((some (([a1, (mx 0 a1) % 70] : List Int) : List Int)).bind fun y123 => (tillrolllaw01_BeFits.l0 k a0 y123 (y123.length : Int) 0)) = some r := h
  clear h
  obtain ⟨ji3, hji3⟩ : ∃ j_ : Int, (mx 0 a1) = j_ := ⟨_, rfl⟩
  replace H : ((some (([a1, (ji3) % 70] : List Int) : List Int)).bind fun y123 => (tillrolllaw01_BeFits.l0 k a0 y123 (y123.length : Int) 0)) = some r := by first | (rw [hji3] at H; exact H) | (simp only [hji3] at H ⊢; exact H)
  (try (have hji3l : 0 ≤ ji3 := by (rw [← hji3]; unfold mx; (repeat' split) <;> omega)))
  (try (have hji3m : 0 ≤ ji3 := by omega))
  have hji3_ : (if 0 < a1 then a1 else 0) = ji3 := hji3
  obtain ⟨y123, hy123⟩ : ∃ y_ : List Int, y_ = (([a1, (ji3) % 70] : List Int)) := ⟨_, rfl⟩
  replace H : (tillrolllaw01_BeFits.l0 k a0 y123 (y123.length : Int) 0) = some r := by first | (rw [hy123]; with_reducible exact H) | (have H2_ := (Option.bind_some _ _).symm.trans H; rw [hy123]; with_reducible exact H2_) | (have H2_ := (Option.bind_some _ _).symm.trans H; with_reducible exact H2_) | with_reducible exact H | (rw [hy123]; exact H) | exact H
  have Ny123 := Aside0.mk hy123
  clear hy123
  have H' := Aside0.mk H
  clear H
  go_enter Try.func4, Try.ntmps4
  go_wp2_with (first | ((with_reducible refine gate_dst (N := 11) rfl ?_); refine Kd.R_lit (Kd.int .i64) _ 3 ?hg (N := 11) ?hd (xs := ([a1, (ji3) % 70] : List Int)) (inner := [.int .i64 a1, .int .i64 ((ji3) % 70)]) (ok := fun _ => True) (okp := fun _ => True) ?hr ?hp (fun _ hk => hk) trivial (Below.refl _ _) (Nat.le_refl _) (by simp) ?_; (case hd => rfl); (case hg => rfl); (case hr => first | (go_simp; done) | (go_simp; rfl)); (case hp => exact (Reps.one (show Kd.M (Kd.int .i64) _ _ _ a1 [.int .i64 a1] from rfl) (Reps.one (show Kd.M (Kd.int .i64) _ _ _ ((ji3) % 70) [.int .i64 ((ji3) % 70)] from rfl) (Reps.none _ _)))); intro v124 w4 ho5 hb hg_ hnew_; clear hg_ hnew_; (first | rw [← Ny123.out] at ho5 | (simp only [Int.reduceToNat] at ho5; rw [← Ny123.out] at ho5)); have n0_ := Aside0.mk (Kd.R_lower ho5 (below_size (by repeat (first | (with_reducible first | exact HB.out | apply below_alloc | apply pw_below_drewN | apply below_drew1) | exact HB.out)))); have n1_ := Aside0.mk (below_step (by repeat (first | (with_reducible first | exact HB.out | apply below_alloc | apply pw_below_drewN | apply below_drew1) | exact HB.out)) hb); clear HB; have HO125 := n0_; have HB := n1_; clear n0_ n1_; clear hb ho5; obtain ⟨Ao6, co6, eo6⟩ := Kd.R_slice HO125.out; subst eo6))
  go_loopg [13] k (fun kq v13 w' => ∃ (x13_1 : Int), v13 = .int .i64 x13_1 ∧ Aside0 (tillrolllaw01_BeFits.l0 kq a0 y123 (y123.length : Int) x13_1 = some r) ∧ Aside0 (kq ≤ k) ∧ Aside0 (Kd.R (Kd.int .i64) 3 w' w.heap.size (fun _ => True) (.slice Ao6 y123.length co6) y123) ∧ Aside0 (Below w.heap.size w w'))
  case atStart => exact ⟨(0), (by first | rfl | (simp; done) | (simp [*]; done)), H', ⟨Nat.le_refl _⟩, ⟨by (with_reducible repeat (first | apply Kd.R_alloc | apply Kd.R_drewN | apply Kd.R_drew)); exact HO125.out⟩, ⟨by repeat (first | (with_reducible first | exact HB.out | apply below_alloc | apply pw_below_drewN | apply below_drew1) | exact HB.out)⟩⟩
  case round =>
    clear H'
    try clear p2
    try clear c4
    obtain ⟨x13_1, rfl, HA, HK1, HO_11, HB⟩ := hrel
    cases gk with
    | zero => exact absurd HA.out (by simp [tillrolllaw01_BeFits.l0])
    | succ k1 =>
      have H := HA.out
      clear HA
      simp only [tillrolllaw01_BeFits.l0] at H
      by_cases c7 : x13_1 < (y123.length : Int)
      · rw [if_pos c7] at H
        have c7b0 : decide (x13_1 < (y123.length : Int)) = true := decide_eq_true c7
        clear c7
        by_cases c8 : 0 ≤ x13_1
        · rw [if_pos c8] at H
          have c8b0 : decide (0 ≤ x13_1) = true := decide_eq_true c8
          clear c8
          by_cases c9 : x13_1 < (y123.length : Int)
          · rw [if_pos c9] at H
            have c9b0 : decide (x13_1 < (y123.length : Int)) = true := decide_eq_true c9
            clear c9
            replace H := Option.bind_eq_some_iff.mp H
            obtain ⟨t128, A100, H⟩ := H
            replace H : ((tillrollref01_Fits.f k1 a0 (rd y123 x13_1)).bind fun t129 => (if (t128 != t129) = true then (some false) else ((be_Sign.f a0 (rd y123 x13_1)).bind fun t130 => ((tillrollref01_Sign.f k1 a0 (rd y123 x13_1)).bind fun t131 => (if t130 = t131 then ((be_Wide.f (wrap64 (a0)) (rd y123 x13_1)).bind fun t132 => ((tillrollref01_Wide.f k1 (wrap64 (a0)) (rd y123 x13_1)).bind fun t133 => (if (t132 != t133) = true then (some false) else (tillrolllaw01_BeFits.l0 k1 a0 y123 (y123.length : Int) (wrap64 (x13_1 + 1)))))) else (some false)))))) = some r := H
            have A10 := Aside0.mk A100
            clear A100
            replace H := Option.bind_eq_some_iff.mp H
            obtain ⟨t129, A110, H⟩ := H
            replace H : (if (t128 != t129) = true then (some false) else ((be_Sign.f a0 (rd y123 x13_1)).bind fun t130 => ((tillrollref01_Sign.f k1 a0 (rd y123 x13_1)).bind fun t131 => (if t130 = t131 then ((be_Wide.f (wrap64 (a0)) (rd y123 x13_1)).bind fun t132 => ((tillrollref01_Wide.f k1 (wrap64 (a0)) (rd y123 x13_1)).bind fun t133 => (if (t132 != t133) = true then (some false) else (tillrolllaw01_BeFits.l0 k1 a0 y123 (y123.length : Int) (wrap64 (x13_1 + 1)))))) else (some false))))) = some r := H
            have A11 := Aside0.mk A110
            clear A110
            by_cases c12 : (t128 != t129) = true
            · rw [if_pos c12] at H
              have c12b0 : (t128 != t129) = true := c12
              (try (have c12b1 : decide (t128 = t129) = false := by simpa using c12))
              (try (have c12b2 : (t128 == t129) = false := by simpa using c12))
              (try (have c12b3 : ¬ (t128 = t129) := by simpa using c12))
              clear c12
              obtain rfl := Option.some.inj H
              have p127 : 0 ≤ (x13_1 : Int) := of_decide_eq_true (by first | (with_reducible assumption) | assumption)
              have q127 : x13_1 < (y123.length : Int) := of_decide_eq_true (by first | (with_reducible assumption) | assumption)
              obtain ⟨ad127, e127, hx127_0⟩ := Kd.at_int (Kd.R_reads' HO_11.out).2.2 x13_1 p127 q127
              cases e127
              replace p127 := eq_true p127
              replace q127 := eq_true q127
              go_wp2_with (first | ((with_reducible refine gate_callee (f := 13) rfl ?_); refine goesL_ (some 19) rfl rfl Try.func13 (by kernel_rfl) rfl #[.int .u64 a0, .int .i64 (rd y123 x13_1)] rfl (by (try simp only [List.map_toArray, List.map_cons, List.map_nil]); first | done | rfl | (simp only [List.length_drop, List.length_take]; rfl)) ?_; (with_reducible refine (be_Fits.calls a0 (rd y123 x13_1) t128 _ A10.out).mono ?_); rintro e w' ⟨rfl, ⟨nd, rfl⟩⟩; refine ⟨_, rfl, ?_⟩) | ((with_reducible refine gate_callee (f := 14) rfl ?_); refine goesL_ (some 22) rfl rfl Try.func14 (by kernel_rfl) rfl #[.int .u64 a0, .int .i64 (rd y123 x13_1)] rfl (by (try simp only [List.map_toArray, List.map_cons, List.map_nil]); first | done | rfl | (simp only [List.length_drop, List.length_take]; rfl)) ?_; (with_reducible refine (tillrollref01_Fits.calls k1 a0 (rd y123 x13_1) t129 _ A11.out).mono ?_); rintro e w' ⟨rfl, ⟨nd, rfl⟩⟩; refine ⟨_, rfl, ?_⟩))
              go_ret
              exact ⟨by first | rfl | (simp [errW_none, errW_some] <;> rfl) | (simp only [← hji3]; first | rfl | (simp [errW_none, errW_some] <;> rfl)) | (simp [*, errW_none, errW_some] <;> rfl), by repeat (first | (with_reducible first | exact HB.out | apply below_alloc | apply pw_below_drewN | apply below_drew1) | exact HB.out)⟩
            · rw [if_neg c12] at H
              have c12b0 : (t128 != t129) = false := by simpa using c12
              (try (have c12b1 : decide (t128 = t129) = true := by simpa using c12))
              (try (have c12b2 : (t128 == t129) = true := by simpa using c12))
              clear c12
              replace H := Option.bind_eq_some_iff.mp H
              obtain ⟨t130, A130, H⟩ := H
              replace H : ((tillrollref01_Sign.f k1 a0 (rd y123 x13_1)).bind fun t131 => (if t130 = t131 then ((be_Wide.f (wrap64 (a0)) (rd y123 x13_1)).bind fun t132 => ((tillrollref01_Wide.f k1 (wrap64 (a0)) (rd y123 x13_1)).bind fun t133 => (if (t132 != t133) = true then (some false) else (tillrolllaw01_BeFits.l0 k1 a0 y123 (y123.length : Int) (wrap64 (x13_1 + 1)))))) else (some false))) = some r := H
              have A13 := Aside0.mk A130
              clear A130
              replace H := Option.bind_eq_some_iff.mp H
              obtain ⟨t131, A140, H⟩ := H
              replace H : (if t130 = t131 then ((be_Wide.f (wrap64 (a0)) (rd y123 x13_1)).bind fun t132 => ((tillrollref01_Wide.f k1 (wrap64 (a0)) (rd y123 x13_1)).bind fun t133 => (if (t132 != t133) = true then (some false) else (tillrolllaw01_BeFits.l0 k1 a0 y123 (y123.length : Int) (wrap64 (x13_1 + 1)))))) else (some false)) = some r := H
              have A14 := Aside0.mk A140
              clear A140
              by_cases c15 : t130 = t131
              · rw [if_pos c15] at H
                have c15b0 : (t130 == t131) = true := beq_iff_eq.mpr c15
                have c15b1 : (t130 != t131) = false := bne_eq_false_iff_eq.mpr c15
                clear c15
                replace H := Option.bind_eq_some_iff.mp H
                obtain ⟨t132, A160, H⟩ := H
                replace H : ((tillrollref01_Wide.f k1 (wrap64 (a0)) (rd y123 x13_1)).bind fun t133 => (if (t132 != t133) = true then (some false) else (tillrolllaw01_BeFits.l0 k1 a0 y123 (y123.length : Int) (wrap64 (x13_1 + 1))))) = some r := H
                have A16 := Aside0.mk A160
                clear A160
                replace H := Option.bind_eq_some_iff.mp H
                obtain ⟨t133, A170, H⟩ := H
                replace H : (if (t132 != t133) = true then (some false) else (tillrolllaw01_BeFits.l0 k1 a0 y123 (y123.length : Int) (wrap64 (x13_1 + 1)))) = some r := H
                have A17 := Aside0.mk A170
                clear A170
                by_cases c18 : (t132 != t133) = true
                · rw [if_pos c18] at H
                  have c18b0 : (t132 != t133) = true := c18
                  (try (have c18b1 : decide (t132 = t133) = false := by simpa using c18))
                  (try (have c18b2 : (t132 == t133) = false := by simpa using c18))
                  (try (have c18b3 : ¬ (t132 = t133) := by simpa using c18))
                  clear c18
                  obtain rfl := Option.some.inj H
                  have p127 : 0 ≤ (x13_1 : Int) := of_decide_eq_true (by first | (with_reducible assumption) | assumption)
                  have q127 : x13_1 < (y123.length : Int) := of_decide_eq_true (by first | (with_reducible assumption) | assumption)
                  obtain ⟨ad127, e127, hx127_0⟩ := Kd.at_int (Kd.R_reads' HO_11.out).2.2 x13_1 p127 q127
                  cases e127
                  replace p127 := eq_true p127
                  replace q127 := eq_true q127
                  go_wp2_with (first | ((with_reducible refine gate_callee (f := 13) rfl ?_); refine goesL_ (some 19) rfl rfl Try.func13 (by kernel_rfl) rfl #[.int .u64 a0, .int .i64 (rd y123 x13_1)] rfl (by (try simp only [List.map_toArray, List.map_cons, List.map_nil]); first | done | rfl | (simp only [List.length_drop, List.length_take]; rfl)) ?_; (with_reducible refine (be_Fits.calls a0 (rd y123 x13_1) t128 _ A10.out).mono ?_); rintro e w' ⟨rfl, ⟨nd, rfl⟩⟩; refine ⟨_, rfl, ?_⟩) | ((with_reducible refine gate_callee (f := 14) rfl ?_); refine goesL_ (some 22) rfl rfl Try.func14 (by kernel_rfl) rfl #[.int .u64 a0, .int .i64 (rd y123 x13_1)] rfl (by (try simp only [List.map_toArray, List.map_cons, List.map_nil]); first | done | rfl | (simp only [List.length_drop, List.length_take]; rfl)) ?_; (with_reducible refine (tillrollref01_Fits.calls k1 a0 (rd y123 x13_1) t129 _ A11.out).mono ?_); rintro e w' ⟨rfl, ⟨nd, rfl⟩⟩; refine ⟨_, rfl, ?_⟩) | (go_at_call 15; (with_reducible refine (be_Sign.calls a0 (rd y123 x13_1) t130 _ A13.out).mono ?_); rintro e w' ⟨rfl, ⟨nd, rfl⟩⟩) | (go_at_call 16; (with_reducible refine (tillrollref01_Sign.calls k1 a0 (rd y123 x13_1) t131 _ A14.out).mono ?_); rintro e w' ⟨rfl, ⟨nd, rfl⟩⟩) | (go_at_call 17; (with_reducible refine (be_Wide.calls (wrap64 (a0)) (rd y123 x13_1) t132 _ A16.out).mono ?_); rintro e w' ⟨rfl, ⟨nd, rfl⟩⟩) | (go_at_call 18; (with_reducible refine (tillrollref01_Wide.calls k1 (wrap64 (a0)) (rd y123 x13_1) t133 _ A17.out).mono ?_); rintro e w' ⟨rfl, ⟨nd, rfl⟩⟩))
                  go_ret
                  exact ⟨by first | rfl | (simp [errW_none, errW_some] <;> rfl) | (simp only [← hji3]; first | rfl | (simp [errW_none, errW_some] <;> rfl)) | (simp [*, errW_none, errW_some] <;> rfl), by repeat (first | (with_reducible first | exact HB.out | apply below_alloc | apply pw_below_drewN | apply below_drew1) | exact HB.out)⟩
                · rw [if_neg c18] at H
                  have c18b0 : (t132 != t133) = false := by simpa using c18
                  (try (have c18b1 : decide (t132 = t133) = true := by simpa using c18))
                  (try (have c18b2 : (t132 == t133) = true := by simpa using c18))
                  clear c18
                  have H' := Aside0.mk H
                  clear H
                  have p127 : 0 ≤ (x13_1 : Int) := of_decide_eq_true (by first | (with_reducible assumption) | assumption)
                  have q127 : x13_1 < (y123.length : Int) := of_decide_eq_true (by first | (with_reducible assumption) | assumption)
                  obtain ⟨ad127, e127, hx127_0⟩ := Kd.at_int (Kd.R_reads' HO_11.out).2.2 x13_1 p127 q127
                  cases e127
                  replace p127 := eq_true p127
                  replace q127 := eq_true q127
                  go_wp2_with (first | ((with_reducible refine gate_callee (f := 13) rfl ?_); refine goesL_ (some 19) rfl rfl Try.func13 (by kernel_rfl) rfl #[.int .u64 a0, .int .i64 (rd y123 x13_1)] rfl (by (try simp only [List.map_toArray, List.map_cons, List.map_nil]); first | done | rfl | (simp only [List.length_drop, List.length_take]; rfl)) ?_; (with_reducible refine (be_Fits.calls a0 (rd y123 x13_1) t128 _ A10.out).mono ?_); rintro e w' ⟨rfl, ⟨nd, rfl⟩⟩; refine ⟨_, rfl, ?_⟩) | ((with_reducible refine gate_callee (f := 14) rfl ?_); refine goesL_ (some 22) rfl rfl Try.func14 (by kernel_rfl) rfl #[.int .u64 a0, .int .i64 (rd y123 x13_1)] rfl (by (try simp only [List.map_toArray, List.map_cons, List.map_nil]); first | done | rfl | (simp only [List.length_drop, List.length_take]; rfl)) ?_; (with_reducible refine (tillrollref01_Fits.calls k1 a0 (rd y123 x13_1) t129 _ A11.out).mono ?_); rintro e w' ⟨rfl, ⟨nd, rfl⟩⟩; refine ⟨_, rfl, ?_⟩) | (go_at_call 15; (with_reducible refine (be_Sign.calls a0 (rd y123 x13_1) t130 _ A13.out).mono ?_); rintro e w' ⟨rfl, ⟨nd, rfl⟩⟩) | (go_at_call 16; (with_reducible refine (tillrollref01_Sign.calls k1 a0 (rd y123 x13_1) t131 _ A14.out).mono ?_); rintro e w' ⟨rfl, ⟨nd, rfl⟩⟩) | (go_at_call 17; (with_reducible refine (be_Wide.calls (wrap64 (a0)) (rd y123 x13_1) t132 _ A16.out).mono ?_); rintro e w' ⟨rfl, ⟨nd, rfl⟩⟩) | (go_at_call 18; (with_reducible refine (tillrollref01_Wide.calls k1 (wrap64 (a0)) (rd y123 x13_1) t133 _ A17.out).mono ?_); rintro e w' ⟨rfl, ⟨nd, rfl⟩⟩))
                  go_roundg k1
                  case measure => have := HK1.out; omega
                  case rel => exact ⟨(wrap64 (x13_1 + 1)), (by first | rfl | (simp; done) | (simp [*]; done)), H', ⟨by have := HK1.out; omega⟩, ⟨by (with_reducible repeat (first | apply Kd.R_alloc | apply Kd.R_drewN | apply Kd.R_drew)); exact HO_11.out⟩, ⟨by repeat (first | (with_reducible first | exact HB.out | apply below_alloc | apply pw_below_drewN | apply below_drew1) | exact HB.out)⟩⟩
              · rw [if_neg c15] at H
                have c15b0 : (t130 == t131) = false := beq_eq_false_iff_ne.mpr c15
                have c15b1 : (t130 != t131) = true := bne_iff_ne.mpr c15
                obtain rfl := Option.some.inj H
                have p127 : 0 ≤ (x13_1 : Int) := of_decide_eq_true (by first | (with_reducible assumption) | assumption)
                have q127 : x13_1 < (y123.length : Int) := of_decide_eq_true (by first | (with_reducible assumption) | assumption)
                obtain ⟨ad127, e127, hx127_0⟩ := Kd.at_int (Kd.R_reads' HO_11.out).2.2 x13_1 p127 q127
                cases e127
                replace p127 := eq_true p127
                replace q127 := eq_true q127
                go_wp2_with (first | ((with_reducible refine gate_callee (f := 13) rfl ?_); refine goesL_ (some 19) rfl rfl Try.func13 (by kernel_rfl) rfl #[.int .u64 a0, .int .i64 (rd y123 x13_1)] rfl (by (try simp only [List.map_toArray, List.map_cons, List.map_nil]); first | done | rfl | (simp only [List.length_drop, List.length_take]; rfl)) ?_; (with_reducible refine (be_Fits.calls a0 (rd y123 x13_1) t128 _ A10.out).mono ?_); rintro e w' ⟨rfl, ⟨nd, rfl⟩⟩; refine ⟨_, rfl, ?_⟩) | ((with_reducible refine gate_callee (f := 14) rfl ?_); refine goesL_ (some 22) rfl rfl Try.func14 (by kernel_rfl) rfl #[.int .u64 a0, .int .i64 (rd y123 x13_1)] rfl (by (try simp only [List.map_toArray, List.map_cons, List.map_nil]); first | done | rfl | (simp only [List.length_drop, List.length_take]; rfl)) ?_; (with_reducible refine (tillrollref01_Fits.calls k1 a0 (rd y123 x13_1) t129 _ A11.out).mono ?_); rintro e w' ⟨rfl, ⟨nd, rfl⟩⟩; refine ⟨_, rfl, ?_⟩) | (go_at_call 15; (with_reducible refine (be_Sign.calls a0 (rd y123 x13_1) t130 _ A13.out).mono ?_); rintro e w' ⟨rfl, ⟨nd, rfl⟩⟩) | (go_at_call 16; (with_reducible refine (tillrollref01_Sign.calls k1 a0 (rd y123 x13_1) t131 _ A14.out).mono ?_); rintro e w' ⟨rfl, ⟨nd, rfl⟩⟩))
                go_ret
                exact ⟨by first | rfl | (simp [errW_none, errW_some] <;> rfl) | (simp only [← hji3]; first | rfl | (simp [errW_none, errW_some] <;> rfl)) | (simp [*, errW_none, errW_some] <;> rfl), by repeat (first | (with_reducible first | exact HB.out | apply below_alloc | apply pw_below_drewN | apply below_drew1) | exact HB.out)⟩
          · rw [if_neg c9] at H
            exact absurd H (by simp)
        · rw [if_neg c8] at H
          exact absurd H (by simp)
      · rw [if_neg c7] at H
        have c7b0 : decide (x13_1 < (y123.length : Int)) = false := decide_eq_false c7
        clear c7
        replace H := Option.bind_eq_some_iff.mp H
        obtain ⟨t126, A190, H⟩ := H
        replace H : (some t126) = some r := H
        have A19 := Aside0.mk A190
        clear A190
        obtain rfl := Option.some.inj H
        go_wp2_with (first | ((with_reducible refine gate_callee (f := 10) rfl ?_); refine goesL_ (some 45) rfl rfl Try.func10 (by kernel_rfl) rfl #[] rfl (by (try simp only [List.map_toArray, List.map_cons, List.map_nil]); first | done | rfl | (simp only [List.length_drop, List.length_take]; rfl)) ?_; (with_reducible refine (tillrolllaw01_wakes.calls k1  t126 _ A19.out).mono ?_); rintro e w20 ⟨rfl, hb⟩; refine ⟨_, rfl, ?_⟩; have n0_ := Aside0.mk (Kd.R_below (by (with_reducible repeat (first | apply Kd.R_alloc | apply Kd.R_drewN | apply Kd.R_drew)); exact HO_11.out) hb); have n1_ := Aside0.mk (below_step (by repeat (first | (with_reducible first | exact HB.out | apply below_alloc | apply pw_below_drewN | apply below_drew1) | exact HB.out)) hb); clear HO_11; clear HB; have HO_11 := n0_; have HB := n1_; clear n0_ n1_; (try clear hb); (try clear hb2); (try clear hk); (try clear hi)))
        go_ret
        exact ⟨by first | rfl | (simp [errW_none, errW_some] <;> rfl) | (simp only [← hji3]; first | rfl | (simp [errW_none, errW_some] <;> rfl)) | (simp [*, errW_none, errW_some] <;> rfl), by repeat (first | (with_reducible first | exact HB.out | apply below_alloc | apply pw_below_drewN | apply below_drew1) | exact HB.out)⟩

/-- THE ONE PURE STATEMENT of tillrolllaw01_BeFits: yours. -/
def tillrolllaw01_BeFits.Pure : Prop := ∀ (a0 : Int) (a1 : Int), (Lit.int .u64 a0).wf = true → (Lit.int .i64 a1).wf = true → ∃ k, tillrolllaw01_BeFits.f k a0 a1 = some true
theorem tillrolllaw01_BeFits.walk (P : tillrolllaw01_BeFits.Pure) (a0 : Int) (a1 : Int) (w : World) (w0 : (Lit.int .u64 a0).wf = true) (w1 : (Lit.int .i64 a1).wf = true) :
    Calls Try.prog 4 #[.int .u64 a0, .int .i64 a1] w fun e w' => e = .returned (.bool true) ∧ Below w.heap.size w w' := by
  obtain ⟨k, h⟩ := P a0 a1 w0 w1
  refine (tillrolllaw01_BeFits.calls k a0 a1 true w h).mono ?_
  rintro e w' ⟨rfl, hd⟩
  exact ⟨rfl, hd⟩

end Go.Proofs.Ytogaopfkmmnkiaa.P
