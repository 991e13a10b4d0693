/- post: the law's signs of life. No conditions beyond the form's own reach. -/
import Derived.Test.YtkmbjfgdjoanjaaXPostF
import Derived.Test.YtkmbjfgdjoanjaaXPostG
namespace Go.Proofs.Ytkmbjfgdjoanjaa
open Go.RowKit Go.Lib Go.Proofs.Ytkmbjfgdjoanjaa.P Go.Proofs.YtkmbjfgdjoanjaaW.PrintWords Go.Proofs.YtkmbjfgdjoanjaaW.PrintLast Go.Proofs.YtkmbjfgdjoanjaaW.PrintMore
set_option linter.unusedVariables false
set_option linter.unusedSimpArgs false
--@tables
def lit2 : List Ln := [(1, 500), (2, -500)]
theorem lit_in (xs : List Ln) (h : ∀ p ∈ xs, (-1000 ≤ p.1 ∧ p.1 ≤ 1000) ∧ -1000 ≤ p.2 ∧ p.2 ≤ 1000) : LnIn xs := fun p hp => by have := h p hp; omega
theorem lit_row {w : World} {b T : Nat} (h : w.heap[b]? = some (.cells #[.int .i64 1, .int .i64 500, .int .i64 2, .int .i64 (-500)] T (0, 0))) (n : Nat) (hn : n ≤ 2) : RowS encL w (.slice (some ⟨b, 0, none⟩) n 2) (lit2.take n) := by
  have hl : (lit2.take n).length = n := by rw [List.length_take]; exact Nat.min_eq_left hn
  refine .inr ⟨b, 0, 2, by rw [hl], by rw [hl]; exact hn, by unfold maxLen; decide, blk_lt h, fun j u hu => ?_⟩
  have h4 : (lit2.flatMap encL)[j]? = some u := by
    rw [flat_take encL 2 encL_len] at hu
    rw [List.getElem?_take] at hu
    split at hu
    · exact hu
    · cases hu
  unfold World.cell?
  rw [h, Nat.zero_add]
  match j, h4 with
  | 0, h4 => exact h4
  | 1, h4 => exact h4
  | 2, h4 => exact h4
  | 3, h4 => exact h4
  | j + 4, h4 => simp [lit2, encL] at h4
set_option maxHeartbeats 8000000 in
theorem wakes_ok (w : World) : Calls Try.prog 17 #[] w fun e w' => e = .returned (.bool true) ∧ Below w.heap.size w w' := by
  go_enter Try.func17, Try.ntmps17
  go_wp2_with fail
  refine (accounts_ok _).mono ?_
  rintro e w1 ⟨g, m, u, rfl, hc, _, hd⟩
  have HC := Lib.hid hc; clear hc
  have HB := Lib.hid hd; clear hd
  have hx := heap_alloc_new w1 (.cells #[.int .i64 1, .int .i64 500, .int .i64 2, .int .i64 (-500)] 81)
  have hd := below_alloc (Below.refl w1.heap.size w1) (.cells #[.int .i64 1, .int .i64 500, .int .i64 2, .int .i64 (-500)] 81)
  replace HC := Lib.hid (HC.out.below hd)
  replace HB := Lib.hid (chain2 HB.out hd); clear hd
  have HP := Lib.hid (show RowS encL _ _ lit2 from lit_row hx 2 (Nat.le_refl _))
  have HP1 := Lib.hid (show RowS encL _ _ [(1, 500)] from lit_row hx 1 (by decide)); clear hx
  go_wp2_with fail
  generalize w1.alloc (.cells #[.int .i64 1, .int .i64 500, .int .i64 2, .int .i64 (-500)] 81) = w2 at HC HB HP HP1 ⊢
  generalize w1.heap.size = b at HP HP1 ⊢
  refine (contra_ok lit2 (by decide) (lit_in _ (by decide)) _ w2 HP.out).mono ?_
  rintro e w3 ⟨q, rfl, hq, hd⟩
  rw [show conV lit2 = ([(1, -500), (2, 500)], 0) from by decide] at hq ⊢
  have HQ := Lib.hid hq.s; clear hq
  replace HC := Lib.hid (HC.out.below hd)
  replace HP := Lib.hid (HP.out.below hd)
  replace HP1 := Lib.hid (HP1.out.below hd)
  replace HB := Lib.hid (chain2 HB.out hd); clear hd
  go_wp2_with fail
  refine (on_ok [(1, -500), (2, 500)] (by decide) (lit_in _ (by decide)) 1 q w3 HQ.out).mono ?_
  rintro e w4 ⟨rfl, hd⟩
  rw [show totV (onS [(1, -500), (2, 500)] 1) = (-500, 0) from by decide]
  replace HC := Lib.hid (HC.out.below hd)
  replace HP := Lib.hid (HP.out.below hd)
  replace HP1 := Lib.hid (HP1.out.below hd)
  replace HQ := Lib.hid (HQ.out.below hd)
  replace HB := Lib.hid (chain2 HB.out hd); clear hd
  go_wp2_with fail
  refine (check_ok lit2 (by decide) (lit_in _ (by decide)) _ HP.out HC.out five_J).mono ?_
  rintro e w5 ⟨rfl, hd⟩
  rw [show chkV lit2 = 0 from by decide]
  replace HC := Lib.hid (HC.out.below hd)
  replace HP1 := Lib.hid (HP1.out.below hd)
  replace HQ := Lib.hid (HQ.out.below hd)
  replace HB := Lib.hid (chain2 HB.out hd); clear hd
  go_wp2_with fail
  refine (check_ok [(1, 500)] (by decide) (lit_in _ (by decide)) _ HP1.out HC.out five_J).mono ?_
  rintro e w6 ⟨rfl, hd⟩
  rw [show chkV [(1, 500)] = 2 from by decide]
  replace HC := Lib.hid (HC.out.below hd)
  replace HQ := Lib.hid (HQ.out.below hd)
  replace HB := Lib.hid (chain2 HB.out hd); clear hd
  go_wp2_with fail
  refine (check_ok [(1, -500), (2, 500)] (by decide) (lit_in _ (by decide)) q HQ.out HC.out five_J).mono ?_
  rintro e w7 ⟨rfl, hd⟩
  rw [show chkV [(1, -500), (2, 500)] = 0 from by decide]
  replace HB := Lib.hid (chain2 HB.out hd); clear hd
  go_wp2
  go_ret
  exact ⟨rfl, HB.out⟩
end Go.Proofs.Ytkmbjfgdjoanjaa
