/- The signs of life of layer 24's laws. No conditions. -/
import Derived.Test.YtkadlahhcldjfaaXKeysPut
namespace Go.Proofs.Ytkadlahhcldjfaa
open Go.RowKit Go.Lib Go.Proofs.YtkadlahhcldjfaaW.PrintWords Go.Proofs.YtkadlahhcldjfaaW.PrintLast Go.Proofs.YtkadlahhcldjfaaW.PrintMore
set_option linter.unusedVariables false
set_option linter.unusedSimpArgs false
theorem chainP {w a b : World} {g : Nat} (h : Below w.heap.size w a) (hg : w.heap.size ≤ g) (k : a.grownBy b (some g)) : Below w.heap.size w b :=
  pw_below_grown h _ h.size k (fun i hi => by cases hi; exact hg)
def kA : ByteArray := ⟨#[97]⟩
def kB : ByteArray := ⟨#[98]⟩
theorem wk1 : putK 1 [] ⟨5, kA, 1⟩ = ([⟨5, kA, 1⟩], 0) := rfl
theorem wk2 : matchK [⟨5, kA, 1⟩] 5 kA = (1, 0) := by unfold matchK findK; simp
theorem wk3 : matchK [⟨5, kA, 1⟩] 5 kB = (0, 17) := by unfold matchK findK; simp; decide
theorem wk4 : putK 1 [⟨5, kA, 1⟩] ⟨6, kA, 2⟩ = ([⟨6, kA, 2⟩], 0) := rfl
theorem wk5 : matchK [⟨6, kA, 2⟩] 5 kA = (0, 15) := by unfold matchK findK; simp

set_option maxHeartbeats 4000000 in
theorem wakes_ok (w : World) : Calls Try.prog 7 #[] w fun e w' => e = .returned (.bool true) ∧ Below w.heap.size w w' := by
  go_enter Try.func7, Try.ntmps7
  go_wp2_with fail
  refine (keys_new 1 (by decide) (by decide) w).mono ?_
  rintro e w1 ⟨g, rfl, hg, hk, hb⟩
  have HK := Lib.hid hk; clear hk
  have HB := Lib.hid hb; clear hb
  have HG := Lib.hid hg; clear hg
  go_wp2_with fail
  refine (keys_put g 1 [] ⟨5, kA, 1⟩ w1 HK.out).mono ?_
  rintro e w2 ⟨rfl, hk, hd⟩
  rw [wk1] at hk
  rw [wk1]
  replace HK := Lib.hid hk; clear hk
  replace HB := Lib.hid (chainP HB.out HG.out hd); clear hd
  go_wp2_with fail
  refine (keys_match g 1 _ 5 kA w2 HK.out).mono ?_
  rintro e w3 ⟨rfl, hd⟩
  replace HK := Lib.hid (HK.out.below hd)
  replace HB := Lib.hid (chain2 HB.out hd); clear hd
  rw [wk2]
  go_wp2_with fail
  refine (keys_match g 1 _ 5 kB w3 HK.out).mono ?_
  rintro e w4 ⟨rfl, hd⟩
  replace HK := Lib.hid (HK.out.below hd)
  replace HB := Lib.hid (chain2 HB.out hd); clear hd
  rw [wk3]
  go_wp2_with fail
  refine (keys_put g 1 _ ⟨6, kA, 2⟩ w4 HK.out).mono ?_
  rintro e w5 ⟨rfl, hk, hd⟩
  rw [wk4] at hk
  rw [wk4]
  replace HK := Lib.hid hk; clear hk
  replace HB := Lib.hid (chainP HB.out HG.out hd); clear hd
  go_wp2_with fail
  refine (keys_match g 1 _ 5 kA w5 HK.out).mono ?_
  rintro e w6 ⟨rfl, hd⟩
  replace HB := Lib.hid (chain2 HB.out hd); clear hd
  rw [wk5]
  go_wp2
  go_ret
  exact ⟨rfl, HB.out⟩
end Go.Proofs.Ytkadlahhcldjfaa
