/- What the printed functions of layer 1 (be) come to, in plain words. No conditions beyond the kinds of the numbers. -/
import Derived.Test.YtkadlahhcldjfaaXBeSpec
import Derived.Test.YtkadlahhcldjfaaPx3
import Derived.Test.YtkadlahhcldjfaaPx3
namespace Go.Proofs.Ytkadlahhcldjfaa
open Go.RowKit Go.Proofs.YtkadlahhcldjfaaW.PrintWords Go.Proofs.YtkadlahhcldjfaaW.PrintLast Go.Proofs.YtkadlahhcldjfaaW.PrintMore Go.Proofs.Ytkadlahhcldjfaa.P
set_option linter.unusedVariables false
set_option linter.unusedSimpArgs false
namespace BeS

theorem may_f (a : Int) : be_may.f a = some (decide (1 ≤ a ∧ a ≤ 8)) := by
  unfold be_may.f
  by_cases h : a ≥ 1
  · rw [if_pos h]; congr 1; simp only [decide_eq_decide]; omega
  · rw [if_neg h]; congr 1; symm; rw [decide_eq_false_iff_not]; omega

def fits (n : Nat) (w : Int) : Bool := decide (1 ≤ w ∧ w ≤ 8 ∧ n < 256 ^ w.toNat)

theorem fits_f (n : Nat) (hn : n < 18446744073709551616) (w : Int) (h0 : -9223372036854775808 ≤ w) (h1 : w < 9223372036854775808) : be_Fits.f (n : Int) w = some (fits n w) := by
  unfold be_Fits.f fits
  rw [may_f]
  simp only [Option.bind_some]
  by_cases h : 1 ≤ w ∧ w ≤ 8
  · obtain ⟨k, rfl⟩ := Int.eq_ofNat_of_zero_le (show 0 ≤ w by omega)
    rw [if_pos (by simpa using h), wrap64_in _ (by omega) (by omega), if_pos (by omega)]
    congr 1
    unfold shr
    have e1 : min (8 * (k : Int)).toNat IntKind.u64.bits = 8 * k := by
      show min (8 * (k : Int)).toNat 64 = 8 * k
      omega
    have e2 : (256 : Nat) ^ k = 2 ^ (8 * k) := by rw [Nat.pow_mul]
    rw [e1, show ((k : Int)).toNat = k from rfl, e2]
    have hp : 0 < 2 ^ (8 * k) := Nat.two_pow_pos _
    have e3 : ((n : Int) / 2 ^ (8 * k)) = ((n / 2 ^ (8 * k) : Nat) : Int) := by rw [Int.natCast_ediv, Int.natCast_pow]; rfl
    rw [e3, Bool.eq_iff_iff]
    simp only [beq_iff_eq, decide_eq_true_eq]
    have e4 : ((n / 2 ^ (8 * k) : Nat) : Int) = 0 ↔ n < 2 ^ (8 * k) := by
      rw [show (0 : Int) = ((0 : Nat) : Int) from rfl, Int.ofNat_inj, Nat.div_eq_zero_iff]
      omega
    rw [e4]
    omega
  · rw [if_neg (by simpa using h)]
    congr 1
    symm
    rw [decide_eq_false_iff_not]
    omega
end BeS
end Go.Proofs.Ytkadlahhcldjfaa
