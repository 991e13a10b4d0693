/- BeOrder: texts of one length are in the order of their numbers; a number with a sign is told by as many bits as it needs, and by more. No conditions beyond the form's own reach. -/
import Derived.Test.YtogaopfkmmnkiaaXBeWakes
import Derived.Test.YtogaopfkmmnkiaaPx17
namespace Go.Proofs.Ytogaopfkmmnkiaa.Pure
open Go.RowKit Go.Proofs.Ytogaopfkmmnkiaa.P Go.Proofs.Ytogaopfkmmnkiaa.BeS Go.Proofs.YtogaopfkmmnkiaaW.PrintWords Go.Proofs.YtogaopfkmmnkiaaW.PrintLast Go.Proofs.YtogaopfkmmnkiaaW.PrintMore

theorem less_getN : ∀ (x y : List UInt8), x.length = y.length → Op.bytesLess x y = decide (getN x < getN y)
  | [], [], _ => by simp [Op.bytesLess, getN]
  | _ :: _, [], h => by simp at h
  | [], _ :: _, h => by simp at h
  | a :: x, b :: y, h => by
    have hl : x.length = y.length := by simpa using h
    rw [Op.bytesLess, less_getN x y hl, getN_cons, getN_cons, hl]
    have hx := getN_lt x
    have hy := getN_lt y
    rw [hl] at hx
    generalize getN x = p at *
    generalize getN y = q at *
    generalize 256 ^ y.length = m at *
    by_cases c : a = b
    · subst c
      have h1 : decide (p < q) = decide (a.toNat * m + p < a.toNat * m + q) := by simp
      simp [h1]
    · have hne : a.toNat ≠ b.toNat := fun e => c (UInt8.toNat.inj e)
      by_cases d : a.toNat < b.toNat
      · have := Nat.mul_le_mul_right m (show a.toNat + 1 ≤ b.toNat from d)
        rw [Nat.add_mul] at this
        have e : decide (a.toNat * m + p < b.toNat * m + q) = true := by rw [decide_eq_true_eq]; omega
        rw [e]
        simp [UInt8.lt_iff_toNat_lt, d]
      · have := Nat.mul_le_mul_right m (show b.toNat + 1 ≤ a.toNat by omega)
        rw [Nat.add_mul] at this
        have e : decide (a.toNat * m + p < b.toNat * m + q) = false := by rw [decide_eq_false_iff_not]; omega
        rw [e]
        simp [UInt8.lt_iff_toNat_lt, d, c]

theorem order_put (n m : Nat) (hn : n < 18446744073709551616) (hm : m < 18446744073709551616) : Op.bytesLess (str (putL n 8)).toList (str (putL m 8)).toList = decide ((n : Int) < (m : Int)) := by
  have h8 : (256 : Nat) ^ 8 = 18446744073709551616 := by decide
  rw [str_toList, str_toList, less_getN _ _ (by rw [putL_length, putL_length]), getN_putL, getN_putL, h8, Nat.mod_eq_of_lt hn, Nat.mod_eq_of_lt hm]
  simp

theorem BeOrder : tillrolllaw01_BeOrder.Pure := by
  intro a0 a1 a2 h0 h1 h2
  have b0 : 0 ≤ a0 ∧ a0 < 18446744073709551616 := by simp [Lit.wf, IntKind.min, IntKind.max, IntKind.signed, IntKind.bits] at h0; omega
  have b1 : 0 ≤ a1 ∧ a1 < 18446744073709551616 := by simp [Lit.wf, IntKind.min, IntKind.max, IntKind.signed, IntKind.bits] at h1; omega
  have b2 : 0 ≤ a2 ∧ a2 < 256 := by simp [Lit.wf, IntKind.min, IntKind.max, IntKind.signed, IntKind.bits] at h2; omega
  obtain ⟨n, rfl⟩ := Int.eq_ofNat_of_zero_le b0.1
  obtain ⟨m, rfl⟩ := Int.eq_ofNat_of_zero_le b1.1
  obtain ⟨j, hj, hj1, hj2⟩ : ∃ j : Nat, wrap64 (1 + wrap64 (Int.tmod a2 64)) = (j : Int) ∧ 1 ≤ j ∧ j ≤ 64 := by
    obtain ⟨c, rfl⟩ := Int.eq_ofNat_of_zero_le b2.1
    refine ⟨1 + c % 64, ?_, by omega, by omega⟩
    rw [Int.tmod_eq_emod_of_nonneg (by omega), wrap64_in ((c : Int) % 64) (by omega) (by omega), wrap64_in _ (by omega) (by omega)]
    omega
  refine ⟨100, ?_⟩
  have hr := sg_range n j hj1
  have hp := pow_le j hj2
  have hmn : ∃ q : Nat, mn 64 (wrap64 ((j : Int) + 1)) = (q : Int) ∧ j ≤ q ∧ q ≤ 64 := by
    rw [wrap64_in _ (by omega) (by omega)]
    unfold mn
    by_cases c : (j : Int) + 1 < 64
    · rw [if_pos c]; exact ⟨j + 1, by omega, by omega, by omega⟩
    · rw [if_neg c]; exact ⟨64, rfl, by omega, by omega⟩
  obtain ⟨q, hq, hq1, hq2⟩ := hmn
  have hpq : 2 ^ (j - 1) ≤ 2 ^ (q - 1) := Nat.pow_le_pow_right (by decide) (by omega)
  have w1 : be_Wide.f (sg n j) (j : Int) = some true := by
    rw [wide_f _ j hj1 hj2, decide_eq_true hr]
  have w2 : be_Wide.f (sg n j) (q : Int) = some true := by
    rw [wide_f _ q (by omega) hq2, decide_eq_true (by omega)]
  have s1 : be_Sign.f (IntKind.u64.wrap (sg n j)) (j : Int) = some (sg n j) := by
    rw [wrap_u64]
    have e : sg n j % 18446744073709551616 = (((sg n j % 18446744073709551616).toNat : Nat) : Int) := by omega
    rw [e, sign_f _ (by omega) j hj1 hj2, sg_back _ j hj1 hj2 hr.1 hr.2]
  have s2 : be_Sign.f (n : Int) 64 = some (wrap64 (n : Int)) := by
    have e : sg n 64 = wrap64 (n : Int) := by
      unfold sg wrap64
      rw [Nat.mod_eq_of_lt (show n < 2 ^ 64 from by omega)]
      split <;> simp at * <;> omega
    rw [← e]
    exact sign_f n (by omega) 64 (by decide) (by decide)
  have p1 : be_Put.f (n : Int) 8 = some (str (putL n 8)) := put_in n (by omega) 8 (by decide) (by decide)
  have p2 : be_Put.f (m : Int) 8 = some (str (putL m 8)) := put_in m (by omega) 8 (by decide) (by decide)
  unfold tillrolllaw01_BeOrder.f
  rw [hj, sign_f n (by omega) j hj1 hj2, Option.bind_some, wakes_f 100 (by decide), Option.bind_some, if_pos rfl, p1, Option.bind_some, p2, Option.bind_some, order_put n m (by omega) (by omega),
    if_pos (by simp), w1, Option.bind_some, if_pos rfl, hq, w2, Option.bind_some, if_pos rfl, s1, Option.bind_some, if_pos rfl, s2, Option.bind_some]
  simp
end Go.Proofs.Ytogaopfkmmnkiaa.Pure
