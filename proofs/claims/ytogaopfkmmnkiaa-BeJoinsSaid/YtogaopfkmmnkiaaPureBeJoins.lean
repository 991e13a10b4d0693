/- BeJoins: a number's eight bytes are those of its high part, and then of its low one. No conditions beyond the form's own reach. -/
import Derived.Test.YtogaopfkmmnkiaaXBeWakes
import Derived.Test.YtogaopfkmmnkiaaPx18
namespace Go.Proofs.Ytogaopfkmmnkiaa.Pure
open Go.RowKit Go.Proofs.Ytogaopfkmmnkiaa.P Go.Proofs.Ytogaopfkmmnkiaa.BeS Go.Proofs.YtogaopfkmmnkiaaW.PrintWords Go.Proofs.YtogaopfkmmnkiaaW.PrintLast Go.Proofs.YtogaopfkmmnkiaaW.PrintMore
set_option linter.unusedVariables false
set_option linter.unusedSimpArgs false

theorem joins_facts (n : Nat) (hn : n < 18446744073709551616) (k : Nat) (h1 : 1 ≤ k) (h7 : k ≤ 7) : ∃ s1 s2 : ByteArray, s1.size = 8 - k ∧ s2.size = k ∧
    be_Put.f ((n / 256 ^ k : Nat) : Int) ((8 - k : Nat) : Int) = some s1 ∧ be_Put.f (n : Int) (k : Int) = some s2 ∧ be_Put.f (n : Int) 8 = some (s1 ++ s2) ∧
    be_Get.f 100 ((s1 ++ s2).extract (8 - k) (s1 ++ s2).size) = some ((n % 256 ^ k : Nat) : Int) ∧ be_Get.f 100 ((s1 ++ s2).extract 0 (8 - k)) = some ((n / 256 ^ k : Nat) : Int) := by
  have hq : n / 256 ^ k < 18446744073709551616 := Nat.lt_of_le_of_lt (Nat.div_le_self _ _) hn
  have h8 : (256 : Nat) ^ 8 = 18446744073709551616 := by decide
  have hs : putL (n / 256 ^ k) (8 - k) ++ putL n k = putL n 8 := by rw [← putL_split, show 8 - k + k = 8 from by omega]
  refine ⟨str (putL (n / 256 ^ k) (8 - k)), str (putL n k), by rw [str_size, putL_length], by rw [str_size, putL_length], put_in _ hq _ (by omega) (by omega), put_in _ hn _ (by omega) (by omega), ?_, ?_, ?_⟩
  · rw [str_append, hs]; exact put_in n hn 8 (by decide) (by decide)
  · rw [str_append, str_extract, List.take_of_length_le (by rw [str_size]; exact Nat.le_refl _), List.drop_append_of_le_length (by rw [putL_length]; omega), List.drop_of_length_le (by rw [putL_length]; omega), List.nil_append, get_str _ (by rw [putL_length]; omega) 100 (by decide), getN_putL]
  · rw [str_append, str_extract, List.drop_zero, List.take_append_of_le_length (by rw [putL_length]; omega), List.take_of_length_le (by rw [putL_length]; omega), get_str _ (by rw [putL_length]; omega) 100 (by decide), getN_putL, Nat.mod_eq_of_lt]
    rw [Nat.div_lt_iff_lt_mul (Nat.pow_pos (by decide)), ← Nat.pow_add, show 8 - k + k = 8 from by omega]
    omega

theorem and_low (n : Nat) (hn : n < 18446744073709551616) (k : Nat) (h7 : k ≤ 7) (m : Int) (hm : m = 2 ^ (8 * k) - 1) : Go.bits .and .u64 (n : Int) m = ((n % 256 ^ k : Nat) : Int) := by
  subst hm
  rw [bits_mask .u64 64 (by decide) (fun n h0 h1 => by rw [wrap_u64]; omega) (8 * k) (by omega) (n : Int) (by omega) (by omega), show (256 : Nat) ^ k = 2 ^ (8 * k) from by rw [Nat.pow_mul], Int.natCast_emod, Int.natCast_pow]
  rfl

theorem BeJoins : tillrolllaw01_BeJoins.Pure := by
  intro a0 a1 h0 h1
  have b0 : 0 ≤ a0 ∧ a0 < 18446744073709551616 := by simp [Lit.wf, IntKind.min, IntKind.max, IntKind.signed, IntKind.bits] at h0; omega
  have b1 : 0 ≤ a1 ∧ a1 < 256 := by simp [Lit.wf, IntKind.min, IntKind.max, IntKind.signed, IntKind.bits] at h1; omega
  obtain ⟨n, rfl⟩ := Int.eq_ofNat_of_zero_le b0.1
  obtain ⟨j, hj, hj1, hj7⟩ : ∃ j : Nat, wrap64 (1 + wrap64 (Int.tmod a1 7)) = (j : Int) ∧ 1 ≤ j ∧ j ≤ 7 := by
    obtain ⟨c, rfl⟩ := Int.eq_ofNat_of_zero_le b1.1
    refine ⟨1 + c % 7, ?_, by omega, by omega⟩
    rw [Int.tmod_eq_emod_of_nonneg (by omega), wrap64_in ((c : Int) % 7) (by omega) (by omega), wrap64_in _ (by omega) (by omega)]
    omega
  obtain ⟨s1, s2, z1, z2, p1, p2, p3, g1, g2⟩ := joins_facts n (by omega) j hj1 hj7
  have hz : (s1 ++ s2).size = 8 := by rw [ByteArray.size_append]; omega
  have e8 : wrap64 (8 * (j : Int)) = ((8 * j : Nat) : Int) := by rw [wrap64_in _ (by omega) (by omega)]; omega
  have e9 : wrap64 (8 - (j : Int)) = ((8 - j : Nat) : Int) := by rw [wrap64_in _ (by omega) (by omega)]; omega
  have hs : shr .u64 (n : Int) ((8 * j : Nat) : Int) = ((n / 256 ^ j : Nat) : Int) := by
    unfold shr
    have e1 : min (((8 * j : Nat) : Int)).toNat IntKind.u64.bits = 8 * j := by show min (((8 * j : Nat) : Int)).toNat 64 = _; omega
    rw [e1, show (256 : Nat) ^ j = 2 ^ (8 * j) from by rw [Nat.pow_mul], Int.natCast_ediv, Int.natCast_pow]; rfl
  have hl : IntKind.u64.wrap (shl .u64 1 ((8 * j : Nat) : Int) - 1) = 2 ^ (8 * j) - 1 := by
    unfold shl
    have e1 : min (((8 * j : Nat) : Int)).toNat IntKind.u64.bits = 8 * j := by show min (((8 * j : Nat) : Int)).toNat 64 = _; omega
    have e2 : (2 : Nat) ^ (8 * j) ≤ 72057594037927936 := by
      have : (2 : Nat) ^ (8 * j) ≤ 2 ^ 56 := Nat.pow_le_pow_right (by decide) (by omega)
      simpa using this
    have e3 := Nat.two_pow_pos (8 * j)
    have e4 : ((2 : Int) ^ (8 * j)) = ((2 ^ (8 * j) : Nat) : Int) := by rw [Int.natCast_pow]; rfl
    rw [e1, e4]
    generalize 2 ^ (8 * j) = x at *
    rw [wrap_u64_in (1 * (x : Int)) (by omega) (by omega), wrap_u64_in _ (by omega) (by omega)]
    omega
  refine ⟨100, ?_⟩
  unfold tillrolllaw01_BeJoins.f
  rw [hj, e8, e9, hs, hl, if_pos (by omega), p1, Option.bind_some, p2, Option.bind_some, if_pos (by omega), wakes_f 100 (by decide), Option.bind_some, if_pos rfl, p3, Option.bind_some, if_pos rfl, if_pos (by omega), if_pos (by omega),
    Int.toNat_natCast, g1, Option.bind_some, if_pos (and_low n (by omega) j hj7 _ rfl).symm, g2, Option.bind_some]
  simp
end Go.Proofs.Ytogaopfkmmnkiaa.Pure
