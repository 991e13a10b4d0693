/- What the printed functions of layer 1 (be) come to, in plain words. No conditions beyond the kinds of the numbers. -/
import Derived.Test.YtepgdjkmobngcaaXBeSpec
import Derived.Test.YtepgdjkmobngcaaPx1
import Derived.Test.YtepgdjkmobngcaaPx1
import Derived.Test.YtepgdjkmobngcaaPx1
namespace Go.Proofs.Ytepgdjkmobngcaa
open Go.RowKit Go.Proofs.YtepgdjkmobngcaaW.PrintWords Go.Proofs.YtepgdjkmobngcaaW.PrintLast Go.Proofs.YtepgdjkmobngcaaW.PrintMore Go.Proofs.Ytepgdjkmobngcaa.P
set_option linter.unusedVariables false
set_option linter.unusedSimpArgs false
namespace BeS

theorem get_l0 (s : ByteArray) (hs : s.size ≤ 9223372036854775806) (d : Nat) : ∀ (k i acc : Nat), i + d = s.size → d < k → acc < 18446744073709551616 →
    be_Get.l0 k s (acc : Int) (s.size : Int) (i : Int) = some (((s.data.toList.drop i).foldl (fun n b => (n * 256 + b.toNat) % 18446744073709551616) acc : Nat) : Int) := by
  have hl : s.data.toList.length = s.size := Array.length_toList
  induction d with
  | zero =>
    intro k i acc h hk ha
    obtain ⟨k, rfl⟩ : ∃ m, k = m + 1 := ⟨k - 1, by omega⟩
    simp only [be_Get.l0]
    rw [if_neg (by omega), List.drop_of_length_le (by omega)]
    rfl
  | succ d ih =>
    intro k i acc h hk ha
    obtain ⟨k, rfl⟩ : ∃ m, k = m + 1 := ⟨k - 1, by omega⟩
    have hi : i < s.data.toList.length := by omega
    simp only [be_Get.l0]
    rw [if_pos (by omega), if_pos (by omega), if_pos (by omega), bt_nat s i (by omega), or_byte _ _ (UInt8.toNat_lt _), wrap64_in _ (by omega) (by omega)]
    have e := ih k (i + 1) ((acc * 256 + (s.data.toList[i]).toNat) % 18446744073709551616) (by omega) (by omega) (Nat.mod_lt _ (by decide))
    rw [List.drop_eq_getElem_cons hi, List.foldl_cons]
    rw [Int.natCast_add] at e
    exact e

theorem get_f (s : ByteArray) (hs : s.size ≤ 9223372036854775806) (k : Nat) (hk : s.size < k) : be_Get.f k s = some ((getN s.data.toList % 18446744073709551616 : Nat) : Int) := by
  unfold be_Get.f
  have e := get_l0 s hs s.size k 0 0 (by omega) hk (by decide)
  have m := foldl_mod s.data.toList 18446744073709551616 0
  rw [Nat.zero_mod] at m
  rw [List.drop_zero, m] at e
  exact e

theorem get_str (l : List UInt8) (hl : l.length ≤ 8) (k : Nat) (hk : 8 < k) : be_Get.f k (str l) = some ((getN l : Nat) : Int) := by
  rw [get_f _ (by rw [str_size]; omega) k (by rw [str_size]; omega), str_data, Nat.mod_eq_of_lt]
  have h1 := getN_lt l
  have h2 : 256 ^ l.length ≤ 256 ^ 8 := Nat.pow_le_pow_right (by decide) hl
  have : (256 : Nat) ^ 8 = 18446744073709551616 := by decide
  omega

theorem may_f (a : Int) : be_may.f a = some (decide (1 ≤ a ∧ a ≤ 8)) := by
  unfold be_may.f
  by_cases h : a ≥ 1
  · rw [if_pos h]; congr 1; simp only [decide_eq_decide]; omega
  · rw [if_neg h]; congr 1; symm; rw [decide_eq_false_iff_not]; omega

def fits (n : Nat) (w : Int) : Bool := decide (1 ≤ w ∧ w ≤ 8 ∧ n < 256 ^ w.toNat)

theorem fits_f (n : Nat) (hn : n < 18446744073709551616) (w : Int) (h0 : -9223372036854775808 ≤ w) (h1 : w < 9223372036854775808) : be_Fits.f (n : Int) w = some (fits n w) := by
  unfold be_Fits.f fits
  rw [may_f]
  simp only [Option.bind_some]
  by_cases h : 1 ≤ w ∧ w ≤ 8
  · obtain ⟨k, rfl⟩ := Int.eq_ofNat_of_zero_le (show 0 ≤ w by omega)
    rw [if_pos (by simpa using h), wrap64_in _ (by omega) (by omega), if_pos (by omega)]
    congr 1
    unfold shr
    have e1 : min (8 * (k : Int)).toNat IntKind.u64.bits = 8 * k := by
      show min (8 * (k : Int)).toNat 64 = 8 * k
      omega
    have e2 : (256 : Nat) ^ k = 2 ^ (8 * k) := by rw [Nat.pow_mul]
    rw [e1, show ((k : Int)).toNat = k from rfl, e2]
    have hp : 0 < 2 ^ (8 * k) := Nat.two_pow_pos _
    have e3 : ((n : Int) / 2 ^ (8 * k)) = ((n / 2 ^ (8 * k) : Nat) : Int) := by rw [Int.natCast_ediv, Int.natCast_pow]; rfl
    rw [e3, Bool.eq_iff_iff]
    simp only [beq_iff_eq, decide_eq_true_eq]
    have e4 : ((n / 2 ^ (8 * k) : Nat) : Int) = 0 ↔ n < 2 ^ (8 * k) := by
      rw [show (0 : Int) = ((0 : Nat) : Int) from rfl, Int.ofNat_inj, Nat.div_eq_zero_iff]
      omega
    rw [e4]
    omega
  · rw [if_neg (by simpa using h)]
    congr 1
    symm
    rw [decide_eq_false_iff_not]
    omega
end BeS
end Go.Proofs.Ytepgdjkmobngcaa
