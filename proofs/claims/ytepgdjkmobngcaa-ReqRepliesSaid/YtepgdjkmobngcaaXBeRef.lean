/- What the document's functions of layer 1 come to, and the signs of life: plain. No conditions beyond the kinds of the numbers. -/
import Derived.Test.YtepgdjkmobngcaaXBePure
import Derived.Test.YtepgdjkmobngcaaPx4
import Derived.Test.YtepgdjkmobngcaaPx3
namespace Go.Proofs.Ytepgdjkmobngcaa
open Go.RowKit Go.Proofs.YtepgdjkmobngcaaW.PrintWords Go.Proofs.YtepgdjkmobngcaaW.PrintLast Go.Proofs.YtepgdjkmobngcaaW.PrintMore Go.Proofs.Ytepgdjkmobngcaa.P
set_option linter.unusedVariables false
set_option linter.unusedSimpArgs false
namespace BeS

theorem tmod_nat (a b : Nat) : Int.tmod (a : Int) (b : Int) = ((a % b : Nat) : Int) := by rw [Int.tmod_eq_emod_of_nonneg (by omega)]; rfl
theorem tdiv_nat (a b : Nat) : Int.tdiv (a : Int) (b : Int) = ((a / b : Nat) : Int) := by rw [Int.tdiv_eq_ediv_of_nonneg (by omega)]; rfl

theorem ref_put_l0 (n : Nat) (hn : n < 18446744073709551616) (w : Nat) (hw : w ≤ 8) (d : Nat) : ∀ (k i : Nat), i + d = w → d < k →
    tillrollref01_Put.l0 k ((n / 256 ^ i : Nat) : Int) (w : Int) (str (putL n i)) (i : Int) = some (str (putL n w)) := by
  induction d with
  | zero =>
    intro k i h hk
    obtain ⟨k, rfl⟩ : ∃ m, k = m + 1 := ⟨k - 1, by omega⟩
    obtain rfl : i = w := by omega
    simp only [tillrollref01_Put.l0]
    rw [if_neg (by omega)]
  | succ d ih =>
    intro k i h hk
    obtain ⟨k, rfl⟩ : ∃ m, k = m + 1 := ⟨k - 1, by omega⟩
    have hq : n / 256 ^ i < 18446744073709551616 := Nat.lt_of_le_of_lt (Nat.div_le_self _ _) hn
    have e1 : strOfNums [Int.tmod ((n / 256 ^ i : Nat) : Int) 256 % 256] = str [UInt8.ofNat (n / 256 ^ i)] := by
      rw [show (256 : Int) = ((256 : Nat) : Int) from rfl, tmod_nat, strOfNums_cons]
      simp only [strOfNums]
      congr 2
      apply UInt8.toNat.inj
      simp only [UInt8.toNat_ofNat']
      omega
    have e2 : IntKind.u64.wrap (Int.tdiv ((n / 256 ^ i : Nat) : Int) 256) = ((n / 256 ^ (i + 1) : Nat) : Int) := by
      have hq1 : n / 256 ^ (i + 1) < 18446744073709551616 := Nat.lt_of_le_of_lt (Nat.div_le_self _ _) hn
      rw [show (256 : Int) = ((256 : Nat) : Int) from rfl, tdiv_nat, Nat.div_div_eq_div_mul, ← Nat.pow_succ]
      generalize n / 256 ^ (i + 1) = q at hq1 ⊢
      exact wrap_u64_in _ (by omega) (by omega)
    simp only [tillrollref01_Put.l0]
    rw [if_pos (by omega)]
    simp only [Option.bind_some]
    rw [e1, e2, if_pos (by rw [str_size, str_size, putL_length]; simp; omega), str_append, wrap64_in _ (by omega) (by omega)]
    have := ih k (i + 1) (by omega) (by omega)
    rw [putL, Int.natCast_add] at this
    exact this

theorem ref_put_f (n : Nat) (hn : n < 18446744073709551616) (a1 : Int) (k : Nat) (hk : 10 < k) : tillrollref01_Put.f k (n : Int) a1 = some (if 1 ≤ a1 ∧ a1 ≤ 8 then str (putL n a1.toNat) else str []) := by
  obtain ⟨k, rfl⟩ : ∃ m, k = m + 1 := ⟨k - 1, by omega⟩
  unfold tillrollref01_Put.f
  simp only [tillrollref01_Put.j0]
  by_cases h1 : a1 < 1
  · rw [if_pos h1, if_pos trivial, if_neg (by omega)]; rfl
  · rw [if_neg h1]
    by_cases h8 : a1 > 8
    · rw [if_pos (by simpa using h8), if_neg (by omega)]; rfl
    · rw [if_neg (by simpa using h8), if_pos (by omega)]
      obtain ⟨w, rfl⟩ := Int.eq_ofNat_of_zero_le (show 0 ≤ a1 by omega)
      have := ref_put_l0 n hn w (by omega) w k 0 (by omega) (by omega)
      simp only [Nat.pow_zero, Nat.div_one, putL] at this
      exact this
theorem ref_put_in (n : Nat) (hn : n < 18446744073709551616) (w : Nat) (h1 : 1 ≤ w) (h8 : w ≤ 8) (k : Nat) (hk : 10 < k) : tillrollref01_Put.f k (n : Int) (w : Int) = some (str (putL n w)) := by
  rw [ref_put_f n hn _ k hk, if_pos ⟨by omega, by omega⟩]; rfl




theorem power_l0 (e : Nat) (he : e < 64) (d : Nat) : ∀ (k i : Nat), i + d = e → d < k → tillrollref01_power.l0 k (e : Int) ((2 ^ i : Nat) : Int) (i : Int) = some ((2 ^ e : Nat) : Int) := by
  induction d with
  | zero =>
    intro k i h hk
    obtain ⟨k, rfl⟩ : ∃ m, k = m + 1 := ⟨k - 1, by omega⟩
    obtain rfl : i = e := by omega
    simp only [tillrollref01_power.l0]
    rw [if_neg (by omega)]
  | succ d ih =>
    intro k i h hk
    obtain ⟨k, rfl⟩ : ∃ m, k = m + 1 := ⟨k - 1, by omega⟩
    have hp : (2 : Nat) ^ (i + 1) ≤ 9223372036854775808 := by
      have : (2 : Nat) ^ (i + 1) ≤ 2 ^ 63 := Nat.pow_le_pow_right (by decide) (by omega)
      simpa using this
    rw [Nat.pow_succ] at hp
    simp only [tillrollref01_power.l0]
    rw [if_pos (by omega), wrap_u64_in _ (by omega) (by omega), wrap64_in _ (by omega) (by omega)]
    have e := ih k (i + 1) (by omega) (by omega)
    rw [← e, Nat.pow_succ]
    congr 1
    omega
theorem power_f (e : Nat) (he : e < 64) (k : Nat) (hk : 64 < k) : tillrollref01_power.f k (e : Int) = some ((2 ^ e : Nat) : Int) := power_l0 e he e k 0 (by omega) (by omega)

theorem ref_fits_f (n : Nat) (hn : n < 18446744073709551616) (w : Int) (k : Nat) (hk : 70 < k) : tillrollref01_Fits.f k (n : Int) w = some (fits n w) := by
  obtain ⟨k, rfl⟩ : ∃ m, k = m + 1 := ⟨k - 1, by omega⟩
  unfold tillrollref01_Fits.f fits
  simp only [tillrollref01_Fits.j0]
  by_cases h1 : w < 1
  · rw [if_pos h1, if_pos trivial]; congr 1; symm; rw [decide_eq_false_iff_not]; omega
  · rw [if_neg h1]
    by_cases h8 : w > 8
    · rw [if_pos (by simpa using h8)]; congr 1; symm; rw [decide_eq_false_iff_not]; omega
    · rw [if_neg (by simpa using h8)]
      obtain ⟨j, rfl⟩ := Int.eq_ofNat_of_zero_le (show 0 ≤ w by omega)
      rw [show ((j : Nat) : Int).toNat = j from rfl]
      by_cases h : (j : Int) = 8
      · rw [if_pos h]
        obtain rfl : j = 8 := by omega
        congr 1; symm; rw [decide_eq_true_eq]
        exact ⟨by omega, by omega, by simpa using hn⟩
      · have e : ((8 : Int) * (j : Int)) = ((8 * j : Nat) : Int) := by omega
        rw [if_neg h, wrap64_in _ (by omega) (by omega), e, power_f (8 * j) (by omega) k (by omega)]
        simp only [Option.bind_some]
        congr 1
        have e2 : (256 : Nat) ^ j = 2 ^ (8 * j) := by rw [Nat.pow_mul]
        rw [e2]
        simp only [decide_eq_decide]
        omega
end BeS
end Go.Proofs.Ytepgdjkmobngcaa
