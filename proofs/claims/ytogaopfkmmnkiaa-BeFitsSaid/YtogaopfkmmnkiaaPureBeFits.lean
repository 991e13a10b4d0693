/- BeFits: whether a number has room in a width, and its lowest bits as a number with a sign, is the document's answer, of every count of bits. No conditions beyond the form's own reach. -/
import Derived.Test.YtogaopfkmmnkiaaXBeWakes
import Derived.Test.YtogaopfkmmnkiaaXBeRef
import Derived.Test.YtogaopfkmmnkiaaPx13
import Derived.Test.YtogaopfkmmnkiaaPx14
import Derived.Test.YtogaopfkmmnkiaaPx15
namespace Go.Proofs.Ytogaopfkmmnkiaa.Pure
open Go.RowKit Go.Proofs.Ytogaopfkmmnkiaa.P Go.Proofs.Ytogaopfkmmnkiaa.BeS Go.Proofs.YtogaopfkmmnkiaaW.PrintWords Go.Proofs.YtogaopfkmmnkiaaW.PrintLast Go.Proofs.YtogaopfkmmnkiaaW.PrintMore

theorem ref_sign_f (n : Nat) (hn : n < 18446744073709551616) (j : Nat) (h1 : 1 ≤ j) (h64 : j ≤ 64) (k : Nat) (hk : 70 < k) : tillrollref01_Sign.f k (n : Int) (j : Int) = some (sg n j) := by
  obtain ⟨k, rfl⟩ : ∃ m, k = m + 1 := ⟨k - 1, by omega⟩
  unfold tillrollref01_Sign.f
  rw [if_neg (by omega)]
  simp only [tillrollref01_Sign.j0]
  rw [if_neg (by simp; omega)]
  by_cases h : (j : Int) = 64
  · obtain rfl : j = 64 := by omega
    rw [if_pos h]
    have e : sg n 64 = if n < 9223372036854775808 then (n : Int) else (n : Int) - 18446744073709551616 := by
      unfold sg
      rw [Nat.mod_eq_of_lt (by simpa using hn)]
      rfl
    rw [e]
    by_cases c : n < 9223372036854775808
    · rw [if_pos (by omega), if_pos c, wrap64_in _ (by omega) (by omega)]
    · rw [if_neg (by omega), if_neg c, wrap_u64_in _ (by omega) (by omega), wrap64_in ((n : Int) - 9223372036854775808) (by omega) (by omega), wrap64_in ((n : Int) - 9223372036854775808 - 9223372036854775807) (by omega) (by omega), wrap64_in _ (by omega) (by omega)]
      congr 1
      omega
  · have e1 : ((j : Int) - 1) = ((j - 1 : Nat) : Int) := by omega
    have h2 := two_half j h1
    have hp : 2 ^ (j - 1) ≤ 4611686018427387904 := by
      have : (2 : Nat) ^ (j - 1) ≤ 2 ^ 62 := Nat.pow_le_pow_right (by decide) (by omega)
      simpa using this
    have hpos := Nat.two_pow_pos (j - 1)
    have hm := Nat.mod_lt n (Nat.two_pow_pos j)
    rw [if_neg h, wrap64_in _ (by omega) (by omega), e1, power_f j (by omega) k (by omega), Option.bind_some, power_f (j - 1) (by omega) k (by omega), Option.bind_some, if_neg (by omega), tmod_nat]
    unfold sg
    generalize n % 2 ^ j = m at hm ⊢
    generalize 2 ^ (j - 1) = x at *
    rw [h2] at hm ⊢
    by_cases c : m < x
    · rw [if_pos (by omega), if_pos c, wrap64_in _ (by omega) (by omega)]
    · rw [if_neg (by omega), if_neg c, wrap_u64_in _ (by omega) (by omega), wrap64_in ((m : Int) - (x : Int)) (by omega) (by omega), wrap64_in (x : Int) (by omega) (by omega), wrap64_in _ (by omega) (by omega)]
      congr 1
      omega

theorem ref_wide_f (n : Int) (hn0 : -9223372036854775808 ≤ n) (hn1 : n < 9223372036854775808) (j : Nat) (h1 : 1 ≤ j) (h64 : j ≤ 64) (k : Nat) (hk : 70 < k) :
    tillrollref01_Wide.f k n (j : Int) = some (decide (-((2 ^ (j - 1) : Nat) : Int) ≤ n ∧ n < ((2 ^ (j - 1) : Nat) : Int))) := by
  obtain ⟨k, rfl⟩ : ∃ m, k = m + 1 := ⟨k - 1, by omega⟩
  unfold tillrollref01_Wide.f
  rw [if_neg (by omega)]
  simp only [tillrollref01_Wide.j0]
  rw [if_neg (by simp; omega)]
  by_cases h : (j : Int) = 64
  · obtain rfl : j = 64 := by omega
    rw [if_pos h]
    congr 1
    symm
    rw [decide_eq_true_eq]
    exact ⟨by simpa using hn0, by simpa using hn1⟩
  · have e1 : ((j : Int) - 1) = ((j - 1 : Nat) : Int) := by omega
    have hp : 2 ^ (j - 1) ≤ 4611686018427387904 := by
      have : (2 : Nat) ^ (j - 1) ≤ 2 ^ 62 := Nat.pow_le_pow_right (by decide) (by omega)
      simpa using this
    rw [if_neg h, wrap64_in _ (by omega) (by omega), e1, power_f (j - 1) (by omega) k (by omega), Option.bind_some]
    generalize 2 ^ (j - 1) = x at *
    rw [wrap64_in (x : Int) (by omega) (by omega), wrap64_in _ (by omega) (by omega)]
    by_cases c : n ≥ -(x : Int)
    · rw [if_pos c]; congr 1; simp only [decide_eq_decide]; omega
    · rw [if_neg c]; congr 1; symm; rw [decide_eq_false_iff_not]; omega

theorem fits_out (n : Int) (w : Int) (k : Nat) (hk : 1 < k) (h : w < 1 ∨ 64 < w) : tillrollref01_Sign.f k n w = some 0 ∧ tillrollref01_Wide.f k n w = some false := by
  obtain ⟨k, rfl⟩ : ∃ m, k = m + 1 := ⟨k - 1, by omega⟩
  unfold tillrollref01_Sign.f tillrollref01_Wide.f
  simp only [tillrollref01_Sign.j0, tillrollref01_Wide.j0]
  by_cases h1 : w < 1
  · rw [if_pos h1, if_pos h1]; exact ⟨if_pos trivial, if_pos trivial⟩
  · rw [if_neg h1, if_neg h1, if_pos (by simp; omega), if_pos (by simp; omega)]; exact ⟨rfl, rfl⟩

/-- One count of bits. -/
def same (n : Int) (w : Int) (k : Nat) : Prop :=
  (∃ b, be_Fits.f n w = some b ∧ tillrollref01_Fits.f k n w = some b) ∧ (∃ s, be_Sign.f n w = some s ∧ tillrollref01_Sign.f k n w = some s) ∧
    ∃ v, be_Wide.f (wrap64 n) w = some v ∧ tillrollref01_Wide.f k (wrap64 n) w = some v

theorem same_all (n : Nat) (hn : n < 18446744073709551616) (w : Int) (h0 : -9223372036854775808 ≤ w) (h1 : w < 9223372036854775808) (k : Nat) (hk : 70 < k) : same (n : Int) w k := by
  refine ⟨⟨_, fits_f n hn w h0 h1, ref_fits_f n hn w k hk⟩, ?_⟩
  by_cases h : 1 ≤ w ∧ w ≤ 64
  · obtain ⟨j, rfl⟩ := Int.eq_ofNat_of_zero_le (show 0 ≤ w by omega)
    exact ⟨⟨_, sign_f n hn j (by omega) (by omega), ref_sign_f n hn j (by omega) (by omega) k hk⟩, ⟨_, wide_f _ j (by omega) (by omega), ref_wide_f _ (by unfold wrap64; omega) (by unfold wrap64; omega) j (by omega) (by omega) k hk⟩⟩
  · have ho : w < 1 ∨ 64 < w := by omega
    exact ⟨⟨0, sign_out _ w ho, (fits_out _ w k (by omega) ho).1⟩, ⟨false, wide_out _ w ho, (fits_out _ w k (by omega) ho).2⟩⟩

theorem fits_round (n : Int) (l : List Int) (i : Nat) (hi : i < l.length) (k : Nat) (h : same n (rd l (i : Int)) k) (hl : l.length = 2) (r : Option Bool) (hr : tillrolllaw01_BeFits.l0 k n l 2 ((i : Int) + 1) = r) :
    tillrolllaw01_BeFits.l0 (k + 1) n l 2 (i : Int) = r := by
  obtain ⟨⟨b, e1, e2⟩, ⟨s, e3, e4⟩, v, e5, e6⟩ := h
  simp only [tillrolllaw01_BeFits.l0]
  rw [if_pos (by omega), if_pos (by omega), if_pos (by omega), e1, Option.bind_some, e2, Option.bind_some, if_neg (by simp), e3, Option.bind_some, e4, Option.bind_some, if_pos rfl, e5, Option.bind_some, e6, Option.bind_some, if_neg (by simp), wrap64_in _ (by omega) (by omega)]
  exact hr

theorem fits_end (n : Int) (l : List Int) (k : Nat) (hk : 10 < k) : tillrolllaw01_BeFits.l0 (k + 1) n l 2 2 = some true := by
  simp only [tillrolllaw01_BeFits.l0]
  rw [if_neg (by omega), wakes_f k hk]
  rfl

theorem BeFits : tillrolllaw01_BeFits.Pure := by
  intro a0 a1 h0 h1
  have b0 : 0 ≤ a0 ∧ a0 < 18446744073709551616 := by simp [Lit.wf, IntKind.min, IntKind.max, IntKind.signed, IntKind.bits] at h0; omega
  have b1 : -9223372036854775808 ≤ a1 ∧ a1 < 9223372036854775808 := by simp [Lit.wf, IntKind.min, IntKind.max, IntKind.signed, IntKind.bits] at h1; omega
  obtain ⟨n, rfl⟩ := Int.eq_ofNat_of_zero_le b0.1
  refine ⟨200, ?_⟩
  unfold tillrolllaw01_BeFits.f
  rw [Option.bind_some]
  have hm : 0 ≤ mx 0 a1 ∧ mx 0 a1 < 9223372036854775808 := by unfold mx; split <;> omega
  generalize hx : mx 0 a1 % 70 = x
  have hx0 : 0 ≤ x ∧ x < 70 := by omega
  refine fits_round (n : Int) [a1, x] 0 (by simp) 199 (same_all n (by omega) a1 b1.1 b1.2 199 (by omega)) rfl _ ?_
  refine fits_round (n : Int) [a1, x] 1 (by simp) 198 (same_all n (by omega) x (by omega) (by omega) 198 (by omega)) rfl _ ?_
  rw [show ((1 : Nat) : Int) + 1 = 2 from rfl]
  exact fits_end (n : Int) _ 197 (by omega)
end Go.Proofs.Ytogaopfkmmnkiaa.Pure
