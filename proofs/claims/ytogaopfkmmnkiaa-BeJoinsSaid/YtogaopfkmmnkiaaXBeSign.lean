/- The signs of numbers (be.Sign, be.Wide) in plain words. No conditions beyond the kinds of the numbers. -/
import Derived.Test.YtogaopfkmmnkiaaXBePure
import Derived.Test.YtogaopfkmmnkiaaPx6
import Derived.Test.YtogaopfkmmnkiaaPx7
namespace Go.Proofs.Ytogaopfkmmnkiaa
open Go.RowKit Go.Proofs.YtogaopfkmmnkiaaW.PrintWords Go.Proofs.YtogaopfkmmnkiaaW.PrintLast Go.Proofs.YtogaopfkmmnkiaaW.PrintMore Go.Proofs.Ytogaopfkmmnkiaa.P
set_option linter.unusedVariables false
set_option linter.unusedSimpArgs false
namespace BeS

/-- The lowest bits as a number with a sign. -/
def sg (n k : Nat) : Int := if n % 2 ^ k < 2 ^ (k - 1) then ((n % 2 ^ k : Nat) : Int) else ((n % 2 ^ k : Nat) : Int) - ((2 ^ k : Nat) : Int)

theorem two_half (k : Nat) (h : 1 ≤ k) : 2 ^ k = 2 * 2 ^ (k - 1) := by
  obtain ⟨j, rfl⟩ : ∃ j, k = j + 1 := ⟨k - 1, by omega⟩
  rw [Nat.pow_succ, Nat.mul_comm]; rfl

theorem sg_core (m p q h : Nat) (hq : q = 2 * h) (hp : 0 < p) (hph : p * h = 9223372036854775808) (hm : m < q) :
    (wrap64 (((m * p : Nat) : Int))) / ((p : Nat) : Int) = if m < h then ((m : Nat) : Int) else ((m : Nat) : Int) - ((q : Nat) : Int) := by
  subst hq
  by_cases c : m < h
  · rw [if_pos c]
    have hlt : m * p < 9223372036854775808 := by
      rw [← hph, Nat.mul_comm p h]; exact Nat.mul_lt_mul_of_pos_right c hp
    rw [wrap64_in _ (by omega) (by omega), Int.natCast_mul, Int.mul_ediv_cancel _ (by omega)]
  · rw [if_neg c]
    have h1 : 9223372036854775808 ≤ m * p := by
      rw [← hph, Nat.mul_comm p h]; exact Nat.mul_le_mul_right _ (by omega)
    have h2 : m * p < 18446744073709551616 := by
      have : m * p < 2 * h * p := Nat.mul_lt_mul_of_pos_right hm hp
      have e : 2 * h * p = 18446744073709551616 := by rw [Nat.mul_assoc, Nat.mul_comm h p, hph]
      omega
    have e : wrap64 ((m * p : Nat) : Int) = ((m * p : Nat) : Int) - 18446744073709551616 := by unfold wrap64; omega
    have e2 : ((m * p : Nat) : Int) - 18446744073709551616 = (((m : Nat) : Int) - ((2 * h : Nat) : Int)) * ((p : Nat) : Int) := by
      rw [Int.sub_mul, ← Int.natCast_mul, ← Int.natCast_mul, Nat.mul_assoc 2 h p, Nat.mul_comm h p, hph]; rfl
    rw [e, e2, Int.mul_ediv_cancel _ (by omega)]

theorem sign_f (n : Nat) (hn : n < 18446744073709551616) (k : Nat) (h1 : 1 ≤ k) (h64 : k ≤ 64) : be_Sign.f (n : Int) (k : Int) = some (sg n k) := by
  unfold be_Sign.f
  rw [if_neg (by omega), if_neg (by omega), wrap64_in _ (by omega) (by omega), if_pos (by omega)]
  congr 1
  unfold shl shr sg
  have e1 : min (64 - (k : Int)).toNat IntKind.u64.bits = 64 - k := by show min (64 - (k : Int)).toNat 64 = _; omega
  have e2 : min (64 - (k : Int)).toNat IntKind.i64.bits = 64 - k := by show min (64 - (k : Int)).toNat 64 = _; omega
  rw [e1, e2]
  have hpq : 2 ^ k * 2 ^ (64 - k) = 18446744073709551616 := by rw [← Nat.pow_add, show k + (64 - k) = 64 from by omega]
  have e3 : IntKind.u64.wrap ((n : Int) * 2 ^ (64 - k)) = (((n % 2 ^ k) * 2 ^ (64 - k) : Nat) : Int) := by
    have c : ((n : Int) * 2 ^ (64 - k)) = ((n * 2 ^ (64 - k) : Nat) : Int) := by rw [Int.natCast_mul, Int.natCast_pow]; rfl
    rw [wrap_u64, c]
    have := Nat.mul_mod_mul_right (2 ^ (64 - k)) n (2 ^ k)
    rw [hpq] at this
    rw [← this]
    rfl
  have e4 : ((2 : Int) ^ (64 - k)) = ((2 ^ (64 - k) : Nat) : Int) := by rw [Int.natCast_pow]; rfl
  rw [e3, e4]
  refine sg_core (n % 2 ^ k) (2 ^ (64 - k)) (2 ^ k) (2 ^ (k - 1)) (two_half k h1) (Nat.two_pow_pos _) ?_ (Nat.mod_lt _ (Nat.two_pow_pos _))
  rw [← Nat.pow_add, show 64 - k + (k - 1) = 63 from by omega]

theorem sign_out (n : Int) (k : Int) (h : k < 1 ∨ 64 < k) : be_Sign.f n k = some 0 := by
  unfold be_Sign.f
  rcases h with h | h
  · rw [if_pos h]
  · by_cases c : k < 1
    · rw [if_pos c]
    · rw [if_neg c, if_pos (by omega)]

theorem sg_range (n k : Nat) (h1 : 1 ≤ k) : -((2 ^ (k - 1) : Nat) : Int) ≤ sg n k ∧ sg n k < ((2 ^ (k - 1) : Nat) : Int) := by
  unfold sg
  have h2 := two_half k h1
  have h3 := Nat.mod_lt n (Nat.two_pow_pos k)
  split <;> omega

theorem pow_le (k : Nat) (h : k ≤ 64) : 2 ^ (k - 1) ≤ 9223372036854775808 := by
  have : 2 ^ (k - 1) ≤ 2 ^ 63 := Nat.pow_le_pow_right (by decide) (by omega)
  simpa using this

/-- A number in the range is got back. -/
theorem sg_back (n : Int) (k : Nat) (h1 : 1 ≤ k) (h64 : k ≤ 64) (hl : -((2 ^ (k - 1) : Nat) : Int) ≤ n) (hh : n < ((2 ^ (k - 1) : Nat) : Int)) : sg (n % 18446744073709551616).toNat k = n := by
  have h2 := two_half k h1
  have hp := pow_le k h64
  have hd : 2 ^ k ∣ 18446744073709551616 := by
    have : (18446744073709551616 : Nat) = 2 ^ k * 2 ^ (64 - k) := by rw [← Nat.pow_add, show k + (64 - k) = 64 from by omega]
    exact ⟨_, this⟩
  by_cases c : 0 ≤ n
  · obtain ⟨m, rfl⟩ := Int.eq_ofNat_of_zero_le c
    have e : ((m : Int) % 18446744073709551616).toNat = m := by omega
    rw [e]; unfold sg
    have e2 : m % 2 ^ k = m := Nat.mod_eq_of_lt (by omega)
    rw [e2, if_pos (by omega)]
  · obtain ⟨m, hm⟩ : ∃ m : Nat, n = -(m : Int) := ⟨n.natAbs, by omega⟩
    subst hm
    have e : ((-(m : Int)) % 18446744073709551616).toNat = 18446744073709551616 - m := by omega
    rw [e]; unfold sg
    obtain ⟨q, hq⟩ := hd
    have e2 : (18446744073709551616 - m) % 2 ^ k = 2 ^ k - m := by
      have hq0 : 0 < q := by
        rcases Nat.eq_zero_or_pos q with h | h
        · subst h; simp at hq
        · exact h
      have e3 : 18446744073709551616 - m = (2 ^ k - m) + 2 ^ k * (q - 1) := by
        rw [hq, Nat.mul_sub, Nat.mul_one]
        have : 2 ^ k ≤ 2 ^ k * q := Nat.le_mul_of_pos_right _ hq0
        omega
      rw [e3, Nat.add_mul_mod_self_left, Nat.mod_eq_of_lt (by omega)]
    rw [e2, if_neg (by omega)]
    omega

theorem wide_f (n : Int) (k : Nat) (h1 : 1 ≤ k) (h64 : k ≤ 64) : be_Wide.f n (k : Int) = some (decide (-((2 ^ (k - 1) : Nat) : Int) ≤ n ∧ n < ((2 ^ (k - 1) : Nat) : Int))) := by
  unfold be_Wide.f
  rw [if_pos (by omega), if_pos (by omega), wrap_u64]
  have e : n % 18446744073709551616 = (((n % 18446744073709551616).toNat : Nat) : Int) := by omega
  rw [e, sign_f _ (by omega) k h1 h64]
  simp only [Option.bind_some]
  congr 1
  rw [Bool.eq_iff_iff]
  simp only [beq_iff_eq, decide_eq_true_eq]
  constructor
  · intro h
    have := sg_range (n % 18446744073709551616).toNat k h1
    rw [h] at this
    exact this
  · rintro ⟨hl, hh⟩
    exact sg_back n k h1 h64 hl hh

theorem wide_out (n : Int) (k : Int) (h : k < 1 ∨ 64 < k) : be_Wide.f n k = some false := by
  unfold be_Wide.f
  rcases h with h | h
  · rw [if_neg (by omega)]
  · rw [if_pos (by omega), if_neg (by omega)]
end BeS
end Go.Proofs.Ytogaopfkmmnkiaa
