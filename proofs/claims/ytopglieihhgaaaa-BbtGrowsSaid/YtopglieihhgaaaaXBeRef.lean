/- What the document's functions of layer 1 come to, and the signs of life: plain. No conditions beyond the kinds of the numbers. -/
import Derived.Test.YtopglieihhgaaaaXBePure
import Derived.Test.YtopglieihhgaaaaPx11
namespace Go.Proofs.Ytopglieihhgaaaa
open Go.RowKit Go.Proofs.YtopglieihhgaaaaW.PrintWords Go.Proofs.YtopglieihhgaaaaW.PrintLast Go.Proofs.YtopglieihhgaaaaW.PrintMore Go.Proofs.Ytopglieihhgaaaa.P
set_option linter.unusedVariables false
set_option linter.unusedSimpArgs false
namespace BeS

theorem tmod_nat (a b : Nat) : Int.tmod (a : Int) (b : Int) = ((a % b : Nat) : Int) := by rw [Int.tmod_eq_emod_of_nonneg (by omega)]; rfl
theorem tdiv_nat (a b : Nat) : Int.tdiv (a : Int) (b : Int) = ((a / b : Nat) : Int) := by rw [Int.tdiv_eq_ediv_of_nonneg (by omega)]; rfl

theorem ref_put_l0 (n : Nat) (hn : n < 18446744073709551616) (w : Nat) (hw : w ≤ 8) (d : Nat) : ∀ (k i : Nat), i + d = w → d < k →
    tillrollref01_Put.l0 k ((n / 256 ^ i : Nat) : Int) (w : Int) (str (putL n i)) (i : Int) = some (str (putL n w)) := by
  induction d with
  | zero =>
    intro k i h hk
    obtain ⟨k, rfl⟩ : ∃ m, k = m + 1 := ⟨k - 1, by omega⟩
    obtain rfl : i = w := by omega
    simp only [tillrollref01_Put.l0]
    rw [if_neg (by omega)]
  | succ d ih =>
    intro k i h hk
    obtain ⟨k, rfl⟩ : ∃ m, k = m + 1 := ⟨k - 1, by omega⟩
    have hq : n / 256 ^ i < 18446744073709551616 := Nat.lt_of_le_of_lt (Nat.div_le_self _ _) hn
    have e1 : strOfNums [Int.tmod ((n / 256 ^ i : Nat) : Int) 256 % 256] = str [UInt8.ofNat (n / 256 ^ i)] := by
      rw [show (256 : Int) = ((256 : Nat) : Int) from rfl, tmod_nat, strOfNums_cons]
      simp only [strOfNums]
      congr 2
      apply UInt8.toNat.inj
      simp only [UInt8.toNat_ofNat']
      omega
    have e2 : IntKind.u64.wrap (Int.tdiv ((n / 256 ^ i : Nat) : Int) 256) = ((n / 256 ^ (i + 1) : Nat) : Int) := by
      have hq1 : n / 256 ^ (i + 1) < 18446744073709551616 := Nat.lt_of_le_of_lt (Nat.div_le_self _ _) hn
      rw [show (256 : Int) = ((256 : Nat) : Int) from rfl, tdiv_nat, Nat.div_div_eq_div_mul, ← Nat.pow_succ]
      generalize n / 256 ^ (i + 1) = q at hq1 ⊢
      exact wrap_u64_in _ (by omega) (by omega)
    simp only [tillrollref01_Put.l0]
    rw [if_pos (by omega)]
    simp only [Option.bind_some]
    rw [e1, e2, if_pos (by rw [str_size, str_size, putL_length]; simp; omega), str_append, wrap64_in _ (by omega) (by omega)]
    have := ih k (i + 1) (by omega) (by omega)
    rw [putL, Int.natCast_add] at this
    exact this

theorem ref_put_f (n : Nat) (hn : n < 18446744073709551616) (a1 : Int) (k : Nat) (hk : 10 < k) : tillrollref01_Put.f k (n : Int) a1 = some (if 1 ≤ a1 ∧ a1 ≤ 8 then str (putL n a1.toNat) else str []) := by
  obtain ⟨k, rfl⟩ : ∃ m, k = m + 1 := ⟨k - 1, by omega⟩
  unfold tillrollref01_Put.f
  simp only [tillrollref01_Put.j0]
  by_cases h1 : a1 < 1
  · rw [if_pos h1, if_pos trivial, if_neg (by omega)]; rfl
  · rw [if_neg h1]
    by_cases h8 : a1 > 8
    · rw [if_pos (by simpa using h8), if_neg (by omega)]; rfl
    · rw [if_neg (by simpa using h8), if_pos (by omega)]
      obtain ⟨w, rfl⟩ := Int.eq_ofNat_of_zero_le (show 0 ≤ a1 by omega)
      have := ref_put_l0 n hn w (by omega) w k 0 (by omega) (by omega)
      simp only [Nat.pow_zero, Nat.div_one, putL] at this
      exact this
theorem ref_put_in (n : Nat) (hn : n < 18446744073709551616) (w : Nat) (h1 : 1 ≤ w) (h8 : w ≤ 8) (k : Nat) (hk : 10 < k) : tillrollref01_Put.f k (n : Int) (w : Int) = some (str (putL n w)) := by
  rw [ref_put_f n hn _ k hk, if_pos ⟨by omega, by omega⟩]; rfl





end BeS
end Go.Proofs.Ytopglieihhgaaaa
