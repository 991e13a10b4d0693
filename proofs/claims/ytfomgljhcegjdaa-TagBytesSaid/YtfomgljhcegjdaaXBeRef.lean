/- What the document's functions of layer 1 come to, and the signs of life: plain. No conditions beyond the kinds of the numbers. -/
import Derived.Test.YtfomgljhcegjdaaXBePure
import Derived.Test.YtfomgljhcegjdaaPx2
import Derived.Test.YtfomgljhcegjdaaPx9
namespace Go.Proofs.Ytfomgljhcegjdaa
open Go.RowKit Go.Proofs.YtfomgljhcegjdaaW.PrintWords Go.Proofs.YtfomgljhcegjdaaW.PrintLast Go.Proofs.YtfomgljhcegjdaaW.PrintMore Go.Proofs.Ytfomgljhcegjdaa.P
set_option linter.unusedVariables false
set_option linter.unusedSimpArgs false
namespace BeS

theorem tmod_nat (a b : Nat) : Int.tmod (a : Int) (b : Int) = ((a % b : Nat) : Int) := by rw [Int.tmod_eq_emod_of_nonneg (by omega)]; rfl
theorem tdiv_nat (a b : Nat) : Int.tdiv (a : Int) (b : Int) = ((a / b : Nat) : Int) := by rw [Int.tdiv_eq_ediv_of_nonneg (by omega)]; rfl

theorem ref_put_l0 (n : Nat) (hn : n < 18446744073709551616) (w : Nat) (hw : w ≤ 8) (d : Nat) : ∀ (k i : Nat), i + d = w → d < k →
    tillrollref01_Put.l0 k ((n / 256 ^ i : Nat) : Int) (w : Int) (str (putL n i)) (i : Int) = some (str (putL n w)) := by
  induction d with
  | zero =>
    intro k i h hk
    obtain ⟨k, rfl⟩ : ∃ m, k = m + 1 := ⟨k - 1, by omega⟩
    obtain rfl : i = w := by omega
    simp only [tillrollref01_Put.l0]
    rw [if_neg (by omega)]
  | succ d ih =>
    intro k i h hk
    obtain ⟨k, rfl⟩ : ∃ m, k = m + 1 := ⟨k - 1, by omega⟩
    have hq : n / 256 ^ i < 18446744073709551616 := Nat.lt_of_le_of_lt (Nat.div_le_self _ _) hn
    have e1 : strOfNums [Int.tmod ((n / 256 ^ i : Nat) : Int) 256 % 256] = str [UInt8.ofNat (n / 256 ^ i)] := by
      rw [show (256 : Int) = ((256 : Nat) : Int) from rfl, tmod_nat, strOfNums_cons]
      simp only [strOfNums]
      congr 2
      apply UInt8.toNat.inj
      simp only [UInt8.toNat_ofNat']
      omega
    have e2 : IntKind.u64.wrap (Int.tdiv ((n / 256 ^ i : Nat) : Int) 256) = ((n / 256 ^ (i + 1) : Nat) : Int) := by
      have hq1 : n / 256 ^ (i + 1) < 18446744073709551616 := Nat.lt_of_le_of_lt (Nat.div_le_self _ _) hn
      rw [show (256 : Int) = ((256 : Nat) : Int) from rfl, tdiv_nat, Nat.div_div_eq_div_mul, ← Nat.pow_succ]
      generalize n / 256 ^ (i + 1) = q at hq1 ⊢
      exact wrap_u64_in _ (by omega) (by omega)
    simp only [tillrollref01_Put.l0]
    rw [if_pos (by omega)]
    simp only [Option.bind_some]
    rw [e1, e2, if_pos (by rw [str_size, str_size, putL_length]; simp; omega), str_append, wrap64_in _ (by omega) (by omega)]
    have := ih k (i + 1) (by omega) (by omega)
    rw [putL, Int.natCast_add] at this
    exact this

theorem ref_put_f (n : Nat) (hn : n < 18446744073709551616) (a1 : Int) (k : Nat) (hk : 10 < k) : tillrollref01_Put.f k (n : Int) a1 = some (if 1 ≤ a1 ∧ a1 ≤ 8 then str (putL n a1.toNat) else str []) := by
  obtain ⟨k, rfl⟩ : ∃ m, k = m + 1 := ⟨k - 1, by omega⟩
  unfold tillrollref01_Put.f
  simp only [tillrollref01_Put.j0]
  by_cases h1 : a1 < 1
  · rw [if_pos h1, if_pos trivial, if_neg (by omega)]; rfl
  · rw [if_neg h1]
    by_cases h8 : a1 > 8
    · rw [if_pos (by simpa using h8), if_neg (by omega)]; rfl
    · rw [if_neg (by simpa using h8), if_pos (by omega)]
      obtain ⟨w, rfl⟩ := Int.eq_ofNat_of_zero_le (show 0 ≤ a1 by omega)
      have := ref_put_l0 n hn w (by omega) w k 0 (by omega) (by omega)
      simp only [Nat.pow_zero, Nat.div_one, putL] at this
      exact this
theorem ref_put_in (n : Nat) (hn : n < 18446744073709551616) (w : Nat) (h1 : 1 ≤ w) (h8 : w ≤ 8) (k : Nat) (hk : 10 < k) : tillrollref01_Put.f k (n : Int) (w : Int) = some (str (putL n w)) := by
  rw [ref_put_f n hn _ k hk, if_pos ⟨by omega, by omega⟩]; rfl

theorem ref_get_l0 (s : ByteArray) (hs : s.size ≤ 8) (d : Nat) : ∀ (k i acc : Nat), i + d = s.size → d < k → acc < 256 ^ i →
    tillrollref01_Get.l0 k s (acc : Int) (i : Int) = some (((s.data.toList.drop i).foldl (fun n b => n * 256 + b.toNat) acc : Nat) : Int) := by
  have hl : s.data.toList.length = s.size := Array.length_toList
  induction d with
  | zero =>
    intro k i acc h hk ha
    obtain ⟨k, rfl⟩ : ∃ m, k = m + 1 := ⟨k - 1, by omega⟩
    simp only [tillrollref01_Get.l0]
    rw [if_neg (by omega), List.drop_of_length_le (by omega)]
    rfl
  | succ d ih =>
    intro k i acc h hk ha
    obtain ⟨k, rfl⟩ : ∃ m, k = m + 1 := ⟨k - 1, by omega⟩
    have hi : i < s.data.toList.length := by omega
    have hb := (s.data.toList[i]).toNat_lt
    have hp : 256 ^ (i + 1) ≤ 18446744073709551616 := by
      have : (256 : Nat) ^ (i + 1) ≤ 256 ^ 8 := Nat.pow_le_pow_right (by decide) (by omega)
      simpa using this
    rw [Nat.pow_succ] at hp
    simp only [tillrollref01_Get.l0]
    rw [if_pos (by omega), if_pos (by omega), bt_nat s i (by omega), wrap_u64_in (256 * (acc : Int)) (by omega) (by omega), wrap_u64_in ((s.data.toList[i]).toNat : Int) (by omega) (by omega), wrap_u64_in _ (by omega) (by omega), wrap64_in _ (by omega) (by omega)]
    have e := ih k (i + 1) (acc * 256 + (s.data.toList[i]).toNat) (by omega) (by omega) (by rw [Nat.pow_succ]; omega)
    rw [List.drop_eq_getElem_cons hi, List.foldl_cons, ← e]
    congr 1
    omega

theorem ref_get_short (s : ByteArray) (hs : s.size ≤ 8) (k : Nat) (hk : 10 < k) : tillrollref01_Get.j0 k s = some ((getN s.data.toList : Nat) : Int) := by
  obtain ⟨k, rfl⟩ : ∃ m, k = m + 1 := ⟨k - 1, by omega⟩
  simp only [tillrollref01_Get.j0]
  exact ref_get_l0 s hs s.size k 0 0 (by omega) (by omega) (by decide)

theorem ref_get_f (s : ByteArray) (hs : s.size ≤ 9223372036854775806) (k : Nat) (hk : 10 < k) : tillrollref01_Get.f k s = some ((getN s.data.toList % 18446744073709551616 : Nat) : Int) := by
  unfold tillrollref01_Get.f
  by_cases h : (s.size : Int) > 8
  · have hl : s.data.toList.length = s.size := Array.length_toList
    rw [if_pos h, wrap64_in _ (by omega) (by omega), if_pos (by omega), if_pos (by omega)]
    obtain ⟨m, hm⟩ : ∃ m : Nat, s.size = m + 8 := ⟨s.size - 8, by omega⟩
    have e : ((s.size : Int) - 8).toNat = m := by omega
    have e2 : s.extract m s.size = str (s.data.toList.drop m) := by
      conv => lhs; rw [of_data s]
      rw [str_extract, ← of_data, List.take_of_length_le (by omega)]
    have hd : (s.data.toList.drop m).length = 8 := by rw [List.length_drop]; omega
    rw [e, e2, ref_get_short _ (by rw [str_size]; omega) k hk, str_data]
    have e3 : getN s.data.toList = getN (s.data.toList.take m) * 256 ^ 8 + getN (s.data.toList.drop m) := by
      conv => lhs; rw [← List.take_append_drop m s.data.toList, getN_append, hd]
    have h3 := getN_lt (s.data.toList.drop m)
    rw [hd] at h3
    have h4 : (256 : Nat) ^ 8 = 18446744073709551616 := by decide
    rw [h4] at e3 h3
    rw [e3]
    congr 1
    omega
  · rw [if_neg h, ref_get_short s (by omega) k hk, Nat.mod_eq_of_lt]
    have h1 := getN_lt s.data.toList
    have h2 : 256 ^ s.data.toList.length ≤ 256 ^ 8 := Nat.pow_le_pow_right (by decide) (by rw [Array.length_toList]; show s.size ≤ 8; omega)
    have : (256 : Nat) ^ 8 = 18446744073709551616 := by decide
    omega


end BeS
end Go.Proofs.Ytfomgljhcegjdaa
