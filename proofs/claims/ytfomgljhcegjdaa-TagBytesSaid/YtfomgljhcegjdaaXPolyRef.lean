/- The document's functions of layer 2, in plain words over 32 bits. Conditions: sizes. -/
import Derived.Test.YtfomgljhcegjdaaXPolyLin
import Derived.Test.YtfomgljhcegjdaaPx4
import Derived.Test.YtfomgljhcegjdaaPx4
import Derived.Test.YtfomgljhcegjdaaPx3
import Derived.Test.YtfomgljhcegjdaaPx3
import Derived.Test.YtfomgljhcegjdaaPx4
namespace Go.Proofs.Ytfomgljhcegjdaa
open Go.RowKit Go.Proofs.YtfomgljhcegjdaaW.PrintWords Go.Proofs.YtfomgljhcegjdaaW.PrintLast Go.Proofs.YtfomgljhcegjdaaW.PrintMore Go.Proofs.Ytfomgljhcegjdaa.P
set_option linter.unusedVariables false
set_option linter.unusedSimpArgs false
namespace PoS
theorem x64_in (n : Int) (h0 : -9223372036854775808 ≤ n) (h1 : n < 9223372036854775808) : wrap64 n = n := by unfold wrap64; omega
theorem xu_in (n : Int) (h0 : 0 ≤ n) (h1 : n < 18446744073709551616) : IntKind.u64.wrap n = n := by simp [IntKind.wrap, IntKind.bits, IntKind.signed]; omega
theorem xtmod (a b : Nat) : Int.tmod (a : Int) (b : Int) = ((a % b : Nat) : Int) := by rw [Int.tmod_eq_emod_of_nonneg (by omega)]; rfl
theorem xtdiv (a b : Nat) : Int.tdiv (a : Int) (b : Int) = ((a / b : Nat) : Int) := by rw [Int.tdiv_eq_ediv_of_nonneg (by omega)]; rfl

theorem bit_mod (n i : Nat) : n / 2 ^ i % 2 = if n.testBit i then 1 else 0 := by
  rw [Nat.testBit_eq_decide_div_mod_eq]
  by_cases h : n / 2 ^ i % 2 = 1
  · simp [h]
  · have : n / 2 ^ i % 2 = 0 := by omega
    simp [this]
theorem xor_step (a b i : Nat) : (a ^^^ b) % 2 ^ (i + 1) = (a ^^^ b) % 2 ^ i + (if a / 2 ^ i % 2 = b / 2 ^ i % 2 then 0 else 2 ^ i) := by
  rw [Nat.mod_pow_succ, bit_mod, bit_mod, bit_mod, Nat.testBit_xor]
  cases a.testBit i <;> cases b.testBit i <;> simp
theorem half_div (a i : Nat) : a / 2 ^ i / 2 = a / 2 ^ (i + 1) := by rw [Nat.div_div_eq_div_mul, Nat.pow_succ]

theorem ref_xor_l0 (a b : Nat) (ha : a < 4294967296) (hb : b < 4294967296) (d : Nat) : ∀ (k i : Nat), i + d = 32 → d < k →
    tillrollref02_Xor.l0 k ((a / 2 ^ i : Nat) : Int) ((b / 2 ^ i : Nat) : Int) (((a ^^^ b) % 2 ^ i : Nat) : Int) ((2 ^ i : Nat) : Int) (i : Int) = some (((a ^^^ b : Nat) : Int)) := by
  induction d with
  | zero =>
    intro k i h hk
    obtain ⟨k, rfl⟩ : ∃ m, k = m + 1 := ⟨k - 1, by omega⟩
    obtain rfl : i = 32 := by omega
    simp only [tillrollref02_Xor.l0]
    rw [if_neg (by omega), Nat.mod_eq_of_lt (Nat.xor_lt_two_pow (n := 32) (by omega) (by omega))]
  | succ d ih =>
    intro k i h hk
    obtain ⟨k, rfl⟩ : ∃ m, k = m + 1 := ⟨k - 1, by omega⟩
    have e := ih k (i + 1) (by omega) (by omega)
    rw [xor_step, ← half_div, ← half_div, Nat.pow_succ, Int.natCast_add i 1] at e
    have h1 : a / 2 ^ i ≤ a := Nat.div_le_self _ _
    have h2 : b / 2 ^ i ≤ b := Nat.div_le_self _ _
    have h3 : 2 ^ i ≤ 2147483648 := by
      have : (2 : Nat) ^ i ≤ 2 ^ 31 := Nat.pow_le_pow_right (by decide) (by omega)
      simpa using this
    have h4 : (a ^^^ b) % 2 ^ i < 2 ^ i := Nat.mod_lt _ (Nat.two_pow_pos i)
    simp only [tillrollref02_Xor.l0]
    generalize a / 2 ^ i = p at *
    generalize b / 2 ^ i = q at *
    generalize (a ^^^ b) % 2 ^ i = x at *
    generalize 2 ^ i = y at *
    rw [if_pos (by omega), show (2 : Int) = ((2 : Nat) : Int) from rfl, xtmod, xtmod, xtdiv, xtdiv, xu_in (((p / 2 : Nat)) : Int) (by omega) (by omega), xu_in (((q / 2 : Nat)) : Int) (by omega) (by omega), xu_in (((2 : Nat) : Int) * (y : Int)) (by omega) (by omega), x64_in _ (by omega) (by omega)]
    have e5 : ((2 : Nat) : Int) * (y : Int) = ((y * 2 : Nat) : Int) := by omega
    rw [e5]
    by_cases c : p % 2 = q % 2
    · rw [if_pos (by omega)]
      rw [if_pos c, Nat.add_zero] at e
      exact e
    · rw [if_neg (by omega), xu_in _ (by omega) (by omega), ← Int.natCast_add]
      rw [if_neg c] at e
      exact e
theorem ref_xor_f (a b : BitVec 32) (k : Nat) (hk : 32 < k) : tillrollref02_Xor.f k (v32 a) (v32 b) = some (v32 (a ^^^ b)) := by
  unfold tillrollref02_Xor.f
  have e := ref_xor_l0 a.toNat b.toNat a.isLt b.isLt 32 k 0 (by omega) hk
  rw [Nat.pow_zero, Nat.div_one, Nat.div_one, Nat.mod_one] at e
  unfold v32
  rw [BitVec.toNat_xor]
  exact e
/-- A bit more. -/
def stepb (s : BitVec 32) (b : Bool) : BitVec 32 := (s <<< 1) ^^^ (if s.msb = b then 0#32 else 0x04C11DB7#32)
theorem ref_step_f (s : BitVec 32) (b : Nat) (hb : b < 2) (k : Nat) (hk : 32 < k) : tillrollref02_step.f k (v32 s) (b : Int) = some (v32 (stepb s (b == 1))) := by
  have hs := s.isLt
  unfold tillrollref02_step.f
  have e0 : v32 s = ((s.toNat : Nat) : Int) := rfl
  have e1 : IntKind.u64.wrap (Int.tdiv (v32 s) 2147483648) = ((s.toNat / 2147483648 : Nat) : Int) := by
    rw [e0, show (2147483648 : Int) = ((2147483648 : Nat) : Int) from rfl, xtdiv, xu_in _ (by omega) (by omega)]
  have e2 : Int.tmod (IntKind.u64.wrap (2 * v32 s)) 4294967296 = v32 (s <<< 1) := by
    rw [← shl1_v, e0, xu_in _ (by omega) (by omega), Int.tmod_eq_emod_of_nonneg (by omega)]
    omega
  have e3 : s.msb = decide (s.toNat / 2147483648 = 1) := by
    rw [BitVec.msb_eq_decide]
    simp only [decide_eq_decide]
    omega
  rw [e1, e2]
  unfold stepb
  rw [e3]
  by_cases c : s.toNat / 2147483648 = b
  · rw [if_pos (by omega), if_pos (by rw [c]; rfl), BitVec.xor_zero]
  · have hne : ¬ decide (s.toNat / 2147483648 = 1) = (b == 1) := by
      intro h
      have h1 : (s.toNat / 2147483648 = 1) ↔ b = 1 := by
        have := Bool.eq_iff_iff.1 h
        simpa using this
      omega
    rw [if_neg (by omega), if_neg hne, show (79764919 : Int) = v32 0x04C11DB7#32 from rfl, ref_xor_f _ _ k hk, Option.bind_some]

theorem stepb_up (s : BitVec 32) (b : Bool) : stepb s b = up1 (s ^^^ (if b then 0x80000000#32 else 0#32)) := by
  unfold stepb up1
  cases b
  · simp only [Bool.false_eq_true, if_false, BitVec.xor_zero]
    cases s.msb <;> simp
  · simp only [if_true]
    have h1 : (s ^^^ 0x80000000#32).msb = !s.msb := by
      rw [BitVec.msb_xor]
      have : (0x80000000#32).msb = true := by decide
      rw [this]; simp
    have h2 : (s ^^^ 0x80000000#32) <<< 1 = s <<< 1 := by
      rw [BitVec.shiftLeft_xor_distrib, show (0x80000000#32) <<< 1 = 0#32 from by decide, BitVec.xor_zero]
    rw [h1, h2]
    cases s.msb <;> simp
/-- The bits of a byte that are left, at the top. -/
def left (c i : Nat) : BitVec 32 := BitVec.ofNat 32 (c * 2 ^ i % 256 * 16777216)
theorem left_step : ∀ c : Fin 256, ∀ i : Fin 8, up1 (left c.val i.val ^^^ (if (c.val * 2 ^ i.val % 256 / 128) == 1 then 0x80000000#32 else 0#32)) = left c.val (i.val + 1) := by decide +kernel
theorem left_end (c : Nat) : left c 8 = 0#32 := by
  unfold left
  rw [show c * 2 ^ 8 % 256 = 0 from by omega]
theorem xor_cancel (a b : BitVec 32) : a ^^^ b ^^^ b = a := by rw [BitVec.xor_assoc, BitVec.xor_self, BitVec.xor_zero]
theorem byte_steps (s : BitVec 32) (c i : Nat) (hc : c < 256) (hi : i < 8) : up (s ^^^ left c 0) (i + 1) ^^^ left c (i + 1) = stepb (up (s ^^^ left c 0) i ^^^ left c i) ((c * 2 ^ i % 256 / 128) == 1) := by
  rw [stepb_up, ← left_step ⟨c, hc⟩ ⟨i, hi⟩]
  show up1 (up (s ^^^ left c 0) i) ^^^ _ = _
  rw [← up1_xor]
  congr 1
  ac_rfl

theorem ref_more_l1 (s : BitVec 32) (x1 : ByteArray) (x5 : Int) (c : Nat) (hc : c < 256) (d : Nat) : ∀ (k i : Nat), i + d = 8 → d + 40 < k →
    tillrollref02_More.l1 k (v32 (up (s ^^^ left c 0) i ^^^ left c i)) x1 x5 ((c * 2 ^ i % 256 : Nat) : Int) (i : Int) = tillrollref02_More.l0 (k - d - 1) (v32 (up (s ^^^ left c 0) 8)) x1 (wrap64 (x5 + 1)) := by
  induction d with
  | zero =>
    intro k i h hk
    obtain ⟨k, rfl⟩ : ∃ m, k = m + 1 := ⟨k - 1, by omega⟩
    obtain rfl : i = 8 := by omega
    simp only [tillrollref02_More.l1]
    rw [if_neg (by omega), left_end, BitVec.xor_zero]
    rfl
  | succ d ih =>
    intro k i h hk
    obtain ⟨k, rfl⟩ : ∃ m, k = m + 1 := ⟨k - 1, by omega⟩
    have e := ih k (i + 1) (by omega) (by omega)
    have e1 : IntKind.u64.wrap (Int.tdiv ((c * 2 ^ i % 256 : Nat) : Int) 128) = ((c * 2 ^ i % 256 / 128 : Nat) : Int) := by
      rw [show (128 : Int) = ((128 : Nat) : Int) from rfl, xtdiv, xu_in _ (by omega) (by omega)]
    have e2 : Int.tmod (IntKind.u64.wrap (2 * ((c * 2 ^ i % 256 : Nat) : Int))) 256 = ((c * 2 ^ (i + 1) % 256 : Nat) : Int) := by
      rw [xu_in _ (by omega) (by omega), Int.tmod_eq_emod_of_nonneg (by omega), Nat.pow_succ, ← Nat.mul_assoc]
      omega
    simp only [tillrollref02_More.l1]
    rw [if_pos (by omega), e1, ref_step_f _ _ (by omega) k (by omega), Option.bind_some, e2, x64_in ((i : Int) + 1) (by omega) (by omega), ← byte_steps s c i hc (by omega)]
    rw [Int.natCast_add i 1] at e
    rw [show k + 1 - (d + 1) - 1 = k - d - 1 from by omega]
    exact e

theorem left_zero (c : UInt8) : left c.toNat 0 = c.toBitVec.setWidth 32 <<< 24 := by
  unfold left
  apply BitVec.eq_of_toNat_eq
  rw [BitVec.toNat_ofNat, BitVec.toNat_shiftLeft, Nat.shiftLeft_eq, BitVec.toNat_setWidth]
  have h := c.toNat_lt
  have e : c.toBitVec.toNat = c.toNat := rfl
  rw [e]
  omega
theorem left_next (s : BitVec 32) (c : UInt8) : up (s ^^^ left c.toNat 0) 8 = next s c := by
  rw [next_up, left_zero]

theorem ref_more_l0 (s : ByteArray) (hs : s.size ≤ 9223372036854775806) (d : Nat) : ∀ (k i : Nat) (st : BitVec 32), i + d = s.size → d * 10 + 60 < k →
    tillrollref02_More.l0 k (v32 st) s (i : Int) = some (v32 (more st (s.data.toList.drop i))) := by
  have hl : s.data.toList.length = s.size := Array.length_toList
  induction d with
  | zero =>
    intro k i st h hk
    obtain ⟨k, rfl⟩ : ∃ m, k = m + 1 := ⟨k - 1, by omega⟩
    simp only [tillrollref02_More.l0]
    rw [if_neg (by omega), List.drop_of_length_le (by omega)]
    rfl
  | succ d ih =>
    intro k i st h hk
    obtain ⟨k, rfl⟩ : ∃ m, k = m + 1 := ⟨k - 1, by omega⟩
    have hi : i < s.data.toList.length := by omega
    have hb : bt s (i : Int) = ((s.data.toList[i].toNat : Nat) : Int) := by
      unfold bt
      rw [dif_pos (by simpa using (show i < s.size by omega))]
      rfl
    have hc := (s.data.toList[i]).toNat_lt
    have e := ref_more_l1 st s (i : Int) (s.data.toList[i]).toNat hc 8 k 0 (by omega) (by omega)
    rw [show up (st ^^^ left (s.data.toList[i]).toNat 0) 0 = st ^^^ left (s.data.toList[i]).toNat 0 from rfl, xor_cancel, Nat.pow_zero, Nat.mul_one, Nat.mod_eq_of_lt hc, left_next] at e
    simp only [tillrollref02_More.l0]
    rw [if_pos (by omega), if_pos (by omega), hb, xu_in _ (by omega) (by omega), show (0 : Int) = ((0 : Nat) : Int) from rfl, e, x64_in _ (by omega) (by omega), List.drop_eq_getElem_cons hi, more_cons]
    have e2 := ih (k - 8 - 1) (i + 1) (next st s.data.toList[i]) (by omega) (by omega)
    rw [Int.natCast_add] at e2
    exact e2
theorem ref_more_f (s : ByteArray) (hs : s.size ≤ 9223372036854775806) (st : BitVec 32) (k : Nat) (hk : s.size * 10 + 60 < k) : tillrollref02_More.f k (v32 st) s = some (v32 (more st s.data.toList)) := by
  unfold tillrollref02_More.f
  exact ref_more_l0 s hs s.size k 0 st (by omega) hk
theorem ref_last_f (s : BitVec 32) : tillrollref02_Last.f (v32 s) = some (v32 (~~~s)) := by
  unfold tillrollref02_Last.f
  have := v32_range s
  rw [not_v, xu_in _ (by omega) (by omega)]
theorem ref_sum_f (s : ByteArray) (hs : s.size ≤ 9223372036854775806) (k : Nat) (hk : s.size * 10 + 60 < k) : tillrollref02_Sum.f k s = some (v32 (sum s.data.toList)) := by
  unfold tillrollref02_Sum.f
  rw [show (4294967295 : Int) = v32 (BitVec.allOnes 32) from rfl, ref_more_f s hs _ k hk, Option.bind_some, ref_last_f, Option.bind_some]
  rfl
end PoS
end Go.Proofs.Ytfomgljhcegjdaa
