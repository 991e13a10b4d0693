/- What eight bits do is additive; a table's step is eight bits' steps; bits less than 32 apart are told: plain words. No conditions. -/
import Derived.Test.YtfomgljhcegjdaaXPolySpec
namespace Go.Proofs.Ytfomgljhcegjdaa
set_option linter.unusedVariables false
set_option linter.unusedSimpArgs false
namespace PoS
theorem up1_xor (x y : BitVec 32) : up1 (x ^^^ y) = up1 x ^^^ up1 y := by
  unfold up1
  rw [BitVec.shiftLeft_xor_distrib, BitVec.msb_xor]
  generalize x <<< 1 = a
  generalize y <<< 1 = b
  cases x.msb <;> cases y.msb
  · simp
  · simp [BitVec.xor_assoc]
  · simp only [Bool.xor_false, if_true, Bool.false_eq_true, if_false, BitVec.xor_zero]
    ac_rfl
  · simp only [Bool.xor_self, if_true, Bool.false_eq_true, if_false, BitVec.xor_zero]
    have e : a ^^^ 79764919#32 ^^^ (b ^^^ 79764919#32) = (a ^^^ b) ^^^ (79764919#32 ^^^ 79764919#32) := by ac_rfl
    rw [e, BitVec.xor_self, BitVec.xor_zero]
theorem up_xor (x y : BitVec 32) (k : Nat) : up (x ^^^ y) k = up x k ^^^ up y k := by
  induction k with
  | zero => rfl
  | succ k ih =>
    show up1 (up (x ^^^ y) k) = up1 (up x k) ^^^ up1 (up y k)
    rw [ih, up1_xor]
theorem up_zero (k : Nat) : up 0#32 k = 0#32 := by
  induction k with
  | zero => rfl
  | succ k ih =>
    show up1 (up 0#32 k) = _
    rw [ih]; rfl
theorem up_add (x : BitVec 32) (i j : Nat) : up x (i + j) = up (up x i) j := by
  induction j with
  | zero => rfl
  | succ j ih => show up1 (up x (i + j)) = up1 (up (up x i) j); rw [ih]
/-- Where no bit comes to the top, a state is shifted. -/
theorem up_low (x : BitVec 32) (m : Nat) : ∀ k, k ≤ m → x.toNat < 2 ^ (32 - m) → m ≤ 32 → up x k = x <<< k := by
  intro k
  induction k with
  | zero => intro _ _ _; show x = _; rw [BitVec.shiftLeft_zero]
  | succ k ih =>
    intro hk hx hm
    show up1 (up x k) = _
    rw [ih (by omega) hx hm]
    unfold up1
    have h1 : x.toNat * 2 ^ k < 2 ^ 31 := by
      have h2 : 2 ^ (32 - m) * 2 ^ k ≤ 2 ^ 31 := by rw [← Nat.pow_add]; exact Nat.pow_le_pow_right (by decide) (by omega)
      have h3 := Nat.mul_lt_mul_of_pos_right hx (Nat.two_pow_pos k)
      omega
    have hmsb : (x <<< k).msb = false := by
      rw [BitVec.msb_eq_decide, BitVec.toNat_shiftLeft, Nat.shiftLeft_eq, Nat.mod_eq_of_lt (by omega)]
      simp only [decide_eq_false_iff_not]
      omega
    rw [hmsb]
    simp only [Bool.false_eq_true, if_false, BitVec.xor_zero]
    rw [← BitVec.shiftLeft_add]
theorem split_top (s : BitVec 32) (c : BitVec 8) : s ^^^ (c.setWidth 32 <<< 24) = (((s >>> 24).setWidth 8 ^^^ c).setWidth 32 <<< 24) ^^^ (s &&& 0x00FFFFFF#32) := by
  have hm : ∀ i : Fin 32, (0x00FFFFFF#32).getLsbD i.val = decide (i.val < 24) := by decide
  apply BitVec.eq_of_getLsbD_eq
  intro i hi
  simp only [BitVec.getLsbD_xor, BitVec.getLsbD_and, BitVec.getLsbD_shiftLeft, BitVec.getLsbD_setWidth, BitVec.getLsbD_ushiftRight, hm ⟨i, hi⟩]
  by_cases h : i < 24
  · simp [h, hi]
  · have h1 : i - 24 < 8 := by omega
    have h2 : 24 + (i - 24) = i := by omega
    simp [h, hi, h1, h2, show i - 24 < 32 from by omega]
/-- The table's step. -/
theorem next_up (s : BitVec 32) (c : UInt8) : next s c = up (s ^^^ (c.toBitVec.setWidth 32 <<< 24)) 8 := by
  rw [split_top, up_xor]
  have h : up (s &&& 0x00FFFFFF#32) 8 = s <<< 8 := by
    rw [up_low _ 8 8 (Nat.le_refl _) (by rw [BitVec.toNat_and]; exact Nat.lt_of_le_of_lt Nat.and_le_right (by decide)) (by decide)]
    have hm : ∀ i : Fin 32, (0x00FFFFFF#32).getLsbD i.val = decide (i.val < 24) := by decide
    apply BitVec.eq_of_getLsbD_eq
    intro i hi
    simp only [BitVec.getLsbD_shiftLeft, BitVec.getLsbD_and]
    by_cases h8 : i < 8
    · simp [h8]
    · rw [hm ⟨i - 8, by omega⟩]
      simp [h8, show i - 8 < 24 from by omega]
  rw [h]
  unfold next tab idx
  exact BitVec.xor_comm _ _
theorem xor_four (s t a b : BitVec 32) : (s ^^^ t) ^^^ (a ^^^ b) = (s ^^^ a) ^^^ (t ^^^ b) := by ac_rfl
theorem next_xor (s t : BitVec 32) (c d : UInt8) : next (s ^^^ t) (c ^^^ d) = next s c ^^^ next t d := by
  have h : (c ^^^ d).toBitVec = c.toBitVec ^^^ d.toBitVec := UInt8.toBitVec_xor c d
  rw [next_up, next_up, next_up, ← up_xor, h, BitVec.setWidth_xor, BitVec.shiftLeft_xor_distrib, xor_four]
end PoS
end Go.Proofs.Ytfomgljhcegjdaa
