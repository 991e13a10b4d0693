/- What eight bits do to a state (poly.step), and the document's functions, in plain words over 32 bits. No conditions. -/
import Derived.Test.YtfomgljhcegjdaaXPolySpec
import Derived.Test.YtfomgljhcegjdaaPx3
namespace Go.Proofs.Ytfomgljhcegjdaa
open Go.RowKit Go.Proofs.YtfomgljhcegjdaaW.PrintWords Go.Proofs.YtfomgljhcegjdaaW.PrintLast Go.Proofs.YtfomgljhcegjdaaW.PrintMore Go.Proofs.Ytfomgljhcegjdaa.P
set_option linter.unusedVariables false
set_option linter.unusedSimpArgs false
namespace PoS
theorem w64_in (n : Int) (h0 : -9223372036854775808 ≤ n) (h1 : n < 9223372036854775808) : wrap64 n = n := by unfold wrap64; omega
theorem and_v (s t : BitVec 32) : Go.bits .and .u32 (v32 s) (v32 t) = v32 (s &&& t) := by
  unfold v32 Go.bits
  simp only [IntKind.bits, BitVec.ofInt_natCast, BitVec.ofNat_toNat, BitVec.setWidth_eq]
  rw [IntKind.wrap_u32]
  have := (s &&& t).isLt
  change (((s &&& t).toNat : Nat) : Int) % 4294967296 = _
  omega
theorem top_bit (s : BitVec 32) : (s &&& 0x80000000#32) = 0#32 ↔ s.msb = false := by
  have hm : s.msb = s.getLsbD 31 := by simp [BitVec.msb_eq_getLsbD_last]
  have ht : ∀ i : Fin 32, (0x80000000#32).getLsbD i.val = decide (i.val = 31) := by decide
  constructor
  · intro h
    have h2 : (s &&& 0x80000000#32).getLsbD 31 = false := by rw [h]; simp
    rw [BitVec.getLsbD_and] at h2
    rw [hm]
    simpa using h2
  · intro h
    apply BitVec.eq_of_getLsbD_eq
    intro i hi
    rw [BitVec.getLsbD_and, ht ⟨i, hi⟩]
    by_cases c : i = 31
    · subst c; rw [hm] at h; rw [h]; rfl
    · simp [c]
theorem up_out (s : BitVec 32) (k : Nat) : up s (k + 1) = up1 (up s k) := rfl
theorem step_l0 (s : BitVec 32) (d : Nat) : ∀ (k i : Nat), i + d = 8 → d < k → poly_step.l0 k (v32 (up s i)) (i : Int) = some (v32 (up s 8)) := by
  induction d with
  | zero =>
    intro k i h hk
    obtain ⟨k, rfl⟩ : ∃ m, k = m + 1 := ⟨k - 1, by omega⟩
    obtain rfl : i = 8 := by omega
    simp only [poly_step.l0]
    rw [if_neg (by omega)]
  | succ d ih =>
    intro k i h hk
    obtain ⟨k, rfl⟩ : ∃ m, k = m + 1 := ⟨k - 1, by omega⟩
    have e := ih k (i + 1) (by omega) (by omega)
    rw [Int.natCast_add, up_out] at e
    have et : (2147483648 : Int) = v32 0x80000000#32 := rfl
    have ep : (79764919 : Int) = v32 0x04C11DB7#32 := rfl
    simp only [poly_step.l0]
    rw [if_pos (by omega), et, and_v, shl1_v, w64_in _ (by omega) (by omega)]
    by_cases c : (up s i).msb = false
    · rw [if_pos (by rw [(top_bit _).2 c]; rfl)]
      unfold up1 at e
      rw [if_neg (by simp [c]), BitVec.xor_zero] at e
      exact e
    · rw [if_neg (fun h => c ((top_bit _).1 (v32_inj (h.trans rfl)))), ep, xor_v]
      unfold up1 at e
      rw [if_pos (by simpa using c)] at e
      exact e
theorem step_f (s : BitVec 32) (k : Nat) (hk : 8 < k) : poly_step.f k (v32 s) = some (v32 (up s 8)) := step_l0 s 8 k 0 (by omega) hk
theorem step_tab (b : Nat) (hb : b < 256) (k : Nat) (hk : 8 < k) : poly_step.f k ((b : Int) * (16777216 : Int)) = some (v32 (tabN b)) := by
  have e : ((b : Int) * (16777216 : Int)) = v32 (((BitVec.ofNat 8 b).setWidth 32) <<< 24) := by
    unfold v32
    rw [BitVec.toNat_shiftLeft, Nat.shiftLeft_eq, BitVec.toNat_setWidth, BitVec.toNat_ofNat]
    omega
  rw [e, step_f _ k hk]
  rfl
end PoS
end Go.Proofs.Ytfomgljhcegjdaa
