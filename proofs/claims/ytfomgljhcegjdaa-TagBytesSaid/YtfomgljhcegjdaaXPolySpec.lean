/- Checks of bytes (layer 2, poly): plain words over 32 bits, no program in sight. No conditions. -/
import Derived.WalkKit
import Derived.Laws.BitsLemmas
import Derived.Test.YtfomgljhcegjdaaWMore
namespace Go.Proofs.Ytfomgljhcegjdaa
open Go.RowKit Go.Proofs.YtfomgljhcegjdaaW.PrintWords Go.Proofs.YtfomgljhcegjdaaW.PrintLast Go.Proofs.YtfomgljhcegjdaaW.PrintMore
set_option linter.unusedVariables false
set_option linter.unusedSimpArgs false
namespace PoS

/-- One bit up. -/
def up1 (s : BitVec 32) : BitVec 32 := (s <<< 1) ^^^ (if s.msb then 0x04C11DB7#32 else 0#32)
def up (s : BitVec 32) : Nat → BitVec 32
  | 0 => s
  | k + 1 => up1 (up s k)
/-- What a byte does. -/
def tab (b : BitVec 8) : BitVec 32 := up ((b.setWidth 32) <<< 24) 8
def tabN (b : Nat) : BitVec 32 := tab (BitVec.ofNat 8 b)
def idx (s : BitVec 32) (c : UInt8) : BitVec 8 := (s >>> 24).setWidth 8 ^^^ c.toBitVec
def next (s : BitVec 32) (c : UInt8) : BitVec 32 := (s <<< 8) ^^^ tab (idx s c)
def more (s : BitVec 32) (l : List UInt8) : BitVec 32 := l.foldl next s
def sum (l : List UInt8) : BitVec 32 := ~~~(more (BitVec.allOnes 32) l)

/-- A word as the program's number. -/
def v32 (s : BitVec 32) : Int := ((s.toNat : Nat) : Int)

theorem v32_range (s : BitVec 32) : 0 ≤ v32 s ∧ v32 s < 4294967296 := by
  unfold v32
  have := s.isLt
  omega
theorem v32_inj {s t : BitVec 32} (h : v32 s = v32 t) : s = t := by
  unfold v32 at h
  exact BitVec.eq_of_toNat_eq (by omega)
theorem v32_of (n : Int) (h0 : 0 ≤ n) (h1 : n < 4294967296) : ∃ s : BitVec 32, n = v32 s := by
  refine ⟨BitVec.ofNat 32 n.toNat, ?_⟩
  unfold v32
  rw [BitVec.toNat_ofNat, Nat.mod_eq_of_lt (by omega)]
  omega
theorem xor_v (s t : BitVec 32) : Go.bits .xor .u32 (v32 s) (v32 t) = v32 (s ^^^ t) := by
  unfold v32 Go.bits
  simp only [IntKind.bits, BitVec.ofInt_natCast, BitVec.ofNat_toNat, BitVec.setWidth_eq]
  rw [IntKind.wrap_u32]
  have := (s ^^^ t).isLt
  change (((s ^^^ t).toNat : Nat) : Int) % 4294967296 = _
  omega
theorem shl8_v (s : BitVec 32) : v32 s * (256 : Int) % (4294967296 : Int) = v32 (s <<< 8) := by
  unfold v32
  rw [BitVec.toNat_shiftLeft, Nat.shiftLeft_eq]
  omega
theorem shl1_v (s : BitVec 32) : v32 s * (2 : Int) % (4294967296 : Int) = v32 (s <<< 1) := by
  unfold v32
  rw [BitVec.toNat_shiftLeft, Nat.shiftLeft_eq]
  omega
theorem shr24_v (s : BitVec 32) : v32 s / (16777216 : Int) = ((((s >>> 24).setWidth 8).toNat : Nat) : Int) := by
  unfold v32
  rw [BitVec.toNat_setWidth, BitVec.toNat_ushiftRight, Nat.shiftRight_eq_div_pow]
  have := s.isLt
  omega
theorem idx_v (s : BitVec 32) (c : UInt8) : Go.bits .xor .u8 (v32 s / (16777216 : Int)) ((c.toNat : Nat) : Int) = (((idx s c).toNat : Nat) : Int) := by
  rw [shr24_v]
  unfold idx Go.bits
  simp only [IntKind.bits, BitVec.ofInt_natCast, BitVec.ofNat_toNat, BitVec.setWidth_eq]
  rw [IntKind.wrap_u8]
  have h : BitVec.ofNat 8 c.toNat = c.toBitVec := by
    apply BitVec.eq_of_toNat_eq
    rw [BitVec.toNat_ofNat]
    have := c.toNat_lt
    exact Nat.mod_eq_of_lt this
  rw [h]
  have := ((s >>> 24).setWidth 8 ^^^ c.toBitVec).isLt
  change ((((s >>> 24).setWidth 8 ^^^ c.toBitVec).toNat : Nat) : Int) % 256 = _
  omega
theorem not_v (s : BitVec 32) : v32 (~~~s) = 4294967295 - v32 s := by
  unfold v32
  rw [BitVec.toNat_not]
  have := s.isLt
  omega
theorem tab_idx (s : BitVec 32) (c : UInt8) : tabN (idx s c).toNat = tab (idx s c) := by
  unfold tabN
  rw [BitVec.ofNat_toNat, BitVec.setWidth_eq]
theorem more_nil (s : BitVec 32) : more s [] = s := rfl
theorem more_cons (s : BitVec 32) (c : UInt8) (l : List UInt8) : more s (c :: l) = more (next s c) l := rfl
theorem more_append (s : BitVec 32) (l m : List UInt8) : more s (l ++ m) = more (more s l) m := List.foldl_append ..
end PoS
end Go.Proofs.Ytfomgljhcegjdaa
