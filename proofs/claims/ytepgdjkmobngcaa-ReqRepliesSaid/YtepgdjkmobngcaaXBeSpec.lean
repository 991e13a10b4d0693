/- Numbers as bytes, most significant first: plain lists and numbers, no program in sight. No conditions. -/
import Derived.WalkKit
import Derived.Laws.BitsLemmas
import Derived.Test.YtepgdjkmobngcaaXBe
import Derived.Test.YtepgdjkmobngcaaWMore
namespace Go.Proofs.Ytepgdjkmobngcaa
open Go.RowKit Go.Proofs.YtepgdjkmobngcaaW.PrintWords Go.Proofs.YtepgdjkmobngcaaW.PrintLast Go.Proofs.YtepgdjkmobngcaaW.PrintMore
set_option linter.unusedVariables false
set_option linter.unusedSimpArgs false
namespace BeS

def getN (l : List UInt8) : Nat := l.foldl (fun n b => n * 256 + b.toNat) 0
def putL (n : Nat) : Nat → List UInt8
  | 0 => []
  | k + 1 => UInt8.ofNat (n / 256 ^ k) :: putL n k

theorem putL_length (n k : Nat) : (putL n k).length = k := by induction k with
  | zero => rfl
  | succ k ih => simp [putL, ih]

theorem foldl_acc (l : List UInt8) : ∀ a : Nat, l.foldl (fun n b => n * 256 + b.toNat) a = a * 256 ^ l.length + getN l := by
  induction l with
  | nil => intro a; simp [getN]
  | cons b l ih =>
    intro a
    have h1 := ih (a * 256 + b.toNat)
    have h2 := ih (0 * 256 + b.toNat)
    simp only [List.foldl_cons, getN, List.length_cons] at h1 h2 ⊢
    rw [h1, h2, Nat.pow_succ, Nat.add_mul, Nat.add_mul, Nat.zero_mul, Nat.mul_assoc, Nat.mul_comm 256 (256 ^ l.length)]
    omega

theorem getN_cons (b : UInt8) (l : List UInt8) : getN (b :: l) = b.toNat * 256 ^ l.length + getN l := by
  have := foldl_acc l (0 * 256 + b.toNat)
  simpa [getN] using this

theorem getN_append (l m : List UInt8) : getN (l ++ m) = getN l * 256 ^ m.length + getN m := by
  unfold getN
  rw [List.foldl_append]
  exact foldl_acc m _

theorem getN_lt (l : List UInt8) : getN l < 256 ^ l.length := by
  induction l with
  | nil => simp [getN]
  | cons b l ih =>
    rw [getN_cons, List.length_cons, Nat.pow_succ]
    have hb : b.toNat ≤ 255 := by have := b.toNat_lt; omega
    have := Nat.mul_le_mul_right (256 ^ l.length) hb
    omega

theorem getN_putL (n k : Nat) : getN (putL n k) = n % 256 ^ k := by
  induction k with
  | zero => simp [putL, getN, Nat.mod_one]
  | succ k ih =>
    rw [putL, getN_cons, ih, putL_length, Nat.mod_pow_succ, Nat.mul_comm (256 ^ k)]
    simp
    exact Nat.add_comm _ _

theorem putL_add (m n k : Nat) : putL (m * 256 ^ k + n) k = putL n k := by
  suffices h : ∀ j, j ≤ k → putL (m * 256 ^ k + n) j = putL n j from h k (Nat.le_refl _)
  intro j hj
  induction j with
  | zero => rfl
  | succ j ih =>
    rw [putL, putL, ih (by omega)]
    congr 1
    obtain ⟨d, rfl⟩ : ∃ d, k = j + 1 + d := ⟨k - (j + 1), by omega⟩
    have e : m * 256 ^ (j + 1 + d) + n = n + (m * 256 ^ d * 256) * 256 ^ j := by
      rw [Nat.pow_add, Nat.pow_succ, Nat.mul_comm (256 ^ j * 256) (256 ^ d), Nat.add_comm]
      congr 1
      rw [Nat.mul_comm (256 ^ j) 256, ← Nat.mul_assoc, ← Nat.mul_assoc]
    rw [e, Nat.add_mul_div_right _ _ (Nat.pow_pos (by decide))]
    apply UInt8.toNat.inj
    simp only [UInt8.toNat_ofNat']
    omega

theorem putL_getN (l : List UInt8) : putL (getN l) l.length = l := by
  induction l with
  | nil => rfl
  | cons b l ih =>
    have hl := getN_lt l
    rw [getN_cons, List.length_cons, putL, putL_add, ih]
    congr 1
    rw [Nat.add_comm, Nat.add_mul_div_right _ _ (Nat.pow_pos (by decide)), Nat.div_eq_of_lt hl]
    simp

theorem putL_split (n a b : Nat) : putL n (a + b) = putL (n / 256 ^ b) a ++ putL n b := by
  induction a with
  | zero => simp [putL]
  | succ a ih =>
    rw [Nat.succ_add, putL, ih, putL, List.cons_append]
    rw [Nat.div_div_eq_div_mul, ← Nat.pow_add, Nat.add_comm b a]

theorem putL_mod (n k : Nat) : putL (n % 256 ^ k) k = putL n k := by
  conv => rhs; rw [← Nat.div_add_mod n (256 ^ k), Nat.mul_comm, putL_add]

theorem mod_step (a b M : Nat) : ((a % M) * 256 + b) % M = (a * 256 + b) % M := by simp [Nat.add_mod, Nat.mul_mod]
theorem foldl_mod (l : List UInt8) (M : Nat) : ∀ a : Nat, l.foldl (fun n b => (n * 256 + b.toNat) % M) (a % M) = (l.foldl (fun n b => n * 256 + b.toNat) a) % M := by
  induction l with
  | nil => intro a; rfl
  | cons b l ih =>
    intro a
    rw [List.foldl_cons, List.foldl_cons, ← ih, mod_step]

/-- What the text of a number is. -/
def str (l : List UInt8) : ByteArray := ⟨l.toArray⟩
theorem str_size (l : List UInt8) : (str l).size = l.length := by simp [str, ByteArray.size]
theorem str_data (l : List UInt8) : (str l).data.toList = l := by simp [str]
theorem toList_loop (s : ByteArray) (d : Nat) : ∀ (i : Nat) (r : List UInt8), i + d = s.size → ByteArray.toList.loop s i r = r.reverse ++ s.data.toList.drop i := by
  induction d with
  | zero =>
    intro i r h
    unfold ByteArray.toList.loop
    have hl : s.data.toList.length = s.size := Array.length_toList
    rw [if_neg (by omega), List.drop_of_length_le (by omega)]
    simp
  | succ d ih =>
    intro i r h
    have hl : s.data.toList.length = s.size := Array.length_toList
    have hi : i < s.data.toList.length := by omega
    unfold ByteArray.toList.loop
    rw [if_pos (by omega), ih (i + 1) _ (by omega), List.drop_eq_getElem_cons hi]
    have e : s.get! i = s.data.toList[i] := by
      simp only [ByteArray.get!, Array.getElem_toList]
      exact getElem!_pos s.data i (by simpa using hi)
    rw [e]
    simp
theorem toList_data (s : ByteArray) : s.toList = s.data.toList := by
  unfold ByteArray.toList
  rw [toList_loop s s.size 0 [] (by omega)]
  rfl
theorem str_toList (l : List UInt8) : (str l).toList = l := by rw [toList_data, str_data]
theorem str_append (l m : List UInt8) : str l ++ str m = str (l ++ m) := by
  apply ByteArray.ext
  simp [str]
theorem of_data (s : ByteArray) : s = str s.data.toList := by
  apply ByteArray.ext
  simp [str]
theorem str_extract (l : List UInt8) (a b : Nat) : (str l).extract a b = str ((l.take b).drop a) := by
  apply ByteArray.ext
  simp only [str, ByteArray.data_extract, List.extract_toArray]
  congr 1
  simp [List.extract_eq_take_drop, List.drop_take]
theorem strOfNums_cons (x : Int) (l : List Int) : strOfNums (x :: l) = str (UInt8.ofNat x.toNat :: (strOfNums l).data.toList) := by
  simp [strOfNums, str]

theorem put_bytes (n : Nat) (k : Nat) : strOfNums (be_Put.bytes (n : Int) k) = str (putL n k) := by
  unfold be_Put.bytes strOfNums str
  congr 2
  rw [List.map_map]
  induction k with
  | zero => rfl
  | succ k ih =>
    rw [List.range_succ_eq_map, List.map_cons, List.map_map, putL, ← ih]
    congr 1
    · apply UInt8.toNat.inj
      simp only [Function.comp, UInt8.toNat_ofNat']
      have e : ((n : Int) / 256 ^ (k + 1 - 1 - 0) % 256).toNat = n / 256 ^ k % 256 := by
        have : ((n : Int) / 256 ^ (k + 1 - 1 - 0) % 256) = ((n / 256 ^ k % 256 : Nat) : Int) := by
          rw [show k + 1 - 1 - 0 = k from by omega]
          rw [Int.natCast_emod, Int.natCast_ediv, Int.natCast_pow]; rfl
        rw [this]; rfl
      rw [e]
      simp
    · apply List.map_congr_left
      intro j hj
      simp only [Function.comp]
      rw [show k + 1 - 1 - (j.succ) = k - 1 - j from by omega]

theorem put_f (n : Nat) (hn : n < 18446744073709551616) (a1 : Int) : be_Put.f (n : Int) a1 = some (if 1 ≤ a1 ∧ a1 ≤ 8 then str (putL n a1.toNat) else str []) := by
  unfold be_Put.f
  rw [if_pos ⟨by omega, by omega⟩, put_bytes]
  rfl
theorem put_in (n : Nat) (hn : n < 18446744073709551616) (k : Nat) (h1 : 1 ≤ k) (h8 : k ≤ 8) : be_Put.f (n : Int) (k : Int) = some (str (putL n k)) := by
  rw [put_f n hn, if_pos ⟨by omega, by omega⟩]
  rfl

theorem wrap_u64 (n : Int) : IntKind.u64.wrap n = n % 18446744073709551616 := by simp [IntKind.wrap, IntKind.bits, IntKind.signed]
theorem wrap_u64_in (n : Int) (h0 : 0 ≤ n) (h1 : n < 18446744073709551616) : IntKind.u64.wrap n = n := by rw [wrap_u64]; omega
theorem wrap64_in (n : Int) (h0 : -9223372036854775808 ≤ n) (h1 : n < 9223372036854775808) : wrap64 n = n := by unfold wrap64; omega

theorem bt_nat (s : ByteArray) (i : Nat) (h : i < s.size) : bt s (i : Int) = ((s.data.toList[i]'(by simpa using h)).toNat : Int) := by
  unfold bt
  rw [dif_pos (by simpa using h)]
  rfl

/-- One round of be.Get. -/
theorem or_byte (x : Nat) (b : Nat) (hb : b < 256) : Go.bits .or .u64 (IntKind.u64.wrap ((x : Int) * 256)) (IntKind.u64.wrap (b : Int)) = (((x * 256 + b) % 18446744073709551616 : Nat) : Int) := by
  rw [wrap_u64, wrap_u64]
  have e := bits_join .u64 64 (by decide) (fun n h0 h1 => by rw [wrap_u64]; omega) 8 (((x : Int) * 256) % 18446744073709551616) ((b : Int) % 18446744073709551616) (by omega) (by omega) (by omega) (by omega) (by omega) (by omega)
  rw [e]
  omega
end BeS
end Go.Proofs.Ytepgdjkmobngcaa
