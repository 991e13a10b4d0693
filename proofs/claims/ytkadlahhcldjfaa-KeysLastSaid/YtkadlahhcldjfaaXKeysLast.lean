/- KeysLast: the plain law. No program in sight. -/
import Derived.Test.YtkadlahhcldjfaaXKeysPut
namespace Go.Proofs.Ytkadlahhcldjfaa
set_option linter.unusedVariables false
set_option linter.unusedSimpArgs false
/-- The entry of a number. -/
def mkE (t : ByteArray) (i : Nat) : KE := ⟨((i * 977 : Nat) : Int), t, ((i + 1 : Nat) : Int)⟩
/-- The last m of i entries. -/
def lastK (m : Nat) (t : ByteArray) (i : Nat) : List KE := (List.range (min i m)).map fun p => mkE t (i - min i m + p)
theorem lastK_length (m : Nat) (t : ByteArray) (i : Nat) : (lastK m t i).length = min i m := by simp [lastK]
theorem lastK_get (m : Nat) (t : ByteArray) (i p : Nat) (h : p < (lastK m t i).length) : (lastK m t i)[p] = mkE t (i - min i m + p) := by simp [lastK]
theorem mkE_key (t : ByteArray) (i j : Nat) : (mkE t i).key = ((j * 977 : Nat) : Int) ↔ i = j := by
  show ((i * 977 : Nat) : Int) = _ ↔ _
  omega
theorem findK_last (m : Nat) (t : ByteArray) (n i : Nat) : findK ((i * 977 : Nat) : Int) (lastK m t n) = if n - min n m ≤ i ∧ i < n then some (mkE t i) else none := by
  by_cases h : n - min n m ≤ i ∧ i < n
  · rw [if_pos h]
    have hp : i - (n - min n m) < (lastK m t n).length := by rw [lastK_length]; omega
    have hg := lastK_get m t n _ hp
    rw [show n - min n m + (i - (n - min n m)) = i from by omega] at hg
    rw [find_some hp (by rw [hg, mkE_key]) (fun j hj => by rw [lastK_get, mkE_key]; omega), hg]
  · rw [if_neg h]
    apply find_none
    intro e he
    obtain ⟨p, hp, rfl⟩ := List.mem_iff_getElem.mp he
    rw [lastK_get, mkE_key]
    rw [lastK_length] at hp
    omega
theorem moreK_last (m : Nat) (t : ByteArray) (i : Nat) (hm : 1 ≤ m) : moreK m (lastK m t i) (mkE t i) = lastK m t (i + 1) := by
  unfold moreK
  by_cases hq : m ≤ (lastK m t i).length
  · rw [if_pos hq]
    rw [lastK_length] at hq
    apply List.ext_getElem
    · rw [List.length_append, lastK_length, List.length_singleton, List.length_drop, lastK_length]; omega
    · intro p h1 h2
      rw [lastK_get]
      rw [lastK_length] at h2
      by_cases hp : p < min i m - 1
      · rw [List.getElem_append_left (by rw [List.length_drop, lastK_length]; exact hp), List.getElem_drop, lastK_get]
        congr 1
        omega
      · rw [List.getElem_append_right (by rw [List.length_drop, lastK_length]; omega)]
        simp only [List.getElem_singleton]
        congr 1
        omega
  · rw [if_neg hq]
    rw [lastK_length] at hq
    apply List.ext_getElem
    · rw [List.length_append, lastK_length, List.length_singleton, lastK_length]; omega
    · intro p h1 h2
      rw [lastK_get]
      rw [lastK_length] at h2
      by_cases hp : p < min i m
      · rw [List.getElem_append_left (by rw [lastK_length]; exact hp), lastK_get]
        congr 1
        omega
      · rw [List.getElem_append_right (by rw [lastK_length]; omega)]
        simp only [List.getElem_singleton]
        congr 1
        omega
theorem putK_last (m : Nat) (t : ByteArray) (i : Nat) (hm : 1 ≤ m) (ht : t.size ≤ 255) (hi : i < 1000) : putK m (lastK m t i) (mkE t i) = (lastK m t (i + 1), 0) := by
  unfold putK
  have hr : rightK (mkE t i) = true := by
    unfold rightK
    rw [decide_eq_true (show (mkE t i).body.size ≤ 255 from ht), decide_eq_true (show 1 ≤ (mkE t i).num by show (1 : Int) ≤ ((i + 1 : Nat) : Int); omega), decide_eq_true (show (mkE t i).num ≤ 4294967295 by show ((i + 1 : Nat) : Int) ≤ 4294967295; omega)]
    rfl
  rw [hr, if_pos rfl, show (mkE t i).key = ((i * 977 : Nat) : Int) from rfl, findK_last, if_neg (show ¬ (i - min i m ≤ i ∧ i < i) by omega), if_neg (show ¬ (none : Option KE).isSome = true by simp), moreK_last m t i hm]
theorem matchK_last (m : Nat) (t : ByteArray) (n i : Nat) (hi : i < n) (b : ByteArray) : matchK (lastK m t n) ((i * 977 : Nat) : Int) b = if n ≤ i + m then (if t = b then (((i + 1 : Nat) : Int), 0) else (0, 17)) else (0, 15) := by
  unfold matchK
  rw [findK_last]
  by_cases h : n ≤ i + m
  · rw [if_pos (show n - min n m ≤ i ∧ i < n by omega), if_pos h]; rfl
  · rw [if_neg (show ¬ (n - min n m ≤ i ∧ i < n) by omega), if_neg h]
end Go.Proofs.Ytkadlahhcldjfaa
