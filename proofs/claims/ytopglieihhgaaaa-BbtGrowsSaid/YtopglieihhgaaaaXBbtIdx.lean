/- bbt: the list of the bad ones, and the signs of life. No conditions. -/
import Derived.Test.YtopglieihhgaaaaPx4
import Derived.Test.YtopglieihhgaaaaXOpen
namespace Go.Proofs.Ytopglieihhgaaaa
open Go.RowKit Go.Proofs.Ytopglieihhgaaaa.P Go.Proofs.YtopglieihhgaaaaW.PrintWords Go.Proofs.YtopglieihhgaaaaW.PrintLast Go.Proofs.YtopglieihhgaaaaW.PrintMore
set_option linter.unusedVariables false
set_option linter.unusedSimpArgs false
def idx (n : Nat) (xs : List Bool) : List Int := ((List.range n).filter (fun k => xs.getD k false)).map (fun (k : Nat) => (k : Int))
theorem idx_succ (n : Nat) (xs : List Bool) : idx (n + 1) xs = idx n xs ++ (if xs.getD n false = true then [(n : Int)] else []) := by
  unfold idx
  rw [List.range_succ, List.filter_append, List.map_append]
  congr 1
  by_cases h : xs.getD n false = true
  · rw [if_pos h]
    show List.map _ (match xs.getD n false with | true => n :: List.filter _ [] | false => List.filter _ []) = _
    rw [h]; rfl
  · rw [if_neg h]
    show List.map _ (match xs.getD n false with | true => n :: List.filter _ [] | false => List.filter _ []) = _
    rw [Bool.eq_false_iff.2 h]; rfl
theorem idx_len (n : Nat) (xs : List Bool) : (idx n xs).length ≤ n := by
  unfold idx
  rw [List.length_map]
  exact Nat.le_trans (List.length_filter_le _ _) (by rw [List.length_range]; exact Nat.le_refl _)
theorem idx_up (n : Nat) (xs : List Bool) : (idx n xs).Pairwise (· < ·) := by
  unfold idx
  rw [List.pairwise_map]
  refine List.Pairwise.imp ?_ (List.Pairwise.filter _ List.pairwise_lt_range)
  intro a b h
  exact Int.ofNat_lt.2 h
theorem w64n (n : Nat) (h : n < 1000) : wrap64 ((n : Int) + 1) = ((n + 1 : Nat) : Int) := by unfold wrap64; omega
theorem list_l0 (xs : List Bool) (hx : xs.length ≤ 500) (d : Nat) : ∀ (k i : Nat), i + d = xs.length → d < k → bbt_Table_List.l0 k (idx i xs) xs (xs.length : Int) (i : Int) = some (idx xs.length xs) := by
  induction d with
  | zero =>
    intro k i h hk
    obtain ⟨k, rfl⟩ : ∃ m, k = m + 1 := ⟨k - 1, by omega⟩
    simp only [bbt_Table_List.l0]
    rw [if_neg (by omega), show i = xs.length by omega]
  | succ d ih =>
    intro k i h hk
    obtain ⟨k, rfl⟩ : ∃ m, k = m + 1 := ⟨k - 1, by omega⟩
    simp only [bbt_Table_List.l0]
    have hs := idx_succ i xs
    have hr : rdOf false xs (i : Int) = xs.getD i false := by unfold rdOf; rw [Int.toNat_natCast]
    rw [if_pos (by omega), if_pos (by omega), if_pos (by omega), hr, w64n i (by omega)]
    by_cases hb : xs.getD i false = true
    · rw [if_pos hb] at hs ⊢
      rw [if_pos (by have := idx_len i xs; omega), ← hs]
      exact ih k (i + 1) (by omega) (by omega)
    · rw [if_neg hb] at hs ⊢
      rw [List.append_nil] at hs
      rw [← hs]
      exact ih k (i + 1) (by omega) (by omega)
theorem list_f (v : Int) (xs : List Bool) (hx : xs.length ≤ 500) (k : Nat) (hk : xs.length < k) : bbt_Table_List.f k v xs = some (idx xs.length xs) := by
  unfold bbt_Table_List.f
  exact list_l0 xs hx xs.length k 0 (by omega) hk
theorem wakes_f9 : tillrolllaw09_wakes.f 300 = some true := by kernel_rfl
end Go.Proofs.Ytopglieihhgaaaa
