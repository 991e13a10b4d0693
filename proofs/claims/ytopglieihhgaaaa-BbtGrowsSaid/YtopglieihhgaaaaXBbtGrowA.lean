/- BbtGrows, plainly: a table's bytes are the document's. No conditions. -/
import Derived.Test.YtopglieihhgaaaaXBbtBits
import Derived.Test.YtopglieihhgaaaaXBeRef
import Derived.Test.YtopglieihhgaaaaPx12
import Derived.Test.YtopglieihhgaaaaPx10
namespace Go.Proofs.Ytopglieihhgaaaa
open Go.RowKit Go.Proofs.Ytopglieihhgaaaa.P Go.Proofs.Ytopglieihhgaaaa.BeS Go.Proofs.YtopglieihhgaaaaW.PrintWords Go.Proofs.YtopglieihhgaaaaW.PrintLast Go.Proofs.YtopglieihhgaaaaW.PrintMore
set_option linter.unusedVariables false
set_option linter.unusedSimpArgs false
def textM (v n : Nat) (xs : List Bool) (m : Nat) : ByteArray := (str (putL v 8) ++ strOfNums (bitsB n xs)) ++ ⟨(Lib.repeatL (⟨#[0]⟩ : ByteArray).data.toList (m - 8 - nbB n)).toArray⟩
theorem rep_fM (n : Nat) (h : n ≤ 2000) : strings_Repeat.f (⟨#[0]⟩ : ByteArray) (n : Int) = some ⟨(Lib.repeatL (⟨#[0]⟩ : ByteArray).data.toList n).toArray⟩ := by
  unfold strings_Repeat.f
  rw [if_pos ⟨by omega, by rw [Int.toNat_natCast]; show 1 * n ≤ 1000000; omega⟩, Int.toNat_natCast]
theorem text_l0M (v n m : Nat) (hv : v < 18446744073709551616) (hn : n ≤ 256) (hm : m ≤ 1024) (hm8 : 8 + nbB n ≤ m) (xs : List Bool) (d : Nat) : ∀ (k i : Nat), i + d = (idx n xs).length → d < k →
    bbt_Table_Text.l0 k (m : Int) (nbB n : Nat) (((idx n xs).take i).foldl stB (List.replicate (nbB n) 0)) (idx n xs) ((idx n xs).length : Int) (i : Int) (v : Int) xs = some (textM v n xs m, 0) := by
  have hnb : nbB n ≤ 32 := by unfold nbB; omega
  have hlen := idx_len n xs
  induction d with
  | zero =>
    intro k i h hk
    obtain ⟨k, rfl⟩ : ∃ m, k = m + 1 := ⟨k - 1, by omega⟩
    simp only [bbt_Table_Text.l0]
    have hB : (bitsB n xs).length = nbB n := (bits_at n xs).1
    rw [if_neg (by omega), List.take_of_length_le (by omega), put_f v hv, Option.bind_some, show (if 1 ≤ (8 : Int) ∧ (8 : Int) ≤ 8 then str (putL v (Int.toNat 8)) else str []) = str (putL v 8) from if_pos ⟨by decide, by decide⟩]
    rw [show (idx n xs).foldl stB (List.replicate (nbB n) 0) = bitsB n xs from rfl]
    rw [if_pos (by rw [str_size, putL_length, nums_size, hB]; omega)]
    rw [show wrap64 (wrap64 ((m : Int) - 8) - ((nbB n : Nat) : Int)) = ((m - 8 - nbB n : Nat) : Int) by unfold wrap64; omega, rep_fM _ (by omega), Option.bind_some]
    rw [if_pos (by rw [ByteArray.size_append, str_size, putL_length, nums_size, hB, rep_size]; omega)]
    rfl
  | succ d ih =>
    intro k i h hk
    obtain ⟨k, rfl⟩ : ∃ m, k = m + 1 := ⟨k - 1, by omega⟩
    simp only [bbt_Table_Text.l0]
    have hi : i < (idx n xs).length := by omega
    obtain ⟨x0, x1⟩ := idx_in n xs _ (List.getElem_mem hi)
    have hr : rd (idx n xs) (i : Int) = (idx n xs)[i] := by unfold rd; rw [Int.toNat_natCast, List.getD_eq_getElem?_getD, List.getElem?_eq_getElem hi]; rfl
    have hnext := ih k (i + 1) (by omega) (by omega)
    rw [List.take_succ_eq_append_getElem hi, List.foldl_append] at hnext
    rw [hr]
    generalize (idx n xs)[i] = x at x0 x1 hnext
    have hl : (((idx n xs).take i).foldl stB (List.replicate (nbB n) 0)).length = nbB n := by rw [fold_len, List.length_replicate]
    generalize ((idx n xs).take i).foldl stB (List.replicate (nbB n) 0) = B at hl hnext ⊢
    have e1 : wrap64 (Int.tdiv x 8) = ((x.toNat / 8 : Nat) : Int) := by rw [Int.tdiv_eq_ediv_of_nonneg x0]; unfold wrap64; omega
    have e2 : Int.tmod x 8 = ((x.toNat % 8 : Nat) : Int) := by rw [Int.tmod_eq_emod_of_nonneg x0]; omega
    rw [if_pos (by omega), if_pos (by omega), if_pos (by omega), e1, e2, if_pos (by omega), if_pos (by omega), if_pos (by omega), Int.toNat_natCast, w64n i (by omega)]
    unfold rd
    rw [Int.toNat_natCast]
    exact hnext
theorem text_fM (v n : Nat) (hv : v < 18446744073709551616) (hn : n ≤ 256) (h1 : 1 ≤ n) (xs : List Bool) (hx : xs.length = n) (m : Int) (k : Nat) (hk : 300 < k) : bbt_Table_Text.f k (v : Int) xs m = some (if 8 + (nbB n : Int) ≤ m ∧ m ≤ 1024 then (textM v n xs m.toNat, 0) else (⟨#[]⟩, 2)) := by
  have hnb : nbB n ≤ 32 ∧ 1 ≤ nbB n := by unfold nbB; omega
  have hlen := idx_len n xs
  obtain ⟨k, rfl⟩ : ∃ m, k = m + 1 := ⟨k - 1, by omega⟩
  unfold bbt_Table_Text.f
  rw [hx, bytes_f n hn, Option.bind_some, if_neg (by omega), show wrap64 (8 + (nbB n : Int)) = 8 + (nbB n : Int) by unfold wrap64; omega]
  by_cases ha : m < 8 + (nbB n : Int)
  · rw [if_pos ha, if_neg (fun h => by omega)]
    simp only [bbt_Table_Text.j0]
    rw [if_pos trivial]
  · rw [if_neg ha]
    by_cases hb : m > 1024
    · rw [decide_eq_true hb, if_neg (fun h => by omega)]
      simp only [bbt_Table_Text.j0]
      rw [if_pos trivial]
    · rw [decide_eq_false hb, if_pos ⟨by omega, by omega⟩]
      simp only [bbt_Table_Text.j0]
      obtain ⟨M, rfl⟩ := Int.eq_ofNat_of_zero_le (show 0 ≤ m by omega)
      rw [if_neg (by decide), if_pos (by omega), if_pos (by omega), list_f _ _ (by omega) k (by omega), Option.bind_some, hx, Int.toNat_natCast, Int.toNat_natCast]
      exact text_l0M v n M hv hn (by omega) (by omega) xs (idx n xs).length k 0 (Nat.zero_add _) (by omega)
-- the document's bytes
def valB (xs : List Bool) (c : Nat) : Nat → Nat
  | 0 => 0
  | j + 1 => 2 * valB xs c j + (if xs.getD (8 * c + j) false = true then 1 else 0)
theorem valB_lt (xs : List Bool) (c j : Nat) : valB xs c j < 2 ^ j := by
  induction j with
  | zero => exact Nat.one_pos
  | succ j ih => rw [valB, Nat.pow_succ]; split <;> omega
def asB (a : Nat) : Nat → Nat
  | 0 => 0
  | j + 1 => 2 * asB a j + (if tsB (a : Int) (j : Int) = true then 1 else 0)
theorem as_tbl : ((List.range 256).all fun a => asB a 8 == a) = true := by kernel_rfl
theorem byte_val (n : Nat) (xs : List Bool) (hx : xs.length = n) (c : Nat) (hc : c < nbB n) : (bitsB n xs).getD c 0 = (valB xs c 8 : Int) := by
  obtain ⟨b, hb, hb2⟩ := ((bits_at n xs).2 c hc).1
  have hbits := ((bits_at n xs).2 c hc).2
  rw [hb] at hbits ⊢
  have key : ∀ j, j ≤ 8 → valB xs c j = asB b j := by
    intro j
    induction j with
    | zero => intro _; rfl
    | succ j ih =>
      intro hj
      rw [valB, asB, ih (by omega), hbits j (by omega)]
      congr 1
      by_cases h : xs.getD (8 * c + j) false = true
      · rw [if_pos h, if_pos]
        refine decide_eq_true ⟨?_, h⟩
        rcases Nat.lt_or_ge (8 * c + j) n with h2 | h2
        · exact h2
        · rw [List.getD_eq_getElem?_getD, List.getElem?_eq_none (by omega)] at h
          exact absurd h (by decide)
      · rw [if_neg h, if_neg]
        intro h2
        exact h (of_decide_eq_true h2).2
  have h8 := List.all_eq_true.1 as_tbl b (List.mem_range.2 hb2)
  rw [key 8 (Nat.le_refl _), show asB b 8 = b from beq_iff_eq.1 h8]
end Go.Proofs.Ytopglieihhgaaaa
