/- BbtGrows, plainly: the document's Text, and 'same'. No conditions. -/
import Derived.Test.YtopglieihhgaaaaXBbtGrowA
namespace Go.Proofs.Ytopglieihhgaaaa
open Go.RowKit Go.Proofs.Ytopglieihhgaaaa.P Go.Proofs.Ytopglieihhgaaaa.BeS Go.Proofs.YtopglieihhgaaaaW.PrintWords Go.Proofs.YtopglieihhgaaaaW.PrintLast Go.Proofs.YtopglieihhgaaaaW.PrintMore
set_option linter.unusedVariables false
set_option linter.unusedSimpArgs false
theorem ref_l1 (m : Nat) (hm : m ≤ 1024) (d : Nat) : ∀ (k : Nat) (s : ByteArray), s.size + d = m → d < k → tillrollref09_Text.l1 k (m : Int) s = some (s ++ ⟨(Lib.repeatL [0] d).toArray⟩, 0) := by
  induction d with
  | zero =>
    intro k s h hk
    obtain ⟨k, rfl⟩ : ∃ q, k = q + 1 := ⟨k - 1, by omega⟩
    simp only [tillrollref09_Text.l1]
    rw [if_neg (by omega)]
    have e : s ++ (⟨#[]⟩ : ByteArray) = s := by apply ByteArray.ext; simp
    show some (s, (0 : Int)) = some (s ++ (⟨#[]⟩ : ByteArray), 0)
    rw [e]
  | succ d ih =>
    intro k s h hk
    obtain ⟨k, rfl⟩ : ∃ q, k = q + 1 := ⟨k - 1, by omega⟩
    simp only [tillrollref09_Text.l1]
    have hs : (s ++ (⟨#[0]⟩ : ByteArray)).size = s.size + 1 := by rw [ByteArray.size_append]; rfl
    rw [if_pos (by omega), if_pos (by omega), ih k _ (by omega) (by omega), ByteArray.append_assoc]
    congr 3
def bytesB (xs : List Bool) (c : Nat) : List Int := (List.range c).map fun q => (valB xs q 8 : Int)
theorem ref_l0 (v n m : Nat) (hn : n ≤ 256) (hm : m ≤ 1024) (hm8 : 8 + nbB n ≤ m) (xs : List Bool) (hx : xs.length = n) (d : Nat) : ∀ (k i : Nat), i + d = 8 * nbB n → 2 * d + 1100 < k →
    tillrollref09_Text.l0 k xs (m : Int) (nbB n : Nat) (str (putL v 8) ++ strOfNums (bytesB xs (i / 8))) (valB xs (i / 8) (i % 8) : Nat) (i : Int) = some (textM v n xs m, 0) := by
  have hnb : nbB n ≤ 32 := by unfold nbB; omega
  have hsz : ∀ c, (str (putL v 8) ++ strOfNums (bytesB xs c)).size = 8 + c := fun c => by
    rw [ByteArray.size_append, str_size, putL_length, nums_size]
    unfold bytesB
    rw [List.length_map, List.length_range]
  have e0 : wrap64 (8 * (nbB n : Int)) = ((8 * nbB n : Nat) : Int) := by unfold wrap64; omega
  induction d with
  | zero =>
    intro k i h hk
    obtain ⟨k, rfl⟩ : ∃ q, k = q + 1 := ⟨k - 1, by omega⟩
    simp only [tillrollref09_Text.l0]
    have hi : i / 8 = nbB n := by omega
    rw [e0, if_neg (by omega), hi, ref_l1 m hm (m - 8 - nbB n) k _ (by rw [hsz]; omega) (by omega)]
    have hb : bytesB xs (nbB n) = bitsB n xs := by
      apply List.ext_getElem (by unfold bytesB; rw [List.length_map, List.length_range, (bits_at n xs).1])
      intro q h1 h2
      have hq : q < nbB n := by rw [(bits_at n xs).1] at h2; exact h2
      have := byte_val n xs hx q hq
      rw [List.getD_eq_getElem?_getD, List.getElem?_eq_getElem h2, Option.getD_some] at this
      have g : (bytesB xs (nbB n))[q]? = some (valB xs q 8 : Int) := by unfold bytesB; rw [List.getElem?_map, List.getElem?_range hq]; rfl
      rw [List.getElem?_eq_getElem h1] at g
      exact (Option.some.inj g).trans this.symm
    rw [hb]
    rfl
  | succ d ih =>
    intro k i h hk
    obtain ⟨k, rfl⟩ : ∃ q, k = q + 2 := ⟨k - 2, by omega⟩
    have hc : i / 8 < nbB n := by omega
    have hv := valB_lt xs (i / 8) (i % 8)
    have hp : 2 ^ (i % 8) ≤ 2 ^ 7 := Nat.pow_le_pow_right (by decide) (by omega)
    have hn1 := ih k (i + 1) (by omega) (by omega)
    have hj : valB xs (i / 8) (i % 8 + 1) = 2 * valB xs (i / 8) (i % 8) + (if xs.getD i false = true then 1 else 0) := by
      rw [valB, show 8 * (i / 8) + i % 8 = i by omega]
    -- one bit
    have step : ∀ b : Bool, b = xs.getD i false → tillrollref09_Text.j3 (k + 1) xs (m : Int) (nbB n : Nat) (str (putL v 8) ++ strOfNums (bytesB xs (i / 8))) ((2 * (valB xs (i / 8) (i % 8) : Nat)) % 256 : Int) (i : Int) b = some (textM v n xs m, 0) := by
      intro b hb
      subst hb
      simp only [tillrollref09_Text.j3]
      have e2 : Int.tmod (i : Int) 8 = ((i % 8 : Nat) : Int) := by rw [Int.tmod_eq_emod_of_nonneg (by omega)]; omega
      have ev : ∀ t : Nat, t ≤ 1 → (2 * ((valB xs (i / 8) (i % 8) : Nat) : Int) % 256 + (t : Int)) % 256 = ((2 * valB xs (i / 8) (i % 8) + t : Nat) : Int) := by intro t ht; omega
      have ev0 : (2 * ((valB xs (i / 8) (i % 8) : Nat) : Int)) % 256 = ((2 * valB xs (i / 8) (i % 8) : Nat) : Int) := by omega
      have last : ∀ w : Nat, w = valB xs (i / 8) (i % 8 + 1) → i % 8 = 7 → (if (str (putL v 8) ++ strOfNums (bytesB xs (i / 8))).size + (strOfNums [(w : Int)]).size ≤ 9223372036854775807 then tillrollref09_Text.l0 k xs (m : Int) (nbB n : Nat) ((str (putL v 8) ++ strOfNums (bytesB xs (i / 8))) ++ strOfNums [(w : Int)]) 0 (wrap64 ((i : Int) + 1)) else none) = some (textM v n xs m, 0) := by
        intro w hw h7
        rw [if_pos (by rw [hsz, nums_size]; simp; omega), w64n i (by omega), ByteArray.append_assoc]
        have e3 : strOfNums (bytesB xs (i / 8)) ++ strOfNums [(w : Int)] = strOfNums (bytesB xs ((i + 1) / 8)) := by
          rw [show (i + 1) / 8 = i / 8 + 1 by omega]
          unfold bytesB
          rw [List.range_succ, List.map_append, hw, h7]
          apply ByteArray.ext
          apply Array.toList_inj.1
          simp [strOfNums]
        rw [e3]
        have e4 : (i + 1) % 8 = 0 := by omega
        rw [e4] at hn1
        exact hn1
      have mid : ∀ w : Nat, w = valB xs (i / 8) (i % 8 + 1) → ¬ i % 8 = 7 → tillrollref09_Text.l0 k xs (m : Int) (nbB n : Nat) (str (putL v 8) ++ strOfNums (bytesB xs (i / 8))) (w : Int) (wrap64 ((i : Int) + 1)) = some (textM v n xs m, 0) := by
        intro w hw h7
        rw [w64n i (by omega), hw]
        rw [show (i + 1) / 8 = i / 8 by omega, show (i + 1) % 8 = i % 8 + 1 by omega] at hn1
        exact hn1
      rw [e2]
      by_cases hb : xs.getD i false = true
      · rw [if_pos hb] at hj ⊢
        have e5 := ev 1 (Nat.le_refl _)
        by_cases h7 : i % 8 = 7
        · rw [if_pos (by omega), Option.bind_some, show ((2 * ((valB xs (i / 8) (i % 8) : Nat) : Int) % 256 + 1) % 256) = ((2 * valB xs (i / 8) (i % 8) + 1 : Nat) : Int) from e5]
          exact last _ hj.symm h7
        · rw [if_neg (by omega), show ((2 * ((valB xs (i / 8) (i % 8) : Nat) : Int) % 256 + 1) % 256) = ((2 * valB xs (i / 8) (i % 8) + 1 : Nat) : Int) from e5]
          exact mid _ hj.symm h7
      · rw [if_neg hb] at hj ⊢
        by_cases h7 : i % 8 = 7
        · rw [if_pos (by omega), Option.bind_some, ev0]
          exact last _ hj.symm h7
        · rw [if_neg (by omega), ev0]
          exact mid _ hj.symm h7
    simp only [tillrollref09_Text.l0]
    rw [e0, if_pos (by omega)]
    by_cases hin : i < n
    · rw [if_pos (by omega), if_pos (by omega)]
      exact step _ (by unfold rdOf; rw [Int.toNat_natCast])
    · rw [if_neg (by omega)]
      exact step _ (by rw [List.getD_eq_getElem?_getD, List.getElem?_eq_none (by omega)]; rfl)
theorem ref_text (v n : Nat) (hv : v < 18446744073709551616) (hn : n ≤ 256) (h1 : 1 ≤ n) (xs : List Bool) (hx : xs.length = n) (m : Int) (k : Nat) (hk : 2000 < k) : tillrollref09_Text.f k (v : Int) xs m = some (if 8 + (nbB n : Int) ≤ m ∧ m ≤ 1024 then (textM v n xs m.toNat, 0) else (⟨#[]⟩, 2)) := by
  have hnb : nbB n ≤ 32 ∧ 1 ≤ nbB n := by unfold nbB; omega
  obtain ⟨k, rfl⟩ : ∃ q, k = q + 2 := ⟨k - 2, by omega⟩
  have body : tillrollref09_Text.j0 (k + 2) (v : Int) xs m (nbB n : Nat) = some (if 8 + (nbB n : Int) ≤ m ∧ m ≤ 1024 then (textM v n xs m.toNat, 0) else (⟨#[]⟩, 2)) := by
    simp only [tillrollref09_Text.j0]
    rw [if_neg (by omega), show wrap64 (8 + (nbB n : Int)) = 8 + (nbB n : Int) by unfold wrap64; omega]
    by_cases ha : m < 8 + (nbB n : Int)
    · rw [if_pos ha, if_neg (fun h => by omega)]
      simp only [tillrollref09_Text.j1]
      rw [if_pos trivial]
    · rw [if_neg ha]
      by_cases hb : m > 1024
      · rw [decide_eq_true hb, if_neg (fun h => by omega)]
        simp only [tillrollref09_Text.j1]
        rw [if_pos trivial]
      · rw [decide_eq_false hb, if_pos ⟨by omega, by omega⟩]
        simp only [tillrollref09_Text.j1]
        obtain ⟨M, rfl⟩ := Int.eq_ofNat_of_zero_le (show 0 ≤ m by omega)
        rw [if_neg (by decide), show (8 : Int) = ((8 : Nat) : Int) from rfl, ref_put_in v hv 8 (by decide) (by decide) k (by omega), Option.bind_some, Int.toNat_natCast]
        have := ref_l0 v n M hn (by omega) (by omega) xs hx (8 * nbB n) k 0 (Nat.zero_add _) (by omega)
        have e : str (putL v 8) ++ strOfNums (bytesB xs (0 / 8)) = str (putL v 8) := by
          apply ByteArray.ext
          apply Array.toList_inj.1
          simp [strOfNums, bytesB]
        rw [e] at this
        exact this
  unfold tillrollref09_Text.f
  rw [hx]
  by_cases h : ((n : Int) % 8) > 0
  · rw [if_pos h, show wrap64 (wrap64 ((n : Int) / 8) + 1) = ((nbB n : Nat) : Int) by unfold wrap64 nbB; omega]
    exact body
  · rw [if_neg h, show wrap64 ((n : Int) / 8) = ((nbB n : Nat) : Int) by unfold wrap64 nbB; omega]
    exact body
end Go.Proofs.Ytopglieihhgaaaa
