/- BbtGrows, plainly. No conditions. -/
import Derived.Test.YtopglieihhgaaaaXBbtGrowB
import Derived.Test.YtopglieihhgaaaaPx13
namespace Go.Proofs.Ytopglieihhgaaaa
open Go.RowKit Go.Proofs.Ytopglieihhgaaaa.P Go.Proofs.Ytopglieihhgaaaa.BeS Go.Proofs.YtopglieihhgaaaaW.PrintWords Go.Proofs.YtopglieihhgaaaaW.PrintLast Go.Proofs.YtopglieihhgaaaaW.PrintMore
set_option linter.unusedVariables false
set_option linter.unusedSimpArgs false
theorem idx_pre (xs : List Bool) (i d : Nat) : ∃ R, idx (i + d) xs = idx i xs ++ R := by
  induction d with
  | zero => exact ⟨[], by rw [List.append_nil]; rfl⟩
  | succ d ih =>
    obtain ⟨R, hR⟩ := ih
    exact ⟨R ++ (if xs.getD (i + d) false = true then [((i + d : Nat) : Int)] else []), by rw [← Nat.add_assoc, idx_succ, hR, List.append_assoc]⟩
theorem has_at (v : Int) (xs : List Bool) (i : Nat) (hi : i < xs.length) : bbt_Table_Has.f v xs (i : Int) = some (rdOf false xs (i : Int)) := by
  unfold bbt_Table_Has.f bbt_Table_is.f
  rw [if_pos (by omega), decide_eq_true (by omega), Option.bind_some, if_pos rfl, if_pos (by omega), if_pos (by omega)]
theorem has_out (v : Int) (xs : List Bool) (a : Int) (h : a < 0 ∨ (xs.length : Int) ≤ a) : bbt_Table_Has.f v xs a = some false := by
  unfold bbt_Table_Has.f bbt_Table_is.f
  by_cases h0 : a ≥ 0
  · rw [if_pos h0, decide_eq_false (by omega), Option.bind_some, if_neg (by decide)]
  · rw [if_neg h0, Option.bind_some, if_neg (by decide)]
theorem same_l0 (v : Int) (xs : List Bool) (n : Nat) (hn : n ≤ 256) (hx : xs.length = n) (d : Nat) : ∀ (k i : Nat), i + d = n → d < k →
    tillrolllaw09_same.l0 k (idx n xs) ((idx i xs).length : Int) xs (n : Int) (i : Int) v xs = some true := by
  induction d with
  | zero =>
    intro k i h hk
    obtain ⟨k, rfl⟩ : ∃ m, k = m + 1 := ⟨k - 1, by omega⟩
    simp only [tillrolllaw09_same.l0]
    rw [if_neg (by omega), show i = n by omega]
    simp
  | succ d ih =>
    intro k i h hk
    obtain ⟨k, rfl⟩ : ∃ m, k = m + 1 := ⟨k - 1, by omega⟩
    simp only [tillrolllaw09_same.l0]
    have hs := idx_succ i xs
    obtain ⟨R, hR⟩ := idx_pre xs (i + 1) d
    rw [show i + 1 + d = n by omega] at hR
    have hnext := ih k (i + 1) (by omega) (by omega)
    have hr : rdOf false xs (i : Int) = xs.getD i false := by unfold rdOf; rw [Int.toNat_natCast]
    have hli := idx_len i xs
    rw [if_pos (by omega), if_pos (by omega), if_pos (by omega), has_at v xs i (by omega), Option.bind_some, if_neg (by simp), hr]
    by_cases hb : xs.getD i false = true
    · rw [if_pos hb] at hs ⊢
      have hlen : (idx n xs).length = (idx i xs).length + 1 + R.length := by rw [hR, hs, List.length_append, List.length_append]; rfl
      have hrd : rd (idx n xs) ((idx i xs).length : Int) = (i : Int) := by
        unfold rd
        rw [Int.toNat_natCast, hR, hs, List.append_assoc, List.getD_eq_getElem?_getD, List.getElem?_append_right (Nat.le_refl _), Nat.sub_self]
        rfl
      rw [if_neg (by omega), if_pos (by omega), if_pos (by omega), if_pos hrd, w64n i (by omega), w64n _ (by omega)]
      rw [hs, List.length_append] at hnext
      exact hnext
    · rw [if_neg hb] at hs ⊢
      rw [hs, List.append_nil] at hnext
      rw [w64n i (by omega)]
      exact hnext
theorem same_f (v : Int) (xs : List Bool) (n : Nat) (hn : n ≤ 256) (hx : xs.length = n) (k : Nat) (hk : 600 < k) : tillrolllaw09_same.f k v xs v xs = some true := by
  obtain ⟨k, rfl⟩ : ∃ m, k = m + 1 := ⟨k - 1, by omega⟩
  unfold tillrolllaw09_same.f bbt_Table_Version.f bbt_Table_Blocks.f
  rw [Option.bind_some, if_pos rfl, Option.bind_some, if_pos rfl, has_out v xs _ (.inl (by decide)), Option.bind_some, if_neg (by decide), has_out v xs _ (.inr (Int.le_refl _)), Option.bind_some]
  simp only [tillrolllaw09_same.j0]
  rw [if_neg (by decide), list_f _ _ (by omega) k (by omega), Option.bind_some, hx]
  exact same_l0 v xs n hn hx n k 0 (Nat.zero_add _) (by omega)
theorem grow_l1 (v n : Nat) (hv : v < 1000) (hn : n ≤ 256) (h1 : 1 ≤ n) (xs : List Bool) (hx : xs.length = n) (m m2 : Int) (l : List Int) (i : Nat) (hi : i < 100) (k : Nat) (hk : 2500 < k) (ws : Int) :
    tillrolllaw09_BbtGrows.l1 (k + 3) ws (n : Int) xs (v : Int) l (l.length : Int) (i : Int) [m, m2] (([m, m2] : List Int).length : Int) 0 (v : Int) xs = tillrolllaw09_BbtGrows.l0 k ws (n : Int) xs (v : Int) l (l.length : Int) ((i + 1 : Nat) : Int) (v : Int) xs := by
  have e : (([m, m2] : List Int).length : Int) = 2 := rfl
  have r0 : rd [m, m2] 0 = m := rfl
  have r1 : rd [m, m2] 1 = m2 := rfl
  have w0 : wrap64 (0 + 1) = 1 := by unfold wrap64; omega
  have w1 : wrap64 (1 + 1) = 2 := by unfold wrap64; omega
  rw [e]
  simp only [tillrolllaw09_BbtGrows.l1]
  rw [e, if_pos (by decide), if_pos (by decide), if_pos (by decide), r0, text_fM v n (by omega) hn h1 xs hx m (k + 2) (by omega), Option.bind_some, ref_text v n (by omega) hn h1 xs hx m (k + 2) (by omega), Option.bind_some, if_pos rfl, if_pos rfl, w0]
  rw [if_pos (by decide), if_pos (by decide), if_pos (by decide), r1, text_fM v n (by omega) hn h1 xs hx m2 (k + 1) (by omega), Option.bind_some, ref_text v n (by omega) hn h1 xs hx m2 (k + 1) (by omega), Option.bind_some, if_pos rfl, if_pos rfl, w1]
  rw [if_neg (by decide), w64n i (by omega)]
theorem grow_l0 (n : Nat) (hn : n ≤ 256) (h1 : 1 ≤ n) (l : List Int) (hl : l.length ≤ 30) (m : Int) (d : Nat) : ∀ (k i v : Nat) (xs : List Bool), i + d = l.length → 10 * d + 3000 < k → v ≤ i → xs.length = n →
    tillrolllaw09_BbtGrows.l0 k m (n : Int) xs (v : Int) l (l.length : Int) (i : Int) (v : Int) xs = some true := by
  induction d with
  | zero =>
    intro k i v xs h hk hv hx
    obtain ⟨k, rfl⟩ : ∃ q, k = q + 1 := ⟨k - 1, by omega⟩
    simp only [tillrolllaw09_BbtGrows.l0]
    rw [if_neg (by omega)]
  | succ d ih =>
    intro k i v xs h hk hv hx
    obtain ⟨k, rfl⟩ : ∃ q, k = q + 6 := ⟨k - 6, by omega⟩
    simp only [tillrolllaw09_BbtGrows.l0]
    rw [if_pos (by omega), if_pos (by omega), if_pos (by omega)]
    generalize rd l (i : Int) = x
    have bad : ¬ (0 ≤ x ∧ x < (n : Int)) → tillrolllaw09_BbtGrows.j3 (k + 5) m (n : Int) xs (v : Int) x 3 l (l.length : Int) (i : Int) true (v : Int) xs 0 [] = some true := by
      intro hb
      simp only [tillrolllaw09_BbtGrows.j3, bbt_Table_Blocks.f]
      rw [if_pos trivial, if_pos trivial, Option.bind_some, if_pos (by decide), w64n i (by omega)]
      exact ih (k + 4) (i + 1) v xs (by omega) (by omega) (by omega) hx
    by_cases hin : 0 ≤ x ∧ x < (n : Int)
    · obtain ⟨q, rfl⟩ := Int.eq_ofNat_of_zero_le hin.1
      have hw : bbt_Table_With.f (v : Int) xs (q : Int) = some (((v + 1 : Nat) : Int), xs.set q true, 0) := by
        unfold bbt_Table_With.f
        rw [if_pos (by omega), if_neg (by omega), if_pos (by omega), Int.toNat_natCast]
        rw [show IntKind.u64.wrap ((v : Int) + 1) = ((v + 1 : Nat) : Int) by rw [IntKind.wrap_u64]; omega]
      have hu : IntKind.u64.wrap ((v : Int) + 1) = ((v + 1 : Nat) : Int) := by rw [IntKind.wrap_u64]; omega
      have hx2 : (xs.set q true).length = n := by rw [List.length_set, hx]
      rw [hw, Option.bind_some, if_neg (by omega), decide_eq_false (by omega)]
      simp only [tillrolllaw09_BbtGrows.j3]
      rw [if_neg (by decide), if_pos trivial, same_f _ xs n hn hx (k + 4) (by omega), Option.bind_some]
      simp only [tillrolllaw09_BbtGrows.j4]
      rw [if_neg (by decide), if_pos (by omega), if_pos (by omega), Option.bind_some, Int.toNat_natCast, hu, same_f _ _ n hn hx2 (k + 3) (by omega), Option.bind_some, if_pos rfl, Option.bind_some]
      rw [grow_l1 (v + 1) n (by omega) hn h1 _ hx2 m _ l i (by omega) k (by omega) m]
      exact ih k (i + 1) (v + 1) _ (by omega) (by omega) (by omega) hx2
    · have hw : bbt_Table_With.f (v : Int) xs x = some (0, [], 3) := by
        unfold bbt_Table_With.f
        rw [if_neg (by rw [hx]; exact hin)]
      rw [hw, Option.bind_some]
      by_cases h0 : x < 0
      · rw [if_pos h0]
        exact bad hin
      · rw [if_neg h0, decide_eq_true (by omega)]
        exact bad hin
theorem wakes_fd (d : Nat) : tillrolllaw09_wakes.f (300 + d) = some true := by
  induction d with
  | zero => exact wakes_f9
  | succ d ih => exact tillrolllaw09_wakes.mono (300 + d) _ ih
theorem bbtGrows_pure : tillrolllaw09_BbtGrows.Pure := by
  intro a0 l1 a2 h0 h1 h2 h3 h4
  refine ⟨5002, ?_⟩
  obtain ⟨N, hN, hN1, hN2⟩ : ∃ N : Nat, 1 + (mx 0 a0) % 256 = (N : Int) ∧ 1 ≤ N ∧ N ≤ 256 := ⟨(1 + (mx 0 a0) % 256).toNat, by omega, by omega, by omega⟩
  have main : tillrolllaw09_BbtGrows.j0 5002 a0 l1 a2 false = some true := by
    simp only [tillrolllaw09_BbtGrows.j0]
    have hnew : bbt_New.f (N : Int) = some (0, List.replicate N false, 0) := by
      unfold bbt_New.f
      rw [if_neg (by omega), if_neg (by omega), if_pos (by omega), if_pos (by omega), Int.toNat_natCast]
    have hs := same_f 0 (List.replicate N false) N hN2 List.length_replicate 5001 (by decide)
    rw [if_neg (by decide), hN, hnew, Option.bind_some, if_pos (by omega), if_pos (by omega), Option.bind_some, show tillrolllaw09_wakes.f 5001 = some true from wakes_fd 4701, Option.bind_some, if_pos rfl, if_pos rfl, Int.toNat_natCast, hs, Option.bind_some]
    have hmn : mn (l1.length : Int) 30 = ((min l1.length 30 : Nat) : Int) := by unfold mn; split <;> omega
    simp only [tillrolllaw09_BbtGrows.j1]
    rw [if_neg (by decide), hmn, if_pos (by omega), if_pos (by omega), Int.toNat_natCast]
    have hl : (l1.take (min l1.length 30)).length ≤ 30 := by rw [List.length_take]; omega
    generalize l1.take (min l1.length 30) = l at hl ⊢
    exact grow_l0 N hN2 hN1 l hl a2 l.length 5000 0 0 _ (Nat.zero_add _) (by omega) (Nat.le_refl _) List.length_replicate
  unfold tillrolllaw09_BbtGrows.f
  by_cases ha : a0 ≥ 1
  · by_cases hb : a0 ≤ 256
    · have hnew : bbt_New.f a0 = some (0, List.replicate a0.toNat false, 0) := by
        unfold bbt_New.f
        rw [if_neg (by omega), if_neg (by omega), if_pos (by omega), if_pos (by omega)]
      rw [hnew, Option.bind_some, if_pos ha, decide_eq_true hb, if_neg (show ¬ ((true != ((0 : Int) == 0)) = true) by decide), if_pos rfl]
      exact main
    · have hnew : bbt_New.f a0 = some (0, [], 2) := by
        unfold bbt_New.f
        rw [if_neg (by omega), if_pos (by omega)]
      rw [hnew, Option.bind_some, if_pos ha, decide_eq_false hb, if_neg (by decide), if_neg (by decide), if_pos rfl]
      unfold bbt_Table_Blocks.f
      rw [Option.bind_some]
      exact main
  · have hnew : bbt_New.f a0 = some (0, [], 2) := by
      unfold bbt_New.f
      rw [if_pos (by omega)]
    rw [hnew, Option.bind_some, if_neg ha, if_neg (by decide), if_neg (by decide), if_pos rfl]
    unfold bbt_Table_Blocks.f
    rw [Option.bind_some]
    exact main
end Go.Proofs.Ytopglieihhgaaaa
