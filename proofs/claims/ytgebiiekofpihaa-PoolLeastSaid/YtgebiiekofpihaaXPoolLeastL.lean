/- PoolLeast: the plain law. No conditions. -/
import Derived.Test.YtgebiiekofpihaaXPoolEvenL
namespace Go.Proofs.Ytgebiiekofpihaa
open Go.RowKit Go.Lib Go.Proofs.YtgebiiekofpihaaW.PrintWords Go.Proofs.YtgebiiekofpihaaW.PrintLast Go.Proofs.YtgebiiekofpihaaW.PrintMore
set_option linter.unusedVariables false
set_option linter.unusedSimpArgs false
/-- What 'Most' chooses. -/
theorem bestM_spec (bs : List Bk) (k : Nat) (hk : k ≤ bs.length) : (bestN cmpM bs k = -1 ∧ ∀ i, i < k → ∀ h : i < bs.length, bs[i].1 ≠ 1) ∨ ∃ q : Nat, ∃ hq : q < bs.length, bestN cmpM bs k = (q : Int) ∧ q < k ∧ bs[q].1 = 1 ∧ ∀ i, i < k → ∀ h : i < bs.length, bs[i].1 = 1 → bs[i].2 ≤ bs[q].2 := by
  induction k with
  | zero => exact .inl ⟨rfl, fun i h => absurd h (Nat.not_lt_zero _)⟩
  | succ k ih =>
    have hkl : k < bs.length := by omega
    rw [bestN_step cmpM bs k hkl]
    rcases ih (by omega) with ⟨h1, h2⟩ | ⟨q, hq, h1, h2, h3, h4⟩
    · by_cases hs : bs[k].1 = 1
      · rw [if_pos ⟨hs, .inl (by rw [h1]; decide)⟩]
        refine .inr ⟨k, hkl, rfl, by omega, hs, fun i hi h he => ?_⟩
        by_cases hik : i = k
        · subst hik; exact Int.le_refl _
        · exact absurd he (h2 i (by omega) h)
      · rw [if_neg (fun h => hs h.1)]
        refine .inl ⟨h1, fun i hi h => ?_⟩
        by_cases hik : i = k
        · subst hik; exact hs
        · exact h2 i (by omega) h
    · rw [h1, Int.toNat_natCast, getD_get bs q hq]
      by_cases hs : bs[k].1 = 1 ∧ bs[q].2 < bs[k].2
      · rw [if_pos ⟨hs.1, .inr (by unfold cmpM cmpI; rw [if_pos hs.2]; decide)⟩]
        refine .inr ⟨k, hkl, rfl, by omega, hs.1, fun i hi h he => ?_⟩
        by_cases hik : i = k
        · subst hik; exact Int.le_refl _
        · have := h4 i (by omega) h he; omega
      · rw [if_neg]
        · refine .inr ⟨q, hq, rfl, by omega, h3, fun i hi h he => ?_⟩
          by_cases hik : i = k
          · subst hik; have : ¬ bs[q].2 < bs[i].2 := fun h => hs ⟨he, h⟩; omega
          · exact h4 i (by omega) h he
        · rintro ⟨g1, g2⟩
          rcases g2 with g2 | g2
          · omega
          · refine hs ⟨g1, ?_⟩
            unfold cmpM cmpI at g2
            split at g2
            · assumption
            · split at g2 <;> omega
/-- The two ways of a choice: nothing is free; or one that is, in its order. -/
def Chosen (cf : Int → Int → Int) (le : Int → Int → Prop) (bs : List Bk) : Prop :=
  (takeV cf bs = (0, 13) ∧ takeL cf bs = bs ∧ ∀ i, ∀ h : i < bs.length, bs[i].1 ≠ 1) ∨
  ∃ k : Nat, ∃ hk : k < bs.length, takeV cf bs = ((k : Int), 0) ∧ takeL cf bs = bs.set k (2, bs[k].2) ∧ bs[k].1 = 1 ∧ ∀ i, ∀ h : i < bs.length, bs[i].1 = 1 → le bs[k].2 bs[i].2
theorem chosen_take (bs : List Bk) : Chosen cmpI (fun a b => a ≤ b) bs := by
  rcases bestN_spec bs bs.length (Nat.le_refl _) with ⟨h1, h2⟩ | ⟨q, hq, h1, h2, h3, h4⟩
  · exact .inl ⟨by unfold takeV bestB; rw [h1, if_pos (by decide)], by unfold takeL bestB; rw [h1, if_pos (by decide)], fun i h => h2 i h h⟩
  · refine .inr ⟨q, hq, ?_, ?_, h3, fun i h => h4 i h h⟩
    · unfold takeV bestB; rw [h1, if_neg (by omega)]
    · unfold takeL bestB; rw [h1, if_neg (by omega), Int.toNat_natCast, getD_get bs q hq]
theorem chosen_most (bs : List Bk) : Chosen cmpM (fun a b => b ≤ a) bs := by
  rcases bestM_spec bs bs.length (Nat.le_refl _) with ⟨h1, h2⟩ | ⟨q, hq, h1, h2, h3, h4⟩
  · exact .inl ⟨by unfold takeV bestB; rw [h1, if_pos (by decide)], by unfold takeL bestB; rw [h1, if_pos (by decide)], fun i h => h2 i h h⟩
  · refine .inr ⟨q, hq, ?_, ?_, h3, fun i h => h4 i h h⟩
    · unfold takeV bestB; rw [h1, if_neg (by omega)]
    · unfold takeL bestB; rw [h1, if_neg (by omega), Int.toNat_natCast, getD_get bs q hq]
theorem getB_in (bs : List Bk) (i : Nat) (h : i < bs.length) : getB bs (i : Int) = some bs[i] := by unfold getB; rw [if_pos (by omega), Int.toNat_natCast, List.getElem?_eq_getElem h]
theorem stB_in (bs : List Bk) (i : Nat) (h : i < bs.length) : stB bs (i : Int) = bs[i].1 := by unfold stB; rw [getB_in bs i h]; rfl
theorem weB_in (bs : List Bk) (i : Nat) (h : i < bs.length) : weB bs (i : Int) = bs[i].2 := by unfold weB; rw [getB_in bs i h]; rfl
theorem weB_keep (bs : List Bk) (k i : Nat) (s : Int) (hk : k < bs.length) : weB (bs.set k (s, bs[k].2)) (i : Int) = weB bs (i : Int) := by
  by_cases hik : i = k
  · subst hik; rw [weB_set bs i hk, weB_in bs i hk]
  · unfold weB getB
    rw [if_pos (by omega), if_pos (by omega), Int.toNat_natCast, List.getElem?_set_ne (fun e => hik e.symm)]
theorem stB_set (bs : List Bk) (k : Nat) (hk : k < bs.length) (b : Bk) : stB (bs.set k b) (k : Int) = b.1 := by unfold stB; rw [getB_set bs k hk]; rfl
theorem set_same (bs : List Bk) (k : Nat) (hk : k < bs.length) (hs : bs[k].1 = 1) : bs.set k (1, ((2, bs[k].2) : Bk).2) = bs := by
  have e : ((1, ((2, bs[k].2) : Bk).2) : Bk) = bs[k] := by rw [← hs]
  rw [e, List.set_getElem_self]
/-- Only free and used ones. -/
def TwoB (bs : List Bk) : Prop := ∀ b ∈ bs, b.1 = 1 ∨ b.1 = 2
theorem two_worn {bs : List Bk} (h : TwoB bs) (k n : Int) : TwoB (wornL bs k n) ∧ (wornL bs k n).length = bs.length := by
  unfold wornL
  rcases getB_cases bs k with ⟨hg, _⟩ | ⟨i, rfl, hi, hg⟩
  · rw [hg]; exact ⟨h, rfl⟩
  · rw [hg]
    simp only
    split
    · exact ⟨h, rfl⟩
    · rw [Int.toNat_natCast, List.length_set]
      exact ⟨mem_set_of (fun b => b.1 = 1 ∨ b.1 = 2) (show bs[i].1 = 1 ∨ bs[i].1 = 2 from h bs[i] (List.getElem_mem hi)) (fun j _ hj => h _ (List.getElem_mem hj)), rfl⟩
theorem two_set {bs : List Bk} (h : TwoB bs) (k : Int) : TwoB (setL bs k 2) ∧ (setL bs k 2).length = bs.length := by
  unfold setL
  rcases getB_cases bs k with ⟨hg, _⟩ | ⟨i, rfl, hi, hg⟩
  · rw [hg]; exact ⟨h, rfl⟩
  · rw [hg]
    simp only
    split
    · exact ⟨h, rfl⟩
    · split
      · exact ⟨h, rfl⟩
      · rw [Int.toNat_natCast, List.length_set]
        exact ⟨mem_set_of (fun b => b.1 = 1 ∨ b.1 = 2) (.inr rfl) (fun j _ hj => h _ (List.getElem_mem hj)), rfl⟩
end Go.Proofs.Ytgebiiekofpihaa
