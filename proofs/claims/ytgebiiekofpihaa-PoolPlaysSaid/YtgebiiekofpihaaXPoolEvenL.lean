/- PoolEven: the plain law. No conditions. -/
import Derived.Test.YtgebiiekofpihaaXPoolWakes
namespace Go.Proofs.Ytgebiiekofpihaa
open Go.RowKit Go.Lib Go.Proofs.YtgebiiekofpihaaW.PrintWords Go.Proofs.YtgebiiekofpihaaW.PrintLast Go.Proofs.YtgebiiekofpihaaW.PrintMore
set_option linter.unusedVariables false
set_option linter.unusedSimpArgs false
theorem getD_get (bs : List Bk) (i : Nat) (h : i < bs.length) : bs.getD i bkD = bs[i] := by rw [List.getD_eq_getElem?_getD, List.getElem?_eq_getElem h]; rfl
/-- What 'Take' chooses. -/
theorem bestN_spec (bs : List Bk) (k : Nat) (hk : k ≤ bs.length) : (bestN cmpI bs k = -1 ∧ ∀ i, i < k → ∀ h : i < bs.length, bs[i].1 ≠ 1) ∨ ∃ q : Nat, ∃ hq : q < bs.length, bestN cmpI bs k = (q : Int) ∧ q < k ∧ bs[q].1 = 1 ∧ ∀ i, i < k → ∀ h : i < bs.length, bs[i].1 = 1 → bs[q].2 ≤ bs[i].2 := by
  induction k with
  | zero => exact .inl ⟨rfl, fun i h => absurd h (Nat.not_lt_zero _)⟩
  | succ k ih =>
    have hkl : k < bs.length := by omega
    rw [bestN_step cmpI bs k hkl]
    rcases ih (by omega) with ⟨h1, h2⟩ | ⟨q, hq, h1, h2, h3, h4⟩
    · by_cases hs : bs[k].1 = 1
      · rw [if_pos ⟨hs, .inl (by rw [h1]; decide)⟩]
        refine .inr ⟨k, hkl, rfl, by omega, hs, fun i hi h he => ?_⟩
        by_cases hik : i = k
        · subst hik; exact Int.le_refl _
        · exact absurd he (h2 i (by omega) h)
      · rw [if_neg (fun h => hs h.1)]
        refine .inl ⟨h1, fun i hi h => ?_⟩
        by_cases hik : i = k
        · subst hik; exact hs
        · exact h2 i (by omega) h
    · rw [h1, Int.toNat_natCast, getD_get bs q hq]
      by_cases hs : bs[k].1 = 1 ∧ bs[k].2 < bs[q].2
      · rw [if_pos ⟨hs.1, .inr (by unfold cmpI; rw [if_pos hs.2]; decide)⟩]
        refine .inr ⟨k, hkl, rfl, by omega, hs.1, fun i hi h he => ?_⟩
        by_cases hik : i = k
        · subst hik; exact Int.le_refl _
        · have := h4 i (by omega) h he; omega
      · rw [if_neg]
        · refine .inr ⟨q, hq, rfl, by omega, h3, fun i hi h he => ?_⟩
          by_cases hik : i = k
          · subst hik; have : ¬ bs[i].2 < bs[q].2 := fun h => hs ⟨he, h⟩; omega
          · exact h4 i (by omega) h he
        · rintro ⟨g1, g2⟩
          rcases g2 with g2 | g2
          · omega
          · refine hs ⟨g1, ?_⟩
            unfold cmpI at g2
            split at g2
            · assumption
            · split at g2 <;> omega
theorem take_spec (bs : List Bk) (i : Nat) (hi : i < bs.length) (hs : bs[i].1 = 1) : ∃ k : Nat, ∃ hk : k < bs.length, takeV cmpI bs = ((k : Int), 0) ∧ takeL cmpI bs = bs.set k (2, bs[k].2) ∧ bs[k].1 = 1 ∧ ∀ i, ∀ h : i < bs.length, bs[i].1 = 1 → bs[k].2 ≤ bs[i].2 := by
  rcases bestN_spec bs bs.length (Nat.le_refl _) with ⟨_, h2⟩ | ⟨q, hq, h1, h2, h3, h4⟩
  · exact absurd hs (h2 i hi hi)
  · refine ⟨q, hq, ?_, ?_, h3, fun i h => h4 i h h⟩
    · unfold takeV bestB; rw [h1, if_neg (by omega)]
    · unfold takeL bestB; rw [h1, if_neg (by omega), Int.toNat_natCast, getD_get bs q hq]
theorem getB_set (bs : List Bk) (k : Nat) (hk : k < bs.length) (b : Bk) : getB (bs.set k b) (k : Int) = some b := by
  unfold getB
  rw [if_pos (by omega), Int.toNat_natCast, List.getElem?_set_self hk]
theorem weB_set (bs : List Bk) (k : Nat) (hk : k < bs.length) (b : Bk) : weB (bs.set k b) (k : Int) = b.2 := by unfold weB; rw [getB_set bs k hk]; rfl
theorem wornL_set (bs : List Bk) (k : Nat) (hk : k < bs.length) (b : Bk) (n : Int) (hn : 0 ≤ n) : wornL (bs.set k b) (k : Int) n = bs.set k (b.1, n) := by
  unfold wornL
  rw [getB_set bs k hk]
  simp only
  rw [if_neg (by omega), Int.toNat_natCast, List.set_set]
theorem setL_set (bs : List Bk) (k : Nat) (hk : k < bs.length) (b : Bk) (hb : b.1 ≠ 3) : setL (bs.set k b) (k : Int) 1 = bs.set k (1, b.2) := by
  unfold setL
  rw [getB_set bs k hk]
  simp only
  rw [if_neg (by omega), if_neg hb, Int.toNat_natCast, List.set_set]
theorem spread_fold (a c : Int) (ha : 0 ≤ a) (hac : a ≤ c) : ∀ (bs : List Bk) (p : Int × Int), (∀ b ∈ bs, b.1 ≠ 3 ∧ a ≤ b.2 ∧ b.2 ≤ c) → (p.1 = -1 ∨ a ≤ p.1) → p.2 ≤ c → ((bs.foldl spreadStep p).1 = -1 ∧ bs = [] ∨ a ≤ (bs.foldl spreadStep p).1) ∧ (bs.foldl spreadStep p).2 ≤ c
  | [], p, _, h1, h2 => ⟨h1.imp (fun h => ⟨h, rfl⟩) id, h2⟩
  | b :: bs, p, hb, h1, h2 => by
    obtain ⟨g1, g2, g3⟩ := hb b (List.mem_cons_self ..)
    rw [List.foldl_cons]
    have e : spreadStep p b = (if p.1 < 0 ∨ b.2 < p.1 then b.2 else p.1, max p.2 b.2) := if_neg g1
    have h3 : a ≤ (spreadStep p b).1 := by
      rw [e]
      show a ≤ if p.1 < 0 ∨ b.2 < p.1 then b.2 else p.1
      split
      · exact g2
      · rename_i h
        rcases h1 with h1 | h1
        · exact absurd (.inl (by rw [h1]; decide)) h
        · exact h1
    have h4 : (spreadStep p b).2 ≤ c := by
      rw [e]
      show max p.2 b.2 ≤ c
      omega
    obtain ⟨r1, r2⟩ := spread_fold a c ha hac bs (spreadStep p b) (fun x hx => hb x (List.mem_cons_of_mem _ hx)) (.inr h3) h4
    refine ⟨?_, r2⟩
    rcases r1 with ⟨r1, r3⟩ | r1
    · subst r3; rw [List.foldl_nil] at r1; omega
    · exact .inr r1
theorem spread_even (a : Int) (ha : 0 ≤ a) (bs : List Bk) (hne : bs ≠ []) (hb : ∀ b ∈ bs, b.1 ≠ 3 ∧ a ≤ b.2 ∧ b.2 ≤ a + 1) : (spreadN bs).2 - max (spreadN bs).1 0 ≤ 1 := by
  obtain ⟨r1, r2⟩ := spread_fold a (a + 1) ha (by omega) bs (-1, 0) hb (.inl rfl) (by simp only; omega)
  unfold spreadN
  rcases r1 with ⟨_, r1⟩ | r1
  · exact absurd r1 hne
  · omega

structure Even (bs : List Bk) (n : Nat) (held : Int) (hold t : Nat) : Prop where
  len : bs.length = n
  wear : ∀ i, ∀ h : i < bs.length, 0 ≤ bs[i].2 ∧ bs[i].2 ≤ (t : Int)
  st : (held = -1 ∧ (∀ i, ∀ h : i < bs.length, bs[i].1 = 1) ∧ ∃ m : Int, ∀ i, ∀ h : i < bs.length, m ≤ bs[i].2 ∧ bs[i].2 ≤ m + 1) ∨ (∃ q : Nat, held = (q : Int) ∧ q < n ∧ hold < t ∧ ∀ i, ∀ h : i < bs.length, bs[i].1 = if i = q then 2 else 1)
theorem even_start (n hold : Nat) : Even (List.replicate n (1, 0)) n (-1) hold 0 := by
  refine ⟨List.length_replicate .., fun i h => by rw [List.getElem_replicate]; exact ⟨Int.le_refl _, Int.le_refl _⟩, .inl ⟨rfl, fun i h => by rw [List.getElem_replicate], 0, fun i h => by rw [List.getElem_replicate]; exact ⟨by decide, by decide⟩⟩⟩
theorem even_take {bs : List Bk} {n : Nat} {held : Int} {hold t : Nat} (h : Even bs n held hold t) (hn : 2 ≤ n) : ∃ k : Nat, ∃ hk : k < bs.length, takeV cmpI bs = ((k : Int), 0) ∧ takeL cmpI bs = bs.set k (2, bs[k].2) ∧ bs[k].1 = 1 ∧ ∀ i, ∀ h : i < bs.length, bs[i].1 = 1 → bs[k].2 ≤ bs[i].2 := by
  have hl := h.len
  rcases h.st with ⟨_, h1, _⟩ | ⟨q, _, hq, _, h1⟩
  · exact take_spec bs 0 (by omega) (h1 0 (by omega))
  · by_cases h0 : q = 0
    · exact take_spec bs 1 (by omega) (by rw [h1 1 (by omega), if_neg (by omega)])
    · exact take_spec bs 0 (by omega) (by rw [h1 0 (by omega), if_neg (by omega)])
theorem mem_set_of {bs : List Bk} {k : Nat} {b : Bk} (P : Bk → Prop) (hb : P b) (h : ∀ i, i ≠ k → ∀ h : i < bs.length, P bs[i]) : ∀ x ∈ bs.set k b, P x := by
  intro x hx
  obtain ⟨i, hi, rfl⟩ := List.mem_iff_getElem.mp hx
  rw [List.length_set] at hi
  by_cases hik : i = k
  · subst hik
    rw [List.getElem_set_self]
    exact hb
  · rw [List.getElem_set_ne (fun e => hik e.symm)]
    exact h i hik hi
theorem even_spread {bs : List Bk} {n hold t : Nat} (h : Even bs n (-1) hold t) {k : Nat} (hk : k < bs.length) (hmin : ∀ i, ∀ h : i < bs.length, bs[i].1 = 1 → bs[k].2 ≤ bs[i].2) : (spreadN (bs.set k (2, bs[k].2 + 1))).2 - max (spreadN (bs.set k (2, bs[k].2 + 1))).1 0 ≤ 1 := by
  rcases h.st with ⟨_, h1, m, h2⟩ | ⟨q, hq, _⟩
  · have hk2 := h2 k hk
    refine spread_even bs[k].2 (h.wear k hk).1 _ (by intro e; have := congrArg List.length e; rw [List.length_set, List.length_nil] at this; omega) ?_
    refine mem_set_of (fun b => b.1 ≠ 3 ∧ bs[k].2 ≤ b.2 ∧ b.2 ≤ bs[k].2 + 1) ⟨show (2 : Int) ≠ 3 by decide, by simp only; omega, Int.le_refl _⟩ ?_
    intro i hik hi
    have hi2 := h2 i hi
    have hi3 := hmin i hi (h1 i hi)
    refine ⟨by rw [h1 i hi]; decide, hi3, by omega⟩
  · omega
theorem even_wear {bs : List Bk} {t : Nat} (h : ∀ i, ∀ h : i < bs.length, 0 ≤ bs[i].2 ∧ bs[i].2 ≤ (t : Int)) {k : Nat} (hk : k < bs.length) (s : Int) : ∀ i, ∀ h : i < (bs.set k (s, bs[k].2 + 1)).length, 0 ≤ (bs.set k (s, bs[k].2 + 1))[i].2 ∧ (bs.set k (s, bs[k].2 + 1))[i].2 ≤ ((t + 1 : Nat) : Int) := by
  intro i hi
  have hk2 := h k hk
  by_cases hik : i = k
  · subst hik
    rw [List.getElem_set_self]
    exact ⟨by simp only; omega, by simp only; omega⟩
  · rw [List.getElem_set_ne (fun e => hik e.symm)]
    have := h i (by rw [List.length_set] at hi; exact hi)
    omega
theorem even_free {bs : List Bk} {n hold t : Nat} (h : Even bs n (-1) hold t) {k : Nat} (hk : k < bs.length) (hmin : ∀ i, ∀ h : i < bs.length, bs[i].1 = 1 → bs[k].2 ≤ bs[i].2) : Even (bs.set k (1, bs[k].2 + 1)) n (-1) hold (t + 1) := by
  refine ⟨by rw [List.length_set]; exact h.len, even_wear h.wear hk 1, .inl ⟨rfl, ?_, bs[k].2, ?_⟩⟩
  · rcases h.st with ⟨_, h1, m, h2⟩ | ⟨q, hq, _⟩
    · intro i hi
      by_cases hik : i = k
      · subst hik; rw [List.getElem_set_self]
      · rw [List.getElem_set_ne (fun e => hik e.symm)]; exact h1 i (by rw [List.length_set] at hi; exact hi)
    · omega
  · rcases h.st with ⟨_, h1, m, h2⟩ | ⟨q, hq, _⟩
    · intro i hi
      by_cases hik : i = k
      · subst hik; rw [List.getElem_set_self]; simp only; omega
      · rw [List.getElem_set_ne (fun e => hik e.symm)]
        have hi' : i < bs.length := by rw [List.length_set] at hi; exact hi
        have := hmin i hi' (h1 i hi')
        have := h2 i hi'
        have := h2 k hk
        omega
    · omega
theorem even_hold {bs : List Bk} {n t : Nat} (h : Even bs n (-1) t t) {k : Nat} (hk : k < bs.length) : Even (bs.set k (2, bs[k].2 + 1)) n (k : Int) t (t + 1) := by
  refine ⟨by rw [List.length_set]; exact h.len, even_wear h.wear hk 2, .inr ⟨k, rfl, by rw [← h.len]; exact hk, by omega, ?_⟩⟩
  rcases h.st with ⟨_, h1, m, h2⟩ | ⟨q, hq, _⟩
  · intro i hi
    by_cases hik : i = k
    · subst hik; rw [List.getElem_set_self, if_pos rfl]
    · rw [List.getElem_set_ne (fun e => hik e.symm), if_neg hik]; exact h1 i (by rw [List.length_set] at hi; exact hi)
  · omega
theorem even_held {bs : List Bk} {n hold t q : Nat} (h : Even bs n (q : Int) hold t) {k : Nat} (hk : k < bs.length) (hs : bs[k].1 = 1) : Even (bs.set k (1, bs[k].2 + 1)) n (q : Int) hold (t + 1) := by
  refine ⟨by rw [List.length_set]; exact h.len, even_wear h.wear hk 1, ?_⟩
  rcases h.st with ⟨e, _⟩ | ⟨q', hq, h1, h2, h3⟩
  · omega
  · refine .inr ⟨q', hq, h1, by omega, fun i hi => ?_⟩
    by_cases hik : i = k
    · subst hik
      rw [List.getElem_set_self]
      have := h3 i hk
      by_cases he : i = q'
      · rw [if_pos he] at this; omega
      · rw [if_neg he]
    · rw [List.getElem_set_ne (fun e => hik e.symm)]; exact h3 i (by rw [List.length_set] at hi; exact hi)
theorem count_all (l : List Bk) (h : ∀ b ∈ l, b.1 = 1) : countB l 1 = l.length := by
  unfold countB
  rw [List.countP_eq_length]
  intro b hb
  rw [decide_eq_true_iff]
  exact h b hb
theorem even_count {bs : List Bk} {n : Nat} {held : Int} {hold t : Nat} (h : Even bs n held hold t) : (countB bs 1 : Int) = if 0 ≤ held then (n : Int) - 1 else n := by
  have hl := h.len
  rcases h.st with ⟨e, h1, _⟩ | ⟨q, e, hq, _, h1⟩
  · rw [if_neg (by omega), count_all bs (fun b hb => by obtain ⟨i, hi, rfl⟩ := List.mem_iff_getElem.mp hb; exact h1 i hi), hl]
  · rw [if_pos (by omega)]
    have hq' : q < bs.length := by omega
    have e1 : bs = bs.take q ++ bs[q] :: bs.drop (q + 1) := by rw [← List.drop_eq_getElem_cons hq', List.take_append_drop]
    have c1 : countB (bs.take q) 1 = q := by
      rw [count_all, List.length_take]
      · omega
      · intro b hb
        obtain ⟨i, hi, rfl⟩ := List.mem_iff_getElem.mp hb
        rw [List.length_take] at hi
        rw [List.getElem_take, h1 i (by omega), if_neg (by omega)]
    have c2 : countB (bs.drop (q + 1)) 1 = bs.length - (q + 1) := by
      rw [count_all, List.length_drop]
      intro b hb
      obtain ⟨i, hi, rfl⟩ := List.mem_iff_getElem.mp hb
      rw [List.length_drop] at hi
      rw [List.getElem_drop, h1 (q + 1 + i) (by omega), if_neg (by omega)]
    have c3 : countB bs 1 = countB (bs.take q) 1 + countB (bs.drop (q + 1)) 1 := by
      conv => lhs; rw [e1]
      unfold countB
      rw [List.countP_append, List.countP_cons, h1 q hq', if_pos rfl]
      simp
    rw [c3, c1, c2]
    omega
end Go.Proofs.Ytgebiiekofpihaa
