/- SaleLeft: the plain law: what three tallies (amounts, refunds, voids) have to do with the kept transactions. No program's walk. -/
import Derived.Test.YtdeeakjkhcdkaaaXSaleN
namespace Go.Proofs.Ytdeeakjkhcdkaaa
open Go.RowKit Go.Lib Go.Proofs.YtdeeakjkhcdkaaaW.PrintWords Go.Proofs.YtdeeakjkhcdkaaaW.PrintLast Go.Proofs.YtdeeakjkhcdkaaaW.PrintMore
set_option linter.unusedVariables false
set_option linter.unusedSimpArgs false
/-- A: the amounts of sales; B: what was refunded; V: what is void. -/
structure LeftInv (next : Nat) (ps : List TP) (A : Int → Option Int) (B : Int → Int) (V : Int → Bool) : Prop where
  len : ps.length + 1 = next
  sale : ∀ i, ∀ h : i < ps.length, ps[i].kind = 1 → A ((i : Int) + 1) = some ps[i].amount ∧ V ((i : Int) + 1) = ps[i].void ∧ (ps[i].void = true → ps[i].left = 0) ∧ (ps[i].void = false → ps[i].left = ps[i].amount - B ((i : Int) + 1)) ∧ 1 ≤ ps[i].amount ∧ ps[i].amount ≤ 4611686018427387904 ∧ 0 ≤ ps[i].left ∧ ps[i].left ≤ ps[i].amount
  other : ∀ i, ∀ h : i < ps.length, ¬ ps[i].kind = 1 → A ((i : Int) + 1) = none
  out : ∀ k : Int, (k < 1 ∨ (ps.length : Int) < k) → A k = none ∧ B k = 0 ∧ V k = false
theorem LeftInv.start : LeftInv 1 [] (fun _ => none) (fun _ => 0) (fun _ => false) :=
  ⟨rfl, fun i h => by simp at h, fun i h => by simp at h, fun k _ => ⟨rfl, rfl, rfl⟩⟩
/-- What the tallies become. -/
def stepA (next : Nat) (t : TP) (A : Int → Option Int) : Int → Option Int := if t.kind = 1 then fun k => if k = (next : Int) then some t.amount else A k else A
theorem stepA_ne (next : Nat) (t : TP) (A : Int → Option Int) (k : Int) (hk : ¬ k = (next : Int)) : stepA next t A k = A k := by
  unfold stepA
  split
  · exact if_neg hk
  · rfl
def stepB (t : TP) (B : Int → Int) : Int → Int := if t.kind = 3 then fun k => if k = t.ref then B t.ref + t.amount else B k else B
def stepV (t : TP) (V : Int → Bool) : Int → Bool := if t.kind = 2 then fun k => if k = t.ref then true else V k else V
theorem idx_sale {next : Nat} {ps : List TP} {t : TP} {A : Int → Option Int} {B : Int → Int} {V : Int → Bool} (h : LeftInv next ps A B V) (hc : addC next ps t = 0) (hb : backK t.kind = true) :
    ∃ i, ∃ hi : i < ps.length, idxR next ps.length t.ref = some i ∧ t.ref = (i : Int) + 1 ∧ ps[i].kind = 1 ∧ ps[i].void = false ∧ (t.kind = 2 → ps[i].left = ps[i].amount) ∧ (t.kind = 3 → t.amount ≤ ps[i].left) := by
  unfold addC at hc
  split at hc
  · split at hc
    · rename_i h1 h2
      obtain ⟨i, hi, hs⟩ := turn_zero h2 hb
      obtain ⟨hl, hr⟩ := idxR_some hi
      have hg : ps.getD i z0 = ps[i] := by rw [List.getD_eq_getElem?_getD, List.getElem?_eq_getElem hl]; rfl
      rw [hg] at hs
      obtain ⟨k1, k2, k3, k4⟩ := turnS_zero hs
      exact ⟨i, hl, hi, by have := h.len; omega, k1, k2, fun hk => (k3 hk).1, k4⟩
    · contradiction
  · simp at hc
theorem add_right {next : Nat} {ps : List TP} {t : TP} (hc : addC next ps t = 0) : rightT t = true := by
  unfold addC at hc
  split at hc
  · assumption
  · simp at hc
/-- A void: it wasn't void, and nothing was refunded. -/
theorem LeftInv.void {next : Nat} {ps : List TP} {t : TP} {A : Int → Option Int} {B : Int → Int} {V : Int → Bool} (h : LeftInv next ps A B V) (hc : addC next ps t = 0) (hk : t.kind = 2) : V t.ref = false ∧ B t.ref = 0 := by
  obtain ⟨i, hi, _, hr, k1, k2, k3, _⟩ := idx_sale h hc (by rw [hk]; decide)
  obtain ⟨s1, s2, _, s3, _⟩ := h.sale i hi k1
  rw [hr]
  refine ⟨s2.trans k2, ?_⟩
  have := s3 k2
  have := k3 hk
  omega
/-- A refund: it isn't void, and there is so much left. -/
theorem LeftInv.refund {next : Nat} {ps : List TP} {t : TP} {A : Int → Option Int} {B : Int → Int} {V : Int → Bool} (h : LeftInv next ps A B V) (hc : addC next ps t = 0) (hk : t.kind = 3) : ∃ a, A t.ref = some a ∧ V t.ref = false ∧ t.amount ≤ a - B t.ref ∧ 0 ≤ B t.ref ∧ 1 ≤ t.amount ∧ a ≤ 4611686018427387904 := by
  obtain ⟨i, hi, _, hr, k1, k2, _, k4⟩ := idx_sale h hc (by rw [hk]; decide)
  obtain ⟨s1, s2, _, s3, s4, s5, s6, s7⟩ := h.sale i hi k1
  have q := k4 hk
  have r := s3 k2
  have ra := (right_facts (add_right hc)).2.2.2.2 (by omega)
  rw [hr]
  exact ⟨_, s1, s2.trans k2, by omega, by omega, by omega, s5⟩
theorem after_eq {next : Nat} {ps : List TP} {t : TP} (hc : addC next ps t = 0) (hl : ps.length < 50) : afterR 50 next ps t = hitR next ps t ++ [newT next t] := by
  unfold afterR addR
  rw [if_pos hc, show ps.length + 1 - 50 = 0 by omega, List.drop_zero]
theorem hit_at {next : Nat} {ps : List TP} {t : TP} {i : Nat} (hi : idxR next ps.length t.ref = some i) (hb : backK t.kind = true) (hl : i < ps.length) : hitR next ps t = ps.set i (hitT t ps[i]) := by
  unfold hitR
  rw [if_pos hb, hi]
  simp only
  rw [List.getD_eq_getElem?_getD, List.getElem?_eq_getElem hl]
  rfl
theorem LeftInv.step {next : Nat} {ps : List TP} {t : TP} {A : Int → Option Int} {B : Int → Int} {V : Int → Bool} (h : LeftInv next ps A B V) (hc : addC next ps t = 0) (hl : ps.length < 50) : LeftInv (next + 1) (afterR 50 next ps t) (stepA next t A) (stepB t B) (stepV t V) := by
  have hlen := h.len
  have hrf := right_facts (add_right hc)
  rw [after_eq hc hl]
  have hnk : (newT next t).kind = t.kind := rfl
  have hna : (newT next t).amount = t.amount := rfl
  have hnv : (newT next t).void = false := rfl
  by_cases hb : backK t.kind = true
  · obtain ⟨i0, hi0, hix, hr, k1, k2, k3, k4⟩ := idx_sale h hc hb
    rw [hit_at hix hb hi0]
    have hk := (backK_eq _).mp hb
    obtain ⟨s1, s2, _, s3, s4, s5, s6, s7⟩ := h.sale i0 hi0 k1
    have sl := s3 k2
    have hA : stepA next t A = A := by unfold stepA; rw [if_neg (by omega)]
    rw [hA]
    have hn : A ((ps.length : Int) + 1) = none := (h.out _ (.inr (by omega))).1
    have hset : ∀ i, ∀ hi : i < (ps.set i0 (hitT t ps[i0]) ++ [newT next t]).length, i < ps.length ∧ (i = i0 ∧ (ps.set i0 (hitT t ps[i0]) ++ [newT next t])[i] = hitT t ps[i0] ∨ ∃ h2 : i < ps.length, i ≠ i0 ∧ (ps.set i0 (hitT t ps[i0]) ++ [newT next t])[i] = ps[i]) ∨ i = ps.length ∧ (ps.set i0 (hitT t ps[i0]) ++ [newT next t])[i] = newT next t := by
      intro i hi
      rw [List.length_append, List.length_set, List.length_singleton] at hi
      by_cases hi2 : i < ps.length
      · left
        refine ⟨hi2, ?_⟩
        rw [List.getElem_append_left (by rw [List.length_set]; exact hi2), List.getElem_set]
        by_cases e : i0 = i
        · subst e; rw [if_pos rfl]; exact .inl ⟨rfl, rfl⟩
        · rw [if_neg e]; exact .inr ⟨hi2, fun e2 => e e2.symm, rfl⟩
      · right
        refine ⟨by omega, ?_⟩
        rw [List.getElem_append_right (by rw [List.length_set]; omega)]
        simp
    have hpl : (ps.set i0 (hitT t ps[i0]) ++ [newT next t]).length = ps.length + 1 := by rw [append_len, List.length_set]
    rcases hk with hk | hk
    · have hB : stepB t B = B := by unfold stepB; rw [if_neg (by omega)]
      have hV : ∀ k, stepV t V k = if k = t.ref then true else V k := fun k => by unfold stepV; rw [if_pos hk]
      have hH : hitT t ps[i0] = ⟨ps[i0].num, ps[i0].kind, ps[i0].shift, ps[i0].ref, ps[i0].amount, 0, true, ps[i0].ls⟩ := by unfold hitT; rw [if_pos hk]
      rw [hB]
      refine ⟨by rw [hpl]; omega, fun i hi hs => ?_, fun i hi hs => ?_, fun k hk2 => ?_⟩
      · rw [hV]
        rcases hset i hi with ⟨hi2, ⟨rfl, e⟩ | ⟨_, hne, e⟩⟩ | ⟨rfl, e⟩
        · rw [e, hH] at hs ⊢
          rw [if_pos hr.symm]
          exact ⟨s1, rfl, fun _ => rfl, fun hf => (by cases hf), s4, s5, by show (0 : Int) ≤ 0; omega, by show (0 : Int) ≤ ps[i].amount; omega⟩
        · rw [e] at hs ⊢
          rw [if_neg (by omega)]
          exact h.sale i hi2 hs
        · rw [e, hnk] at hs; omega
      · rcases hset i hi with ⟨hi2, ⟨rfl, e⟩ | ⟨_, hne, e⟩⟩ | ⟨rfl, e⟩
        · rw [e, hH] at hs; exact absurd k1 hs
        · rw [e] at hs; exact h.other i hi2 hs
        · exact hn
      · rw [hpl] at hk2
        obtain ⟨o1, o2, o3⟩ := h.out k (by omega)
        refine ⟨o1, o2, ?_⟩
        rw [hV, if_neg (by omega)]; exact o3
    · have hV : stepV t V = V := by unfold stepV; rw [if_neg (by omega)]
      have hB : ∀ k, stepB t B k = if k = t.ref then B t.ref + t.amount else B k := fun k => by unfold stepB; rw [if_pos hk]
      have hH : hitT t ps[i0] = ⟨ps[i0].num, ps[i0].kind, ps[i0].shift, ps[i0].ref, ps[i0].amount, ps[i0].left - t.amount, ps[i0].void, ps[i0].ls⟩ := by unfold hitT; rw [if_neg (by omega)]
      have q := k4 hk
      have ra := hrf.2.2.2.2 (by omega)
      rw [hV]
      refine ⟨by rw [hpl]; omega, fun i hi hs => ?_, fun i hi hs => ?_, fun k hk2 => ?_⟩
      · rw [hB]
        rcases hset i hi with ⟨hi2, ⟨rfl, e⟩ | ⟨_, hne, e⟩⟩ | ⟨rfl, e⟩
        · rw [e, hH] at hs ⊢
          rw [if_pos hr.symm]
          refine ⟨s1, s2, fun hf => ?_, fun _ => ?_, s4, s5, ?_, ?_⟩
          · have : ps[i].void = true := hf
            rw [k2] at this; cases this
          · show ps[i].left - t.amount = ps[i].amount - (B t.ref + t.amount)
            rw [hr]; omega
          · show 0 ≤ ps[i].left - t.amount; omega
          · show ps[i].left - t.amount ≤ ps[i].amount; omega
        · rw [e] at hs ⊢
          rw [if_neg (by omega)]
          exact h.sale i hi2 hs
        · rw [e, hnk] at hs; omega
      · rcases hset i hi with ⟨hi2, ⟨rfl, e⟩ | ⟨_, hne, e⟩⟩ | ⟨rfl, e⟩
        · rw [e, hH] at hs; exact absurd k1 hs
        · rw [e] at hs; exact h.other i hi2 hs
        · exact hn
      · rw [hpl] at hk2
        obtain ⟨o1, o2, o3⟩ := h.out k (by omega)
        refine ⟨o1, ?_, o3⟩
        rw [hB, if_neg (by omega)]; exact o2
  · have hh : hitR next ps t = ps := by unfold hitR; rw [if_neg hb]
    have hk : ¬ t.kind = 2 ∧ ¬ t.kind = 3 := by rw [backK_eq] at hb; omega
    have hB : stepB t B = B := by unfold stepB; rw [if_neg hk.2]
    have hV : stepV t V = V := by unfold stepV; rw [if_neg hk.1]
    rw [hh, hB, hV]
    have hpl : (ps ++ [newT next t]).length = ps.length + 1 := append_len _ _
    have hset : ∀ i, ∀ hi : i < (ps ++ [newT next t]).length, (∃ h2 : i < ps.length, (ps ++ [newT next t])[i] = ps[i]) ∨ i = ps.length ∧ (ps ++ [newT next t])[i] = newT next t := by
      intro i hi
      rw [hpl] at hi
      by_cases hi2 : i < ps.length
      · exact .inl ⟨hi2, List.getElem_append_left hi2⟩
      · exact .inr ⟨by omega, by rw [List.getElem_append_right (by omega)]; simp⟩
    obtain ⟨n1, n2, n3⟩ := h.out ((ps.length : Int) + 1) (.inr (by omega))
    have hA : ∀ k, ¬ k = (next : Int) → stepA next t A k = A k := fun k hk => stepA_ne next t A k hk
    refine ⟨by rw [hpl]; omega, fun i hi hs => ?_, fun i hi hs => ?_, fun k hk2 => ?_⟩
    · rcases hset i hi with ⟨hi2, e⟩ | ⟨rfl, e⟩
      · rw [e] at hs ⊢
        rw [hA _ (by omega)]
        exact h.sale i hi2 hs
      · rw [e] at hs ⊢
        have ht1 : t.kind = 1 := hs
        have ra := hrf.2.2.2.2 (by omega)
        have hnl : (newT next t).left = t.amount := by unfold newT; rw [if_pos ht1]
        rw [hna, hnv, hnl, n2, n3]
        refine ⟨?_, rfl, fun hf => (by cases hf), fun _ => (by omega), ra.1, ra.2, by omega, by omega⟩
        unfold stepA
        rw [if_pos ht1, if_pos (by omega)]
    · rcases hset i hi with ⟨hi2, e⟩ | ⟨rfl, e⟩
      · rw [e] at hs
        rw [hA _ (by omega)]
        exact h.other i hi2 hs
      · rw [e, hnk] at hs
        unfold stepA
        rw [if_neg hs]
        exact n1
    · rw [hpl] at hk2
      obtain ⟨o1, o2, o3⟩ := h.out k (by omega)
      rw [hA _ (by omega)]
      exact ⟨o1, o2, o3⟩
/-- What each key of the amounts says of a kept sale. -/
theorem LeftInv.key {next : Nat} {ps : List TP} {A : Int → Option Int} {B : Int → Int} {V : Int → Bool} (h : LeftInv next ps A B V) (n x : Int) (hn : A n = some x) : ∃ i, idxR next ps.length n = some i ∧ (ps.getD i z0).void = V n ∧ (V n = true → (ps.getD i z0).left = 0) ∧ (V n = false → (ps.getD i z0).left = x - B n) ∧ 0 ≤ (ps.getD i z0).left ∧ (ps.getD i z0).left ≤ 4611686018427387904 := by
  have hr : 1 ≤ n ∧ n ≤ (ps.length : Int) := by
    by_cases h1 : n < 1 ∨ (ps.length : Int) < n
    · rw [(h.out n h1).1] at hn; cases hn
    · omega
  obtain ⟨i, rfl⟩ : ∃ i : Nat, n = (i : Int) + 1 := ⟨(n - 1).toNat, by omega⟩
  have hi : i < ps.length := by omega
  have hlen := h.len
  have hg : ps.getD i z0 = ps[i] := by rw [List.getD_eq_getElem?_getD, List.getElem?_eq_getElem hi]; rfl
  refine ⟨i, ?_, ?_⟩
  · unfold idxR
    rw [if_pos (by omega)]
    congr 1
    omega
  · rw [hg]
    by_cases hk : ps[i].kind = 1
    · obtain ⟨s1, s2, s3, s4, s5, s6, s7, s8⟩ := h.sale i hi hk
      rw [s1] at hn
      cases hn
      refine ⟨s2.symm, fun hv => s3 (s2.symm.trans hv), fun hv => s4 (s2.symm.trans hv), s7, by omega⟩
    · rw [h.other i hi hk] at hn; cases hn
end Go.Proofs.Ytdeeakjkhcdkaaa
