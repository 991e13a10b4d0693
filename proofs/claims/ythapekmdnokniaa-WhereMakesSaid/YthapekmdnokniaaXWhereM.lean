/- where: the plain law of a map of logical pages. No program in sight. -/
namespace Go.Proofs.Ythapekmdnokniaa
set_option linter.unusedVariables false
set_option linter.unusedSimpArgs false
structure WS where
  at_ : Int → Option (Int × Int)
  ow : Int × Int → Option Int
  live : List Int
  ca : Nat
  co : Nat
def inB (a : Int → Option (Int × Int)) (b : Nat) (k : Nat) : Bool := match a (k : Int) with | some p => p.1 == (b : Int) | none => false
def isAt (a : Int → Option (Int × Int)) (k : Nat) : Bool := (a (k : Int)).isSome
structure WOk (B P L : Nat) (s : WS) : Prop where
  len : s.live.length = B
  inv : ∀ k p, s.at_ k = some p ↔ s.ow p = some k
  rng : ∀ k p, s.at_ k = some p → 0 ≤ k ∧ k < L ∧ 0 ≤ p.1 ∧ p.1 < B ∧ 0 ≤ p.2 ∧ p.2 < P
  lv : ∀ b, b < B → s.live[b]? = some (((List.range L).countP (inB s.at_ b) : Nat) : Int)
  ca : s.ca = (List.range L).countP (isAt s.at_)
  co : s.co ≤ s.ca
def emptyW (B : Nat) : WS := ⟨fun _ => none, fun _ => none, List.replicate B 0, 0, 0⟩
theorem count_none (L : Nat) (f : Nat → Bool) (h : ∀ k, f k = false) : (List.range L).countP f = 0 := by
  rw [List.countP_eq_zero]
  intro k _
  rw [h k]; decide
theorem emptyW_ok (B P L : Nat) : WOk B P L (emptyW B) where
  len := by simp [emptyW]
  inv := fun k p => ⟨(fun h => by cases h), (fun h => by cases h)⟩
  rng := fun k p h => by cases h
  lv := fun b h => by rw [count_none L (inB (emptyW B).at_ b) (fun k => rfl)]; simp [emptyW, h]
  ca := by rw [count_none L (isAt (emptyW B).at_) (fun k => rfl)]; rfl
  co := Nat.le_refl _
theorem count_upd (L k : Nat) (hk : k < L) (f f' : Nat → Bool) (h : ∀ j, j ≠ k → f' j = f j) : (List.range L).countP f' + (if f k then 1 else 0) = (List.range L).countP f + (if f' k then 1 else 0) := by
  induction L with
  | zero => omega
  | succ L ih =>
    rw [List.range_succ, List.countP_append, List.countP_append, List.countP_singleton, List.countP_singleton]
    by_cases e : k = L
    · subst e
      have : (List.range k).countP f' = (List.range k).countP f := by
        refine List.countP_congr (fun j hj => ?_)
        rw [List.mem_range] at hj
        rw [h j (by omega)]
      omega
    · have := ih (by omega)
      rw [h L (fun e' => e e'.symm)]
      omega
theorem count_le (L : Nat) (f : Nat → Bool) : (List.range L).countP f ≤ L := by
  have := List.countP_le_length (p := f) (l := List.range L)
  rwa [List.length_range] at this
/-- A logical page is nowhere from now on. -/
def dropS (s : WS) (k : Int) : WS :=
  match s.at_ k with
  | none => s
  | some p => ⟨fun j => if j = k then none else s.at_ j, fun q => if q = p then none else s.ow q, s.live.set p.1.toNat (s.live.getD p.1.toNat 0 - 1), s.ca - 1, s.co - 1⟩
theorem WOk.count_pos {B P L : Nat} {s : WS} (h : WOk B P L s) {k : Int} {p : Int × Int} (hp : s.at_ k = some p) : 0 < (List.range L).countP (inB s.at_ p.1.toNat) ∧ 0 < (List.range L).countP (isAt s.at_) := by
  obtain ⟨h1, h2, h3, h4, _⟩ := h.rng k p hp
  have hk : ((k.toNat : Nat) : Int) = k := by omega
  constructor
  · refine List.countP_pos_iff.mpr ⟨k.toNat, by rw [List.mem_range]; omega, ?_⟩
    unfold inB; rw [hk, hp]; simp; omega
  · refine List.countP_pos_iff.mpr ⟨k.toNat, by rw [List.mem_range]; omega, ?_⟩
    unfold isAt; rw [hk, hp]; rfl
theorem dropS_ok {B P L : Nat} {s : WS} (h : WOk B P L s) (k : Int) : WOk B P L (dropS s k) := by
  unfold dropS
  cases hp : s.at_ k with
  | none => exact h
  | some p =>
    obtain ⟨h1, h2, h3, h4, h5, h6⟩ := h.rng k p hp
    obtain ⟨c1, c2⟩ := h.count_pos hp
    have hkn : ((k.toNat : Nat) : Int) = k := by omega
    dsimp only
    refine ⟨?_, fun j q => ?_, fun j q hj => ?_, fun b hb => ?_, ?_, ?_⟩
    · rw [List.length_set]; exact h.len
    · dsimp only
      by_cases e : j = k
      · subst e
        rw [if_pos rfl]
        constructor
        · intro h; cases h
        · intro hq
          by_cases e2 : q = p
          · rw [if_pos e2] at hq; cases hq
          · rw [if_neg e2] at hq
            have := (h.inv j q).mpr hq
            rw [hp] at this
            injection this with this
            exact absurd this.symm e2
      · rw [if_neg e]
        by_cases e2 : q = p
        · rw [if_pos e2]
          constructor
          · intro hj
            subst e2
            have a := (h.inv j q).mp hj
            have b := (h.inv k q).mp hp
            rw [a] at b
            injection b with b
            exact absurd b e
          · intro h; cases h
        · rw [if_neg e2]; exact h.inv j q
    · dsimp only at hj
      by_cases e : j = k
      · rw [if_pos e] at hj; cases hj
      · rw [if_neg e] at hj; exact h.rng j q hj
    · have hu := count_upd L k.toNat (by omega) (inB s.at_ b) (inB (fun j => if j = k then none else s.at_ j) b) (fun j hj => by
        unfold inB; dsimp only; rw [if_neg (by omega)])
      have e1 : inB (fun j => if j = k then none else s.at_ j) b k.toNat = false := by unfold inB; dsimp only; rw [hkn, if_pos rfl]
      have e2 : inB s.at_ b k.toNat = (p.1 == (b : Int)) := by unfold inB; rw [hkn, hp]
      rw [e1, e2, if_neg (show ¬ (false = true) by decide), Nat.add_zero] at hu
      have hlb := h.lv b hb
      dsimp only
      rw [List.getElem?_set]
      by_cases e : p.1.toNat = b
      · have e3 : p.1 = (b : Int) := by omega
        rw [if_pos e, if_pos (by rw [h.len]; omega)]
        have e4 : (p.1 == (b : Int)) = true := by simp [e3]
        rw [e4, if_pos rfl] at hu
        rw [e] at c1
        rw [List.getD_eq_getElem?_getD, e, hlb]
        simp only [Option.getD_some]
        congr 1
        omega
      · have e3 : (p.1 == (b : Int)) = false := by simp; omega
        rw [e3, if_neg (show ¬ (false = true) by decide), Nat.add_zero] at hu
        rw [if_neg e, hlb, hu]
    · have hu := count_upd L k.toNat (by omega) (isAt s.at_) (isAt (fun j => if j = k then none else s.at_ j)) (fun j hj => by
        unfold isAt; dsimp only; rw [if_neg (by omega)])
      have e1 : isAt (fun j => if j = k then none else s.at_ j) k.toNat = false := by unfold isAt; dsimp only; rw [hkn, if_pos rfl]; rfl
      have e2 : isAt s.at_ k.toNat = true := by unfold isAt; rw [hkn, hp]; rfl
      rw [e1, e2, if_neg (show ¬ (false = true) by decide), if_pos rfl] at hu
      have := h.ca
      show s.ca - 1 = (List.range L).countP (isAt (fun j => if j = k then none else s.at_ j))
      omega
    · have := h.co
      show s.co - 1 ≤ s.ca - 1
      omega
theorem dropS_none {s : WS} (k : Int) {B P L : Nat} (h : WOk B P L s) : (dropS s k).at_ k = none := by
  unfold dropS
  cases hp : s.at_ k with
  | none => exact hp
  | some p => exact if_pos rfl
theorem dropS_other {s : WS} {k j : Int} (hne : j ≠ k) : (dropS s k).at_ j = s.at_ j := by
  unfold dropS
  cases hp : s.at_ k with
  | none => rfl
  | some p => exact if_neg hne
/-- A logical page that is nowhere is at a free place from now on. -/
def addS (s : WS) (k : Int) (p : Int × Int) : WS :=
  ⟨fun j => if j = k then some p else s.at_ j, fun q => if q = p then some k else s.ow q, s.live.set p.1.toNat (s.live.getD p.1.toNat 0 + 1), s.ca + 1, s.co + 1⟩
theorem addS_ok {B P L : Nat} {s : WS} (h : WOk B P L s) (k : Int) (p : Int × Int) (hk0 : 0 ≤ k) (hk : k < L) (h3 : 0 ≤ p.1) (h4 : p.1 < B) (h5 : 0 ≤ p.2) (h6 : p.2 < P) (hn : s.at_ k = none) (hf : s.ow p = none) : WOk B P L (addS s k p) := by
  have hkn : ((k.toNat : Nat) : Int) = k := by omega
  refine ⟨?_, fun j q => ?_, fun j q hj => ?_, fun b hb => ?_, ?_, ?_⟩
  · show (s.live.set _ _).length = B
    rw [List.length_set]; exact h.len
  · show (if j = k then some p else s.at_ j) = some q ↔ (if q = p then some k else s.ow q) = some j
    by_cases e : j = k
    · subst e
      rw [if_pos rfl]
      by_cases e2 : q = p
      · subst e2; rw [if_pos rfl]; simp
      · rw [if_neg e2]
        constructor
        · intro h; injection h with h; exact absurd h.symm e2
        · intro hq
          have := (h.inv j q).mpr hq
          rw [hn] at this; cases this
    · rw [if_neg e]
      by_cases e2 : q = p
      · subst e2
        rw [if_pos rfl]
        constructor
        · intro hj
          have := (h.inv j q).mp hj
          rw [hf] at this; cases this
        · intro h; injection h with h; exact absurd h.symm e
      · rw [if_neg e2]; exact h.inv j q
  · change (if j = k then some p else s.at_ j) = some q at hj
    by_cases e : j = k
    · rw [if_pos e] at hj
      injection hj with hj
      subst hj
      subst e
      exact ⟨hk0, hk, h3, h4, h5, h6⟩
    · rw [if_neg e] at hj; exact h.rng j q hj
  · have hu := count_upd L k.toNat (by omega) (inB s.at_ b) (inB (addS s k p).at_ b) (fun j hj => by
      unfold inB addS; dsimp only; rw [if_neg (by omega)])
    have e1 : inB (addS s k p).at_ b k.toNat = (p.1 == (b : Int)) := by unfold inB addS; dsimp only; rw [hkn, if_pos rfl]
    have e2 : inB s.at_ b k.toNat = false := by unfold inB; rw [hkn, hn]
    rw [e1, e2, if_neg (show ¬ (false = true) by decide), Nat.add_zero] at hu
    have hlb := h.lv b hb
    show (s.live.set _ _)[b]? = _
    rw [List.getElem?_set, hu]
    by_cases e : p.1.toNat = b
    · have e3 : p.1 = (b : Int) := by omega
      have e4 : (p.1 == (b : Int)) = true := by simp [e3]
      rw [if_pos e, if_pos (by rw [h.len]; omega), List.getD_eq_getElem?_getD, e, hlb, e4, if_pos rfl]
      simp
    · have e3 : (p.1 == (b : Int)) = false := by simp; omega
      rw [if_neg e, hlb, e3, if_neg (show ¬ (false = true) by decide), Nat.add_zero]
  · have hu := count_upd L k.toNat (by omega) (isAt s.at_) (isAt (addS s k p).at_) (fun j hj => by
      unfold isAt addS; dsimp only; rw [if_neg (by omega)])
    have e1 : isAt (addS s k p).at_ k.toNat = true := by unfold isAt addS; dsimp only; rw [hkn, if_pos rfl]; rfl
    have e2 : isAt s.at_ k.toNat = false := by unfold isAt; rw [hkn, hn]; rfl
    rw [e1, e2, if_neg (show ¬ (false = true) by decide), if_pos rfl] at hu
    have := h.ca
    show s.ca + 1 = _
    omega
  · exact Nat.succ_le_succ h.co
/-- May it be put? -/
def putE (B P L : Nat) (s : WS) (k : Int) (p : Int × Int) : Int :=
  if k < 0 ∨ L ≤ k then 3
  else if ¬ (0 ≤ p.1 ∧ p.1 < B ∧ 0 ≤ p.2 ∧ p.2 < P) then 3
  else match s.ow p with
    | none => 0
    | some j => if j = k then 0 else 16
def putS (B P L : Nat) (s : WS) (k : Int) (p : Int × Int) : WS := if putE B P L s k p = 0 then addS (dropS s k) k p else s
theorem dropS_ow {B P L : Nat} {s : WS} (h : WOk B P L s) (k : Int) (p : Int × Int) (hp : s.ow p = none ∨ s.ow p = some k) : (dropS s k).ow p = none := by
  unfold dropS
  rcases hp with hp | hp
  · cases hk : s.at_ k with
    | none => exact hp
    | some q =>
      dsimp only
      split
      · rfl
      · exact hp
  · have := (h.inv k p).mpr hp
    rw [this]
    exact if_pos rfl
theorem putE_zero {B P L : Nat} {s : WS} {k : Int} {p : Int × Int} (h : putE B P L s k p = 0) : 0 ≤ k ∧ k < L ∧ (0 ≤ p.1 ∧ p.1 < B ∧ 0 ≤ p.2 ∧ p.2 < P) ∧ (s.ow p = none ∨ s.ow p = some k) := by
  unfold putE at h
  by_cases h1 : k < 0 ∨ L ≤ k
  · rw [if_pos h1] at h; exact absurd h (by decide)
  · rw [if_neg h1] at h
    by_cases h2 : ¬ (0 ≤ p.1 ∧ p.1 < B ∧ 0 ≤ p.2 ∧ p.2 < P)
    · rw [if_pos h2] at h; exact absurd h (by decide)
    · rw [if_neg h2] at h
      refine ⟨by omega, by omega, Decidable.not_not.mp h2, ?_⟩
      cases ho : s.ow p with
      | none => exact .inl rfl
      | some j =>
        rw [ho] at h
        dsimp only at h
        by_cases e : j = k
        · rw [e]; exact .inr rfl
        · rw [if_neg e] at h; exact absurd h (by decide)
theorem putS_ok {B P L : Nat} {s : WS} (h : WOk B P L s) (k : Int) (p : Int × Int) : WOk B P L (putS B P L s k p) := by
  unfold putS
  by_cases e : putE B P L s k p = 0
  · rw [if_pos e]
    obtain ⟨h1, h2, ⟨h3, h4, h5, h6⟩, h7⟩ := putE_zero e
    exact addS_ok (dropS_ok h k) k p h1 h2 h3 h4 h5 h6 (dropS_none k h) (dropS_ow h k p h7)
  · rw [if_neg e]; exact h
theorem sum_blocks {B P L : Nat} {s : WS} (h : WOk B P L s) : ((List.range B).map fun b => (List.range L).countP (inB s.at_ b)).sum = s.ca := by
  rw [h.ca]
  have key : ∀ M, M ≤ L → ((List.range B).map fun b => (List.range M).countP (inB s.at_ b)).sum = (List.range M).countP (isAt s.at_) := by
    intro M
    induction M with
    | zero =>
      intro _
      have z : ∀ l : List Nat, (l.map fun _ => 0).sum = 0 := by intro l; induction l <;> simp_all
      simp [z]
    | succ M ih =>
      intro hM
      rw [List.range_succ, List.countP_append, List.countP_singleton, ← ih (by omega)]
      have : ∀ (C : Nat), ((List.range C).map fun b => (List.range M ++ [M]).countP (inB s.at_ b)).sum = ((List.range C).map fun b => (List.range M).countP (inB s.at_ b)).sum + (match s.at_ (M : Int) with | some p => if p.1.toNat < C ∧ 0 ≤ p.1 then 1 else 0 | none => 0) := by
        intro C
        induction C with
        | zero => cases s.at_ (M : Int) <;> simp
        | succ C ihC =>
          rw [List.range_succ, List.map_append, List.sum_append, List.map_append, List.sum_append, ihC]
          simp only [List.map_cons, List.map_nil, List.sum_cons, List.sum_nil, List.countP_append, List.countP_singleton, Nat.add_zero]
          cases hp : s.at_ (M : Int) with
          | none => simp [inB, hp]
          | some p =>
            simp only [inB, hp]
            by_cases e : p.1 = (C : Int)
            · have e2 : p.1.toNat = C := by omega
              simp only [e, beq_self_eq_true, if_true]
              rw [if_neg (by omega), if_pos (by omega)]
              omega
            · have e2 : (p.1 == (C : Int)) = false := by simp [e]
              rw [e2]
              simp only [Bool.false_eq_true, if_false]
              by_cases e3 : p.1.toNat < C ∧ 0 ≤ p.1
              · rw [if_pos e3, if_pos (by omega)]
                omega
              · rw [if_neg e3, if_neg (by omega)]
                omega
      rw [this B]
      congr 1
      cases hp : s.at_ (M : Int) with
      | none => simp [isAt, hp]
      | some p =>
        obtain ⟨_, _, g1, g2, _⟩ := h.rng _ p hp
        simp only [isAt, hp, Option.isSome_some, if_true]
        rw [if_pos (by omega)]
  exact key L (Nat.le_refl _)
end Go.Proofs.Ythapekmdnokniaa
