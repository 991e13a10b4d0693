/- post: the document's Contra, On and Check out of the printed functions. No conditions beyond the form's own reach. -/
import Derived.Test.YtkmbjfgdjoanjaaXPostH
import Derived.Test.YtkmbjfgdjoanjaaPx4
import Derived.Test.YtkmbjfgdjoanjaaPx5
import Derived.Test.YtkmbjfgdjoanjaaPx6
namespace Go.Proofs.Ytkmbjfgdjoanjaa
open Go.RowKit Go.Lib Go.Proofs.Ytkmbjfgdjoanjaa.P Go.Proofs.YtkmbjfgdjoanjaaW.PrintWords Go.Proofs.YtkmbjfgdjoanjaaW.PrintLast Go.Proofs.YtkmbjfgdjoanjaaW.PrintMore
set_option linter.unusedVariables false
set_option linter.unusedSimpArgs false
--@tables
theorem rdR (ys : List Ln) (i : Nat) (hi : i < ys.length) : rd_T82 (ys.map sR) (i : Int) = sR ys[i] := by
  unfold rd_T82
  rw [Int.toNat_natCast, List.getD_eq_getElem?_getD, List.getElem?_map, List.getElem?_eq_getElem hi]
  rfl
theorem rcontra_l0 (ys : List Ln) (hl : ys.length ≤ 1000) (hin : LnIn ys) (d : Nat) : ∀ (k i : Nat), i + d = ys.length → d < k → (ys.take i).all okN = true →
    tillrollref22_Contra.l0 k (ys.map sR) (((ys.take i).map negL).map sR) (i : Int) = some ((conV ys).1.map sR, (conV ys).2) := by
  induction d with
  | zero =>
    intro k i h hk ha
    obtain ⟨k, rfl⟩ : ∃ m, k = m + 1 := ⟨k - 1, by omega⟩
    obtain rfl : i = ys.length := by omega
    rw [List.take_length] at ha ⊢
    simp only [tillrollref22_Contra.l0]
    rw [if_neg (by rw [List.length_map]; omega), show conV ys = (ys.map negL, 0) from if_pos ha]
  | succ d ih =>
    intro k i h hk ha
    obtain ⟨k, rfl⟩ : ∃ m, k = m + 1 := ⟨k - 1, by omega⟩
    have hi : i < ys.length := by omega
    have hr := (hin ys[i] (List.getElem_mem hi)).2
    simp only [tillrollref22_Contra.l0]
    rw [if_pos (by rw [List.length_map]; omega), if_pos (by omega), rdR ys i hi]
    show (if ys[i].2 = -9223372036854775808 then _ else _) = _
    by_cases hm : ys[i].2 = -9223372036854775808
    · rw [if_pos hm, conV_bad ys i hi (by unfold okN; simp [hm])]; rfl
    · have hok : okN ys[i] = true := by unfold okN; simp [hm]
      rw [if_neg hm, if_pos (by rw [List.length_map, List.length_map, List.length_take]; omega)]
      have hw : wrap64 (-(sR ys[i]).f1) = -ys[i].2 := by show wrap64 (-ys[i].2) = _; unfold wrap64; omega
      have e1 : ((ys.take i).map negL).map sR ++ [(⟨(sR ys[i]).f0, wrap64 (-(sR ys[i]).f1)⟩ : S82)] = ((ys.take (i + 1)).map negL).map sR := by
        rw [hw, List.take_succ_eq_append_getElem hi, List.map_append, List.map_append]; rfl
      rw [e1, show wrap64 ((i : Int) + 1) = ((i + 1 : Nat) : Int) by unfold wrap64; omega]
      exact ih k (i + 1) (by omega) (by omega) (all_take_succ okN ys i hi ha hok)
theorem rcontra_ok (ys : List Ln) (hl : ys.length ≤ 100) (hin : LnIn ys) {E B : Nat} {v : Value} {w : World} (h : LRow w E B v ys) :
    Calls Try.prog 11 #[v] w fun e w' => ∃ u, e = .returned (.tuple #[u, .int .i64 (conV ys).2]) ∧ LRow w' 82 w.heap.size u (conV ys).1 ∧ Below w.heap.size w w' := by
  obtain ⟨a, c, rfl, hc, ha⟩ := h.at'
  have hcon := tillrollref22_Contra.calls 200 a c (ys.map sR) _ _ w (by rw [List.length_map]; exact lns_C k82 sR rfl (fun w p => k82_mk w (sR p)) ha (Nat.le_trans hc.1 hc.2)) (by rw [List.length_map]; exact hc.1) (rcontra_l0 ys (by omega) hin ys.length 200 0 (by omega) (by omega) rfl)
  rw [List.length_map] at hcon
  refine hcon.mono ?_
  rintro e w' ⟨v, rfl, hr, hb⟩
  refine ⟨v, rfl, ?_, hb⟩
  have := R_LRow k82 uR rfl (fun hM => k82_openM hM) hr
  rw [List.map_map] at this
  rwa [show uR ∘ sR = id from rfl, List.map_id] at this
theorem tot_same (S : Int) : totR S = totV S := rfl
theorem total_f (l : List Int) (hl : l.length ≤ 1000) (h : ∀ x ∈ l, -9223372036854775808 ≤ x ∧ x < 9223372036854775808) : tillrollref03_Total.f l = some (totV l.sum) := by
  unfold tillrollref03_Total.f
  rw [if_pos ⟨hl, h⟩, tot_same]
theorem ron_l0 (ys : List Ln) (hl : ys.length ≤ 1000) (hin : LnIn ys) (a : Int) (d : Nat) : ∀ (k i : Nat), i + d = ys.length → d < k →
    tillrollref22_On.l0 k (ys.map sR) a (((ys.take i).filter (fun p => p.1 == a)).map (·.2)) (i : Int) = some (totV (onS ys a)) := by
  induction d with
  | zero =>
    intro k i h hk
    obtain ⟨k, rfl⟩ : ∃ m, k = m + 1 := ⟨k - 1, by omega⟩
    obtain rfl : i = ys.length := by omega
    rw [List.take_length]
    simp only [tillrollref22_On.l0]
    rw [if_neg (by rw [List.length_map]; omega), total_f _ (by rw [List.length_map]; exact Nat.le_trans (List.length_filter_le _ _) hl) (fun x hx => by
      obtain ⟨p, hp, rfl⟩ := List.mem_map.1 hx
      exact (hin p (List.mem_filter.1 hp).1).2)]
    rfl
  | succ d ih =>
    intro k i h hk
    obtain ⟨k, rfl⟩ : ∃ m, k = m + 1 := ⟨k - 1, by omega⟩
    have hi : i < ys.length := by omega
    have hf := filt_take (fun p => p.1 == a) ys i hi
    simp only [tillrollref22_On.l0]
    rw [if_pos (by rw [List.length_map]; omega), if_pos (by omega), rdR ys i hi]
    show (if ys[i].1 = a then _ else _) = _
    rw [show wrap64 ((i : Int) + 1) = ((i + 1 : Nat) : Int) by unfold wrap64; omega]
    by_cases hm : ys[i].1 = a
    · rw [if_pos hm, if_pos (by rw [List.length_map]; have := List.length_filter_le (fun p : Ln => p.1 == a) (ys.take i); rw [List.length_take] at this; omega)]
      rw [if_pos (by simp [hm])] at hf
      have : (((ys.take i).filter (fun p => p.1 == a)).map (·.2)) ++ [(sR ys[i]).f1] = ((ys.take (i + 1)).filter (fun p => p.1 == a)).map (·.2) := by rw [hf]; rfl
      rw [this]
      exact ih k (i + 1) (by omega) (by omega)
    · rw [if_neg hm]
      rw [if_neg (by simp [hm]), List.append_nil] at hf
      rw [← hf]
      exact ih k (i + 1) (by omega) (by omega)
theorem ron_ok (ys : List Ln) (hl : ys.length ≤ 100) (hin : LnIn ys) (k : Int) {E B : Nat} {v : Value} {w : World} (h : LRow w E B v ys) :
    Calls Try.prog 16 #[v, .int .i64 k] w fun e w' => e = .returned (.tuple #[.int .i64 (totV (onS ys k)).1, .int .i64 (totV (onS ys k)).2]) ∧ Below w.heap.size w w' := by
  obtain ⟨a, c, rfl, hc, ha⟩ := h.at'
  have hcon := tillrollref22_On.calls 200 a c (ys.map sR) k (totV (onS ys k)).1 (totV (onS ys k)).2 w (by rw [List.length_map]; exact lns_C k82 sR rfl (fun w p => k82_mk w (sR p)) ha (Nat.le_trans hc.1 hc.2)) (by rw [List.length_map]; exact hc.1) (ron_l0 ys (by omega) hin k ys.length 200 0 (by omega) (by omega))
  rw [List.length_map] at hcon
  exact hcon
theorem fnd_five (a : Int) : fnd (accL 5) a 0 ≥ 0 ↔ 1 ≤ a ∧ a ≤ 5 := by
  have e : accL 5 = [(1, 1, { data := #[120] }), (2, 1, { data := #[120] }), (3, 1, { data := #[120] }), (4, 1, { data := #[120] }), (5, 1, { data := #[120] })] := rfl
  rw [e]
  simp only [fnd]
  repeat' split
  all_goals omega
theorem rcheck_l0 (ys : List Ln) (hl : ys.length ≤ 100) (hin : LnIn ys) (hz : ¬ (ys.length < 2 ∨ 8 < ys.length)) (d : Nat) : ∀ (k i : Nat), i + d = ys.length → d + 2000 < k → (ys.take i).all nzL = true →
    tillrollref22_Check.l0 k (ys.map sR) ((accL 5).map s79) ((ys.take i).map (·.2)) ((ys.take i).all acL) (i : Int) = some (chkV ys) := by
  induction d with
  | zero =>
    intro k i h hk ha
    obtain ⟨k, rfl⟩ : ∃ m, k = m + 1 := ⟨k - 1, by omega⟩
    obtain rfl : i = ys.length := by omega
    rw [List.take_length] at ha ⊢
    have hV : chkV ys = if ys.all acL = false then 19 else if allS ys = 0 then 0 else 18 := by
      unfold chkV
      rw [if_neg hz, if_neg (by rw [ha]; decide)]
    simp only [tillrollref22_Check.l0]
    rw [if_neg (by rw [List.length_map]; omega), hV]
    cases hc : ys.all acL with
    | false => rw [if_neg (by decide), if_pos rfl]
    | true =>
      rw [if_pos rfl, if_neg (by decide), total_f _ (by rw [List.length_map]; omega) (fun x hx => by
        obtain ⟨p, hp, rfl⟩ := List.mem_map.1 hx
        exact (hin p hp).2), Option.bind_some, show (ys.map (·.2)).sum = allS ys from rfl]
      unfold totV
      by_cases hr : -9223372036854775808 ≤ allS ys ∧ allS ys < 9223372036854775808
      · rw [if_pos hr]
        simp only [if_true]
        split <;> rfl
      · rw [if_neg hr]
        simp only
        rw [if_neg (by decide), if_neg (by omega)]
  | succ d ih =>
    intro k i h hk ha
    obtain ⟨k, rfl⟩ : ∃ m, k = m + 1 := ⟨k - 1, by omega⟩
    have hi : i < ys.length := by omega
    simp only [tillrollref22_Check.l0]
    rw [if_pos (by rw [List.length_map]; omega), if_pos (by omega), rdR ys i hi]
    show (if ys[i].2 = 0 then _ else _) = _
    by_cases hm : ys[i].2 = 0
    · rw [if_pos hm]
      have hb := all_false nzL ys i hi (by unfold nzL; simp [hm])
      unfold chkV
      rw [if_neg hz, if_pos hb]
    · have hok : nzL ys[i] = true := by unfold nzL; simp [hm]
      rw [if_neg hm, show (sR ys[i]).f0 = ys[i].1 from rfl, find_f (accL 5) (by decide) ys[i].1 k (by omega), Option.bind_some]
      have hsn : (ys.take i).map (·.2) ++ [(sR ys[i]).f1] = (ys.take (i + 1)).map (·.2) := by rw [List.take_succ_eq_append_getElem hi, List.map_append]; rfl
      have hln : ((ys.take i).map (·.2)).length < 17592186044416 := by rw [List.length_map, List.length_take]; omega
      have hac : (ys.take (i + 1)).all acL = ((ys.take i).all acL && acL ys[i]) := by rw [List.take_succ_eq_append_getElem hi, List.all_append]; simp
      have hacv : decide (fnd (accL 5) ys[i].1 0 ≥ 0) = acL ys[i] := by unfold acL; exact decide_eq_decide.2 (fnd_five _)
      rw [if_pos hln, if_pos hln, hsn, hacv, show wrap64 ((i : Int) + 1) = ((i + 1 : Nat) : Int) by unfold wrap64; omega]
      have hi2 := ih k (i + 1) (by omega) (by omega) (all_take_succ nzL ys i hi ha hok)
      rw [hac] at hi2
      cases hk2 : (ys.take i).all acL with
      | true => rw [hk2] at hi2; rw [if_pos rfl]; exact hi2
      | false => rw [hk2] at hi2; rw [if_neg (by decide)]; exact hi2
theorem rcheck_f (ys : List Ln) (hl : ys.length ≤ 100) (hin : LnIn ys) (k : Nat) (hk : 3000 < k) : tillrollref22_Check.f k (ys.map sR) ((accL 5).map s79) = some (chkV ys) := by
  unfold tillrollref22_Check.f
  rw [List.length_map]
  obtain ⟨k, rfl⟩ : ∃ m, k = m + 1 := ⟨k - 1, by omega⟩
  simp only [tillrollref22_Check.j0]
  by_cases h2 : (ys.length : Int) < 2
  · rw [if_pos h2]
    simp only [if_true]
    unfold chkV
    rw [if_pos (.inl (by omega))]
  · rw [if_neg h2]
    by_cases h8 : (ys.length : Int) > 8
    · rw [if_pos (decide_eq_true h8)]
      unfold chkV
      rw [if_pos (.inr (by omega))]
    · rw [if_neg (by rw [decide_eq_false h8]; decide)]
      exact rcheck_l0 ys hl hin (by rintro (h | h) <;> omega) ys.length k 0 (by omega) (by omega) rfl
theorem rcheck_ok (ys : List Ln) (hl : ys.length ≤ 100) (hin : LnIn ys) {E B : Nat} {v u : Value} {w : World} (h : LRow w E B v ys) (hu : RowS encA3 w u (accL 5)) :
    Calls Try.prog 13 #[v, u] w fun e w' => e = .returned (.int .i64 (chkV ys)) ∧ Below w.heap.size w w' := by
  obtain ⟨a, c, rfl, hc, ha⟩ := h.at'
  obtain ⟨A, C, rfl, hC, hR⟩ := a_C hu
  have hcon := tillrollref22_Check.calls 4000 a c (ys.map sR) A C ((accL 5).map s79) (chkV ys) w (by rw [List.length_map]; exact lns_C k82 sR rfl (fun w p => k82_mk w (sR p)) ha (Nat.le_trans hc.1 hc.2)) (by rw [List.length_map]; exact hc.1) (by rw [List.length_map]; exact hR) (by rw [List.length_map]; exact hC) (rcheck_f ys hl hin 4000 (by decide))
  rw [List.length_map, List.length_map] at hcon
  exact hcon
end Go.Proofs.Ytkmbjfgdjoanjaa
