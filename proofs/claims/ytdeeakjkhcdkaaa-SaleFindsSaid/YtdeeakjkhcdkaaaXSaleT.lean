/- sale: New, turn. No conditions beyond those that are written. -/
import Derived.Test.YtdeeakjkhcdkaaaXSaleC
namespace Go.Proofs.Ytdeeakjkhcdkaaa
open Go.RowKit Go.Lib Go.Proofs.YtdeeakjkhcdkaaaW.PrintWords Go.Proofs.YtdeeakjkhcdkaaaW.PrintLast Go.Proofs.YtdeeakjkhcdkaaaW.PrintMore
set_option linter.unusedVariables false
set_option linter.unusedSimpArgs false
--@tables
set_option maxHeartbeats 2000000 in
theorem new_ok (keep : Nat) (h1 : 1 ≤ keep) (h2 : keep ≤ 512) (w : World) : Calls Try.prog 7 #[.int .i64 (keep : Int)] w fun e w' => ∃ g, e = .returned (.tuple #[.pointer (some ⟨g, 0, none⟩), .int .i64 0]) ∧ RegV w' w.heap.size g (.slice none 0 0) keep 1 [] ∧ Below w.heap.size w w' := by
  have HI := Lib.hid ((inR_eq (keep : Int) 1 512).mpr ⟨by omega, by omega⟩)
  go_enter Try.func7, Try.ntmps7
  go_wp2_with fail
  refine (within_ok (keep : Int) 1 512 w).mono ?_
  rintro e w' ⟨rfl, rfl⟩
  rw [HI.out]
  go_wp2
  go_ret2
  refine ⟨_, rfl, ⟨Nat.le_refl _, heap_alloc_new w _, RowO.nil _ _ _ _ _, fun x hx => by simp at hx, h1, h2, by simp, by decide, by simp, by simp, by simp⟩, (Below.refl _ w).alloc (Nat.le_refl _) _⟩
theorem newBad_ok (keep : Int) (h : keep < 1 ∨ 512 < keep) (w : World) : Calls Try.prog 7 #[.int .i64 keep] w fun e w' => e = .returned (.tuple #[.pointer none, .int .i64 2]) ∧ w = w' := by
  have HI := Lib.hid (show inR keep 1 512 = false by rw [Bool.eq_false_iff]; intro h; rw [inR_eq] at h; omega)
  clear h
  go_enter Try.func7, Try.ntmps7
  go_wp2_with fail
  refine (within_ok keep 1 512 w).mono ?_
  rintro e w' ⟨rfl, rfl⟩
  rw [HI.out]
  go_wp2
  go_ret2
  exact ⟨rfl, rfl⟩
/-- The place of a number among the kept ones. -/
def idxR (next len : Nat) (n : Int) : Option Nat := if (next : Int) - (len : Int) ≤ n ∧ n < (next : Int) then some (n - ((next : Int) - (len : Int))).toNat else none
theorem idxR_none {next len : Nat} {n : Int} (h : idxR next len n = none) : (next : Int) ≤ n ∨ n < (next : Int) - (len : Int) := by
  unfold idxR at h
  split at h
  · cases h
  · omega
theorem idxR_some {next len : Nat} {n : Int} {i : Nat} (h : idxR next len n = some i) : i < len ∧ n = (next : Int) - (len : Int) + (i : Int) := by
  unfold idxR at h
  split at h
  · simp only [Option.some.injEq] at h; omega
  · cases h
/-- May a transaction turn back the sale s? -/
def turnS (t s : TP) : Int :=
  if s.kind = 1 then (if s.void = true then 21 else if (t.kind = 2 ∧ ¬ s.left = s.amount) ∨ (t.kind = 3 ∧ s.left < t.amount) then 22 else if t.kind = 2 ∧ ¬ t.amount = s.amount then 2 else 0) else 15
def turnC (next : Nat) (ps : List TP) (t : TP) : Int := if backK t.kind = true then (match idxR next ps.length t.ref with | none => 15 | some i => turnS t (ps.getD i z0)) else 0
theorem backK_eq (k : Int) : backK k = true ↔ k = 2 ∨ k = 3 := by unfold backK; rw [Bool.or_eq_true, decide_eq_true_eq, decide_eq_true_eq]
theorem sl_form {v : Value} (h : isSl v = v) : ∃ a n c, v = .slice a n c := by
  unfold isSl at h
  split at h
  · exact ⟨_, _, _, rfl⟩
  · exact ⟨_, _, _, h.symm⟩
set_option maxHeartbeats 8000000 in
theorem turn_ok {base g : Nat} {v : Value} {keep next : Nat} {xs : List (TP × Value)} (t : TP) (tv : Value) (w : World) (h : RegV w base g v keep next xs) (hsl : isSl tv = tv) :
    Calls Try.prog 29 #[.pointer (some ⟨g, 0, none⟩), aggT t tv] w fun e w' => e = .returned (.int .i64 (turnC next (xs.map Prod.fst) t)) ∧ Below w.heap.size w w' := by
  unfold aggT
  obtain ⟨va, vn, vc, rfl⟩ : ∃ a n c, tv = .slice a n c := sl_form hsl
  clear hsl
  have hb := below_alloc (Below.refl w.heap.size w) (.cells #[.int .i64 t.num, .int .u8 t.kind, .int .i64 t.shift, .int .i64 t.ref, .int .i64 t.amount, .int .i64 t.left, .bool t.void, .slice va vn vc] 37)
  have hX := BoxT.new w t (.slice va vn vc)
  have HRg := Lib.hid (h.below hb)
  have HB := Lib.hid hb; clear hb h
  go_enter Try.func29, Try.ntmps29
  go_wp2_with fail
  generalize w.alloc (.cells #[.int .i64 t.num, .int .u8 t.kind, .int .i64 t.shift, .int .i64 t.ref, .int .i64 t.amount, .int .i64 t.left, .bool t.void, .slice va vn vc] 37) = w1 at hX HB HRg ⊢
  have HX := Lib.hid hX; clear hX
  generalize hbx : w.heap.size = bx at HX ⊢
  have Hbx := Lib.hid (show w.heap.size ≤ bx by omega); clear hbx
  cases hix : idxR next xs.length t.ref with
  | none =>
    refine (find_none t.ref w1 HRg.out (idxR_none hix)).mono ?_
    rintro e w2 ⟨rfl, hd⟩
    replace HX := Lib.hid (HX.out.below hd.below)
    replace HB := Lib.hid (chain2 HB.out hd.below); clear hd
    obtain ⟨c0, c1, c2, c3, c4, c5, c6, c7⟩ := HX.out.cells
    cases hbk : backK t.kind with
    | true =>
      have HT := Lib.hid (show turnC next (xs.map Prod.fst) t = 15 by unfold turnC; rw [if_pos hbk, List.length_map, hix])
      have Hbk := Lib.hid hbk; clear hbk hix
      go_wp2_with fail
      refine (back_ok t.kind w2).mono ?_
      rintro e w' ⟨rfl, rfl⟩
      rw [Hbk.out]
      go_wp2
      go_ret
      exact ⟨by rw [HT.out]; rfl, HB.out⟩
    | false =>
      have HT := Lib.hid (show turnC next (xs.map Prod.fst) t = 0 by unfold turnC; rw [if_neg (by rw [hbk]; decide)])
      have Hbk := Lib.hid hbk; clear hbk hix
      go_wp2_with fail
      refine (back_ok t.kind w2).mono ?_
      rintro e w' ⟨rfl, rfl⟩
      rw [Hbk.out]
      go_wp2
      go_ret
      exact ⟨by rw [HT.out]; rfl, HB.out⟩
  | some i =>
    obtain ⟨hi, hn⟩ := idxR_some hix
    obtain ⟨ra, rc, rfl⟩ := HRg.out.sl
    refine (find_some i hi t.ref w1 HRg.out hn).mono ?_
    rintro e w2 ⟨gr, off, rfl, rfl, hd⟩
    replace HX := Lib.hid (HX.out.below hd.below)
    replace HRg := Lib.hid (HRg.out.below hd.below)
    replace HB := Lib.hid (chain2 HB.out hd.below); clear hd
    obtain ⟨c0, c1, c2, c3, c4, c5, c6, c7⟩ := HX.out.cells
    have hS1 := HRg.out.row.at_ encT_len i 1 hi (by decide) (.int .u8 xs[i].1.kind) rfl
    have hS4 := HRg.out.row.at_ encT_len i 4 hi (by decide) (.int .i64 xs[i].1.amount) rfl
    have hS5 := HRg.out.row.at_ encT_len i 5 hi (by decide) (.int .i64 xs[i].1.left) rfl
    have hS6 := HRg.out.row.at_ encT_len i 6 hi (by decide) (.bool xs[i].1.void) rfl
    have hTS : backK t.kind = true → turnC next (xs.map Prod.fst) t = turnS t xs[i].1 := fun hb => by
      unfold turnC
      rw [if_pos hb, List.length_map, hix]
      show turnS t ((xs.map Prod.fst).getD i z0) = _
      rw [List.getD_eq_getElem?_getD, List.getElem?_map, List.getElem?_eq_getElem hi]
      rfl
    generalize xs[i].1 = s at hS1 hS4 hS5 hS6 hTS
    obtain ⟨s0, s1, s2, s3, s4, s5, s6, s7⟩ := s
    simp only at hS1 hS4 hS5 hS6 hTS
    cases hbk : backK t.kind with
    | false =>
      have HT := Lib.hid (show turnC next (xs.map Prod.fst) t = 0 by unfold turnC; rw [if_neg (by rw [hbk]; decide)])
      have Hbk := Lib.hid hbk; clear hbk hix hn hTS
      go_wp2_with fail
      refine (back_ok t.kind w2).mono ?_
      rintro e w' ⟨rfl, rfl⟩
      rw [Hbk.out]
      go_wp2
      go_ret
      exact ⟨by rw [HT.out]; rfl, HB.out⟩
    | true =>
      have HTS := Lib.hid (hTS hbk)
      have Hk := Lib.hid ((backK_eq _).mp hbk)
      have Hbk := Lib.hid hbk; clear hbk hix hn hTS
      go_wp2_with fail
      refine (back_ok t.kind w2).mono ?_
      rintro e w' ⟨rfl, rfl⟩
      rw [Hbk.out]
      by_cases h1 : s1 = 1
      · subst h1
        cases s6 with
        | true =>
          have HT := Lib.hid (HTS.out.trans (show turnS t _ = 21 by simp [turnS]))
          go_wp2
          go_ret
          exact ⟨by rw [HT.out]; rfl, HB.out⟩
        | false =>
          rcases Hk.out with hk | hk
          · have a2 : (t.kind == 2) = true := by simpa using hk
            have a2' : (t.kind == 3) = false := by rw [hk]; decide
            by_cases h2 : s5 = s4
            · have a3 : (s5 == s4) = true := by simpa using h2
              by_cases h3 : t.amount = s4
              · have a4 : (t.amount == s4) = true := by simpa using h3
                have HT := Lib.hid (HTS.out.trans (show turnS t _ = 0 by simp [turnS, hk, h2, h3]))
                clear h2 h3 hk
                go_wp2_with fail
                go_quiet (fail)
                go_wp2_with fail
                go_quiet (fail)
                go_wp2_with fail
                go_quiet (fail)
                go_wp2
                go_ret
                exact ⟨by rw [HT.out]; rfl, by first | exact below_drewQ HB.out _ | exact below_drewQ (below_drewQ HB.out _) _ | exact below_drewQ (below_drewQ (below_drewQ HB.out _) _) _⟩
              · have a4 : (t.amount == s4) = false := by simpa using h3
                have HT := Lib.hid (HTS.out.trans (show turnS t _ = 2 by simp [turnS, hk, h2, h3]))
                clear h2 h3 hk
                go_wp2_with fail
                go_quiet (fail)
                go_wp2_with fail
                go_quiet (fail)
                go_wp2_with fail
                go_quiet (fail)
                go_wp2
                go_ret
                exact ⟨by rw [HT.out]; rfl, by first | exact below_drewQ HB.out _ | exact below_drewQ (below_drewQ HB.out _) _ | exact below_drewQ (below_drewQ (below_drewQ HB.out _) _) _⟩
            · have a3 : (s5 == s4) = false := by simpa using h2
              have HT := Lib.hid (HTS.out.trans (show turnS t _ = 22 by simp [turnS, hk, h2]))
              clear h2 hk
              go_wp2_with fail
              go_quiet (fail)
              go_wp2
              go_ret
              exact ⟨by rw [HT.out]; rfl, by first | exact below_drewQ HB.out _ | exact below_drewQ (below_drewQ HB.out _) _ | exact below_drewQ (below_drewQ (below_drewQ HB.out _) _) _⟩
          · have a2 : (t.kind == 2) = false := by rw [hk]; decide
            have a2' : (t.kind == 3) = true := by simpa using hk
            by_cases h2 : s5 < t.amount
            · have a3 : decide (s5 < t.amount) = true := decide_eq_true h2
              have HT := Lib.hid (HTS.out.trans (show turnS t _ = 22 by simp [turnS, hk, h2]))
              clear h2 hk
              go_wp2_with fail
              go_quiet (fail)
              go_wp2_with fail
              go_quiet (fail)
              go_wp2
              go_ret
              exact ⟨by rw [HT.out]; rfl, by first | exact below_drewQ HB.out _ | exact below_drewQ (below_drewQ HB.out _) _ | exact below_drewQ (below_drewQ (below_drewQ HB.out _) _) _⟩
            · have a3 : decide (s5 < t.amount) = false := decide_eq_false h2
              have HT := Lib.hid (HTS.out.trans (show turnS t _ = 0 by simp [turnS, hk, h2]))
              clear h2 hk
              go_wp2_with fail
              go_quiet (fail)
              go_wp2_with fail
              go_quiet (fail)
              go_wp2_with fail
              go_quiet (fail)
              go_wp2
              go_ret
              exact ⟨by rw [HT.out]; rfl, by first | exact below_drewQ HB.out _ | exact below_drewQ (below_drewQ HB.out _) _ | exact below_drewQ (below_drewQ (below_drewQ HB.out _) _) _⟩
      · have a1 : (s1 == 1) = false := by simpa using h1
        have HT := Lib.hid (HTS.out.trans (show turnS t _ = 15 by simp [turnS, h1]))
        clear h1
        go_wp2
        go_ret
        exact ⟨by rw [HT.out]; rfl, HB.out⟩
end Go.Proofs.Ytdeeakjkhcdkaaa
