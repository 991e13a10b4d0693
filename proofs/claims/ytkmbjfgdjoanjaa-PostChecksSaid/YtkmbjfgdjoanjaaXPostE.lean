/- post: Check, by a chart of the accounts 1 to 5. No conditions beyond the form's own reach. -/
import Derived.Test.YtkmbjfgdjoanjaaXPostD
import Derived.Test.YtkmbjfgdjoanjaaXChartB
namespace Go.Proofs.Ytkmbjfgdjoanjaa
open Go.RowKit Go.Lib Go.Proofs.Ytkmbjfgdjoanjaa.P Go.Proofs.YtkmbjfgdjoanjaaW.PrintWords Go.Proofs.YtkmbjfgdjoanjaaW.PrintLast Go.Proofs.YtkmbjfgdjoanjaaW.PrintMore
set_option linter.unusedVariables false
set_option linter.unusedSimpArgs false
--@tables
def nzL (p : Ln) : Bool := decide (p.2 ≠ 0)
def acL (p : Ln) : Bool := decide (1 ≤ p.1 ∧ p.1 ≤ 5)
def chkV (xs : List Ln) : Int := if xs.length < 2 ∨ 8 < xs.length then 2 else if xs.all nzL = false then 2 else if xs.all acL = false then 19 else if allS xs = 0 then 0 else 18
theorem all_false (p : Ln → Bool) (xs : List Ln) (j : Nat) (h : j < xs.length) (hb : p xs[j] = false) : xs.all p = false := by
  rw [List.all_eq_false]
  exact ⟨xs[j], List.getElem_mem h, by rw [hb]; decide⟩
theorem ret_int {a b : Int} (h : a = b) : Ending.returned (.int .i64 a) = .returned (.int .i64 b) := by rw [h]
def Five (f : Int → Option (Int × Int × ByteArray)) : Prop := ∀ k, (f k).isSome = decide (1 ≤ k ∧ k ≤ 5)
theorem ChartAt.below {w w' : World} {g m c : Nat} {f : Int → Option (Int × Int × ByteArray)} (h : ChartAt w g m c f) (hb : Below w.heap.size w w') : ChartAt w' g m c f := ⟨blk_below h.1 hb, MapV.below h.2 hb⟩
set_option maxHeartbeats 8000000 in
theorem check_ok (xs : List Ln) (hn : xs.length ≤ 100) (hin : LnIn xs) (v : Value) {w : World} {g m c : Nat} {f : Int → Option (Int × Int × ByteArray)} (hr : RowS encL w v xs) (hc : ChartAt w g m c f) (hf : Five f) :
    Calls Try.prog 12 #[v, .pointer (some ⟨g, 0, none⟩)] w fun e w' => e = .returned (.int .i64 (chkV xs)) ∧ Below w.heap.size w w' := by
  obtain ⟨va, vc, rfl, _⟩ := hr.len
  obtain ⟨V, hV⟩ : ∃ V, V = chkV xs := ⟨_, rfl⟩
  rw [← hV]
  have HV := Lib.hid hV; clear hV
  have HR := Lib.hid hr; clear hr
  have HC := Lib.hid hc; clear hc
  have HF := Lib.hid hf; clear hf
  have HI := Lib.hid hin; clear hin
  have HN := Lib.hid hn
  by_cases h2 : xs.length < 2
  · have c1 : decide ((xs.length : Int) < 2) = true := decide_eq_true (by omega)
    have c2 : decide (xs.length < 2) = true := decide_eq_true h2
    have c3 : ((xs.length : Int) < 2) = True := eq_true (by omega)
    have HE := Lib.hid (show V = 2 by rw [HV.out]; exact if_pos (.inl h2))
    go_enter Try.func12, Try.ntmps12
    go_wp2
    go_ret
    exact ⟨ret_int HE.out.symm, Below.refl _ _⟩
  by_cases h8 : 8 < xs.length
  · have c1 : decide ((xs.length : Int) < 2) = false := decide_eq_false (by omega)
    have c2 : decide (xs.length < 2) = false := decide_eq_false h2
    have c3 : decide ((8 : Int) < (xs.length : Int)) = true := decide_eq_true (by omega)
    have c4 : decide (8 < xs.length) = true := decide_eq_true h8
    have HE := Lib.hid (show V = 2 by rw [HV.out]; exact if_pos (.inr h8))
    go_enter Try.func12, Try.ntmps12
    go_wp2
    go_ret
    exact ⟨ret_int HE.out.symm, Below.refl _ _⟩
  have HE := Lib.hid (show V = if xs.all nzL = false then 2 else if xs.all acL = false then 19 else if allS xs = 0 then 0 else 18 by rw [HV.out]; exact if_neg (by rintro (h | h) <;> omega))
  have c1 : decide ((xs.length : Int) < 2) = false := decide_eq_false (by omega)
  have c2 : decide (xs.length < 2) = false := decide_eq_false h2
  have c3 : decide ((8 : Int) < (xs.length : Int)) = false := decide_eq_false (by omega)
  have c4 : decide (8 < xs.length) = false := decide_eq_false h8
  clear hn h2 h8 HV
  go_enter Try.func12, Try.ntmps12
  go_wp2_with fail
  clear c1 c2 c3 c4
  go_loopw [27] (fun i wr => ∃ j : Nat, j ≤ xs.length ∧ i = .int .i64 (j : Int) ∧ (xs.take j).all nzL = true ∧ Below w.heap.size w wr) (fun i _ => xs.length - (RowKit.intOf i).toNat)
  case atStart => exact ⟨0, Nat.zero_le _, rfl, rfl, Below.refl _ _⟩
  case round =>
    obtain ⟨j, hj, rfl, h0, h2⟩ := hrel
    have HA := Lib.hid h0; clear h0
    have HB := Lib.hid h2; clear h2
    by_cases hlt : j < xs.length
    · obtain ⟨gp, off, cap, hv, k0, k1⟩ := ln_at (HR.out.below HB.out) j hlt
      simp only [Value.slice.injEq, true_and] at hv
      obtain ⟨rfl, rfl⟩ := hv
      have e3 : wrap64 ((j : Int) + 1) = ((j + 1 : Nat) : Int) := wrap_succP j (Nat.lt_of_lt_of_le hlt (Nat.le_trans HN.out (by decide)))
      have HAs := Lib.hid (all_take_succ nzL xs j hlt HA.out)
      have HBd := Lib.hid (all_false nzL xs j hlt)
      generalize xs[j] = p at k0 k1 HAs HBd
      obtain ⟨a, mm⟩ := p
      simp only at k0 k1
      have ha := below_alloc (Below.refl wr.heap.size wr) (.cells #[.int .i64 a, .int .i64 mm] 81)
      by_cases hm : mm = 0
      · have HQ := Lib.hid (HBd.out (by unfold nzL; simp [hm]))
        have HQ2 := Lib.hid (show V = 2 by rw [HE.out, if_pos HQ.out])
        replace HB := Lib.hid (chain2 HB.out ha); clear ha
        subst hm
        go_wp2
        go_ret
        exact ⟨ret_int HQ2.out.symm, HB.out⟩
      · have m1 : (mm == 0) = false := by simp [hm]
        have m2 : (mm = 0) = False := eq_false hm
        have HQ := Lib.hid (HAs.out (by unfold nzL; simp [hm]))
        replace HB := Lib.hid (chain2 HB.out ha); clear ha hm
        go_wp2_with fail
        go_roundw
        case rel => exact ⟨j + 1, hlt, by first | rw [e3] | rfl, HQ.out, HB.out⟩
        case measure => (first | rw [e3] | rw [show ((j : Int) + 1) = ((j + 1 : Nat) : Int) from rfl]); simp only [RowKit.intOf, Int.toNat_natCast]; exact Nat.sub_lt_sub_left hlt (Nat.lt_succ_self j)
    · obtain rfl : j = xs.length := Nat.le_antisymm hj (Nat.le_of_not_lt hlt)
      rw [List.take_length] at HA
      replace HE := Lib.hid (show V = if xs.all acL = false then 19 else if allS xs = 0 then 0 else 18 by rw [HE.out, if_neg (by rw [HA.out]; decide)])
      clear HA hlt hj
      go_wp2_with fail
      go_loopw [37] (fun i w2 => ∃ j : Nat, j ≤ xs.length ∧ i = .int .i64 (j : Int) ∧ (xs.take j).all acL = true ∧ Below w.heap.size w w2) (fun i _ => xs.length - (RowKit.intOf i).toNat)
      case atStart => exact ⟨0, Nat.zero_le _, rfl, rfl, HB.out⟩
      case round =>
        clear HB
        obtain ⟨j, hj, rfl, h0, h2⟩ := hrel
        have HA := Lib.hid h0; clear h0
        have HB := Lib.hid h2; clear h2
        by_cases hlt : j < xs.length
        · obtain ⟨gp, off, cap, hv, k0, k1⟩ := ln_at (HR.out.below HB.out) j hlt
          simp only [Value.slice.injEq, true_and] at hv
          obtain ⟨rfl, rfl⟩ := hv
          have e3 : wrap64 ((j : Int) + 1) = ((j + 1 : Nat) : Int) := wrap_succP j (Nat.lt_of_lt_of_le hlt (Nat.le_trans HN.out (by decide)))
          have HAs := Lib.hid (all_take_succ acL xs j hlt HA.out)
          have HBd := Lib.hid (all_false acL xs j hlt)
          have hpi := HI.out xs[j] (List.getElem_mem hlt)
          generalize xs[j] = p at k0 k1 HAs HBd hpi
          obtain ⟨a, mm⟩ := p
          simp only at k0 k1 hpi
          have HPi := Lib.hid hpi; clear hpi
          have ha := below_alloc (Below.refl wr.heap.size wr) (.cells #[.int .i64 a, .int .i64 mm] 81)
          replace HB := Lib.hid (chain2 HB.out ha); clear ha
          go_wp2_with fail
          generalize wr.alloc (.cells #[.int .i64 a, .int .i64 mm] 81) = w3 at HB ⊢
          refine (cget_ok a (i64_of a HPi.out.1.1 HPi.out.1.2) (HC.out.below HB.out)).mono ?_
          rintro e w4 ⟨rfl, hd⟩
          replace HB := Lib.hid (chain2 HB.out hd); clear hd k0 k1
          unfold encAc
          generalize acV f a = q
          obtain ⟨q0, q1, q2⟩ := q
          have hs := HF.out a
          have ha := below_alloc (Below.refl w4.heap.size w4) (.cells #[.int .i64 q0, .int .u8 q1, .string q2] 75)
          replace HB := Lib.hid (chain2 HB.out ha); clear ha
          by_cases hm : 1 ≤ a ∧ a ≤ 5
          · rw [hs, decide_eq_true hm]
            have HQ := Lib.hid (HAs.out (by unfold acL; simp [hm]))
            clear hm hs
            go_wp2_with fail
            go_roundw
            case rel => exact ⟨j + 1, hlt, by first | rw [e3] | rfl, HQ.out, HB.out⟩
            case measure => (first | rw [e3] | rw [show ((j : Int) + 1) = ((j + 1 : Nat) : Int) from rfl]); simp only [RowKit.intOf, Int.toNat_natCast]; exact Nat.sub_lt_sub_left hlt (Nat.lt_succ_self j)
          · rw [hs, decide_eq_false hm]
            have HQ := Lib.hid (HBd.out (by unfold acL; exact decide_eq_false hm))
            have HQ2 := Lib.hid (show V = 19 by rw [HE.out, if_pos HQ.out])
            clear hm hs
            go_wp2
            go_ret
            exact ⟨ret_int HQ2.out.symm, HB.out⟩
        · obtain rfl : j = xs.length := Nat.le_antisymm hj (Nat.le_of_not_lt hlt)
          rw [List.take_length] at HA
          replace HE := Lib.hid (show V = if allS xs = 0 then 0 else 18 by rw [HE.out, if_neg (by rw [HA.out]; decide)])
          clear HA hlt hj
          go_wp2_with fail
          refine (amt_all xs HN.out _ wr (HR.out.below HB.out)).mono ?_
          rintro e w5 ⟨u, rfl, hu, hd⟩
          have HU := Lib.hid hu; clear hu
          replace HB := Lib.hid (chain2 HB.out hd); clear hd
          rw [show xs.filter (fun _ => true) = xs from List.filter_eq_self.2 (fun _ _ => rfl)] at HU
          go_wp2_with fail
          refine (total_ok (xs.map (·.2)) (by rw [List.length_map]; have := HN.out; omega) (fun x hx => by
            obtain ⟨p, hp, rfl⟩ := List.mem_map.1 hx
            exact (HI.out p hp).2) u w5 HU.out).mono ?_
          rintro e w6 ⟨rfl, hd⟩
          replace HB := Lib.hid (chain2 HB.out hd); clear hd HU
          rw [show (xs.map (·.2)).sum = allS xs from rfl]
          generalize allS xs = S at HE ⊢
          by_cases h0 : S = 0
          · subst h0
            rw [show totV 0 = (0, 0) from by decide]
            have HQ2 := Lib.hid (show V = 0 by rw [HE.out]; rfl)
            go_wp2
            go_ret
            exact ⟨ret_int HQ2.out.symm, HB.out⟩
          · have HQ2 := Lib.hid (show V = 18 by rw [HE.out, if_neg h0])
            by_cases hr : -9223372036854775808 ≤ S ∧ S < 9223372036854775808
            · rw [show totV S = (S, 0) from if_pos hr]
              have m1 : (S == 0) = false := by simp [h0]
              have m2 : (S = 0) = False := eq_false h0
              clear hr h0
              go_wp2
              go_ret
              exact ⟨ret_int HQ2.out.symm, HB.out⟩
            · rw [show totV S = (0, 6) from if_neg hr]
              clear hr h0
              go_wp2
              go_ret
              exact ⟨ret_int HQ2.out.symm, HB.out⟩
theorem check_nil (v : Value) (w : World) (hr : ∃ a l c, v = .slice a l c) : Calls Try.prog 12 #[v, .pointer none] w fun e w' => e = .returned (.int .i64 1) ∧ Below w.heap.size w w' := by
  obtain ⟨a, l, c, rfl⟩ := hr
  go_enter Try.func12, Try.ntmps12
  go_wp2
  go_ret
  exact ⟨rfl, Below.refl _ _⟩
end Go.Proofs.Ytkmbjfgdjoanjaa
