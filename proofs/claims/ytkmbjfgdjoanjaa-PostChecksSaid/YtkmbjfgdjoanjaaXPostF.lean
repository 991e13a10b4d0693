/- post: the law's chart of five accounts, and its signs of life. No conditions beyond the form's own reach. -/
import Derived.Test.YtkmbjfgdjoanjaaXRef21B
namespace Go.Proofs.Ytkmbjfgdjoanjaa
open Go.RowKit Go.Lib Go.Proofs.Ytkmbjfgdjoanjaa.P Go.Proofs.YtkmbjfgdjoanjaaW.PrintWords Go.Proofs.YtkmbjfgdjoanjaaW.PrintLast Go.Proofs.YtkmbjfgdjoanjaaW.PrintMore
set_option linter.unusedVariables false
set_option linter.unusedSimpArgs false
--@tables
def fJ (j : Nat) (k : Int) : Option Ac := if 1 ≤ k ∧ k ≤ (j : Int) then some (acX k) else none
def accL (j : Nat) : List Ac := (List.range j).map (fun i => (((i + 1 : Nat) : Int), 1, { data := #[120] }))
theorem accL_succ (j : Nat) : accL (j + 1) = accL j ++ [(((j + 1 : Nat) : Int), 1, { data := #[120] })] := by unfold accL; rw [List.range_succ, List.map_append]; rfl
theorem accL_len (j : Nat) : (accL j).length = j := by simp [accL]
theorem accL_lt (j : Nat) : ∀ x ∈ accL j, x.1 < ((j + 1 : Nat) : Int) := by
  intro x hx
  unfold accL at hx
  obtain ⟨i, hi, rfl⟩ := List.mem_map.1 hx
  have := List.mem_range.1 hi
  show ((i + 1 : Nat) : Int) < _
  omega
theorem fJ_succ (j : Nat) : (fun k => if k = ((j + 1 : Nat) : Int) then some (acX ((j + 1 : Nat) : Int)) else fJ j k) = fJ (j + 1) := by
  funext k
  unfold fJ
  by_cases h : k = ((j + 1 : Nat) : Int)
  · rw [if_pos h, if_pos (by omega), h]
  · rw [if_neg h]
    by_cases h2 : 1 ≤ k ∧ k ≤ (j : Int)
    · rw [if_pos h2, if_pos (by omega)]
    · rw [if_neg h2, if_neg (by omega)]
theorem five_J : Five (fJ 5) := by
  intro k
  unfold fJ
  by_cases h : 1 ≤ k ∧ k ≤ 5
  · rw [if_pos (by omega), decide_eq_true h]; rfl
  · rw [if_neg (by omega), decide_eq_false h]; rfl
set_option maxHeartbeats 8000000 in
theorem accounts_ok (w : World) :
    Calls Try.prog 7 #[] w fun e w' => ∃ g m u, e = .returned (.tuple #[.pointer (some ⟨g, 0, none⟩), u]) ∧ ChartAt w' g m 5 (fJ 5) ∧ RowS encA3 w' u (accL 5) ∧ Below w.heap.size w w' := by
  go_enter Try.func7, Try.ntmps7
  go_wp2_with fail
  refine (new_ok _).mono ?_
  rintro e w1 ⟨g, m, rfl, hg, hm, hne, hb, hc⟩
  have HG := Lib.hid (And.intro hg (And.intro hm hne))
  have HL := Lib.hid (MapV.lt hc.2)
  have hB := hb
  have HB := Lib.hid hb
  have HC := Lib.hid hc; clear hg hm hne hb hc hB
  go_wp2_with fail
  go_loopw [3, 6] (fun v i wr => ∃ j : Nat, j ≤ 5 ∧ i = .int .i64 (j : Int) ∧ ChartAt wr g m j (fJ j) ∧ ARow wr w1.heap.size v (accL j) ∧ Below w.heap.size w wr ∧ w1.heap.size ≤ wr.heap.size) (fun _ i _ => 5 - (RowKit.intOf i).toNat)
  case atStart =>
    refine ⟨0, Nat.zero_le _, rfl, ?_, World.ownsRow_nil _ _ _ _, HB.out, Nat.le_refl _⟩
    have : fJ 0 = fun _ => none := by funext k; unfold fJ; exact if_neg (by omega)
    rw [this]
    exact HC.out
  case round =>
    obtain ⟨j, hj, rfl, h1, h2, h3, h4⟩ := hrel
    clear HB HC
    have HC := Lib.hid h1; clear h1
    have HA := Lib.hid h2; clear h2
    have HB := Lib.hid h3; clear h3
    have HS := Lib.hid h4; clear h4
    by_cases hlt : j < 5
    · have e3 : wrap64 ((j : Int) + 1) = ((j + 1 : Nat) : Int) := by unfold wrap64; omega
      go_wp2_with fail
      have hcon := cadd_ok ((j + 1 : Nat) : Int) (by omega) (by omega) HC.out HG.out.2.2 (by unfold fJ; exact if_neg (by omega)) (by omega)
      rw [fJ_succ] at hcon
      refine hcon.mono ?_
      rintro e w2 ⟨rfl, hc2, ht⟩
      have HA2 := Lib.hid (show ARow w2 w1.heap.size _ (accL j) from World.ownsRow.kept HA.out ht.grownOne (by
        cases hv : Value.ownBlock _ with
        | none => exact .inl rfl
        | some b =>
          refine .inr (fun e => ?_)
          have h1 := (World.ownsRow.lt HA.out b hv).1
          have h2 := HL.out
          rw [Option.some.inj e] at h1
          omega))
      replace HB := Lib.hid (HB.out.trans (ht.below (base := w.heap.size) (fun k hk => by rw [hk]; exact HG.out.2.1) HB.out.size))
      have HS2 := Lib.hid (Nat.le_trans HS.out ht.size)
      clear hcon ht HA HS
      replace HC := Lib.hid hc2; clear hc2
      go_wp2_with fail
      refine (radd_ok ((j + 1 : Nat) : Int) (by omega) (by omega) (accL j) (by rw [accL_len]; omega) (accL_lt j) _ w2 HA2.out.s).mono ?_
      rintro e w3 ⟨u, rfl, ha, hd⟩
      rw [← accL_succ] at ha
      have HA := Lib.hid (show ARow w3 w1.heap.size u (accL (j + 1)) from own_weaken ha HS2.out); clear ha
      replace HC := Lib.hid (HC.out.below hd)
      replace HB := Lib.hid (chain2 HB.out hd)
      have HS := Lib.hid (Nat.le_trans HS2.out hd.size); clear hd HA2 HS2
      go_wp2_with fail
      go_roundw
      case rel => exact ⟨j + 1, hlt, by first | rw [e3] | rfl, HC.out, HA.out, HB.out, HS.out⟩
      case measure => (first | rw [e3] | rw [show ((j : Int) + 1) = ((j + 1 : Nat) : Int) from rfl]); simp only [RowKit.intOf, Int.toNat_natCast]; exact Nat.sub_lt_sub_left hlt (Nat.lt_succ_self j)
    · obtain rfl : j = 5 := Nat.le_antisymm hj (Nat.le_of_not_lt hlt)
      go_wp2
      go_ret2
      exact ⟨g, m, _, rfl, HC.out, HA.out.s, HB.out⟩
end Go.Proofs.Ytkmbjfgdjoanjaa
