/- PoolEven: blocks that are taken, worn by one, and given again, by turns, are worn evenly: no two differ by more than one, wherever they began so: the walk. No conditions beyond the form's own reach. -/
import Derived.Test.YtgebiiekofpihaaXPoolEvenL
namespace Go.Proofs.Ytgebiiekofpihaa
open Go.RowKit Go.Lib Go.Proofs.YtgebiiekofpihaaW.PrintWords Go.Proofs.YtgebiiekofpihaaW.PrintLast Go.Proofs.YtgebiiekofpihaaW.PrintMore
set_option linter.unusedVariables false
set_option linter.unusedSimpArgs false
--@tables

theorem spread_rangeF (c : Int) (hc : 0 ≤ c) : ∀ (bs : List Bk) (p : Int × Int), (∀ b ∈ bs, 0 ≤ b.2 ∧ b.2 ≤ c) → -1 ≤ p.1 ∧ p.1 ≤ c → 0 ≤ p.2 ∧ p.2 ≤ c → (-1 ≤ (bs.foldl spreadStep p).1 ∧ (bs.foldl spreadStep p).1 ≤ c) ∧ 0 ≤ (bs.foldl spreadStep p).2 ∧ (bs.foldl spreadStep p).2 ≤ c
  | [], p, _, h1, h2 => ⟨h1, h2⟩
  | b :: bs, p, hb, h1, h2 => by
    obtain ⟨g2, g3⟩ := hb b (List.mem_cons_self ..)
    rw [List.foldl_cons]
    refine spread_rangeF c hc bs (spreadStep p b) (fun x hx => hb x (List.mem_cons_of_mem _ hx)) ?_ ?_
    · unfold spreadStep
      split
      · exact h1
      · show -1 ≤ (if p.1 < 0 ∨ b.2 < p.1 then b.2 else p.1) ∧ (if p.1 < 0 ∨ b.2 < p.1 then b.2 else p.1) ≤ c
        split <;> omega
    · unfold spreadStep
      split
      · exact h2
      · show 0 ≤ max p.2 b.2 ∧ max p.2 b.2 ≤ c
        omega
theorem spread_range (bs : List Bk) (c : Int) (hc : 0 ≤ c) (h : ∀ b ∈ bs, 0 ≤ b.2 ∧ b.2 ≤ c) : 0 ≤ max (spreadN bs).1 0 ∧ max (spreadN bs).1 0 ≤ c ∧ 0 ≤ (spreadN bs).2 ∧ (spreadN bs).2 ≤ c := by
  obtain ⟨h1, h2⟩ := spread_rangeF c hc bs (-1, 0) h ⟨by decide, by simp only; omega⟩ ⟨by decide, by simp only; omega⟩
  unfold spreadN
  omega

set_option maxHeartbeats 8000000 in
set_option maxRecDepth 100000 in
theorem poolEven_walk (a T hold : Nat) (hT : T < 256) (hh : hold < 256) (w : World) :
    Calls Try.prog 4 #[.int .u8 (a : Int), .int .u8 (T : Int), .int .u8 (hold : Int)] w fun e w' => e = .returned (.bool true) ∧ Below w.heap.size w w' := by
  obtain ⟨n, hn, hn2, hn3⟩ : ∃ n : Nat, 2 + (a : Int) % 10 = (n : Int) ∧ 2 ≤ n ∧ n ≤ 11 := ⟨2 + a % 10, by omega, by omega, by omega⟩
  have HN := Lib.hid (And.intro hn2 hn3); clear hn2 hn3
  have eT : wrap64 (T : Int) = (T : Int) := by unfold wrap64; omega
  have eH : wrap64 (hold : Int) = (hold : Int) := by unfold wrap64; omega
  have HT := Lib.hid hT; clear hT
  have HH := Lib.hid hh; clear hh
  go_enter Try.func4, Try.ntmps4
  go_wp2_with fail
  clear hn
  refine (pool_new n (Nat.le_trans (by decide) HN.out.1) (Nat.le_trans HN.out.2 (by decide)) w).mono ?_
  rintro e w1 ⟨g, r, rfl, hg1, hr1, hp, hb⟩
  have HG := Lib.hid hr1; clear hr1 hg1
  have HP := Lib.hid hp; clear hp
  have HB := Lib.hid hb; clear hb
  go_wp2_with fail
  refine (wakes_ok w1).mono ?_
  rintro e w2 ⟨rfl, hd⟩
  replace HP := Lib.hid (HP.out.below hd)
  replace HB := Lib.hid (chainC HB.out hd); clear hd
  go_wp2_with fail
  rw [eT]
  go_loopw [10, 38] (fun hv i wr => ∃ t : Nat, ∃ bs : List Bk, ∃ held : Int, t ≤ T ∧ i = .int .i64 (t : Int) ∧ hv = .int .i64 held ∧ Even bs n held hold t ∧ PoolAt wr g r bs ∧ Below w.heap.size w wr) (fun _ i _ => T - (RowKit.intOf i).toNat)
  case atStart => exact ⟨0, _, -1, Nat.zero_le _, rfl, rfl, even_start n hold, HP.out, HB.out⟩
  case round =>
    clear HP HB
    obtain ⟨t, bs, held, hj, rfl, rfl, h1, h2, h3⟩ := hrel
    have HE := Lib.hid h1; clear h1
    have HP := Lib.hid h2; clear h2
    have HB := Lib.hid h3; clear h3
    by_cases hlt : t < T
    · obtain ⟨k, hk, htv, htl, hs, hmin⟩ := even_take HE.out HN.out.1
      have HK := Lib.hid hk
      have HMin := Lib.hid hmin; clear hmin
      have HS := Lib.hid hs; clear hs
      have e3 : wrap64 ((t : Int) + 1) = ((t + 1 : Nat) : Int) := wrap_succ t (Nat.lt_trans hlt (Nat.lt_trans HT.out (by decide)))
      have hw := HE.out.wear k hk
      have HWr := Lib.hid hw; clear hw
      go_wp2_with fail
      refine (pool_take g r bs wr HP.out).mono ?_
      rintro e w3 ⟨rfl, hp, hd⟩
      rw [htv]
      rw [htl] at hp
      clear htv htl
      replace HP := Lib.hid hp; clear hp
      replace HB := Lib.hid (below_row HB.out HG.out hd HB.out.size); clear hd
      obtain ⟨wk, hwk⟩ : ∃ wk : Int, bs[k].2 = wk := ⟨_, rfl⟩
      have hwe : weB (bs.set k (2, wk)) (k : Int) = wk := weB_set bs k hk _
      have hwr : 0 ≤ wk ∧ wk ≤ (t : Int) := by rw [← hwk]; exact HWr.out
      have hp2 : PoolAt w3 g r (bs.set k (2, wk)) := by rw [← hwk]; exact HP.out
      replace HP := Lib.hid hp2; clear hp2
      have HWk := Lib.hid hwk; clear hwk HWr
      go_wp2_with fail
      refine (pool_wear g r _ (k : Int) w3 HP.out).mono ?_
      rintro e w4 ⟨rfl, rfl⟩
      rw [hwe]
      clear hwe
      have hadd : wrap64 (wk + 1) = wk + 1 := by have := HT.out; unfold wrap64; omega
      have HWr := Lib.hid hwr; clear hwr
      go_wp2_with fail
      clear hadd
      refine (pool_worn g r _ (k : Int) (wk + 1) w4 HP.out).mono ?_
      rintro e w5 ⟨rfl, hp, hd⟩
      rw [wornL_set bs k hk _ _ (by have := HWr.out; omega)] at hp
      generalize wornE (bs.set k (2, wk)) (k : Int) (wk + 1) = z1
      replace HP := Lib.hid hp; clear hp
      replace HB := Lib.hid (below_row HB.out HG.out hd HB.out.size); clear hd
      go_wp2_with fail
      refine (pool_spread g r _ w5 HP.out).mono ?_
      rintro e w6 ⟨rfl, hd⟩
      replace HP := Lib.hid (HP.out.below hd)
      replace HB := Lib.hid (chainC HB.out hd); clear hd
      replace HP := Lib.hid (show PoolAt w6 g r (bs.set k (2, wk + 1)) from HP.out)
      have hdiff : held = -1 → (spreadN (bs.set k (2, wk + 1))).2 - max (spreadN (bs.set k (2, wk + 1))).1 0 ≤ 1 := fun e => by
        have h := even_spread (n := n) (hold := hold) (t := t) (by rw [e] at HE; exact HE.out) hk HMin.out
        rw [← HWk.out]
        exact h
      have hlr := spread_range (bs.set k (2, wk + 1)) 1000 (by decide) (by
        have h := even_wear HE.out.wear hk 2
        rw [← HWk.out]
        intro b hb
        obtain ⟨i, hi, rfl⟩ := List.mem_iff_getElem.mp hb
        have := h i hi
        have := HT.out
        omega)
      rw [show (((2, wk) : Bk).1, wk + 1) = (2, wk + 1) from rfl]
      obtain ⟨lo, hlo⟩ : ∃ lo, max (spreadN (bs.set k (2, wk + 1))).1 0 = lo := ⟨_, rfl⟩
      obtain ⟨hi, hhi⟩ : ∃ hi, (spreadN (bs.set k (2, wk + 1))).2 = hi := ⟨_, rfl⟩
      rw [hlo, hhi] at hdiff hlr ⊢
      clear hlo hhi
      have hsub : wrap64 (hi - lo) = hi - lo := by unfold wrap64; omega
      have HDf := Lib.hid hdiff; clear hdiff hlr
      by_cases hh : held < 0
      · have hm1 : held = -1 := by
          rcases HE.out.st with ⟨h, _⟩ | ⟨q, h, _⟩
          · exact h
          · omega
        subst hm1
        have hd1 : decide (1 < hi - lo) = false := decide_eq_false (by have := HDf.out rfl; omega)
        have hd2 : ¬ 1 < hi - lo := by have := HDf.out rfl; omega
        by_cases hth : t = hold
        · subst hth
          have HN1 := Lib.hid (show Even (bs.set k (2, wk + 1)) n (k : Int) t (t + 1) by rw [← HWk.out]; exact even_hold HE.out hk)
          go_wp2
          go_roundw
          case rel => exact ⟨t + 1, _, _, hlt, by rw [e3], rfl, HN1.out, HP.out, HB.out⟩
          case measure => rw [e3]; simp only [RowKit.intOf, Int.toNat_natCast]; exact Nat.sub_lt_sub_left hlt (Nat.lt_succ_self t)
        · have ct : decide (t = hold) = false := decide_eq_false hth
          have HN1 := Lib.hid (show Even (bs.set k (1, wk + 1)) n (-1) hold (t + 1) by rw [← HWk.out]; exact even_free HE.out hk HMin.out)
          go_wp2_with fail
          refine (pool_set g r _ (k : Int) 1 w6 HP.out).mono ?_
          rintro e w7 ⟨rfl, hp, hd⟩
          rw [setL_set bs k hk _ (show (2 : Int) ≠ 3 by decide)] at hp
          generalize setE (bs.set k (2, wk + 1)) (k : Int) 1 = z2
          replace HP := Lib.hid (show PoolAt w7 g r (bs.set k (1, wk + 1)) from hp); clear hp
          replace HB := Lib.hid (below_row HB.out HG.out hd HB.out.size); clear hd
          go_wp2
          go_roundw
          case rel => exact ⟨t + 1, _, _, hlt, by rw [e3], rfl, HN1.out, HP.out, HB.out⟩
          case measure => rw [e3]; simp only [RowKit.intOf, Int.toNat_natCast]; exact Nat.sub_lt_sub_left hlt (Nat.lt_succ_self t)
      · obtain ⟨q, hq⟩ := Int.eq_ofNat_of_zero_le (show 0 ≤ held by omega)
        subst hq
        have hth : ¬ t = hold := by
          rcases HE.out.st with ⟨h, _⟩ | ⟨q', h, _, h2, _⟩
          · omega
          · omega
        have ct : decide (t = hold) = false := decide_eq_false hth
        have ch : decide ((q : Int) < 0) = false := decide_eq_false hh
        have HN1 := Lib.hid (show Even (bs.set k (1, wk + 1)) n (q : Int) hold (t + 1) by rw [← HWk.out]; exact even_held HE.out hk HS.out)
        go_wp2_with fail
        refine (pool_set g r _ (k : Int) 1 w6 HP.out).mono ?_
        rintro e w7 ⟨rfl, hp, hd⟩
        rw [setL_set bs k hk _ (show (2 : Int) ≠ 3 by decide)] at hp
        generalize setE (bs.set k (2, wk + 1)) (k : Int) 1 = z2
        replace HP := Lib.hid (show PoolAt w7 g r (bs.set k (1, wk + 1)) from hp); clear hp
        replace HB := Lib.hid (below_row HB.out HG.out hd HB.out.size); clear hd
        go_wp2
        go_roundw
        case rel => exact ⟨t + 1, _, _, hlt, by rw [e3], rfl, HN1.out, HP.out, HB.out⟩
        case measure => rw [e3]; simp only [RowKit.intOf, Int.toNat_natCast]; exact Nat.sub_lt_sub_left hlt (Nat.lt_succ_self t)
    · obtain rfl : t = T := Nat.le_antisymm hj (Nat.le_of_not_lt hlt)
      have HCn := Lib.hid (even_count HE.out)
      by_cases hh : 0 ≤ held
      · have ch : decide (0 ≤ held) = true := decide_eq_true hh
        have hsub : wrap64 ((n : Int) - 1) = (n : Int) - 1 := by have := HN.out; unfold wrap64; omega
        rw [if_pos hh] at HCn
        go_wp2_with fail
        refine (pool_count g r _ 1 wr HP.out).mono ?_
        rintro e w3 ⟨rfl, hd⟩
        rw [HCn.out]
        replace HB := Lib.hid (chainC HB.out hd); clear hd
        go_wp2
        go_ret
        exact ⟨rfl, HB.out⟩
      · have ch : decide (0 ≤ held) = false := decide_eq_false hh
        rw [if_neg hh] at HCn
        go_wp2_with fail
        refine (pool_count g r _ 1 wr HP.out).mono ?_
        rintro e w3 ⟨rfl, hd⟩
        rw [HCn.out]
        replace HB := Lib.hid (chainC HB.out hd); clear hd
        go_wp2
        go_ret
        exact ⟨rfl, HB.out⟩
theorem poolEven_law (a0 a1 a2 : Int) (W : World) (w0 : (Lit.int .u8 a0).wf = true) (w1 : (Lit.int .u8 a1).wf = true) (w2 : (Lit.int .u8 a2).wf = true) :
    Calls Try.prog 4 #[.int .u8 a0, .int .u8 a1, .int .u8 a2] W fun e w' => e = .returned (.bool true) ∧ Below W.heap.size W w' := by
  have b0 : 0 ≤ a0 ∧ a0 < 256 := by simp [Lit.wf, IntKind.min, IntKind.max, IntKind.signed, IntKind.bits] at w0; omega
  have b1 : 0 ≤ a1 ∧ a1 < 256 := by simp [Lit.wf, IntKind.min, IntKind.max, IntKind.signed, IntKind.bits] at w1; omega
  have b2 : 0 ≤ a2 ∧ a2 < 256 := by simp [Lit.wf, IntKind.min, IntKind.max, IntKind.signed, IntKind.bits] at w2; omega
  obtain ⟨a, rfl⟩ := Int.eq_ofNat_of_zero_le b0.1
  obtain ⟨T, rfl⟩ := Int.eq_ofNat_of_zero_le b1.1
  obtain ⟨h, rfl⟩ := Int.eq_ofNat_of_zero_le b2.1
  exact poolEven_walk a T h (by omega) (by omega) W
end Go.Proofs.Ytgebiiekofpihaa
