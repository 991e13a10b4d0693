/- SaleNumbers: the walk. No conditions beyond the form's own reach. -/
import Derived.Test.YtdeeakjkhcdkaaaXSaleN
namespace Go.Proofs.Ytdeeakjkhcdkaaa
open Go.RowKit Go.Lib Go.Proofs.YtdeeakjkhcdkaaaW.PrintWords Go.Proofs.YtdeeakjkhcdkaaaW.PrintLast Go.Proofs.YtdeeakjkhcdkaaaW.PrintMore
set_option linter.unusedVariables false
set_option linter.unusedSimpArgs false
--@tables
theorem num_wrap (gm yn p : Nat) (h1 : yn ≤ gm) (h2 : gm ≤ 1000) (h3 : p < yn) : wrap64 ((gm : Int) - (yn : Int)) = (gm : Int) - (yn : Int) ∧ wrap64 ((gm : Int) - (yn : Int) + 1) = (gm : Int) - (yn : Int) + 1 ∧ wrap64 ((gm : Int) - (yn : Int) + 1 + (p : Int)) = ((gm + 1 : Nat) : Int) - (yn : Int) + (p : Int) := by
  refine ⟨?_, ?_, ?_⟩ <;> (unfold wrap64; omega)
set_option maxHeartbeats 8000000 in
set_option maxRecDepth 100000 in
theorem saleNumbers_walk (kp : Nat) (hkp : kp < 256) (a : Option Addr) (l : List TA) (ca : Nat) (ha : l.length ≤ ca ∧ ca ≤ maxLen) (w : World) (hl : TasAt w a l) :
    Calls Try.prog 4 #[.slice a l.length ca, .int .u8 (kp : Int)] w fun e w' => e = .returned (.bool true) ∧ Below w.heap.size w w' := by
  have HLq := Lib.hid hl; clear hl
  obtain ⟨N, hN, hN1, hN2, hN3, hN4⟩ : ∃ N : Nat, (if 40 < (l.length : Int) then 40 else (l.length : Int)) = (N : Int) ∧ N ≤ l.length ∧ N ≤ 40 ∧ N ≤ ca ∧ min 40 l.length = N := ⟨min 40 l.length, by split <;> omega, by omega, by omega, by omega, rfl⟩
  have c1 : (0 ≤ (N : Int)) = True := eq_true (by omega)
  have c2 : ((N : Int) ≤ (ca : Int)) = True := eq_true (by omega)
  have c3 : (N ≤ ca) = True := eq_true hN3
  have c4 : decide (N ≤ ca) = true := decide_eq_true hN3
  have hNm : min (l.length : Int) 40 = (N : Int) := by rw [← hN]; split <;> omega
  have HCa := Lib.hid ha; clear ha
  have HN := Lib.hid (And.intro hN1 hN2); clear hN1 hN2 hN3 hN4
  obtain ⟨k, hk, hk1, hk2⟩ : ∃ k : Nat, 1 + (kp : Int) % 12 = (k : Int) ∧ 1 ≤ k ∧ k ≤ 12 := ⟨1 + kp % 12, by omega, by omega, by omega⟩
  have HK := Lib.hid (And.intro hk1 hk2); clear hk1 hk2
  have HKp := Lib.hid hkp; clear hkp
  go_enter Try.func4, Try.ntmps4
  go_wp2_with fail
  clear hk
  refine (new_at k HK.out.1 (by have := HK.out; omega) w).mono ?_
  rintro e w1 ⟨g, rfl, hr, hb⟩
  have HR := Lib.hid hr; clear hr
  have HB := Lib.hid hb; clear hb
  have HG := Lib.hid HR.out.low
  go_wp2_with fail
  refine (wakes_ok w1).mono ?_
  rintro e w2 ⟨rfl, hd⟩
  replace HR := Lib.hid (HR.out.below hd)
  replace HB := Lib.hid (chain2 HB.out hd); clear hd
  go_wp2_with fail
  clear hN hNm c1 c2 c3 c4
  go_loopw [8, 43] (fun gv i wr => ∃ (j gn : Nat) (ps : List TP), j ≤ N ∧ gn ≤ j ∧ gv = .int .i64 (gn : Int) ∧ i = .int .i64 (j : Int) ∧ RegAt wr w.heap.size g k (gn + 1) ps ∧ ps.length = min gn k ∧ NumsOk (gn + 1) ps ∧ Below w.heap.size w wr) (fun _ i _ => N - (RowKit.intOf i).toNat)
  case atStart => exact ⟨0, 0, [], Nat.zero_le _, Nat.le_refl _, rfl, rfl, HR.out, by simp, ⟨by simp, fun i h => by simp at h⟩, HB.out⟩
  case round =>
    clear HR HB
    obtain ⟨j, gn, ps, hj, hgj, rfl, rfl, hr, hpl, hnm, hb⟩ := hrel
    have HR := Lib.hid hr; clear hr
    have HB := Lib.hid hb; clear hb
    have HNm := Lib.hid hnm; clear hnm
    have HPl := Lib.hid hpl; clear hpl
    have HGj := Lib.hid hgj; clear hgj
    by_cases hlt : j < N
    · have hjl : j < l.length := Nat.lt_of_lt_of_le hlt HN.out.1
      obtain ⟨hin, g1, o1, rfl, hc⟩ := HLq.out j hjl
      obtain ⟨k0, k1, k2, k3, k4⟩ := hc.below HB.out
      have HIn := Lib.hid hin; clear hin hc
      generalize l[j] = x at k0 k1 k2 k3 k4 HIn
      obtain ⟨xk, xs, xr, xa, xc⟩ := x
      simp only at k0 k1 k2 k3 k4
      have e3 : wrap64 ((j : Int) + 1) = ((j + 1 : Nat) : Int) := wrap_succS j (by have := HN.out; omega)
      have Hlt := Lib.hid hlt
      go_wp2_with fail
      clear k0 k1 k2 k3 k4
      have hal := below_alloc (Below.refl wr.heap.size wr) (.cells #[.int .u8 xk, .int .i64 xs, .int .i64 xr, .int .i64 xa, .int .i64 xc] 31)
      replace HR := Lib.hid (HR.out.below hal)
      replace HB := Lib.hid (chain2 HB.out hal); clear hal
      have hof := of_ok ⟨xk, xs, xr, xa, xc⟩ (wr.alloc (.cells #[.int .u8 xk, .int .i64 xs, .int .i64 xr, .int .i64 xa, .int .i64 xc] 31))
      unfold aggA aggT at hof
      generalize wr.alloc (.cells #[.int .u8 xk, .int .i64 xs, .int .i64 xr, .int .i64 xa, .int .i64 xc] 31) = w3 at HR HB hof ⊢
      have htk : 0 ≤ (ofT ⟨xk, xs, xr, xa, xc⟩).kind ∧ (ofT ⟨xk, xs, xr, xa, xc⟩).kind < 256 := HIn.out.k
      have htl : (ofT ⟨xk, xs, xr, xa, xc⟩).ls.length ≤ 1 := lsA_len _
      refine hof.mono ?_
      clear hof
      rintro e w4 ⟨lv, rv, rfl, hl, hrv, hd⟩
      replace HR := Lib.hid (HR.out.below hd)
      replace HB := Lib.hid (chain2 HB.out hd); clear hd
      rw [show lsA ⟨xk, xs, xr, xa, xc⟩ = (ofT ⟨xk, xs, xr, xa, xc⟩).ls from rfl] at hl
      rw [show lsA ⟨xk, xs, xr, xa, xc⟩ = (ofR ⟨xk, xs, xr, xa, xc⟩).ls from rfl] at hrv
      generalize ofT ⟨xk, xs, xr, xa, xc⟩ = t at hl htk htl ⊢
      generalize ofR ⟨xk, xs, xr, xa, xc⟩ = r at hrv ⊢
      obtain ⟨la, lc, hv⟩ := hl.form
      subst hv
      obtain ⟨ra, rc, hv⟩ := hrv.form
      subst hv
      have HTk := Lib.hid (And.intro htk htl); clear htk htl hrv
      have HL := Lib.hid hl.rowS; clear hl
      go_wp2_with fail
      have hal := below_alloc (below_alloc (Below.refl w4.heap.size w4) (.cells #[.int .i64 t.num, .int .u8 t.kind, .int .i64 t.shift, .int .i64 t.ref, .int .i64 t.amount, .int .i64 t.left, .bool t.void, .slice la t.ls.length lc] 37)) (.cells #[.int .i64 r.num, .int .u8 r.kind, .int .i64 r.shift, .int .i64 r.ref, .int .i64 r.amount, .int .i64 r.left, .bool r.void, .slice ra r.ls.length rc] 40)
      have c1 := add_at t (.slice la t.ls.length lc) _ (HR.out.below hal) HTk.out.1 (HL.out.below hal) (by have := HTk.out.2; omega)
      unfold aggT at c1
      replace HB := Lib.hid (chain2 HB.out hal); clear hal HR HL
      generalize (w4.alloc (.cells #[.int .i64 t.num, .int .u8 t.kind, .int .i64 t.shift, .int .i64 t.ref, .int .i64 t.amount, .int .i64 t.left, .bool t.void, .slice la t.ls.length lc] 37)).alloc (.cells #[.int .i64 r.num, .int .u8 r.kind, .int .i64 r.shift, .int .i64 r.ref, .int .i64 r.amount, .int .i64 r.left, .bool r.void, .slice ra r.ls.length rc] 40) = w5 at HB c1 ⊢
      have HC1 := Lib.hid c1; clear c1
      have HPs := Lib.hid (after_nums k (gn + 1) ps t (by rw [HPl.out]; omega) HK.out.1 HNm.out)
      have HPl2 := Lib.hid (after_len k (gn + 1) ps t (by rw [HPl.out]; omega))
      by_cases hc : addC (gn + 1) ps t = 0
      case' pos =>
        obtain ⟨gm, hgm⟩ : ∃ gm : Nat, gm = gn + 1 := ⟨_, rfl⟩
        have HGm := Lib.hid (show gm ≤ j + 1 by have := HGj.out; omega)
        have e4 : wrap64 ((gn : Int) + 1) = (gm : Int) := by rw [hgm]; exact wrap_succS gn (by have := HN.out; have := HGj.out; omega)
        replace HPl2 := Lib.hid (show (afterR k (gn + 1) ps t).length = min gm k by rw [HPl2.out, if_pos hc, HPl.out, hgm]; omega)
        rw [hc, addN_ok hc, show nextR (gn + 1) ps t = gm + 1 by unfold nextR; rw [if_pos hc, hgm], ← hgm] at HC1
        rw [show nextR (gn + 1) ps t = gm + 1 by unfold nextR; rw [if_pos hc, hgm], ← hgm] at HPs
        rw [← hgm] at HPl2
        clear hc hgm
        generalize afterR k gm ps t = ps2 at HC1 HPs HPl2
        refine HC1.out.mono ?_
        clear HC1
        rintro e w6 ⟨rfl, hr, ht⟩
        have HR := Lib.hid hr; clear hr
        replace HB := Lib.hid (touch_below HB.out (Nat.le_refl _) HG.out HB.out.size ht); clear ht
        go_wp2_with fail
        try rw [e4]
        clear e4
      case' neg =>
        obtain ⟨gm, hgm⟩ : ∃ gm : Nat, gm = gn := ⟨_, rfl⟩
        have HGm := Lib.hid (show gm ≤ j + 1 by have := HGj.out; omega)
        replace HPl2 := Lib.hid (show (afterR k (gn + 1) ps t).length = min gm k by rw [HPl2.out, if_neg hc, HPl.out, hgm])
        rw [show nextR (gn + 1) ps t = gm + 1 by unfold nextR; rw [if_neg hc, hgm], ← hgm] at HC1
        rw [show nextR (gn + 1) ps t = gm + 1 by unfold nextR; rw [if_neg hc, hgm], ← hgm] at HPs
        rw [← hgm] at HPl2
        rw [← hgm] at hc ⊢
        clear hgm
        have hc2 : (addC (gm + 1) ps t == 0) = false := by simpa using hc
        generalize afterR k (gm + 1) ps t = ps2 at HC1 HPs HPl2
        generalize addN (gm + 1) ps t = nn at HC1
        generalize addC (gm + 1) ps t = cc at HC1 hc2
        clear hc
        refine HC1.out.mono ?_
        clear HC1
        rintro e w6 ⟨rfl, hr, ht⟩
        have HR := Lib.hid hr; clear hr
        replace HB := Lib.hid (touch_below HB.out (Nat.le_refl _) HG.out HB.out.size ht); clear ht
        go_wp2_with fail
        clear hc2
      all_goals
        refine (list_at w6 HR.out).mono ?_
        rintro e w7 ⟨v', ys, rfl, hyr, hyl, hym, hd⟩
        replace HR := Lib.hid (HR.out.below hd)
        replace HB := Lib.hid (chain2 HB.out hd); clear hd hyl
        have HYl := Lib.hid (show ys.length = min gm k by rw [← HPl2.out, ← hym, List.length_map])
        obtain ⟨yn, hyn⟩ : ∃ yn, yn = ys.length := ⟨_, rfl⟩
        rw [← hyn] at HYl
        have HYn := Lib.hid (show ∀ i, ∀ h : i < ys.length, ys[i].1.num = ((gm + 1 : Nat) : Int) - (yn : Int) + (i : Int) from fun i h => by
          have h2 : i < ps2.length := by rw [← hym, List.length_map]; exact h
          have h3 := HPs.out.2 i h2
          have h4 : ps2[i] = ys[i].1 := by have := congrArg (fun l => l[i]?) hym; simp only [List.getElem?_map, List.getElem?_eq_getElem h, List.getElem?_eq_getElem h2, Option.map_some, Option.some.injEq] at this; exact this.symm
          rw [← h4, h3, ← hym, List.length_map, hyn])
        clear hym
        have HYr := Lib.hid hyr; clear hyr
        obtain ⟨ya, yc, hv⟩ := HYr.out.form
        rw [← hyn] at hv
        subst hv
        have HYe := Lib.hid hyn; clear hyn
        go_wp2_with fail
        refine (next_at w7 HR.out).mono ?_
        rintro e w' ⟨rfl, rfl⟩
        have e5 : wrap64 ((gm : Int) + 1) = ((gm + 1 : Nat) : Int) := wrap_succS gm (by have := HN.out; have := HGm.out; have := Hlt.out; omega)
        have e6 : (if (k : Int) < (gm : Int) then (k : Int) else (gm : Int)) = (yn : Int) := by have := HYl.out; split <;> omega
        have e7 : min (gm : Int) (k : Int) = (yn : Int) := by have := HYl.out; omega
        have e8 : min gm k = yn := HYl.out.symm
        have HYb := Lib.hid (show yn ≤ gm ∧ gm ≤ 1000 from ⟨by have := HYl.out; omega, by have := HGm.out; have := HN.out; have := Hlt.out; omega⟩)
        go_wp2_with fail
        clear e5 e6 e7 e8
        go_loopw [82] (fun i wi => ∃ p : Nat, p ≤ yn ∧ i = .int .i64 (p : Int) ∧ Below w7.heap.size w7 wi) (fun i _ => yn - (RowKit.intOf i).toNat)
        case atStart => exact ⟨0, Nat.zero_le _, rfl, Below.refl _ _⟩
        case round =>
          obtain ⟨p, hp, rfl, hd⟩ := hrel
          have HD := Lib.hid hd; clear hd
          by_cases hlp : p < yn
          · have e4 : wrap64 ((p : Int) + 1) = ((p + 1 : Nat) : Int) := wrap_succS p (Nat.lt_of_lt_of_le hlp (Nat.le_trans HYb.out.1 (Nat.le_trans HYb.out.2 (by decide))))
            have Hlp := Lib.hid hlp
            have hpq : p < ys.length := Nat.lt_of_lt_of_eq hlp HYe.out
            have hr2 := HYr.out.below HD.out
            obtain ⟨gg, off, cc, hv⟩ := hr2.form1 (Nat.lt_of_le_of_lt (Nat.zero_le p) hpq)
            have hv2 := (Value.slice.inj hv).1
            subst hv2
            obtain ⟨r0, r1, r2, r3, r4, r5, r6, r7⟩ := row8 hr2 p hpq
            obtain ⟨s1, s2, s3⟩ := num_wrap gm yn p HYb.out.1 HYb.out.2 hlp
            have hnum := HYn.out p hpq
            rw [← s3] at hnum
            rw [hnum] at r0
            clear hr2 hv hnum
            have hsl : ∃ a n c, isSl ys[p].2 = .slice a n c := by unfold isSl; split <;> exact ⟨_, _, _, rfl⟩
            obtain ⟨sa, sn, sc, hsl⟩ := hsl
            rw [hsl] at r7
            clear hsl
            generalize ys[p].1 = y at r1 r2 r3 r4 r5 r6
            have hq1 : ((p : Int) < (yn : Int)) = True := eq_true (Int.ofNat_lt.mpr hlp)
            have hq2 : decide ((p : Int) < (yn : Int)) = true := decide_eq_true (Int.ofNat_lt.mpr hlp)
            go_wp2_with fail
            exact ⟨⟨p + 1, Hlp.out, by rw [e4], chain2 HD.out (below_alloc (Below.refl _ _) _)⟩, by rw [e4]; simp only [RowKit.intOf, Int.toNat_natCast]; exact Nat.sub_lt_sub_left Hlp.out (Nat.lt_succ_self p)⟩
          · obtain rfl : p = yn := Nat.le_antisymm hp (Nat.le_of_not_lt hlp)
            go_wp2_with fail
            go_roundw
            case rel => exact ⟨j + 1, gm, ps2, Hlt.out, HGm.out, rfl, by first | rw [e3] | rfl, HR.out.below HD.out, HPl2.out, HPs.out, chain2 HB.out HD.out⟩
            case measure => have hlt := Hlt.out; (first | rw [e3] | rw [show ((j : Int) + 1) = ((j + 1 : Nat) : Int) from rfl]); simp only [RowKit.intOf, Int.toNat_natCast]; exact Nat.sub_lt_sub_left hlt (Nat.lt_succ_self j)
    · obtain rfl : j = N := Nat.le_antisymm hj (Nat.le_of_not_lt hlt)
      go_wp2
      go_ret
      exact ⟨by rfl, HB.out⟩
theorem saleNumbers_law (a0 : Option Addr) (len0 cap0 : Nat) (a1 : Int) (W : World) (w0 : RowIn W [.int .u8, .int .i64, .int .i64, .int .i64, .int .i64] a0 len0) (y0 : len0 ≤ cap0 ∧ cap0 ≤ maxLen) (w1 : (Lit.int .u8 a1).wf = true) :
    Calls Try.prog 4 #[.slice a0 len0 cap0, .int .u8 a1] W fun e w' => e = .returned (.bool true) ∧ Below W.heap.size W w' := by
  obtain ⟨xs, rfl, h1⟩ := tas_of w0
  have b1 := wf_u8T w1
  obtain ⟨k, rfl⟩ := Int.eq_ofNat_of_zero_le b1.1
  exact saleNumbers_walk k (by omega) a0 xs cap0 y0 W h1
end Go.Proofs.Ytdeeakjkhcdkaaa
