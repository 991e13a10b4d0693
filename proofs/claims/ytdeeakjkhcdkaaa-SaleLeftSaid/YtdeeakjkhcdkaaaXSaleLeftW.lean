/- SaleLeft: the walk. No conditions beyond the form's own reach. -/
import Derived.Test.YtdeeakjkhcdkaaaXSaleM
namespace Go.Proofs.Ytdeeakjkhcdkaaa
open Go.RowKit Go.Lib Go.Proofs.YtdeeakjkhcdkaaaW.PrintWords Go.Proofs.YtdeeakjkhcdkaaaW.PrintLast Go.Proofs.YtdeeakjkhcdkaaaW.PrintMore
set_option linter.unusedVariables false
set_option linter.unusedSimpArgs false
--@tables
/-- The three maps. -/
structure Maps3 (w : World) (bA bB bV n : Nat) (A : Int → Option Int) (B : Int → Int) (V : Int → Bool) : Prop where
  a : MapA w bA n A
  b : MapQ w bB n (.int .i64 0) (fun k => .int .i64 (B k))
  v : MapQ w bV n (.bool false) (fun k => .bool (V k))
theorem Maps3.below {w w' : World} {bA bB bV n : Nat} {A : Int → Option Int} {B : Int → Int} {V : Int → Bool} (h : Maps3 w bA bB bV n A B V) (hb : Below w.heap.size w w') : Maps3 w' bA bB bV n A B V := ⟨h.a.below hb, h.b.below hb, h.v.below hb⟩
theorem Maps3.mono {w : World} {bA bB bV n m : Nat} {A : Int → Option Int} {B : Int → Int} {V : Int → Bool} (h : Maps3 w bA bB bV n A B V) (hm : n ≤ m) : Maps3 w bA bB bV m A B V := ⟨h.a.mono hm, h.b.mono hm, h.v.mono hm⟩
theorem Maps3.touch {w w' : World} {bA bB bV n base g keep next : Nat} {ps : List TP} {A : Int → Option Int} {B : Int → Int} {V : Int → Bool} (h : Maps3 w bA bB bV n A B V) (hr : RegAt w base g keep next ps) (ht : Touch (TR base g w) w w') : Maps3 w' bA bB bV n A B V :=
  ⟨h.a.touch hr ht, h.b.touch hr ht, h.v.touch hr ht⟩
set_option maxHeartbeats 8000000 in
set_option maxRecDepth 100000 in
theorem saleLeft_walk (a : Option Addr) (l : List TA) (ca : Nat) (ha : l.length ≤ ca ∧ ca ≤ maxLen) (w : World) (hl : TasAt w a l) :
    Calls Try.prog 3 #[.slice a l.length ca] w fun e w' => e = .returned (.bool true) ∧ Below w.heap.size w w' := by
  have HLq := Lib.hid hl; clear hl
  obtain ⟨N, hN, hN1, hN2, hN3, hN4⟩ : ∃ N : Nat, (if 50 < (l.length : Int) then 50 else (l.length : Int)) = (N : Int) ∧ N ≤ l.length ∧ N ≤ 50 ∧ N ≤ ca ∧ min 50 l.length = N := ⟨min 50 l.length, by split <;> omega, by omega, by omega, by omega, rfl⟩
  have c1 : (0 ≤ (N : Int)) = True := eq_true (by omega)
  have c2 : ((N : Int) ≤ (ca : Int)) = True := eq_true (by omega)
  have c3 : (N ≤ ca) = True := eq_true hN3
  have c4 : decide (N ≤ ca) = true := decide_eq_true hN3
  have hNm : min (l.length : Int) 50 = (N : Int) := by rw [← hN]; split <;> omega
  have HCa := Lib.hid ha; clear ha
  have HN := Lib.hid (And.intro hN1 hN2); clear hN1 hN2 hN3 hN4
  go_enter Try.func3, Try.ntmps3
  go_wp2_with fail
  refine (new_at 50 (by decide) (by decide) w).mono ?_
  rintro e w1 ⟨g, rfl, hr, hb⟩
  have HR := Lib.hid hr; clear hr
  have HB := Lib.hid hb; clear hb
  have HG := Lib.hid HR.out.low
  go_wp2_with fail
  refine (wakes_ok w1).mono ?_
  rintro e w2 ⟨rfl, hd⟩
  replace HR := Lib.hid (HR.out.below hd)
  replace HB := Lib.hid (chain2 HB.out hd); clear hd
  have hsw := HB.out.size
  have hmm := @run_makeMap Try.prog
  have s1 := alloc_size w2 (.map #[] 0)
  have s2 := alloc_size (w2.alloc (.map #[] 0)) (.map #[] 0)
  have b1 := below_alloc (Below.refl w2.heap.size w2) (.map #[] 0)
  have b2 := below_alloc (Below.refl (w2.alloc (.map #[] 0)).heap.size (w2.alloc (.map #[] 0))) (.map #[] 0)
  have b3 := below_alloc (Below.refl ((w2.alloc (.map #[] 0)).alloc (.map #[] 0)).heap.size ((w2.alloc (.map #[] 0)).alloc (.map #[] 0))) (.map #[] 0)
  have m1 := ((MapA.made w2).below b2).below b3
  have m2 := (MapQ.made (w2.alloc (.map #[] 0)) (.int .i64 0)).below b3
  have m3 := MapQ.made ((w2.alloc (.map #[] 0)).alloc (.map #[] 0)) (.bool false)
  rw [s1] at m2
  rw [s2, s1] at m3
  have HM := Lib.hid (Maps3.mk m1 m2 m3)
  replace HR := Lib.hid (((HR.out.below b1).below b2).below b3)
  replace HB := Lib.hid (chain2 (chain2 (chain2 HB.out b1) b2) b3)
  have HS := Lib.hid (show w.heap.size ≤ w2.heap.size ∧ w2.heap.size < w2.heap.size + 1 ∧ w2.heap.size + 1 < w2.heap.size + 1 + 1 from ⟨hsw, by omega, by omega⟩)
  clear hsw s1 s2 b1 b2 b3 m1 m2 m3
  go_wp2_with fail
  clear hN hNm c1 c2 c3 c4 hmm
  generalize ((w2.alloc (.map #[] 0)).alloc (.map #[] 0)).alloc (.map #[] 0) = w3 at HM HR HB ⊢
  generalize w2.heap.size + 1 + 1 = bV at HM HS ⊢
  generalize w2.heap.size + 1 = bB at HM HS ⊢
  generalize w2.heap.size = bA at HM HS ⊢
  go_loopw [41] (fun i wr => ∃ (j next : Nat) (ps : List TP) (A : Int → Option Int) (B : Int → Int) (V : Int → Bool), j ≤ N ∧ next ≤ j + 1 ∧ i = .int .i64 (j : Int) ∧ RegAt wr w.heap.size g 50 next ps ∧ LeftInv next ps A B V ∧ Maps3 wr bA bB bV j A B V ∧ Below w.heap.size w wr) (fun i _ => N - (RowKit.intOf i).toNat)
  case atStart => exact ⟨0, 1, [], _, _, _, Nat.zero_le _, Nat.le_refl _, rfl, HR.out, LeftInv.start, HM.out, HB.out⟩
  case round =>
    clear HR HB HM
    obtain ⟨j, next, ps, A, B, V, hj, hnj, rfl, hr, hli, hm, hb⟩ := hrel
    have HR := Lib.hid hr; clear hr
    have HB := Lib.hid hb; clear hb
    have HI := Lib.hid hli; clear hli
    have HM := Lib.hid hm; clear hm
    have HNj := Lib.hid hnj; clear hnj
    by_cases hlt : j < N
    · have hjl : j < l.length := Nat.lt_of_lt_of_le hlt HN.out.1
      obtain ⟨hin, g1, o1, rfl, hc⟩ := HLq.out j hjl
      obtain ⟨k0, k1, k2, k3, k4⟩ := hc.below HB.out
      have HIn := Lib.hid hin; clear hin hc
      generalize l[j] = x at k0 k1 k2 k3 k4 HIn
      obtain ⟨xk, xs, xr, xa, xc⟩ := x
      simp only at k0 k1 k2 k3 k4
      have e3 : wrap64 ((j : Int) + 1) = ((j + 1 : Nat) : Int) := wrap_succS j (by have := HN.out; omega)
      have Hlt := Lib.hid hlt
      have HJ := Lib.hid (show j < 1000 by have := HN.out; omega)
      go_wp2_with fail
      clear k0 k1 k2 k3 k4
      have hal := below_alloc (Below.refl wr.heap.size wr) (.cells #[.int .u8 xk, .int .i64 xs, .int .i64 xr, .int .i64 xa, .int .i64 xc] 31)
      replace HR := Lib.hid (HR.out.below hal)
      replace HM := Lib.hid (HM.out.below hal)
      replace HB := Lib.hid (chain2 HB.out hal); clear hal
      have hof := of_ok ⟨xk, xs, xr, xa, xc⟩ (wr.alloc (.cells #[.int .u8 xk, .int .i64 xs, .int .i64 xr, .int .i64 xa, .int .i64 xc] 31))
      unfold aggA aggT at hof
      generalize wr.alloc (.cells #[.int .u8 xk, .int .i64 xs, .int .i64 xr, .int .i64 xa, .int .i64 xc] 31) = w4 at HR HB HM hof ⊢
      have htk : 0 ≤ (ofT ⟨xk, xs, xr, xa, xc⟩).kind ∧ (ofT ⟨xk, xs, xr, xa, xc⟩).kind < 256 := HIn.out.k
      have htr : -9223372036854775808 ≤ (ofT ⟨xk, xs, xr, xa, xc⟩).ref ∧ (ofT ⟨xk, xs, xr, xa, xc⟩).ref < 9223372036854775808 := HIn.out.r
      have htl : (ofT ⟨xk, xs, xr, xa, xc⟩).ls.length ≤ 1 := lsA_len _
      refine hof.mono ?_
      clear hof
      rintro e w5 ⟨lv, rv, rfl, hl, hrv, hd⟩
      replace HR := Lib.hid (HR.out.below hd)
      replace HM := Lib.hid (HM.out.below hd)
      replace HB := Lib.hid (chain2 HB.out hd); clear hd
      rw [show lsA ⟨xk, xs, xr, xa, xc⟩ = (ofT ⟨xk, xs, xr, xa, xc⟩).ls from rfl] at hl
      rw [show lsA ⟨xk, xs, xr, xa, xc⟩ = (ofR ⟨xk, xs, xr, xa, xc⟩).ls from rfl] at hrv
      generalize ofT ⟨xk, xs, xr, xa, xc⟩ = t at hl htk htl htr ⊢
      generalize ofR ⟨xk, xs, xr, xa, xc⟩ = r at hrv ⊢
      obtain ⟨la, lc, hv⟩ := hl.form
      subst hv
      obtain ⟨ra, rc, hv⟩ := hrv.form
      subst hv
      have HTk := Lib.hid (And.intro htk htl); clear htk htl hrv
      have HTr := Lib.hid (i64_of t.ref htr.1 htr.2); clear htr
      have HL := Lib.hid hl.rowS; clear hl
      go_wp2_with fail
      have ha1 := below_alloc (Below.refl w5.heap.size w5) (.cells #[.int .i64 t.num, .int .u8 t.kind, .int .i64 t.shift, .int .i64 t.ref, .int .i64 t.amount, .int .i64 t.left, .bool t.void, .slice la t.ls.length lc] 37)
      have hal := below_alloc ha1 (.cells #[.int .i64 r.num, .int .u8 r.kind, .int .i64 r.shift, .int .i64 r.ref, .int .i64 r.amount, .int .i64 r.left, .bool r.void, .slice ra r.ls.length rc] 40)
      have c1 := add_atB t (.slice la t.ls.length lc) w5 _ HR.out hal HTk.out.1 (HL.out.below hal) (by have := HTk.out.2; omega)
      have HX := Lib.hid (alloc_keep (heap_alloc_new w5 (.cells #[.int .i64 t.num, .int .u8 t.kind, .int .i64 t.shift, .int .i64 t.ref, .int .i64 t.amount, .int .i64 t.left, .bool t.void, .slice la t.ls.length lc] 37)) (.cells #[.int .i64 r.num, .int .u8 r.kind, .int .i64 r.shift, .int .i64 r.ref, .int .i64 r.amount, .int .i64 r.left, .bool r.void, .slice ra r.ls.length rc] 40))
      unfold aggT at c1
      replace HB := Lib.hid (chain2 HB.out hal)
      replace HM := Lib.hid (HM.out.below hal)
      replace HR := Lib.hid (HR.out.below hal)
      clear hal ha1 HL
      generalize (w5.alloc (.cells #[.int .i64 t.num, .int .u8 t.kind, .int .i64 t.shift, .int .i64 t.ref, .int .i64 t.amount, .int .i64 t.left, .bool t.void, .slice la t.ls.length lc] 37)).alloc (.cells #[.int .i64 r.num, .int .u8 r.kind, .int .i64 r.shift, .int .i64 r.ref, .int .i64 r.amount, .int .i64 r.left, .bool r.void, .slice ra r.ls.length rc] 40) = w6 at HB HR HM HX c1 ⊢
      have HC1 := Lib.hid c1; clear c1
      by_cases hc : addC next ps t = 0
      · have hst := HI.out.step hc (by have := HI.out.len; have := HNj.out; have := HN.out; omega)
        have hvo : t.kind = 2 → V t.ref = false ∧ B t.ref = 0 := HI.out.void hc
        have hre : t.kind = 3 → _ := HI.out.refund hc
        have HSt := Lib.hid hst; clear hst
        rw [hc, addN_ok hc, show nextR next ps t = next + 1 by unfold nextR; rw [if_pos hc]] at HC1
        have HKk := Lib.hid (right_facts (add_right hc))
        clear hc
        generalize afterR 50 next ps t = ps2 at HC1 HSt
        have HVo := Lib.hid hvo; clear hvo
        have HRe := Lib.hid hre; clear hre
        refine HC1.out.mono ?_
        clear HC1
        rintro e w7 ⟨rfl, hr, ht⟩
        have ht2 := ht.mono (S := TR w.heap.size g w6) (fun k hk => hk.2)
        replace HM := Lib.hid (HM.out.touch HR.out ht2)
        replace HB := Lib.hid (touch_below HB.out (Nat.le_refl _) HG.out HB.out.size ht2)
        replace HX := Lib.hid (ht.blk HX.out (fun h => Nat.lt_irrefl _ h.1))
        replace HR := Lib.hid hr
        clear hr ht ht2
        generalize w5.heap.size = bt at HX ⊢
        have x1 := cell_of_row w7 bt 1 _ _ (0, 0) HX.out
        have x3 := cell_of_row w7 bt 3 _ _ (0, 0) HX.out
        have x4 := cell_of_row w7 bt 4 _ _ (0, 0) HX.out
        simp only [List.getElem?_toArray, List.getElem?_cons_succ, List.getElem?_cons_zero] at x1 x3 x4
        rcases (show t.kind = 1 ∨ t.kind = 2 ∨ t.kind = 3 ∨ (¬ t.kind = 1 ∧ ¬ t.kind = 2 ∧ ¬ t.kind = 3) by omega) with hk | hk | hk | hk
        · have q1 : (t.kind == 1) = true := by simpa using hk
          have HSA := Lib.hid (show stepA next t A = fun k => if k = (next : Int) then some t.amount else A k by unfold stepA; rw [if_pos hk])
          have HSB := Lib.hid (show stepB t B = B ∧ stepV t V = V from ⟨by unfold stepB; rw [if_neg (by omega)], by unfold stepV; rw [if_neg (by omega)]⟩)
          clear hk
          go_wp2_with (at_mapUpdate; refine wpList_mapA rfl _ _ _ 28 rfl Try.underlying28 rfl HM.out.a (by have := HJ.out; omega) (next : Int) (i64_next next (by have := HNj.out; have := HJ.out; omega)) t.amount rfl rfl ?_; intro w8 hm8 hg8)
          obtain ⟨es, clock, hbm⟩ := HM.out.a.typ
          exact ⟨⟨j + 1, next + 1, ps2, stepA next t A, stepB t B, stepV t V, Hlt.out, by have := HNj.out; omega, by rw [e3], HR.out.map hbm (fun _ _ _ e => by cases e) hg8, HSt.out, ⟨by rw [HSA.out]; exact hm8, by rw [HSB.out.1]; exact (HM.out.b.grown hg8 (by have := HS.out; omega)).mono (Nat.le_succ _), by rw [HSB.out.2]; exact (HM.out.v.grown hg8 (by have := HS.out; omega)).mono (Nat.le_succ _)⟩, pw_below_grown HB.out _ HB.out.size hg8 (fun k hk => by cases hk; have := HS.out; omega)⟩, by rw [e3]; simp only [RowKit.intOf, Int.toNat_natCast]; exact Nat.sub_lt_sub_left Hlt.out (Nat.lt_succ_self j)⟩
        · have q1 : (t.kind == 1) = false := by rw [hk]; decide
          have q2 : (t.kind == 2) = true := by simpa using hk
          have HSA := Lib.hid (show stepA next t A = A ∧ stepB t B = B from ⟨by unfold stepA; rw [if_neg (by omega)], by unfold stepB; rw [if_neg (by omega)]⟩)
          have HSB := Lib.hid (show ∀ k, (if k = t.ref then Value.bool true else .bool (V k)) = .bool (stepV t V k) from fun k => by unfold stepV; rw [if_pos hk]; split <;> rfl)
          have hl1 := HM.out.v.lookB t.ref HTr.out
          have hl2 := HM.out.b.lookI t.ref HTr.out
          rw [(HVo.out hk).1] at hl1
          rw [(HVo.out hk).2] at hl2
          clear hk
          go_wp2_with (at_mapUpdate; refine wpList_mapQ rfl _ _ _ 29 rfl Try.underlying29 rfl HM.out.v (by have := HJ.out; omega) t.ref HTr.out (.bool true) rfl rfl ?_; intro w8 hm8 hg8)
          obtain ⟨es, clock, hbm⟩ := HM.out.v.typ
          exact ⟨⟨j + 1, next + 1, ps2, stepA next t A, stepB t B, stepV t V, Hlt.out, by have := HNj.out; omega, by rw [e3], HR.out.map hbm (fun _ _ _ e => by cases e) hg8, HSt.out, ⟨by rw [HSA.out.1]; exact (HM.out.a.grown hg8 (by have := HS.out; omega)).mono (Nat.le_succ _), by rw [HSA.out.2]; exact (HM.out.b.grown hg8 (by have := HS.out; omega)).mono (Nat.le_succ _), hm8.congr HSB.out⟩, pw_below_grown HB.out _ HB.out.size hg8 (fun k hk => by cases hk; have := HS.out; omega)⟩, by rw [e3]; simp only [RowKit.intOf, Int.toNat_natCast]; exact Nat.sub_lt_sub_left Hlt.out (Nat.lt_succ_self j)⟩
        · have q1 : (t.kind == 1) = false := by rw [hk]; decide
          have q2 : (t.kind == 2) = false := by rw [hk]; decide
          have q3 : (t.kind == 3) = true := by simpa using hk
          have HSA := Lib.hid (show stepA next t A = A ∧ stepV t V = V from ⟨by unfold stepA; rw [if_neg (by omega)], by unfold stepV; rw [if_neg (by omega)]⟩)
          obtain ⟨am, ha, hv, hle, hb0, ht0, ham⟩ := HRe.out hk
          have HSB := Lib.hid (show ∀ k, (if k = t.ref then Value.int .i64 (B t.ref + t.amount) else .int .i64 (B k)) = .int .i64 (stepB t B k) from fun k => by unfold stepB; rw [if_pos hk]; split <;> rfl)
          have hl1 := HM.out.v.lookB t.ref HTr.out
          have hl2 := HM.out.b.lookI t.ref HTr.out
          have hl3 := HM.out.a.look t.ref HTr.out
          rw [hv] at hl1
          rw [ha] at hl3
          simp only [Option.getD_some] at hl3
          clear hk ha hv
          generalize B t.ref = br at hl2 hle hb0 HSB
          have d1 : decide (am - br < t.amount) = false := decide_eq_false (by omega)
          have d2 : wrap64 (am - br) = am - br := by unfold wrap64; omega
          have d3 : wrap64 (br + t.amount) = br + t.amount := by unfold wrap64; omega
          clear hle hb0 ht0 ham
          go_wp2_with (at_mapUpdate; refine wpList_mapQ rfl _ _ _ 28 rfl Try.underlying28 rfl HM.out.b (by have := HJ.out; omega) t.ref HTr.out (.int .i64 (br + t.amount)) rfl (by first | rfl | (rw [d3]; rfl)) ?_; intro w8 hm8 hg8)
          obtain ⟨es, clock, hbm⟩ := HM.out.b.typ
          exact ⟨⟨j + 1, next + 1, ps2, stepA next t A, stepB t B, stepV t V, Hlt.out, by have := HNj.out; omega, by rw [e3], HR.out.map hbm (fun _ _ _ e => by cases e) hg8, HSt.out, ⟨by rw [HSA.out.1]; exact (HM.out.a.grown hg8 (by have := HS.out; omega)).mono (Nat.le_succ _), hm8.congr HSB.out, by rw [HSA.out.2]; exact (HM.out.v.grown hg8 (by have := HS.out; omega)).mono (Nat.le_succ _)⟩, pw_below_grown HB.out _ HB.out.size hg8 (fun k hk => by cases hk; have := HS.out; omega)⟩, by rw [e3]; simp only [RowKit.intOf, Int.toNat_natCast]; exact Nat.sub_lt_sub_left Hlt.out (Nat.lt_succ_self j)⟩
        · have q1 : (t.kind == 1) = false := by simpa using hk.1
          have q2 : (t.kind == 2) = false := by simpa using hk.2.1
          have q3 : (t.kind == 3) = false := by simpa using hk.2.2
          have HSA := Lib.hid (show stepA next t A = A ∧ stepB t B = B ∧ stepV t V = V from ⟨by unfold stepA; rw [if_neg hk.1], by unfold stepB; rw [if_neg hk.2.2], by unfold stepV; rw [if_neg hk.2.1]⟩)
          clear hk
          go_wp2_with fail
          have hs := HSt.out
          rw [HSA.out.1, HSA.out.2.1, HSA.out.2.2] at hs
          exact ⟨⟨j + 1, next + 1, ps2, A, B, V, Hlt.out, by have := HNj.out; omega, by rw [e3], HR.out, hs, HM.out.mono (Nat.le_succ _), HB.out⟩, by rw [e3]; simp only [RowKit.intOf, Int.toNat_natCast]; exact Nat.sub_lt_sub_left Hlt.out (Nat.lt_succ_self j)⟩
      · have hc2 : (addC next ps t == 0) = false := by simpa using hc
        rw [show nextR next ps t = next by unfold nextR; rw [if_neg hc], show afterR 50 next ps t = ps by unfold afterR; rw [if_neg hc]] at HC1
        clear hc
        generalize addN next ps t = nn at HC1
        generalize addC next ps t = cc at HC1 hc2
        refine HC1.out.mono ?_
        clear HC1
        rintro e w7 ⟨rfl, hr, ht⟩
        have ht2 := ht.mono (S := TR w.heap.size g w6) (fun k hk => hk.2)
        replace HM := Lib.hid (HM.out.touch HR.out ht2)
        replace HB := Lib.hid (touch_below HB.out (Nat.le_refl _) HG.out HB.out.size ht2)
        replace HR := Lib.hid hr
        clear hr ht ht2 HX
        go_wp2_with fail
        exact ⟨⟨j + 1, next, ps, A, B, V, Hlt.out, by have := HNj.out; omega, by rw [e3], HR.out, HI.out, HM.out.mono (Nat.le_succ _), HB.out⟩, by rw [e3]; simp only [RowKit.intOf, Int.toNat_natCast]; exact Nat.sub_lt_sub_left Hlt.out (Nat.lt_succ_self j)⟩
    · obtain rfl : j = N := Nat.le_antisymm hj (Nat.le_of_not_lt hlt)
      obtain ⟨c, f, hc, ⟨D, hown, hsz, hD⟩, hf⟩ := HM.out.a
      have HOw := Lib.hid hown; clear hown
      have HD := Lib.hid (And.intro hD hf); clear hD hf hc hsz
      have HQB := Lib.hid HM.out.b
      have HQV := Lib.hid HM.out.v
      have HQb0 := HQB.out.lt
      have HQv0 := HQV.out.lt
      clear HM
      go_wp2_with (at_range; refine wpList_range_own _ rfl _ 28 rfl 3 2 keyI.keyed Try.underlying28 RV bA c D rfl HOw.out ?_; intro w4 hrg hg0 hs0)
      have hb4 : Below wr.heap.size wr w4 := ⟨hg0.os, hg0.tape, hg0.output, hg0.size, fun i hi => hg0.block i hi (by simp)⟩
      replace HR := Lib.hid (HR.out.below hb4)
      replace HQB := Lib.hid (HQB.out.below hb4)
      replace HQV := Lib.hid (HQV.out.below hb4)
      have HRr := Lib.hid (show w.heap.size ≤ wr.heap.size ∧ bB < wr.heap.size ∧ bV < wr.heap.size from ⟨HB.out.size, HQb0, HQv0⟩)
      replace HB := Lib.hid (chain2 HB.out hb4)
      have HG4 := Lib.hid hrg
      clear hrg hg0 hs0 hb4 HQb0 HQv0
      generalize wr.heap.size = rr at HG4 HRr ⊢
      go_wp2_with fail
      go_frame
      go_loopw [] (fun wi => ∃ (left : Lit → Bool) (cnt : Nat), wi.ranges Try.prog 3 RV bA rr c D left cnt ∧ (∀ kl, left kl = true → Maps.has D kl = true) ∧ RegAt wi w.heap.size g 50 next ps ∧ MapQ wi bB j (.int .i64 0) (fun k => .int .i64 (B k)) ∧ MapQ wi bV j (.bool false) (fun k => .bool (V k)) ∧ Below w.heap.size w wi) (fun wi => wi.rangeLeft bA rr)
      case atStart => exact ⟨_, _, HG4.out, fun _ h => h, HR.out, HQB.out, HQV.out, HB.out⟩
      case round =>
        clear HR HB HQB HQV HG4
        obtain ⟨left, cnt, hrg, hlh, hr, hqb, hqv, hb⟩ := hrel
        have HRg := Lib.hid hrg; clear hrg
        have HLh := Lib.hid hlh; clear hlh
        have HR := Lib.hid hr; clear hr
        have HQB := Lib.hid hqb; clear hqb
        have HQV := Lib.hid hqv; clear hqv
        have HB := Lib.hid hb; clear hb
        go_wp2_with (at_next; refine wpList_next_ranges _ rfl _ rfl 3 keyI.keyed RV ekI (fun v : Value => v) (fun key kl h => by obtain ⟨x, h, _⟩ := Go.Maps.keyOf_int_inv Try.underlying3 h; exact ⟨x, h⟩) (fun v y _ => ⟨v, rfl⟩) bA rr c D _ _ rfl HRg.out ?_ ?_)
        · intro hc0 hl0
          go_wp2
          go_ret
          exact ⟨by rfl, HB.out⟩
        · intro n v kl y1 y2 w' cnt' hkey hleft hRv hat hrg' hcl hg hsz hen
          obtain ⟨n', hn', hkl, hI⟩ := Go.Maps.keyOf_int_inv Try.underlying3 hkey
          have hnn : n = n' := by unfold ekI at hn'; injection hn'
          subst hnn
          have hhas := HLh.out kl hleft
          obtain ⟨hd1, hd2⟩ := HD.out.1 n kl hI hkey
          have hfA := HD.out.2 n hI
          rw [hhas] at hd1
          cases hA : A n with
          | none => rw [hA] at hfA; rw [hfA] at hd1; cases hd1
          | some x =>
            rw [hA] at hfA
            have hv : v = .int .i64 x := by
              have h1 := hd2 _ hfA (.held v)
              rw [hat] at h1
              simp only [RV, Option.some.injEq, Prod.mk.injEq] at hRv
              rw [← hRv.1] at h1
              injection h1
            subst hv
            obtain ⟨i, hix, hvd, hl1, hl2, hl0, hlm⟩ := HI.out.key n x hA
            obtain ⟨es, clock, since, seen, c0, _, _, _, _, hrr, _⟩ := HRg.out
            have HRg2 := Lib.hid hrg'
            have HLh2 := Lib.hid (show ∀ z, (left z && !z.sameKey kl) = true → Maps.has D z = true from fun z hz => HLh.out z (by rw [Bool.and_eq_true] at hz; exact hz.1))
            have HCl := Lib.hid (show w'.rangeLeft bA rr < wr.rangeLeft bA rr by rw [hrg'.left_eq, HRg.out.left_eq]; exact hcl)
            replace HR := Lib.hid (HR.out.map hrr (fun _ _ _ e => by cases e) hg)
            replace HQB := Lib.hid (HQB.out.grown hg (by have := HRr.out; omega))
            replace HQV := Lib.hid (HQV.out.grown hg (by have := HRr.out; omega))
            replace HB := Lib.hid (pw_below_grown HB.out _ HB.out.size hg (fun k hk => by cases hk; exact HRr.out.1))
            have HIn := Lib.hid hI
            clear hrr hkey hleft hRv hat hrg' hcl hg hsz hn' hkl hI hhas hd1 hd2 hfA hA HRg HLh
            unfold ekI at hen
            have hc1 := get_at n w' HR.out
            rw [hix] at hc1
            simp only [Option.isSome_some] at hc1
            clear hix
            generalize ps.getD i z0 = s at hc1 hvd hl1 hl2 hl0 hlm
            unfold aggT at hc1
            have HC1 := Lib.hid hc1; clear hc1
            have HS2 := Lib.hid (And.intro hvd (And.intro hl1 (And.intro hl2 (And.intro hl0 hlm)))); clear hvd hl1 hl2 hl0 hlm
            unfold ekI
            go_wp2_with fail
            refine HC1.out.mono ?_
            clear HC1 hen
            rintro e w8 ⟨v', rfl, ho, hd⟩
            obtain ⟨la, lc, hv⟩ := ho.form
            subst hv
            have hba := below_alloc (Below.refl w8.heap.size w8) (.cells #[.int .i64 s.num, .int .u8 s.kind, .int .i64 s.shift, .int .i64 s.ref, .int .i64 s.amount, .int .i64 s.left, .bool s.void, .slice la s.ls.length lc] 37)
            have hd2 := chain2 hd hba
            replace HR := Lib.hid (HR.out.below hd2)
            replace HQB := Lib.hid (HQB.out.below hd2)
            replace HQV := Lib.hid (HQV.out.below hd2)
            replace HB := Lib.hid (chain2 HB.out hd2)
            have HRg := Lib.hid (HRg2.out.kept (row := none) ⟨hd2.os, hd2.tape, hd2.output, hd2.size, fun i hi _ => hd2.block i hi⟩ (by simp) (by simp))
            replace HCl := Lib.hid (show (w8.alloc (.cells #[.int .i64 s.num, .int .u8 s.kind, .int .i64 s.shift, .int .i64 s.ref, .int .i64 s.amount, .int .i64 s.left, .bool s.void, .slice la s.ls.length lc] 37)).rangeLeft bA rr < wr.rangeLeft bA rr by rw [HRg.out.left_eq, ← HRg2.out.left_eq]; exact HCl.out)
            clear hd hd2 hba ho HRg2
            have hq1 := HQV.out.lookB n HIn.out
            have hq2 := HQB.out.lookI n HIn.out
            obtain ⟨hvd, hl1, hl2, hl0, hlm⟩ := HS2.out
            cases hV : V n with
            | true =>
              rw [hV] at hq1 hvd
              have hl := hl1 hV
              clear hl1 hl2 hl0 hlm hV HS2 hq2
              obtain ⟨s0, s1, s2, s3, s4, s5, s6, s7⟩ := s
              simp only at hvd hl
              subst hvd hl
              go_wp2_with fail
              exact ⟨⟨_, _, HRg.out, HLh2.out, HR.out, HQB.out, HQV.out, HB.out⟩, HCl.out⟩
            | false =>
              rw [hV] at hq1 hvd
              have hl := hl2 hV
              have e1 : wrap64 (x - B n) = x - B n := by rw [← hl]; unfold wrap64; omega
              clear hl1 hl2 hl0 hlm hV HS2
              obtain ⟨s0, s1, s2, s3, s4, s5, s6, s7⟩ := s
              simp only at hvd hl
              subst hvd hl
              go_wp2_with fail
              exact ⟨⟨_, _, HRg.out, HLh2.out, HR.out, HQB.out, HQV.out, HB.out⟩, HCl.out⟩
theorem saleLeft_law (a0 : Option Addr) (len0 cap0 : Nat) (W : World) (w0 : RowIn W [.int .u8, .int .i64, .int .i64, .int .i64, .int .i64] a0 len0) (y0 : len0 ≤ cap0 ∧ cap0 ≤ maxLen) :
    Calls Try.prog 3 #[.slice a0 len0 cap0] W fun e w' => e = .returned (.bool true) ∧ Below W.heap.size W w' := by
  obtain ⟨xs, rfl, h1⟩ := tas_of w0
  exact saleLeft_walk a0 xs cap0 y0 W h1
end Go.Proofs.Ytdeeakjkhcdkaaa
