/- WhereAgrees: no two logical pages are at one place, and all blocks' live ones together are all that are somewhere: the walk. No conditions beyond the form's own reach. -/
import Derived.Test.YthapekmdnokniaaXWhereF
import Derived.Test.YthapekmdnokniaaXIntsIn
import Derived.Test.YthapekmdnokniaaXOpen
namespace Go.Proofs.Ythapekmdnokniaa
open Go.RowKit Go.Lib Go.Maps Go.Proofs.YthapekmdnokniaaW.PrintWords Go.Proofs.YthapekmdnokniaaW.PrintLast Go.Proofs.YthapekmdnokniaaW.PrintMore
set_option linter.unusedVariables false
set_option linter.unusedSimpArgs false
--@tables
theorem inA : WIn 5 6 20 := ⟨⟨by decide, by decide⟩, ⟨by decide, by decide⟩, ⟨by decide, by decide⟩⟩
theorem wrap_succW (p : Nat) (h : p < 1000) : wrap64 ((p : Int) + 1) = ((p + 1 : Nat) : Int) := by unfold wrap64; omega
theorem zeroBo (w : World) : (zeroValue 4).run Try.prog w = .ok (.bool false) w := by kernel_rfl
def sumL (s : WS) (j : Nat) : Nat := ((List.range j).map fun b => (List.range 20).countP (inB s.at_ b)).sum
theorem sumL_le (s : WS) (j : Nat) : sumL s j ≤ 20 * j := by
  unfold sumL
  induction j with
  | zero => exact Nat.le_refl _
  | succ j ih =>
    rw [List.range_succ (n := j), List.map_append, List.sum_append]
    have := count_le 20 (inB s.at_ j)
    simp only [List.map_cons, List.map_nil, List.sum_cons, List.sum_nil]
    omega
abbrev SeenAt (w : World) (b c : Nat) (f : Int × Int → Option Value) : Prop := MapV Try.prog 30 ekP okP w b c f
def seenF (s : WS) (j : Nat) (q : Int × Int) : Option Value := match s.ow q with | some k => if k < (j : Int) then some (.bool true) else none | none => none
theorem seenF_zero {B P L : Nat} {s : WS} (h : WOk B P L s) (q : Int × Int) : seenF s 0 q = none := by
  unfold seenF
  cases e : s.ow q with
  | none => rfl
  | some k =>
    have := (h.rng k q ((h.inv k q).mpr e)).1
    exact if_neg (by omega)
theorem seenF_none {B P L : Nat} {s : WS} (h : WOk B P L s) (i : Nat) (hn : s.at_ (i : Int) = none) (q : Int × Int) : seenF s (i + 1) q = seenF s i q := by
  unfold seenF
  cases e : s.ow q with
  | none => rfl
  | some k =>
    have hk : k ≠ (i : Int) := fun e2 => by
      have := (h.inv k q).mpr e
      rw [e2, hn] at this; cases this
    dsimp only
    by_cases e2 : k < (i : Int)
    · rw [if_pos e2, if_pos (by omega)]
    · rw [if_neg e2, if_neg (by omega)]
theorem seenF_some {B P L : Nat} {s : WS} (h : WOk B P L s) (i : Nat) {p : Int × Int} (hn : s.at_ (i : Int) = some p) (q : Int × Int) : seenF s (i + 1) q = if q = p then some (.bool true) else seenF s i q := by
  have hp := (h.inv _ _).mp hn
  unfold seenF
  by_cases e0 : q = p
  · subst e0
    rw [if_pos rfl, hp]
    exact if_pos (by omega)
  · rw [if_neg e0]
    cases e : s.ow q with
    | none => rfl
    | some k =>
      have hk : k ≠ (i : Int) := fun e2 => by
        have := (h.inv k q).mpr e
        rw [e2, hn] at this
        injection this with this
        exact e0 this.symm
      dsimp only
      by_cases e2 : k < (i : Int)
      · rw [if_pos e2, if_pos (by omega)]
      · rw [if_neg e2, if_neg (by omega)]
set_option maxHeartbeats 16000000 in
theorem whereAgrees_walk (a : Option Addr) (len cap0 : Nat) (z : List Int) (hlc : len ≤ cap0) (hcm : cap0 ≤ maxLen) (w : World) (hz : IntsIn .u16 w a len z) :
    Calls Try.prog 3 #[.slice a len cap0] w fun e w' => e = .returned (.bool true) ∧ Below w.heap.size w w' := by
  have HZ := Lib.hid hz; clear hz
  obtain ⟨N, hN, hN1, hN2, hN3, hN4⟩ : ∃ N : Nat, (if 100 < (len : Int) then 100 else (len : Int)) = (N : Int) ∧ N ≤ len ∧ N ≤ 100 ∧ N ≤ cap0 ∧ min 100 len = N := ⟨min 100 len, by split <;> omega, by omega, by omega, by omega, rfl⟩
  have c1 : (0 ≤ (N : Int)) = True := eq_true (by omega)
  have c2 : ((N : Int) ≤ (cap0 : Int)) = True := eq_true (by omega)
  have c3 : (N ≤ cap0) = True := eq_true hN3
  have c4 : decide (N ≤ cap0) = true := decide_eq_true hN3
  have hNm : min (len : Int) 100 = (N : Int) := by rw [← hN]; split <;> omega
  have HN := Lib.hid (And.intro hN1 hN2); clear hN1 hN2 hN3 hN4
  have HC := Lib.hid (And.intro hlc hcm); clear hlc hcm
  go_enter Try.func3, Try.ntmps3
  go_wp2_with fail
  refine (new_ok 5 6 20 inA w).mono ?_
  rintro e w1 ⟨g, bm, bo, bl, cap, rfl, h, hb⟩
  have H := Lib.hid h; clear h
  have HB := Lib.hid hb; clear hb
  go_wp2_with fail
  refine (wakes_ok _).mono ?_
  rintro e w2 ⟨rfl, hd⟩
  replace H := Lib.hid (H.out.below hd)
  replace HB := Lib.hid (chain2 HB.out hd)
  clear hd
  go_wp2_with fail
  have hNm2 := hNm
  go_loopw [36] (fun i wr => ∃ j s, j ≤ N ∧ i = .int .i64 (j : Int) ∧ WOk 5 6 20 s ∧ WAt w.heap.size wr g 5 6 20 s bm bo bl cap ∧ Below w.heap.size w wr) (fun i _ => N - (RowKit.intOf i).toNat)
  case atStart => exact ⟨0, _, Nat.zero_le _, rfl, emptyW_ok 5 6 20, H.out, HB.out⟩
  case round =>
    clear H HB hN hNm hNm2 c1 c2 c3 c4
    obtain ⟨j, s, hj, rfl, h1, h2, h3⟩ := hrel
    have HS := Lib.hid h1; clear h1
    have H := Lib.hid h2; clear h2
    have HB := Lib.hid h3; clear h3
    by_cases hlt : j < N
    · obtain ⟨xa, rfl, hc, hwf⟩ := HZ.out.below HB.out j (Nat.lt_of_lt_of_le hlt HN.out.1)
      obtain ⟨x, hx, hx2⟩ := wf_u16 hwf
      rw [hx] at hc
      clear hx hwf
      have e3 : wrap64 ((j : Int) + 1) = ((j + 1 : Nat) : Int) := wrap_succW j (Nat.lt_of_lt_of_le hlt (Nat.le_trans HN.out.2 (by decide)))
      obtain ⟨k, hk, hk2⟩ : ∃ k : Nat, (x : Int) % 20 = (k : Int) ∧ k < 20 := ⟨x % 20, by omega, by omega⟩
      obtain ⟨pb, hpb, hpb2⟩ : ∃ k : Nat, (x : Int) / 20 % 5 = (k : Int) ∧ k < 5 := ⟨x / 20 % 5, by omega, by omega⟩
      obtain ⟨pp, hpp, hpp2⟩ : ∃ k : Nat, (x : Int) / 100 % 6 = (k : Int) ∧ k < 6 := ⟨x / 100 % 6, by omega, by omega⟩
      have HIk := Lib.hid (i64_of (k : Int) (by omega) (by omega))
      have HIb := Lib.hid (i64_of (pb : Int) (by omega) (by omega))
      have HIp := Lib.hid (i64_of (pp : Int) (by omega) (by omega))
      have HK := Lib.hid (And.intro hk2 (And.intro hpb2 hpp2)); clear hk2 hpb2 hpp2
      have HX := Lib.hid (heap_alloc_new wr (.cells #[.int .i64 (pb : Int), .int .i64 (pp : Int)] 30))
      have ha := below_alloc (Below.refl wr.heap.size wr) (.cells #[.int .i64 (pb : Int), .int .i64 (pp : Int)] 30)
      have HXl := Lib.hid (show wr.heap.size ≠ bl from fun e => by obtain ⟨cur, q1, _⟩ := H.out.lv; exact Nat.ne_of_gt (blk_lt q1) e)
      replace H := Lib.hid (H.out.below ha)
      replace HB := Lib.hid (chain2 HB.out ha); clear ha
      by_cases hq : x / 600 % 4 = 0
      · have q1 : ((x : Int) / 600 % 4 == 0) = true := by simp; omega
        have q2 : ((x : Int) / 600 % 4 = 0) = True := eq_true (by omega)
        clear hq
        go_wp2_with fail
        generalize wr.heap.size = bx at HX ⊢
        generalize wr.alloc (.cells #[.int .i64 (pb : Int), .int .i64 (pp : Int)] 30) = w3 at HX H HB ⊢
        have hp := drop_any (k : Int) H.out HS.out inA
        have hce : chkE 20 (k : Int) = 0 := if_neg (by have := HK.out.1; omega)
        rw [hce, if_pos rfl] at hp
        refine hp.mono ?_
        rintro e w4 ⟨rfl, h4, ht⟩
        clear hp hce hc
        replace HB := Lib.hid (H.out.touch ht HB.out (Nat.le_refl _))
        replace H := Lib.hid h4; clear h4 ht
        go_wp2
        go_roundw
        case rel => exact ⟨j + 1, _, hlt, by rw [e3], dropS_ok HS.out (k : Int), H.out, HB.out⟩
        case measure => rw [e3]; simp only [RowKit.intOf, Int.toNat_natCast]; exact Nat.sub_lt_sub_left hlt (Nat.lt_succ_self j)
      · have q1 : ((x : Int) / 600 % 4 == 0) = false := by simp; omega
        have q2 : ((x : Int) / 600 % 4 = 0) = False := eq_false (by omega)
        clear hq
        obtain ⟨x0, x1⟩ := w2_cells HX.out
        go_wp2_with fail
        generalize wr.heap.size = bx at HX HXl x0 x1 ⊢
        generalize wr.alloc (.cells #[.int .i64 (pb : Int), .int .i64 (pp : Int)] 30) = w3 at HX H HB x0 x1 ⊢
        have hXt : ¬ wT bm bo bl bx := fun e => e.elim (fun e => map_ne H.out.mat HX.out e) (fun e => e.elim (fun e => map_ne H.out.mow HX.out e) (fun e => HXl.out e))
        refine (put_any (k : Int) (pb : Int) (pp : Int) HIk.out HIb.out HIp.out H.out HS.out inA).mono ?_
        rintro e w4 ⟨rfl, h4, ht⟩
        clear hc x0 x1
        replace HX := Lib.hid (ht.blk HX.out hXt)
        replace HB := Lib.hid (H.out.touch ht HB.out (Nat.le_refl _))
        replace H := Lib.hid h4; clear h4 ht hXt
        have HS2 := Lib.hid (putS_ok HS.out (k : Int) ((pb : Int), (pp : Int)))
        have hE : putE 5 6 20 s (k : Int) ((pb : Int), (pp : Int)) = 0 ∨ (putE 5 6 20 s (k : Int) ((pb : Int), (pp : Int)) = 16 ∧ putS 5 6 20 s (k : Int) ((pb : Int), (pp : Int)) = s ∧ ∃ i, s.ow ((pb : Int), (pp : Int)) = some i ∧ i ≠ (k : Int)) := by
          have hk := HK.out
          have h0 : putE 5 6 20 s (k : Int) ((pb : Int), (pp : Int)) = match s.ow ((pb : Int), (pp : Int)) with | none => 0 | some j => if j = (k : Int) then 0 else 16 := by
            unfold putE
            rw [if_neg (by omega), if_neg (fun e => e (by simp only; omega))]
            try (cases s.ow ((pb : Int), (pp : Int)) <;> rfl)
          cases ho : s.ow ((pb : Int), (pp : Int)) with
          | none => rw [ho] at h0; exact .inl h0
          | some i =>
            rw [ho] at h0
            simp only at h0
            by_cases e : i = (k : Int)
            · rw [if_pos e] at h0; exact .inl h0
            · rw [if_neg e] at h0
              exact .inr ⟨h0, by unfold putS; rw [if_neg (by rw [h0]; decide)], i, rfl, e⟩
        rcases hE with hE | ⟨hE, hP, i, ho, hi⟩
        · rw [hE]
          clear hE
          go_wp2
          go_roundw
          case rel => exact ⟨j + 1, _, hlt, by rw [e3], HS2.out, H.out, HB.out⟩
          case measure => rw [e3]; simp only [RowKit.intOf, Int.toNat_natCast]; exact Nat.sub_lt_sub_left hlt (Nat.lt_succ_self j)
        · rw [hE]
          rw [hP] at H HS2
          have hOw := owner_ok (pb : Int) (pp : Int) HIb.out HIp.out H.out
          rw [show ownE s ((pb : Int), (pp : Int)) = i by unfold ownE; rw [ho]] at hOw
          have HOw := Lib.hid hOw
          have i1 : (i == (k : Int)) = false := by simp [hi]
          have i2 : (i = (k : Int)) = False := eq_false hi
          clear hE hP ho hOw hi
          obtain ⟨x0, x1⟩ := w2_cells HX.out
          go_wp2_with fail
          refine HOw.out.mono ?_
          rintro e w5 ⟨rfl, hd⟩
          replace H := Lib.hid (H.out.below hd)
          replace HB := Lib.hid (chain2 HB.out hd); clear hd HOw x0 x1
          go_wp2
          go_roundw
          case rel => exact ⟨j + 1, _, hlt, by rw [e3], HS2.out, H.out, HB.out⟩
          case measure => rw [e3]; simp only [RowKit.intOf, Int.toNat_natCast]; exact Nat.sub_lt_sub_left hlt (Nat.lt_succ_self j)
    · obtain rfl : j = N := Nat.le_antisymm hj (Nat.le_of_not_lt hlt)
      clear HZ HC HN
      have hmm := @run_makeMap Try.prog
      have HM := Lib.hid (show SeenAt (wr.alloc (.map #[] 0)) wr.heap.size 0 (fun _ => none) from MapV.made wr)
      have ha := below_alloc (Below.refl wr.heap.size wr) (.map #[] 0)
      have HBs := Lib.hid HB.out.size
      have HMs := Lib.hid (And.intro (Nat.ne_of_lt H.out.mat.lt) (Nat.ne_of_lt H.out.mow.lt))
      replace H := Lib.hid (H.out.below ha)
      replace HB := Lib.hid (chain2 HB.out ha); clear ha
      go_wp2_with fail
      clear hmm
      generalize wr.alloc (.map #[] 0) = w3 at HM H HB ⊢
      generalize wr.heap.size = bs at HM HBs HMs ⊢
      go_loopw [83] (fun i wr => ∃ j : Nat, j ≤ 20 ∧ i = .int .i64 (j : Int) ∧ SeenAt wr bs ((List.range j).countP (isAt s.at_)) (seenF s j) ∧ WAt w.heap.size wr g 5 6 20 s bm bo bl cap ∧ Below w.heap.size w wr) (fun i _ => 20 - (RowKit.intOf i).toNat)
      case atStart => exact ⟨0, Nat.zero_le _, rfl, HM.out.congr (fun q _ => (seenF_zero HS.out q).symm), H.out, HB.out⟩
      case round =>
        clear HM H HB
        obtain ⟨i, hi, rfl, h1, h2, h3⟩ := hrel
        have HM := Lib.hid h1; clear h1
        have H := Lib.hid h2; clear h2
        have HB := Lib.hid h3; clear h3
        by_cases hlt2 : i < 20
        · have e3 : wrap64 ((i : Int) + 1) = ((i + 1 : Nat) : Int) := wrap_succW i (Nat.lt_trans hlt2 (by decide))
          have hat := at_ok (i : Int) (i64_of (i : Int) (by omega) (by omega)) H.out
          have HCt := Lib.hid (show (List.range (i + 1)).countP (isAt s.at_) = (List.range i).countP (isAt s.at_) + (if isAt s.at_ i then 1 else 0) by rw [List.range_succ, List.countP_append, List.countP_singleton])
          cases hs : s.at_ (i : Int) with
          | none =>
            rw [show atV s (i : Int) = (0, 0) by unfold atV; rw [hs]; rfl, hs] at hat
            have HAt := Lib.hid hat; clear hat
            have HE := Lib.hid (show isAt s.at_ i = false by unfold isAt; rw [hs]; rfl)
            have HSn := Lib.hid (seenF_none HS.out i hs); clear hs
            go_wp2_with fail
            refine HAt.out.mono ?_
            rintro e w5 ⟨rfl, hd⟩
            replace HM := Lib.hid (show SeenAt w5 _ _ _ from MapV.below HM.out hd)
            replace H := Lib.hid (H.out.below hd)
            replace HB := Lib.hid (chain2 HB.out hd); clear hd HAt
            have ha := below_alloc (Below.refl w5.heap.size w5) (.cells #[.int .i64 0, .int .i64 0] 30)
            replace HM := Lib.hid (show SeenAt _ _ _ _ from MapV.below HM.out ha)
            replace H := Lib.hid (H.out.below ha)
            replace HB := Lib.hid (chain2 HB.out ha); clear ha
            go_wp2
            go_roundw
            case rel => exact ⟨i + 1, hlt2, rfl, by rw [HCt.out, HE.out]; exact HM.out.congr (fun q _ => (HSn.out q).symm), H.out, HB.out⟩
            case measure => rw [show ((i : Int) + 1) = ((i + 1 : Nat) : Int) from rfl]; simp only [RowKit.intOf, Int.toNat_natCast]; exact Nat.sub_lt_sub_left hlt2 (Nat.lt_succ_self i)
          | some p =>
            obtain ⟨pa, pb⟩ := p
            rw [show atV s (i : Int) = (pa, pb) by unfold atV; rw [hs]; rfl, hs] at hat
            have HAt := Lib.hid hat; clear hat
            have HE := Lib.hid (show isAt s.at_ i = true by unfold isAt; rw [hs]; rfl)
            have HSn := Lib.hid (seenF_some HS.out i hs)
            obtain ⟨_, _, r1, r2, r3, r4⟩ := HS.out.rng _ _ hs
            simp only at r1 r2 r3 r4
            have HOk := Lib.hid (show okP (pa, pb) from ⟨i64_of pa (by omega) (by omega), i64_of pb (by omega) (by omega)⟩)
            have how := (HS.out.inv _ _).mp hs
            have HOe := Lib.hid (show ownE s (pa, pb) = (i : Int) by unfold ownE; rw [how])
            have HNo := Lib.hid (show seenF s i (pa, pb) = none by unfold seenF; rw [how]; exact if_neg (by omega))
            clear hs how r1 r2 r3 r4
            go_wp2_with fail
            refine HAt.out.mono ?_
            rintro e w5 ⟨rfl, hd⟩
            replace HM := Lib.hid (show SeenAt w5 _ _ _ from MapV.below HM.out hd)
            replace H := Lib.hid (H.out.below hd)
            replace HB := Lib.hid (chain2 HB.out hd); clear hd HAt
            have HX := Lib.hid (heap_alloc_new w5 (.cells #[.int .i64 pa, .int .i64 pb] 30))
            have ha := below_alloc (Below.refl w5.heap.size w5) (.cells #[.int .i64 pa, .int .i64 pb] 30)
            replace HM := Lib.hid (show SeenAt _ _ _ _ from MapV.below HM.out ha)
            replace H := Lib.hid (H.out.below ha)
            replace HB := Lib.hid (chain2 HB.out ha); clear ha
            have hl0 := MapV.look keyP HM.out Try.underlying34 (zeroBo _) (pa, pb) HOk.out
            have hl : (Instr.lookup 34 (.map (some bs)) (.agg #[.int .i64 pa, .int .i64 pb]) false).run Try.prog (w5.alloc (.cells #[.int .i64 pa, .int .i64 pb] 30)) = .ok (.bool false) (w5.alloc (.cells #[.int .i64 pa, .int .i64 pb] 30)) := by rw [HNo.out] at hl0; exact hl0
            clear hl0
            obtain ⟨x0, x1⟩ := w2_cells HX.out
            go_wp2_with fail
            clear hl
            generalize w5.alloc (.cells #[.int .i64 pa, .int .i64 pb] 30) = w6 at HX HM H HB x0 x1 ⊢
            generalize w5.heap.size = bx at HX x0 x1 ⊢
            have hOw := owner_ok pa pb HOk.out.1 HOk.out.2 H.out
            rw [HOe.out] at hOw
            refine hOw.mono ?_
            rintro e w7 ⟨rfl, hd⟩
            clear x0 x1 hOw
            replace HM := Lib.hid (show SeenAt w7 _ _ _ from MapV.below HM.out hd)
            replace H := Lib.hid (H.out.below hd)
            replace HX := Lib.hid (blk_below HX.out hd)
            replace HB := Lib.hid (chain2 HB.out hd); clear hd
            obtain ⟨x0, x1⟩ := w2_cells HX.out
            have HCm := Lib.hid (show (List.range i).countP (isAt s.at_) < maxLen by have := count_le i (isAt s.at_); unfold maxLen; omega)
            go_wp2_with (at_mapUpdate; refine wpList_mapV_store rfl _ _ _ 34 rfl keyP Try.underlying34 rfl HM.out HCm.out (pa, pb) HOk.out (.bool true) rfl rfl ?_; intro w8 hm8 hg8)
            clear x0 x1
            have hgs : g ≠ bs := map_ne HM.out H.out.box
            have hbs : bl ≠ bs := by obtain ⟨cur, q1, _⟩ := H.out.lv; exact map_ne HM.out q1
            go_roundw
            case rel =>
              refine ⟨i + 1, hlt2, rfl, ?_, ?_, pw_below_grown HB.out _ HB.out.size hg8 (fun k hk => by injection hk with hk; subst hk; exact HBs.out)⟩
              · rw [HCt.out, HE.out]
                have q := hm8
                simp only [HNo.out, Option.isSome_none, Bool.false_eq_true, if_false] at q
                exact q.congr (fun j _ => (HSn.out j).symm)
              · exact ⟨H.out.b1, H.out.ne, blk_grown hg8 H.out.box hgs, H.out.mat.kept hg8 (by intro e; injection e with e; exact HMs.out.1 e), H.out.mow.kept hg8 (by intro e; injection e with e; exact HMs.out.2 e), H.out.lv.grown hg8 hbs⟩
            case measure => rw [show ((i : Int) + 1) = ((i + 1 : Nat) : Int) from rfl]; simp only [RowKit.intOf, Int.toNat_natCast]; exact Nat.sub_lt_sub_left hlt2 (Nat.lt_succ_self i)
        · obtain rfl : i = 20 := Nat.le_antisymm hi (Nat.le_of_not_lt hlt2)
          rw [show ((20 : Nat) : Int) = (20 : Int) from rfl]
          go_wp2_with fail
          generalize hwx : wr = w9 at HM H HB ⊢
          clear hwx
          go_loopw [11, 106] (fun sm i wr => ∃ j : Nat, j ≤ 5 ∧ i = .int .i64 (j : Int) ∧ sm = .int .i64 (sumL s j : Int) ∧ Below w9.heap.size w9 wr) (fun _ i _ => 5 - (RowKit.intOf i).toNat)
          case atStart => exact ⟨0, Nat.zero_le _, rfl, rfl, Below.refl _ _⟩
          case round =>
            obtain ⟨i, hi, rfl, rfl, h1⟩ := hrel
            have HB2 := Lib.hid h1; clear h1
            by_cases hlt3 : i < 5
            · have hlv := live_ok (i : Int) (H.out.below HB2.out) HS.out.len (by decide)
              have hv : liveV s 5 (i : Int) = (((List.range 20).countP (inB s.at_ i) : Nat) : Int) := by
                unfold liveV
                rw [if_neg (by omega), show ((i : Int)).toNat = i from rfl, List.getD_eq_getElem?_getD, HS.out.lv i hlt3]
                rfl
              rw [hv] at hlv
              have HLv := Lib.hid hlv; clear hlv hv
              have hs1 : sumL s (i + 1) = sumL s i + (List.range 20).countP (inB s.at_ i) := by
                unfold sumL
                rw [List.range_succ (n := i), List.map_append, List.sum_append]
                simp
              have hb0 := sumL_le s i
              have hb1 := count_le 20 (inB s.at_ i)
              have hw : wrap64 ((sumL s i : Int) + (((List.range 20).countP (inB s.at_ i) : Nat) : Int)) = (sumL s (i + 1) : Int) := by unfold wrap64; omega
              clear hs1 hb0 hb1
              generalize (((List.range 20).countP (inB s.at_ i) : Nat) : Int) = v at hw HLv ⊢
              generalize (sumL s i : Int) = S0 at hw ⊢
              go_wp2_with fail
              refine HLv.out.mono ?_
              rintro e w10 ⟨rfl, rfl⟩
              clear HLv
              go_wp2
              go_roundw
              case rel => exact ⟨i + 1, hlt3, rfl, by first | rw [hw] | rfl, HB2.out⟩
              case measure => rw [show ((i : Int) + 1) = ((i + 1 : Nat) : Int) from rfl]; simp only [RowKit.intOf, Int.toNat_natCast]; exact Nat.sub_lt_sub_left hlt3 (Nat.lt_succ_self i)
            · obtain rfl : i = 5 := Nat.le_antisymm hi (Nat.le_of_not_lt hlt3)
              rw [show sumL s 5 = s.ca from sum_blocks HS.out]
              rw [← HS.out.ca] at HM
              have hl := (MapV.below HM.out HB2.out).len Try.underlying34 3
              have hT := total_ok (H.out.below HB2.out)
              have HT := Lib.hid hT; clear hT
              go_wp2_with fail
              refine HT.out.mono ?_
              rintro e w10 ⟨rfl, rfl⟩
              clear HT
              go_wp2
              go_ret
              exact ⟨rfl, chain2 HB.out HB2.out⟩
theorem whereAgrees_law (a0 : Option Addr) (len0 cap0 : Nat) (z0 : List Int) (W : World) (w0 : (a0 = none ∧ len0 = 0 ∧ cap0 = 0 ∧ z0 = []) ∨ ∃ x, a0 = some x ∧ len0 ≤ cap0 ∧ cap0 ≤ maxLen ∧ z0.length = cap0 ∧ (∀ i, i < z0.length → W.cell? (x.add i) = some (.int .u16 (z0.getD i 0))) ∧ ∀ n ∈ z0, (Lit.int .u16 n).wf = true) (y0 : len0 * 2 ≤ 140737488351232) :
    Calls Try.prog 3 #[.slice a0 len0 cap0] W fun e w' => e = .returned (.bool true) ∧ Below W.heap.size W w' := by
  obtain ⟨h, h1, h2⟩ := ints_in w0
  exact whereAgrees_walk a0 len0 cap0 z0 h1 h2 W h
end Go.Proofs.Ythapekmdnokniaa
