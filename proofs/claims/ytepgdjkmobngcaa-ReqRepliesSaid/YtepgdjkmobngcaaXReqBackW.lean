/- req: ReqBack: what was written is told again, and written again as it was. No conditions beyond the form's own reach. -/
import Derived.Test.YtepgdjkmobngcaaXReqWk
import Derived.Deep.CutRange
namespace Go.Proofs.Ytepgdjkmobngcaa
open Go.RowKit Go.Lib Go.Proofs.Ytepgdjkmobngcaa.P Go.Proofs.Ytepgdjkmobngcaa.BeS Go.Proofs.YtepgdjkmobngcaaW.PrintWords Go.Proofs.YtepgdjkmobngcaaW.PrintLast Go.Proofs.YtepgdjkmobngcaaW.PrintMore
set_option linter.unusedVariables false
set_option linter.unusedSimpArgs false
--@tables
theorem lns_of {w : World} {a : Option Addr} {len : Nat} (h : RowIn w [.int .i64, .int .i64] a len) : ∃ xs : List Ln, xs.length = len ∧ LnIn xs ∧ LnsAt w a xs := by
  obtain ⟨rs, h1, h2⟩ := list_of (fun i (r : Ln) => ((-9223372036854775808 ≤ r.1 ∧ r.1 < 9223372036854775808) ∧ -9223372036854775808 ≤ r.2 ∧ r.2 < 9223372036854775808) ∧ ∃ g off, a = some ⟨g, off, none⟩ ∧ w.cell? ⟨g, off + i * 2, none⟩ = some (.int .i64 r.1) ∧ w.cell? ⟨g, off + i * 2 + 1, none⟩ = some (.int .i64 r.2)) len (fun i hi => by
    obtain ⟨g, off, vs, ha, ho, hc⟩ := h i hi
    obtain ⟨v0, vs1, rfl, ⟨k, rfl, hk⟩, ho1⟩ := Kd.oks_cons ho
    obtain ⟨v1, vs2, rfl, ⟨b, rfl, hb⟩, ho2⟩ := Kd.oks_cons ho1
    obtain rfl := Kd.oks_nil ho2
    exact ⟨(k, b), ⟨wf_i64 hk, wf_i64 hb⟩, g, off, ha, hc 0 _ rfl, hc 1 _ rfl⟩)
  refine ⟨rs, h1, fun p hp => ?_, fun i hi => (h2 i hi).2⟩
  obtain ⟨i, hi, rfl⟩ := List.getElem_of_mem hp
  exact (h2 i hi).1
theorem rq_one (q : RQ) (a : Option Addr) (n c : Nat) : (rqC q (.slice a n c)).all (·.oneCell') = true := by simp [rqC, Value.oneCell']
theorem rf_one (q : RQ) (a : Option Addr) (n c : Nat) : (rfC q (.slice a n c)).all (·.oneCell') = true := by simp [rfC, Value.oneCell']
theorem ofQ_in {q : RQ} (hk : q.k < 256) (hkey : q.key < 18446744073709551616) (hak : q.ak < 256) : (ofQ q).In :=
  ⟨hk, hkey, hak, by show (q.name.extract 0 (min q.name.size 300)).size ≤ 1000; rw [ByteArray.size_extract]; omega⟩
theorem two_news {w : World} (Z39 Z42 C39 C42 : Array Value) : ∀ W, W = (((w.alloc (.cells Z39 39)).alloc (.cells Z42 42)).setRow w.heap.size C39).setRow (w.heap.size + 1) C42 →
    W.heap[w.heap.size]? = some (.cells C39 39 (0, 0)) ∧ Below w.heap.size w W := by
  rintro W rfl
  have h1 := alloc_keep (heap_alloc_new w (.cells Z39 39)) (.cells Z42 42)
  have h2 := setRow_heap _ w.heap.size _ C39 _ _ h1
  refine ⟨?_, ?_⟩
  · rw [setRow_other _ _ _ _ (by omega)]; exact h2
  · have hb := below_alloc (below_alloc (Below.refl w.heap.size w) (.cells Z39 39)) (.cells Z42 42)
    have h3 := pw_below_grown hb _ hb.size (setRow_grown _ w.heap.size C39) (fun i hi => by cases hi; exact Nat.le_refl _)
    exact pw_below_grown h3 _ h3.size (setRow_grown _ (w.heap.size + 1) C42) (fun i hi => by cases hi; exact Nat.le_succ _)
theorem lawrq_size : (Try.prog.info? 25).map (·.size) = some 9 := by kernel_rfl
theorem second_news (w : World) (Z39 Z42 C39 : Array Value) : (((w.alloc (.cells Z39 39)).alloc (.cells Z42 42)).setRow w.heap.size C39).heap[w.heap.size + 1]? = some (.cells Z42 42 (0, 0)) := by
  rw [setRow_other _ _ _ _ (by omega)]
  have := heap_alloc_new (w.alloc (.cells Z39 39)) (.cells Z42 42)
  rwa [alloc_size] at this
set_option maxHeartbeats 16000000 in
set_option maxRecDepth 20000 in
theorem reqBack_walk (q : RQ) (hk : q.k < 256) (hkey : q.key < 18446744073709551616) (hak : q.ak < 256) (a : Option Addr) (xs : List Ln) (cap : Nat) (hcap : xs.length ≤ cap ∧ cap ≤ maxLen) (hin : LnIn xs) (s : ByteArray) (w : World) (h : LnsAt w a xs) :
    Calls Try.prog 4 #[.agg (rfC q (.slice a xs.length cap)), .string s] w fun e w' => e = .returned (.bool true) ∧ Below w.heap.size w w' := by
  have ha := below_alloc (Below.refl w.heap.size w) (.cells (rfC q (.slice a xs.length cap)) 25)
  have HOf := Lib.hid (of_ok q a xs cap hcap (w.alloc (.cells (rfC q (.slice a xs.length cap)) 25)) (h.below ha))
  have HX := Lib.hid (heap_alloc_new w (.cells (rfC q (.slice a xs.length cap)) 25))
  have HB := Lib.hid ha; clear ha h
  have HQ := Lib.hid (ofQ_in (q := q) hk hkey hak); clear hk hkey hak
  have HYs := Lib.hid (show LnIn (xs.take 10) ∧ (xs.take 10).length ≤ 10 from ⟨fun p hp => hin p (List.mem_of_mem_take hp), by rw [List.length_take]; omega⟩); clear hin hcap
  have hE := enc_cases (ofQ q) (xs.take 10) HQ.out HYs.out.1
  obtain ⟨j, hj, hj1, hj2⟩ : ∃ j : Nat, (if 300 < (s.size : Int) then 300 else (s.size : Int)) = (j : Int) ∧ j ≤ s.size ∧ j = min s.size 300 := ⟨min s.size 300, by split <;> omega, by omega, rfl⟩
  have hjm : min (s.size : Int) 300 = (j : Int) := by rw [← hj]; split <;> omega
  have HJ := Lib.hid (And.intro hj (And.intro hjm (And.intro hj1 hj2))); clear hj hjm hj1 hj2
  have HE := Lib.hid hE; clear hE
  generalize ofQ q = q' at HOf HQ HE
  generalize xs.take 10 = ys at HOf HYs HE
  have HCs := Lib.hid (show (Try.prog.info? 25).map (·.size) = some (rfC q (.slice a xs.length cap)).size from lawrq_size)
  generalize rfC q (.slice a xs.length cap) = C at HOf HX HB HCs ⊢
  go_enter Try.func4, Try.ntmps4
  have hC : (Try.prog.info? 25).map (·.size) = some C.size := HCs.out
  go_wp2_with (refine wpList_load_row rfl 25 (.tmp 2) rfl _ rfl _ HX.out Try.underlying25 HCs.out ?_)
  clear hC
  generalize w.alloc (.cells C 25) = w1 at HOf HX HB ⊢
  refine HOf.out.mono ?_
  rintro e w2 ⟨va, vb, rfl, hla, hlb, hd⟩
  replace HB := Lib.hid (chain2 HB.out hd); clear hd HOf
  have HA := Lib.hid hla; clear hla
  obtain ⟨aa, ca, rfl⟩ := HA.out.form
  obtain ⟨ab, cb, rfl⟩ := hlb.form
  clear hlb
  unfold rqV
  go_upto_region 2 with (first | refine wpList_store_row rfl 39 _ _ rfl w2.heap.size (rqC q' (.slice aa ys.length ca)) rfl rfl 39 _ (alloc_keep (heap_alloc_new w2 _) _) rq_size rfl (rq_one _ _ _ _) ?_ | refine wpList_store_row rfl 42 _ _ rfl (w2.heap.size + 1) (rfC q' (.slice ab ys.length cb)) rfl rfl 42 _ (second_news w2 _ _ _) rf_size rfl (rf_one _ _ _ _) ?_)
  obtain ⟨W, hW⟩ : ∃ W, W = (((w2.alloc (.cells #[.int .u8 0, .int .u8 0, .int .u64 0, .int .i64 0, .int .i64 0, .int .i64 0, .int .u8 0, .string { data := #[] }, .slice none 0 0, .int .i64 0] 39)).alloc (.cells #[.int .u8 0, .int .i64 0, .int .u8 0, .string { data := #[] }, .int .u64 0, .int .i64 0, .int .i64 0, .int .i64 0, .slice none 0 0] 42)).setRow w2.heap.size (rqC q' (.slice aa ys.length ca))).setRow (w2.heap.size + 1) (rfC q' (.slice ab ys.length cb)) := ⟨_, rfl⟩
  rw [← hW]
  obtain ⟨h5, hd⟩ := two_news _ _ _ _ W hW
  have HAW := Lib.hid (show Below w2.heap.size w2 W from hd)
  replace HA := Lib.hid (HA.out.below hd)
  replace HB := Lib.hid (chain2 HB.out hd); clear hd hW HAW
  have H5 := Lib.hid h5; clear h5
  generalize w2.heap.size = b5 at H5 ⊢
  have HEn := Lib.hid (req_encode q' HQ.out ys (by have := HYs.out.2; omega) (.slice aa ys.length ca) W HA.out.s)
  obtain ⟨t1, e1, het⟩ : ∃ t e, encV q' ys = (t, e) := ⟨_, _, rfl⟩
  rw [het] at HEn HE
  clear het
  simp only at HEn
  go_wp2_with (refine wpList_load_row rfl 39 (.tmp 5) rfl _ rfl _ H5.out Try.underlying39 rq_size ?_)
  refine HEn.out.mono ?_
  rintro e w3 ⟨rfl, hd⟩
  replace H5 := Lib.hid (blk_below H5.out hd)
  replace HB := Lib.hid (chain2 HB.out hd); clear hd HEn HA
  go_upto_if 26 with (fail)
  go_cut [26] from 27 to 54 (fun _ wx => Below w.heap.size w wx)
  case first =>
    rcases HE.out with he | ⟨B, q2, ys2, he, hde, hqk, _, _, _, hk2⟩
    · have c1 : (e1 == 0) = false := by rw [(Prod.mk.inj he).2]; rfl
      clear he
      go_wp2_with fail
      go_meet
      case rel => exact HB.out
    · obtain ⟨ht, hz⟩ := Prod.mk.inj he
      have c1 : (e1 == 0) = true := by rw [hz]; rfl
      have hed := enc_dec B q2 ys2 hde
      obtain ⟨i1, i2, i3⟩ := dec_in B q2 ys2 hde
      have HDe := Lib.hid (req_decode t1 (by rw [ht, str_size]; omega) w3)
      rw [ht, str_data, hde, show decAns (some (q2, ys2)) = (q2, ys2, 0) from rfl, ← ht] at HDe
      simp only at HDe
      have HEd := Lib.hid (show encV q2 ys2 = (t1, 0) by rw [hed.1, ht])
      have HI := Lib.hid (And.intro i1 i3)
      have HK := Lib.hid hqk
      clear he hde hqk hk2 hed i1 i2 i3 ht hz
      go_wp2_with fail
      refine HDe.out.mono ?_
      rintro e w4 ⟨v4, rfl, hl, hd⟩
      replace H5 := Lib.hid (blk_below H5.out hd)
      replace HB := Lib.hid (chain2 HB.out hd); clear hd HDe
      obtain ⟨a4, c4, rfl⟩ := hl.form
      have HL := Lib.hid hl; clear hl
      unfold rqV
      have H9 := Lib.hid (heap_alloc_new w4 (.cells (rqC q2 (.slice a4 ys2.length c4)) 39))
      have hd := below_alloc (Below.refl w4.heap.size w4) (.cells (rqC q2 (.slice a4 ys2.length c4)) 39)
      replace H5 := Lib.hid (blk_below H5.out hd)
      replace HL := Lib.hid (HL.out.below hd)
      replace HB := Lib.hid (chain2 HB.out hd); clear hd
      go_upto_region 5 with (refine wpList_store_new rfl 39 _ _ rfl w4 _ (rqC q2 (.slice a4 ys2.length c4)) rfl rfl rq_size rfl (rq_one _ _ _ _) ?_)
      generalize w4.alloc (.cells (rqC q2 (.slice a4 ys2.length c4)) 39) = w5 at H9 H5 HL HB ⊢
      generalize w4.heap.size = b9 at H9 ⊢
      have HEn := Lib.hid (req_encode q2 HI.out.1 ys2 (by have := HI.out.2; omega) (.slice a4 ys2.length c4) w5 HL.out.s)
      rw [HEd.out] at HEn
      simp only at HEn
      go_wp2_with (refine wpList_load_row rfl 39 (.tmp 9) rfl _ rfl _ H9.out Try.underlying39 rq_size ?_)
      refine HEn.out.mono ?_
      rintro e w6 ⟨rfl, hd⟩
      replace H5 := Lib.hid (blk_below H5.out hd)
      replace H9 := Lib.hid (blk_below H9.out hd)
      replace HB := Lib.hid (chain2 HB.out hd); clear hd HEn HL
      have z5 := (show RqAt _ _ _ _ from H5.out).cells.1
      have z9 := (show RqAt _ _ _ _ from H9.out).cells.1
      rw [HK.out] at z9
      have s1 : (t1.toList == t1.toList) = true := by simp
      have s2 : ((q'.k : Int) == (q'.k : Int)) = true := by simp
      go_wp2_with fail
      go_meet
      case rel => exact HB.out
  case rest =>
    have HBc := Lib.hid hcut; clear hcut HB
    obtain ⟨hj, hjm, hj1, hj2⟩ := HJ.out
    have c1 : (0 ≤ (j : Int)) = True := eq_true (by omega)
    have c2 : ((j : Int) ≤ (s.size : Int)) = True := eq_true (by omega)
    have c3 : (j ≤ s.size) = True := eq_true (by omega)
    have c4 : decide (j ≤ s.size) = true := decide_eq_true (by omega)
    have HS := Lib.hid (show s.extract 0 j = s.extract 0 j ∧ (s.extract 0 j).size = j ∧ (j < 300 → s.extract 0 j = s) from ⟨rfl, by rw [ByteArray.size_extract]; omega, fun h => by
      have hjs : j = s.size := by omega
      rw [hjs]
      exact ByteArray.extract_zero_size⟩)
    clear hj2
    go_wp2_with fail
    clear c1 c2 c3 c4 hj hjm hj1
    generalize s.extract 0 j = u at HS ⊢
    refine (req_decode u (by have h1 := HS.out.2.1; have h2 := HJ.out.2.2.2; omega) wc).mono ?_
    rintro e w4 ⟨v4, rfl, hl, hd⟩
    replace HBc := Lib.hid (chain2 HBc.out hd); clear hd
    have HD := Lib.hid (show (decV u.data.toList = none ∧ decAns (decV u.data.toList) = (rq0 0, [], 4)) ∨ ∃ q2 ys2, decAns (decV u.data.toList) = (q2, ys2, 0) ∧ encV q2 ys2 = (u, 0) ∧ u.size < 300 ∧ q2.In ∧ ys2.length ≤ 8 by
      cases hdc : decV u.data.toList with
      | none => exact .inl ⟨rfl, rfl⟩
      | some p =>
        obtain ⟨q2, ys2⟩ := p
        obtain ⟨e1, e2⟩ := enc_dec _ _ _ hdc
        obtain ⟨i1, i2, i3⟩ := dec_in _ _ _ hdc
        rw [← of_data] at e1
        exact .inr ⟨q2, ys2, rfl, e1, e2, i1, i3⟩)
    generalize decAns (decV u.data.toList) = R at hl HD ⊢
    obtain ⟨q2, ys2, er⟩ := R
    simp only at hl HD ⊢
    obtain ⟨a4, c4, rfl⟩ := hl.form
    have HL := Lib.hid hl; clear hl
    unfold rqV
    have H9 := Lib.hid (heap_alloc_new w4 (.cells (rqC q2 (.slice a4 ys2.length c4)) 39))
    have hd := below_alloc (Below.refl w4.heap.size w4) (.cells (rqC q2 (.slice a4 ys2.length c4)) 39)
    replace HL := Lib.hid (HL.out.below hd)
    replace HBc := Lib.hid (chain2 HBc.out hd); clear hd
    go_upto_region 9 with (refine wpList_store_new rfl 39 _ _ rfl w4 _ (rqC q2 (.slice a4 ys2.length c4)) rfl rfl rq_size rfl (rq_one _ _ _ _) ?_)
    generalize w4.alloc (.cells (rqC q2 (.slice a4 ys2.length c4)) 39) = w5 at H9 HL HBc ⊢
    generalize w4.heap.size = b9 at H9 ⊢
    rcases HD.out with ⟨_, hR⟩ | ⟨q3, ys3, hR, he, hsz, hi, hy⟩
    · obtain ⟨_, hR2⟩ := Prod.mk.inj hR
      obtain ⟨_, hR3⟩ := Prod.mk.inj hR2
      subst hR3
      clear hR hR2
      go_wp2_with fail
      refine (wakes_ok w5).mono ?_
      rintro e w6 ⟨rfl, hd⟩
      replace HBc := Lib.hid (chain2 HBc.out hd); clear hd
      go_wp2_with fail
      go_ret
      exact ⟨rfl, HBc.out⟩
    · obtain ⟨hR1, hR2⟩ := Prod.mk.inj hR
      obtain ⟨hR3, hR4⟩ := Prod.mk.inj hR2
      subst hR1 hR3 hR4
      have hus := HS.out.2.2 (by have := HS.out.2.1; omega)
      have HEn := Lib.hid (req_encode q2 hi ys2 (by omega) (.slice a4 ys2.length c4) w5 HL.out.s)
      rw [he] at HEn
      simp only at HEn
      have HUs := Lib.hid hus
      clear hR hR2 he hsz hi hy hus
      go_wp2_with (refine wpList_load_row rfl 39 (.tmp 13) rfl _ rfl _ H9.out Try.underlying39 rq_size ?_)
      refine HEn.out.mono ?_
      rintro e w6 ⟨rfl, hd⟩
      replace HBc := Lib.hid (chain2 HBc.out hd); clear hd HEn HL H9
      go_wp2_with fail
      refine (wakes_ok w6).mono ?_
      rintro e w7 ⟨rfl, hd⟩
      replace HBc := Lib.hid (chain2 HBc.out hd); clear hd
      rw [HUs.out]
      have s1 : (s.toList == s.toList) = true := by simp
      go_wp2_with fail
      go_ret
      exact ⟨rfl, HBc.out⟩
theorem reqBack_law (a00 a01 a02 : Int) (a03 : ByteArray) (a04 a05 a06 a07 : Int) (a08 : Option Addr) (len08 cap08 : Nat) (a1 : ByteArray) (W : World) (w00 : (Lit.int .u8 a00).wf = true) (w01 : (Lit.int .i64 a01).wf = true) (w02 : (Lit.int .u8 a02).wf = true) (w03 : a03.size ≤ maxLen) (w04 : (Lit.int .u64 a04).wf = true) (w05 : (Lit.int .i64 a05).wf = true) (w06 : (Lit.int .i64 a06).wf = true) (w07 : (Lit.int .i64 a07).wf = true) (w08 : RowIn W [.int .i64, .int .i64] a08 len08) (y08 : len08 ≤ cap08 ∧ cap08 ≤ maxLen) (w1 : a1.size ≤ 140737488351232) :
    Calls Try.prog 4 #[.agg #[.int .u8 a00, .int .i64 a01, .int .u8 a02, .string a03, .int .u64 a04, .int .i64 a05, .int .i64 a06, .int .i64 a07, .slice a08 len08 cap08], .string a1] W fun e w' => e = .returned (.bool true) ∧ Below W.heap.size W w' := by
  obtain ⟨k, rfl, hk⟩ := wf_u8 w00
  obtain ⟨ak, rfl, hak⟩ := wf_u8 w02
  obtain ⟨key, rfl, hkey⟩ := wf_u64 w04
  obtain ⟨xs, rfl, hi, h⟩ := lns_of w08
  exact reqBack_walk ⟨k, 0, key, a05, a06, a01, ak, a03, a07⟩ hk hkey hak a08 xs cap08 y08 hi a1 W h
end Go.Proofs.Ytepgdjkmobngcaa
