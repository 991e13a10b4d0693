/- req: ReqCut: no beginning of a request's bytes is a request, nor are they with more behind. No conditions beyond the form's own reach. -/
import Derived.Test.YtepgdjkmobngcaaXReqBackW
namespace Go.Proofs.Ytepgdjkmobngcaa
open Go.RowKit Go.Lib Go.Proofs.Ytepgdjkmobngcaa.P Go.Proofs.Ytepgdjkmobngcaa.BeS Go.Proofs.YtepgdjkmobngcaaW.PrintWords Go.Proofs.YtepgdjkmobngcaaW.PrintLast Go.Proofs.YtepgdjkmobngcaaW.PrintMore
set_option linter.unusedVariables false
set_option linter.unusedSimpArgs false
def rg6_9.T : Bool × List (List Nat × List Nat) := (true, [([], []), ([0, 0], [0]), ([1], [1]), ([2, 1], [1, 2]), ([3, 1], [1, 3]), ([1, 4], [1, 4]), ([5, 1], [5]), ([6], [6]), ([7, 6], [6, 7]), ([6], [6]), ([9, 6], [6, 9]), ([8, 10, 6], [6, 8, 10]), ([6, 11], [6, 11]), ([12, 6], [12]), ([13], [13]), ([14, 13], [13, 14]), ([13, 15], [13, 15]), ([16, 13], [16]), ([17], [17]), ([18, 17], [17, 18]), ([17], [17]), ([20, 17], [17, 20]), ([19, 21, 17], [17, 19, 21]), ([17, 22], [17, 22]), ([23, 17, 0, 1, 2, 3, 4, 5, 6, 7, 8, 9, 10, 11, 12, 13, 14, 15, 16, 17, 18, 19, 20, 21, 22, 23], [23])])
def rg6_9.B : List Nat := [0, 1, 3, 7, 15, 31, 63, 127, 255, 127, 639, 2047, 4095, 8191, 16383, 32767, 65535, 131071, 262143, 524287, 262143, 1310719, 4194303, 8388607, 16777215]
theorem rg6_9.tab : rtab .any (opsOf Try.f6 9) = rg6_9.T := by kernel_rfl
theorem rg6_9.bits : waitsOk rg6_9.T.2 rg6_9.B = true := by kernel_rfl
/-- A proper beginning of what is a request is none. -/
theorem dec_prefix (B : List UInt8) (q : RQ) (ys : List Ln) (hB : decV B = some (q, ys)) (m : Nat) (hm : m < B.length) : decV (B.take m) = none := by
  cases h : decV (B.take m) with
  | none => rfl
  | some p =>
    exfalso
    obtain ⟨q2, y2⟩ := p
    obtain ⟨h1, h2, h3, h4⟩ := dec_forth _ q2 y2 h
    obtain ⟨i1, _, _⟩ := dec_in _ q2 y2 h
    have := (dec_back q2 y2 i1 h4 h1 h3 (B.drop m)).2 (fun e => by
      have := congrArg List.length e
      rw [List.length_drop] at this
      simp at this
      omega)
    rw [← h2, List.take_append_drop, hB] at this
    cases this
set_option maxHeartbeats 16000000 in
set_option maxRecDepth 20000 in
theorem reqCut_walk (q : RQ) (hk : q.k < 256) (hkey : q.key < 18446744073709551616) (hak : q.ak < 256) (a : Option Addr) (xs : List Ln) (cap : Nat) (hcap : xs.length ≤ cap ∧ cap ≤ maxLen) (hin : LnIn xs) (ct : Nat) (hct : ct < 65536) (s : ByteArray) (hs : s.size ≤ 140737488351232) (w : World) (h : LnsAt w a xs) :
    Calls Try.prog 6 #[.agg (rfC q (.slice a xs.length cap)), .int .u16 (ct : Int), .string s] w fun e w' => e = .returned (.bool true) ∧ Below w.heap.size w w' := by
  have ha := below_alloc (Below.refl w.heap.size w) (.cells (rfC q (.slice a xs.length cap)) 25)
  have HOf := Lib.hid (of_ok q a xs cap hcap (w.alloc (.cells (rfC q (.slice a xs.length cap)) 25)) (h.below ha))
  have HX := Lib.hid (heap_alloc_new w (.cells (rfC q (.slice a xs.length cap)) 25))
  have HB := Lib.hid ha; clear ha h
  have HQ := Lib.hid (ofQ_in (q := q) hk hkey hak); clear hk hkey hak
  have HYs := Lib.hid (show LnIn (xs.take 10) ∧ (xs.take 10).length ≤ 10 from ⟨fun p hp => hin p (List.mem_of_mem_take hp), by rw [List.length_take]; omega⟩); clear hin hcap
  have hE := enc_cases (ofQ q) (xs.take 10) HQ.out HYs.out.1
  obtain ⟨j, hj, hj1, hj2⟩ : ∃ j : Nat, (if 50 < (s.size : Int) then 50 else (s.size : Int)) = (j : Int) ∧ j ≤ s.size ∧ j = min s.size 50 := ⟨min s.size 50, by split <;> omega, by omega, rfl⟩
  have hjm : min (s.size : Int) 50 = (j : Int) := by rw [← hj]; split <;> omega
  have HJ := Lib.hid (And.intro hj (And.intro hjm (And.intro hj1 hj2))); clear hj hjm hj1 hj2
  have HE := Lib.hid hE; clear hE
  have HK := Lib.hid (show (ofQ q).k = q.k from rfl)
  generalize hq' : ofQ q = q' at HOf HQ HE HK
  clear hq'
  generalize xs.take 10 = ys at HOf HYs HE
  have HCs := Lib.hid (show (Try.prog.info? 25).map (·.size) = some (rfC q (.slice a xs.length cap)).size from lawrq_size)
  have HC0 := Lib.hid (show (rfC q (.slice a xs.length cap))[0]? = some (.int .u8 (q'.k : Int)) by rw [HK.out]; rfl)
  generalize rfC q (.slice a xs.length cap) = C at HOf HX HB HCs HC0 ⊢
  clear HK
  go_enter Try.func6, Try.ntmps6
  go_wp2_with (refine wpList_load_row rfl 25 (.tmp 3) rfl _ rfl _ HX.out Try.underlying25 HCs.out ?_)
  generalize w.alloc (.cells C 25) = w1 at HOf HX HB ⊢
  generalize w.heap.size = bx at HX ⊢
  refine HOf.out.mono ?_
  rintro e w2 ⟨va, vb, rfl, hla, hlb, hd⟩
  replace HX := Lib.hid (blk_below HX.out hd)
  replace HB := Lib.hid (chain2 HB.out hd); clear hd HOf
  have HA := Lib.hid hla; clear hla
  obtain ⟨aa, ca, rfl⟩ := HA.out.form
  obtain ⟨ab, cb, rfl⟩ := hlb.form
  clear hlb
  unfold rqV
  go_upto_region 2 with (first | refine wpList_store_row rfl 39 _ _ rfl w2.heap.size (rqC q' (.slice aa ys.length ca)) rfl rfl 39 _ (alloc_keep (heap_alloc_new w2 _) _) rq_size rfl (rq_one _ _ _ _) ?_ | refine wpList_store_row rfl 42 _ _ rfl (w2.heap.size + 1) (rfC q' (.slice ab ys.length cb)) rfl rfl 42 _ (second_news w2 _ _ _) rf_size rfl (rf_one _ _ _ _) ?_)
  obtain ⟨W, hW⟩ : ∃ W, W = (((w2.alloc (.cells #[.int .u8 0, .int .u8 0, .int .u64 0, .int .i64 0, .int .i64 0, .int .i64 0, .int .u8 0, .string { data := #[] }, .slice none 0 0, .int .i64 0] 39)).alloc (.cells #[.int .u8 0, .int .i64 0, .int .u8 0, .string { data := #[] }, .int .u64 0, .int .i64 0, .int .i64 0, .int .i64 0, .slice none 0 0] 42)).setRow w2.heap.size (rqC q' (.slice aa ys.length ca))).setRow (w2.heap.size + 1) (rfC q' (.slice ab ys.length cb)) := ⟨_, rfl⟩
  rw [← hW]
  obtain ⟨h5, hd⟩ := two_news _ _ _ _ W hW
  replace HX := Lib.hid (blk_below HX.out hd)
  replace HA := Lib.hid (HA.out.below hd)
  replace HB := Lib.hid (chain2 HB.out hd); clear hd hW
  have H5 := Lib.hid h5; clear h5
  generalize w2.heap.size = b5 at H5 ⊢
  have HEn := Lib.hid (req_encode q' HQ.out ys (by have := HYs.out.2; omega) (.slice aa ys.length ca) W HA.out.s)
  obtain ⟨t1, e1, het⟩ : ∃ t e, encV q' ys = (t, e) := ⟨_, _, rfl⟩
  rw [het] at HEn HE
  clear het
  simp only at HEn
  go_wp2_with (refine wpList_load_row rfl 39 (.tmp 7) rfl _ rfl _ H5.out Try.underlying39 rq_size ?_)
  refine HEn.out.mono ?_
  rintro e w3 ⟨rfl, hd⟩
  replace HX := Lib.hid (blk_below HX.out hd)
  replace HB := Lib.hid (chain2 HB.out hd); clear hd HEn HA H5
  rcases HE.out with he | ⟨B, q2, ys2, he, hde, hqk, hmore, hB, hB1, hk2⟩
  · have c1 : (e1 == 0) = false := by rw [(Prod.mk.inj he).2]; rfl
    have c2 : (e1 != 0) = true := by rw [(Prod.mk.inj he).2]; rfl
    clear he
    go_wp2_with fail
    refine (wakes_ok w3).mono ?_
    rintro e w4 ⟨rfl, hd⟩
    replace HB := Lib.hid (chain2 HB.out hd); clear hd
    go_wp2_with fail
    go_ret
    exact ⟨rfl, HB.out⟩
  · obtain ⟨ht, hz⟩ := Prod.mk.inj he
    subst hz
    have hts : t1.size = B.length := by rw [ht, str_size]
    have hsz : B.length < 300 := (enc_dec B q2 ys2 hde).2
    obtain ⟨m, hm, hm1⟩ : ∃ m : Nat, Int.tmod (ct : Int) (t1.size : Int) = (m : Int) ∧ m < t1.size := ⟨ct % t1.size, by rw [← Int.ofNat_tmod], Nat.mod_lt _ (by omega)⟩
    have HM := Lib.hid hm
    have HM1 := Lib.hid hm1
    have HD1 := Lib.hid (show decV (t1.extract 0 m).data.toList = none by
      rw [ht, str_extract, str_data, List.drop_zero]
      exact dec_prefix B q2 ys2 hde m (by omega))
    have HE2 := Lib.hid (show ∀ u : ByteArray, decV (t1 ++ u).data.toList = none ∧ u.size ≠ 0 ∨ (∃ q3 y3, decV (t1 ++ u).data.toList = some (q3, y3)) ∧ u.size = 0 from fun u => by
      have hd : (t1 ++ u).data.toList = B ++ u.data.toList := by rw [ht, str_addS, str_data]
      rw [hd]
      by_cases hu : u.size = 0
      · right
        have : u.data.toList = [] := List.length_eq_zero_iff.1 hu
        rw [this, List.append_nil]
        exact ⟨⟨_, _, hde⟩, hu⟩
      · left
        exact ⟨hmore _ (fun e => hu (by have := congrArg List.length e; exact this)), hu⟩)
    have HX0 := Lib.hid (show ∀ h : 0 < t1.size, ((t1[0]'h).toNat : Int) = (q'.k : Int) from fun h => by
      have h4 : bt t1 0 = (q'.k : Int) := by
        rw [ht]
        unfold bt
        rw [dif_pos (by rw [str_size]; exact hB1)]
        show ((B[0]'hB1).toNat : Int) = _
        have h3 : B[0]'hB1 = UInt8.ofNat q'.k := by
          have : ∀ (L : List UInt8) (h : 0 < L.length), L = putL q'.k 1 ++ B.drop 1 → L[0]'h = UInt8.ofNat q'.k := by
            intro L h e
            subst e
            simp [putL]
          exact this B hB1 hB
        rw [h3]
        simp
        omega
      exact (bt_at t1 0 h).trans h4)
    have HTs := Lib.hid (show 1 ≤ t1.size ∧ t1.size < 300 by omega)
    clear he hde hqk hmore hB hB1 hk2 hts hsz ht
    obtain ⟨hj, hjm, hj1, hj2⟩ := HJ.out
    have c1 : ((t1.size : Int) == 0) = false := beq_eq_false_iff_ne.2 (by have := HTs.out; omega)
    have c2 : (t1.size == 0) = false := beq_eq_false_iff_ne.2 (by have := HTs.out; omega)
    have c2' : ((t1.size : Int) = 0) = False := eq_false (by have := HTs.out; omega)
    have c2'' : (t1.size = 0) = False := eq_false (by have := HTs.out; omega)
    have c3 : wrap64 (ct : Int) = (ct : Int) := w64_small ct (by omega)
    have c4 : IntKind.i64.wrap (ct : Int) = (ct : Int) := i64_small ct (by omega)
    have d1 : (0 ≤ (m : Int)) = True := eq_true (by omega)
    have d2 : ((m : Int) ≤ (t1.size : Int)) = True := eq_true (by omega)
    have d3 : (m ≤ t1.size) = True := eq_true (by omega)
    have d4 : decide (m ≤ t1.size) = true := decide_eq_true (by omega)
    go_wp2_with fail
    clear c1 c2 c2' c2'' c3 c4 d1 d2 d3 d4
    refine (req_decode (t1.extract 0 m) (by rw [ByteArray.size_extract]; have := HTs.out; omega) w3).mono ?_
    rw [HD1.out, show decAns none = (rq0 0, [], 4) from rfl]
    rintro e w4 ⟨v4, rfl, hl, hd⟩
    simp only at hl
    replace HX := Lib.hid (blk_below HX.out hd)
    replace HB := Lib.hid (chain2 HB.out hd); clear hd
    obtain ⟨a4, c4, rfl⟩ := hl.form
    clear hl
    unfold rqV
    have hd := below_alloc (Below.refl w4.heap.size w4) (.cells (rqC (rq0 0) (.slice a4 ([] : List Ln).length c4)) 39)
    replace HX := Lib.hid (blk_below HX.out hd)
    replace HB := Lib.hid (chain2 HB.out hd); clear hd
    go_upto_region 8 with (refine wpList_store_new rfl 39 _ _ rfl w4 _ (rqC (rq0 0) (.slice a4 ([] : List Ln).length c4)) rfl rfl rq_size rfl (rq_one _ _ _ _) ?_)
    generalize w4.alloc (.cells (rqC (rq0 0) (.slice a4 ([] : List Ln).length c4)) 39) = w5 at HX HB ⊢
    generalize w4.heap.size = b9 at ⊢
    have hus : (s.extract 0 j).size = j := by rw [ByteArray.size_extract]; omega
    have HUs := Lib.hid (And.intro hus (show (s.extract 0 j).size = 0 ↔ s.size = 0 by rw [hus]; omega)); clear hus
    have d1 : (0 ≤ (j : Int)) = True := eq_true (by omega)
    have d2 : ((j : Int) ≤ (s.size : Int)) = True := eq_true (by omega)
    have d3 : (j ≤ s.size) = True := eq_true (by omega)
    have d4 : decide (j ≤ s.size) = true := decide_eq_true (by omega)
    have q2 : ¬ 9223372036854775808 < t1.size + (s.extract 0 j).size := by have h1 := HTs.out; have h2 := HUs.out.1; omega
    have q3 : ¬ 9223372036854775807 < t1.size + (s.extract 0 j).size := by have h1 := HTs.out; have h2 := HUs.out.1; omega
    have q2' : ¬ 9223372036854775808 < t1.size + (min j s.size) := by have h1 := HTs.out; omega
    have q3' : ¬ 9223372036854775807 < t1.size + (min j s.size) := by have h1 := HTs.out; omega
    have hju : j ≤ 50 := by omega
    clear hj2
    go_wp2_with fail
    clear d1 d2 d3 d4 q2' q3'
    have HD2 := Lib.hid (HE2.out (s.extract 0 j))
    have HDe := Lib.hid (req_decode (t1 ++ s.extract 0 j) (by rw [ByteArray.size_append]; have h1 := HTs.out; have h2 := HUs.out.1; omega) w5)
    clear q2 q3 hj hjm hj1 HE2 HJ
    generalize s.extract 0 j = u at HUs HD2 HDe ⊢
    obtain ⟨q4, y4, er, hA, hEr⟩ : ∃ q4 y4 er, decAns (decV (t1 ++ u).data.toList) = (q4, y4, er) ∧ ((er = 4 ∧ u.size ≠ 0) ∨ (er = 0 ∧ u.size = 0)) := by
      rcases HD2.out with ⟨h1, h2⟩ | ⟨⟨q3, y3, h1⟩, h2⟩
      · rw [h1]; exact ⟨_, _, _, rfl, .inl ⟨rfl, h2⟩⟩
      · rw [h1]; exact ⟨_, _, _, rfl, .inr ⟨rfl, h2⟩⟩
    rw [hA] at HDe
    simp only at HDe
    have HEr := Lib.hid hEr
    clear hA hEr HD2
    refine HDe.out.mono ?_
    rintro e w6 ⟨v6, rfl, hl, hd⟩
    replace HX := Lib.hid (blk_below HX.out hd)
    replace HB := Lib.hid (chain2 HB.out hd); clear hd HDe
    obtain ⟨a6, c6, rfl⟩ := hl.form
    clear hl
    have hd := below_alloc (Below.refl w6.heap.size w6) (.cells (rqC q4 (.slice a6 y4.length c6)) 39)
    replace HX := Lib.hid (blk_below HX.out hd)
    replace HB := Lib.hid (chain2 HB.out hd); clear hd
    unfold rqV
    go_upto_region 9 with (refine wpList_store_new rfl 39 _ _ rfl w6 _ (rqC q4 (.slice a6 y4.length c6)) rfl rfl rq_size rfl (rq_one _ _ _ _) ?_)
    generalize w6.alloc (.cells (rqC q4 (.slice a6 y4.length c6)) 39) = w7 at HX HB ⊢
    generalize w6.heap.size = b10 at ⊢
    have hS : w7.drew.cell? ⟨bx, 0, none⟩ = some (.int .u8 (q'.k : Int)) := by
      show w7.cell? ⟨bx, 0, none⟩ = _
      rw [cell_of_row w7 bx 0 _ _ (0, 0) HX.out]
      exact HC0.out
    clear HX
    replace HB := Lib.hid (below_drew1 HB.out)
    have p1 : (0 < t1.size) = True := eq_true (by have := HTs.out; omega)
    have p2 : (0 < (t1.size : Int)) = True := eq_true (by have := HTs.out; omega)
    have p3 : decide (0 < (t1.size : Int)) = true := decide_eq_true (by have := HTs.out; omega)
    have p4 : decide (0 < t1.size) = true := decide_eq_true (by have := HTs.out; omega)
    have hx := HX0.out
    have hsz : s.toList = [] ↔ s.size = 0 := by
      rw [Go.Proofs.Ytepgdjkmobngcaa.BeS.toList_data]
      exact ⟨fun h => by have := congrArg List.length h; exact this, fun h => List.length_eq_zero_iff.1 h⟩
    obtain ⟨bb, hb1, hb2⟩ : ∃ bb : Bool, (er == 4) = bb ∧ s.toList.isEmpty = !bb := by
      rcases HEr.out with ⟨rfl, h⟩ | ⟨rfl, h⟩
      · refine ⟨true, rfl, ?_⟩
        have : s.toList ≠ [] := fun e => h (HUs.out.2.2 (hsz.1 e))
        cases hl : s.toList with
        | nil => exact absurd hl this
        | cons x l => rfl
      · refine ⟨false, rfl, ?_⟩
        rw [hsz.2 (HUs.out.2.1 h)]; rfl
    clear hsz
    refine start_ (n := 25) (S := fun w' => w'.cell? ⟨bx, 0, none⟩ = some (.int .u8 (q'.k : Int))) (ds := []) #[false, false, false, false, false, false, false, false, false, false, false, false, false, false, false, false, false, false, false, false, false, false, false, false, false] (by kernel_rfl) rfl rfl hS (fun hHeld => ?_)
    refine with_tabW rg6_9.tab rg6_9.bits (fun HT_ HW_ => ?_)
    generalize w7.drew = w' at HB hS hHeld ⊢
    refine one_ (i := 0) (N := some 53) #[true, false, false, false, false, false, false, false, false, false, false, false, false, false, false, false, false, false, false, false, false, false, false, false, false] rfl rfl (one_of HT_.out (by kernel_rfl)) (by decide) (fun K hK => ?_)
    refine goes_ Try.func13 (by kernel_rfl) rfl #[] (by rfl) rfl rfl (by (try simp only [List.map_toArray, List.map_cons, List.map_nil]); first | done | rfl) ?_
    refine (wakes_ok w').mono ?_
    rintro e w' ⟨rfl, hd⟩
    refine ⟨_, rfl, ?_⟩
    replace HB := Lib.hid (chain2 HB.out hd)
    refine hK.out _ _ (pw_cell_below hd hHeld) (fun hHeld => ?_)
    clear hK K
    refine norm_ (a' := ?_) ?_ ?_
    rotate_left
    · show Act.put _ (some 53) _ = _
      simp (maxSteps := 4000000) only [Act.put, List.setIfInBounds_toArray, List.set_cons_zero, List.set_cons_succ, i64_w, i32_w]
      try rfl
    refine pure_ (i := 1) (N := some 54) (v := ?_) (a' := ?_) #[true, true, false, false, false, false, false, false, false, false, false, false, false, false, false, false, false, false, false, false, false, false, false, false, false] rfl rfl (any_of HT_.out (by kernel_rfl)) (fun _ _ _ h => h) (Or.inl ⟨by rfl, ?_⟩) ?_ ?_
    rotate_left
    · intro w'
      go_simp
      try with_reducible rfl
    rotate_left
    · simp (maxSteps := 4000000) only [Act.put, List.setIfInBounds_toArray, List.set_cons_zero, List.set_cons_succ, i64_w, i32_w]
      try rfl
    refine pure_ (i := 2) (N := some 55) (v := ?_) (a' := ?_) #[true, true, true, false, false, false, false, false, false, false, false, false, false, false, false, false, false, false, false, false, false, false, false, false, false] rfl rfl (any_of HT_.out (by kernel_rfl)) (fun _ _ _ h => h) (Or.inl ⟨by rfl, ?_⟩) ?_ ?_
    rotate_left
    · intro w'
      go_simp
      try with_reducible rfl
    rotate_left
    · simp (maxSteps := 4000000) only [Act.put, List.setIfInBounds_toArray, List.set_cons_zero, List.set_cons_succ, i64_w, i32_w]
      try rfl
    refine pure_ (i := 3) (N := some 56) (v := ?_) (a' := ?_) #[true, true, true, true, false, false, false, false, false, false, false, false, false, false, false, false, false, false, false, false, false, false, false, false, false] rfl rfl (any_of HT_.out (by kernel_rfl)) (fun _ _ _ h => h) (Or.inl ⟨by rfl, ?_⟩) ?_ ?_
    rotate_left
    · intro w'
      go_simp
      try with_reducible rfl
    rotate_left
    · simp (maxSteps := 4000000) only [Act.put, List.setIfInBounds_toArray, List.set_cons_zero, List.set_cons_succ, i64_w, i32_w]
      try rfl
    refine pure_ (i := 4) (N := some 57) (v := ?_) (a' := ?_) #[true, true, true, true, true, false, false, false, false, false, false, false, false, false, false, false, false, false, false, false, false, false, false, false, false] rfl rfl (any_of HT_.out (by kernel_rfl)) (fun _ _ _ h => h) (Or.inl ⟨by rfl, ?_⟩) ?_ ?_
    rotate_left
    · intro w'
      go_simp
      try with_reducible rfl
    rotate_left
    · simp (maxSteps := 4000000) only [Act.put, List.setIfInBounds_toArray, List.set_cons_zero, List.set_cons_succ, i64_w, i32_w]
      try rfl
    refine pure_ (i := 5) (N := some 58) (v := ?_) (a' := ?_) #[true, true, true, true, true, true, false, false, false, false, false, false, false, false, false, false, false, false, false, false, false, false, false, false, false] rfl rfl (any_of HT_.out (by kernel_rfl)) (fun _ _ _ h => h) (Or.inl ⟨by rfl, ?_⟩) ?_ ?_
    rotate_left
    · intro w'
      go_simp
      try with_reducible rfl
    rotate_left
    · simp (maxSteps := 4000000) only [Act.put, List.setIfInBounds_toArray, List.set_cons_zero, List.set_cons_succ, i64_w, i32_w]
      try rfl
    refine pure_ (i := 6) (N := some 59) (v := ?_) (a' := ?_) #[true, true, true, true, true, true, true, false, false, false, false, false, false, false, false, false, false, false, false, false, false, false, false, false, false] rfl rfl (any_of HT_.out (by kernel_rfl)) (fun _ _ _ h => h) (Or.inl ⟨by rfl, ?_⟩) ?_ ?_
    rotate_left
    · intro w'
      go_simp
      try with_reducible rfl
    rotate_left
    · simp (maxSteps := 4000000) only [Act.put, List.setIfInBounds_toArray, List.set_cons_zero, List.set_cons_succ, i64_w, i32_w]
      try rfl
    refine pure_ (i := 7) (N := some 60) (v := ?_) (a' := ?_) #[true, true, true, true, true, true, true, true, false, false, false, false, false, false, false, false, false, false, false, false, false, false, false, false, false] rfl rfl (any_of HT_.out (by kernel_rfl)) (fun _ _ _ h => h) (Or.inl ⟨by rfl, ?_⟩) ?_ ?_
    rotate_left
    · intro w'
      go_simp
      try with_reducible rfl
    rotate_left
    · simp (maxSteps := 4000000) only [Act.put, List.setIfInBounds_toArray, List.set_cons_zero, List.set_cons_succ, i64_w, i32_w]
      try rfl
    refine pure_ (i := 8) (N := some 61) (v := ?_) (a' := ?_) #[true, true, true, true, true, true, true, true, true, false, false, false, false, false, false, false, false, false, false, false, false, false, false, false, false] rfl rfl (any_of HT_.out (by kernel_rfl)) (fun _ _ _ h => h) (Or.inl ⟨by rfl, ?_⟩) ?_ ?_
    rotate_left
    · intro w'
      go_simp
      try with_reducible rfl
    rotate_left
    · simp (maxSteps := 4000000) only [Act.put, List.setIfInBounds_toArray, List.set_cons_zero, List.set_cons_succ, i64_w, i32_w]
      try rfl
    refine pure_ (i := 9) (N := some 62) (v := ?_) (a' := ?_) #[true, true, true, true, true, true, true, true, true, true, false, false, false, false, false, false, false, false, false, false, false, false, false, false, false] rfl rfl (any_of HT_.out (by kernel_rfl)) (fun _ _ _ h => h) (Or.inl ⟨by rfl, ?_⟩) ?_ ?_
    rotate_left
    · intro w'
      go_simp
      try with_reducible rfl
    rotate_left
    · simp (maxSteps := 4000000) only [Act.put, List.setIfInBounds_toArray, List.set_cons_zero, List.set_cons_succ, i64_w, i32_w]
      try rfl
    refine take_ (i := 10) (N := some 63) (v := ?_) (a' := ?_) #[true, true, true, true, true, true, true, true, true, true, true, false, false, false, false, false, false, false, false, false, false, false, false, false, false] rfl rfl (take_ofW HT_.out HW_.out (by kernel_rfl)) (fun _ _ _ h => h) (Or.inl ⟨by rfl, ?_⟩) hHeld ?_ ?_
    rotate_left
    · intro w' hw_
      try dsimp only at hw_
      have x0 := hw_
      go_simp
      try with_reducible rfl
    rotate_left
    · simp (maxSteps := 4000000) only [Act.put, List.setIfInBounds_toArray, List.set_cons_zero, List.set_cons_succ, i64_w, i32_w]
      try rfl
    refine pure_ (i := 11) (N := some 64) (v := ?_) (a' := ?_) #[true, true, true, true, true, true, true, true, true, true, true, true, false, false, false, false, false, false, false, false, false, false, false, false, false] rfl rfl (any_of HT_.out (by kernel_rfl)) (fun _ _ _ h => h) (Or.inl ⟨by rfl, ?_⟩) ?_ ?_
    rotate_left
    · intro w'
      go_simp
      try with_reducible rfl
    rotate_left
    · simp (maxSteps := 4000000) only [Act.put, List.setIfInBounds_toArray, List.set_cons_zero, List.set_cons_succ, i64_w, i32_w]
      try rfl
    refine pure_ (i := 12) (N := some 65) (v := ?_) (a' := ?_) #[true, true, true, true, true, true, true, true, true, true, true, true, true, false, false, false, false, false, false, false, false, false, false, false, false] rfl rfl (any_of HT_.out (by kernel_rfl)) (fun _ _ _ h => h) (Or.inl ⟨by rfl, ?_⟩) ?_ ?_
    rotate_left
    · intro w'
      go_simp
      try with_reducible rfl
    rotate_left
    · simp (maxSteps := 4000000) only [Act.put, List.setIfInBounds_toArray, List.set_cons_zero, List.set_cons_succ, i64_w, i32_w]
      try rfl
    refine pure_ (i := 13) (N := some 66) (v := ?_) (a' := ?_) #[true, true, true, true, true, true, true, true, true, true, true, true, true, true, false, false, false, false, false, false, false, false, false, false, false] rfl rfl (any_of HT_.out (by kernel_rfl)) (fun _ _ _ h => h) (Or.inl ⟨by rfl, ?_⟩) ?_ ?_
    rotate_left
    · intro w'
      go_simp
      try with_reducible rfl
    rotate_left
    · simp (maxSteps := 4000000) only [Act.put, List.setIfInBounds_toArray, List.set_cons_zero, List.set_cons_succ, i64_w, i32_w]
      try rfl
    refine pure_ (i := 14) (N := some 67) (v := ?_) (a' := ?_) #[true, true, true, true, true, true, true, true, true, true, true, true, true, true, true, false, false, false, false, false, false, false, false, false, false] rfl rfl (any_of HT_.out (by kernel_rfl)) (fun _ _ _ h => h) (Or.inl ⟨by rfl, ?_⟩) ?_ ?_
    rotate_left
    · intro w'
      go_simp
      try with_reducible rfl
    rotate_left
    · simp (maxSteps := 4000000) only [Act.put, List.setIfInBounds_toArray, List.set_cons_zero, List.set_cons_succ, i64_w, i32_w]
      try rfl
    refine pure_ (i := 15) (N := some 68) (v := ?_) (a' := ?_) #[true, true, true, true, true, true, true, true, true, true, true, true, true, true, true, true, false, false, false, false, false, false, false, false, false] rfl rfl (any_of HT_.out (by kernel_rfl)) (fun _ _ _ h => h) (Or.inl ⟨by rfl, ?_⟩) ?_ ?_
    rotate_left
    · intro w'
      go_simp
      try with_reducible rfl
    rotate_left
    · simp (maxSteps := 4000000) only [Act.put, List.setIfInBounds_toArray, List.set_cons_zero, List.set_cons_succ, i64_w, i32_w]
      try rfl
    refine pure_ (i := 16) (N := some 69) (v := ?_) (a' := ?_) #[true, true, true, true, true, true, true, true, true, true, true, true, true, true, true, true, true, false, false, false, false, false, false, false, false] rfl rfl (any_of HT_.out (by kernel_rfl)) (fun _ _ _ h => h) (Or.inl ⟨by rfl, ?_⟩) ?_ ?_
    rotate_left
    · intro w'
      go_simp
      try with_reducible rfl
    rotate_left
    · simp (maxSteps := 4000000) only [Act.put, List.setIfInBounds_toArray, List.set_cons_zero, List.set_cons_succ, i64_w, i32_w]
      try rfl
    refine pure_ (i := 17) (N := some 70) (v := ?_) (a' := ?_) #[true, true, true, true, true, true, true, true, true, true, true, true, true, true, true, true, true, true, false, false, false, false, false, false, false] rfl rfl (any_of HT_.out (by kernel_rfl)) (fun _ _ _ h => h) (Or.inl ⟨by rfl, ?_⟩) ?_ ?_
    rotate_left
    · intro w'
      go_simp
      try with_reducible rfl
    rotate_left
    · simp (maxSteps := 4000000) only [Act.put, List.setIfInBounds_toArray, List.set_cons_zero, List.set_cons_succ, i64_w, i32_w]
      try rfl
    refine pure_ (i := 18) (N := some 71) (v := ?_) (a' := ?_) #[true, true, true, true, true, true, true, true, true, true, true, true, true, true, true, true, true, true, true, false, false, false, false, false, false] rfl rfl (any_of HT_.out (by kernel_rfl)) (fun _ _ _ h => h) (Or.inl ⟨by rfl, ?_⟩) ?_ ?_
    rotate_left
    · intro w'
      go_simp
      try with_reducible rfl
    rotate_left
    · simp (maxSteps := 4000000) only [Act.put, List.setIfInBounds_toArray, List.set_cons_zero, List.set_cons_succ, i64_w, i32_w]
      try rfl
    refine pure_ (i := 19) (N := some 72) (v := ?_) (a' := ?_) #[true, true, true, true, true, true, true, true, true, true, true, true, true, true, true, true, true, true, true, true, false, false, false, false, false] rfl rfl (any_of HT_.out (by kernel_rfl)) (fun _ _ _ h => h) (Or.inl ⟨by rfl, ?_⟩) ?_ ?_
    rotate_left
    · intro w'
      go_simp
      try with_reducible rfl
    rotate_left
    · simp (maxSteps := 4000000) only [Act.put, List.setIfInBounds_toArray, List.set_cons_zero, List.set_cons_succ, i64_w, i32_w]
      try rfl
    refine pure_ (i := 20) (N := some 73) (v := ?_) (a' := ?_) #[true, true, true, true, true, true, true, true, true, true, true, true, true, true, true, true, true, true, true, true, true, false, false, false, false] rfl rfl (any_of HT_.out (by kernel_rfl)) (fun _ _ _ h => h) (Or.inl ⟨by rfl, ?_⟩) ?_ ?_
    rotate_left
    · intro w'
      go_simp
      try with_reducible rfl
    rotate_left
    · simp (maxSteps := 4000000) only [Act.put, List.setIfInBounds_toArray, List.set_cons_zero, List.set_cons_succ, i64_w, i32_w]
      try rfl
    refine pure_ (i := 21) (N := some 74) (v := ?_) (a' := ?_) #[true, true, true, true, true, true, true, true, true, true, true, true, true, true, true, true, true, true, true, true, true, true, false, false, false] rfl rfl (any_of HT_.out (by kernel_rfl)) (fun _ _ _ h => h) (Or.inl ⟨by rfl, ?_⟩) ?_ ?_
    rotate_left
    · intro w'
      go_simp
      try with_reducible rfl
    rotate_left
    · simp (maxSteps := 4000000) only [Act.put, List.setIfInBounds_toArray, List.set_cons_zero, List.set_cons_succ, i64_w, i32_w]
      try rfl
    refine pure_ (i := 22) (N := some 75) (v := ?_) (a' := ?_) #[true, true, true, true, true, true, true, true, true, true, true, true, true, true, true, true, true, true, true, true, true, true, true, false, false] rfl rfl (any_of HT_.out (by kernel_rfl)) (fun _ _ _ h => h) (Or.inl ⟨by rfl, ?_⟩) ?_ ?_
    rotate_left
    · intro w'
      go_simp
      try with_reducible rfl
    rotate_left
    · simp (maxSteps := 4000000) only [Act.put, List.setIfInBounds_toArray, List.set_cons_zero, List.set_cons_succ, i64_w, i32_w]
      try rfl
    refine pure_ (i := 23) (N := some 76) (v := ?_) (a' := ?_) #[true, true, true, true, true, true, true, true, true, true, true, true, true, true, true, true, true, true, true, true, true, true, true, true, false] rfl rfl (any_of HT_.out (by kernel_rfl)) (fun _ _ _ h => h) (Or.inl ⟨by rfl, ?_⟩) ?_ ?_
    rotate_left
    · intro w'
      go_simp
      try with_reducible rfl
    rotate_left
    · simp (maxSteps := 4000000) only [Act.put, List.setIfInBounds_toArray, List.set_cons_zero, List.set_cons_succ, i64_w, i32_w]
      try rfl
    refine pure_ (i := 24) (N := some 6) (v := ?_) (a' := ?_) #[true, true, true, true, true, true, true, true, true, true, true, true, true, true, true, true, true, true, true, true, true, true, true, true, true] rfl rfl (any_of HT_.out (by kernel_rfl)) (fun _ _ _ h => h) (Or.inl ⟨by rfl, ?_⟩) ?_ ?_
    rotate_left
    · intro w'
      go_simp
      try with_reducible rfl
    rotate_left
    · simp (maxSteps := 4000000) only [Act.put, List.setIfInBounds_toArray, List.set_cons_zero, List.set_cons_succ, i64_w, i32_w]
      try rfl
    refine done_ (done_of HT_.out (by kernel_rfl)) ?_
    go_wp2
    go_ret
    exact ⟨by simp, HB.out⟩
theorem reqCut_law (a00 a01 a02 : Int) (a03 : ByteArray) (a04 a05 a06 a07 : Int) (a08 : Option Addr) (len08 cap08 : Nat) (a1 : Int) (a2 : ByteArray) (W : World) (w00 : (Lit.int .u8 a00).wf = true) (w01 : (Lit.int .i64 a01).wf = true) (w02 : (Lit.int .u8 a02).wf = true) (w03 : a03.size ≤ maxLen) (w04 : (Lit.int .u64 a04).wf = true) (w05 : (Lit.int .i64 a05).wf = true) (w06 : (Lit.int .i64 a06).wf = true) (w07 : (Lit.int .i64 a07).wf = true) (w08 : RowIn W [.int .i64, .int .i64] a08 len08) (y08 : len08 ≤ cap08 ∧ cap08 ≤ maxLen) (w1 : (Lit.int .u16 a1).wf = true) (w2 : a2.size ≤ 140737488351232) :
    Calls Try.prog 6 #[.agg #[.int .u8 a00, .int .i64 a01, .int .u8 a02, .string a03, .int .u64 a04, .int .i64 a05, .int .i64 a06, .int .i64 a07, .slice a08 len08 cap08], .int .u16 a1, .string a2] W fun e w' => e = .returned (.bool true) ∧ Below W.heap.size W w' := by
  obtain ⟨k, rfl, hk⟩ := wf_u8 w00
  obtain ⟨ak, rfl, hak⟩ := wf_u8 w02
  obtain ⟨key, rfl, hkey⟩ := wf_u64 w04
  obtain ⟨ct, rfl, hct⟩ := wf_u16 w1
  obtain ⟨xs, rfl, hi, h⟩ := lns_of w08
  exact reqCut_walk ⟨k, 0, key, a05, a06, a01, ak, a03, a07⟩ hk hkey hak a08 xs cap08 y08 hi ct hct a2 w2 W h
end Go.Proofs.Ytepgdjkmobngcaa
