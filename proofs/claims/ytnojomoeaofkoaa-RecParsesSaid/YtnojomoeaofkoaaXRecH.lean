/- rec: the document's Parse. No conditions beyond the form's own reach. -/
import Derived.Test.YtnojomoeaofkoaaXRecG
namespace Go.Proofs.Ytnojomoeaofkoaa
open Go.RowKit Go.Lib Go.Proofs.Ytnojomoeaofkoaa.P Go.Proofs.Ytnojomoeaofkoaa.BeS Go.Proofs.Ytnojomoeaofkoaa.PoS Go.Proofs.YtnojomoeaofkoaaW.PrintWords Go.Proofs.YtnojomoeaofkoaaW.PrintLast Go.Proofs.YtnojomoeaofkoaaW.PrintMore
set_option linter.unusedVariables false
set_option linter.unusedSimpArgs false
def rg15_5.T : Bool × List (List Nat × List Nat) := (true, [([], []), ([0], [0]), ([1], [1]), ([2], [2]), ([], []), ([4], [4]), ([5], [5]), ([3, 6], [3, 6]), ([7, 0, 1, 2, 3, 4, 5, 6, 7], [7])])
def rg15_5.B : List Nat := [0, 1, 3, 7, 0, 16, 48, 127, 255]
theorem rg15_5.tab : rtab .any (opsOf Try.f15 5) = rg15_5.T := by kernel_rfl
theorem rg15_5.bits : waitsOk rg15_5.T.2 rg15_5.B = true := by kernel_rfl
def rg15_12.T : Bool × List (List Nat × List Nat) := (true, [([], []), ([], []), ([1], [1]), ([], []), ([], []), ([4], [4]), ([3, 5], [3, 5]), ([2, 6], [2, 6]), ([7], [7]), ([0, 8], [0, 8]), ([9, 9, 0, 1, 2, 3, 4, 5, 6, 7, 8, 9], [0, 9])])
def rg15_12.B : List Nat := [0, 0, 2, 0, 0, 16, 56, 126, 254, 511, 1023]
theorem rg15_12.tab : rtab .any (opsOf Try.f15 12) = rg15_12.T := by kernel_rfl
theorem rg15_12.bits : waitsOk rg15_12.T.2 rg15_12.B = true := by kernel_rfl
theorem ext_join (s : ByteArray) (a b c : Nat) (h1 : a ≤ b) (h2 : b ≤ c) : s.extract a b ++ s.extract b c = s.extract a c := by
  rw [ByteArray.extract_append_extract, Nat.min_eq_left h1, Nat.max_eq_right h2]
theorem ext_one (s : ByteArray) (a : Nat) (h : a < s.size) : s.extract a (a + 1) = str [s[a]] := by
  have h' : a < s.data.toList.length := by simpa using h
  rw [of_data (s.extract a (a + 1))]
  congr 1
  have : (s.extract a (a + 1)).data.toList = (s.data.toList.take (a + 1)).drop a := by
    conv => lhs; rw [of_data s, str_extract, str_data]
  rw [this, List.take_succ_eq_append_getElem h', List.drop_append, List.drop_eq_nil_of_le (by rw [List.length_take]; omega), List.nil_append, List.length_take, Nat.min_eq_left (Nat.le_of_lt h'), Nat.sub_self]
  rfl
theorem lenR_two (s : ByteArray) (h : 2 ≤ s.size) : lenR s = 256 * (s[0]'(by omega)).toNat + (s[1]'(by omega)).toNat := by
  unfold lenR
  rw [← ext_join s 0 1 2 (by decide) (by decide), ext_one s 0 (by omega), ext_one s 1 (by omega), str_append, str_data]
  show (0 * 256 + _) * 256 + _ = _
  omega
theorem headR_ext (s : ByteArray) (h : 7 + lenR s ≤ s.size) : headR (kindR s) (s.extract 3 (3 + lenR s)) = s.extract 0 (3 + lenR s) := by
  have hz : (s.extract 3 (3 + lenR s)).size = lenR s := by rw [ByteArray.size_extract]; omega
  unfold headR
  rw [hz]
  have h1 : str (putL (lenR s) 2) = s.extract 0 2 := by
    unfold lenR
    have hl : (s.extract 0 2).data.toList.length = 2 := by rw [Array.length_toList]; show (s.extract 0 2).size = 2; rw [ByteArray.size_extract]; omega
    have := putL_getN (s.extract 0 2).data.toList
    rw [hl] at this
    rw [this]; exact (of_data _).symm
  have h2 : str [UInt8.ofNat (kindR s)] = s.extract 2 3 := by
    rw [ext_one s 2 (by omega)]
    unfold kindR
    rw [dif_pos (by omega), UInt8.ofNat_toNat]
  rw [h1, h2, ext_join _ _ _ _ (by decide) (by decide), ext_join _ _ _ _ (by decide) (by omega)]
theorem firstR_doc (s : ByteArray) (h : 7 + lenR s ≤ s.size) (hn : lenR s ≤ 2048) (hk : kindR s ≠ 0) :
    firstR s = if str (putL (sum (s.extract 0 (3 + lenR s)).data.toList).toNat 4) = s.extract (3 + lenR s) (7 + lenR s) then ((kindR s, s.extract 3 (3 + lenR s)), 0) else (noR, 5) := by
  unfold firstR
  rw [if_neg (by omega), if_neg (fun e => e.elim (by omega) (fun e => e.elim hk (by omega)))]
  unfold recB sumR
  rw [headR_ext s h, ← ext_join s 0 (3 + lenR s) (7 + lenR s) (Nat.zero_le _) (by omega)]
  simp only [ByteArray.append_right_inj]
set_option maxHeartbeats 8000000 in
set_option maxRecDepth 100000 in
theorem ref_parse (s0 : ByteArray) (hs : s0.size ≤ 100000) (w : World) :
    Calls Try.prog 15 #[.string s0] w fun e w' => ∃ v, e = .returned (.tuple #[v, .int .i64 (parseV s0).2]) ∧ RcRow w' 50 w.heap.size v (parseV s0).1 ∧ Below w.heap.size w w' := by
  have HS := Lib.hid hs; clear hs
  go_enter Try.func15, Try.ntmps15
  go_wp2_with fail
  go_loopw [0, 4] (fun s out wr => ParseInv s0 50 w.heap.size s out w wr) (fun s _ _ => match s with | .string b => b.size | _ => 0)
  case atStart => exact ⟨s0.size, s0, [], rfl, Nat.le_refl _, by simp, (comb_nil _ (parseF_err _ _)).symm, World.ownsRow_nil _ _ _ _, Below.refl _ _⟩
  case round =>
    obtain ⟨f, x, done, rfl, hf, hd, hp, h1, h2⟩ := hrel
    have HP := Lib.hid hp; clear hp
    have HR := Lib.hid h1; clear h1
    have HB := Lib.hid h2; clear h2
    have HF := Lib.hid (And.intro hf hd); clear hf hd
    by_cases h0 : x.size = 0
    · have HV := Lib.hid (HP.out.trans (comb_end done f x h0))
      have d0 : ¬ 0 < x.size := by omega
      have d1 : decide (0 < x.size) = false := decide_eq_false d0
      have d2 : decide (0 < (x.size : Int)) = false := decide_eq_false (by omega)
      clear h0
      go_wp2
      go_ret2
      exact ⟨_, by rw [HV.out]; rfl, by rw [HV.out]; exact HR.out, HB.out⟩
    · have d1 : decide (0 < x.size) = true := decide_eq_true (by omega)
      have d2 : decide (0 < (x.size : Int)) = true := decide_eq_true (by omega)
      obtain ⟨f, rfl⟩ : ∃ m, f = m + 1 := ⟨f - 1, by have := HF.out.1; omega⟩
      have HCb := Lib.hid (comb_bad done f x h0)
      have HCs := Lib.hid (comb_step done f x h0)
      have H0 := Lib.hid h0; clear h0
      by_cases h7 : x.size < 7
      · have c1 : decide ((x.size : Int) < 7) = true := decide_eq_true (by omega)
        have c2 : decide (x.size < 7) = true := decide_eq_true h7
        have HV := Lib.hid (HP.out.trans ((HCb.out (by rw [show firstR x = (noR, 4) from if_pos h7]; decide)).trans (by rw [show firstR x = (noR, 4) from if_pos h7])))
        go_wp2
        go_ret2
        exact ⟨_, by rw [HV.out]; rfl, by rw [HV.out]; exact World.ownsRow_nil _ _ _ _, HB.out⟩
      · have c1 : decide ((x.size : Int) < 7) = false := decide_eq_false (by omega)
        have c2 : decide (x.size < 7) = false := decide_eq_false h7
        have i0 : 0 < x.size := by omega
        have i1 : 1 < x.size := by omega
        have i2 : 2 < x.size := by omega
        have hkr : (x[2]'i2).toNat = kindR x := by unfold kindR; rw [dif_pos i2]
        by_cases hk : kindR x = 0
        · have HV := Lib.hid (HP.out.trans ((HCb.out (by rw [show firstR x = (noR, 4) from (if_neg h7).trans (if_pos (.inr (.inl hk)))]; decide)).trans (by rw [show firstR x = (noR, 4) from (if_neg h7).trans (if_pos (.inr (.inl hk)))])))
          rw [hk] at hkr
          clear hk
          go_wp2
          go_ret2
          exact ⟨_, by rw [HV.out]; rfl, by rw [HV.out]; exact World.ownsRow_nil _ _ _ _, HB.out⟩
        · have k1 : decide ((kindR x : Int) = 0) = false := decide_eq_false (by omega)
          have k2 : ((kindR x : Int) == 0) = false := by simp [hk]
          have k3 : (kindR x == 0) = false := by simp [hk]
          have k4 : decide (kindR x = 0) = false := decide_eq_false hk
          have hln := lenR_two x (by omega)
          have hla := UInt8.toNat_lt (x[0]'i0)
          have hlb := UInt8.toNat_lt (x[1]'i1)
          obtain ⟨a, ha⟩ : ∃ a, (x[0]'i0).toNat = a := ⟨_, rfl⟩
          obtain ⟨b, hb⟩ : ∃ b, (x[1]'i1).toNat = b := ⟨_, rfl⟩
          rw [ha, hb] at hln
          rw [ha] at hla
          rw [hb] at hlb
          have HKl := Lib.hid (kindR_lt x)
          obtain ⟨n, hn⟩ : ∃ n, lenR x = n := ⟨_, rfl⟩
          have HDoc := Lib.hid (fun (h1 : 7 + lenR x ≤ x.size) (h2 : lenR x ≤ 2048) => firstR_doc x h1 h2 hk)
          have HBad := Lib.hid (fun (h : 2048 < lenR x ∨ x.size < 7 + lenR x) => show firstR x = (noR, 4) from (if_neg h7).trans (if_pos (h.elim .inl (fun h => .inr (.inr h)))))
          rw [hn] at hln HDoc HBad
          generalize kindR x = k at hkr k1 k2 k3 k4 HKl HDoc
          clear hn hk h7
          have j0 : ((0 : Int) < (x.size : Int)) = True := eq_true (by omega)
          have j1 : ((1 : Int) < (x.size : Int)) = True := eq_true (by omega)
          have z0 : wrap64 (a : Int) = (a : Int) := by unfold wrap64; omega
          have z1 : wrap64 (b : Int) = (b : Int) := by unfold wrap64; omega
          have z2 : wrap64 (256 * (a : Int)) = 256 * (a : Int) := by unfold wrap64; omega
          have z3 : wrap64 (256 * (a : Int) + (b : Int)) = (n : Int) := by unfold wrap64; omega
          clear hln
          go_wp2_with fail
          replace HR := Lib.hid (show RcRow wr.drew 50 w.heap.size u4 done from HR.out)
          replace HB := Lib.hid (below_drew1 HB.out)
          refine start_ (n := 9) (S := fun _ => True) (ds := []) #[false, false, false, false, false, false, false, false, false] (by kernel_rfl) rfl rfl trivial (fun hHeld => ?_)
          refine with_tabW rg15_5.tab rg15_5.bits (fun HT_ HW_ => ?_)
          generalize wr.drew = w' at HR HB ⊢
          refine pure_ (i := 0) (N := some 19) (v := ?_) (a' := ?_) #[true, false, false, false, false, false, false, false, false] rfl rfl (any_of HT_.out (by kernel_rfl)) (fun _ _ _ h => h) (Or.inl ⟨by rfl, ?_⟩) ?_ ?_
          rotate_left
          · intro w'
            go_simp
            try with_reducible rfl
          rotate_left
          · simp (maxSteps := 4000000) only [Act.put, List.setIfInBounds_toArray, List.set_cons_zero, List.set_cons_succ, i64_w, i32_w]
            try rfl
          refine pure_ (i := 1) (N := some 20) (v := ?_) (a' := ?_) #[true, true, false, false, false, false, false, false, false] rfl rfl (any_of HT_.out (by kernel_rfl)) (fun _ _ _ h => h) (Or.inl ⟨by rfl, ?_⟩) ?_ ?_
          rotate_left
          · intro w'
            go_simp
            try with_reducible rfl
          rotate_left
          · simp (maxSteps := 4000000) only [Act.put, List.setIfInBounds_toArray, List.set_cons_zero, List.set_cons_succ, i64_w, i32_w]
            try rfl
          refine pure_ (i := 2) (N := some 21) (v := ?_) (a' := ?_) #[true, true, true, false, false, false, false, false, false] rfl rfl (any_of HT_.out (by kernel_rfl)) (fun _ _ _ h => h) (Or.inl ⟨by rfl, ?_⟩) ?_ ?_
          rotate_left
          · intro w'
            go_simp
            try with_reducible rfl
          rotate_left
          · simp (maxSteps := 4000000) only [Act.put, List.setIfInBounds_toArray, List.set_cons_zero, List.set_cons_succ, i64_w, i32_w]
            try rfl
          refine pure_ (i := 3) (N := some 22) (v := ?_) (a' := ?_) #[true, true, true, true, false, false, false, false, false] rfl rfl (any_of HT_.out (by kernel_rfl)) (fun _ _ _ h => h) (Or.inl ⟨by rfl, ?_⟩) ?_ ?_
          rotate_left
          · intro w'
            go_simp
            try with_reducible rfl
          rotate_left
          · simp (maxSteps := 4000000) only [Act.put, List.setIfInBounds_toArray, List.set_cons_zero, List.set_cons_succ, i64_w, i32_w]
            try rfl
          refine pure_ (i := 4) (N := some 23) (v := ?_) (a' := ?_) #[true, true, true, true, true, false, false, false, false] rfl rfl (any_of HT_.out (by kernel_rfl)) (fun _ _ _ h => h) (Or.inl ⟨by rfl, ?_⟩) ?_ ?_
          rotate_left
          · intro w'
            go_simp
            try with_reducible rfl
          rotate_left
          · simp (maxSteps := 4000000) only [Act.put, List.setIfInBounds_toArray, List.set_cons_zero, List.set_cons_succ, i64_w, i32_w]
            try rfl
          refine pure_ (i := 5) (N := some 24) (v := ?_) (a' := ?_) #[true, true, true, true, true, true, false, false, false] rfl rfl (any_of HT_.out (by kernel_rfl)) (fun _ _ _ h => h) (Or.inl ⟨by rfl, ?_⟩) ?_ ?_
          rotate_left
          · intro w'
            go_simp
            try with_reducible rfl
          rotate_left
          · simp (maxSteps := 4000000) only [Act.put, List.setIfInBounds_toArray, List.set_cons_zero, List.set_cons_succ, i64_w, i32_w]
            try rfl
          refine pure_ (i := 6) (N := some 25) (v := ?_) (a' := ?_) #[true, true, true, true, true, true, true, false, false] rfl rfl (any_of HT_.out (by kernel_rfl)) (fun _ _ _ h => h) (Or.inl ⟨by rfl, ?_⟩) ?_ ?_
          rotate_left
          · intro w'
            go_simp
            try with_reducible rfl
          rotate_left
          · simp (maxSteps := 4000000) only [Act.put, List.setIfInBounds_toArray, List.set_cons_zero, List.set_cons_succ, i64_w, i32_w]
            try rfl
          refine pure_ (i := 7) (N := some 26) (v := ?_) (a' := ?_) #[true, true, true, true, true, true, true, true, false] rfl rfl (any_of HT_.out (by kernel_rfl)) (fun _ _ _ h => h) (Or.inl ⟨by rfl, ?_⟩) ?_ ?_
          rotate_left
          · intro w'
            go_simp
            try with_reducible rfl
          rotate_left
          · simp (maxSteps := 4000000) only [Act.put, List.setIfInBounds_toArray, List.set_cons_zero, List.set_cons_succ, i64_w, i32_w]
            try rfl
          refine pure_ (i := 8) (N := some 5) (v := ?_) (a' := ?_) #[true, true, true, true, true, true, true, true, true] rfl rfl (any_of HT_.out (by kernel_rfl)) (fun _ _ _ h => h) (Or.inl ⟨by rfl, ?_⟩) ?_ ?_
          rotate_left
          · intro w'
            go_simp
            try with_reducible rfl
          rotate_left
          · simp (maxSteps := 4000000) only [Act.put, List.setIfInBounds_toArray, List.set_cons_zero, List.set_cons_succ, i64_w, i32_w]
            try rfl
          refine done_ (done_of HT_.out (by kernel_rfl)) ?_
          rw [z3]
          clear j0 j1 z0 z1 z2 z3 ha hb hla hlb i0 i1 k1 k2 k3 k4
          by_cases hn1 : 2048 < n
          · have HV := Lib.hid (HP.out.trans ((HCb.out (by rw [HBad.out (.inl hn1)]; decide)).trans (by rw [HBad.out (.inl hn1)])))
            have l1 : decide (2048 < n) = true := decide_eq_true hn1
            have l2 : decide (2048 < (n : Int)) = true := decide_eq_true (by omega)
            go_wp2
            go_ret2
            exact ⟨_, by rw [HV.out]; rfl, by rw [HV.out]; exact World.ownsRow_nil _ _ _ _, HB.out⟩
          have l1 : decide (2048 < n) = false := decide_eq_false hn1
          have l2 : decide (2048 < (n : Int)) = false := decide_eq_false (by omega)
          by_cases hn2 : x.size < 7 + n
          · have HV := Lib.hid (HP.out.trans ((HCb.out (by rw [HBad.out (.inr hn2)]; decide)).trans (by rw [HBad.out (.inr hn2)])))
            have l3 : decide (x.size < 7 + n) = true := decide_eq_true hn2
            have l4 : decide ((x.size : Int) < 7 + (n : Int)) = true := decide_eq_true (by omega)
            go_wp2
            go_ret2
            exact ⟨_, by rw [HV.out]; rfl, by rw [HV.out]; exact World.ownsRow_nil _ _ _ _, HB.out⟩
          have l3 : decide (x.size < 7 + n) = false := decide_eq_false hn2
          have l4 : decide ((x.size : Int) < 7 + (n : Int)) = false := decide_eq_false (by omega)
          have HD := Lib.hid (HDoc.out (by omega) (by omega))
          have pa1 : (0 ≤ 3 + (n : Int)) = True := eq_true (by omega)
          have pa2 : (3 + (n : Int) ≤ (x.size : Int)) = True := eq_true (by omega)
          have pa3 : (3 + n ≤ x.size) = True := eq_true (by omega)
          have pa4 : decide (3 + n ≤ x.size) = true := decide_eq_true (by omega)
          have pa5 : (3 + (n : Int)).toNat = 3 + n := by omega
          have pb1 : (0 ≤ 7 + (n : Int)) = True := eq_true (by omega)
          have pb2 : (7 + (n : Int) ≤ (x.size : Int)) = True := eq_true (by omega)
          have pb3 : (7 + n ≤ x.size) = True := eq_true (by omega)
          have pb4 : decide (7 + n ≤ x.size) = true := decide_eq_true (by omega)
          have pb5 : (7 + (n : Int)).toNat = 7 + n := by omega
          have pc1 : (3 + (n : Int) ≤ 7 + (n : Int)) = True := eq_true (by omega)
          have pc2 : (3 + n ≤ 7 + n) = True := eq_true (by omega)
          have pc3 : decide (3 + n ≤ 7 + n) = true := decide_eq_true (by omega)
          have HN := Lib.hid (And.intro hn1 hn2)
          clear HDoc HBad
          go_wp2_with fail
          obtain ⟨hd, hhd⟩ : ∃ hd, x.extract 0 (3 + n) = hd := ⟨_, rfl⟩
          have hz : hd.size = 3 + n := by rw [← hhd, ByteArray.size_extract]; omega
          rw [hhd] at HD ⊢
          refine (tillrollref02_Sum.calls (hd.size * 10 + 100) hd _ _ (ref_sum_f hd (by omega) _ (by omega))).mono ?_
          rintro e wx ⟨rfl, hdr⟩
          replace HR := Lib.hid (HR.out.below hdr.below)
          replace HB := Lib.hid (chainD HB.out hdr)
          clear hdr hhd hz
          have hlt4 : (sum hd.data.toList).toNat < 4294967296 := (sum hd.data.toList).isLt
          unfold v32
          generalize (sum hd.data.toList).toNat = sm at HD hlt4 ⊢
          obtain ⟨p4, hp4⟩ : ∃ p4, str (putL sm 4) = p4 := ⟨_, rfl⟩
          have HP4 := Lib.hid (show tillrollref01_Put.f 20 (sm : Int) ((4 : Nat) : Int) = some p4 by rw [← hp4]; exact ref_put_in sm (by omega) 4 (by decide) (by decide) 20 (by decide))
          rw [hp4] at HD
          clear hlt4 hp4
          go_wp2_with fail
          refine (tillrollref01_Put.calls _ _ _ _ _ HP4.out).mono ?_
          rintro e wx ⟨rfl, hd⟩
          replace HR := Lib.hid (HR.out.below hd)
          replace HB := Lib.hid (chain2 HB.out hd)
          clear hd
          by_cases heq : p4 = x.extract (3 + n) (7 + n)
          · replace HD := HD.out.trans (if_pos heq)
            have hbe : (p4.toList == (x.extract (3 + n) (7 + n)).toList) = true := (Lib.bytes_beq_iff p4 (x.extract (3 + n) (7 + n))).mpr heq
            obtain ⟨body, hbody⟩ : ∃ body, x.extract 3 (3 + n) = body := ⟨_, rfl⟩
            rw [hbody] at HD
            have HBz := Lib.hid (show body.size = n by rw [← hbody, ByteArray.size_extract]; have := HN.out.2; omega)
            have HV := Lib.hid (HP.out.trans ((HCs.out (by rw [HD]))))
            rw [HD] at HV
            have HRs := Lib.hid (show restR x = x.extract (7 + n) x.size by unfold restR; rw [HD]; show x.extract (7 + body.size) x.size = _; rw [HBz.out])
            clear HD heq HCs HCb
            have pd1 : ((3 : Int) ≤ 3 + (n : Int)) = True := eq_true (by omega)
            have pd2 : (3 ≤ 3 + n) = True := eq_true (by omega)
            have pd3 : decide (3 ≤ 3 + n) = true := decide_eq_true (by omega)
            have j2 : ((2 : Int) < (x.size : Int)) = True := eq_true (by omega)
            have z4 : wrap64 (3 + (n : Int)) = 3 + (n : Int) := by unfold wrap64; omega
            obtain ⟨va, vc, rfl⟩ := HR.out.form
            have hbe2 := hbe
            clear hbe2
            go_wp2_with fail
            replace HR := Lib.hid (show RcRow wx.drew 50 w.heap.size (.slice va done.length vc) done from HR.out)
            replace HB := Lib.hid (below_drew1 HB.out)
            refine start_ (n := 11) (S := fun _ => True) (ds := []) #[false, false, false, false, false, false, false, false, false, false, false] (by kernel_rfl) rfl rfl trivial (fun hHeld => ?_)
            refine with_tabW rg15_12.tab rg15_12.bits (fun HT_ HW_ => ?_)
            generalize wx.drew = w' at HR HB ⊢
            refine pure_ (i := 0) (N := some 51) (v := ?_) (a' := ?_) #[true, false, false, false, false, false, false, false, false, false, false] rfl rfl (any_of HT_.out (by kernel_rfl)) (fun _ _ _ h => h) (Or.inl ⟨by rfl, ?_⟩) ?_ ?_
            rotate_left
            · intro w'
              go_simp
              try with_reducible rfl
            rotate_left
            · simp (maxSteps := 4000000) only [Act.put, List.setIfInBounds_toArray, List.set_cons_zero, List.set_cons_succ, i64_w, i32_w]
              try rfl
            refine pure_ (i := 1) (N := some 52) (v := ?_) (a' := ?_) #[true, true, false, false, false, false, false, false, false, false, false] rfl rfl (any_of HT_.out (by kernel_rfl)) (fun _ _ _ h => h) (Or.inl ⟨by rfl, ?_⟩) ?_ ?_
            rotate_left
            · intro w'
              go_simp
              try with_reducible rfl
            rotate_left
            · simp (maxSteps := 4000000) only [Act.put, List.setIfInBounds_toArray, List.set_cons_zero, List.set_cons_succ, i64_w, i32_w]
              try rfl
            refine pure_ (i := 2) (N := some 53) (v := ?_) (a' := ?_) #[true, true, true, false, false, false, false, false, false, false, false] rfl rfl (any_of HT_.out (by kernel_rfl)) (fun _ _ _ h => h) (Or.inl ⟨by rfl, ?_⟩) ?_ ?_
            rotate_left
            · intro w'
              go_simp
              try with_reducible rfl
            rotate_left
            · simp (maxSteps := 4000000) only [Act.put, List.setIfInBounds_toArray, List.set_cons_zero, List.set_cons_succ, i64_w, i32_w]
              try rfl
            refine pure_ (i := 3) (N := some 54) (v := ?_) (a' := ?_) #[true, true, true, true, false, false, false, false, false, false, false] rfl rfl (any_of HT_.out (by kernel_rfl)) (fun _ _ _ h => h) (Or.inl ⟨by rfl, ?_⟩) ?_ ?_
            rotate_left
            · intro w'
              go_simp
              try with_reducible rfl
            rotate_left
            · simp (maxSteps := 4000000) only [Act.put, List.setIfInBounds_toArray, List.set_cons_zero, List.set_cons_succ, i64_w, i32_w]
              try rfl
            refine pure_ (i := 4) (N := some 55) (v := ?_) (a' := ?_) #[true, true, true, true, true, false, false, false, false, false, false] rfl rfl (any_of HT_.out (by kernel_rfl)) (fun _ _ _ h => h) (Or.inl ⟨by rfl, ?_⟩) ?_ ?_
            rotate_left
            · intro w'
              go_simp
              try with_reducible rfl
            rotate_left
            · simp (maxSteps := 4000000) only [Act.put, List.setIfInBounds_toArray, List.set_cons_zero, List.set_cons_succ, i64_w, i32_w]
              try rfl
            refine pure_ (i := 5) (N := some 56) (v := ?_) (a' := ?_) #[true, true, true, true, true, true, false, false, false, false, false] rfl rfl (any_of HT_.out (by kernel_rfl)) (fun _ _ _ h => h) (Or.inl ⟨by rfl, ?_⟩) ?_ ?_
            rotate_left
            · intro w'
              go_simp
              try with_reducible rfl
            rotate_left
            · simp (maxSteps := 4000000) only [Act.put, List.setIfInBounds_toArray, List.set_cons_zero, List.set_cons_succ, i64_w, i32_w]
              try rfl
            refine pure_ (i := 6) (N := some 57) (v := ?_) (a' := ?_) #[true, true, true, true, true, true, true, false, false, false, false] rfl rfl (any_of HT_.out (by kernel_rfl)) (fun _ _ _ h => h) (Or.inl ⟨by rfl, ?_⟩) ?_ ?_
            rotate_left
            · intro w'
              go_simp
              try with_reducible rfl
            rotate_left
            · simp (maxSteps := 4000000) only [Act.put, List.setIfInBounds_toArray, List.set_cons_zero, List.set_cons_succ, i64_w, i32_w]
              try rfl
            refine pure_ (i := 7) (N := some 58) (v := ?_) (a' := ?_) #[true, true, true, true, true, true, true, true, false, false, false] rfl rfl (any_of HT_.out (by kernel_rfl)) (fun _ _ _ h => h) (Or.inl ⟨by rfl, ?_⟩) ?_ ?_
            rotate_left
            · intro w'
              go_simp
              try with_reducible rfl
            rotate_left
            · simp (maxSteps := 4000000) only [Act.put, List.setIfInBounds_toArray, List.set_cons_zero, List.set_cons_succ, i64_w, i32_w]
              try rfl
            refine one_ (i := 8) (N := some 59) #[true, true, true, true, true, true, true, true, true, false, false] rfl rfl (one_of HT_.out (by kernel_rfl)) (by decide) (fun K hK => ?_)
            refine value_ (v := .slice (some ⟨w'.heap.size, 0, none⟩) 1 1) (w1 := w'.alloc (.cells #[.int .u8 (k : Int), .string body] 50)) (by rfl) rfl ?_ ?_
            · (go_simp)
            have HN2 := Lib.hid (heap_alloc_new w' (.cells #[.int .u8 (k : Int), .string body] 50))
            have ha := below_alloc (Below.refl w'.heap.size w') (.cells #[.int .u8 (k : Int), .string body] 50)
            replace HR := Lib.hid (HR.out.below ha)
            replace HB := Lib.hid (chain2 HB.out ha)
            clear ha
            generalize w'.heap.size = bN at HN2 ⊢
            generalize w'.alloc (.cells #[.int .u8 (k : Int), .string body] 50) = w' at HN2 HR HB ⊢
            refine hK.out _ _ (trivial) (fun hHeld => ?_)
            clear hK K
            refine norm_ (a' := ?_) ?_ ?_
            rotate_left
            · show Act.put _ (some 59) _ = _
              simp (maxSteps := 4000000) only [Act.put, List.setIfInBounds_toArray, List.set_cons_zero, List.set_cons_succ, i64_w, i32_w]
              try rfl
            refine one_ (i := 9) (N := some 60) #[true, true, true, true, true, true, true, true, true, true, false] rfl rfl (one_of HT_.out (by kernel_rfl)) (by decide) (fun K hK => ?_)
            obtain ⟨ax, cx, w', hr, ho2, hgr⟩ := rc_add Try.underlying28 info50 _ w.heap.size _ _ w' HR.out (by have := HF.out.2; have := HS.out; omega) (k, body) bN HN2.out HB.out.size
            refine value_ (v := .slice ax (done.length + 1) cx) (w1 := w') (by rfl) rfl (append_run rfl (by rfl) (by rfl) hr) ?_
            clear hr
            replace HB := Lib.hid (pw_below_grown HB.out _ HB.out.size hgr (fun k hk => (World.ownsRow.lt HR.out k hk).1))
            replace HR := Lib.hid ho2
            clear ho2 hgr HN2
            refine hK.out _ _ (trivial) (fun hHeld => ?_)
            clear hK K
            refine norm_ (a' := ?_) ?_ ?_
            rotate_left
            · show Act.put _ (some 60) _ = _
              simp (maxSteps := 4000000) only [Act.put, List.setIfInBounds_toArray, List.set_cons_zero, List.set_cons_succ, i64_w, i32_w]
              try rfl
            refine pure_ (i := 10) (N := some 4) (v := ?_) (a' := ?_) #[true, true, true, true, true, true, true, true, true, true, true] rfl rfl (any_of HT_.out (by kernel_rfl)) (fun _ _ _ h => h) (Or.inl ⟨by rfl, ?_⟩) ?_ ?_
            rotate_left
            · intro w'
              go_simp
              try with_reducible rfl
            rotate_left
            · simp (maxSteps := 4000000) only [Act.put, List.setIfInBounds_toArray, List.set_cons_zero, List.set_cons_succ, i64_w, i32_w]
              try rfl
            refine done_ (done_of HT_.out (by kernel_rfl)) ?_
            go_wp2
            go_roundw
            case rel => exact ⟨f, _, done ++ [(k, body)], rfl, by rw [ByteArray.size_extract]; have := HF.out.1; have := HN.out.2; omega, by rw [ByteArray.size_extract, List.length_append, List.length_singleton]; have := HF.out.2; have := HN.out.2; omega, by rw [← HRs.out]; exact HV.out, HR.out, HB.out⟩
            case measure => show (x.extract (7 + n) x.size).size < x.size; rw [ByteArray.size_extract]; have := HN.out.2; omega
          · replace HD := HD.out.trans (if_neg heq)
            have hbe : (p4.toList == (x.extract (3 + n) (7 + n)).toList) = false := (Lib.bytes_beq_false_iff p4 (x.extract (3 + n) (7 + n))).mpr heq
            have HV := Lib.hid (HP.out.trans ((HCb.out (by rw [HD]; decide)).trans (by rw [HD])))
            clear HD heq
            go_wp2
            go_ret2
            exact ⟨_, by rw [HV.out]; rfl, by rw [HV.out]; exact World.ownsRow_nil _ _ _ _, HB.out⟩
end Go.Proofs.Ytnojomoeaofkoaa
