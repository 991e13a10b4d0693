/- tag: Parse. No conditions beyond the form's own reach. -/
import Derived.Test.YtfomgljhcegjdaaXTag
namespace Go.Proofs.Ytfomgljhcegjdaa
open Go.RowKit Go.Lib Go.Proofs.Ytfomgljhcegjdaa.P Go.Proofs.Ytfomgljhcegjdaa.BeS Go.Proofs.Ytfomgljhcegjdaa.PoS Go.Proofs.YtfomgljhcegjdaaW.PrintWords Go.Proofs.YtfomgljhcegjdaaW.PrintLast Go.Proofs.YtfomgljhcegjdaaW.PrintMore
set_option linter.unusedVariables false
set_option linter.unusedSimpArgs false
def rg14_5.T : Bool × List (List Nat × List Nat) := (true, [([], []), ([0], [0]), ([], []), ([2], [2]), ([], []), ([4, 1, 1, 0, 1, 4], [1, 4]), ([3, 5, 0, 1, 2, 3, 4, 5], [3])])
def rg14_5.B : List Nat := [0, 1, 0, 4, 0, 19, 63]
theorem rg14_5.tab : rtab .any (opsOf Try.f14 5) = rg14_5.T := by kernel_rfl
theorem rg14_5.bits : waitsOk rg14_5.T.2 rg14_5.B = true := by kernel_rfl
def rg14_8.T : Bool × List (List Nat × List Nat) := (true, [([], []), ([], []), ([], []), ([0, 1, 2], [0, 1, 2]), ([], []), ([4], [4]), ([3, 5], [3, 5]), ([6, 3], [6])])
def rg14_8.B : List Nat := [0, 0, 0, 7, 0, 16, 63, 127]
theorem rg14_8.tab : rtab .any (opsOf Try.f14 8) = rg14_8.T := by kernel_rfl
theorem rg14_8.bits : waitsOk rg14_8.T.2 rg14_8.B = true := by kernel_rfl
theorem TabAt.setT {w : World} {g b i : Nat} {v : Value} (h : TabAt w g) (hne : g ≠ b) : TabAt (w.setCell ⟨b, i, none⟩ v) g := fun j hj => by
  have h1 : (w.setCell ⟨b, i, none⟩ v).heap[g]? = w.heap[g]? := Below.heap_setCell w ⟨b, i, none⟩ v g hne
  have h2 := h j hj
  unfold World.cell? at h2 ⊢
  rw [h1]
  exact h2
theorem TabAt.lt {w : World} {g : Nat} (h : TabAt w g) : g < w.heap.size := World.block_lt_of_cell? w _ (h 0 (by decide))
theorem ret_tg {t t' : Tg} {c c' : Int} (h : (t, c) = (t', c')) : Ending.returned (.tuple #[tgV t, .int .i64 c]) = .returned (.tuple #[tgV t', .int .i64 c']) := by obtain ⟨rfl, rfl⟩ := Prod.mk.inj h; rfl
theorem str_inj {a b : List UInt8} (h : str a = str b) : a = b := by have := congrArg (fun s => s.data.toList) h; simpa [str_data] using this
set_option maxHeartbeats 16000000 in
set_option maxRecDepth 100000 in
theorem parse_ok (g : Nat) (d s : ByteArray) (hd0 : d.size ≤ 10000) (hs0 : s.size ≤ 10000) (w : World) (hT : TabAt w g) :
    Calls Try.prog 14 #[.pointer (some ⟨g, 0, none⟩), .string d, .string s] w fun e w' => e = .returned (.tuple #[tgV (parseT d.data.toList s.data.toList).1, .int .i64 (parseT d.data.toList s.data.toList).2]) ∧ TabAt w' g ∧ Below w.heap.size w w' := by
  obtain ⟨P, hP⟩ : ∃ P, P = parseT d.data.toList s.data.toList := ⟨_, rfl⟩
  rw [← hP]
  obtain ⟨P1, P2⟩ := P
  simp only
  have HP := Lib.hid hP; clear hP
  have HD := Lib.hid (And.intro hd0 hs0); clear hd0 hs0
  have HGT := Lib.hid (show g ≠ w.heap.size from Nat.ne_of_lt hT.lt)
  have HX := Lib.hid (heap_alloc_new w (.cells #[.int .u8 0, .int .i64 0, .int .u64 0, .int .i64 0, .int .i64 0] 37))
  have ha := below_alloc (Below.refl w.heap.size w) (.cells #[.int .u8 0, .int .i64 0, .int .u64 0, .int .i64 0, .int .i64 0] 37)
  have HT := Lib.hid (hT.below ha); clear hT
  have HB := Lib.hid ha; clear ha
  obtain ⟨b0, hb0⟩ : ∃ b0, b0 = w.heap.size := ⟨_, rfl⟩
  have HG0 := Lib.hid (show w.heap.size ≤ b0 from Nat.le_of_eq hb0.symm)
  by_cases hs : s.size = 32
  · have HN := Lib.hid (show parseT d.data.toList s.data.toList = if (readT s.data.toList).right = false ∨ bytesT (readT s.data.toList) ≠ s.data.toList.take 28 then (Tg.zero, 4) else if sumT d.data.toList (s.data.toList.take 28) ≠ s.data.toList.drop 28 then (Tg.zero, 5) else (readT s.data.toList, 0) from if_neg (by rw [Array.length_toList]; exact fun h => h hs))
    have HRd := Lib.hid (read_ok s hs)
    have hq : (readT s.data.toList).seq < 18446744073709551616 := by
      have h1 : ((s.data.toList.drop 4).take 8).length = 8 := by rw [List.length_take, List.length_drop, Array.length_toList]; change min 8 (s.size - 4) = 8; omega
      have := getN_lt ((s.data.toList.drop 4).take 8)
      rw [h1] at this
      exact this
    have HBy := Lib.hid (fun hr => bytes_ok (readT s.data.toList) hr hq); clear hq
    have HRf := Lib.hid (right_f (readT s.data.toList))
    have HE1 := Lib.hid (show s.extract 0 28 = str (s.data.toList.take 28) by
      conv => lhs; rw [of_data s, str_extract]
      rw [List.drop_zero])
    have HE2 := Lib.hid (show s.extract 28 s.size = str (s.data.toList.drop 28) by
      conv => lhs; rw [of_data s, str_extract, str_size]
      rw [List.take_length])
    have hL : s.data.toList.length = 32 := by rw [Array.length_toList]; exact hs
    have HL := Lib.hid hL; clear hL
    rw [hs] at HE2
    generalize readT s.data.toList = t at HN HRd HBy HRf
    go_enter Try.func14, Try.ntmps14
    go_wp2_with fail
    generalize w.alloc (.cells #[.int .u8 0, .int .i64 0, .int .u64 0, .int .i64 0, .int .i64 0] 37) = w1 at HX HT HB ⊢
    rw [← hb0] at HX HGT ⊢
    clear hb0
    replace HT := Lib.hid (show TabAt w1.drew g from HT.out)
    replace HB := Lib.hid (show Below w.heap.size w w1.drew from below_drew1 HB.out)
    replace HX := Lib.hid (show w1.drew.heap[b0]? = some (.cells #[.int .u8 0, .int .i64 0, .int .u64 0, .int .i64 0, .int .i64 0] 37 (0, 0)) from HX.out)
    refine start_ (n := 7) (S := fun _ => True) (ds := [5]) #[false, false, false, false, false, false, false] (by kernel_rfl) rfl rfl trivial (fun hHeld => ?_)
    refine with_tabW rg14_5.tab rg14_5.bits (fun HT_ HW_ => ?_)
    generalize w1.drew = wz at HX HT HB ⊢
    refine pure_ (i := 0) (N := some 19) (v := ?_) (a' := ?_) #[true, false, false, false, false, false, false] rfl rfl (any_of HT_.out (by kernel_rfl)) (fun _ _ _ h => h) (Or.inl ⟨by rfl, ?_⟩) ?_ ?_
    rotate_left
    · intro w'
      go_simp
      try with_reducible rfl
    rotate_left
    · simp (maxSteps := 4000000) only [Act.put, List.setIfInBounds_toArray, List.set_cons_zero, List.set_cons_succ, i64_w, i32_w]
      try rfl
    refine pure_ (i := 2) (N := some 21) (v := ?_) (a' := ?_) #[true, false, true, false, false, false, false] rfl rfl (any_of HT_.out (by kernel_rfl)) (fun _ _ _ h => h) (Or.inl ⟨by rfl, ?_⟩) ?_ ?_
    rotate_left
    · intro w'
      go_simp
      try with_reducible rfl
    rotate_left
    · simp (maxSteps := 4000000) only [Act.put, List.setIfInBounds_toArray, List.set_cons_zero, List.set_cons_succ, i64_w, i32_w]
      try rfl
    refine pure_ (i := 3) (N := some 22) (v := ?_) (a' := ?_) #[true, false, true, true, false, false, false] rfl rfl (any_of HT_.out (by kernel_rfl)) (fun _ _ _ h => h) (Or.inl ⟨by rfl, ?_⟩) ?_ ?_
    rotate_left
    · intro w'
      go_simp
      try with_reducible rfl
    rotate_left
    · simp (maxSteps := 4000000) only [Act.put, List.setIfInBounds_toArray, List.set_cons_zero, List.set_cons_succ, i64_w, i32_w]
      try rfl
    refine two_ (i := 1) (j := 4) (Ni := some 20) (Nj := some 8) #[true, true, true, true, false, false, false] #[true, false, true, true, true, false, false] rfl rfl rfl rfl  (two_of HT_.out (by kernel_rfl)) (by decide) (by decide)  (fun K hK => ?_) (fun K hK => ?_) 
    · refine goes_ Try.func25 (by kernel_rfl) rfl #[(.string s)] (by rfl) rfl rfl (by (try simp only [List.map_toArray, List.map_cons, List.map_nil]); first | done | rfl) ?_
      refine (HRd.out _).mono ?_
      rintro e w' ⟨rfl, hd⟩
      refine ⟨_, rfl, ?_⟩
      replace HX := Lib.hid (blk_below HX.out hd)
      replace HT := Lib.hid (HT.out.below hd)
      replace HB := Lib.hid (chain2 HB.out hd)
      (try replace HXt := Lib.hid (blk_below HXt.out hd))
      clear hd
      obtain ⟨wz, rfl⟩ : ∃ wz, wz = w' := ⟨_, rfl⟩
      refine hK.out _ _ (trivial) (fun hHeld => ?_)
      clear hK K
      refine norm_ (a' := ?_) ?_ ?_
      rotate_left
      · show Act.put _ (some 20) _ = _
        simp (maxSteps := 4000000) only [Act.put, List.setIfInBounds_toArray, List.set_cons_zero, List.set_cons_succ, i64_w, i32_w]
        try rfl
      refine one_ (i := 4) (N := some 8) #[true, true, true, true, true, false, false] rfl rfl (one_of HT_.out (by kernel_rfl)) (by decide) (fun K hK => ?_)
      refine value_ (v := (.pointer (some ⟨wz.heap.size, 0, none⟩))) (w1 := wz.alloc (.cells #[.int .u8 0, .int .i64 0, .int .u64 0, .int .i64 0, .int .i64 0] 37)) (by rfl) rfl ?_ ?_
      · (go_simp)
      have HXt := Lib.hid (heap_alloc_new wz (.cells #[.int .u8 0, .int .i64 0, .int .u64 0, .int .i64 0, .int .i64 0] 37))
      have ha := below_alloc (Below.refl wz.heap.size wz) (.cells #[.int .u8 0, .int .i64 0, .int .u64 0, .int .i64 0, .int .i64 0] 37)
      have HNt := Lib.hid (Nat.ne_of_lt (blk_lt HX.out))
      have HGt := Lib.hid (Nat.ne_of_lt HT.out.lt)
      have HGb := Lib.hid HB.out.size
      replace HX := Lib.hid (blk_below HX.out ha)
      replace HT := Lib.hid (HT.out.below ha)
      replace HB := Lib.hid (chain2 HB.out ha)
      clear ha
      generalize wz.heap.size = bt at HXt HNt HGt HGb ⊢
      generalize wz.alloc (.cells #[.int .u8 0, .int .i64 0, .int .u64 0, .int .i64 0, .int .i64 0] 37) = wz at HX HT HB HXt ⊢
      refine hK.out _ _ (trivial) (fun hHeld => ?_)
      clear hK K
      refine norm_ (a' := ?_) ?_ ?_
      rotate_left
      · show Act.put _ (some 8) _ = _
        simp (maxSteps := 4000000) only [Act.put, List.setIfInBounds_toArray, List.set_cons_zero, List.set_cons_succ, i64_w, i32_w]
        try rfl
      refine last_ (i := 5) (N := none) #[true, true, true, true, true, true, false] rfl rfl (one_of HT_.out (by kernel_rfl)) (by decide) (fun K hK => ?_)
      refine skip_ (w1 := ((((wz.setCell ⟨bt, 0, none⟩ (.int .u8 (t.kind : Int))).setCell ⟨bt, 1, none⟩ (.int .i64 t.log)).setCell ⟨bt, 2, none⟩ (.int .u64 (t.seq : Int))).setCell ⟨bt, 3, none⟩ (.int .i64 t.pos)).setCell ⟨bt, 4, none⟩ (.int .i64 t.len)) (by rfl) rfl ?_ ?_
      · (obtain ⟨y0, y1, y2, y3, y4⟩ := tg_cells HXt.out; have f0 := fun i => pl_frozenT HXt.out i; unfold tgV; go_simp)
      refine hK.out _ _ ?_
      clear hK K
      refine pure_ (i := 6) (N := some 9) (v := ?_) (a' := ?_) #[true, true, true, true, true, true, true] rfl rfl (any_of HT_.out (by kernel_rfl)) (fun _ _ _ h => h) (Or.inl ⟨by rfl, ?_⟩) ?_ ?_
      rotate_left
      · intro w'
        go_simp
        try with_reducible rfl
      rotate_left
      · simp (maxSteps := 4000000) only [Act.put, List.setIfInBounds_toArray, List.set_cons_zero, List.set_cons_succ, i64_w, i32_w]
        try rfl
      refine done_ (done_of HT_.out (by kernel_rfl)) ?_
      generalize hw9 : ((((wz.setCell ⟨bt, 0, none⟩ (.int .u8 (t.kind : Int))).setCell ⟨bt, 1, none⟩ (.int .i64 t.log)).setCell ⟨bt, 2, none⟩ (.int .u64 (t.seq : Int))).setCell ⟨bt, 3, none⟩ (.int .i64 t.pos)).setCell ⟨bt, 4, none⟩ (.int .i64 t.len) = w9
      replace HXt := Lib.hid (show w9.heap[bt]? = _ from hw9 ▸ heap_setCell_same _ bt 4 _ _ (.int .i64 t.len) (heap_setCell_same _ bt 3 _ _ (.int .i64 t.pos) (heap_setCell_same _ bt 2 _ _ (.int .u64 (t.seq : Int)) (heap_setCell_same _ bt 1 _ _ (.int .i64 t.log) (heap_setCell_same _ bt 0 _ _ (.int .u8 (t.kind : Int)) HXt.out)))))
      replace HX := Lib.hid (show w9.heap[b0]? = some (.cells #[.int .u8 0, .int .i64 0, .int .u64 0, .int .i64 0, .int .i64 0] 37 (0, 0)) by rw [← hw9, heap_setCell_other _ _ b0 _ HNt.out, heap_setCell_other _ _ b0 _ HNt.out, heap_setCell_other _ _ b0 _ HNt.out, heap_setCell_other _ _ b0 _ HNt.out, heap_setCell_other _ _ b0 _ HNt.out]; exact HX.out)
      replace HT := Lib.hid (show TabAt w9 g from hw9 ▸ ((((HT.out.setT HGt.out).setT HGt.out).setT HGt.out).setT HGt.out).setT HGt.out)
      replace HB := Lib.hid (show Below w.heap.size w w9 from hw9 ▸ ((((HB.out.setCell (p := ⟨bt, 0, none⟩) HGb.out _).setCell (p := ⟨bt, 1, none⟩) HGb.out _).setCell (p := ⟨bt, 2, none⟩) HGb.out _).setCell (p := ⟨bt, 3, none⟩) HGb.out _).setCell (p := ⟨bt, 4, none⟩) HGb.out _)
      clear hw9
      obtain ⟨k, p1, q, p3, p4⟩ := t
      unfold tgV at HBy ⊢
      simp only at HXt HRf HBy ⊢
      obtain ⟨x0, x1, x2, x3, x4⟩ := tg_cells HXt.out
      generalize hR : Tg.right ⟨k, p1, q, p3, p4⟩ = R at HRf HBy HN
      clear hR
      generalize bytesT ⟨k, p1, q, p3, p4⟩ = bT at HBy HN
      go_wp2_with fail
      refine (tag_Tag_Right.calls _ _ _ _ _ _ _ HRf.out).mono ?_
      rintro e w10 ⟨rfl, hd⟩
      replace HXt := Lib.hid (blk_below HXt.out hd)
      replace HX := Lib.hid (blk_below HX.out hd)
      replace HT := Lib.hid (HT.out.below hd)
      replace HB := Lib.hid (chain2 HB.out hd); clear hd
      obtain ⟨x0, x1, x2, x3, x4⟩ := tg_cells HXt.out
      obtain ⟨z0, z1, z2, z3, z4⟩ := tg_cells HX.out
      have f2 := fun i => pl_frozenT HX.out i
      cases R with
      | false =>
        have HV := Lib.hid (show (P1, P2) = (Tg.zero, 4) by rw [HP.out, HN.out]; exact if_pos (.inl rfl))
        go_wp2
        have hx := heap_setCell_same _ b0 4 _ _ (.int .i64 0) (heap_setCell_same _ b0 3 _ _ (.int .i64 0) (heap_setCell_same _ b0 2 _ _ (.int .u64 0) (heap_setCell_same _ b0 1 _ _ (.int .i64 0) (heap_setCell_same _ b0 0 _ _ (.int .u8 0) HX.out))))
        refine bodyPost_ret (results_ct rfl _ _ b0 37 _ (0, 0) _ rfl hx Try.underlying37 rfl tg_size) rfl ?_
        exact ⟨ret_tg HV.out.symm, (((((HT.out.setT HGT.out).setT HGT.out).setT HGT.out).setT HGT.out).setT HGT.out), (((((HB.out.setCell (p := ⟨b0, 0, none⟩) HG0.out _).setCell (p := ⟨b0, 1, none⟩) HG0.out _).setCell (p := ⟨b0, 2, none⟩) HG0.out _).setCell (p := ⟨b0, 3, none⟩) HG0.out _).setCell (p := ⟨b0, 4, none⟩) HG0.out _)⟩
      | true =>
        go_wp2_with fail
        refine (HBy.out (by first | rfl | trivial) w10).mono ?_
        rintro e w11 ⟨rfl, hd⟩
        clear x0 x1 x2 x3 x4 z0 z1 z2 z3 z4 f2
        replace HXt := Lib.hid (blk_below HXt.out hd)
        replace HX := Lib.hid (blk_below HX.out hd)
        replace HT := Lib.hid (HT.out.below hd)
        replace HB := Lib.hid (chain2 HB.out hd); clear hd
        obtain ⟨z0, z1, z2, z3, z4⟩ := tg_cells HX.out
        have f2 := fun i => pl_frozenT HX.out i
        generalize s.extract 0 28 = S2 at HE1 ⊢
        have HDt := Lib.hid (show S2.data.toList = s.data.toList.take 28 by rw [HE1.out, str_data])
        have HSz := Lib.hid (show S2.size = 28 by rw [HE1.out, str_size, List.length_take, HL.out]; rfl)
        by_cases heq : bT = s.data.toList.take 28
        · have HS12 := Lib.hid (show str bT = S2 by rw [HE1.out, heq])
          have HBt := Lib.hid heq; clear heq
          rw [HS12.out]
          go_wp2_with fail
          clear z0 z1 z2 z3 z4 f2
          obtain ⟨A, hA⟩ : ∃ A, A = str (sumT d.data.toList S2.data.toList) := ⟨_, rfl⟩
          have HA := Lib.hid hA; clear hA
          replace HT := Lib.hid (show TabAt w11.drew g from HT.out)
          replace HB := Lib.hid (show Below w.heap.size w w11.drew from below_drew1 HB.out)
          replace HX := Lib.hid (show w11.drew.heap[b0]? = some (.cells #[.int .u8 0, .int .i64 0, .int .u64 0, .int .i64 0, .int .i64 0] 37 (0, 0)) from HX.out)
          replace HXt := Lib.hid (show w11.drew.heap[bt]? = some (.cells #[.int .u8 (k : Int), .int .i64 p1, .int .u64 (q : Int), .int .i64 p3, .int .i64 p4] 37 (0, 0)) from HXt.out)
          by_cases hq : sumT d.data.toList (s.data.toList.take 28) = s.data.toList.drop 28
          · have hA2 : (A.toList == (s.extract 28 32).toList) = true := by rw [HA.out, HE2.out, HDt.out, hq]; simp
            have HQ := Lib.hid hq; clear hq
            refine start_ (n := 8) (S := fun _ => True) (ds := []) #[false, false, false, false, false, false, false, false] (by kernel_rfl) rfl rfl trivial (fun hHeld => ?_)
            refine with_tabW rg14_8.tab rg14_8.bits (fun HT_ HW_ => ?_)
            generalize w11.drew = w' at HX HXt HT HB ⊢
            refine pure_ (i := 0) (N := some 35) (v := ?_) (a' := ?_) #[true, false, false, false, false, false, false, false] rfl rfl (any_of HT_.out (by kernel_rfl)) (fun _ _ _ h => h) (Or.inl ⟨by rfl, ?_⟩) ?_ ?_
            rotate_left
            · intro w'
              go_simp
              try with_reducible rfl
            rotate_left
            · simp (maxSteps := 4000000) only [Act.put, List.setIfInBounds_toArray, List.set_cons_zero, List.set_cons_succ, i64_w, i32_w]
              try rfl
            refine pure_ (i := 1) (N := some 36) (v := ?_) (a' := ?_) #[true, true, false, false, false, false, false, false] rfl rfl (any_of HT_.out (by kernel_rfl)) (fun _ _ _ h => h) (Or.inl ⟨by rfl, ?_⟩) ?_ ?_
            rotate_left
            · intro w'
              go_simp
              try with_reducible rfl
            rotate_left
            · simp (maxSteps := 4000000) only [Act.put, List.setIfInBounds_toArray, List.set_cons_zero, List.set_cons_succ, i64_w, i32_w]
              try rfl
            refine pure_ (i := 2) (N := some 37) (v := ?_) (a' := ?_) #[true, true, true, false, false, false, false, false] rfl rfl (any_of HT_.out (by kernel_rfl)) (fun _ _ _ h => h) (Or.inl ⟨by rfl, ?_⟩) ?_ ?_
            rotate_left
            · intro w'
              go_simp
              try with_reducible rfl
            rotate_left
            · simp (maxSteps := 4000000) only [Act.put, List.setIfInBounds_toArray, List.set_cons_zero, List.set_cons_succ, i64_w, i32_w]
              try rfl
            refine pure_ (i := 4) (N := some 39) (v := ?_) (a' := ?_) #[true, true, true, false, true, false, false, false] rfl rfl (any_of HT_.out (by kernel_rfl)) (fun _ _ _ h => h) (Or.inl ⟨by rfl, ?_⟩) ?_ ?_
            rotate_left
            · intro w'
              go_simp
              try with_reducible rfl
            rotate_left
            · simp (maxSteps := 4000000) only [Act.put, List.setIfInBounds_toArray, List.set_cons_zero, List.set_cons_succ, i64_w, i32_w]
              try rfl
            refine pure_ (i := 5) (N := some 40) (v := ?_) (a' := ?_) #[true, true, true, false, true, true, false, false] rfl rfl (any_of HT_.out (by kernel_rfl)) (fun _ _ _ h => h) (Or.inl ⟨by rfl, ?_⟩) ?_ ?_
            rotate_left
            · intro w'
              go_simp
              try with_reducible rfl
            rotate_left
            · simp (maxSteps := 4000000) only [Act.put, List.setIfInBounds_toArray, List.set_cons_zero, List.set_cons_succ, i64_w, i32_w]
              try rfl
            refine one_ (i := 3) (N := some 38) #[true, true, true, true, true, true, false, false] rfl rfl (one_of HT_.out (by kernel_rfl)) (by decide) (fun K hK => ?_)
            refine goes_ Try.func22 (by kernel_rfl) rfl #[(.pointer (some ⟨g, 0, none⟩)), (.string d), (.string S2)] (by rfl) rfl rfl (by (try simp only [List.map_toArray, List.map_cons, List.map_nil]); first | done | rfl) ?_
            refine (sum_ok g d S2 (by have := HD.out; omega) (by rw [HSz.out]; decide) w' HT.out).mono ?_
            rintro e w' ⟨rfl, ht, hd⟩
            refine ⟨_, rfl, ?_⟩
            replace HXt := Lib.hid (blk_below HXt.out hd)
            replace HX := Lib.hid (blk_below HX.out hd)
            replace HT := Lib.hid ht
            replace HB := Lib.hid (chain2 HB.out hd)
            clear hd ht
            rw [← HA.out]
            refine hK.out _ _ (trivial) (fun hHeld => ?_)
            clear hK K
            refine norm_ (a' := ?_) ?_ ?_
            rotate_left
            · show Act.put _ (some 38) _ = _
              simp (maxSteps := 4000000) only [Act.put, List.setIfInBounds_toArray, List.set_cons_zero, List.set_cons_succ, i64_w, i32_w]
              try rfl
            refine pure_ (i := 6) (N := some 41) (v := ?_) (a' := ?_) #[true, true, true, true, true, true, true, false] rfl rfl (any_of HT_.out (by kernel_rfl)) (fun _ _ _ h => h) (Or.inl ⟨by rfl, ?_⟩) ?_ ?_
            rotate_left
            · intro w'
              go_simp
              try with_reducible rfl
            rotate_left
            · simp (maxSteps := 4000000) only [Act.put, List.setIfInBounds_toArray, List.set_cons_zero, List.set_cons_succ, i64_w, i32_w]
              try rfl
            refine pure_ (i := 7) (N := some 34) (v := ?_) (a' := ?_) #[true, true, true, true, true, true, true, true] rfl rfl (any_of HT_.out (by kernel_rfl)) (fun _ _ _ h => h) (Or.inl ⟨by rfl, ?_⟩) ?_ ?_
            rotate_left
            · intro w'
              go_simp
              try with_reducible rfl
            rotate_left
            · simp (maxSteps := 4000000) only [Act.put, List.setIfInBounds_toArray, List.set_cons_zero, List.set_cons_succ, i64_w, i32_w]
              try rfl
            refine done_ (done_of HT_.out (by kernel_rfl)) ?_
            obtain ⟨x0, x1, x2, x3, x4⟩ := tg_cells HXt.out
            obtain ⟨z0, z1, z2, z3, z4⟩ := tg_cells HX.out
            have f2 := fun i => pl_frozenT HX.out i
            have HV := Lib.hid (show (P1, P2) = (⟨k, p1, q, p3, p4⟩, 0) by
              rw [HP.out, HN.out]
              rw [if_neg (by rintro (h | h); exact absurd h (by decide); exact h HBt.out), if_neg (by rw [HQ.out]; simp)])
            clear hA2
            go_wp2
            have hx := heap_setCell_same _ b0 4 _ _ (.int .i64 p4) (heap_setCell_same _ b0 3 _ _ (.int .i64 p3) (heap_setCell_same _ b0 2 _ _ (.int .u64 (q : Int)) (heap_setCell_same _ b0 1 _ _ (.int .i64 p1) (heap_setCell_same _ b0 0 _ _ (.int .u8 (k : Int)) HX.out))))
            refine bodyPost_ret (results_ct rfl _ _ b0 37 _ (0, 0) _ rfl hx Try.underlying37 rfl tg_size) rfl ?_
            exact ⟨ret_tg HV.out.symm, (((((HT.out.setT HGT.out).setT HGT.out).setT HGT.out).setT HGT.out).setT HGT.out), (((((HB.out.setCell (p := ⟨b0, 0, none⟩) HG0.out _).setCell (p := ⟨b0, 1, none⟩) HG0.out _).setCell (p := ⟨b0, 2, none⟩) HG0.out _).setCell (p := ⟨b0, 3, none⟩) HG0.out _).setCell (p := ⟨b0, 4, none⟩) HG0.out _)⟩
          · have hA2 : (A.toList == (s.extract 28 32).toList) = false := by
              rw [HA.out, HE2.out, HDt.out, str_toList, str_toList]
              simpa using hq
            have HQ := Lib.hid hq; clear hq
            refine start_ (n := 8) (S := fun _ => True) (ds := []) #[false, false, false, false, false, false, false, false] (by kernel_rfl) rfl rfl trivial (fun hHeld => ?_)
            refine with_tabW rg14_8.tab rg14_8.bits (fun HT_ HW_ => ?_)
            generalize w11.drew = w' at HX HXt HT HB ⊢
            refine pure_ (i := 0) (N := some 35) (v := ?_) (a' := ?_) #[true, false, false, false, false, false, false, false] rfl rfl (any_of HT_.out (by kernel_rfl)) (fun _ _ _ h => h) (Or.inl ⟨by rfl, ?_⟩) ?_ ?_
            rotate_left
            · intro w'
              go_simp
              try with_reducible rfl
            rotate_left
            · simp (maxSteps := 4000000) only [Act.put, List.setIfInBounds_toArray, List.set_cons_zero, List.set_cons_succ, i64_w, i32_w]
              try rfl
            refine pure_ (i := 1) (N := some 36) (v := ?_) (a' := ?_) #[true, true, false, false, false, false, false, false] rfl rfl (any_of HT_.out (by kernel_rfl)) (fun _ _ _ h => h) (Or.inl ⟨by rfl, ?_⟩) ?_ ?_
            rotate_left
            · intro w'
              go_simp
              try with_reducible rfl
            rotate_left
            · simp (maxSteps := 4000000) only [Act.put, List.setIfInBounds_toArray, List.set_cons_zero, List.set_cons_succ, i64_w, i32_w]
              try rfl
            refine pure_ (i := 2) (N := some 37) (v := ?_) (a' := ?_) #[true, true, true, false, false, false, false, false] rfl rfl (any_of HT_.out (by kernel_rfl)) (fun _ _ _ h => h) (Or.inl ⟨by rfl, ?_⟩) ?_ ?_
            rotate_left
            · intro w'
              go_simp
              try with_reducible rfl
            rotate_left
            · simp (maxSteps := 4000000) only [Act.put, List.setIfInBounds_toArray, List.set_cons_zero, List.set_cons_succ, i64_w, i32_w]
              try rfl
            refine pure_ (i := 4) (N := some 39) (v := ?_) (a' := ?_) #[true, true, true, false, true, false, false, false] rfl rfl (any_of HT_.out (by kernel_rfl)) (fun _ _ _ h => h) (Or.inl ⟨by rfl, ?_⟩) ?_ ?_
            rotate_left
            · intro w'
              go_simp
              try with_reducible rfl
            rotate_left
            · simp (maxSteps := 4000000) only [Act.put, List.setIfInBounds_toArray, List.set_cons_zero, List.set_cons_succ, i64_w, i32_w]
              try rfl
            refine pure_ (i := 5) (N := some 40) (v := ?_) (a' := ?_) #[true, true, true, false, true, true, false, false] rfl rfl (any_of HT_.out (by kernel_rfl)) (fun _ _ _ h => h) (Or.inl ⟨by rfl, ?_⟩) ?_ ?_
            rotate_left
            · intro w'
              go_simp
              try with_reducible rfl
            rotate_left
            · simp (maxSteps := 4000000) only [Act.put, List.setIfInBounds_toArray, List.set_cons_zero, List.set_cons_succ, i64_w, i32_w]
              try rfl
            refine one_ (i := 3) (N := some 38) #[true, true, true, true, true, true, false, false] rfl rfl (one_of HT_.out (by kernel_rfl)) (by decide) (fun K hK => ?_)
            refine goes_ Try.func22 (by kernel_rfl) rfl #[(.pointer (some ⟨g, 0, none⟩)), (.string d), (.string S2)] (by rfl) rfl rfl (by (try simp only [List.map_toArray, List.map_cons, List.map_nil]); first | done | rfl) ?_
            refine (sum_ok g d S2 (by have := HD.out; omega) (by rw [HSz.out]; decide) w' HT.out).mono ?_
            rintro e w' ⟨rfl, ht, hd⟩
            refine ⟨_, rfl, ?_⟩
            replace HXt := Lib.hid (blk_below HXt.out hd)
            replace HX := Lib.hid (blk_below HX.out hd)
            replace HT := Lib.hid ht
            replace HB := Lib.hid (chain2 HB.out hd)
            clear hd ht
            rw [← HA.out]
            refine hK.out _ _ (trivial) (fun hHeld => ?_)
            clear hK K
            refine norm_ (a' := ?_) ?_ ?_
            rotate_left
            · show Act.put _ (some 38) _ = _
              simp (maxSteps := 4000000) only [Act.put, List.setIfInBounds_toArray, List.set_cons_zero, List.set_cons_succ, i64_w, i32_w]
              try rfl
            refine pure_ (i := 6) (N := some 41) (v := ?_) (a' := ?_) #[true, true, true, true, true, true, true, false] rfl rfl (any_of HT_.out (by kernel_rfl)) (fun _ _ _ h => h) (Or.inl ⟨by rfl, ?_⟩) ?_ ?_
            rotate_left
            · intro w'
              go_simp
              try with_reducible rfl
            rotate_left
            · simp (maxSteps := 4000000) only [Act.put, List.setIfInBounds_toArray, List.set_cons_zero, List.set_cons_succ, i64_w, i32_w]
              try rfl
            refine pure_ (i := 7) (N := some 34) (v := ?_) (a' := ?_) #[true, true, true, true, true, true, true, true] rfl rfl (any_of HT_.out (by kernel_rfl)) (fun _ _ _ h => h) (Or.inl ⟨by rfl, ?_⟩) ?_ ?_
            rotate_left
            · intro w'
              go_simp
              try with_reducible rfl
            rotate_left
            · simp (maxSteps := 4000000) only [Act.put, List.setIfInBounds_toArray, List.set_cons_zero, List.set_cons_succ, i64_w, i32_w]
              try rfl
            refine done_ (done_of HT_.out (by kernel_rfl)) ?_
            obtain ⟨z0, z1, z2, z3, z4⟩ := tg_cells HX.out
            have f2 := fun i => pl_frozenT HX.out i
            have HV := Lib.hid (show (P1, P2) = (Tg.zero, 5) by
              rw [HP.out, HN.out]
              rw [if_neg (by rintro (h | h); exact absurd h (by decide); exact h HBt.out), if_pos HQ.out])
            clear hA2
            go_wp2
            have hx := heap_setCell_same _ b0 4 _ _ (.int .i64 0) (heap_setCell_same _ b0 3 _ _ (.int .i64 0) (heap_setCell_same _ b0 2 _ _ (.int .u64 0) (heap_setCell_same _ b0 1 _ _ (.int .i64 0) (heap_setCell_same _ b0 0 _ _ (.int .u8 0) HX.out))))
            refine bodyPost_ret (results_ct rfl _ _ b0 37 _ (0, 0) _ rfl hx Try.underlying37 rfl tg_size) rfl ?_
            exact ⟨ret_tg HV.out.symm, (((((HT.out.setT HGT.out).setT HGT.out).setT HGT.out).setT HGT.out).setT HGT.out), (((((HB.out.setCell (p := ⟨b0, 0, none⟩) HG0.out _).setCell (p := ⟨b0, 1, none⟩) HG0.out _).setCell (p := ⟨b0, 2, none⟩) HG0.out _).setCell (p := ⟨b0, 3, none⟩) HG0.out _).setCell (p := ⟨b0, 4, none⟩) HG0.out _)⟩
        · have hne : ((str bT).toList == S2.toList) = false := by
            rw [HE1.out, str_toList, str_toList]
            simpa using heq
          have HV := Lib.hid (show (P1, P2) = (Tg.zero, 4) by rw [HP.out, HN.out]; exact if_pos (.inr heq))
          clear heq
          go_wp2
          have hx := heap_setCell_same _ b0 4 _ _ (.int .i64 0) (heap_setCell_same _ b0 3 _ _ (.int .i64 0) (heap_setCell_same _ b0 2 _ _ (.int .u64 0) (heap_setCell_same _ b0 1 _ _ (.int .i64 0) (heap_setCell_same _ b0 0 _ _ (.int .u8 0) HX.out))))
          refine bodyPost_ret (results_ct rfl _ _ b0 37 _ (0, 0) _ rfl hx Try.underlying37 rfl tg_size) rfl ?_
          exact ⟨ret_tg HV.out.symm, (((((HT.out.setT HGT.out).setT HGT.out).setT HGT.out).setT HGT.out).setT HGT.out), (((((HB.out.setCell (p := ⟨b0, 0, none⟩) HG0.out _).setCell (p := ⟨b0, 1, none⟩) HG0.out _).setCell (p := ⟨b0, 2, none⟩) HG0.out _).setCell (p := ⟨b0, 3, none⟩) HG0.out _).setCell (p := ⟨b0, 4, none⟩) HG0.out _)⟩
    · refine value_ (v := (.pointer (some ⟨wz.heap.size, 0, none⟩))) (w1 := wz.alloc (.cells #[.int .u8 0, .int .i64 0, .int .u64 0, .int .i64 0, .int .i64 0] 37)) (by rfl) rfl ?_ ?_
      · (go_simp)
      have HXt := Lib.hid (heap_alloc_new wz (.cells #[.int .u8 0, .int .i64 0, .int .u64 0, .int .i64 0, .int .i64 0] 37))
      have ha := below_alloc (Below.refl wz.heap.size wz) (.cells #[.int .u8 0, .int .i64 0, .int .u64 0, .int .i64 0, .int .i64 0] 37)
      have HNt := Lib.hid (Nat.ne_of_lt (blk_lt HX.out))
      have HGt := Lib.hid (Nat.ne_of_lt HT.out.lt)
      have HGb := Lib.hid HB.out.size
      replace HX := Lib.hid (blk_below HX.out ha)
      replace HT := Lib.hid (HT.out.below ha)
      replace HB := Lib.hid (chain2 HB.out ha)
      clear ha
      generalize wz.heap.size = bt at HXt HNt HGt HGb ⊢
      generalize wz.alloc (.cells #[.int .u8 0, .int .i64 0, .int .u64 0, .int .i64 0, .int .i64 0] 37) = wz at HX HT HB HXt ⊢
      refine hK.out _ _ (trivial) (fun hHeld => ?_)
      clear hK K
      refine norm_ (a' := ?_) ?_ ?_
      rotate_left
      · show Act.put _ (some 8) _ = _
        simp (maxSteps := 4000000) only [Act.put, List.setIfInBounds_toArray, List.set_cons_zero, List.set_cons_succ, i64_w, i32_w]
        try rfl
      refine one_ (i := 1) (N := some 20) #[true, true, true, true, true, false, false] rfl rfl (one_of HT_.out (by kernel_rfl)) (by decide) (fun K hK => ?_)
      refine goes_ Try.func25 (by kernel_rfl) rfl #[(.string s)] (by rfl) rfl rfl (by (try simp only [List.map_toArray, List.map_cons, List.map_nil]); first | done | rfl) ?_
      refine (HRd.out _).mono ?_
      rintro e w' ⟨rfl, hd⟩
      refine ⟨_, rfl, ?_⟩
      replace HX := Lib.hid (blk_below HX.out hd)
      replace HT := Lib.hid (HT.out.below hd)
      replace HB := Lib.hid (chain2 HB.out hd)
      (try replace HXt := Lib.hid (blk_below HXt.out hd))
      clear hd
      obtain ⟨wz, rfl⟩ : ∃ wz, wz = w' := ⟨_, rfl⟩
      refine hK.out _ _ (trivial) (fun hHeld => ?_)
      clear hK K
      refine norm_ (a' := ?_) ?_ ?_
      rotate_left
      · show Act.put _ (some 20) _ = _
        simp (maxSteps := 4000000) only [Act.put, List.setIfInBounds_toArray, List.set_cons_zero, List.set_cons_succ, i64_w, i32_w]
        try rfl
      refine last_ (i := 5) (N := none) #[true, true, true, true, true, true, false] rfl rfl (one_of HT_.out (by kernel_rfl)) (by decide) (fun K hK => ?_)
      refine skip_ (w1 := ((((wz.setCell ⟨bt, 0, none⟩ (.int .u8 (t.kind : Int))).setCell ⟨bt, 1, none⟩ (.int .i64 t.log)).setCell ⟨bt, 2, none⟩ (.int .u64 (t.seq : Int))).setCell ⟨bt, 3, none⟩ (.int .i64 t.pos)).setCell ⟨bt, 4, none⟩ (.int .i64 t.len)) (by rfl) rfl ?_ ?_
      · (obtain ⟨y0, y1, y2, y3, y4⟩ := tg_cells HXt.out; have f0 := fun i => pl_frozenT HXt.out i; unfold tgV; go_simp)
      refine hK.out _ _ ?_
      clear hK K
      refine pure_ (i := 6) (N := some 9) (v := ?_) (a' := ?_) #[true, true, true, true, true, true, true] rfl rfl (any_of HT_.out (by kernel_rfl)) (fun _ _ _ h => h) (Or.inl ⟨by rfl, ?_⟩) ?_ ?_
      rotate_left
      · intro w'
        go_simp
        try with_reducible rfl
      rotate_left
      · simp (maxSteps := 4000000) only [Act.put, List.setIfInBounds_toArray, List.set_cons_zero, List.set_cons_succ, i64_w, i32_w]
        try rfl
      refine done_ (done_of HT_.out (by kernel_rfl)) ?_
      generalize hw9 : ((((wz.setCell ⟨bt, 0, none⟩ (.int .u8 (t.kind : Int))).setCell ⟨bt, 1, none⟩ (.int .i64 t.log)).setCell ⟨bt, 2, none⟩ (.int .u64 (t.seq : Int))).setCell ⟨bt, 3, none⟩ (.int .i64 t.pos)).setCell ⟨bt, 4, none⟩ (.int .i64 t.len) = w9
      replace HXt := Lib.hid (show w9.heap[bt]? = _ from hw9 ▸ heap_setCell_same _ bt 4 _ _ (.int .i64 t.len) (heap_setCell_same _ bt 3 _ _ (.int .i64 t.pos) (heap_setCell_same _ bt 2 _ _ (.int .u64 (t.seq : Int)) (heap_setCell_same _ bt 1 _ _ (.int .i64 t.log) (heap_setCell_same _ bt 0 _ _ (.int .u8 (t.kind : Int)) HXt.out)))))
      replace HX := Lib.hid (show w9.heap[b0]? = some (.cells #[.int .u8 0, .int .i64 0, .int .u64 0, .int .i64 0, .int .i64 0] 37 (0, 0)) by rw [← hw9, heap_setCell_other _ _ b0 _ HNt.out, heap_setCell_other _ _ b0 _ HNt.out, heap_setCell_other _ _ b0 _ HNt.out, heap_setCell_other _ _ b0 _ HNt.out, heap_setCell_other _ _ b0 _ HNt.out]; exact HX.out)
      replace HT := Lib.hid (show TabAt w9 g from hw9 ▸ ((((HT.out.setT HGt.out).setT HGt.out).setT HGt.out).setT HGt.out).setT HGt.out)
      replace HB := Lib.hid (show Below w.heap.size w w9 from hw9 ▸ ((((HB.out.setCell (p := ⟨bt, 0, none⟩) HGb.out _).setCell (p := ⟨bt, 1, none⟩) HGb.out _).setCell (p := ⟨bt, 2, none⟩) HGb.out _).setCell (p := ⟨bt, 3, none⟩) HGb.out _).setCell (p := ⟨bt, 4, none⟩) HGb.out _)
      clear hw9
      obtain ⟨k, p1, q, p3, p4⟩ := t
      unfold tgV at HBy ⊢
      simp only at HXt HRf HBy ⊢
      obtain ⟨x0, x1, x2, x3, x4⟩ := tg_cells HXt.out
      generalize hR : Tg.right ⟨k, p1, q, p3, p4⟩ = R at HRf HBy HN
      clear hR
      generalize bytesT ⟨k, p1, q, p3, p4⟩ = bT at HBy HN
      go_wp2_with fail
      refine (tag_Tag_Right.calls _ _ _ _ _ _ _ HRf.out).mono ?_
      rintro e w10 ⟨rfl, hd⟩
      replace HXt := Lib.hid (blk_below HXt.out hd)
      replace HX := Lib.hid (blk_below HX.out hd)
      replace HT := Lib.hid (HT.out.below hd)
      replace HB := Lib.hid (chain2 HB.out hd); clear hd
      obtain ⟨x0, x1, x2, x3, x4⟩ := tg_cells HXt.out
      obtain ⟨z0, z1, z2, z3, z4⟩ := tg_cells HX.out
      have f2 := fun i => pl_frozenT HX.out i
      cases R with
      | false =>
        have HV := Lib.hid (show (P1, P2) = (Tg.zero, 4) by rw [HP.out, HN.out]; exact if_pos (.inl rfl))
        go_wp2
        have hx := heap_setCell_same _ b0 4 _ _ (.int .i64 0) (heap_setCell_same _ b0 3 _ _ (.int .i64 0) (heap_setCell_same _ b0 2 _ _ (.int .u64 0) (heap_setCell_same _ b0 1 _ _ (.int .i64 0) (heap_setCell_same _ b0 0 _ _ (.int .u8 0) HX.out))))
        refine bodyPost_ret (results_ct rfl _ _ b0 37 _ (0, 0) _ rfl hx Try.underlying37 rfl tg_size) rfl ?_
        exact ⟨ret_tg HV.out.symm, (((((HT.out.setT HGT.out).setT HGT.out).setT HGT.out).setT HGT.out).setT HGT.out), (((((HB.out.setCell (p := ⟨b0, 0, none⟩) HG0.out _).setCell (p := ⟨b0, 1, none⟩) HG0.out _).setCell (p := ⟨b0, 2, none⟩) HG0.out _).setCell (p := ⟨b0, 3, none⟩) HG0.out _).setCell (p := ⟨b0, 4, none⟩) HG0.out _)⟩
      | true =>
        go_wp2_with fail
        refine (HBy.out (by first | rfl | trivial) w10).mono ?_
        rintro e w11 ⟨rfl, hd⟩
        clear x0 x1 x2 x3 x4 z0 z1 z2 z3 z4 f2
        replace HXt := Lib.hid (blk_below HXt.out hd)
        replace HX := Lib.hid (blk_below HX.out hd)
        replace HT := Lib.hid (HT.out.below hd)
        replace HB := Lib.hid (chain2 HB.out hd); clear hd
        obtain ⟨z0, z1, z2, z3, z4⟩ := tg_cells HX.out
        have f2 := fun i => pl_frozenT HX.out i
        generalize s.extract 0 28 = S2 at HE1 ⊢
        have HDt := Lib.hid (show S2.data.toList = s.data.toList.take 28 by rw [HE1.out, str_data])
        have HSz := Lib.hid (show S2.size = 28 by rw [HE1.out, str_size, List.length_take, HL.out]; rfl)
        by_cases heq : bT = s.data.toList.take 28
        · have HS12 := Lib.hid (show str bT = S2 by rw [HE1.out, heq])
          have HBt := Lib.hid heq; clear heq
          rw [HS12.out]
          go_wp2_with fail
          clear z0 z1 z2 z3 z4 f2
          obtain ⟨A, hA⟩ : ∃ A, A = str (sumT d.data.toList S2.data.toList) := ⟨_, rfl⟩
          have HA := Lib.hid hA; clear hA
          replace HT := Lib.hid (show TabAt w11.drew g from HT.out)
          replace HB := Lib.hid (show Below w.heap.size w w11.drew from below_drew1 HB.out)
          replace HX := Lib.hid (show w11.drew.heap[b0]? = some (.cells #[.int .u8 0, .int .i64 0, .int .u64 0, .int .i64 0, .int .i64 0] 37 (0, 0)) from HX.out)
          replace HXt := Lib.hid (show w11.drew.heap[bt]? = some (.cells #[.int .u8 (k : Int), .int .i64 p1, .int .u64 (q : Int), .int .i64 p3, .int .i64 p4] 37 (0, 0)) from HXt.out)
          by_cases hq : sumT d.data.toList (s.data.toList.take 28) = s.data.toList.drop 28
          · have hA2 : (A.toList == (s.extract 28 32).toList) = true := by rw [HA.out, HE2.out, HDt.out, hq]; simp
            have HQ := Lib.hid hq; clear hq
            refine start_ (n := 8) (S := fun _ => True) (ds := []) #[false, false, false, false, false, false, false, false] (by kernel_rfl) rfl rfl trivial (fun hHeld => ?_)
            refine with_tabW rg14_8.tab rg14_8.bits (fun HT_ HW_ => ?_)
            generalize w11.drew = w' at HX HXt HT HB ⊢
            refine pure_ (i := 0) (N := some 35) (v := ?_) (a' := ?_) #[true, false, false, false, false, false, false, false] rfl rfl (any_of HT_.out (by kernel_rfl)) (fun _ _ _ h => h) (Or.inl ⟨by rfl, ?_⟩) ?_ ?_
            rotate_left
            · intro w'
              go_simp
              try with_reducible rfl
            rotate_left
            · simp (maxSteps := 4000000) only [Act.put, List.setIfInBounds_toArray, List.set_cons_zero, List.set_cons_succ, i64_w, i32_w]
              try rfl
            refine pure_ (i := 1) (N := some 36) (v := ?_) (a' := ?_) #[true, true, false, false, false, false, false, false] rfl rfl (any_of HT_.out (by kernel_rfl)) (fun _ _ _ h => h) (Or.inl ⟨by rfl, ?_⟩) ?_ ?_
            rotate_left
            · intro w'
              go_simp
              try with_reducible rfl
            rotate_left
            · simp (maxSteps := 4000000) only [Act.put, List.setIfInBounds_toArray, List.set_cons_zero, List.set_cons_succ, i64_w, i32_w]
              try rfl
            refine pure_ (i := 2) (N := some 37) (v := ?_) (a' := ?_) #[true, true, true, false, false, false, false, false] rfl rfl (any_of HT_.out (by kernel_rfl)) (fun _ _ _ h => h) (Or.inl ⟨by rfl, ?_⟩) ?_ ?_
            rotate_left
            · intro w'
              go_simp
              try with_reducible rfl
            rotate_left
            · simp (maxSteps := 4000000) only [Act.put, List.setIfInBounds_toArray, List.set_cons_zero, List.set_cons_succ, i64_w, i32_w]
              try rfl
            refine pure_ (i := 4) (N := some 39) (v := ?_) (a' := ?_) #[true, true, true, false, true, false, false, false] rfl rfl (any_of HT_.out (by kernel_rfl)) (fun _ _ _ h => h) (Or.inl ⟨by rfl, ?_⟩) ?_ ?_
            rotate_left
            · intro w'
              go_simp
              try with_reducible rfl
            rotate_left
            · simp (maxSteps := 4000000) only [Act.put, List.setIfInBounds_toArray, List.set_cons_zero, List.set_cons_succ, i64_w, i32_w]
              try rfl
            refine pure_ (i := 5) (N := some 40) (v := ?_) (a' := ?_) #[true, true, true, false, true, true, false, false] rfl rfl (any_of HT_.out (by kernel_rfl)) (fun _ _ _ h => h) (Or.inl ⟨by rfl, ?_⟩) ?_ ?_
            rotate_left
            · intro w'
              go_simp
              try with_reducible rfl
            rotate_left
            · simp (maxSteps := 4000000) only [Act.put, List.setIfInBounds_toArray, List.set_cons_zero, List.set_cons_succ, i64_w, i32_w]
              try rfl
            refine one_ (i := 3) (N := some 38) #[true, true, true, true, true, true, false, false] rfl rfl (one_of HT_.out (by kernel_rfl)) (by decide) (fun K hK => ?_)
            refine goes_ Try.func22 (by kernel_rfl) rfl #[(.pointer (some ⟨g, 0, none⟩)), (.string d), (.string S2)] (by rfl) rfl rfl (by (try simp only [List.map_toArray, List.map_cons, List.map_nil]); first | done | rfl) ?_
            refine (sum_ok g d S2 (by have := HD.out; omega) (by rw [HSz.out]; decide) w' HT.out).mono ?_
            rintro e w' ⟨rfl, ht, hd⟩
            refine ⟨_, rfl, ?_⟩
            replace HXt := Lib.hid (blk_below HXt.out hd)
            replace HX := Lib.hid (blk_below HX.out hd)
            replace HT := Lib.hid ht
            replace HB := Lib.hid (chain2 HB.out hd)
            clear hd ht
            rw [← HA.out]
            refine hK.out _ _ (trivial) (fun hHeld => ?_)
            clear hK K
            refine norm_ (a' := ?_) ?_ ?_
            rotate_left
            · show Act.put _ (some 38) _ = _
              simp (maxSteps := 4000000) only [Act.put, List.setIfInBounds_toArray, List.set_cons_zero, List.set_cons_succ, i64_w, i32_w]
              try rfl
            refine pure_ (i := 6) (N := some 41) (v := ?_) (a' := ?_) #[true, true, true, true, true, true, true, false] rfl rfl (any_of HT_.out (by kernel_rfl)) (fun _ _ _ h => h) (Or.inl ⟨by rfl, ?_⟩) ?_ ?_
            rotate_left
            · intro w'
              go_simp
              try with_reducible rfl
            rotate_left
            · simp (maxSteps := 4000000) only [Act.put, List.setIfInBounds_toArray, List.set_cons_zero, List.set_cons_succ, i64_w, i32_w]
              try rfl
            refine pure_ (i := 7) (N := some 34) (v := ?_) (a' := ?_) #[true, true, true, true, true, true, true, true] rfl rfl (any_of HT_.out (by kernel_rfl)) (fun _ _ _ h => h) (Or.inl ⟨by rfl, ?_⟩) ?_ ?_
            rotate_left
            · intro w'
              go_simp
              try with_reducible rfl
            rotate_left
            · simp (maxSteps := 4000000) only [Act.put, List.setIfInBounds_toArray, List.set_cons_zero, List.set_cons_succ, i64_w, i32_w]
              try rfl
            refine done_ (done_of HT_.out (by kernel_rfl)) ?_
            obtain ⟨x0, x1, x2, x3, x4⟩ := tg_cells HXt.out
            obtain ⟨z0, z1, z2, z3, z4⟩ := tg_cells HX.out
            have f2 := fun i => pl_frozenT HX.out i
            have HV := Lib.hid (show (P1, P2) = (⟨k, p1, q, p3, p4⟩, 0) by
              rw [HP.out, HN.out]
              rw [if_neg (by rintro (h | h); exact absurd h (by decide); exact h HBt.out), if_neg (by rw [HQ.out]; simp)])
            clear hA2
            go_wp2
            have hx := heap_setCell_same _ b0 4 _ _ (.int .i64 p4) (heap_setCell_same _ b0 3 _ _ (.int .i64 p3) (heap_setCell_same _ b0 2 _ _ (.int .u64 (q : Int)) (heap_setCell_same _ b0 1 _ _ (.int .i64 p1) (heap_setCell_same _ b0 0 _ _ (.int .u8 (k : Int)) HX.out))))
            refine bodyPost_ret (results_ct rfl _ _ b0 37 _ (0, 0) _ rfl hx Try.underlying37 rfl tg_size) rfl ?_
            exact ⟨ret_tg HV.out.symm, (((((HT.out.setT HGT.out).setT HGT.out).setT HGT.out).setT HGT.out).setT HGT.out), (((((HB.out.setCell (p := ⟨b0, 0, none⟩) HG0.out _).setCell (p := ⟨b0, 1, none⟩) HG0.out _).setCell (p := ⟨b0, 2, none⟩) HG0.out _).setCell (p := ⟨b0, 3, none⟩) HG0.out _).setCell (p := ⟨b0, 4, none⟩) HG0.out _)⟩
          · have hA2 : (A.toList == (s.extract 28 32).toList) = false := by
              rw [HA.out, HE2.out, HDt.out, str_toList, str_toList]
              simpa using hq
            have HQ := Lib.hid hq; clear hq
            refine start_ (n := 8) (S := fun _ => True) (ds := []) #[false, false, false, false, false, false, false, false] (by kernel_rfl) rfl rfl trivial (fun hHeld => ?_)
            refine with_tabW rg14_8.tab rg14_8.bits (fun HT_ HW_ => ?_)
            generalize w11.drew = w' at HX HXt HT HB ⊢
            refine pure_ (i := 0) (N := some 35) (v := ?_) (a' := ?_) #[true, false, false, false, false, false, false, false] rfl rfl (any_of HT_.out (by kernel_rfl)) (fun _ _ _ h => h) (Or.inl ⟨by rfl, ?_⟩) ?_ ?_
            rotate_left
            · intro w'
              go_simp
              try with_reducible rfl
            rotate_left
            · simp (maxSteps := 4000000) only [Act.put, List.setIfInBounds_toArray, List.set_cons_zero, List.set_cons_succ, i64_w, i32_w]
              try rfl
            refine pure_ (i := 1) (N := some 36) (v := ?_) (a' := ?_) #[true, true, false, false, false, false, false, false] rfl rfl (any_of HT_.out (by kernel_rfl)) (fun _ _ _ h => h) (Or.inl ⟨by rfl, ?_⟩) ?_ ?_
            rotate_left
            · intro w'
              go_simp
              try with_reducible rfl
            rotate_left
            · simp (maxSteps := 4000000) only [Act.put, List.setIfInBounds_toArray, List.set_cons_zero, List.set_cons_succ, i64_w, i32_w]
              try rfl
            refine pure_ (i := 2) (N := some 37) (v := ?_) (a' := ?_) #[true, true, true, false, false, false, false, false] rfl rfl (any_of HT_.out (by kernel_rfl)) (fun _ _ _ h => h) (Or.inl ⟨by rfl, ?_⟩) ?_ ?_
            rotate_left
            · intro w'
              go_simp
              try with_reducible rfl
            rotate_left
            · simp (maxSteps := 4000000) only [Act.put, List.setIfInBounds_toArray, List.set_cons_zero, List.set_cons_succ, i64_w, i32_w]
              try rfl
            refine pure_ (i := 4) (N := some 39) (v := ?_) (a' := ?_) #[true, true, true, false, true, false, false, false] rfl rfl (any_of HT_.out (by kernel_rfl)) (fun _ _ _ h => h) (Or.inl ⟨by rfl, ?_⟩) ?_ ?_
            rotate_left
            · intro w'
              go_simp
              try with_reducible rfl
            rotate_left
            · simp (maxSteps := 4000000) only [Act.put, List.setIfInBounds_toArray, List.set_cons_zero, List.set_cons_succ, i64_w, i32_w]
              try rfl
            refine pure_ (i := 5) (N := some 40) (v := ?_) (a' := ?_) #[true, true, true, false, true, true, false, false] rfl rfl (any_of HT_.out (by kernel_rfl)) (fun _ _ _ h => h) (Or.inl ⟨by rfl, ?_⟩) ?_ ?_
            rotate_left
            · intro w'
              go_simp
              try with_reducible rfl
            rotate_left
            · simp (maxSteps := 4000000) only [Act.put, List.setIfInBounds_toArray, List.set_cons_zero, List.set_cons_succ, i64_w, i32_w]
              try rfl
            refine one_ (i := 3) (N := some 38) #[true, true, true, true, true, true, false, false] rfl rfl (one_of HT_.out (by kernel_rfl)) (by decide) (fun K hK => ?_)
            refine goes_ Try.func22 (by kernel_rfl) rfl #[(.pointer (some ⟨g, 0, none⟩)), (.string d), (.string S2)] (by rfl) rfl rfl (by (try simp only [List.map_toArray, List.map_cons, List.map_nil]); first | done | rfl) ?_
            refine (sum_ok g d S2 (by have := HD.out; omega) (by rw [HSz.out]; decide) w' HT.out).mono ?_
            rintro e w' ⟨rfl, ht, hd⟩
            refine ⟨_, rfl, ?_⟩
            replace HXt := Lib.hid (blk_below HXt.out hd)
            replace HX := Lib.hid (blk_below HX.out hd)
            replace HT := Lib.hid ht
            replace HB := Lib.hid (chain2 HB.out hd)
            clear hd ht
            rw [← HA.out]
            refine hK.out _ _ (trivial) (fun hHeld => ?_)
            clear hK K
            refine norm_ (a' := ?_) ?_ ?_
            rotate_left
            · show Act.put _ (some 38) _ = _
              simp (maxSteps := 4000000) only [Act.put, List.setIfInBounds_toArray, List.set_cons_zero, List.set_cons_succ, i64_w, i32_w]
              try rfl
            refine pure_ (i := 6) (N := some 41) (v := ?_) (a' := ?_) #[true, true, true, true, true, true, true, false] rfl rfl (any_of HT_.out (by kernel_rfl)) (fun _ _ _ h => h) (Or.inl ⟨by rfl, ?_⟩) ?_ ?_
            rotate_left
            · intro w'
              go_simp
              try with_reducible rfl
            rotate_left
            · simp (maxSteps := 4000000) only [Act.put, List.setIfInBounds_toArray, List.set_cons_zero, List.set_cons_succ, i64_w, i32_w]
              try rfl
            refine pure_ (i := 7) (N := some 34) (v := ?_) (a' := ?_) #[true, true, true, true, true, true, true, true] rfl rfl (any_of HT_.out (by kernel_rfl)) (fun _ _ _ h => h) (Or.inl ⟨by rfl, ?_⟩) ?_ ?_
            rotate_left
            · intro w'
              go_simp
              try with_reducible rfl
            rotate_left
            · simp (maxSteps := 4000000) only [Act.put, List.setIfInBounds_toArray, List.set_cons_zero, List.set_cons_succ, i64_w, i32_w]
              try rfl
            refine done_ (done_of HT_.out (by kernel_rfl)) ?_
            obtain ⟨z0, z1, z2, z3, z4⟩ := tg_cells HX.out
            have f2 := fun i => pl_frozenT HX.out i
            have HV := Lib.hid (show (P1, P2) = (Tg.zero, 5) by
              rw [HP.out, HN.out]
              rw [if_neg (by rintro (h | h); exact absurd h (by decide); exact h HBt.out), if_pos HQ.out])
            clear hA2
            go_wp2
            have hx := heap_setCell_same _ b0 4 _ _ (.int .i64 0) (heap_setCell_same _ b0 3 _ _ (.int .i64 0) (heap_setCell_same _ b0 2 _ _ (.int .u64 0) (heap_setCell_same _ b0 1 _ _ (.int .i64 0) (heap_setCell_same _ b0 0 _ _ (.int .u8 0) HX.out))))
            refine bodyPost_ret (results_ct rfl _ _ b0 37 _ (0, 0) _ rfl hx Try.underlying37 rfl tg_size) rfl ?_
            exact ⟨ret_tg HV.out.symm, (((((HT.out.setT HGT.out).setT HGT.out).setT HGT.out).setT HGT.out).setT HGT.out), (((((HB.out.setCell (p := ⟨b0, 0, none⟩) HG0.out _).setCell (p := ⟨b0, 1, none⟩) HG0.out _).setCell (p := ⟨b0, 2, none⟩) HG0.out _).setCell (p := ⟨b0, 3, none⟩) HG0.out _).setCell (p := ⟨b0, 4, none⟩) HG0.out _)⟩
        · have hne : ((str bT).toList == S2.toList) = false := by
            rw [HE1.out, str_toList, str_toList]
            simpa using heq
          have HV := Lib.hid (show (P1, P2) = (Tg.zero, 4) by rw [HP.out, HN.out]; exact if_pos (.inr heq))
          clear heq
          go_wp2
          have hx := heap_setCell_same _ b0 4 _ _ (.int .i64 0) (heap_setCell_same _ b0 3 _ _ (.int .i64 0) (heap_setCell_same _ b0 2 _ _ (.int .u64 0) (heap_setCell_same _ b0 1 _ _ (.int .i64 0) (heap_setCell_same _ b0 0 _ _ (.int .u8 0) HX.out))))
          refine bodyPost_ret (results_ct rfl _ _ b0 37 _ (0, 0) _ rfl hx Try.underlying37 rfl tg_size) rfl ?_
          exact ⟨ret_tg HV.out.symm, (((((HT.out.setT HGT.out).setT HGT.out).setT HGT.out).setT HGT.out).setT HGT.out), (((((HB.out.setCell (p := ⟨b0, 0, none⟩) HG0.out _).setCell (p := ⟨b0, 1, none⟩) HG0.out _).setCell (p := ⟨b0, 2, none⟩) HG0.out _).setCell (p := ⟨b0, 3, none⟩) HG0.out _).setCell (p := ⟨b0, 4, none⟩) HG0.out _)⟩
  · have HN := Lib.hid (show parseT d.data.toList s.data.toList = (Tg.zero, 4) from if_pos (by rw [Array.length_toList]; exact hs))
    have hs2 : ((s.size : Int) = 32) = False := eq_false (by omega)
    have hs3 : ((s.size : Int) == 32) = false := by simp; omega
    have HV := Lib.hid (show (P1, P2) = (Tg.zero, 4) by rw [HP.out, HN.out])
    clear hb0
    go_enter Try.func14, Try.ntmps14
    go_wp2
    refine bodyPost_ret (results_ct rfl _ _ w.heap.size 37 _ (0, 0) _ rfl HX.out Try.underlying37 rfl tg_size) rfl ?_
    exact ⟨ret_tg HV.out.symm, HT.out, HB.out⟩
theorem parse_nil (d s : ByteArray) (w : World) : Calls Try.prog 14 #[.pointer none, .string d, .string s] w fun e w' => e = .returned (.tuple #[tgV Tg.zero, .int .i64 1]) ∧ Below w.heap.size w w' := by
  have HX := Lib.hid (heap_alloc_new w (.cells #[.int .u8 0, .int .i64 0, .int .u64 0, .int .i64 0, .int .i64 0] 37))
  go_enter Try.func14, Try.ntmps14
  go_wp2
  refine bodyPost_ret (results_ct rfl _ _ w.heap.size 37 _ (0, 0) _ rfl HX.out Try.underlying37 rfl tg_size) rfl ?_
  exact ⟨rfl, below_alloc (Below.refl _ _) _⟩
end Go.Proofs.Ytfomgljhcegjdaa
