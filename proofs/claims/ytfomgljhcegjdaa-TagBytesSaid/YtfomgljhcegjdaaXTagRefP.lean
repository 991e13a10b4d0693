/- The document's Parse, walked. No conditions beyond the form's own reach. -/
import Derived.Test.YtfomgljhcegjdaaXTagC
import Derived.Test.YtfomgljhcegjdaaXTagRef
namespace Go.Proofs.Ytfomgljhcegjdaa
open Go.RowKit Go.Lib Go.Proofs.Ytfomgljhcegjdaa.P Go.Proofs.Ytfomgljhcegjdaa.BeS Go.Proofs.Ytfomgljhcegjdaa.PoS Go.Proofs.YtfomgljhcegjdaaW.PrintWords Go.Proofs.YtfomgljhcegjdaaW.PrintLast Go.Proofs.YtfomgljhcegjdaaW.PrintMore
set_option linter.unusedVariables false
set_option linter.unusedSimpArgs false
def rg15_4.T : Bool × List (List Nat × List Nat) := (true, [([], []), ([0], [0]), ([], []), ([2], [2]), ([3], [3]), ([], []), ([5], [5]), ([6], [6]), ([1, 4, 7], [1, 4, 7]), ([], []), ([9, 8, 0, 1, 2, 3, 4, 5, 6, 7, 8, 9], [8, 9])])
def rg15_4.B : List Nat := [0, 1, 0, 4, 12, 0, 32, 96, 255, 0, 1023]
theorem rg15_4.tab : rtab .any (opsOf Try.f15 4) = rg15_4.T := by kernel_rfl
theorem rg15_4.bits : waitsOk rg15_4.T.2 rg15_4.B = true := by kernel_rfl
def rg15_8.T : Bool × List (List Nat × List Nat) := (true, [([], []), ([0], [0]), ([1], [1]), ([2], [2]), ([3, 2], [2, 3]), ([2], [2]), ([5, 2], [2, 5]), ([4, 6, 2], [2, 4, 6]), ([2, 7], [2, 7])])
def rg15_8.B : List Nat := [0, 1, 3, 7, 15, 7, 39, 127, 255]
theorem rg15_8.tab : rtab .any (opsOf Try.f15 8) = rg15_8.T := by kernel_rfl
theorem rg15_8.bits : waitsOk rg15_8.T.2 rg15_8.B = true := by kernel_rfl
theorem set5Q {w : World} {b : Nat} {c0 c1 c2 c3 c4 : Value} {T : TypeId} (h : w.heap[b]? = some (.cells #[c0, c1, c2, c3, c4] T (0, 0))) (v0 v1 v2 v3 v4 : Value) : (((((w.setCell ⟨b, 0, none⟩ v0).setCell ⟨b, 1, none⟩ v1).setCell ⟨b, 2, none⟩ v2).setCell ⟨b, 3, none⟩ v3).setCell ⟨b, 4, none⟩ v4).heap[b]? = some (.cells #[v0, v1, v2, v3, v4] T (0, 0)) :=
  heap_setCell_same _ b 4 _ _ v4 (heap_setCell_same _ b 3 _ _ v3 (heap_setCell_same _ b 2 _ _ v2 (heap_setCell_same _ b 1 _ _ v1 (heap_setCell_same _ b 0 _ _ v0 h))))
theorem off5Q {w : World} {b g : Nat} {o : Option Obj} (v0 v1 v2 v3 v4 : Value) (hne : g ≠ b) (h : w.heap[g]? = o) : (((((w.setCell ⟨b, 0, none⟩ v0).setCell ⟨b, 1, none⟩ v1).setCell ⟨b, 2, none⟩ v2).setCell ⟨b, 3, none⟩ v3).setCell ⟨b, 4, none⟩ v4).heap[g]? = o := by
  rw [heap_setCell_other _ _ g _ hne, heap_setCell_other _ _ g _ hne, heap_setCell_other _ _ g _ hne, heap_setCell_other _ _ g _ hne, heap_setCell_other _ _ g _ hne]; exact h
theorem below5Q {w0 w : World} {B b : Nat} (v0 v1 v2 v3 v4 : Value) (hb : B ≤ b) (h : Below B w0 w) : Below B w0 (((((w.setCell ⟨b, 0, none⟩ v0).setCell ⟨b, 1, none⟩ v1).setCell ⟨b, 2, none⟩ v2).setCell ⟨b, 3, none⟩ v3).setCell ⟨b, 4, none⟩ v4) :=
  ((((h.setCell (p := ⟨b, 0, none⟩) hb _).setCell (p := ⟨b, 1, none⟩) hb _).setCell (p := ⟨b, 2, none⟩) hb _).setCell (p := ⟨b, 3, none⟩) hb _).setCell (p := ⟨b, 4, none⟩) hb _
theorem rparse_law (d s : List UInt8) (hs : s.length = 32) : parseT d s = if (readT s).right = false ∨ (frameT (readT s) d).take 28 ≠ s.take 28 then (Tg.zero, 4) else if frameT (readT s) d ≠ s then (Tg.zero, 5) else (readT s, 0) := by
  unfold parseT
  rw [if_neg (by simp [hs]), frame_take]
  by_cases h : (readT s).right = false ∨ bytesT (readT s) ≠ s.take 28
  · rw [if_pos h, if_pos h]
  · rw [if_neg h, if_neg h]
    have hb : bytesT (readT s) = s.take 28 := Classical.byContradiction fun e => h (.inr e)
    have e : sumT d (s.take 28) ≠ s.drop 28 ↔ frameT (readT s) d ≠ s := by
      unfold frameT
      rw [hb]
      constructor
      · intro h1 h2
        refine h1 ((List.append_right_inj (s.take 28)).1 ?_)
        rw [h2, List.take_append_drop]
      · intro h1 h2
        refine h1 ?_
        rw [h2, List.take_append_drop]
    by_cases h2 : sumT d (s.take 28) ≠ s.drop 28
    · rw [if_pos h2, if_pos (e.1 h2)]
    · rw [if_neg h2, if_neg (fun h3 => h2 (e.2 h3))]
theorem rget_ok (s : ByteArray) (n : Nat) (hs : s.size ≤ 8) (hn : getN s.data.toList = n) (w : World) : Calls Try.prog 26 #[.string s] w fun e w' => e = .returned (.int .u64 (n : Int)) ∧ Below w.heap.size w w' := by
  have h1 := getN_lt s.data.toList
  have h2 : (256 : Nat) ^ s.data.toList.length ≤ 256 ^ 8 := Nat.pow_le_pow_right (by decide) (by rw [Array.length_toList]; exact hs)
  have h3 : getN s.data.toList < 18446744073709551616 := Nat.lt_of_lt_of_le h1 h2
  have h := ref_get_f s (by omega) 20 (by decide)
  rw [Nat.mod_eq_of_lt h3, hn] at h
  refine (tillrollref01_Get.calls 20 s _ w h).mono ?_
  rintro e w' ⟨rfl, hb⟩
  exact ⟨rfl, hb.below⟩
theorem rframe_ok (t : Tg) (hk0 : t.kind < 256) (hs : t.seq < 18446744073709551616) (d : ByteArray) (hd : d.size ≤ 1000) (w : World) :
    Calls Try.prog 11 #[tgV t, .string d] w fun e w' => e = .returned (.tuple #[.string (str (frW t d.data.toList).1), .int .i64 (frW t d.data.toList).2]) ∧ Below w.heap.size w w' :=
  tillrollref06_Frame.calls 30000 _ _ _ _ _ d _ _ w (ref_frame_f t hk0 hs d hd 30000 (by decide))
theorem byte_at (s : ByteArray) (i : Nat) (h : i < s.size) : (s[i].toNat : Int) = (getN ((s.data.toList.drop i).take 1) : Int) := by
  have e : s.data.toList.drop i = s[i] :: s.data.toList.drop (i + 1) := List.drop_eq_getElem_cons (by rw [Array.length_toList]; exact h)
  rw [e, List.take_succ_cons, List.take_zero]
  simp [getN]
theorem rg_size : (Try.prog.info? 41).map (·.size) = some 5 := by kernel_rfl
set_option maxHeartbeats 16000000 in
set_option maxRecDepth 100000 in
theorem rparse_ok (d s : ByteArray) (hd0 : d.size ≤ 1000) (hs0 : s.size ≤ 10000) (w : World) :
    Calls Try.prog 15 #[.string d, .string s] w fun e w' => e = .returned (.tuple #[tgV (parseT d.data.toList s.data.toList).1, .int .i64 (parseT d.data.toList s.data.toList).2]) ∧ Below w.heap.size w w' := by
  obtain ⟨P, hP⟩ : ∃ P, P = parseT d.data.toList s.data.toList := ⟨_, rfl⟩
  rw [← hP]
  obtain ⟨P1, P2⟩ := P
  simp only
  have HP := Lib.hid hP; clear hP
  have HX := Lib.hid (blk_below (heap_alloc_new w (.cells #[.int .u8 0, .int .i64 0, .int .u64 0, .int .i64 0, .int .i64 0] 41)) (below_alloc (Below.refl (w.alloc (.cells #[.int .u8 0, .int .i64 0, .int .u64 0, .int .i64 0, .int .i64 0] 41)).heap.size _) (.cells #[.int .u8 0, .int .i64 0, .int .u64 0, .int .i64 0, .int .i64 0] 41)))
  have HY := Lib.hid (heap_alloc_new (w.alloc (.cells #[.int .u8 0, .int .i64 0, .int .u64 0, .int .i64 0, .int .i64 0] 41)) (.cells #[.int .u8 0, .int .i64 0, .int .u64 0, .int .i64 0, .int .i64 0] 41))
  have HB := Lib.hid (below_then (below_alloc (Below.refl w.heap.size w) (.cells #[.int .u8 0, .int .i64 0, .int .u64 0, .int .i64 0, .int .i64 0] 41)) (by simp) (below_alloc (Below.refl _ _) (.cells #[.int .u8 0, .int .i64 0, .int .u64 0, .int .i64 0, .int .i64 0] 41)))
  rw [show (w.alloc (.cells #[.int .u8 0, .int .i64 0, .int .u64 0, .int .i64 0, .int .i64 0] 41)).heap.size = w.heap.size + 1 by simp] at HY
  by_cases hs : s.size = 32
  · have hs2 : (s.size : Int) = 32 := by omega
    have hL : s.data.toList.length = 32 := by rw [Array.length_toList]; exact hs
    have HN := Lib.hid (rparse_law d.data.toList s.data.toList hL)
    have HRt := Lib.hid (show readT s.data.toList = ⟨getN ((s.data.toList.drop 1).take 1), (getN ((s.data.toList.drop 2).take 2) : Int), getN ((s.data.toList.drop 4).take 8), (getN ((s.data.toList.drop 12).take 1) : Int), (getN ((s.data.toList.drop 13).take 1) : Int)⟩ from rfl)
    have b1 := byte_at s 1 (by omega)
    have b12 := byte_at s 12 (by omega)
    have b13 := byte_at s 13 (by omega)
    have hn1 := byte_lt ((s.data.toList.drop 1).take 1) 1 (by rw [List.length_take, List.length_drop, hL]; rfl)
    have hn2 := byte_lt ((s.data.toList.drop 2).take 2) 2 (by rw [List.length_take, List.length_drop, hL]; rfl)
    have hn8 := byte_lt ((s.data.toList.drop 4).take 8) 8 (by rw [List.length_take, List.length_drop, hL]; rfl)
    have hn12 := byte_lt ((s.data.toList.drop 12).take 1) 1 (by rw [List.length_take, List.length_drop, hL]; rfl)
    have hn13 := byte_lt ((s.data.toList.drop 13).take 1) 1 (by rw [List.length_take, List.length_drop, hL]; rfl)
    have HG2 := Lib.hid (fun w => rget_ok (s.extract 2 4) (getN ((s.data.toList.drop 2).take 2)) (by rw [ByteArray.size_extract]; omega) (by conv => lhs; rw [of_data s, str_extract, str_data]; rw [List.drop_take]) w)
    have HG8 := Lib.hid (fun w => rget_ok (s.extract 4 12) (getN ((s.data.toList.drop 4).take 8)) (by rw [ByteArray.size_extract]; omega) (by conv => lhs; rw [of_data s, str_extract, str_data]; rw [List.drop_take]) w)
    generalize getN ((s.data.toList.drop 1).take 1) = k1 at HRt b1 hn1
    generalize getN ((s.data.toList.drop 2).take 2) = k2 at HRt hn2 HG2
    generalize getN ((s.data.toList.drop 4).take 8) = k8 at HRt hn8 HG8
    generalize getN ((s.data.toList.drop 12).take 1) = k12 at HRt b12 hn12
    generalize getN ((s.data.toList.drop 13).take 1) = k13 at HRt b13 hn13
    have HFr := Lib.hid (fun w => rframe_ok ⟨k1, (k2 : Int), k8, (k12 : Int), (k13 : Int)⟩ hn1 hn8 d hd0 w)
    have e2 : wrap64 (k2 : Int) = (k2 : Int) := w64_in _ (by omega) (by omega)
    have e12 : wrap64 (k12 : Int) = (k12 : Int) := w64_in _ (by omega) (by omega)
    have e13 : wrap64 (k13 : Int) = (k13 : Int) := w64_in _ (by omega) (by omega)
    clear hn1 hn2 hn8 hn12 hn13
    go_enter Try.func15, Try.ntmps15
    go_wp2_with fail
    generalize (w.alloc (.cells #[.int .u8 0, .int .i64 0, .int .u64 0, .int .i64 0, .int .i64 0] 41)).alloc (.cells #[.int .u8 0, .int .i64 0, .int .u64 0, .int .i64 0, .int .i64 0] 41) = w1 at HX HY HB ⊢
    obtain ⟨b0, hb0⟩ : ∃ b0, b0 = w.heap.size := ⟨_, rfl⟩
    obtain ⟨b6, hb6⟩ : ∃ b6, b6 = b0 + 1 := ⟨_, rfl⟩
    rw [← hb0] at HX HY ⊢
    rw [← hb6] at HY ⊢
    have HG0 := Lib.hid (show w.heap.size ≤ b0 ∧ b0 ≠ b6 by omega)
    clear hb0 hb6
    replace HX := Lib.hid (show w1.drew.heap[b0]? = some (.cells #[.int .u8 0, .int .i64 0, .int .u64 0, .int .i64 0, .int .i64 0] 41 (0, 0)) from HX.out)
    replace HY := Lib.hid (show w1.drew.heap[b6]? = some (.cells #[.int .u8 0, .int .i64 0, .int .u64 0, .int .i64 0, .int .i64 0] 41 (0, 0)) from HY.out)
    replace HB := Lib.hid (show Below w.heap.size w w1.drew from below_drew1 HB.out)
    refine start_ (n := 11) (S := fun _ => True) (ds := [10]) #[false, false, false, false, false, false, false, false, false, false, false] (by kernel_rfl) rfl rfl trivial (fun hHeld => ?_)
    refine with_tabW rg15_4.tab rg15_4.bits (fun HT_ HW_ => ?_)
    generalize w1.drew = wz at HX HY HB ⊢
    refine pure_ (i := 0) (N := some 15) (v := ?_) (a' := ?_) #[true, false, false, false, false, false, false, false, false, false, false] rfl rfl (any_of HT_.out (by kernel_rfl)) (fun _ _ _ h => h) (Or.inl ⟨by rfl, ?_⟩) ?_ ?_
    rotate_left
    · intro w'
      go_simp
      try with_reducible rfl
    rotate_left
    · simp (maxSteps := 4000000) only [Act.put, List.setIfInBounds_toArray, List.set_cons_zero, List.set_cons_succ, i64_w, i32_w]
      try rfl
    refine pure_ (i := 1) (N := some 16) (v := ?_) (a' := ?_) #[true, true, false, false, false, false, false, false, false, false, false] rfl rfl (any_of HT_.out (by kernel_rfl)) (fun _ _ _ h => h) (Or.inl ⟨by rfl, ?_⟩) ?_ ?_
    rotate_left
    · intro w'
      go_simp
      try with_reducible rfl
    rotate_left
    · simp (maxSteps := 4000000) only [Act.put, List.setIfInBounds_toArray, List.set_cons_zero, List.set_cons_succ, i64_w, i32_w]
      try rfl
    refine pure_ (i := 2) (N := some 17) (v := ?_) (a' := ?_) #[true, true, true, false, false, false, false, false, false, false, false] rfl rfl (any_of HT_.out (by kernel_rfl)) (fun _ _ _ h => h) (Or.inl ⟨by rfl, ?_⟩) ?_ ?_
    rotate_left
    · intro w'
      go_simp
      try with_reducible rfl
    rotate_left
    · simp (maxSteps := 4000000) only [Act.put, List.setIfInBounds_toArray, List.set_cons_zero, List.set_cons_succ, i64_w, i32_w]
      try rfl
    refine pure_ (i := 3) (N := some 18) (v := ?_) (a' := ?_) #[true, true, true, true, false, false, false, false, false, false, false] rfl rfl (any_of HT_.out (by kernel_rfl)) (fun _ _ _ h => h) (Or.inl ⟨by rfl, ?_⟩) ?_ ?_
    rotate_left
    · intro w'
      go_simp
      try with_reducible rfl
    rotate_left
    · simp (maxSteps := 4000000) only [Act.put, List.setIfInBounds_toArray, List.set_cons_zero, List.set_cons_succ, i64_w, i32_w]
      try rfl
    refine pure_ (i := 4) (N := some 19) (v := ?_) (a' := ?_) #[true, true, true, true, true, false, false, false, false, false, false] rfl rfl (any_of HT_.out (by kernel_rfl)) (fun _ _ _ h => h) (Or.inl ⟨by rfl, ?_⟩) ?_ ?_
    rotate_left
    · intro w'
      go_simp
      try with_reducible rfl
    rotate_left
    · simp (maxSteps := 4000000) only [Act.put, List.setIfInBounds_toArray, List.set_cons_zero, List.set_cons_succ, i64_w, i32_w]
      try rfl
    refine pure_ (i := 5) (N := some 20) (v := ?_) (a' := ?_) #[true, true, true, true, true, true, false, false, false, false, false] rfl rfl (any_of HT_.out (by kernel_rfl)) (fun _ _ _ h => h) (Or.inl ⟨by rfl, ?_⟩) ?_ ?_
    rotate_left
    · intro w'
      go_simp
      try with_reducible rfl
    rotate_left
    · simp (maxSteps := 4000000) only [Act.put, List.setIfInBounds_toArray, List.set_cons_zero, List.set_cons_succ, i64_w, i32_w]
      try rfl
    refine pure_ (i := 6) (N := some 21) (v := ?_) (a' := ?_) #[true, true, true, true, true, true, true, false, false, false, false] rfl rfl (any_of HT_.out (by kernel_rfl)) (fun _ _ _ h => h) (Or.inl ⟨by rfl, ?_⟩) ?_ ?_
    rotate_left
    · intro w'
      go_simp
      try with_reducible rfl
    rotate_left
    · simp (maxSteps := 4000000) only [Act.put, List.setIfInBounds_toArray, List.set_cons_zero, List.set_cons_succ, i64_w, i32_w]
      try rfl
    refine pure_ (i := 7) (N := some 22) (v := ?_) (a' := ?_) #[true, true, true, true, true, true, true, true, false, false, false] rfl rfl (any_of HT_.out (by kernel_rfl)) (fun _ _ _ h => h) (Or.inl ⟨by rfl, ?_⟩) ?_ ?_
    rotate_left
    · intro w'
      go_simp
      try with_reducible rfl
    rotate_left
    · simp (maxSteps := 4000000) only [Act.put, List.setIfInBounds_toArray, List.set_cons_zero, List.set_cons_succ, i64_w, i32_w]
      try rfl
    refine pure_ (i := 8) (N := some 23) (v := ?_) (a' := ?_) #[true, true, true, true, true, true, true, true, true, false, false] rfl rfl (any_of HT_.out (by kernel_rfl)) (fun _ _ _ h => h) (Or.inl ⟨by rfl, ?_⟩) ?_ ?_
    rotate_left
    · intro w'
      go_simp
      try with_reducible rfl
    rotate_left
    · simp (maxSteps := 4000000) only [Act.put, List.setIfInBounds_toArray, List.set_cons_zero, List.set_cons_succ, i64_w, i32_w]
      try rfl
    refine one_ (i := 9) (N := some 7) #[true, true, true, true, true, true, true, true, true, true, false] rfl rfl (one_of HT_.out (by kernel_rfl)) (by decide) (fun K hK => ?_)
    refine value_ (v := (.pointer (some ⟨wz.heap.size, 0, none⟩))) (w1 := wz.alloc (.cells #[.int .u8 0, .int .i64 0, .int .u64 0, .int .i64 0, .int .i64 0] 41)) (by rfl) rfl ?_ ?_
    · (go_simp)
    have HZ := Lib.hid (heap_alloc_new wz (.cells #[.int .u8 0, .int .i64 0, .int .u64 0, .int .i64 0, .int .i64 0] 41))
    have hd := below_alloc (Below.refl wz.heap.size wz) (.cells #[.int .u8 0, .int .i64 0, .int .u64 0, .int .i64 0, .int .i64 0] 41)
    have HGt := Lib.hid (And.intro HB.out.size (And.intro (Nat.ne_of_lt (blk_lt HX.out)) (Nat.ne_of_lt (blk_lt HY.out))))
    replace HX := Lib.hid (blk_below HX.out hd)
    replace HY := Lib.hid (blk_below HY.out hd)
    replace HB := Lib.hid (chain2 HB.out hd)
    clear hd
    generalize wz.heap.size = bt at HZ HGt ⊢
    generalize wz.alloc (.cells #[.int .u8 0, .int .i64 0, .int .u64 0, .int .i64 0, .int .i64 0] 41) = wz at HX HY HZ HB ⊢
    refine hK.out _ _ (trivial) (fun hHeld => ?_)
    clear hK K
    refine norm_ (a' := ?_) ?_ ?_
    rotate_left
    · show Act.put _ (some 7) _ = _
      simp (maxSteps := 4000000) only [Act.put, List.setIfInBounds_toArray, List.set_cons_zero, List.set_cons_succ, i64_w, i32_w]
      try rfl
    refine last_ (i := 10) (N := none) #[true, true, true, true, true, true, true, true, true, true, true] rfl rfl (one_of HT_.out (by kernel_rfl)) (by decide) (fun K hK => ?_)
    refine skip_ (w1 := ((((wz.setCell ⟨bt, 0, none⟩ (.int .u8 (k1 : Int))).setCell ⟨bt, 1, none⟩ (.int .i64 0)).setCell ⟨bt, 2, none⟩ (.int .u64 0)).setCell ⟨bt, 3, none⟩ (.int .i64 (k12 : Int))).setCell ⟨bt, 4, none⟩ (.int .i64 (k13 : Int))) (by rfl) rfl ?_ ?_
    · (obtain ⟨y0, y1, y2, y3, y4⟩ := tg_cells HZ.out; have f0 := fun i => pl_frozenT HZ.out i; go_simp)
    refine hK.out _ _ ?_
    clear hK K
    refine done_ (done_of HT_.out (by kernel_rfl)) ?_
    generalize hw9 : ((((wz.setCell ⟨bt, 0, none⟩ (.int .u8 (k1 : Int))).setCell ⟨bt, 1, none⟩ (.int .i64 0)).setCell ⟨bt, 2, none⟩ (.int .u64 0)).setCell ⟨bt, 3, none⟩ (.int .i64 (k12 : Int))).setCell ⟨bt, 4, none⟩ (.int .i64 (k13 : Int)) = w9
    replace HZ := Lib.hid (show w9.heap[bt]? = _ from hw9 ▸ set5Q HZ.out _ _ _ _ _)
    replace HX := Lib.hid (show w9.heap[b0]? = some (.cells #[.int .u8 0, .int .i64 0, .int .u64 0, .int .i64 0, .int .i64 0] 41 (0, 0)) from hw9 ▸ off5Q _ _ _ _ _ HGt.out.2.1 HX.out)
    replace HY := Lib.hid (show w9.heap[b6]? = some (.cells #[.int .u8 0, .int .i64 0, .int .u64 0, .int .i64 0, .int .i64 0] 41 (0, 0)) from hw9 ▸ off5Q _ _ _ _ _ HGt.out.2.2 HY.out)
    replace HB := Lib.hid (show Below w.heap.size w w9 from hw9 ▸ below5Q _ _ _ _ _ HGt.out.1 HB.out)
    clear hw9
    go_wp2_with fail
    refine (HG2.out w9).mono ?_
    rintro e w10 ⟨rfl, hd⟩
    replace HZ := Lib.hid (blk_below HZ.out hd)
    replace HX := Lib.hid (blk_below HX.out hd)
    replace HY := Lib.hid (blk_below HY.out hd)
    replace HB := Lib.hid (chain2 HB.out hd); clear hd
    obtain ⟨x0, x1, x2, x3, x4⟩ := tg_cells HZ.out
    have f1 := fun i => pl_frozenT HZ.out i
    go_wp2_with fail
    clear x0 x1 x2 x3 x4 f1
    generalize hw9 : w10.setCell ⟨bt, 1, none⟩ (.int .i64 (k2 : Int)) = w11
    replace HZ := Lib.hid (show w11.heap[bt]? = _ from hw9 ▸ heap_setCell_same _ bt 1 _ _ (.int .i64 (k2 : Int)) HZ.out)
    replace HX := Lib.hid (show w11.heap[b0]? = some (.cells #[.int .u8 0, .int .i64 0, .int .u64 0, .int .i64 0, .int .i64 0] 41 (0, 0)) by rw [← hw9, heap_setCell_other _ _ b0 _ HGt.out.2.1]; exact HX.out)
    replace HY := Lib.hid (show w11.heap[b6]? = some (.cells #[.int .u8 0, .int .i64 0, .int .u64 0, .int .i64 0, .int .i64 0] 41 (0, 0)) by rw [← hw9, heap_setCell_other _ _ b6 _ HGt.out.2.2]; exact HY.out)
    replace HB := Lib.hid (show Below w.heap.size w w11 from hw9 ▸ HB.out.setCell (p := ⟨bt, 1, none⟩) HGt.out.1 _)
    clear hw9
    refine (HG8.out w11).mono ?_
    rintro e w12 ⟨rfl, hd⟩
    replace HZ := Lib.hid (blk_below HZ.out hd)
    replace HX := Lib.hid (blk_below HX.out hd)
    replace HY := Lib.hid (blk_below HY.out hd)
    replace HB := Lib.hid (chain2 HB.out hd); clear hd
    obtain ⟨x0, x1, x2, x3, x4⟩ := tg_cells HZ.out
    have f1 := fun i => pl_frozenT HZ.out i
    go_wp2_with fail
    clear x0 x1 x2 x3 x4 f1
    generalize hw9 : w12.setCell ⟨bt, 2, none⟩ (.int .u64 (k8 : Int)) = w13
    replace HZ := Lib.hid (show w13.heap[bt]? = _ from hw9 ▸ heap_setCell_same _ bt 2 _ _ (.int .u64 (k8 : Int)) HZ.out)
    replace HX := Lib.hid (show w13.heap[b0]? = some (.cells #[.int .u8 0, .int .i64 0, .int .u64 0, .int .i64 0, .int .i64 0] 41 (0, 0)) by rw [← hw9, heap_setCell_other _ _ b0 _ HGt.out.2.1]; exact HX.out)
    replace HY := Lib.hid (show w13.heap[b6]? = some (.cells #[.int .u8 0, .int .i64 0, .int .u64 0, .int .i64 0, .int .i64 0] 41 (0, 0)) by rw [← hw9, heap_setCell_other _ _ b6 _ HGt.out.2.2]; exact HY.out)
    replace HB := Lib.hid (show Below w.heap.size w w13 from hw9 ▸ HB.out.setCell (p := ⟨bt, 2, none⟩) HGt.out.1 _)
    clear hw9
    refine (HFr.out w13).mono ?_
    rintro e w14 ⟨rfl, hd⟩
    replace HZ := Lib.hid (blk_below HZ.out hd)
    replace HX := Lib.hid (blk_below HX.out hd)
    replace HY := Lib.hid (blk_below HY.out hd)
    replace HB := Lib.hid (chain2 HB.out hd); clear hd
    have hn := HN.out
    rw [HRt.out] at hn
    clear HFr HG2 HG8 HRt HN
    by_cases hr : Tg.right (⟨k1, (k2 : Int), k8, (k12 : Int), (k13 : Int)⟩ : Tg) = true
    · rw [show frW (⟨k1, (k2 : Int), k8, (k12 : Int), (k13 : Int)⟩ : Tg) d.data.toList = (frameT (⟨k1, (k2 : Int), k8, (k12 : Int), (k13 : Int)⟩ : Tg) d.data.toList, 0) from if_pos hr]
      rw [hr] at hn
      have hl := frameT_len (⟨k1, (k2 : Int), k8, (k12 : Int), (k13 : Int)⟩ : Tg) d.data.toList
      simp only
      generalize frameT (⟨k1, (k2 : Int), k8, (k12 : Int), (k13 : Int)⟩ : Tg) d.data.toList = fT at hn hl ⊢
      have HE := Lib.hid (show (str fT).data.toList = fT from str_data _)
      have hsz : (str fT).size = 32 := by rw [str_size, hl]
      have hx1 : ((str fT).extract 0 28).toList = fT.take 28 := by rw [str_extract, str_toList, List.drop_zero]
      have hx2 : (s.extract 0 28).toList = s.data.toList.take 28 := by
        conv => lhs; rw [of_data s, str_extract, str_toList]
        rw [List.drop_zero]
      have hx3 : s.toList = s.data.toList := by conv => lhs; rw [of_data s, str_toList]
      by_cases h28 : fT.take 28 = s.data.toList.take 28
      · rw [if_neg (by rintro (h | h); exact absurd h (by decide); exact h h28)] at hn
        have hq : (((str fT).extract 0 28).toList == (s.extract 0 28).toList) = true := by rw [hx1, hx2, h28]; simp
        by_cases hS : fT = s.data.toList
        · have hSS : str fT = s := by rw [hS, ← of_data]
          rw [if_neg (by simp [hS])] at hn
          have HV := Lib.hid (show (P1, P2) = ((⟨k1, (k2 : Int), k8, (k12 : Int), (k13 : Int)⟩ : Tg), 0) by rw [HP.out, hn])
          clear hx1 hx2 hx3 hn hl hr h28 hS HE
          rw [hSS] at hq hsz ⊢
          clear hSS
          go_wp2_with fail
          replace HX := Lib.hid (show w14.drew.heap[b0]? = some (.cells #[.int .u8 0, .int .i64 0, .int .u64 0, .int .i64 0, .int .i64 0] 41 (0, 0)) from HX.out)
          replace HY := Lib.hid (show w14.drew.heap[b6]? = some (.cells #[.int .u8 0, .int .i64 0, .int .u64 0, .int .i64 0, .int .i64 0] 41 (0, 0)) from HY.out)
          replace HZ := Lib.hid (show w14.drew.heap[bt]? = some (.cells #[.int .u8 (k1 : Int), .int .i64 (k2 : Int), .int .u64 (k8 : Int), .int .i64 (k12 : Int), .int .i64 (k13 : Int)] 41 (0, 0)) from HZ.out)
          replace HB := Lib.hid (show Below w.heap.size w w14.drew from below_drew1 HB.out)
          refine start_ (n := 9) (S := fun _ => True) (ds := []) #[false, false, false, false, false, false, false, false, false] (by kernel_rfl) rfl rfl trivial (fun hHeld => ?_)
          refine with_tabW rg15_8.tab rg15_8.bits (fun HT_ HW_ => ?_)
          generalize w14.drew = w' at HX HY HZ HB ⊢
          refine pure_ (i := 0) (N := some 39) (v := ?_) (a' := ?_) #[true, false, false, false, false, false, false, false, false] rfl rfl (any_of HT_.out (by kernel_rfl)) (fun _ _ _ h => h) (Or.inl ⟨by rfl, ?_⟩) ?_ ?_
          rotate_left
          · intro w'
            go_simp
            try with_reducible rfl
          rotate_left
          · simp (maxSteps := 4000000) only [Act.put, List.setIfInBounds_toArray, List.set_cons_zero, List.set_cons_succ, i64_w, i32_w]
            try rfl
          refine pure_ (i := 1) (N := some 40) (v := ?_) (a' := ?_) #[true, true, false, false, false, false, false, false, false] rfl rfl (any_of HT_.out (by kernel_rfl)) (fun _ _ _ h => h) (Or.inl ⟨by rfl, ?_⟩) ?_ ?_
          rotate_left
          · intro w'
            go_simp
            try with_reducible rfl
          rotate_left
          · simp (maxSteps := 4000000) only [Act.put, List.setIfInBounds_toArray, List.set_cons_zero, List.set_cons_succ, i64_w, i32_w]
            try rfl
          refine pure_ (i := 2) (N := some 41) (v := ?_) (a' := ?_) #[true, true, true, false, false, false, false, false, false] rfl rfl (any_of HT_.out (by kernel_rfl)) (fun _ _ _ h => h) (Or.inl ⟨by rfl, ?_⟩) ?_ ?_
          rotate_left
          · intro w'
            go_simp
            try with_reducible rfl
          rotate_left
          · simp (maxSteps := 4000000) only [Act.put, List.setIfInBounds_toArray, List.set_cons_zero, List.set_cons_succ, i64_w, i32_w]
            try rfl
          refine pure_ (i := 3) (N := some 42) (v := ?_) (a' := ?_) #[true, true, true, true, false, false, false, false, false] rfl rfl (any_of HT_.out (by kernel_rfl)) (fun _ _ _ h => h) (Or.inl ⟨by rfl, ?_⟩) ?_ ?_
          rotate_left
          · intro w'
            go_simp
            try with_reducible rfl
          rotate_left
          · simp (maxSteps := 4000000) only [Act.put, List.setIfInBounds_toArray, List.set_cons_zero, List.set_cons_succ, i64_w, i32_w]
            try rfl
          refine pure_ (i := 4) (N := some 43) (v := ?_) (a' := ?_) #[true, true, true, true, true, false, false, false, false] rfl rfl (any_of HT_.out (by kernel_rfl)) (fun _ _ _ h => h) (Or.inl ⟨by rfl, ?_⟩) ?_ ?_
          rotate_left
          · intro w'
            go_simp
            try with_reducible rfl
          rotate_left
          · simp (maxSteps := 4000000) only [Act.put, List.setIfInBounds_toArray, List.set_cons_zero, List.set_cons_succ, i64_w, i32_w]
            try rfl
          refine pure_ (i := 5) (N := some 44) (v := ?_) (a' := ?_) #[true, true, true, true, true, true, false, false, false] rfl rfl (any_of HT_.out (by kernel_rfl)) (fun _ _ _ h => h) (Or.inl ⟨by rfl, ?_⟩) ?_ ?_
          rotate_left
          · intro w'
            go_simp
            try with_reducible rfl
          rotate_left
          · simp (maxSteps := 4000000) only [Act.put, List.setIfInBounds_toArray, List.set_cons_zero, List.set_cons_succ, i64_w, i32_w]
            try rfl
          refine pure_ (i := 6) (N := some 45) (v := ?_) (a' := ?_) #[true, true, true, true, true, true, true, false, false] rfl rfl (any_of HT_.out (by kernel_rfl)) (fun _ _ _ h => h) (Or.inl ⟨by rfl, ?_⟩) ?_ ?_
          rotate_left
          · intro w'
            go_simp
            try with_reducible rfl
          rotate_left
          · simp (maxSteps := 4000000) only [Act.put, List.setIfInBounds_toArray, List.set_cons_zero, List.set_cons_succ, i64_w, i32_w]
            try rfl
          refine pure_ (i := 7) (N := some 46) (v := ?_) (a' := ?_) #[true, true, true, true, true, true, true, true, false] rfl rfl (any_of HT_.out (by kernel_rfl)) (fun _ _ _ h => h) (Or.inl ⟨by rfl, ?_⟩) ?_ ?_
          rotate_left
          · intro w'
            go_simp
            try with_reducible rfl
          rotate_left
          · simp (maxSteps := 4000000) only [Act.put, List.setIfInBounds_toArray, List.set_cons_zero, List.set_cons_succ, i64_w, i32_w]
            try rfl
          refine pure_ (i := 8) (N := some 47) (v := ?_) (a' := ?_) #[true, true, true, true, true, true, true, true, true] rfl rfl (any_of HT_.out (by kernel_rfl)) (fun _ _ _ h => h) (Or.inl ⟨by rfl, ?_⟩) ?_ ?_
          rotate_left
          · intro w'
            go_simp
            try with_reducible rfl
          rotate_left
          · simp (maxSteps := 4000000) only [Act.put, List.setIfInBounds_toArray, List.set_cons_zero, List.set_cons_succ, i64_w, i32_w]
            try rfl
          refine done_ (done_of HT_.out (by kernel_rfl)) ?_
          obtain ⟨x0, x1, x2, x3, x4⟩ := tg_cells HZ.out
          obtain ⟨z0, z1, z2, z3, z4⟩ := tg_cells HX.out
          have f2 := fun i => pl_frozenT HX.out i
          go_wp2
          have hx := set5Q HX.out (.int .u8 (k1 : Int)) (.int .i64 (k2 : Int)) (.int .u64 (k8 : Int)) (.int .i64 (k12 : Int)) (.int .i64 (k13 : Int))
          refine bodyPost_ret (results_ct rfl _ _ b0 41 _ (0, 0) _ rfl hx Try.underlying41 rfl rg_size) rfl ?_
          exact ⟨ret_tg HV.out.symm, below5Q _ _ _ _ _ HG0.out.1 HB.out⟩
        · rw [if_pos hS] at hn
          have hne2 : ((str fT).toList == s.toList) = false := by rw [str_toList, hx3]; simpa using hS
          clear hx1 hx2 hx3 hl hr h28 hS HE
          generalize str fT = S at hq hsz hne2 ⊢
          have HN := Lib.hid hn; clear hn
          have HV := Lib.hid (show (P1, P2) = (Tg.zero, 5) by rw [HP.out, HN.out])
          go_wp2_with fail
          replace HX := Lib.hid (show w14.drew.heap[b0]? = some (.cells #[.int .u8 0, .int .i64 0, .int .u64 0, .int .i64 0, .int .i64 0] 41 (0, 0)) from HX.out)
          replace HY := Lib.hid (show w14.drew.heap[b6]? = some (.cells #[.int .u8 0, .int .i64 0, .int .u64 0, .int .i64 0, .int .i64 0] 41 (0, 0)) from HY.out)
          replace HZ := Lib.hid (show w14.drew.heap[bt]? = some (.cells #[.int .u8 (k1 : Int), .int .i64 (k2 : Int), .int .u64 (k8 : Int), .int .i64 (k12 : Int), .int .i64 (k13 : Int)] 41 (0, 0)) from HZ.out)
          replace HB := Lib.hid (show Below w.heap.size w w14.drew from below_drew1 HB.out)
          refine start_ (n := 9) (S := fun _ => True) (ds := []) #[false, false, false, false, false, false, false, false, false] (by kernel_rfl) rfl rfl trivial (fun hHeld => ?_)
          refine with_tabW rg15_8.tab rg15_8.bits (fun HT_ HW_ => ?_)
          generalize w14.drew = w' at HX HY HZ HB ⊢
          refine pure_ (i := 0) (N := some 39) (v := ?_) (a' := ?_) #[true, false, false, false, false, false, false, false, false] rfl rfl (any_of HT_.out (by kernel_rfl)) (fun _ _ _ h => h) (Or.inl ⟨by rfl, ?_⟩) ?_ ?_
          rotate_left
          · intro w'
            go_simp
            try with_reducible rfl
          rotate_left
          · simp (maxSteps := 4000000) only [Act.put, List.setIfInBounds_toArray, List.set_cons_zero, List.set_cons_succ, i64_w, i32_w]
            try rfl
          refine pure_ (i := 1) (N := some 40) (v := ?_) (a' := ?_) #[true, true, false, false, false, false, false, false, false] rfl rfl (any_of HT_.out (by kernel_rfl)) (fun _ _ _ h => h) (Or.inl ⟨by rfl, ?_⟩) ?_ ?_
          rotate_left
          · intro w'
            go_simp
            try with_reducible rfl
          rotate_left
          · simp (maxSteps := 4000000) only [Act.put, List.setIfInBounds_toArray, List.set_cons_zero, List.set_cons_succ, i64_w, i32_w]
            try rfl
          refine pure_ (i := 2) (N := some 41) (v := ?_) (a' := ?_) #[true, true, true, false, false, false, false, false, false] rfl rfl (any_of HT_.out (by kernel_rfl)) (fun _ _ _ h => h) (Or.inl ⟨by rfl, ?_⟩) ?_ ?_
          rotate_left
          · intro w'
            go_simp
            try with_reducible rfl
          rotate_left
          · simp (maxSteps := 4000000) only [Act.put, List.setIfInBounds_toArray, List.set_cons_zero, List.set_cons_succ, i64_w, i32_w]
            try rfl
          refine pure_ (i := 3) (N := some 42) (v := ?_) (a' := ?_) #[true, true, true, true, false, false, false, false, false] rfl rfl (any_of HT_.out (by kernel_rfl)) (fun _ _ _ h => h) (Or.inl ⟨by rfl, ?_⟩) ?_ ?_
          rotate_left
          · intro w'
            go_simp
            try with_reducible rfl
          rotate_left
          · simp (maxSteps := 4000000) only [Act.put, List.setIfInBounds_toArray, List.set_cons_zero, List.set_cons_succ, i64_w, i32_w]
            try rfl
          refine pure_ (i := 4) (N := some 43) (v := ?_) (a' := ?_) #[true, true, true, true, true, false, false, false, false] rfl rfl (any_of HT_.out (by kernel_rfl)) (fun _ _ _ h => h) (Or.inl ⟨by rfl, ?_⟩) ?_ ?_
          rotate_left
          · intro w'
            go_simp
            try with_reducible rfl
          rotate_left
          · simp (maxSteps := 4000000) only [Act.put, List.setIfInBounds_toArray, List.set_cons_zero, List.set_cons_succ, i64_w, i32_w]
            try rfl
          refine pure_ (i := 5) (N := some 44) (v := ?_) (a' := ?_) #[true, true, true, true, true, true, false, false, false] rfl rfl (any_of HT_.out (by kernel_rfl)) (fun _ _ _ h => h) (Or.inl ⟨by rfl, ?_⟩) ?_ ?_
          rotate_left
          · intro w'
            go_simp
            try with_reducible rfl
          rotate_left
          · simp (maxSteps := 4000000) only [Act.put, List.setIfInBounds_toArray, List.set_cons_zero, List.set_cons_succ, i64_w, i32_w]
            try rfl
          refine pure_ (i := 6) (N := some 45) (v := ?_) (a' := ?_) #[true, true, true, true, true, true, true, false, false] rfl rfl (any_of HT_.out (by kernel_rfl)) (fun _ _ _ h => h) (Or.inl ⟨by rfl, ?_⟩) ?_ ?_
          rotate_left
          · intro w'
            go_simp
            try with_reducible rfl
          rotate_left
          · simp (maxSteps := 4000000) only [Act.put, List.setIfInBounds_toArray, List.set_cons_zero, List.set_cons_succ, i64_w, i32_w]
            try rfl
          refine pure_ (i := 7) (N := some 46) (v := ?_) (a' := ?_) #[true, true, true, true, true, true, true, true, false] rfl rfl (any_of HT_.out (by kernel_rfl)) (fun _ _ _ h => h) (Or.inl ⟨by rfl, ?_⟩) ?_ ?_
          rotate_left
          · intro w'
            go_simp
            try with_reducible rfl
          rotate_left
          · simp (maxSteps := 4000000) only [Act.put, List.setIfInBounds_toArray, List.set_cons_zero, List.set_cons_succ, i64_w, i32_w]
            try rfl
          refine pure_ (i := 8) (N := some 47) (v := ?_) (a' := ?_) #[true, true, true, true, true, true, true, true, true] rfl rfl (any_of HT_.out (by kernel_rfl)) (fun _ _ _ h => h) (Or.inl ⟨by rfl, ?_⟩) ?_ ?_
          rotate_left
          · intro w'
            go_simp
            try with_reducible rfl
          rotate_left
          · simp (maxSteps := 4000000) only [Act.put, List.setIfInBounds_toArray, List.set_cons_zero, List.set_cons_succ, i64_w, i32_w]
            try rfl
          refine done_ (done_of HT_.out (by kernel_rfl)) ?_
          obtain ⟨z0, z1, z2, z3, z4⟩ := tg_cells HX.out
          have f2 := fun i => pl_frozenT HX.out i
          obtain ⟨u0, u1, u2, u3, u4⟩ := tg_cells HY.out
          have hne := HG0.out.2
          go_wp2
          have hx := set5Q HX.out (.int .u8 0) (.int .i64 0) (.int .u64 0) (.int .i64 0) (.int .i64 0)
          refine bodyPost_ret (results_ct rfl _ _ b0 41 _ (0, 0) _ rfl hx Try.underlying41 rfl rg_size) rfl ?_
          exact ⟨ret_tg HV.out.symm, below5Q _ _ _ _ _ HG0.out.1 HB.out⟩
      · rw [if_pos (.inr h28)] at hn
        have hq : (((str fT).extract 0 28).toList == (s.extract 0 28).toList) = false := by rw [hx1, hx2]; simpa using h28
        clear hx1 hx2 hx3 hl hr h28 HE
        generalize str fT = S at hq hsz ⊢
        have HN := Lib.hid hn; clear hn
        have HV := Lib.hid (show (P1, P2) = (Tg.zero, 4) by rw [HP.out, HN.out])
        go_wp2_with fail
        replace HX := Lib.hid (show w14.drew.heap[b0]? = some (.cells #[.int .u8 0, .int .i64 0, .int .u64 0, .int .i64 0, .int .i64 0] 41 (0, 0)) from HX.out)
        replace HY := Lib.hid (show w14.drew.heap[b6]? = some (.cells #[.int .u8 0, .int .i64 0, .int .u64 0, .int .i64 0, .int .i64 0] 41 (0, 0)) from HY.out)
        replace HZ := Lib.hid (show w14.drew.heap[bt]? = some (.cells #[.int .u8 (k1 : Int), .int .i64 (k2 : Int), .int .u64 (k8 : Int), .int .i64 (k12 : Int), .int .i64 (k13 : Int)] 41 (0, 0)) from HZ.out)
        replace HB := Lib.hid (show Below w.heap.size w w14.drew from below_drew1 HB.out)
        refine start_ (n := 9) (S := fun _ => True) (ds := []) #[false, false, false, false, false, false, false, false, false] (by kernel_rfl) rfl rfl trivial (fun hHeld => ?_)
        refine with_tabW rg15_8.tab rg15_8.bits (fun HT_ HW_ => ?_)
        generalize w14.drew = w' at HX HY HZ HB ⊢
        refine pure_ (i := 0) (N := some 39) (v := ?_) (a' := ?_) #[true, false, false, false, false, false, false, false, false] rfl rfl (any_of HT_.out (by kernel_rfl)) (fun _ _ _ h => h) (Or.inl ⟨by rfl, ?_⟩) ?_ ?_
        rotate_left
        · intro w'
          go_simp
          try with_reducible rfl
        rotate_left
        · simp (maxSteps := 4000000) only [Act.put, List.setIfInBounds_toArray, List.set_cons_zero, List.set_cons_succ, i64_w, i32_w]
          try rfl
        refine pure_ (i := 1) (N := some 40) (v := ?_) (a' := ?_) #[true, true, false, false, false, false, false, false, false] rfl rfl (any_of HT_.out (by kernel_rfl)) (fun _ _ _ h => h) (Or.inl ⟨by rfl, ?_⟩) ?_ ?_
        rotate_left
        · intro w'
          go_simp
          try with_reducible rfl
        rotate_left
        · simp (maxSteps := 4000000) only [Act.put, List.setIfInBounds_toArray, List.set_cons_zero, List.set_cons_succ, i64_w, i32_w]
          try rfl
        refine pure_ (i := 2) (N := some 41) (v := ?_) (a' := ?_) #[true, true, true, false, false, false, false, false, false] rfl rfl (any_of HT_.out (by kernel_rfl)) (fun _ _ _ h => h) (Or.inl ⟨by rfl, ?_⟩) ?_ ?_
        rotate_left
        · intro w'
          go_simp
          try with_reducible rfl
        rotate_left
        · simp (maxSteps := 4000000) only [Act.put, List.setIfInBounds_toArray, List.set_cons_zero, List.set_cons_succ, i64_w, i32_w]
          try rfl
        refine pure_ (i := 3) (N := some 42) (v := ?_) (a' := ?_) #[true, true, true, true, false, false, false, false, false] rfl rfl (any_of HT_.out (by kernel_rfl)) (fun _ _ _ h => h) (Or.inl ⟨by rfl, ?_⟩) ?_ ?_
        rotate_left
        · intro w'
          go_simp
          try with_reducible rfl
        rotate_left
        · simp (maxSteps := 4000000) only [Act.put, List.setIfInBounds_toArray, List.set_cons_zero, List.set_cons_succ, i64_w, i32_w]
          try rfl
        refine pure_ (i := 4) (N := some 43) (v := ?_) (a' := ?_) #[true, true, true, true, true, false, false, false, false] rfl rfl (any_of HT_.out (by kernel_rfl)) (fun _ _ _ h => h) (Or.inl ⟨by rfl, ?_⟩) ?_ ?_
        rotate_left
        · intro w'
          go_simp
          try with_reducible rfl
        rotate_left
        · simp (maxSteps := 4000000) only [Act.put, List.setIfInBounds_toArray, List.set_cons_zero, List.set_cons_succ, i64_w, i32_w]
          try rfl
        refine pure_ (i := 5) (N := some 44) (v := ?_) (a' := ?_) #[true, true, true, true, true, true, false, false, false] rfl rfl (any_of HT_.out (by kernel_rfl)) (fun _ _ _ h => h) (Or.inl ⟨by rfl, ?_⟩) ?_ ?_
        rotate_left
        · intro w'
          go_simp
          try with_reducible rfl
        rotate_left
        · simp (maxSteps := 4000000) only [Act.put, List.setIfInBounds_toArray, List.set_cons_zero, List.set_cons_succ, i64_w, i32_w]
          try rfl
        refine pure_ (i := 6) (N := some 45) (v := ?_) (a' := ?_) #[true, true, true, true, true, true, true, false, false] rfl rfl (any_of HT_.out (by kernel_rfl)) (fun _ _ _ h => h) (Or.inl ⟨by rfl, ?_⟩) ?_ ?_
        rotate_left
        · intro w'
          go_simp
          try with_reducible rfl
        rotate_left
        · simp (maxSteps := 4000000) only [Act.put, List.setIfInBounds_toArray, List.set_cons_zero, List.set_cons_succ, i64_w, i32_w]
          try rfl
        refine pure_ (i := 7) (N := some 46) (v := ?_) (a' := ?_) #[true, true, true, true, true, true, true, true, false] rfl rfl (any_of HT_.out (by kernel_rfl)) (fun _ _ _ h => h) (Or.inl ⟨by rfl, ?_⟩) ?_ ?_
        rotate_left
        · intro w'
          go_simp
          try with_reducible rfl
        rotate_left
        · simp (maxSteps := 4000000) only [Act.put, List.setIfInBounds_toArray, List.set_cons_zero, List.set_cons_succ, i64_w, i32_w]
          try rfl
        refine pure_ (i := 8) (N := some 47) (v := ?_) (a' := ?_) #[true, true, true, true, true, true, true, true, true] rfl rfl (any_of HT_.out (by kernel_rfl)) (fun _ _ _ h => h) (Or.inl ⟨by rfl, ?_⟩) ?_ ?_
        rotate_left
        · intro w'
          go_simp
          try with_reducible rfl
        rotate_left
        · simp (maxSteps := 4000000) only [Act.put, List.setIfInBounds_toArray, List.set_cons_zero, List.set_cons_succ, i64_w, i32_w]
          try rfl
        refine done_ (done_of HT_.out (by kernel_rfl)) ?_
        obtain ⟨z0, z1, z2, z3, z4⟩ := tg_cells HX.out
        have f2 := fun i => pl_frozenT HX.out i
        obtain ⟨u0, u1, u2, u3, u4⟩ := tg_cells HY.out
        have hne := HG0.out.2
        go_wp2
        have hx := set5Q HX.out (.int .u8 0) (.int .i64 0) (.int .u64 0) (.int .i64 0) (.int .i64 0)
        refine bodyPost_ret (results_ct rfl _ _ b0 41 _ (0, 0) _ rfl hx Try.underlying41 rfl rg_size) rfl ?_
        exact ⟨ret_tg HV.out.symm, below5Q _ _ _ _ _ HG0.out.1 HB.out⟩
    · rw [show frW (⟨k1, (k2 : Int), k8, (k12 : Int), (k13 : Int)⟩ : Tg) d.data.toList = ([], 2) from if_neg hr]
      rw [if_pos (.inl (by simpa using hr))] at hn
      have HN := Lib.hid hn; clear hn hr
      simp only
      generalize str [] = S
      have HV := Lib.hid (show (P1, P2) = (Tg.zero, 4) by rw [HP.out, HN.out])
      go_wp2_with fail
      replace HX := Lib.hid (show w14.drew.heap[b0]? = some (.cells #[.int .u8 0, .int .i64 0, .int .u64 0, .int .i64 0, .int .i64 0] 41 (0, 0)) from HX.out)
      replace HY := Lib.hid (show w14.drew.heap[b6]? = some (.cells #[.int .u8 0, .int .i64 0, .int .u64 0, .int .i64 0, .int .i64 0] 41 (0, 0)) from HY.out)
      replace HZ := Lib.hid (show w14.drew.heap[bt]? = some (.cells #[.int .u8 (k1 : Int), .int .i64 (k2 : Int), .int .u64 (k8 : Int), .int .i64 (k12 : Int), .int .i64 (k13 : Int)] 41 (0, 0)) from HZ.out)
      replace HB := Lib.hid (show Below w.heap.size w w14.drew from below_drew1 HB.out)
      refine start_ (n := 9) (S := fun _ => True) (ds := []) #[false, false, false, false, false, false, false, false, false] (by kernel_rfl) rfl rfl trivial (fun hHeld => ?_)
      refine with_tabW rg15_8.tab rg15_8.bits (fun HT_ HW_ => ?_)
      generalize w14.drew = w' at HX HY HZ HB ⊢
      refine pure_ (i := 0) (N := some 39) (v := ?_) (a' := ?_) #[true, false, false, false, false, false, false, false, false] rfl rfl (any_of HT_.out (by kernel_rfl)) (fun _ _ _ h => h) (Or.inl ⟨by rfl, ?_⟩) ?_ ?_
      rotate_left
      · intro w'
        go_simp
        try with_reducible rfl
      rotate_left
      · simp (maxSteps := 4000000) only [Act.put, List.setIfInBounds_toArray, List.set_cons_zero, List.set_cons_succ, i64_w, i32_w]
        try rfl
      refine pure_ (i := 1) (N := some 40) (v := ?_) (a' := ?_) #[true, true, false, false, false, false, false, false, false] rfl rfl (any_of HT_.out (by kernel_rfl)) (fun _ _ _ h => h) (Or.inl ⟨by rfl, ?_⟩) ?_ ?_
      rotate_left
      · intro w'
        go_simp
        try with_reducible rfl
      rotate_left
      · simp (maxSteps := 4000000) only [Act.put, List.setIfInBounds_toArray, List.set_cons_zero, List.set_cons_succ, i64_w, i32_w]
        try rfl
      refine pure_ (i := 2) (N := some 41) (v := ?_) (a' := ?_) #[true, true, true, false, false, false, false, false, false] rfl rfl (any_of HT_.out (by kernel_rfl)) (fun _ _ _ h => h) (Or.inl ⟨by rfl, ?_⟩) ?_ ?_
      rotate_left
      · intro w'
        go_simp
        try with_reducible rfl
      rotate_left
      · simp (maxSteps := 4000000) only [Act.put, List.setIfInBounds_toArray, List.set_cons_zero, List.set_cons_succ, i64_w, i32_w]
        try rfl
      refine pure_ (i := 3) (N := some 42) (v := undef) (a' := ?_) #[true, true, true, true, false, false, false, false, false] rfl rfl (any_of HT_.out (by kernel_rfl)) (fun _ _ _ h => h) (Or.inr ⟨by rfl, rfl⟩) ?_ ?_
      rotate_left
      · simp (maxSteps := 4000000) only [Act.put, List.setIfInBounds_toArray, List.set_cons_zero, List.set_cons_succ, i64_w, i32_w]
        try rfl
      refine pure_ (i := 4) (N := some 43) (v := undef) (a' := ?_) #[true, true, true, true, true, false, false, false, false] rfl rfl (any_of HT_.out (by kernel_rfl)) (fun _ _ _ h => h) (Or.inr ⟨by rfl, rfl⟩) ?_ ?_
      rotate_left
      · simp (maxSteps := 4000000) only [Act.put, List.setIfInBounds_toArray, List.set_cons_zero, List.set_cons_succ, i64_w, i32_w]
        try rfl
      refine pure_ (i := 5) (N := some 44) (v := undef) (a' := ?_) #[true, true, true, true, true, true, false, false, false] rfl rfl (any_of HT_.out (by kernel_rfl)) (fun _ _ _ h => h) (Or.inr ⟨by rfl, rfl⟩) ?_ ?_
      rotate_left
      · simp (maxSteps := 4000000) only [Act.put, List.setIfInBounds_toArray, List.set_cons_zero, List.set_cons_succ, i64_w, i32_w]
        try rfl
      refine pure_ (i := 6) (N := some 45) (v := undef) (a' := ?_) #[true, true, true, true, true, true, true, false, false] rfl rfl (any_of HT_.out (by kernel_rfl)) (fun _ _ _ h => h) (Or.inr ⟨by rfl, rfl⟩) ?_ ?_
      rotate_left
      · simp (maxSteps := 4000000) only [Act.put, List.setIfInBounds_toArray, List.set_cons_zero, List.set_cons_succ, i64_w, i32_w]
        try rfl
      refine pure_ (i := 7) (N := some 46) (v := undef) (a' := ?_) #[true, true, true, true, true, true, true, true, false] rfl rfl (any_of HT_.out (by kernel_rfl)) (fun _ _ _ h => h) (Or.inr ⟨by rfl, rfl⟩) ?_ ?_
      rotate_left
      · simp (maxSteps := 4000000) only [Act.put, List.setIfInBounds_toArray, List.set_cons_zero, List.set_cons_succ, i64_w, i32_w]
        try rfl
      refine pure_ (i := 8) (N := some 47) (v := ?_) (a' := ?_) #[true, true, true, true, true, true, true, true, true] rfl rfl (any_of HT_.out (by kernel_rfl)) (fun _ _ _ h => h) (Or.inl ⟨by rfl, ?_⟩) ?_ ?_
      rotate_left
      · intro w'
        go_simp
        try with_reducible rfl
      rotate_left
      · simp (maxSteps := 4000000) only [Act.put, List.setIfInBounds_toArray, List.set_cons_zero, List.set_cons_succ, i64_w, i32_w]
        try rfl
      refine done_ (done_of HT_.out (by kernel_rfl)) ?_
      obtain ⟨z0, z1, z2, z3, z4⟩ := tg_cells HX.out
      have f2 := fun i => pl_frozenT HX.out i
      obtain ⟨u0, u1, u2, u3, u4⟩ := tg_cells HY.out
      have hne := HG0.out.2
      go_wp2
      have hx := set5Q HX.out (.int .u8 0) (.int .i64 0) (.int .u64 0) (.int .i64 0) (.int .i64 0)
      refine bodyPost_ret (results_ct rfl _ _ b0 41 _ (0, 0) _ rfl hx Try.underlying41 rfl rg_size) rfl ?_
      exact ⟨ret_tg HV.out.symm, below5Q _ _ _ _ _ HG0.out.1 HB.out⟩
  · have HN := Lib.hid (show parseT d.data.toList s.data.toList = (Tg.zero, 4) from if_pos (by rw [Array.length_toList]; exact hs))
    have hs2 : ((s.size : Int) = 32) = False := eq_false (by omega)
    have hs3 : ((s.size : Int) == 32) = false := by simp; omega
    have HV := Lib.hid (show (P1, P2) = (Tg.zero, 4) by rw [HP.out, HN.out])
    go_enter Try.func15, Try.ntmps15
    go_wp2
    refine bodyPost_ret (results_ct rfl _ _ w.heap.size 41 _ (0, 0) _ rfl HX.out Try.underlying41 rfl rg_size) rfl ?_
    exact ⟨ret_tg HV.out.symm, HB.out⟩
end Go.Proofs.Ytfomgljhcegjdaa
