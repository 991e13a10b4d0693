/- CurReads: the document's Read: the walk. No conditions beyond the form's own reach. -/
import Derived.Test.YtdpnnokchmjflaaXCurRef
import Derived.Test.YtdpnnokchmjflaaWFoot
import Derived.Laws.DeepStrings4
namespace Go.Proofs.Ytdpnnokchmjflaa
open Go.RowKit Go.Lib Go.Proofs.Ytdpnnokchmjflaa.P Go.Proofs.Ytdpnnokchmjflaa.BeS Go.Proofs.YtdpnnokchmjflaaW.PrintWords Go.Proofs.YtdpnnokchmjflaaW.PrintLast Go.Proofs.YtdpnnokchmjflaaW.PrintMore
set_option linter.unusedVariables false
set_option linter.unusedSimpArgs false
def rg17_7.T : Bool × List (List Nat × List Nat) := (true, [([], []), ([], []), ([0, 1], [0, 1]), ([2], [2]), ([3], [3]), ([], []), ([], []), ([5, 6], [5, 6]), ([7], [7]), ([8], [8]), ([4, 9], [4, 9]), ([], []), ([11, 10, 0, 1, 2, 3, 4, 5, 6, 7, 8, 9, 10, 11], [10, 11])])
def rg17_7.B : List Nat := [0, 0, 3, 7, 15, 0, 0, 96, 224, 480, 1023, 0, 4095]
theorem rg17_7.tab : rtab .any (opsOf Try.f17 7) = rg17_7.T := by kernel_rfl
theorem rg17_7.bits : waitsOk rg17_7.T.2 rg17_7.B = true := by kernel_rfl
theorem encF_cells {w : World} {b : Nat} {f : Fd} (h : w.cell? ⟨b, 0, none⟩ = some (.int .i64 f.kind) ∧ w.cell? ⟨b, 1, none⟩ = some (.int .i64 f.width) ∧ w.cell? ⟨b, 2, none⟩ = some (.int .u64 (f.n : Int)) ∧ w.cell? ⟨b, 3, none⟩ = some (.string f.s)) (q : Nat) (u : Value) (hq : (encF f)[q]? = some u) : w.cell? ⟨b, q, none⟩ = some u := by
  obtain ⟨h0, h1, h2, h3⟩ := h
  match q, hq with
  | 0, hq => simp [encF] at hq; rw [← hq]; exact h0
  | 1, hq => simp [encF] at hq; rw [← hq]; exact h1
  | 2, hq => simp [encF] at hq; rw [← hq]; exact h2
  | 3, hq => simp [encF] at hq; rw [← hq]; exact h3
  | q + 4, hq => simp [encF] at hq
theorem one_cell {w : World} {b : Nat} {v : Value} (h : w.cell? ⟨b, 0, none⟩ = some v) (q : Nat) (u : Value) (hq : [v][q]? = some u) : w.cell? ⟨b, q, none⟩ = some u := by
  match q, hq with
  | 0, hq => simp only [List.getElem?_cons_zero, Option.some.injEq] at hq; rw [← hq]; exact h
  | q + 1, hq => simp at hq
theorem tkR_len (r : RdS) (n : Int) : (tkR r n).1.length ≤ r.1.length := by
  unfold tkR
  split
  · rw [List.length_drop]; omega
  · simp
theorem rdFR_len (r : RdS) (f : Fd) : (rdFR r f).1.length ≤ r.1.length := by
  unfold rdFR rdTR
  split
  · exact tkR_len _ _
  · split
    · exact tkR_len _ _
    · exact Nat.le_trans (tkR_len _ _) (tkR_len _ _)
theorem rdAll_len (fs : List Fd) : ∀ r : RdS, (rdAll r fs).1.length ≤ r.1.length := by
  unfold rdAll
  induction fs with
  | nil => intro r; exact Nat.le_refl _
  | cons f fs ih => intro r; rw [List.foldl_cons]; exact Nat.le_trans (ih _) (rdFR_len r f)
theorem rdAll_ok (r : RdS) (h : wrongOk r) (fs : List Fd) : wrongOk (rdAll r fs) := by
  unfold rdAll
  induction fs generalizing r with
  | nil => exact h
  | cons f fs ih => rw [List.foldl_cons]; exact ih _ (rdFR_ok r f)

theorem own_set4 {w : World} {base n k b : Nat} {t : TypeId} {v : Value} {xs : List Value} (h : w.ownsRow base t k v n xs) (hne : v.ownBlock ≠ some b) (x y z u : Value) : ((((w.setCell ⟨b, 0, none⟩ x).setCell ⟨b, 1, none⟩ y).setCell ⟨b, 2, none⟩ z).setCell ⟨b, 3, none⟩ u).ownsRow base t k v n xs :=
  (((h.kept (Lib.grownBy_setCell _ b 0 _) (.inr hne)).kept (Lib.grownBy_setCell _ b 1 _) (.inr hne)).kept (Lib.grownBy_setCell _ b 2 _) (.inr hne)).kept (Lib.grownBy_setCell _ b 3 _) (.inr hne)
set_option maxHeartbeats 8000000 in
set_option maxRecDepth 100000 in
theorem refRead_ok (b0 : Nat) (ms : List Fd) (hms : ms.length ≤ 100) (hok : ∀ f ∈ ms, f.Ok) (a : Option Addr) (c : Nat) (s0 : ByteArray) (hs0 : s0.size ≤ 1000) (w : World) (hr : FRow w b0 (.slice a ms.length c) ms) :
    Calls Try.prog 17 #[.string s0, .slice a ms.length c] w fun x w' => ∃ v1 v2, x = .returned (.tuple #[v1, v2, .bool (rdAll (s0.data.toList, false) ms).2]) ∧ FRow w' w.heap.size v1 (outsN (s0.data.toList, false) ms ms.length) ∧ IRow w' w.heap.size v2 (leftsN (s0.data.toList, false) ms ms.length) ∧ Below w.heap.size w w' := by
  have HR := Lib.hid hr; clear hr
  have HL := Lib.hid hms; clear hms
  have HOK := Lib.hid hok; clear hok
  have hs0l : s0.data.toList.length = s0.size := Array.length_toList
  have H0 := Lib.hid (show s0.data.toList.length ≤ 1000 by omega); clear hs0l hs0
  have HS0 := Lib.hid (of_data s0)
  obtain ⟨r0, hr0⟩ : ∃ r0 : RdS, r0 = (s0.data.toList, false) := ⟨_, rfl⟩
  rw [← hr0]
  have HRz := Lib.hid hr0; clear hr0
  go_enter Try.func17, Try.ntmps17
  go_wp2_with fail
  go_loopw [0, 7, 8, 9, 10] (fun sv ov lv wv i wr => ∃ j : Nat, j ≤ ms.length ∧ i = .int .i64 (j : Int) ∧ sv = .string (str (rdAll r0 (ms.take j)).1) ∧ wv = .bool (rdAll r0 (ms.take j)).2 ∧ FRow wr w.heap.size ov (outsN r0 ms j) ∧ IRow wr w.heap.size lv (leftsN r0 ms j) ∧ Below w.heap.size w wr) (fun _ _ _ _ i _ => ms.length - (RowKit.intOf i).toNat)
  case atStart =>
    refine ⟨0, Nat.zero_le _, rfl, ?_, ?_, World.ownsRow_nil _ _ _ _, World.ownsRow_nil _ _ _ _, Below.refl _ _⟩
    · rw [HRz.out]; exact congrArg Value.string HS0.out
    · rw [HRz.out]; rfl
  case round =>
    obtain ⟨j, hj, rfl, rfl, rfl, h1, h2, h3⟩ := hrel
    have HO := Lib.hid h1; clear h1
    have HI := Lib.hid h2; clear h2
    have HB := Lib.hid h3; clear h3
    by_cases hlt : j < ms.length
    · have HWk := Lib.hid (rdAll_ok r0 (by rw [HRz.out]; intro h; cases h) (ms.take j))
      have HLn := Lib.hid (show (rdAll r0 (ms.take j)).1.length ≤ 1000 from Nat.le_trans (rdAll_len _ _) (by rw [HRz.out]; exact H0.out))
      obtain ⟨r, hr⟩ : ∃ r, rdAll r0 (ms.take j) = r := ⟨_, rfl⟩
      rw [hr] at HWk HLn ⊢
      obtain ⟨l, wr0⟩ := r
      have HRj := Lib.hid hr; clear hr
      simp only at HLn ⊢
      obtain ⟨gr, cap', hf, hc⟩ := (HR.out.below HB.out).at_ j hlt
      simp only [Value.slice.injEq, true_and] at hf
      obtain ⟨rfl, rfl⟩ := hf
      obtain ⟨f, hfj⟩ : ∃ f, ms[j] = f := ⟨_, rfl⟩
      have HFk := Lib.hid (HOK.out ms[j] (List.getElem_mem hlt))
      rw [hfj] at hc HFk
      have HFj := Lib.hid hfj; clear hfj
      obtain ⟨kd, wd, n, s⟩ := f
      obtain ⟨k0, k1, _, _⟩ := hc
      simp only at k0 k1
      have e3 : wrap64 ((j : Int) + 1) = ((j + 1 : Nat) : Int) := wrap_succ j (Nat.lt_of_lt_of_le hlt (Nat.le_trans HL.out (by decide)))
      obtain ⟨oa, oc, rfl⟩ := HO.out.form
      obtain ⟨la, lc, rfl⟩ := own_slice HI.out
      rw [outsN_len, leftsN_len]
      rw [outsN_len] at HO
      rw [leftsN_len] at HI
      go_wp2_with fail
      have hS : wr.cell? ⟨gr, j * 4, none⟩ = some (.int .i64 kd) ∧ wr.cell? ⟨gr, j * 4 + 1, none⟩ = some (.int .i64 wd) := ⟨k0, k1⟩
      clear k0 k1
      replace HO := Lib.hid (show FRow wr.drew w.heap.size (Value.slice oa j oc) (outsN r0 ms j) from HO.out)
      replace HI := Lib.hid (show IRow wr.drew w.heap.size (Value.slice la j lc) (leftsN r0 ms j) from HI.out)
      replace HB := Lib.hid (show Below w.heap.size w wr.drew from below_drew1 HB.out)
      have hlr := World.block_lt_of_cell? wr _ hS.1
      simp only at hlr
      refine start_ (n := 13) (S := fun w' => w'.cell? ⟨gr, j * 4, none⟩ = some (.int .i64 kd) ∧ w'.cell? ⟨gr, j * 4 + 1, none⟩ = some (.int .i64 wd)) (ds := [12]) #[false, false, false, false, false, false, false, false, false, false, false, false, false] (by kernel_rfl) rfl rfl hS (fun hHeld => ?_)
      refine with_tabW rg17_7.tab rg17_7.bits (fun HT_ HW_ => ?_)
      generalize wr.drew = w' at HO HI HB hHeld ⊢
      refine pure_ (i := 0) (N := some 19) (v := ?_) (a' := ?_) #[true, false, false, false, false, false, false, false, false, false, false, false, false] rfl rfl (any_of HT_.out (by kernel_rfl)) (fun _ _ _ h => h) (Or.inl ⟨by rfl, ?_⟩) ?_ ?_
      rotate_left
      · intro w'
        go_simp
        try with_reducible rfl
      rotate_left
      · simp (maxSteps := 4000000) only [Act.put, List.setIfInBounds_toArray, List.set_cons_zero, List.set_cons_succ, i64_w, i32_w]
        try rfl
      refine pure_ (i := 1) (N := some 20) (v := ?_) (a' := ?_) #[true, true, false, false, false, false, false, false, false, false, false, false, false] rfl rfl (any_of HT_.out (by kernel_rfl)) (fun _ _ _ h => h) (Or.inl ⟨by rfl, ?_⟩) ?_ ?_
      rotate_left
      · intro w'
        go_simp
        try with_reducible rfl
      rotate_left
      · simp (maxSteps := 4000000) only [Act.put, List.setIfInBounds_toArray, List.set_cons_zero, List.set_cons_succ, i64_w, i32_w]
        try rfl
      refine pure_ (i := 2) (N := some 21) (v := ?_) (a' := ?_) #[true, true, true, false, false, false, false, false, false, false, false, false, false] rfl rfl (any_of HT_.out (by kernel_rfl)) (fun _ _ _ h => h) (Or.inl ⟨by rfl, ?_⟩) ?_ ?_
      rotate_left
      · intro w'
        go_simp
        try with_reducible rfl
      rotate_left
      · simp (maxSteps := 4000000) only [Act.put, List.setIfInBounds_toArray, List.set_cons_zero, List.set_cons_succ, i64_w, i32_w]
        try rfl
      refine pure_ (i := 3) (N := some 22) (v := ?_) (a' := ?_) #[true, true, true, true, false, false, false, false, false, false, false, false, false] rfl rfl (any_of HT_.out (by kernel_rfl)) (fun _ _ _ h => h) (Or.inl ⟨by rfl, ?_⟩) ?_ ?_
      rotate_left
      · intro w'
        go_simp
        try with_reducible rfl
      rotate_left
      · simp (maxSteps := 4000000) only [Act.put, List.setIfInBounds_toArray, List.set_cons_zero, List.set_cons_succ, i64_w, i32_w]
        try rfl
      refine pure_ (i := 5) (N := some 24) (v := ?_) (a' := ?_) #[true, true, true, true, false, true, false, false, false, false, false, false, false] rfl rfl (any_of HT_.out (by kernel_rfl)) (fun _ _ _ h => h) (Or.inl ⟨by rfl, ?_⟩) ?_ ?_
      rotate_left
      · intro w'
        go_simp
        try with_reducible rfl
      rotate_left
      · simp (maxSteps := 4000000) only [Act.put, List.setIfInBounds_toArray, List.set_cons_zero, List.set_cons_succ, i64_w, i32_w]
        try rfl
      refine pure_ (i := 6) (N := some 25) (v := ?_) (a' := ?_) #[true, true, true, true, false, true, true, false, false, false, false, false, false] rfl rfl (any_of HT_.out (by kernel_rfl)) (fun _ _ _ h => h) (Or.inl ⟨by rfl, ?_⟩) ?_ ?_
      rotate_left
      · intro w'
        go_simp
        try with_reducible rfl
      rotate_left
      · simp (maxSteps := 4000000) only [Act.put, List.setIfInBounds_toArray, List.set_cons_zero, List.set_cons_succ, i64_w, i32_w]
        try rfl
      refine pure_ (i := 7) (N := some 26) (v := ?_) (a' := ?_) #[true, true, true, true, false, true, true, true, false, false, false, false, false] rfl rfl (any_of HT_.out (by kernel_rfl)) (fun _ _ _ h => h) (Or.inl ⟨by rfl, ?_⟩) ?_ ?_
      rotate_left
      · intro w'
        go_simp
        try with_reducible rfl
      rotate_left
      · simp (maxSteps := 4000000) only [Act.put, List.setIfInBounds_toArray, List.set_cons_zero, List.set_cons_succ, i64_w, i32_w]
        try rfl
      refine pure_ (i := 8) (N := some 27) (v := ?_) (a' := ?_) #[true, true, true, true, false, true, true, true, true, false, false, false, false] rfl rfl (any_of HT_.out (by kernel_rfl)) (fun _ _ _ h => h) (Or.inl ⟨by rfl, ?_⟩) ?_ ?_
      rotate_left
      · intro w'
        go_simp
        try with_reducible rfl
      rotate_left
      · simp (maxSteps := 4000000) only [Act.put, List.setIfInBounds_toArray, List.set_cons_zero, List.set_cons_succ, i64_w, i32_w]
        try rfl
      refine take_ (i := 4) (N := some 23) (v := ?_) (a' := ?_) #[true, true, true, true, true, true, true, true, true, false, false, false, false] rfl rfl (take_ofW HT_.out HW_.out (by kernel_rfl)) (fun _ _ _ h => h) (Or.inl ⟨by rfl, ?_⟩) hHeld ?_ ?_
      rotate_left
      · intro w' hw_
        try dsimp only at hw_
        go_simp
        try with_reducible rfl
      rotate_left
      · simp (maxSteps := 4000000) only [Act.put, List.setIfInBounds_toArray, List.set_cons_zero, List.set_cons_succ, i64_w, i32_w]
        try rfl
      refine take_ (i := 9) (N := some 28) (v := ?_) (a' := ?_) #[true, true, true, true, true, true, true, true, true, true, false, false, false] rfl rfl (take_ofW HT_.out HW_.out (by kernel_rfl)) (fun _ _ _ h => h) (Or.inl ⟨by rfl, ?_⟩) hHeld ?_ ?_
      rotate_left
      · intro w' hw_
        try dsimp only at hw_
        go_simp
        try with_reducible rfl
      rotate_left
      · simp (maxSteps := 4000000) only [Act.put, List.setIfInBounds_toArray, List.set_cons_zero, List.set_cons_succ, i64_w, i32_w]
        try rfl
      refine pure_ (i := 10) (N := some 29) (v := ?_) (a' := ?_) #[true, true, true, true, true, true, true, true, true, true, true, false, false] rfl rfl (any_of HT_.out (by kernel_rfl)) (fun _ _ _ h => h) (Or.inl ⟨by rfl, ?_⟩) ?_ ?_
      rotate_left
      · intro w'
        go_simp
        try with_reducible rfl
      rotate_left
      · simp (maxSteps := 4000000) only [Act.put, List.setIfInBounds_toArray, List.set_cons_zero, List.set_cons_succ, i64_w, i32_w]
        try rfl
      refine one_ (i := 11) (N := some 11) #[true, true, true, true, true, true, true, true, true, true, true, true, false] rfl rfl (one_of HT_.out (by kernel_rfl)) (by decide) (fun K hK => ?_)
      refine value_ (v := (.pointer (some ⟨w'.heap.size, 0, none⟩))) (w1 := w'.alloc (.cells #[.int .i64 0, .int .i64 0, .int .u64 0, .string { data := #[] }] 27)) (by rfl) rfl ?_ ?_
      · (go_simp)
      have ha := (Below.refl w'.heap.size w').alloc (Nat.le_refl _) (Obj.cells #[Value.int IntKind.i64 0, Value.int IntKind.i64 0, Value.int IntKind.u64 0, Value.string { data := #[] }] 27)
      have HBX := Lib.hid (Box4.new w' 27 (.int .i64 0) (.int .i64 0) (.int .u64 0) (.string { data := #[] }))
      have hnO := Lib.hid (show (Value.slice oa j oc).ownBlock ≠ some w'.heap.size from fun e => Nat.lt_irrefl _ (HO.out.lt _ e).2)
      have hnI := Lib.hid (show (Value.slice la j lc).ownBlock ≠ some w'.heap.size from fun e => Nat.lt_irrefl _ (HI.out.lt _ e).2)
      replace HO := Lib.hid (HO.out.below ha)
      replace HI := Lib.hid (HI.out.below ha)
      have HBs := Lib.hid HB.out.size
      replace HB := Lib.hid (chainC HB.out ha)
      have hSS := And.intro (pw_cell_below ha hHeld.1) (pw_cell_below ha hHeld.2)
      clear ha
      generalize w'.alloc (Obj.cells #[Value.int IntKind.i64 0, Value.int IntKind.i64 0, Value.int IntKind.u64 0, Value.string { data := #[] }] 27) = w6 at HBX HO HI HB hSS ⊢
      generalize w'.heap.size = bx at HBX HBs hnO hnI ⊢
      refine hK.out _ _ (hSS) (fun hHeld => ?_)
      clear hK K
      refine norm_ (a' := ?_) ?_ ?_
      rotate_left
      · show Act.put _ (some 11) _ = _
        simp (maxSteps := 4000000) only [Act.put, List.setIfInBounds_toArray, List.set_cons_zero, List.set_cons_succ, i64_w, i32_w]
        try rfl
      refine last_ (i := 12) (N := none) #[true, true, true, true, true, true, true, true, true, true, true, true, true] rfl rfl (one_of HT_.out (by kernel_rfl)) (by decide) (fun K hK => ?_)
      refine skip_ (w1 := (((w6.setCell ⟨bx, 0, none⟩ (.int .i64 kd)).setCell ⟨bx, 1, none⟩ (.int .i64 wd)).setCell ⟨bx, 2, none⟩ (.int .u64 0)).setCell ⟨bx, 3, none⟩ (.string { data := #[] })) (by rfl) rfl ?_ ?_
      · (obtain ⟨x0, x1, x2, x3⟩ := HBX.out.S; obtain ⟨y0, y1, y2, y3⟩ := HBX.out.F; go_simp)
      refine hK.out _ _ ?_
      clear hK K
      refine done_ (done_of HT_.out (by kernel_rfl)) ?_
      replace HO := Lib.hid (show FRow _ w.heap.size (Value.slice oa j oc) (outsN r0 ms j) from own_set4 HO.out hnO.out (.int .i64 kd) (.int .i64 wd) (.int .u64 0) (.string { data := #[] }))
      replace HI := Lib.hid (show IRow _ w.heap.size (Value.slice la j lc) (leftsN r0 ms j) from own_set4 HI.out hnI.out (.int .i64 kd) (.int .i64 wd) (.int .u64 0) (.string { data := #[] }))
      replace HB := Lib.hid (below_set (below_set (below_set (below_set HB.out (b := bx) (i := 0) (v := .int .i64 kd) HBs.out) (b := bx) (i := 1) (v := .int .i64 wd) HBs.out) (b := bx) (i := 2) (v := .int .u64 0) HBs.out) (b := bx) (i := 3) (v := .string { data := #[] }) HBs.out)
      replace HBX := Lib.hid (HBX.out.set4 (.int .i64 kd) (.int .i64 wd) (.int .u64 0) (.string { data := #[] }))
      generalize (((w6.setCell ⟨bx, 0, none⟩ (.int .i64 kd)).setCell ⟨bx, 1, none⟩ (.int .i64 wd)).setCell ⟨bx, 2, none⟩ (.int .u64 0)).setCell ⟨bx, 3, none⟩ (.string { data := #[] }) = w7 at HBX HO HI HB ⊢
      clear hSS hHeld hS hlr
      obtain ⟨sl, hsl0⟩ : ∃ sl, sl = str l := ⟨_, rfl⟩
      rw [← hsl0]
      have Hsz := Lib.hid (show sl.size = l.length by rw [hsl0, str_size])
      have HSl := Lib.hid hsl0; clear hsl0
      rcases HFk.out.k with hk | hk | hk
      · simp only at hk
        subst hk
        by_cases hw1 : wd < 1
        · have c1 : decide (wd < 1) = true := decide_eq_true hw1
          obtain ⟨z0, z1, z2, z3⟩ := HBX.out.S
          have hres := rd_few (r := (l, wr0)) (f := ⟨0, wd, n, s⟩) (.inl ⟨rfl, .inl hw1⟩)
          have HOut := Lib.hid (show outsN r0 ms (j + 1) = outsN r0 ms j ++ [⟨0, wd, 0, { data := #[] }⟩] by rw [outsN_succ r0 ms j hlt, HRj.out, HFj.out, hres.1])
          have HRn := Lib.hid (show rdAll r0 (ms.take (j + 1)) = ([], true) by rw [rdAll_take r0 ms j hlt, HRj.out, HFj.out, hres.2])
          have HLf := Lib.hid (show leftsN r0 ms (j + 1) = leftsN r0 ms j ++ [(([] : List UInt8).length : Int)] by rw [leftsN_succ r0 ms j, HRn.out])
          clear hres
          obtain ⟨i0, hi, hz0, hz1, hz2⟩ := info_parts fd_info
          have hn := (Box4.new (w7) 27 (.int .i64 0) (.int .i64 wd) (.int .u64 0) (.string { data := #[] })).S
          rw [show (w7).heap.size = w7.heap.size by simp] at hn
          have ha := (Below.refl (w7).heap.size (w7)).alloc (Nat.le_refl _) (Obj.cells #[Value.int IntKind.i64 0, Value.int IntKind.i64 wd, Value.int IntKind.u64 0, Value.string { data := #[] }] 27)
          replace HO := Lib.hid (HO.out.below ha)
          replace HI := Lib.hid (HI.out.below ha)
          replace HB := Lib.hid (chainC HB.out ha); clear ha
          have hor := HO.out
          unfold FRow at hor
          rw [outsN_len] at hor
          have HO1 := Lib.hid hor; clear hor
          go_wp2_with (at_builtin; refine wpList_append_own _ rfl _ _ 23 rfl w.heap.size 27 i0 (.agg #[.int .i64 0, .int .i64 0, .int .u64 0, .string ByteArray.empty]) 4 40 Try.underlying23 hi hz0 hz1 hz2 rfl (by decide) _ _ _ rfl HO1.out ⟨w7.heap.size, 0, none⟩ 1 1 (encF ⟨0, wd, 0, { data := #[] }⟩) rfl ?qc1 ?qc2 ?qc3 ?qc4 ?qc5 ?qc6 ?_)
          case qc1 => rfl
          case qc2 =>
            intro q u hq
            first
            | (rw [Addr.add_lit, Nat.zero_add]; exact encF_cells hn q u hq)
            | exact hq
          case qc3 => intro u hu; exact encF_one [_] u (by simpa using hu)
          case qc4 => exact Nat.le_trans (Nat.succ_le_of_lt hlt) (Nat.le_trans HL.out (by decide))
          case qc5 => exact Nat.le_trans (Nat.mul_le_mul_right 40 (Nat.le_trans (Nat.succ_le_of_lt hlt) HL.out)) (by decide)
          case qc6 => first | exact HB.out.size | (have h6 := HB.out.size; simpa using h6)
          intro v' w9 ho hgr _
          replace HI := Lib.hid (show IRow w9 w.heap.size _ _ from HI.out.kept hgr (rows_ne (by decide) HI.out HO1.out))
          replace HB := Lib.hid (pw_below_grown HB.out _ HB.out.size hgr (fun k hk => (HO1.out.lt k hk).1))
          have hr3 : FRow w9 w.heap.size v' (outsN r0 ms (j + 1)) := by
            rw [HOut.out]
            exact FRow.more (by rw [outsN_len]; exact ho)
          replace HO := Lib.hid hr3; clear hr3
          obtain ⟨ya, yc, rfl⟩ := own_slice ho
          clear ho hgr hn HO1 hi hz0 hz1 hz2 i0
          obtain ⟨i1, hi, hz0, hz1, hz2⟩ := info_parts int_info
          have ha := (Below.refl w9.heap.size w9).alloc (Nat.le_refl _) (Obj.cells #[Value.int IntKind.i64 (([] : List UInt8).length : Int)] 3)
          have hn : (w9.alloc (Obj.cells #[Value.int IntKind.i64 (([] : List UInt8).length : Int)] 3)).cell? ⟨w9.heap.size, 0, none⟩ = some (.int .i64 (([] : List UInt8).length : Int)) := by simp
          replace HO := Lib.hid (HO.out.below ha)
          replace HI := Lib.hid (HI.out.below ha)
          replace HB := Lib.hid (chainC HB.out ha); clear ha
          have hor := HI.out
          unfold IRow at hor
          rw [leftsN_len] at hor
          have HI1 := Lib.hid hor; clear hor
          have hsl := trivial
          go_wp2_with (at_builtin; refine wpList_append_own _ rfl _ _ 48 rfl w.heap.size 3 i1 (.int .i64 0) 1 8 Try.underlying48 hi hz0 hz1 hz2 rfl (by decide) _ _ _ rfl HI1.out ⟨w9.heap.size, 0, none⟩ 1 1 [.int .i64 (([] : List UInt8).length : Int)] rfl ?qc1 ?qc2 ?qc3 ?qc4 ?qc5 ?qc6 ?_)
          case qc1 => rfl
          case qc2 =>
            intro q u hq
            first
            | (rw [Addr.add_lit, Nat.zero_add]; exact one_cell hn q u hq)
            | exact hq
          case qc3 => intro u hu; simp only [List.mem_singleton] at hu; subst hu; rfl
          case qc4 => exact Nat.le_trans (Nat.succ_le_of_lt hlt) (Nat.le_trans HL.out (by decide))
          case qc5 => exact Nat.le_trans (Nat.mul_le_mul_right 8 (Nat.le_trans (Nat.succ_le_of_lt hlt) HL.out)) (by decide)
          case qc6 => first | exact HB.out.size | (have h6 := HB.out.size; simpa using h6)
          intro v' w10 ho hgr _
          replace HO := Lib.hid (show FRow w10 w.heap.size _ _ from HO.out.kept hgr (rows_ne (by decide) HO.out HI1.out))
          replace HB := Lib.hid (pw_below_grown HB.out _ HB.out.size hgr (fun k hk => (HI1.out.lt k hk).1))
          have hr3 : IRow w10 w.heap.size v' (leftsN r0 ms (j + 1)) := by
            rw [HLf.out]
            exact IRow.more (by rw [leftsN_len]; exact ho)
          replace HI := Lib.hid hr3; clear hr3
          obtain ⟨za, zc, rfl⟩ := own_slice ho
          clear ho hgr hn HI1 hi hz0 hz1 hz2 i1 hsl
          go_wp2
          go_roundw
          case rel => exact ⟨j + 1, hlt, by rw [e3], by rw [HRn.out]; rfl, by rw [HRn.out], HO.out, HI.out, HB.out⟩
          case measure => rw [e3]; simp only [RowKit.intOf, Int.toNat_natCast]; exact Nat.sub_lt_sub_left hlt (Nat.lt_succ_self j)
        · have c1 : decide (wd < 1) = false := decide_eq_false hw1
          by_cases hw8 : 8 < wd
          · have c2 : decide (8 < wd) = true := decide_eq_true hw8
            by_cases hcm : (sl.size : Int) < wd
            · have c3 : decide ((sl.size : Int) < wd) = true := decide_eq_true hcm
              obtain ⟨z0, z1, z2, z3⟩ := HBX.out.S
              have hres := rd_few (r := (l, wr0)) (f := ⟨0, wd, n, s⟩) (.inl ⟨rfl, .inr (.inl hw8)⟩)
              have HOut := Lib.hid (show outsN r0 ms (j + 1) = outsN r0 ms j ++ [⟨0, wd, 0, { data := #[] }⟩] by rw [outsN_succ r0 ms j hlt, HRj.out, HFj.out, hres.1])
              have HRn := Lib.hid (show rdAll r0 (ms.take (j + 1)) = ([], true) by rw [rdAll_take r0 ms j hlt, HRj.out, HFj.out, hres.2])
              have HLf := Lib.hid (show leftsN r0 ms (j + 1) = leftsN r0 ms j ++ [(([] : List UInt8).length : Int)] by rw [leftsN_succ r0 ms j, HRn.out])
              clear hres
              obtain ⟨i0, hi, hz0, hz1, hz2⟩ := info_parts fd_info
              have hn := (Box4.new (w7) 27 (.int .i64 0) (.int .i64 wd) (.int .u64 0) (.string { data := #[] })).S
              rw [show (w7).heap.size = w7.heap.size by simp] at hn
              have ha := (Below.refl (w7).heap.size (w7)).alloc (Nat.le_refl _) (Obj.cells #[Value.int IntKind.i64 0, Value.int IntKind.i64 wd, Value.int IntKind.u64 0, Value.string { data := #[] }] 27)
              replace HO := Lib.hid (HO.out.below ha)
              replace HI := Lib.hid (HI.out.below ha)
              replace HB := Lib.hid (chainC HB.out ha); clear ha
              have hor := HO.out
              unfold FRow at hor
              rw [outsN_len] at hor
              have HO1 := Lib.hid hor; clear hor
              go_wp2_with (at_builtin; refine wpList_append_own _ rfl _ _ 23 rfl w.heap.size 27 i0 (.agg #[.int .i64 0, .int .i64 0, .int .u64 0, .string ByteArray.empty]) 4 40 Try.underlying23 hi hz0 hz1 hz2 rfl (by decide) _ _ _ rfl HO1.out ⟨w7.heap.size, 0, none⟩ 1 1 (encF ⟨0, wd, 0, { data := #[] }⟩) rfl ?qc1 ?qc2 ?qc3 ?qc4 ?qc5 ?qc6 ?_)
              case qc1 => rfl
              case qc2 =>
                intro q u hq
                first
                | (rw [Addr.add_lit, Nat.zero_add]; exact encF_cells hn q u hq)
                | exact hq
              case qc3 => intro u hu; exact encF_one [_] u (by simpa using hu)
              case qc4 => exact Nat.le_trans (Nat.succ_le_of_lt hlt) (Nat.le_trans HL.out (by decide))
              case qc5 => exact Nat.le_trans (Nat.mul_le_mul_right 40 (Nat.le_trans (Nat.succ_le_of_lt hlt) HL.out)) (by decide)
              case qc6 => first | exact HB.out.size | (have h6 := HB.out.size; simpa using h6)
              intro v' w9 ho hgr _
              replace HI := Lib.hid (show IRow w9 w.heap.size _ _ from HI.out.kept hgr (rows_ne (by decide) HI.out HO1.out))
              replace HB := Lib.hid (pw_below_grown HB.out _ HB.out.size hgr (fun k hk => (HO1.out.lt k hk).1))
              have hr3 : FRow w9 w.heap.size v' (outsN r0 ms (j + 1)) := by
                rw [HOut.out]
                exact FRow.more (by rw [outsN_len]; exact ho)
              replace HO := Lib.hid hr3; clear hr3
              obtain ⟨ya, yc, rfl⟩ := own_slice ho
              clear ho hgr hn HO1 hi hz0 hz1 hz2 i0
              obtain ⟨i1, hi, hz0, hz1, hz2⟩ := info_parts int_info
              have ha := (Below.refl w9.heap.size w9).alloc (Nat.le_refl _) (Obj.cells #[Value.int IntKind.i64 (([] : List UInt8).length : Int)] 3)
              have hn : (w9.alloc (Obj.cells #[Value.int IntKind.i64 (([] : List UInt8).length : Int)] 3)).cell? ⟨w9.heap.size, 0, none⟩ = some (.int .i64 (([] : List UInt8).length : Int)) := by simp
              replace HO := Lib.hid (HO.out.below ha)
              replace HI := Lib.hid (HI.out.below ha)
              replace HB := Lib.hid (chainC HB.out ha); clear ha
              have hor := HI.out
              unfold IRow at hor
              rw [leftsN_len] at hor
              have HI1 := Lib.hid hor; clear hor
              have hsl := trivial
              go_wp2_with (at_builtin; refine wpList_append_own _ rfl _ _ 48 rfl w.heap.size 3 i1 (.int .i64 0) 1 8 Try.underlying48 hi hz0 hz1 hz2 rfl (by decide) _ _ _ rfl HI1.out ⟨w9.heap.size, 0, none⟩ 1 1 [.int .i64 (([] : List UInt8).length : Int)] rfl ?qc1 ?qc2 ?qc3 ?qc4 ?qc5 ?qc6 ?_)
              case qc1 => rfl
              case qc2 =>
                intro q u hq
                first
                | (rw [Addr.add_lit, Nat.zero_add]; exact one_cell hn q u hq)
                | exact hq
              case qc3 => intro u hu; simp only [List.mem_singleton] at hu; subst hu; rfl
              case qc4 => exact Nat.le_trans (Nat.succ_le_of_lt hlt) (Nat.le_trans HL.out (by decide))
              case qc5 => exact Nat.le_trans (Nat.mul_le_mul_right 8 (Nat.le_trans (Nat.succ_le_of_lt hlt) HL.out)) (by decide)
              case qc6 => first | exact HB.out.size | (have h6 := HB.out.size; simpa using h6)
              intro v' w10 ho hgr _
              replace HO := Lib.hid (show FRow w10 w.heap.size _ _ from HO.out.kept hgr (rows_ne (by decide) HO.out HI1.out))
              replace HB := Lib.hid (pw_below_grown HB.out _ HB.out.size hgr (fun k hk => (HI1.out.lt k hk).1))
              have hr3 : IRow w10 w.heap.size v' (leftsN r0 ms (j + 1)) := by
                rw [HLf.out]
                exact IRow.more (by rw [leftsN_len]; exact ho)
              replace HI := Lib.hid hr3; clear hr3
              obtain ⟨za, zc, rfl⟩ := own_slice ho
              clear ho hgr hn HI1 hi hz0 hz1 hz2 i1 hsl
              go_wp2
              go_roundw
              case rel => exact ⟨j + 1, hlt, by rw [e3], by rw [HRn.out]; rfl, by rw [HRn.out], HO.out, HI.out, HB.out⟩
              case measure => rw [e3]; simp only [RowKit.intOf, Int.toNat_natCast]; exact Nat.sub_lt_sub_left hlt (Nat.lt_succ_self j)
            · have c3 : decide ((sl.size : Int) < wd) = false := decide_eq_false hcm
              obtain ⟨z0, z1, z2, z3⟩ := HBX.out.S
              have hres := rd_few (r := (l, wr0)) (f := ⟨0, wd, n, s⟩) (.inl ⟨rfl, .inr (.inl hw8)⟩)
              have HOut := Lib.hid (show outsN r0 ms (j + 1) = outsN r0 ms j ++ [⟨0, wd, 0, { data := #[] }⟩] by rw [outsN_succ r0 ms j hlt, HRj.out, HFj.out, hres.1])
              have HRn := Lib.hid (show rdAll r0 (ms.take (j + 1)) = ([], true) by rw [rdAll_take r0 ms j hlt, HRj.out, HFj.out, hres.2])
              have HLf := Lib.hid (show leftsN r0 ms (j + 1) = leftsN r0 ms j ++ [(([] : List UInt8).length : Int)] by rw [leftsN_succ r0 ms j, HRn.out])
              clear hres
              obtain ⟨i0, hi, hz0, hz1, hz2⟩ := info_parts fd_info
              have hn := (Box4.new (w7) 27 (.int .i64 0) (.int .i64 wd) (.int .u64 0) (.string { data := #[] })).S
              rw [show (w7).heap.size = w7.heap.size by simp] at hn
              have ha := (Below.refl (w7).heap.size (w7)).alloc (Nat.le_refl _) (Obj.cells #[Value.int IntKind.i64 0, Value.int IntKind.i64 wd, Value.int IntKind.u64 0, Value.string { data := #[] }] 27)
              replace HO := Lib.hid (HO.out.below ha)
              replace HI := Lib.hid (HI.out.below ha)
              replace HB := Lib.hid (chainC HB.out ha); clear ha
              have hor := HO.out
              unfold FRow at hor
              rw [outsN_len] at hor
              have HO1 := Lib.hid hor; clear hor
              go_wp2_with (at_builtin; refine wpList_append_own _ rfl _ _ 23 rfl w.heap.size 27 i0 (.agg #[.int .i64 0, .int .i64 0, .int .u64 0, .string ByteArray.empty]) 4 40 Try.underlying23 hi hz0 hz1 hz2 rfl (by decide) _ _ _ rfl HO1.out ⟨w7.heap.size, 0, none⟩ 1 1 (encF ⟨0, wd, 0, { data := #[] }⟩) rfl ?qc1 ?qc2 ?qc3 ?qc4 ?qc5 ?qc6 ?_)
              case qc1 => rfl
              case qc2 =>
                intro q u hq
                first
                | (rw [Addr.add_lit, Nat.zero_add]; exact encF_cells hn q u hq)
                | exact hq
              case qc3 => intro u hu; exact encF_one [_] u (by simpa using hu)
              case qc4 => exact Nat.le_trans (Nat.succ_le_of_lt hlt) (Nat.le_trans HL.out (by decide))
              case qc5 => exact Nat.le_trans (Nat.mul_le_mul_right 40 (Nat.le_trans (Nat.succ_le_of_lt hlt) HL.out)) (by decide)
              case qc6 => first | exact HB.out.size | (have h6 := HB.out.size; simpa using h6)
              intro v' w9 ho hgr _
              replace HI := Lib.hid (show IRow w9 w.heap.size _ _ from HI.out.kept hgr (rows_ne (by decide) HI.out HO1.out))
              replace HB := Lib.hid (pw_below_grown HB.out _ HB.out.size hgr (fun k hk => (HO1.out.lt k hk).1))
              have hr3 : FRow w9 w.heap.size v' (outsN r0 ms (j + 1)) := by
                rw [HOut.out]
                exact FRow.more (by rw [outsN_len]; exact ho)
              replace HO := Lib.hid hr3; clear hr3
              obtain ⟨ya, yc, rfl⟩ := own_slice ho
              clear ho hgr hn HO1 hi hz0 hz1 hz2 i0
              obtain ⟨i1, hi, hz0, hz1, hz2⟩ := info_parts int_info
              have ha := (Below.refl w9.heap.size w9).alloc (Nat.le_refl _) (Obj.cells #[Value.int IntKind.i64 (([] : List UInt8).length : Int)] 3)
              have hn : (w9.alloc (Obj.cells #[Value.int IntKind.i64 (([] : List UInt8).length : Int)] 3)).cell? ⟨w9.heap.size, 0, none⟩ = some (.int .i64 (([] : List UInt8).length : Int)) := by simp
              replace HO := Lib.hid (HO.out.below ha)
              replace HI := Lib.hid (HI.out.below ha)
              replace HB := Lib.hid (chainC HB.out ha); clear ha
              have hor := HI.out
              unfold IRow at hor
              rw [leftsN_len] at hor
              have HI1 := Lib.hid hor; clear hor
              have hsl := trivial
              go_wp2_with (at_builtin; refine wpList_append_own _ rfl _ _ 48 rfl w.heap.size 3 i1 (.int .i64 0) 1 8 Try.underlying48 hi hz0 hz1 hz2 rfl (by decide) _ _ _ rfl HI1.out ⟨w9.heap.size, 0, none⟩ 1 1 [.int .i64 (([] : List UInt8).length : Int)] rfl ?qc1 ?qc2 ?qc3 ?qc4 ?qc5 ?qc6 ?_)
              case qc1 => rfl
              case qc2 =>
                intro q u hq
                first
                | (rw [Addr.add_lit, Nat.zero_add]; exact one_cell hn q u hq)
                | exact hq
              case qc3 => intro u hu; simp only [List.mem_singleton] at hu; subst hu; rfl
              case qc4 => exact Nat.le_trans (Nat.succ_le_of_lt hlt) (Nat.le_trans HL.out (by decide))
              case qc5 => exact Nat.le_trans (Nat.mul_le_mul_right 8 (Nat.le_trans (Nat.succ_le_of_lt hlt) HL.out)) (by decide)
              case qc6 => first | exact HB.out.size | (have h6 := HB.out.size; simpa using h6)
              intro v' w10 ho hgr _
              replace HO := Lib.hid (show FRow w10 w.heap.size _ _ from HO.out.kept hgr (rows_ne (by decide) HO.out HI1.out))
              replace HB := Lib.hid (pw_below_grown HB.out _ HB.out.size hgr (fun k hk => (HI1.out.lt k hk).1))
              have hr3 : IRow w10 w.heap.size v' (leftsN r0 ms (j + 1)) := by
                rw [HLf.out]
                exact IRow.more (by rw [leftsN_len]; exact ho)
              replace HI := Lib.hid hr3; clear hr3
              obtain ⟨za, zc, rfl⟩ := own_slice ho
              clear ho hgr hn HI1 hi hz0 hz1 hz2 i1 hsl
              go_wp2
              go_roundw
              case rel => exact ⟨j + 1, hlt, by rw [e3], by rw [HRn.out]; rfl, by rw [HRn.out], HO.out, HI.out, HB.out⟩
              case measure => rw [e3]; simp only [RowKit.intOf, Int.toNat_natCast]; exact Nat.sub_lt_sub_left hlt (Nat.lt_succ_self j)
          · have c2 : decide (8 < wd) = false := decide_eq_false hw8
            by_cases hcm : (sl.size : Int) < wd
            · have c3 : decide ((sl.size : Int) < wd) = true := decide_eq_true hcm
              obtain ⟨z0, z1, z2, z3⟩ := HBX.out.S
              have hres := rd_few (r := (l, wr0)) (f := ⟨0, wd, n, s⟩) (.inl ⟨rfl, .inr (.inr (by rw [← Hsz.out]; exact hcm))⟩)
              have HOut := Lib.hid (show outsN r0 ms (j + 1) = outsN r0 ms j ++ [⟨0, wd, 0, { data := #[] }⟩] by rw [outsN_succ r0 ms j hlt, HRj.out, HFj.out, hres.1])
              have HRn := Lib.hid (show rdAll r0 (ms.take (j + 1)) = ([], true) by rw [rdAll_take r0 ms j hlt, HRj.out, HFj.out, hres.2])
              have HLf := Lib.hid (show leftsN r0 ms (j + 1) = leftsN r0 ms j ++ [(([] : List UInt8).length : Int)] by rw [leftsN_succ r0 ms j, HRn.out])
              clear hres
              obtain ⟨i0, hi, hz0, hz1, hz2⟩ := info_parts fd_info
              have hn := (Box4.new (w7) 27 (.int .i64 0) (.int .i64 wd) (.int .u64 0) (.string { data := #[] })).S
              rw [show (w7).heap.size = w7.heap.size by simp] at hn
              have ha := (Below.refl (w7).heap.size (w7)).alloc (Nat.le_refl _) (Obj.cells #[Value.int IntKind.i64 0, Value.int IntKind.i64 wd, Value.int IntKind.u64 0, Value.string { data := #[] }] 27)
              replace HO := Lib.hid (HO.out.below ha)
              replace HI := Lib.hid (HI.out.below ha)
              replace HB := Lib.hid (chainC HB.out ha); clear ha
              have hor := HO.out
              unfold FRow at hor
              rw [outsN_len] at hor
              have HO1 := Lib.hid hor; clear hor
              go_wp2_with (at_builtin; refine wpList_append_own _ rfl _ _ 23 rfl w.heap.size 27 i0 (.agg #[.int .i64 0, .int .i64 0, .int .u64 0, .string ByteArray.empty]) 4 40 Try.underlying23 hi hz0 hz1 hz2 rfl (by decide) _ _ _ rfl HO1.out ⟨w7.heap.size, 0, none⟩ 1 1 (encF ⟨0, wd, 0, { data := #[] }⟩) rfl ?qc1 ?qc2 ?qc3 ?qc4 ?qc5 ?qc6 ?_)
              case qc1 => rfl
              case qc2 =>
                intro q u hq
                first
                | (rw [Addr.add_lit, Nat.zero_add]; exact encF_cells hn q u hq)
                | exact hq
              case qc3 => intro u hu; exact encF_one [_] u (by simpa using hu)
              case qc4 => exact Nat.le_trans (Nat.succ_le_of_lt hlt) (Nat.le_trans HL.out (by decide))
              case qc5 => exact Nat.le_trans (Nat.mul_le_mul_right 40 (Nat.le_trans (Nat.succ_le_of_lt hlt) HL.out)) (by decide)
              case qc6 => first | exact HB.out.size | (have h6 := HB.out.size; simpa using h6)
              intro v' w9 ho hgr _
              replace HI := Lib.hid (show IRow w9 w.heap.size _ _ from HI.out.kept hgr (rows_ne (by decide) HI.out HO1.out))
              replace HB := Lib.hid (pw_below_grown HB.out _ HB.out.size hgr (fun k hk => (HO1.out.lt k hk).1))
              have hr3 : FRow w9 w.heap.size v' (outsN r0 ms (j + 1)) := by
                rw [HOut.out]
                exact FRow.more (by rw [outsN_len]; exact ho)
              replace HO := Lib.hid hr3; clear hr3
              obtain ⟨ya, yc, rfl⟩ := own_slice ho
              clear ho hgr hn HO1 hi hz0 hz1 hz2 i0
              obtain ⟨i1, hi, hz0, hz1, hz2⟩ := info_parts int_info
              have ha := (Below.refl w9.heap.size w9).alloc (Nat.le_refl _) (Obj.cells #[Value.int IntKind.i64 (([] : List UInt8).length : Int)] 3)
              have hn : (w9.alloc (Obj.cells #[Value.int IntKind.i64 (([] : List UInt8).length : Int)] 3)).cell? ⟨w9.heap.size, 0, none⟩ = some (.int .i64 (([] : List UInt8).length : Int)) := by simp
              replace HO := Lib.hid (HO.out.below ha)
              replace HI := Lib.hid (HI.out.below ha)
              replace HB := Lib.hid (chainC HB.out ha); clear ha
              have hor := HI.out
              unfold IRow at hor
              rw [leftsN_len] at hor
              have HI1 := Lib.hid hor; clear hor
              have hsl := trivial
              go_wp2_with (at_builtin; refine wpList_append_own _ rfl _ _ 48 rfl w.heap.size 3 i1 (.int .i64 0) 1 8 Try.underlying48 hi hz0 hz1 hz2 rfl (by decide) _ _ _ rfl HI1.out ⟨w9.heap.size, 0, none⟩ 1 1 [.int .i64 (([] : List UInt8).length : Int)] rfl ?qc1 ?qc2 ?qc3 ?qc4 ?qc5 ?qc6 ?_)
              case qc1 => rfl
              case qc2 =>
                intro q u hq
                first
                | (rw [Addr.add_lit, Nat.zero_add]; exact one_cell hn q u hq)
                | exact hq
              case qc3 => intro u hu; simp only [List.mem_singleton] at hu; subst hu; rfl
              case qc4 => exact Nat.le_trans (Nat.succ_le_of_lt hlt) (Nat.le_trans HL.out (by decide))
              case qc5 => exact Nat.le_trans (Nat.mul_le_mul_right 8 (Nat.le_trans (Nat.succ_le_of_lt hlt) HL.out)) (by decide)
              case qc6 => first | exact HB.out.size | (have h6 := HB.out.size; simpa using h6)
              intro v' w10 ho hgr _
              replace HO := Lib.hid (show FRow w10 w.heap.size _ _ from HO.out.kept hgr (rows_ne (by decide) HO.out HI1.out))
              replace HB := Lib.hid (pw_below_grown HB.out _ HB.out.size hgr (fun k hk => (HI1.out.lt k hk).1))
              have hr3 : IRow w10 w.heap.size v' (leftsN r0 ms (j + 1)) := by
                rw [HLf.out]
                exact IRow.more (by rw [leftsN_len]; exact ho)
              replace HI := Lib.hid hr3; clear hr3
              obtain ⟨za, zc, rfl⟩ := own_slice ho
              clear ho hgr hn HI1 hi hz0 hz1 hz2 i1 hsl
              go_wp2
              go_roundw
              case rel => exact ⟨j + 1, hlt, by rw [e3], by rw [HRn.out]; rfl, by rw [HRn.out], HO.out, HI.out, HB.out⟩
              case measure => rw [e3]; simp only [RowKit.intOf, Int.toNat_natCast]; exact Nat.sub_lt_sub_left hlt (Nat.lt_succ_self j)
            · have c3 : decide ((sl.size : Int) < wd) = false := decide_eq_false hcm
              have hml : wd.toNat ≤ l.length := by have := Hsz.out; omega
              obtain rfl : wr0 = false := by
                cases wr0 with
                | false => rfl
                | true => have h := HWk.out rfl; simp only at h; rw [h] at hml; simp only [List.length_nil] at hml; omega
              obtain ⟨s1, hs1⟩ : ∃ s1, s1 = str (l.take wd.toNat) := ⟨_, rfl⟩
              obtain ⟨ln, hln⟩ : ∃ ln, ln = l.drop wd.toNat := ⟨_, rfl⟩
              obtain ⟨sn, hsn⟩ : ∃ sn, sn = str ln := ⟨_, rfl⟩
              obtain ⟨gv, hgv⟩ : ∃ gv, gv = getN (l.take wd.toNat) := ⟨_, rfl⟩
              have hE : sl.extract 0 wd.toNat = s1 := by rw [HSl.out, hs1, str_extract]; rfl
              have hD : sl.extract wd.toNat sl.size = sn := by rw [hsn, hln, HSl.out, str_extract, str_size, List.take_length]
              have hres0 := rd_num (r := (l, false)) (f := ⟨0, wd, n, s⟩) (m := wd.toNat) rfl (.inl ⟨rfl, by simp only; omega, by omega, by omega⟩) (by simp only; omega)
              simp only at hres0
              rw [← hln, ← hgv] at hres0
              have HRes := Lib.hid hres0; clear hres0
              have HGet := Lib.hid (show tillrollref01_Get.f 100 s1 = some (gv : Int) by
                rw [ref_get_f s1 (by rw [hs1, str_size, List.length_take]; have := HLn.out; omega) 100 (by decide), hs1, str_data, ← hgv, Nat.mod_eq_of_lt]
                have h1 := getN_lt (l.take wd.toNat)
                rw [← hgv] at h1
                have h2 : 256 ^ (l.take wd.toNat).length ≤ 256 ^ 8 := Nat.pow_le_pow_right (by decide) (by rw [List.length_take]; omega)
                exact Nat.lt_of_lt_of_le h1 (by simpa using h2))
              have HSnz := Lib.hid (show sn.size = ln.length by rw [hsn, str_size])
              have HSn := Lib.hid hsn
              clear hs1 hln hsn hgv hml
              obtain ⟨z0, z1, z2, z3⟩ := HBX.out.S
              have c4 : (0 ≤ wd) = True := eq_true (by omega)
              have c5 : (wd ≤ (sl.size : Int)) = True := eq_true (by omega)
              have c6 : decide (0 ≤ wd) = true := decide_eq_true (by omega)
              have c7 : decide (wd ≤ (sl.size : Int)) = true := decide_eq_true (by omega)
              go_wp2_with fail
              refine (tillrollref01_Get.calls 100 _ _ _ HGet.out).mono ?_
              rintro e w8 ⟨rfl, hd⟩
              replace HO := Lib.hid (HO.out.below hd.below)
              replace HI := Lib.hid (HI.out.below hd.below)
              replace HBX := Lib.hid (HBX.out.below hd.below)
              replace HB := Lib.hid (chainC HB.out hd.below); clear hd z0 z1 z2 z3
              replace HO := Lib.hid (show FRow (w8.setCell ⟨bx, 2, none⟩ (.int .u64 (gv : Int))) w.heap.size _ _ from HO.out.kept (Lib.grownBy_setCell w8 bx 2 _) (.inr hnO.out))
              replace HI := Lib.hid (show IRow (w8.setCell ⟨bx, 2, none⟩ (.int .u64 (gv : Int))) w.heap.size _ _ from HI.out.kept (Lib.grownBy_setCell w8 bx 2 _) (.inr hnI.out))
              replace HB := Lib.hid (below_set HB.out (b := bx) (i := 2) (v := .int .u64 (gv : Int)) HBs.out)
              obtain ⟨x0, x1, x2, x3⟩ := HBX.out.S
              obtain ⟨y0, y1, y2, y3⟩ := HBX.out.F
              obtain ⟨z0, z1, z2, z3⟩ := (HBX.out.set2 (.int .u64 (gv : Int))).S
              have hres := HRes.out
              have HOut := Lib.hid (show outsN r0 ms (j + 1) = outsN r0 ms j ++ [⟨0, wd, gv, { data := #[] }⟩] by rw [outsN_succ r0 ms j hlt, HRj.out, HFj.out, hres.1])
              have HRn := Lib.hid (show rdAll r0 (ms.take (j + 1)) = (ln, false) by rw [rdAll_take r0 ms j hlt, HRj.out, HFj.out, hres.2])
              have HLf := Lib.hid (show leftsN r0 ms (j + 1) = leftsN r0 ms j ++ [((ln : List UInt8).length : Int)] by rw [leftsN_succ r0 ms j, HRn.out])
              clear hres
              obtain ⟨i0, hi, hz0, hz1, hz2⟩ := info_parts fd_info
              have hn := (Box4.new (w8.setCell ⟨bx, 2, none⟩ (.int .u64 (gv : Int))) 27 (.int .i64 0) (.int .i64 wd) (.int .u64 (gv : Int)) (.string { data := #[] })).S
              rw [show (w8.setCell ⟨bx, 2, none⟩ (.int .u64 (gv : Int))).heap.size = w8.heap.size by simp] at hn
              have ha := (Below.refl (w8.setCell ⟨bx, 2, none⟩ (.int .u64 (gv : Int))).heap.size (w8.setCell ⟨bx, 2, none⟩ (.int .u64 (gv : Int)))).alloc (Nat.le_refl _) (Obj.cells #[Value.int IntKind.i64 0, Value.int IntKind.i64 wd, Value.int IntKind.u64 (gv : Int), Value.string { data := #[] }] 27)
              replace HO := Lib.hid (HO.out.below ha)
              replace HI := Lib.hid (HI.out.below ha)
              replace HB := Lib.hid (chainC HB.out ha); clear ha
              have hor := HO.out
              unfold FRow at hor
              rw [outsN_len] at hor
              have HO1 := Lib.hid hor; clear hor
              go_wp2_with (at_builtin; refine wpList_append_own _ rfl _ _ 23 rfl w.heap.size 27 i0 (.agg #[.int .i64 0, .int .i64 0, .int .u64 0, .string ByteArray.empty]) 4 40 Try.underlying23 hi hz0 hz1 hz2 rfl (by decide) _ _ _ rfl HO1.out ⟨w8.heap.size, 0, none⟩ 1 1 (encF ⟨0, wd, gv, { data := #[] }⟩) rfl ?qc1 ?qc2 ?qc3 ?qc4 ?qc5 ?qc6 ?_)
              case qc1 => rfl
              case qc2 =>
                intro q u hq
                first
                | (rw [Addr.add_lit, Nat.zero_add]; exact encF_cells hn q u hq)
                | exact hq
              case qc3 => intro u hu; exact encF_one [_] u (by simpa using hu)
              case qc4 => exact Nat.le_trans (Nat.succ_le_of_lt hlt) (Nat.le_trans HL.out (by decide))
              case qc5 => exact Nat.le_trans (Nat.mul_le_mul_right 40 (Nat.le_trans (Nat.succ_le_of_lt hlt) HL.out)) (by decide)
              case qc6 => first | exact HB.out.size | (have h6 := HB.out.size; simpa using h6)
              intro v' w9 ho hgr _
              replace HI := Lib.hid (show IRow w9 w.heap.size _ _ from HI.out.kept hgr (rows_ne (by decide) HI.out HO1.out))
              replace HB := Lib.hid (pw_below_grown HB.out _ HB.out.size hgr (fun k hk => (HO1.out.lt k hk).1))
              have hr3 : FRow w9 w.heap.size v' (outsN r0 ms (j + 1)) := by
                rw [HOut.out]
                exact FRow.more (by rw [outsN_len]; exact ho)
              replace HO := Lib.hid hr3; clear hr3
              obtain ⟨ya, yc, rfl⟩ := own_slice ho
              clear ho hgr hn HO1 hi hz0 hz1 hz2 i0
              obtain ⟨i1, hi, hz0, hz1, hz2⟩ := info_parts int_info
              have ha := (Below.refl w9.heap.size w9).alloc (Nat.le_refl _) (Obj.cells #[Value.int IntKind.i64 ((ln : List UInt8).length : Int)] 3)
              have hn : (w9.alloc (Obj.cells #[Value.int IntKind.i64 ((ln : List UInt8).length : Int)] 3)).cell? ⟨w9.heap.size, 0, none⟩ = some (.int .i64 ((ln : List UInt8).length : Int)) := by simp
              replace HO := Lib.hid (HO.out.below ha)
              replace HI := Lib.hid (HI.out.below ha)
              replace HB := Lib.hid (chainC HB.out ha); clear ha
              have hor := HI.out
              unfold IRow at hor
              rw [leftsN_len] at hor
              have HI1 := Lib.hid hor; clear hor
              have hsl := HSnz.out
              go_wp2_with (at_builtin; refine wpList_append_own _ rfl _ _ 48 rfl w.heap.size 3 i1 (.int .i64 0) 1 8 Try.underlying48 hi hz0 hz1 hz2 rfl (by decide) _ _ _ rfl HI1.out ⟨w9.heap.size, 0, none⟩ 1 1 [.int .i64 ((ln : List UInt8).length : Int)] rfl ?qc1 ?qc2 ?qc3 ?qc4 ?qc5 ?qc6 ?_)
              case qc1 => rfl
              case qc2 =>
                intro q u hq
                first
                | (rw [Addr.add_lit, Nat.zero_add]; exact one_cell hn q u hq)
                | exact hq
              case qc3 => intro u hu; simp only [List.mem_singleton] at hu; subst hu; rfl
              case qc4 => exact Nat.le_trans (Nat.succ_le_of_lt hlt) (Nat.le_trans HL.out (by decide))
              case qc5 => exact Nat.le_trans (Nat.mul_le_mul_right 8 (Nat.le_trans (Nat.succ_le_of_lt hlt) HL.out)) (by decide)
              case qc6 => first | exact HB.out.size | (have h6 := HB.out.size; simpa using h6)
              intro v' w10 ho hgr _
              replace HO := Lib.hid (show FRow w10 w.heap.size _ _ from HO.out.kept hgr (rows_ne (by decide) HO.out HI1.out))
              replace HB := Lib.hid (pw_below_grown HB.out _ HB.out.size hgr (fun k hk => (HI1.out.lt k hk).1))
              have hr3 : IRow w10 w.heap.size v' (leftsN r0 ms (j + 1)) := by
                rw [HLf.out]
                exact IRow.more (by rw [leftsN_len]; exact ho)
              replace HI := Lib.hid hr3; clear hr3
              obtain ⟨za, zc, rfl⟩ := own_slice ho
              clear ho hgr hn HI1 hi hz0 hz1 hz2 i1 hsl
              go_wp2
              go_roundw
              case rel => exact ⟨j + 1, hlt, by rw [e3], by rw [HRn.out]; rw [HSn.out], by rw [HRn.out], HO.out, HI.out, HB.out⟩
              case measure => rw [e3]; simp only [RowKit.intOf, Int.toNat_natCast]; exact Nat.sub_lt_sub_left hlt (Nat.lt_succ_self j)
      · simp only at hk
        subst hk
        by_cases hcm : sl.size < 8
        · have c3 : decide (sl.size < 8) = true := decide_eq_true hcm
          obtain ⟨z0, z1, z2, z3⟩ := HBX.out.S
          have hres := rd_few (r := (l, wr0)) (f := ⟨1, wd, n, s⟩) (.inr ⟨rfl, by rw [← Hsz.out]; exact hcm⟩)
          have HOut := Lib.hid (show outsN r0 ms (j + 1) = outsN r0 ms j ++ [⟨1, wd, 0, { data := #[] }⟩] by rw [outsN_succ r0 ms j hlt, HRj.out, HFj.out, hres.1])
          have HRn := Lib.hid (show rdAll r0 (ms.take (j + 1)) = ([], true) by rw [rdAll_take r0 ms j hlt, HRj.out, HFj.out, hres.2])
          have HLf := Lib.hid (show leftsN r0 ms (j + 1) = leftsN r0 ms j ++ [(([] : List UInt8).length : Int)] by rw [leftsN_succ r0 ms j, HRn.out])
          clear hres
          obtain ⟨i0, hi, hz0, hz1, hz2⟩ := info_parts fd_info
          have hn := (Box4.new (w7) 27 (.int .i64 1) (.int .i64 wd) (.int .u64 0) (.string { data := #[] })).S
          rw [show (w7).heap.size = w7.heap.size by simp] at hn
          have ha := (Below.refl (w7).heap.size (w7)).alloc (Nat.le_refl _) (Obj.cells #[Value.int IntKind.i64 1, Value.int IntKind.i64 wd, Value.int IntKind.u64 0, Value.string { data := #[] }] 27)
          replace HO := Lib.hid (HO.out.below ha)
          replace HI := Lib.hid (HI.out.below ha)
          replace HB := Lib.hid (chainC HB.out ha); clear ha
          have hor := HO.out
          unfold FRow at hor
          rw [outsN_len] at hor
          have HO1 := Lib.hid hor; clear hor
          go_wp2_with (at_builtin; refine wpList_append_own _ rfl _ _ 23 rfl w.heap.size 27 i0 (.agg #[.int .i64 0, .int .i64 0, .int .u64 0, .string ByteArray.empty]) 4 40 Try.underlying23 hi hz0 hz1 hz2 rfl (by decide) _ _ _ rfl HO1.out ⟨w7.heap.size, 0, none⟩ 1 1 (encF ⟨1, wd, 0, { data := #[] }⟩) rfl ?qc1 ?qc2 ?qc3 ?qc4 ?qc5 ?qc6 ?_)
          case qc1 => rfl
          case qc2 =>
            intro q u hq
            first
            | (rw [Addr.add_lit, Nat.zero_add]; exact encF_cells hn q u hq)
            | exact hq
          case qc3 => intro u hu; exact encF_one [_] u (by simpa using hu)
          case qc4 => exact Nat.le_trans (Nat.succ_le_of_lt hlt) (Nat.le_trans HL.out (by decide))
          case qc5 => exact Nat.le_trans (Nat.mul_le_mul_right 40 (Nat.le_trans (Nat.succ_le_of_lt hlt) HL.out)) (by decide)
          case qc6 => first | exact HB.out.size | (have h6 := HB.out.size; simpa using h6)
          intro v' w9 ho hgr _
          replace HI := Lib.hid (show IRow w9 w.heap.size _ _ from HI.out.kept hgr (rows_ne (by decide) HI.out HO1.out))
          replace HB := Lib.hid (pw_below_grown HB.out _ HB.out.size hgr (fun k hk => (HO1.out.lt k hk).1))
          have hr3 : FRow w9 w.heap.size v' (outsN r0 ms (j + 1)) := by
            rw [HOut.out]
            exact FRow.more (by rw [outsN_len]; exact ho)
          replace HO := Lib.hid hr3; clear hr3
          obtain ⟨ya, yc, rfl⟩ := own_slice ho
          clear ho hgr hn HO1 hi hz0 hz1 hz2 i0
          obtain ⟨i1, hi, hz0, hz1, hz2⟩ := info_parts int_info
          have ha := (Below.refl w9.heap.size w9).alloc (Nat.le_refl _) (Obj.cells #[Value.int IntKind.i64 (([] : List UInt8).length : Int)] 3)
          have hn : (w9.alloc (Obj.cells #[Value.int IntKind.i64 (([] : List UInt8).length : Int)] 3)).cell? ⟨w9.heap.size, 0, none⟩ = some (.int .i64 (([] : List UInt8).length : Int)) := by simp
          replace HO := Lib.hid (HO.out.below ha)
          replace HI := Lib.hid (HI.out.below ha)
          replace HB := Lib.hid (chainC HB.out ha); clear ha
          have hor := HI.out
          unfold IRow at hor
          rw [leftsN_len] at hor
          have HI1 := Lib.hid hor; clear hor
          have hsl := trivial
          go_wp2_with (at_builtin; refine wpList_append_own _ rfl _ _ 48 rfl w.heap.size 3 i1 (.int .i64 0) 1 8 Try.underlying48 hi hz0 hz1 hz2 rfl (by decide) _ _ _ rfl HI1.out ⟨w9.heap.size, 0, none⟩ 1 1 [.int .i64 (([] : List UInt8).length : Int)] rfl ?qc1 ?qc2 ?qc3 ?qc4 ?qc5 ?qc6 ?_)
          case qc1 => rfl
          case qc2 =>
            intro q u hq
            first
            | (rw [Addr.add_lit, Nat.zero_add]; exact one_cell hn q u hq)
            | exact hq
          case qc3 => intro u hu; simp only [List.mem_singleton] at hu; subst hu; rfl
          case qc4 => exact Nat.le_trans (Nat.succ_le_of_lt hlt) (Nat.le_trans HL.out (by decide))
          case qc5 => exact Nat.le_trans (Nat.mul_le_mul_right 8 (Nat.le_trans (Nat.succ_le_of_lt hlt) HL.out)) (by decide)
          case qc6 => first | exact HB.out.size | (have h6 := HB.out.size; simpa using h6)
          intro v' w10 ho hgr _
          replace HO := Lib.hid (show FRow w10 w.heap.size _ _ from HO.out.kept hgr (rows_ne (by decide) HO.out HI1.out))
          replace HB := Lib.hid (pw_below_grown HB.out _ HB.out.size hgr (fun k hk => (HI1.out.lt k hk).1))
          have hr3 : IRow w10 w.heap.size v' (leftsN r0 ms (j + 1)) := by
            rw [HLf.out]
            exact IRow.more (by rw [leftsN_len]; exact ho)
          replace HI := Lib.hid hr3; clear hr3
          obtain ⟨za, zc, rfl⟩ := own_slice ho
          clear ho hgr hn HI1 hi hz0 hz1 hz2 i1 hsl
          go_wp2
          go_roundw
          case rel => exact ⟨j + 1, hlt, by rw [e3], by rw [HRn.out]; rfl, by rw [HRn.out], HO.out, HI.out, HB.out⟩
          case measure => rw [e3]; simp only [RowKit.intOf, Int.toNat_natCast]; exact Nat.sub_lt_sub_left hlt (Nat.lt_succ_self j)
        · have c3 : decide (sl.size < 8) = false := decide_eq_false hcm
          have hml : 8 ≤ l.length := by have := Hsz.out; omega
          obtain rfl : wr0 = false := by
            cases wr0 with
            | false => rfl
            | true => have h := HWk.out rfl; simp only at h; rw [h] at hml; simp only [List.length_nil] at hml; omega
          obtain ⟨s1, hs1⟩ : ∃ s1, s1 = str (l.take 8) := ⟨_, rfl⟩
          obtain ⟨ln, hln⟩ : ∃ ln, ln = l.drop 8 := ⟨_, rfl⟩
          obtain ⟨sn, hsn⟩ : ∃ sn, sn = str ln := ⟨_, rfl⟩
          obtain ⟨gv, hgv⟩ : ∃ gv, gv = getN (l.take 8) := ⟨_, rfl⟩
          have hE : sl.extract 0 8 = s1 := by rw [HSl.out, hs1, str_extract]; rfl
          have hD : sl.extract 8 sl.size = sn := by rw [hsn, hln, HSl.out, str_extract, str_size, List.take_length]
          have hres0 := rd_num (r := (l, false)) (f := ⟨1, wd, n, s⟩) (m := 8) rfl (.inr ⟨rfl, rfl⟩) (by simp only; omega)
          simp only at hres0
          rw [← hln, ← hgv] at hres0
          have HRes := Lib.hid hres0; clear hres0
          have HGet := Lib.hid (show tillrollref01_Get.f 100 s1 = some (gv : Int) by
            rw [ref_get_f s1 (by rw [hs1, str_size, List.length_take]; have := HLn.out; omega) 100 (by decide), hs1, str_data, ← hgv, Nat.mod_eq_of_lt]
            have h1 := getN_lt (l.take 8)
            rw [← hgv] at h1
            have h2 : 256 ^ (l.take 8).length ≤ 256 ^ 8 := Nat.pow_le_pow_right (by decide) (by rw [List.length_take]; omega)
            exact Nat.lt_of_lt_of_le h1 (by simpa using h2))
          have HSnz := Lib.hid (show sn.size = ln.length by rw [hsn, str_size])
          have HSn := Lib.hid hsn
          clear hs1 hln hsn hgv hml
          obtain ⟨z0, z1, z2, z3⟩ := HBX.out.S
          have c4 : (8 ≤ sl.size) = True := eq_true (by omega)
          have c5 : decide (8 ≤ sl.size) = true := decide_eq_true (by omega)
          have c6 : 8 ≤ sl.size := by omega
          go_wp2_with fail
          refine (tillrollref01_Get.calls 100 _ _ _ HGet.out).mono ?_
          rintro e w8 ⟨rfl, hd⟩
          replace HO := Lib.hid (HO.out.below hd.below)
          replace HI := Lib.hid (HI.out.below hd.below)
          replace HBX := Lib.hid (HBX.out.below hd.below)
          replace HB := Lib.hid (chainC HB.out hd.below); clear hd z0 z1 z2 z3
          replace HO := Lib.hid (show FRow (w8.setCell ⟨bx, 2, none⟩ (.int .u64 (gv : Int))) w.heap.size _ _ from HO.out.kept (Lib.grownBy_setCell w8 bx 2 _) (.inr hnO.out))
          replace HI := Lib.hid (show IRow (w8.setCell ⟨bx, 2, none⟩ (.int .u64 (gv : Int))) w.heap.size _ _ from HI.out.kept (Lib.grownBy_setCell w8 bx 2 _) (.inr hnI.out))
          replace HB := Lib.hid (below_set HB.out (b := bx) (i := 2) (v := .int .u64 (gv : Int)) HBs.out)
          obtain ⟨x0, x1, x2, x3⟩ := HBX.out.S
          obtain ⟨y0, y1, y2, y3⟩ := HBX.out.F
          obtain ⟨z0, z1, z2, z3⟩ := (HBX.out.set2 (.int .u64 (gv : Int))).S
          have hres := HRes.out
          have HOut := Lib.hid (show outsN r0 ms (j + 1) = outsN r0 ms j ++ [⟨1, wd, gv, { data := #[] }⟩] by rw [outsN_succ r0 ms j hlt, HRj.out, HFj.out, hres.1])
          have HRn := Lib.hid (show rdAll r0 (ms.take (j + 1)) = (ln, false) by rw [rdAll_take r0 ms j hlt, HRj.out, HFj.out, hres.2])
          have HLf := Lib.hid (show leftsN r0 ms (j + 1) = leftsN r0 ms j ++ [((ln : List UInt8).length : Int)] by rw [leftsN_succ r0 ms j, HRn.out])
          clear hres
          obtain ⟨i0, hi, hz0, hz1, hz2⟩ := info_parts fd_info
          have hn := (Box4.new (w8.setCell ⟨bx, 2, none⟩ (.int .u64 (gv : Int))) 27 (.int .i64 1) (.int .i64 wd) (.int .u64 (gv : Int)) (.string { data := #[] })).S
          rw [show (w8.setCell ⟨bx, 2, none⟩ (.int .u64 (gv : Int))).heap.size = w8.heap.size by simp] at hn
          have ha := (Below.refl (w8.setCell ⟨bx, 2, none⟩ (.int .u64 (gv : Int))).heap.size (w8.setCell ⟨bx, 2, none⟩ (.int .u64 (gv : Int)))).alloc (Nat.le_refl _) (Obj.cells #[Value.int IntKind.i64 1, Value.int IntKind.i64 wd, Value.int IntKind.u64 (gv : Int), Value.string { data := #[] }] 27)
          replace HO := Lib.hid (HO.out.below ha)
          replace HI := Lib.hid (HI.out.below ha)
          replace HB := Lib.hid (chainC HB.out ha); clear ha
          have hor := HO.out
          unfold FRow at hor
          rw [outsN_len] at hor
          have HO1 := Lib.hid hor; clear hor
          go_wp2_with (at_builtin; refine wpList_append_own _ rfl _ _ 23 rfl w.heap.size 27 i0 (.agg #[.int .i64 0, .int .i64 0, .int .u64 0, .string ByteArray.empty]) 4 40 Try.underlying23 hi hz0 hz1 hz2 rfl (by decide) _ _ _ rfl HO1.out ⟨w8.heap.size, 0, none⟩ 1 1 (encF ⟨1, wd, gv, { data := #[] }⟩) rfl ?qc1 ?qc2 ?qc3 ?qc4 ?qc5 ?qc6 ?_)
          case qc1 => rfl
          case qc2 =>
            intro q u hq
            first
            | (rw [Addr.add_lit, Nat.zero_add]; exact encF_cells hn q u hq)
            | exact hq
          case qc3 => intro u hu; exact encF_one [_] u (by simpa using hu)
          case qc4 => exact Nat.le_trans (Nat.succ_le_of_lt hlt) (Nat.le_trans HL.out (by decide))
          case qc5 => exact Nat.le_trans (Nat.mul_le_mul_right 40 (Nat.le_trans (Nat.succ_le_of_lt hlt) HL.out)) (by decide)
          case qc6 => first | exact HB.out.size | (have h6 := HB.out.size; simpa using h6)
          intro v' w9 ho hgr _
          replace HI := Lib.hid (show IRow w9 w.heap.size _ _ from HI.out.kept hgr (rows_ne (by decide) HI.out HO1.out))
          replace HB := Lib.hid (pw_below_grown HB.out _ HB.out.size hgr (fun k hk => (HO1.out.lt k hk).1))
          have hr3 : FRow w9 w.heap.size v' (outsN r0 ms (j + 1)) := by
            rw [HOut.out]
            exact FRow.more (by rw [outsN_len]; exact ho)
          replace HO := Lib.hid hr3; clear hr3
          obtain ⟨ya, yc, rfl⟩ := own_slice ho
          clear ho hgr hn HO1 hi hz0 hz1 hz2 i0
          obtain ⟨i1, hi, hz0, hz1, hz2⟩ := info_parts int_info
          have ha := (Below.refl w9.heap.size w9).alloc (Nat.le_refl _) (Obj.cells #[Value.int IntKind.i64 ((ln : List UInt8).length : Int)] 3)
          have hn : (w9.alloc (Obj.cells #[Value.int IntKind.i64 ((ln : List UInt8).length : Int)] 3)).cell? ⟨w9.heap.size, 0, none⟩ = some (.int .i64 ((ln : List UInt8).length : Int)) := by simp
          replace HO := Lib.hid (HO.out.below ha)
          replace HI := Lib.hid (HI.out.below ha)
          replace HB := Lib.hid (chainC HB.out ha); clear ha
          have hor := HI.out
          unfold IRow at hor
          rw [leftsN_len] at hor
          have HI1 := Lib.hid hor; clear hor
          have hsl := HSnz.out
          go_wp2_with (at_builtin; refine wpList_append_own _ rfl _ _ 48 rfl w.heap.size 3 i1 (.int .i64 0) 1 8 Try.underlying48 hi hz0 hz1 hz2 rfl (by decide) _ _ _ rfl HI1.out ⟨w9.heap.size, 0, none⟩ 1 1 [.int .i64 ((ln : List UInt8).length : Int)] rfl ?qc1 ?qc2 ?qc3 ?qc4 ?qc5 ?qc6 ?_)
          case qc1 => rfl
          case qc2 =>
            intro q u hq
            first
            | (rw [Addr.add_lit, Nat.zero_add]; exact one_cell hn q u hq)
            | exact hq
          case qc3 => intro u hu; simp only [List.mem_singleton] at hu; subst hu; rfl
          case qc4 => exact Nat.le_trans (Nat.succ_le_of_lt hlt) (Nat.le_trans HL.out (by decide))
          case qc5 => exact Nat.le_trans (Nat.mul_le_mul_right 8 (Nat.le_trans (Nat.succ_le_of_lt hlt) HL.out)) (by decide)
          case qc6 => first | exact HB.out.size | (have h6 := HB.out.size; simpa using h6)
          intro v' w10 ho hgr _
          replace HO := Lib.hid (show FRow w10 w.heap.size _ _ from HO.out.kept hgr (rows_ne (by decide) HO.out HI1.out))
          replace HB := Lib.hid (pw_below_grown HB.out _ HB.out.size hgr (fun k hk => (HI1.out.lt k hk).1))
          have hr3 : IRow w10 w.heap.size v' (leftsN r0 ms (j + 1)) := by
            rw [HLf.out]
            exact IRow.more (by rw [leftsN_len]; exact ho)
          replace HI := Lib.hid hr3; clear hr3
          obtain ⟨za, zc, rfl⟩ := own_slice ho
          clear ho hgr hn HI1 hi hz0 hz1 hz2 i1 hsl
          go_wp2
          go_roundw
          case rel => exact ⟨j + 1, hlt, by rw [e3], by rw [HRn.out]; rw [HSn.out], by rw [HRn.out], HO.out, HI.out, HB.out⟩
          case measure => rw [e3]; simp only [RowKit.intOf, Int.toNat_natCast]; exact Nat.sub_lt_sub_left hlt (Nat.lt_succ_self j)
      · simp only at hk
        subst hk
        cases l with
        | nil =>
          have hz : sl.size = 0 := by rw [Hsz.out]; rfl
          obtain ⟨z0, z1, z2, z3⟩ := HBX.out.S
          have hres := rd_empty (f := ⟨2, wd, n, s⟩) rfl wr0
          have HOut := Lib.hid (show outsN r0 ms (j + 1) = outsN r0 ms j ++ [⟨2, wd, 0, { data := #[] }⟩] by rw [outsN_succ r0 ms j hlt, HRj.out, HFj.out, hres.1])
          have HRn := Lib.hid (show rdAll r0 (ms.take (j + 1)) = ([], true) by rw [rdAll_take r0 ms j hlt, HRj.out, HFj.out, hres.2])
          have HLf := Lib.hid (show leftsN r0 ms (j + 1) = leftsN r0 ms j ++ [(([] : List UInt8).length : Int)] by rw [leftsN_succ r0 ms j, HRn.out])
          clear hres
          obtain ⟨i0, hi, hz0, hz1, hz2⟩ := info_parts fd_info
          have hn := (Box4.new (w7) 27 (.int .i64 2) (.int .i64 wd) (.int .u64 0) (.string { data := #[] })).S
          rw [show (w7).heap.size = w7.heap.size by simp] at hn
          have ha := (Below.refl (w7).heap.size (w7)).alloc (Nat.le_refl _) (Obj.cells #[Value.int IntKind.i64 2, Value.int IntKind.i64 wd, Value.int IntKind.u64 0, Value.string { data := #[] }] 27)
          replace HO := Lib.hid (HO.out.below ha)
          replace HI := Lib.hid (HI.out.below ha)
          replace HB := Lib.hid (chainC HB.out ha); clear ha
          have hor := HO.out
          unfold FRow at hor
          rw [outsN_len] at hor
          have HO1 := Lib.hid hor; clear hor
          go_wp2_with (at_builtin; refine wpList_append_own _ rfl _ _ 23 rfl w.heap.size 27 i0 (.agg #[.int .i64 0, .int .i64 0, .int .u64 0, .string ByteArray.empty]) 4 40 Try.underlying23 hi hz0 hz1 hz2 rfl (by decide) _ _ _ rfl HO1.out ⟨w7.heap.size, 0, none⟩ 1 1 (encF ⟨2, wd, 0, { data := #[] }⟩) rfl ?qc1 ?qc2 ?qc3 ?qc4 ?qc5 ?qc6 ?_)
          case qc1 => rfl
          case qc2 =>
            intro q u hq
            first
            | (rw [Addr.add_lit, Nat.zero_add]; exact encF_cells hn q u hq)
            | exact hq
          case qc3 => intro u hu; exact encF_one [_] u (by simpa using hu)
          case qc4 => exact Nat.le_trans (Nat.succ_le_of_lt hlt) (Nat.le_trans HL.out (by decide))
          case qc5 => exact Nat.le_trans (Nat.mul_le_mul_right 40 (Nat.le_trans (Nat.succ_le_of_lt hlt) HL.out)) (by decide)
          case qc6 => first | exact HB.out.size | (have h6 := HB.out.size; simpa using h6)
          intro v' w9 ho hgr _
          replace HI := Lib.hid (show IRow w9 w.heap.size _ _ from HI.out.kept hgr (rows_ne (by decide) HI.out HO1.out))
          replace HB := Lib.hid (pw_below_grown HB.out _ HB.out.size hgr (fun k hk => (HO1.out.lt k hk).1))
          have hr3 : FRow w9 w.heap.size v' (outsN r0 ms (j + 1)) := by
            rw [HOut.out]
            exact FRow.more (by rw [outsN_len]; exact ho)
          replace HO := Lib.hid hr3; clear hr3
          obtain ⟨ya, yc, rfl⟩ := own_slice ho
          clear ho hgr hn HO1 hi hz0 hz1 hz2 i0
          obtain ⟨i1, hi, hz0, hz1, hz2⟩ := info_parts int_info
          have ha := (Below.refl w9.heap.size w9).alloc (Nat.le_refl _) (Obj.cells #[Value.int IntKind.i64 (([] : List UInt8).length : Int)] 3)
          have hn : (w9.alloc (Obj.cells #[Value.int IntKind.i64 (([] : List UInt8).length : Int)] 3)).cell? ⟨w9.heap.size, 0, none⟩ = some (.int .i64 (([] : List UInt8).length : Int)) := by simp
          replace HO := Lib.hid (HO.out.below ha)
          replace HI := Lib.hid (HI.out.below ha)
          replace HB := Lib.hid (chainC HB.out ha); clear ha
          have hor := HI.out
          unfold IRow at hor
          rw [leftsN_len] at hor
          have HI1 := Lib.hid hor; clear hor
          have hsl := trivial
          go_wp2_with (at_builtin; refine wpList_append_own _ rfl _ _ 48 rfl w.heap.size 3 i1 (.int .i64 0) 1 8 Try.underlying48 hi hz0 hz1 hz2 rfl (by decide) _ _ _ rfl HI1.out ⟨w9.heap.size, 0, none⟩ 1 1 [.int .i64 (([] : List UInt8).length : Int)] rfl ?qc1 ?qc2 ?qc3 ?qc4 ?qc5 ?qc6 ?_)
          case qc1 => rfl
          case qc2 =>
            intro q u hq
            first
            | (rw [Addr.add_lit, Nat.zero_add]; exact one_cell hn q u hq)
            | exact hq
          case qc3 => intro u hu; simp only [List.mem_singleton] at hu; subst hu; rfl
          case qc4 => exact Nat.le_trans (Nat.succ_le_of_lt hlt) (Nat.le_trans HL.out (by decide))
          case qc5 => exact Nat.le_trans (Nat.mul_le_mul_right 8 (Nat.le_trans (Nat.succ_le_of_lt hlt) HL.out)) (by decide)
          case qc6 => first | exact HB.out.size | (have h6 := HB.out.size; simpa using h6)
          intro v' w10 ho hgr _
          replace HO := Lib.hid (show FRow w10 w.heap.size _ _ from HO.out.kept hgr (rows_ne (by decide) HO.out HI1.out))
          replace HB := Lib.hid (pw_below_grown HB.out _ HB.out.size hgr (fun k hk => (HI1.out.lt k hk).1))
          have hr3 : IRow w10 w.heap.size v' (leftsN r0 ms (j + 1)) := by
            rw [HLf.out]
            exact IRow.more (by rw [leftsN_len]; exact ho)
          replace HI := Lib.hid hr3; clear hr3
          obtain ⟨za, zc, rfl⟩ := own_slice ho
          clear ho hgr hn HI1 hi hz0 hz1 hz2 i1 hsl
          go_wp2
          go_roundw
          case rel => exact ⟨j + 1, hlt, by rw [e3], by rw [HRn.out]; rfl, by rw [HRn.out], HO.out, HI.out, HB.out⟩
          case measure => rw [e3]; simp only [RowKit.intOf, Int.toNat_natCast]; exact Nat.sub_lt_sub_left hlt (Nat.lt_succ_self j)
        | cons b l =>
          have hz : 0 < sl.size := by rw [Hsz.out]; simp
          have c1 : decide (0 < sl.size) = true := decide_eq_true hz
          obtain ⟨bn, hbn⟩ : ∃ bn : Nat, bn = b.toNat := ⟨_, rfl⟩
          have hb : (sl[0]'hz).toNat = bn := by rw [hbn]; have h := HSl.out; subst h; rfl
          have hb255 : bn < 256 := by rw [hbn]; exact b.toNat_lt
          obtain ⟨q, hq⟩ : ∃ q : Nat, q = bn + 1 := ⟨_, rfl⟩
          have hw2 : wrap64 (bn : Int) = (bn : Int) := wrap64_in _ (by omega) (by omega)
          have hw3 : wrap64 (1 + (bn : Int)) = (q : Int) := by rw [hq]; unfold wrap64; omega
          have hll : sl.size = l.length + 1 := by rw [Hsz.out]; rfl
          obtain ⟨z0, z1, z2, z3⟩ := HBX.out.S
          obtain rfl : wr0 = false := by
            cases wr0 with
            | false => rfl
            | true => have h := HWk.out rfl; simp at h
          by_cases hcm : sl.size < q
          · have c2 : decide (sl.size < q) = true := decide_eq_true hcm
            have Hlt2 := Lib.hid (show l.length < b.toNat by rw [← hbn]; omega)
            clear hq hbn hb255 hll
            have hres := rd_txt_not (l := l) (b := b) (f := ⟨2, wd, n, s⟩) rfl Hlt2.out
            have HOut := Lib.hid (show outsN r0 ms (j + 1) = outsN r0 ms j ++ [⟨2, wd, 0, { data := #[] }⟩] by rw [outsN_succ r0 ms j hlt, HRj.out, HFj.out, hres.1])
            have HRn := Lib.hid (show rdAll r0 (ms.take (j + 1)) = ([], true) by rw [rdAll_take r0 ms j hlt, HRj.out, HFj.out, hres.2])
            have HLf := Lib.hid (show leftsN r0 ms (j + 1) = leftsN r0 ms j ++ [(([] : List UInt8).length : Int)] by rw [leftsN_succ r0 ms j, HRn.out])
            clear hres
            obtain ⟨i0, hi, hz0, hz1, hz2⟩ := info_parts fd_info
            have hn := (Box4.new (w7) 27 (.int .i64 2) (.int .i64 wd) (.int .u64 0) (.string { data := #[] })).S
            rw [show (w7).heap.size = w7.heap.size by simp] at hn
            have ha := (Below.refl (w7).heap.size (w7)).alloc (Nat.le_refl _) (Obj.cells #[Value.int IntKind.i64 2, Value.int IntKind.i64 wd, Value.int IntKind.u64 0, Value.string { data := #[] }] 27)
            replace HO := Lib.hid (HO.out.below ha)
            replace HI := Lib.hid (HI.out.below ha)
            replace HB := Lib.hid (chainC HB.out ha); clear ha
            have hor := HO.out
            unfold FRow at hor
            rw [outsN_len] at hor
            have HO1 := Lib.hid hor; clear hor
            go_wp2_with (at_builtin; refine wpList_append_own _ rfl _ _ 23 rfl w.heap.size 27 i0 (.agg #[.int .i64 0, .int .i64 0, .int .u64 0, .string ByteArray.empty]) 4 40 Try.underlying23 hi hz0 hz1 hz2 rfl (by decide) _ _ _ rfl HO1.out ⟨w7.heap.size, 0, none⟩ 1 1 (encF ⟨2, wd, 0, { data := #[] }⟩) rfl ?qc1 ?qc2 ?qc3 ?qc4 ?qc5 ?qc6 ?_)
            case qc1 => rfl
            case qc2 =>
              intro q u hq
              first
              | (rw [Addr.add_lit, Nat.zero_add]; exact encF_cells hn q u hq)
              | exact hq
            case qc3 => intro u hu; exact encF_one [_] u (by simpa using hu)
            case qc4 => exact Nat.le_trans (Nat.succ_le_of_lt hlt) (Nat.le_trans HL.out (by decide))
            case qc5 => exact Nat.le_trans (Nat.mul_le_mul_right 40 (Nat.le_trans (Nat.succ_le_of_lt hlt) HL.out)) (by decide)
            case qc6 => first | exact HB.out.size | (have h6 := HB.out.size; simpa using h6)
            intro v' w9 ho hgr _
            replace HI := Lib.hid (show IRow w9 w.heap.size _ _ from HI.out.kept hgr (rows_ne (by decide) HI.out HO1.out))
            replace HB := Lib.hid (pw_below_grown HB.out _ HB.out.size hgr (fun k hk => (HO1.out.lt k hk).1))
            have hr3 : FRow w9 w.heap.size v' (outsN r0 ms (j + 1)) := by
              rw [HOut.out]
              exact FRow.more (by rw [outsN_len]; exact ho)
            replace HO := Lib.hid hr3; clear hr3
            obtain ⟨ya, yc, rfl⟩ := own_slice ho
            clear ho hgr hn HO1 hi hz0 hz1 hz2 i0
            obtain ⟨i1, hi, hz0, hz1, hz2⟩ := info_parts int_info
            have ha := (Below.refl w9.heap.size w9).alloc (Nat.le_refl _) (Obj.cells #[Value.int IntKind.i64 (([] : List UInt8).length : Int)] 3)
            have hn : (w9.alloc (Obj.cells #[Value.int IntKind.i64 (([] : List UInt8).length : Int)] 3)).cell? ⟨w9.heap.size, 0, none⟩ = some (.int .i64 (([] : List UInt8).length : Int)) := by simp
            replace HO := Lib.hid (HO.out.below ha)
            replace HI := Lib.hid (HI.out.below ha)
            replace HB := Lib.hid (chainC HB.out ha); clear ha
            have hor := HI.out
            unfold IRow at hor
            rw [leftsN_len] at hor
            have HI1 := Lib.hid hor; clear hor
            have hsl := trivial
            go_wp2_with (at_builtin; refine wpList_append_own _ rfl _ _ 48 rfl w.heap.size 3 i1 (.int .i64 0) 1 8 Try.underlying48 hi hz0 hz1 hz2 rfl (by decide) _ _ _ rfl HI1.out ⟨w9.heap.size, 0, none⟩ 1 1 [.int .i64 (([] : List UInt8).length : Int)] rfl ?qc1 ?qc2 ?qc3 ?qc4 ?qc5 ?qc6 ?_)
            case qc1 => rfl
            case qc2 =>
              intro q u hq
              first
              | (rw [Addr.add_lit, Nat.zero_add]; exact one_cell hn q u hq)
              | exact hq
            case qc3 => intro u hu; simp only [List.mem_singleton] at hu; subst hu; rfl
            case qc4 => exact Nat.le_trans (Nat.succ_le_of_lt hlt) (Nat.le_trans HL.out (by decide))
            case qc5 => exact Nat.le_trans (Nat.mul_le_mul_right 8 (Nat.le_trans (Nat.succ_le_of_lt hlt) HL.out)) (by decide)
            case qc6 => first | exact HB.out.size | (have h6 := HB.out.size; simpa using h6)
            intro v' w10 ho hgr _
            replace HO := Lib.hid (show FRow w10 w.heap.size _ _ from HO.out.kept hgr (rows_ne (by decide) HO.out HI1.out))
            replace HB := Lib.hid (pw_below_grown HB.out _ HB.out.size hgr (fun k hk => (HI1.out.lt k hk).1))
            have hr3 : IRow w10 w.heap.size v' (leftsN r0 ms (j + 1)) := by
              rw [HLf.out]
              exact IRow.more (by rw [leftsN_len]; exact ho)
            replace HI := Lib.hid hr3; clear hr3
            obtain ⟨za, zc, rfl⟩ := own_slice ho
            clear ho hgr hn HI1 hi hz0 hz1 hz2 i1 hsl
            go_wp2
            go_roundw
            case rel => exact ⟨j + 1, hlt, by rw [e3], by rw [HRn.out]; rfl, by rw [HRn.out], HO.out, HI.out, HB.out⟩
            case measure => rw [e3]; simp only [RowKit.intOf, Int.toNat_natCast]; exact Nat.sub_lt_sub_left hlt (Nat.lt_succ_self j)
          · have c2 : decide (sl.size < q) = false := decide_eq_false hcm
            obtain ⟨s1, hs1⟩ : ∃ s1, s1 = str (l.take bn) := ⟨_, rfl⟩
            obtain ⟨ln, hln⟩ : ∃ ln, ln = l.drop bn := ⟨_, rfl⟩
            obtain ⟨sn, hsn⟩ : ∃ sn, sn = str ln := ⟨_, rfl⟩
            have hE : sl.extract 1 q = s1 := by rw [HSl.out, hs1, str_extract, hq]; rfl
            have hD : sl.extract q sl.size = sn := by rw [hsn, hln, HSl.out, str_extract, str_size, List.take_length, hq]; rfl
            have hres0 := rd_txt (l := l) (b := b) (f := ⟨2, wd, n, s⟩) rfl (by rw [← hbn]; omega)
            rw [← hbn, ← hs1, ← hln] at hres0
            simp only at hres0
            have HRes := Lib.hid hres0; clear hres0
            have HSnz := Lib.hid (show sn.size = ln.length by rw [hsn, str_size])
            have HSn := Lib.hid hsn
            have c4 : 1 ≤ q := by omega
            have c5 : q ≤ sl.size := by omega
            have c6 : decide (1 ≤ q) = true := decide_eq_true c4
            have c7 : decide (q ≤ sl.size) = true := decide_eq_true c5
            have hslc : ∀ w' : World, (Instr.slice 9 (.string sl) (some (.int .i64 1)) (some (.int .i64 (q : Int))) none).run Try.prog w' = .ok (.string s1) w' := by
              intro w'
              rw [run_slice_string_if w' 9 sl .i64 .i64 1 (q : Int) Try.underlying9, if_pos ⟨by omega, by omega⟩, if_pos ⟨by omega, by omega⟩, Int.toNat_natCast, show (1 : Int).toNat = 1 from rfl, hE]
            clear hs1 hln hsn hq hbn hb255 hll
            replace HO := Lib.hid (show FRow (w7.setCell ⟨bx, 3, none⟩ (.string s1)) w.heap.size _ _ from HO.out.kept (Lib.grownBy_setCell w7 bx 3 _) (.inr hnO.out))
            replace HI := Lib.hid (show IRow (w7.setCell ⟨bx, 3, none⟩ (.string s1)) w.heap.size _ _ from HI.out.kept (Lib.grownBy_setCell w7 bx 3 _) (.inr hnI.out))
            replace HB := Lib.hid (below_set HB.out (b := bx) (i := 3) (v := .string s1) HBs.out)
            obtain ⟨y0, y1, y2, y3⟩ := HBX.out.F
            obtain ⟨x0, x1, x2, x3⟩ := (HBX.out.set3 (.string s1)).S
            have hres := HRes.out
            have HOut := Lib.hid (show outsN r0 ms (j + 1) = outsN r0 ms j ++ [⟨2, wd, 0, s1⟩] by rw [outsN_succ r0 ms j hlt, HRj.out, HFj.out, hres.1])
            have HRn := Lib.hid (show rdAll r0 (ms.take (j + 1)) = (ln, false) by rw [rdAll_take r0 ms j hlt, HRj.out, HFj.out, hres.2])
            have HLf := Lib.hid (show leftsN r0 ms (j + 1) = leftsN r0 ms j ++ [((ln : List UInt8).length : Int)] by rw [leftsN_succ r0 ms j, HRn.out])
            clear hres
            obtain ⟨i0, hi, hz0, hz1, hz2⟩ := info_parts fd_info
            have hn := (Box4.new (w7.setCell ⟨bx, 3, none⟩ (.string s1)) 27 (.int .i64 2) (.int .i64 wd) (.int .u64 0) (.string s1)).S
            rw [show (w7.setCell ⟨bx, 3, none⟩ (.string s1)).heap.size = w7.heap.size by simp] at hn
            have ha := (Below.refl (w7.setCell ⟨bx, 3, none⟩ (.string s1)).heap.size (w7.setCell ⟨bx, 3, none⟩ (.string s1))).alloc (Nat.le_refl _) (Obj.cells #[Value.int IntKind.i64 2, Value.int IntKind.i64 wd, Value.int IntKind.u64 0, Value.string s1] 27)
            replace HO := Lib.hid (HO.out.below ha)
            replace HI := Lib.hid (HI.out.below ha)
            replace HB := Lib.hid (chainC HB.out ha); clear ha
            have hor := HO.out
            unfold FRow at hor
            rw [outsN_len] at hor
            have HO1 := Lib.hid hor; clear hor
            go_wp2_with (at_builtin; refine wpList_append_own _ rfl _ _ 23 rfl w.heap.size 27 i0 (.agg #[.int .i64 0, .int .i64 0, .int .u64 0, .string ByteArray.empty]) 4 40 Try.underlying23 hi hz0 hz1 hz2 rfl (by decide) _ _ _ rfl HO1.out ⟨w7.heap.size, 0, none⟩ 1 1 (encF ⟨2, wd, 0, s1⟩) rfl ?qc1 ?qc2 ?qc3 ?qc4 ?qc5 ?qc6 ?_)
            case qc1 => rfl
            case qc2 =>
              intro q u hq
              first
              | (rw [Addr.add_lit, Nat.zero_add]; exact encF_cells hn q u hq)
              | exact hq
            case qc3 => intro u hu; exact encF_one [_] u (by simpa using hu)
            case qc4 => exact Nat.le_trans (Nat.succ_le_of_lt hlt) (Nat.le_trans HL.out (by decide))
            case qc5 => exact Nat.le_trans (Nat.mul_le_mul_right 40 (Nat.le_trans (Nat.succ_le_of_lt hlt) HL.out)) (by decide)
            case qc6 => first | exact HB.out.size | (have h6 := HB.out.size; simpa using h6)
            intro v' w9 ho hgr _
            replace HI := Lib.hid (show IRow w9 w.heap.size _ _ from HI.out.kept hgr (rows_ne (by decide) HI.out HO1.out))
            replace HB := Lib.hid (pw_below_grown HB.out _ HB.out.size hgr (fun k hk => (HO1.out.lt k hk).1))
            have hr3 : FRow w9 w.heap.size v' (outsN r0 ms (j + 1)) := by
              rw [HOut.out]
              exact FRow.more (by rw [outsN_len]; exact ho)
            replace HO := Lib.hid hr3; clear hr3
            obtain ⟨ya, yc, rfl⟩ := own_slice ho
            clear ho hgr hn HO1 hi hz0 hz1 hz2 i0
            obtain ⟨i1, hi, hz0, hz1, hz2⟩ := info_parts int_info
            have ha := (Below.refl w9.heap.size w9).alloc (Nat.le_refl _) (Obj.cells #[Value.int IntKind.i64 ((ln : List UInt8).length : Int)] 3)
            have hn : (w9.alloc (Obj.cells #[Value.int IntKind.i64 ((ln : List UInt8).length : Int)] 3)).cell? ⟨w9.heap.size, 0, none⟩ = some (.int .i64 ((ln : List UInt8).length : Int)) := by simp
            replace HO := Lib.hid (HO.out.below ha)
            replace HI := Lib.hid (HI.out.below ha)
            replace HB := Lib.hid (chainC HB.out ha); clear ha
            have hor := HI.out
            unfold IRow at hor
            rw [leftsN_len] at hor
            have HI1 := Lib.hid hor; clear hor
            have hsl := HSnz.out
            go_wp2_with (at_builtin; refine wpList_append_own _ rfl _ _ 48 rfl w.heap.size 3 i1 (.int .i64 0) 1 8 Try.underlying48 hi hz0 hz1 hz2 rfl (by decide) _ _ _ rfl HI1.out ⟨w9.heap.size, 0, none⟩ 1 1 [.int .i64 ((ln : List UInt8).length : Int)] rfl ?qc1 ?qc2 ?qc3 ?qc4 ?qc5 ?qc6 ?_)
            case qc1 => rfl
            case qc2 =>
              intro q u hq
              first
              | (rw [Addr.add_lit, Nat.zero_add]; exact one_cell hn q u hq)
              | exact hq
            case qc3 => intro u hu; simp only [List.mem_singleton] at hu; subst hu; rfl
            case qc4 => exact Nat.le_trans (Nat.succ_le_of_lt hlt) (Nat.le_trans HL.out (by decide))
            case qc5 => exact Nat.le_trans (Nat.mul_le_mul_right 8 (Nat.le_trans (Nat.succ_le_of_lt hlt) HL.out)) (by decide)
            case qc6 => first | exact HB.out.size | (have h6 := HB.out.size; simpa using h6)
            intro v' w10 ho hgr _
            replace HO := Lib.hid (show FRow w10 w.heap.size _ _ from HO.out.kept hgr (rows_ne (by decide) HO.out HI1.out))
            replace HB := Lib.hid (pw_below_grown HB.out _ HB.out.size hgr (fun k hk => (HI1.out.lt k hk).1))
            have hr3 : IRow w10 w.heap.size v' (leftsN r0 ms (j + 1)) := by
              rw [HLf.out]
              exact IRow.more (by rw [leftsN_len]; exact ho)
            replace HI := Lib.hid hr3; clear hr3
            obtain ⟨za, zc, rfl⟩ := own_slice ho
            clear ho hgr hn HI1 hi hz0 hz1 hz2 i1 hsl
            go_wp2
            go_roundw
            case rel => exact ⟨j + 1, hlt, by rw [e3], by rw [HRn.out]; rw [HSn.out], by rw [HRn.out], HO.out, HI.out, HB.out⟩
            case measure => rw [e3]; simp only [RowKit.intOf, Int.toNat_natCast]; exact Nat.sub_lt_sub_left hlt (Nat.lt_succ_self j)
    · obtain rfl : j = ms.length := Nat.le_antisymm hj (Nat.le_of_not_lt hlt)
      rw [List.take_length]
      obtain ⟨oa, oc, rfl⟩ := HO.out.form
      obtain ⟨la, lc, rfl⟩ := own_slice HI.out
      go_wp2
      go_ret3
      exact ⟨_, _, rfl, HO.out, HI.out, HB.out⟩
end Go.Proofs.Ytdpnnokchmjflaa
