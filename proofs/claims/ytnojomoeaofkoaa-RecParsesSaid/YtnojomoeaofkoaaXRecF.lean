/- rec: first. No conditions beyond the form's own reach. -/
import Derived.Test.YtnojomoeaofkoaaXRecE
import Derived.Test.YtnojomoeaofkoaaPx1
import Derived.Lib.SlicesS
import Derived.Lib.BufferOwn
import Derived.Laws.DeepStrings4
namespace Go.Proofs.Ytnojomoeaofkoaa
open Go.RowKit Go.Lib Go.Proofs.Ytnojomoeaofkoaa.P Go.Proofs.Ytnojomoeaofkoaa.BeS Go.Proofs.Ytnojomoeaofkoaa.PoS Go.Proofs.YtnojomoeaofkoaaW.PrintWords Go.Proofs.YtnojomoeaofkoaaW.PrintLast Go.Proofs.YtnojomoeaofkoaaW.PrintMore
set_option linter.unusedVariables false
set_option linter.unusedSimpArgs false
def rg22_8.T : Bool × List (List Nat × List Nat) := (true, [([], []), ([], []), ([0, 1], [0, 1]), ([], []), ([], []), ([4], [4]), ([3, 5], [3, 5]), ([2, 6], [2, 6])])
def rg22_8.B : List Nat := [0, 0, 3, 0, 0, 16, 56, 127]
theorem rg22_8.tab : rtab .any (opsOf Try.f22 8) = rg22_8.T := by kernel_rfl
theorem rg22_8.bits : waitsOk rg22_8.T.2 rg22_8.B = true := by kernel_rfl
/-- The body's length that a record tells, and its kind. -/
def lenR (s : ByteArray) : Nat := getN (s.extract 0 2).data.toList
def kindR (s : ByteArray) : Nat := if h : 2 < s.size then (s[2]'h).toNat else 0
theorem kindR_lt (s : ByteArray) : kindR s < 256 := by
  unfold kindR
  split
  · exact UInt8.toNat_lt _
  · decide
theorem rec_size : (Try.prog.info? 38).map (·.size) = some 2 := by kernel_rfl
theorem lenR_lt (s : ByteArray) : lenR s < 65536 := by
  have h1 := getN_lt (s.extract 0 2).data.toList
  have h2 : (s.extract 0 2).data.toList.length ≤ 2 := by rw [Array.length_toList]; show (s.extract 0 2).size ≤ 2; rw [ByteArray.size_extract]; omega
  have h3 : 256 ^ (s.extract 0 2).data.toList.length ≤ 256 ^ 2 := Nat.pow_le_pow_right (by decide) h2
  have h4 : (256 : Nat) ^ 2 = 65536 := by decide
  unfold lenR
  omega
def noR : Rc := (0, ⟨#[]⟩)
def firstR (s : ByteArray) : Rc × Int :=
  if s.size < 7 then (noR, 4)
  else if 2048 < lenR s ∨ kindR s = 0 ∨ s.size < 7 + lenR s then (noR, 4)
  else if recB (kindR s) (s.extract 3 (3 + lenR s)) = s.extract 0 (7 + lenR s) then ((kindR s, s.extract 3 (3 + lenR s)), 0) else (noR, 5)
theorem rc_frozen {w : World} {b : Nat} {cs : Array Value} {T : TypeId} (h : w.heap[b]? = some (.cells cs T (0, 0))) (i : Nat) : w.frozen? ⟨b, i, none⟩ = false := by unfold World.frozen?; rw [h]; simp
theorem rc_set {w : World} {b : Nat} {u0 u1 : Value} {T : TypeId} (h : w.heap[b]? = some (.cells #[u0, u1] T (0, 0))) (v0 v1 : Value) : ((w.setCell ⟨b, 0, none⟩ v0).setCell ⟨b, 1, none⟩ v1).heap[b]? = some (.cells #[v0, v1] T (0, 0)) :=
  heap_setCell_same _ b 1 _ _ v1 (heap_setCell_same w b 0 _ _ v0 h)
theorem rc_set1 {w : World} {b : Nat} {u0 u1 : Value} {T : TypeId} (h : w.heap[b]? = some (.cells #[u0, u1] T (0, 0))) (v1 : Value) : (w.setCell ⟨b, 1, none⟩ v1).heap[b]? = some (.cells #[u0, v1] T (0, 0)) :=
  heap_setCell_same w b 1 _ _ v1 h
theorem rc_other {w : World} {b c i : Nat} {x : Obj} (h : w.heap[b]? = some x) (hne : b ≠ c) (v : Value) : (w.setCell ⟨c, i, none⟩ v).heap[b]? = some x :=
  ((Lib.grownBy_setCell w c i v).block b (blk_lt h) (fun e => hne (by cases e; rfl))).trans h
set_option maxHeartbeats 8000000 in
set_option maxRecDepth 100000 in
theorem first_ok (g : Nat) (s : ByteArray) (hs : s.size ≤ 100000) (w : World) (ht : TabAt w g) :
    Calls Try.prog 22 #[.pointer (some ⟨g, 0, none⟩), .string s] w fun e w' => e = .returned (.tuple #[.agg #[.int .u8 ((firstR s).1.1 : Int), .string (firstR s).1.2], .int .i64 (firstR s).2]) ∧ Below w.heap.size w w' := by
  have HT := Lib.hid ht; clear ht
  have HS := Lib.hid hs; clear hs
  by_cases h7 : s.size < 7
  · have c1 : decide ((s.size : Int) < 7) = true := decide_eq_true (by omega)
    have c2 : decide (s.size < 7) = true := decide_eq_true h7
    have HV := Lib.hid (show firstR s = (noR, 4) from if_pos h7)
    go_enter Try.func22, Try.ntmps22
    have hx := heap_alloc_new w (.cells #[.int .u8 0, .string { data := #[] }] 38)
    have hb := below_alloc (Below.refl w.heap.size w) (.cells #[.int .u8 0, .string { data := #[] }] 38)
    go_wp2
    refine bodyPost_ret (results_ct rfl _ _ w.heap.size 38 _ (0, 0) _ rfl hx Try.underlying38 rfl rec_size) rfl ?_
    exact ⟨by rw [HV.out]; rfl, hb⟩
  · have c1 : decide ((s.size : Int) < 7) = false := decide_eq_false (by omega)
    have c2 : decide (s.size < 7) = false := decide_eq_false h7
    have i2 : 2 < s.size := by omega
    have i3 : 2 ≤ s.size := by omega
    have hkr : (s[2]'i2).toNat = kindR s := by unfold kindR; rw [dif_pos i2]
    have HG := Lib.hid (show be_Get.f 20 (s.extract 0 2) = some ((lenR s : Nat) : Int) by
      have h1 := lenR_lt s
      rw [get_f _ (by rw [ByteArray.size_extract]; omega) 20 (by rw [ByteArray.size_extract]; omega)]
      unfold lenR at h1 ⊢
      rw [Nat.mod_eq_of_lt (by omega)])
    have HNl := Lib.hid (lenR_lt s)
    have HKl := Lib.hid (kindR_lt s)
    have HV := Lib.hid (show firstR s = _ from if_neg h7)
    have H7 := Lib.hid h7; clear h7
    have hx := blk_alloc (heap_alloc_new w (.cells #[.int .u8 0, .string { data := #[] }] 38)) (.cells #[.int .u8 (kindR s : Int), .string { data := #[] }] 38)
    have hy := heap_alloc_new (w.alloc (.cells #[.int .u8 0, .string { data := #[] }] 38)) (.cells #[.int .u8 (kindR s : Int), .string { data := #[] }] 38)
    rw [show (w.alloc (.cells #[.int .u8 0, .string { data := #[] }] 38)).heap.size = w.heap.size + 1 by simp] at hy
    have hb := below_alloc (below_alloc (Below.refl w.heap.size w) (.cells #[.int .u8 0, .string { data := #[] }] 38)) (.cells #[.int .u8 (kindR s : Int), .string { data := #[] }] 38)
    have HX := Lib.hid hx; clear hx
    have HY := Lib.hid hy; clear hy
    have HB := Lib.hid hb; clear hb
    go_enter Try.func22, Try.ntmps22
    go_wp2_with fail
    generalize (w.alloc (.cells #[.int .u8 0, .string { data := #[] }] 38)).alloc (.cells #[.int .u8 (kindR s : Int), .string { data := #[] }] 38) = w1 at HX HY HB ⊢
    clear hkr c1 c2
    generalize kindR s = k at HY HV HKl ⊢
    refine (be_Get.calls 20 (s.extract 0 2) _ w1 HG.out).mono ?_
    rintro e w2 ⟨rfl, hd⟩
    replace HX := Lib.hid (blk_below HX.out hd.below)
    replace HY := Lib.hid (blk_below HY.out hd.below)
    replace HB := Lib.hid (chainD HB.out hd); clear hd HG
    generalize lenR s = n at HV HNl ⊢
    have hw : wrap64 (n : Int) = (n : Int) := by have := HNl.out; unfold wrap64; omega
    have hw7 : wrap64 (7 + (n : Int)) = ((7 + n : Nat) : Int) := by have := HNl.out; unfold wrap64; omega
    have hw3 : wrap64 (3 + (n : Int)) = ((3 + n : Nat) : Int) := by have := HNl.out; unfold wrap64; omega
    obtain ⟨y0, y1⟩ := rc_cells (x := (k, ⟨#[]⟩)) HY.out
    simp only at y0 y1
    by_cases hn : 2048 < n
    · have d1 : decide (2048 < (n : Int)) = true := decide_eq_true (by omega)
      have d2 : decide (2048 < n) = true := decide_eq_true hn
      replace HV := HV.out.trans (if_pos (.inl hn))
      obtain ⟨x0, x1⟩ := rc_cells (x := (0, ⟨#[]⟩)) HX.out
      simp only at x0 x1
      have f0 := rc_frozen HX.out 0
      have f1 := rc_frozen HX.out 1
      have hx := rc_set HX.out (.int .u8 0) (.string { data := #[] })
      have hbl := (HB.out.setCell (p := ⟨w.heap.size, 0, none⟩) (Nat.le_refl _) (.int .u8 0)).setCell (p := ⟨w.heap.size, 1, none⟩) (Nat.le_refl _) (.string { data := #[] })
      go_wp2
      refine bodyPost_ret (results_ct rfl _ _ w.heap.size 38 _ (0, 0) _ rfl hx Try.underlying38 rfl rec_size) rfl ?_
      exact ⟨by rw [HV]; rfl, hbl⟩
    · have d1 : decide (2048 < (n : Int)) = false := decide_eq_false (by omega)
      have d2 : decide (2048 < n) = false := decide_eq_false hn
      go_wp2_with fail
      refine (rec_Record_Right.calls _ _ _ _ (right_f k ⟨#[]⟩)).mono ?_
      rintro e w3 ⟨rfl, hd⟩
      replace HX := Lib.hid (blk_below HX.out hd)
      replace HY := Lib.hid (blk_below HY.out hd)
      replace HB := Lib.hid (chain2 HB.out hd); clear hd
      by_cases hk : k = 0
      · replace HV := HV.out.trans (if_pos (.inr (.inl hk)))
        rw [show goodR (k, ⟨#[]⟩) = false by unfold goodR; rw [hk]; rfl]
        obtain ⟨x0, x1⟩ := rc_cells (x := (0, ⟨#[]⟩)) HX.out
        simp only at x0 x1
        have f0 := rc_frozen HX.out 0
        have f1 := rc_frozen HX.out 1
        have hx := rc_set HX.out (.int .u8 0) (.string { data := #[] })
        have hbl := (HB.out.setCell (p := ⟨w.heap.size, 0, none⟩) (Nat.le_refl _) (.int .u8 0)).setCell (p := ⟨w.heap.size, 1, none⟩) (Nat.le_refl _) (.string { data := #[] })
        go_wp2
        refine bodyPost_ret (results_ct rfl _ _ w.heap.size 38 _ (0, 0) _ rfl hx Try.underlying38 rfl rec_size) rfl ?_
        exact ⟨by rw [HV]; rfl, hbl⟩
      · rw [show goodR (k, ⟨#[]⟩) = true by unfold goodR; rw [decide_eq_true (show (k, (⟨#[]⟩ : ByteArray)).1 ≠ 0 from hk)]; rfl]
        by_cases hl : s.size < 7 + n
        · have l1 : decide ((s.size : Int) < ((7 + n : Nat) : Int)) = true := decide_eq_true (by omega)
          have l2 : decide (s.size < 7 + n) = true := decide_eq_true hl
          have l3 : decide ((s.size : Int) < 7 + (n : Int)) = true := decide_eq_true (by omega)
          replace HV := HV.out.trans (if_pos (.inr (.inr hl)))
          obtain ⟨x0, x1⟩ := rc_cells (x := (0, ⟨#[]⟩)) HX.out
          simp only at x0 x1
          have f0 := rc_frozen HX.out 0
          have f1 := rc_frozen HX.out 1
          have hx := rc_set HX.out (.int .u8 0) (.string { data := #[] })
          have hbl := (HB.out.setCell (p := ⟨w.heap.size, 0, none⟩) (Nat.le_refl _) (.int .u8 0)).setCell (p := ⟨w.heap.size, 1, none⟩) (Nat.le_refl _) (.string { data := #[] })
          go_wp2
          refine bodyPost_ret (results_ct rfl _ _ w.heap.size 38 _ (0, 0) _ rfl hx Try.underlying38 rfl rec_size) rfl ?_
          exact ⟨by rw [HV]; rfl, hbl⟩
        · have l1 : decide ((s.size : Int) < ((7 + n : Nat) : Int)) = false := decide_eq_false (by omega)
          have l2 : decide (s.size < 7 + n) = false := decide_eq_false hl
          have l3 : decide ((s.size : Int) < 7 + (n : Int)) = false := decide_eq_false (by omega)
          replace HV := Lib.hid (HV.out.trans (if_neg (fun h => h.elim hn (fun h => h.elim hk hl))))
          have l4 : (0 ≤ ((7 + n : Nat) : Int)) = True := eq_true (by omega)
          have l5 : (((7 + n : Nat) : Int) ≤ (s.size : Int)) = True := eq_true (by omega)
          have l6 : (7 + n ≤ s.size) = True := eq_true (by omega)
          have l7 : decide (7 + n ≤ s.size) = true := decide_eq_true (by omega)
          have l8 : (0 ≤ 7 + (n : Int)) = True := eq_true (by omega)
          have l9 : (7 + (n : Int) ≤ (s.size : Int)) = True := eq_true (by omega)
          have l10 : (7 + (n : Int)).toNat = 7 + n := by omega
          obtain ⟨body, hbody⟩ : ∃ body, s.extract 3 (3 + n) = body := ⟨_, rfl⟩
          obtain ⟨rb, hrb⟩ : ∃ rb, recB k body = rb := ⟨_, rfl⟩
          have HBz := Lib.hid (show body.size ≤ 4000 by rw [← hbody, ByteArray.size_extract]; omega)
          rw [hbody, hrb] at HV
          have HRb := Lib.hid hrb
          have f6 := rc_frozen HY.out 1
          obtain ⟨y0, y1⟩ := rc_cells (x := (k, ⟨#[]⟩)) HY.out
          simp only at y0 y1
          have hne : w.heap.size ≠ w.heap.size + 1 := Nat.ne_of_lt (Nat.lt_succ_self _)
          have hX4 := rc_other HX.out hne (i := 1) (.string body)
          have hY4 := rc_set1 HY.out (.string body)
          have hB4 := HB.out.setCell (p := ⟨w.heap.size + 1, 1, none⟩) (Nat.le_succ _) (.string body)
          replace HX := Lib.hid hX4; clear hX4
          replace HY := Lib.hid hY4; clear hY4
          replace HB := Lib.hid hB4; clear hB4
          clear hrb
          go_wp2_with fail
          generalize w3.setCell ⟨w.heap.size + 1, 1, none⟩ (.string body) = w4 at HX HY HB ⊢
          clear hbody
          generalize w.heap.size + 1 = b6 at HY ⊢
          clear y0 y1 f6 l1 l2 l3 hne
          replace HX := Lib.hid (show w4.drew.heap[w.heap.size]? = some (.cells #[.int .u8 0, .string { data := #[] }] 38 (0, 0)) from HX.out)
          replace HB := Lib.hid (show Below w.heap.size w w4.drew from below_drew1 HB.out)
          have hS := HY.out
          by_cases heq : rb = s.extract 0 (7 + n)
          · have hbe : (rb.toList == (s.extract 0 (7 + n)).toList) = true := (Lib.bytes_beq_iff rb (s.extract 0 (7 + n))).mpr heq
            replace HV := HV.out.trans (if_pos heq)
            refine start_ (n := 8) (S := fun w' => w'.heap[b6]? = some (.cells #[.int .u8 (k : Int), .string body] 38 (0, 0))) (ds := []) #[false, false, false, false, false, false, false, false] (by kernel_rfl) rfl rfl hS (fun hHeld => ?_)
            refine with_tabW rg22_8.tab rg22_8.bits (fun HT_ HW_ => ?_)
            generalize w4.drew = w' at HX HB hHeld ⊢
            refine pure_ (i := 1) (N := some 40) (v := ?_) (a' := ?_) #[false, true, false, false, false, false, false, false] rfl rfl (any_of HT_.out (by kernel_rfl)) (fun _ _ _ h => h) (Or.inl ⟨by rfl, ?_⟩) ?_ ?_
            rotate_left
            · intro w'
              go_simp
              try with_reducible rfl
            rotate_left
            · simp (maxSteps := 4000000) only [Act.put, List.setIfInBounds_toArray, List.set_cons_zero, List.set_cons_succ, i64_w, i32_w]
              try rfl
            refine pure_ (i := 3) (N := some 42) (v := ?_) (a' := ?_) #[false, true, false, true, false, false, false, false] rfl rfl (any_of HT_.out (by kernel_rfl)) (fun _ _ _ h => h) (Or.inl ⟨by rfl, ?_⟩) ?_ ?_
            rotate_left
            · intro w'
              go_simp
              try with_reducible rfl
            rotate_left
            · simp (maxSteps := 4000000) only [Act.put, List.setIfInBounds_toArray, List.set_cons_zero, List.set_cons_succ, i64_w, i32_w]
              try rfl
            refine pure_ (i := 4) (N := some 43) (v := ?_) (a' := ?_) #[false, true, false, true, true, false, false, false] rfl rfl (any_of HT_.out (by kernel_rfl)) (fun _ _ _ h => h) (Or.inl ⟨by rfl, ?_⟩) ?_ ?_
            rotate_left
            · intro w'
              go_simp
              try with_reducible rfl
            rotate_left
            · simp (maxSteps := 4000000) only [Act.put, List.setIfInBounds_toArray, List.set_cons_zero, List.set_cons_succ, i64_w, i32_w]
              try rfl
            refine pure_ (i := 5) (N := some 44) (v := ?_) (a' := ?_) #[false, true, false, true, true, true, false, false] rfl rfl (any_of HT_.out (by kernel_rfl)) (fun _ _ _ h => h) (Or.inl ⟨by rfl, ?_⟩) ?_ ?_
            rotate_left
            · intro w'
              go_simp
              try with_reducible rfl
            rotate_left
            · simp (maxSteps := 4000000) only [Act.put, List.setIfInBounds_toArray, List.set_cons_zero, List.set_cons_succ, i64_w, i32_w]
              try rfl
            refine pure_ (i := 6) (N := some 45) (v := ?_) (a' := ?_) #[false, true, false, true, true, true, true, false] rfl rfl (any_of HT_.out (by kernel_rfl)) (fun _ _ _ h => h) (Or.inl ⟨by rfl, ?_⟩) ?_ ?_
            rotate_left
            · intro w'
              go_simp
              try with_reducible rfl
            rotate_left
            · simp (maxSteps := 4000000) only [Act.put, List.setIfInBounds_toArray, List.set_cons_zero, List.set_cons_succ, i64_w, i32_w]
              try rfl
            refine take_ (i := 0) (N := some 39) (v := ?_) (a' := ?_) #[true, true, false, true, true, true, true, false] rfl rfl (take_ofW HT_.out HW_.out (by kernel_rfl)) (fun _ _ _ h => h) (Or.inl ⟨by rfl, ?_⟩) hHeld ?_ ?_
            rotate_left
            · intro w' hw_
              try dsimp only at hw_
              obtain ⟨g0, g1⟩ := rc_cells (x := (k, body)) hw_; simp only at g0 g1
              go_simp
              try with_reducible rfl
            rotate_left
            · simp (maxSteps := 4000000) only [Act.put, List.setIfInBounds_toArray, List.set_cons_zero, List.set_cons_succ, i64_w, i32_w]
              try rfl
            refine one_ (i := 2) (N := some 41) #[true, true, true, true, true, true, true, false] rfl rfl (one_of HT_.out (by kernel_rfl)) (by decide) (fun K hK => ?_)
            refine goes_ Try.func18 (by kernel_rfl) rfl #[(.agg #[.int .u8 (k : Int), .string body]), (.pointer (some ⟨g, 0, none⟩))] (by rfl) rfl rfl (by (try simp only [List.map_toArray, List.map_cons, List.map_nil]); first | done | rfl) ?_
            refine (rec_bytes k HKl.out body HBz.out g w' (HT.out.below HB.out)).mono ?_
            rintro e w' ⟨rfl, hd⟩
            refine ⟨_, rfl, ?_⟩
            have hSS := blk_below hHeld hd
            replace HX := Lib.hid (blk_below HX.out hd)
            replace HB := Lib.hid (chain2 HB.out hd)
            clear hd
            rw [HRb.out]
            refine hK.out _ _ (hSS) (fun hHeld => ?_)
            clear hK K
            refine norm_ (a' := ?_) ?_ ?_
            rotate_left
            · show Act.put _ (some 41) _ = _
              simp (maxSteps := 4000000) only [Act.put, List.setIfInBounds_toArray, List.set_cons_zero, List.set_cons_succ, i64_w, i32_w]
              try rfl
            refine pure_ (i := 7) (N := some 46) (v := ?_) (a' := ?_) #[true, true, true, true, true, true, true, true] rfl rfl (any_of HT_.out (by kernel_rfl)) (fun _ _ _ h => h) (Or.inl ⟨by rfl, ?_⟩) ?_ ?_
            rotate_left
            · intro w'
              go_simp
              try with_reducible rfl
            rotate_left
            · simp (maxSteps := 4000000) only [Act.put, List.setIfInBounds_toArray, List.set_cons_zero, List.set_cons_succ, i64_w, i32_w]
              try rfl
            refine done_ (done_of HT_.out (by kernel_rfl)) ?_
            obtain ⟨y0, y1⟩ := rc_cells (x := (k, body)) hSS
            simp only at y0 y1
            clear hbe l4 l5 l6 l7 l8 l9 l10
            obtain ⟨x0, x1⟩ := rc_cells (x := (0, ⟨#[]⟩)) HX.out
            simp only at x0 x1
            have f0 := rc_frozen HX.out 0
            have f1 := rc_frozen HX.out 1
            have hx := rc_set HX.out (.int .u8 (k : Int)) (.string body)
            have hbl := (HB.out.setCell (p := ⟨w.heap.size, 0, none⟩) (Nat.le_refl _) (.int .u8 (k : Int))).setCell (p := ⟨w.heap.size, 1, none⟩) (Nat.le_refl _) (.string body)
            go_wp2
            refine bodyPost_ret (results_ct rfl _ _ w.heap.size 38 _ (0, 0) _ rfl hx Try.underlying38 rfl rec_size) rfl ?_
            exact ⟨by rw [HV]; rfl, hbl⟩
          · have hbe : (rb.toList == (s.extract 0 (7 + n)).toList) = false := (Lib.bytes_beq_false_iff rb (s.extract 0 (7 + n))).mpr heq
            replace HV := HV.out.trans (if_neg heq)
            refine start_ (n := 8) (S := fun w' => w'.heap[b6]? = some (.cells #[.int .u8 (k : Int), .string body] 38 (0, 0))) (ds := []) #[false, false, false, false, false, false, false, false] (by kernel_rfl) rfl rfl hS (fun hHeld => ?_)
            refine with_tabW rg22_8.tab rg22_8.bits (fun HT_ HW_ => ?_)
            generalize w4.drew = w' at HX HB hHeld ⊢
            refine pure_ (i := 1) (N := some 40) (v := ?_) (a' := ?_) #[false, true, false, false, false, false, false, false] rfl rfl (any_of HT_.out (by kernel_rfl)) (fun _ _ _ h => h) (Or.inl ⟨by rfl, ?_⟩) ?_ ?_
            rotate_left
            · intro w'
              go_simp
              try with_reducible rfl
            rotate_left
            · simp (maxSteps := 4000000) only [Act.put, List.setIfInBounds_toArray, List.set_cons_zero, List.set_cons_succ, i64_w, i32_w]
              try rfl
            refine pure_ (i := 3) (N := some 42) (v := ?_) (a' := ?_) #[false, true, false, true, false, false, false, false] rfl rfl (any_of HT_.out (by kernel_rfl)) (fun _ _ _ h => h) (Or.inl ⟨by rfl, ?_⟩) ?_ ?_
            rotate_left
            · intro w'
              go_simp
              try with_reducible rfl
            rotate_left
            · simp (maxSteps := 4000000) only [Act.put, List.setIfInBounds_toArray, List.set_cons_zero, List.set_cons_succ, i64_w, i32_w]
              try rfl
            refine pure_ (i := 4) (N := some 43) (v := ?_) (a' := ?_) #[false, true, false, true, true, false, false, false] rfl rfl (any_of HT_.out (by kernel_rfl)) (fun _ _ _ h => h) (Or.inl ⟨by rfl, ?_⟩) ?_ ?_
            rotate_left
            · intro w'
              go_simp
              try with_reducible rfl
            rotate_left
            · simp (maxSteps := 4000000) only [Act.put, List.setIfInBounds_toArray, List.set_cons_zero, List.set_cons_succ, i64_w, i32_w]
              try rfl
            refine pure_ (i := 5) (N := some 44) (v := ?_) (a' := ?_) #[false, true, false, true, true, true, false, false] rfl rfl (any_of HT_.out (by kernel_rfl)) (fun _ _ _ h => h) (Or.inl ⟨by rfl, ?_⟩) ?_ ?_
            rotate_left
            · intro w'
              go_simp
              try with_reducible rfl
            rotate_left
            · simp (maxSteps := 4000000) only [Act.put, List.setIfInBounds_toArray, List.set_cons_zero, List.set_cons_succ, i64_w, i32_w]
              try rfl
            refine pure_ (i := 6) (N := some 45) (v := ?_) (a' := ?_) #[false, true, false, true, true, true, true, false] rfl rfl (any_of HT_.out (by kernel_rfl)) (fun _ _ _ h => h) (Or.inl ⟨by rfl, ?_⟩) ?_ ?_
            rotate_left
            · intro w'
              go_simp
              try with_reducible rfl
            rotate_left
            · simp (maxSteps := 4000000) only [Act.put, List.setIfInBounds_toArray, List.set_cons_zero, List.set_cons_succ, i64_w, i32_w]
              try rfl
            refine take_ (i := 0) (N := some 39) (v := ?_) (a' := ?_) #[true, true, false, true, true, true, true, false] rfl rfl (take_ofW HT_.out HW_.out (by kernel_rfl)) (fun _ _ _ h => h) (Or.inl ⟨by rfl, ?_⟩) hHeld ?_ ?_
            rotate_left
            · intro w' hw_
              try dsimp only at hw_
              obtain ⟨g0, g1⟩ := rc_cells (x := (k, body)) hw_; simp only at g0 g1
              go_simp
              try with_reducible rfl
            rotate_left
            · simp (maxSteps := 4000000) only [Act.put, List.setIfInBounds_toArray, List.set_cons_zero, List.set_cons_succ, i64_w, i32_w]
              try rfl
            refine one_ (i := 2) (N := some 41) #[true, true, true, true, true, true, true, false] rfl rfl (one_of HT_.out (by kernel_rfl)) (by decide) (fun K hK => ?_)
            refine goes_ Try.func18 (by kernel_rfl) rfl #[(.agg #[.int .u8 (k : Int), .string body]), (.pointer (some ⟨g, 0, none⟩))] (by rfl) rfl rfl (by (try simp only [List.map_toArray, List.map_cons, List.map_nil]); first | done | rfl) ?_
            refine (rec_bytes k HKl.out body HBz.out g w' (HT.out.below HB.out)).mono ?_
            rintro e w' ⟨rfl, hd⟩
            refine ⟨_, rfl, ?_⟩
            have hSS := blk_below hHeld hd
            replace HX := Lib.hid (blk_below HX.out hd)
            replace HB := Lib.hid (chain2 HB.out hd)
            clear hd
            rw [HRb.out]
            refine hK.out _ _ (hSS) (fun hHeld => ?_)
            clear hK K
            refine norm_ (a' := ?_) ?_ ?_
            rotate_left
            · show Act.put _ (some 41) _ = _
              simp (maxSteps := 4000000) only [Act.put, List.setIfInBounds_toArray, List.set_cons_zero, List.set_cons_succ, i64_w, i32_w]
              try rfl
            refine pure_ (i := 7) (N := some 46) (v := ?_) (a' := ?_) #[true, true, true, true, true, true, true, true] rfl rfl (any_of HT_.out (by kernel_rfl)) (fun _ _ _ h => h) (Or.inl ⟨by rfl, ?_⟩) ?_ ?_
            rotate_left
            · intro w'
              go_simp
              try with_reducible rfl
            rotate_left
            · simp (maxSteps := 4000000) only [Act.put, List.setIfInBounds_toArray, List.set_cons_zero, List.set_cons_succ, i64_w, i32_w]
              try rfl
            refine done_ (done_of HT_.out (by kernel_rfl)) ?_
            clear hbe l4 l5 l6 l7 l8 l9 l10
            obtain ⟨x0, x1⟩ := rc_cells (x := (0, ⟨#[]⟩)) HX.out
            simp only at x0 x1
            have f0 := rc_frozen HX.out 0
            have f1 := rc_frozen HX.out 1
            have hx := rc_set HX.out (.int .u8 0) (.string { data := #[] })
            have hbl := (HB.out.setCell (p := ⟨w.heap.size, 0, none⟩) (Nat.le_refl _) (.int .u8 0)).setCell (p := ⟨w.heap.size, 1, none⟩) (Nat.le_refl _) (.string { data := #[] })
            go_wp2
            refine bodyPost_ret (results_ct rfl _ _ w.heap.size 38 _ (0, 0) _ rfl hx Try.underlying38 rfl rec_size) rfl ?_
            exact ⟨by rw [HV]; rfl, hbl⟩
end Go.Proofs.Ytnojomoeaofkoaa
