/- TagBytes: the bytes of every tag, and the tag of every bytes, are the document's. No conditions beyond the form's own reach. -/
import Derived.Test.YtfomgljhcegjdaaXTagRefP
import Derived.Test.YtfomgljhcegjdaaXStr
namespace Go.Proofs.Ytfomgljhcegjdaa
open Go.RowKit Go.Lib Go.Proofs.Ytfomgljhcegjdaa.P Go.Proofs.Ytfomgljhcegjdaa.BeS Go.Proofs.Ytfomgljhcegjdaa.PoS Go.Proofs.YtfomgljhcegjdaaW.PrintWords Go.Proofs.YtfomgljhcegjdaaW.PrintLast Go.Proofs.YtfomgljhcegjdaaW.PrintMore
set_option linter.unusedVariables false
set_option linter.unusedSimpArgs false
def rg3_1.T : Bool × List (List Nat × List Nat) := (true, [([], []), ([], []), ([1], [1]), ([2], [2]), ([0, 3], [0, 3]), ([], []), ([], []), ([6], [6]), ([7], [7]), ([5, 8], [5, 8]), ([4, 0, 1, 2, 3, 4], [0, 1, 4]), ([9, 10, 0, 1, 2, 3, 4, 5, 6, 7, 8, 9, 10], [5, 6, 9])])
def rg3_1.B : List Nat := [0, 0, 2, 6, 15, 0, 0, 64, 192, 480, 31, 2047]
theorem rg3_1.tab : rtab .any (opsOf Try.f3 1) = rg3_1.T := by kernel_rfl
theorem rg3_1.bits : waitsOk rg3_1.T.2 rg3_1.B = true := by kernel_rfl
def rg3_3.T : Bool × List (List Nat × List Nat) := (true, [([], []), ([], []), ([1], [1]), ([0, 2], [0, 2]), ([3], [3]), ([], [])])
def rg3_3.B : List Nat := [0, 0, 2, 7, 15, 0]
theorem rg3_3.tab : rtab .any (opsOf Try.f3 3) = rg3_3.T := by kernel_rfl
theorem rg3_3.bits : waitsOk rg3_3.T.2 rg3_3.B = true := by kernel_rfl
def rg3_8.T : Bool × List (List Nat × List Nat) := (true, [([], []), ([], []), ([0, 1], [0, 1]), ([2], [2]), ([3], [3]), ([3], [3]), ([4, 5, 3], [3, 4, 5]), ([3, 6], [3, 6]), ([7, 3], [7]), ([8], [8]), ([9, 8, 8], [8, 9]), ([10, 10, 8], [8, 10]), ([8], [8]), ([12, 11, 8], [8, 12]), ([11, 13, 8], [8, 11, 13]), ([8, 14], [8, 14])])
def rg3_8.B : List Nat := [0, 0, 3, 7, 15, 15, 63, 127, 255, 511, 1023, 2047, 511, 8191, 16383, 32767]
theorem rg3_8.tab : rtab .any (opsOf Try.f3 8) = rg3_8.T := by kernel_rfl
theorem rg3_8.bits : waitsOk rg3_8.T.2 rg3_8.B = true := by kernel_rfl
def rg3_15.T : Bool × List (List Nat × List Nat) := (true, [([], []), ([], []), ([0, 1], [0, 1]), ([2], [2]), ([3], [3]), ([3], [3]), ([5, 3, 3], [3, 5]), ([4, 6, 3], [3, 4, 6]), ([3, 7], [3, 7])])
def rg3_15.B : List Nat := [0, 0, 3, 7, 15, 15, 47, 127, 255]
theorem rg3_15.tab : rtab .any (opsOf Try.f3 15) = rg3_15.T := by kernel_rfl
theorem rg3_15.bits : waitsOk rg3_15.T.2 rg3_15.B = true := by kernel_rfl
def tgC (t : Tg) : List Value := [.int .u8 (t.kind : Int), .int .i64 t.log, .int .u64 (t.seq : Int), .int .i64 t.pos, .int .i64 t.len]
def TwoT (w : World) (g : Nat) (x y : Tg) : Prop := w.heap[g]? = some (.cells #[.int .u8 (x.kind : Int), .int .i64 x.log, .int .u64 (x.seq : Int), .int .i64 x.pos, .int .i64 x.len, .int .u8 (y.kind : Int), .int .i64 y.log, .int .u64 (y.seq : Int), .int .i64 y.pos, .int .i64 y.len] 24 (0, 0))
theorem two_tags {w : World} {g : Nat} {x y : Tg} (h : TwoT w g x y) (hx : x.Ok) (hy : y.Ok) (j : Nat) (hj : j < 2) : ∃ t : Tg, t.Ok ∧ w.cell? ⟨g, j * 5, none⟩ = some (.int .u8 (t.kind : Int)) ∧ w.cell? ⟨g, j * 5 + 1, none⟩ = some (.int .i64 t.log) ∧ w.cell? ⟨g, j * 5 + 2, none⟩ = some (.int .u64 (t.seq : Int)) ∧ w.cell? ⟨g, j * 5 + 3, none⟩ = some (.int .i64 t.pos) ∧ w.cell? ⟨g, j * 5 + 4, none⟩ = some (.int .i64 t.len) := by
  unfold TwoT at h
  unfold World.cell?
  rw [h]
  match j, hj with
  | 0, _ => exact ⟨x, hx, rfl, rfl, rfl, rfl, rfl⟩
  | 1, _ => exact ⟨y, hy, rfl, rfl, rfl, rfl, rfl⟩
theorem three_strs {w : World} {b T : Nat} {x y z : ByteArray} (h : w.heap[b]? = some (.cells #[.string x, .string y, .string z] T (0, 0))) (hx : x.size ≤ 100) (hy : y.size ≤ 100) (hz : z.size ≤ 100) (j : Nat) (hj : j < 3) : ∃ s : ByteArray, s.size ≤ 100 ∧ w.cell? ⟨b, j, none⟩ = some (.string s) := by
  match j, hj with
  | 0, _ => exact ⟨x, hx, by unfold World.cell?; rw [h]; rfl⟩
  | 1, _ => exact ⟨y, hy, by unfold World.cell?; rw [h]; rfl⟩
  | 2, _ => exact ⟨z, hz, by unfold World.cell?; rw [h]; rfl⟩
theorem frV_len (t : Tg) (d : List UInt8) : (frV t d).1.length ≤ 32 := by
  unfold frV
  split
  · rw [frameT_len]; exact Nat.le_refl _
  · simp
theorem rright_ok (t : Tg) (w : World) : Calls Try.prog 13 #[tgV t] w fun e w' => e = .returned (.bool t.right) ∧ Below w.heap.size w w' := by
  refine (tillrollref06_Right.calls _ _ _ _ _ _ w (rright_f t)).mono ?_
  rintro e w' ⟨rfl, hb⟩
  exact ⟨rfl, by first | exact hb | exact hb.below⟩
theorem of_raw (pk : Nat) (pl : Int) (ps : Nat) (pp pn : Int) (w : World) : Calls Try.prog 10 #[.agg #[.int .u8 (pk : Int), .int .i64 pl, .int .u64 (ps : Int), .int .i64 pp, .int .i64 pn]] w fun e w' => e = .returned (.agg #[.int .u8 (pk : Int), .int .i64 pl, .int .u64 (ps : Int), .int .i64 pp, .int .i64 pn]) ∧ Below w.heap.size w w' := of_ok ⟨pk, pl, ps, pp, pn⟩ w
theorem right_ok (t : Tg) (w : World) : Calls Try.prog 12 #[tgV t] w fun e w' => e = .returned (.bool t.right) ∧ Below w.heap.size w w' := by
  refine (tag_Tag_Right.calls _ _ _ _ _ _ w (right_f t)).mono ?_
  rintro e w' ⟨rfl, hb⟩
  exact ⟨rfl, by first | exact hb | exact hb.below⟩
set_option maxHeartbeats 16000000 in
set_option maxRecDepth 100000 in
theorem tagBytes_walk (x : Tg) (hx : x.Ok) (d b : ByteArray) (hd0 : d.size ≤ 140737488351232) (hb0 : b.size ≤ 140737488351232) (w : World) :
    Calls Try.prog 3 #[tgV x, .string d, .string b] w fun e w' => e = .returned (.bool true) ∧ Below w.heap.size w w' := by
  have HO := Lib.hid hx; clear hx
  obtain ⟨N, hN, hN1, hN2, hN3, hN4⟩ : ∃ N : Nat, (if 200 < (d.size : Int) then 200 else (d.size : Int)) = (N : Int) ∧ N ≤ d.size ∧ N ≤ 200 ∧ N ≤ d.size ∧ min 200 d.size = N := ⟨min 200 d.size, by split <;> omega, by omega, by omega, by omega, rfl⟩
  have c1 : (0 ≤ (N : Int)) = True := eq_true (by omega)
  have c2 : ((N : Int) ≤ (d.size : Int)) = True := eq_true (by omega)
  have c3 : (N ≤ d.size) = True := eq_true hN3
  have c4 : decide (N ≤ d.size) = true := decide_eq_true hN3
  have hNm : min (d.size : Int) 200 = (N : Int) := by rw [← hN]; split <;> omega
  obtain ⟨M, hNb, hN1b, hN2b, hN3b, hN4b⟩ : ∃ N : Nat, (if 40 < (b.size : Int) then 40 else (b.size : Int)) = (N : Int) ∧ N ≤ b.size ∧ N ≤ 40 ∧ N ≤ b.size ∧ min 40 b.size = N := ⟨min 40 b.size, by split <;> omega, by omega, by omega, by omega, rfl⟩
  have c1b : (0 ≤ (M : Int)) = True := eq_true (by omega)
  have c2b : ((M : Int) ≤ (b.size : Int)) = True := eq_true (by omega)
  have c3b : (M ≤ b.size) = True := eq_true hN3b
  have c4b : decide (M ≤ b.size) = true := decide_eq_true hN3b
  have hNmb : min (b.size : Int) 40 = (M : Int) := by rw [← hNb]; split <;> omega
  have HN := Lib.hid (And.intro (And.intro hN1 hN2) (And.intro hN1b hN2b)); clear hN1 hN2 hN3 hN4 hN1b hN2b hN3b hN4b hd0 hb0
  have hz := make_zero
  have HX := Lib.hid (TgAt.new w 24 x)
  have HB := Lib.hid (below_alloc (Below.refl w.heap.size w) (.cells #[.int .u8 (x.kind : Int), .int .i64 x.log, .int .u64 (x.seq : Int), .int .i64 x.pos, .int .i64 x.len] 24))
  unfold tgV
  go_enter Try.func3, Try.ntmps3
  go_wp2_with fail
  generalize w.alloc (.cells #[.int .u8 (x.kind : Int), .int .i64 x.log, .int .u64 (x.seq : Int), .int .i64 x.pos, .int .i64 x.len] 24) = w0 at HX HB ⊢
  obtain ⟨bx, hbx⟩ : ∃ bx, bx = w.heap.size := ⟨_, rfl⟩
  rw [← hbx] at HX ⊢
  clear hbx
  replace HX := Lib.hid (show TgAt w0.drew bx 24 x from HX.out)
  replace HB := Lib.hid (show Below w.heap.size w w0.drew from below_drew1 HB.out)
  refine start_ (n := 12) (S := fun _ => True) (ds := []) #[false, false, false, false, false, false, false, false, false, false, false, false] (by kernel_rfl) rfl rfl trivial (fun hHeld => ?_)
  refine with_tabW rg3_1.tab rg3_1.bits (fun HT_ HW_ => ?_)
  generalize w0.drew = w' at HX HB ⊢
  refine pure_ (i := 0) (N := some 24) (v := ?_) (a' := ?_) #[true, false, false, false, false, false, false, false, false, false, false, false] rfl rfl (any_of HT_.out (by kernel_rfl)) (fun _ _ _ h => h) (Or.inl ⟨by rfl, ?_⟩) ?_ ?_
  rotate_left
  · intro w'
    go_simp
    try with_reducible rfl
  rotate_left
  · simp (maxSteps := 4000000) only [Act.put, List.setIfInBounds_toArray, List.set_cons_zero, List.set_cons_succ, i64_w, i32_w]
    try rfl
  refine pure_ (i := 1) (N := some 25) (v := ?_) (a' := ?_) #[true, true, false, false, false, false, false, false, false, false, false, false] rfl rfl (any_of HT_.out (by kernel_rfl)) (fun _ _ _ h => h) (Or.inl ⟨by rfl, ?_⟩) ?_ ?_
  rotate_left
  · intro w'
    go_simp
    try with_reducible rfl
  rotate_left
  · simp (maxSteps := 4000000) only [Act.put, List.setIfInBounds_toArray, List.set_cons_zero, List.set_cons_succ, i64_w, i32_w]
    try rfl
  refine pure_ (i := 2) (N := some 26) (v := ?_) (a' := ?_) #[true, true, true, false, false, false, false, false, false, false, false, false] rfl rfl (any_of HT_.out (by kernel_rfl)) (fun _ _ _ h => h) (Or.inl ⟨by rfl, ?_⟩) ?_ ?_
  rotate_left
  · intro w'
    go_simp
    try with_reducible rfl
  rotate_left
  · simp (maxSteps := 4000000) only [Act.put, List.setIfInBounds_toArray, List.set_cons_zero, List.set_cons_succ, i64_w, i32_w]
    try rfl
  refine pure_ (i := 3) (N := some 27) (v := ?_) (a' := ?_) #[true, true, true, true, false, false, false, false, false, false, false, false] rfl rfl (any_of HT_.out (by kernel_rfl)) (fun _ _ _ h => h) (Or.inl ⟨by rfl, ?_⟩) ?_ ?_
  rotate_left
  · intro w'
    go_simp
    try with_reducible rfl
  rotate_left
  · simp (maxSteps := 4000000) only [Act.put, List.setIfInBounds_toArray, List.set_cons_zero, List.set_cons_succ, i64_w, i32_w]
    try rfl
  refine pure_ (i := 4) (N := some 28) (v := ?_) (a' := ?_) #[true, true, true, true, true, false, false, false, false, false, false, false] rfl rfl (any_of HT_.out (by kernel_rfl)) (fun _ _ _ h => h) (Or.inl ⟨by rfl, ?_⟩) ?_ ?_
  rotate_left
  · intro w'
    go_simp
    try with_reducible rfl
  rotate_left
  · simp (maxSteps := 4000000) only [Act.put, List.setIfInBounds_toArray, List.set_cons_zero, List.set_cons_succ, i64_w, i32_w]
    try rfl
  refine pure_ (i := 5) (N := some 29) (v := ?_) (a' := ?_) #[true, true, true, true, true, true, false, false, false, false, false, false] rfl rfl (any_of HT_.out (by kernel_rfl)) (fun _ _ _ h => h) (Or.inl ⟨by rfl, ?_⟩) ?_ ?_
  rotate_left
  · intro w'
    go_simp
    try with_reducible rfl
  rotate_left
  · simp (maxSteps := 4000000) only [Act.put, List.setIfInBounds_toArray, List.set_cons_zero, List.set_cons_succ, i64_w, i32_w]
    try rfl
  refine pure_ (i := 6) (N := some 30) (v := ?_) (a' := ?_) #[true, true, true, true, true, true, true, false, false, false, false, false] rfl rfl (any_of HT_.out (by kernel_rfl)) (fun _ _ _ h => h) (Or.inl ⟨by rfl, ?_⟩) ?_ ?_
  rotate_left
  · intro w'
    go_simp
    try with_reducible rfl
  rotate_left
  · simp (maxSteps := 4000000) only [Act.put, List.setIfInBounds_toArray, List.set_cons_zero, List.set_cons_succ, i64_w, i32_w]
    try rfl
  refine pure_ (i := 7) (N := some 31) (v := ?_) (a' := ?_) #[true, true, true, true, true, true, true, true, false, false, false, false] rfl rfl (any_of HT_.out (by kernel_rfl)) (fun _ _ _ h => h) (Or.inl ⟨by rfl, ?_⟩) ?_ ?_
  rotate_left
  · intro w'
    go_simp
    try with_reducible rfl
  rotate_left
  · simp (maxSteps := 4000000) only [Act.put, List.setIfInBounds_toArray, List.set_cons_zero, List.set_cons_succ, i64_w, i32_w]
    try rfl
  refine pure_ (i := 8) (N := some 32) (v := ?_) (a' := ?_) #[true, true, true, true, true, true, true, true, true, false, false, false] rfl rfl (any_of HT_.out (by kernel_rfl)) (fun _ _ _ h => h) (Or.inl ⟨by rfl, ?_⟩) ?_ ?_
  rotate_left
  · intro w'
    go_simp
    try with_reducible rfl
  rotate_left
  · simp (maxSteps := 4000000) only [Act.put, List.setIfInBounds_toArray, List.set_cons_zero, List.set_cons_succ, i64_w, i32_w]
    try rfl
  refine pure_ (i := 9) (N := some 33) (v := ?_) (a' := ?_) #[true, true, true, true, true, true, true, true, true, true, false, false] rfl rfl (any_of HT_.out (by kernel_rfl)) (fun _ _ _ h => h) (Or.inl ⟨by rfl, ?_⟩) ?_ ?_
  rotate_left
  · intro w'
    go_simp
    try with_reducible rfl
  rotate_left
  · simp (maxSteps := 4000000) only [Act.put, List.setIfInBounds_toArray, List.set_cons_zero, List.set_cons_succ, i64_w, i32_w]
    try rfl
  refine pure_ (i := 10) (N := some 1) (v := ?_) (a' := ?_) #[true, true, true, true, true, true, true, true, true, true, true, false] rfl rfl (any_of HT_.out (by kernel_rfl)) (fun _ _ _ h => h) (Or.inl ⟨by rfl, ?_⟩) ?_ ?_
  rotate_left
  · intro w'
    go_simp
    try with_reducible rfl
  rotate_left
  · simp (maxSteps := 4000000) only [Act.put, List.setIfInBounds_toArray, List.set_cons_zero, List.set_cons_succ, i64_w, i32_w]
    try rfl
  refine pure_ (i := 11) (N := some 2) (v := ?_) (a' := ?_) #[true, true, true, true, true, true, true, true, true, true, true, true] rfl rfl (any_of HT_.out (by kernel_rfl)) (fun _ _ _ h => h) (Or.inl ⟨by rfl, ?_⟩) ?_ ?_
  rotate_left
  · intro w'
    go_simp
    try with_reducible rfl
  rotate_left
  · simp (maxSteps := 4000000) only [Act.put, List.setIfInBounds_toArray, List.set_cons_zero, List.set_cons_succ, i64_w, i32_w]
    try rfl
  refine done_ (done_of HT_.out (by kernel_rfl)) ?_
  clear hN hNm c1 c2 c3 c4 hNb hNmb c1b c2b c3b c4b
  obtain ⟨dd, hdd⟩ : ∃ dd, dd = d.extract 0 N := ⟨_, rfl⟩
  obtain ⟨bb, hbb⟩ : ∃ bb, bb = b.extract 0 M := ⟨_, rfl⟩
  rw [← hdd, ← hbb]
  have HDd := Lib.hid (show dd.size ≤ 200 ∧ bb.size ≤ 40 by rw [hdd, hbb, ByteArray.size_extract, ByteArray.size_extract]; have := HN.out; omega)
  clear hdd hbb HN
  go_wp2_with fail
  refine (poly_Make.calls _).mono ?_
  rintro e w1 ⟨rfl, hd⟩
  replace HX := Lib.hid (HX.out.below hd)
  replace HB := Lib.hid (chain2 HB.out hd); clear hd
  go_wp2_with (refine wpList_store_row rfl 27 _ _ rfl w1.heap.size (tabCells 256) rfl rfl 27 (tabCells 0) (heap_alloc_new w1 _) make_info (by rw [tabCells_size, tabCells_size]) (tabCells_one _) ?_)
  clear hz
  have hd : Below w1.heap.size w1 ((w1.alloc (.cells (tabCells 0) 27)).setRow w1.heap.size (tabCells 256)) := below_setRow (below_alloc (Below.refl w1.heap.size w1) _) (Nat.le_refl _) _
  have hT := (made_facts (Below.refl w1.heap.size w1) _ rfl).1
  replace HX := Lib.hid (HX.out.below hd)
  replace HB := Lib.hid (chain2 HB.out hd); clear hd
  generalize (w1.alloc (.cells (tabCells 0) 27)).setRow w1.heap.size (tabCells 256) = w2 at HX HB hT ⊢
  generalize w1.heap.size = gp at hT ⊢
  have HT := Lib.hid hT; clear hT
  go_wp2_with fail
  have hS : TgAt w2.drew bx 24 x := HX.out
  replace HT := Lib.hid (show TabAt w2.drew gp from HT.out)
  replace HB := Lib.hid (show Below w.heap.size w w2.drew from below_drew1 HB.out)
  clear HX
  have HOt := Lib.hid (show (tameT x).Ok from ⟨tame_kind x, HO.out.seq⟩)
  refine start_ (n := 6) (S := fun w' => TgAt w' bx 24 x) (ds := []) #[false, false, false, false, false, false] (by kernel_rfl) rfl rfl hS (fun hHeld => ?_)
  refine with_tabW rg3_3.tab rg3_3.bits (fun HT_ HW_ => ?_)
  generalize w2.drew = w' at HT HB hHeld ⊢
  refine pure_ (i := 5) (N := some 40) (v := ?_) (a' := ?_) #[false, false, false, false, false, true] rfl rfl (any_of HT_.out (by kernel_rfl)) (fun _ _ _ h => h) (Or.inl ⟨by rfl, ?_⟩) ?_ ?_
  rotate_left
  · intro w'
    go_simp
    try with_reducible rfl
  rotate_left
  · simp (maxSteps := 4000000) only [Act.put, List.setIfInBounds_toArray, List.set_cons_zero, List.set_cons_succ, i64_w, i32_w]
    try rfl
  refine take_ (i := 0) (N := some 35) (v := ?_) (a' := ?_) #[true, false, false, false, false, true] rfl rfl (take_ofW HT_.out HW_.out (by kernel_rfl)) (fun _ _ _ h => h) (Or.inl ⟨by rfl, ?_⟩) hHeld ?_ ?_
  rotate_left
  · intro w' hw_
    try dsimp only at hw_
    obtain ⟨x0, x1, x2, x3, x4⟩ := tg_cells hw_
    go_simp
    try with_reducible rfl
  rotate_left
  · simp (maxSteps := 4000000) only [Act.put, List.setIfInBounds_toArray, List.set_cons_zero, List.set_cons_succ, i64_w, i32_w]
    try rfl
  refine take_ (i := 1) (N := some 36) (v := ?_) (a' := ?_) #[true, true, false, false, false, true] rfl rfl (take_ofW HT_.out HW_.out (by kernel_rfl)) (fun _ _ _ h => h) (Or.inl ⟨by rfl, ?_⟩) hHeld ?_ ?_
  rotate_left
  · intro w' hw_
    try dsimp only at hw_
    obtain ⟨x0, x1, x2, x3, x4⟩ := tg_cells hw_
    go_simp
    try with_reducible rfl
  rotate_left
  · simp (maxSteps := 4000000) only [Act.put, List.setIfInBounds_toArray, List.set_cons_zero, List.set_cons_succ, i64_w, i32_w]
    try rfl
  refine one_ (i := 2) (N := some 37) #[true, true, true, false, false, true] rfl rfl (one_of HT_.out (by kernel_rfl)) (by decide) (fun K hK => ?_)
  refine goes_ Try.func8 (by kernel_rfl) rfl #[(tgV x)] (by rfl) rfl rfl (by (try simp only [List.map_toArray, List.map_cons, List.map_nil]); first | done | rfl) ?_
  refine (tame_ok x HO.out.kind _).mono ?_
  rintro e w' ⟨rfl, hd⟩
  refine ⟨_, rfl, ?_⟩
  have hSS := hHeld.below hd
  replace HT := Lib.hid (HT.out.below hd)
  replace HB := Lib.hid (chain2 HB.out hd)
  clear hd
  refine hK.out _ _ (hSS) (fun hHeld => ?_)
  clear hK K
  refine norm_ (a' := ?_) ?_ ?_
  rotate_left
  · show Act.put _ (some 37) _ = _
    simp (maxSteps := 4000000) only [Act.put, List.setIfInBounds_toArray, List.set_cons_zero, List.set_cons_succ, i64_w, i32_w]
    try rfl
  refine one_ (i := 3) (N := some 38) #[true, true, true, true, false, true] rfl rfl (one_of HT_.out (by kernel_rfl)) (by decide) (fun K hK => ?_)
  refine value_ (v := (.slice (some ⟨w'.heap.size, 0, none⟩) 2 2)) (w1 := w'.alloc (.cells #[.int .u8 (x.kind : Int), .int .i64 x.log, .int .u64 (x.seq : Int), .int .i64 x.pos, .int .i64 x.len, .int .u8 ((tameT x).kind : Int), .int .i64 (tameT x).log, .int .u64 ((tameT x).seq : Int), .int .i64 (tameT x).pos, .int .i64 (tameT x).len] 24)) (by rfl) rfl ?_ ?_
  · (unfold tgV; go_simp)
  have HS2 := Lib.hid (heap_alloc_new w' (.cells #[.int .u8 (x.kind : Int), .int .i64 x.log, .int .u64 (x.seq : Int), .int .i64 x.pos, .int .i64 x.len, .int .u8 ((tameT x).kind : Int), .int .i64 (tameT x).log, .int .u64 ((tameT x).seq : Int), .int .i64 (tameT x).pos, .int .i64 (tameT x).len] 24))
  have hd := below_alloc (Below.refl w'.heap.size w') (.cells #[.int .u8 (x.kind : Int), .int .i64 x.log, .int .u64 (x.seq : Int), .int .i64 x.pos, .int .i64 x.len, .int .u8 ((tameT x).kind : Int), .int .i64 (tameT x).log, .int .u64 ((tameT x).seq : Int), .int .i64 (tameT x).pos, .int .i64 (tameT x).len] 24)
  have hSS := hHeld.below hd
  replace HT := Lib.hid (HT.out.below hd)
  replace HB := Lib.hid (chain2 HB.out hd)
  clear hd
  generalize w'.heap.size = gs at HS2 ⊢
  generalize w'.alloc (.cells #[.int .u8 (x.kind : Int), .int .i64 x.log, .int .u64 (x.seq : Int), .int .i64 x.pos, .int .i64 x.len, .int .u8 ((tameT x).kind : Int), .int .i64 (tameT x).log, .int .u64 ((tameT x).seq : Int), .int .i64 (tameT x).pos, .int .i64 (tameT x).len] 24) = w' at HT HB HS2 hSS ⊢
  refine hK.out _ _ (hSS) (fun hHeld => ?_)
  clear hK K
  refine norm_ (a' := ?_) ?_ ?_
  rotate_left
  · show Act.put _ (some 38) _ = _
    simp (maxSteps := 4000000) only [Act.put, List.setIfInBounds_toArray, List.set_cons_zero, List.set_cons_succ, i64_w, i32_w]
    try rfl
  refine pure_ (i := 4) (N := some 39) (v := ?_) (a' := ?_) #[true, true, true, true, true, true] rfl rfl (any_of HT_.out (by kernel_rfl)) (fun _ _ _ h => h) (Or.inl ⟨by rfl, ?_⟩) ?_ ?_
  rotate_left
  · intro w'
    go_simp
    try with_reducible rfl
  rotate_left
  · simp (maxSteps := 4000000) only [Act.put, List.setIfInBounds_toArray, List.set_cons_zero, List.set_cons_succ, i64_w, i32_w]
    try rfl
  refine done_ (done_of HT_.out (by kernel_rfl)) ?_
  generalize tameT x = ty at HOt HS2 ⊢
  clear hS hHeld
  have HX := Lib.hid hSS; clear hSS
  unfold tgV
  generalize w' = wL at HX HB HS2 HT ⊢
  go_wp2_with fail
  go_loopw [40] (fun i wr => ∃ j : Nat, j ≤ 2 ∧ i = .int .i64 (j : Int) ∧ Below wL.heap.size wL wr) (fun i _ => 2 - (RowKit.intOf i).toNat)
  case atStart => exact ⟨0, Nat.zero_le _, rfl, Below.refl _ _⟩
  case round =>
    obtain ⟨j, hj, rfl, h2⟩ := hrel
    have HD := Lib.hid h2; clear h2
    by_cases hlt : j < 2
    · have e3 : wrap64 ((j : Int) + 1) = ((j + 1 : Nat) : Int) := by unfold wrap64; omega
      obtain ⟨t, hto, k0, k1, k2, k3, k4⟩ := two_tags (blk_below HS2.out HD.out) HO.out HOt.out j hlt
      have HTo := Lib.hid hto; clear hto
      have hq1 : ((j : Int) < 2) = True := eq_true (by omega)
      have hq3 : (j < 2) = True := eq_true hlt
      have hq2 : decide ((j : Int) < 2) = true := decide_eq_true (by omega)
      have HTw := Lib.hid (HT.out.below HD.out)
      go_wp2_with fail
      clear hq1 hq2 hq3 k0 k1 k2 k3 k4
      have H9 := Lib.hid (TgAt.new wr 24 t)
      have hd := below_alloc (Below.refl wr.heap.size wr) (.cells #[.int .u8 (t.kind : Int), .int .i64 t.log, .int .u64 (t.seq : Int), .int .i64 t.pos, .int .i64 t.len] 24)
      replace HTw := Lib.hid (HTw.out.below hd)
      replace HD := Lib.hid (chain2 HD.out hd); clear hd
      generalize wr.alloc (.cells #[.int .u8 (t.kind : Int), .int .i64 t.log, .int .u64 (t.seq : Int), .int .i64 t.pos, .int .i64 t.len] 24) = w5 at H9 HTw HD ⊢
      generalize wr.heap.size = b9 at H9 ⊢
      refine (of_ok t w5).mono ?_
      rintro e w6 ⟨rfl, hd⟩
      replace H9 := Lib.hid (H9.out.below hd)
      replace HTw := Lib.hid (HTw.out.below hd)
      replace HD := Lib.hid (chain2 HD.out hd); clear hd
      go_wp2_with fail
      refine (frame_ok gp t HTo.out.seq dd (by have := HDd.out; omega) w6 HTw.out).mono ?_
      rintro e w7 ⟨rfl, ht, hd⟩
      replace H9 := Lib.hid (H9.out.below hd)
      replace HTw := Lib.hid ht; clear ht
      replace HD := Lib.hid (chain2 HD.out hd); clear hd
      have HRf := Lib.hid (rframe_ok t HTo.out.kind HTo.out.seq dd (by have := HDd.out; omega) w7)
      rw [show frW t dd.data.toList = frV t dd.data.toList from rfl] at HRf
      have HLF := Lib.hid (show (str (frV t dd.data.toList).1).size ≤ 32 by rw [str_size]; exact frV_len t _)
      generalize frV t dd.data.toList = F at HRf HLF ⊢
      obtain ⟨F1, F2⟩ := F
      simp only at HRf HLF ⊢
      generalize str F1 = Sf at HRf HLF ⊢
      obtain ⟨x0, x1, x2, x3, x4⟩ := tg_cells H9.out
      go_wp2_with fail
      refine HRf.out.mono ?_
      rintro e w8 ⟨rfl, hd⟩
      clear HRf x0 x1 x2 x3 x4
      replace H9 := Lib.hid (H9.out.below hd)
      replace HTw := Lib.hid (HTw.out.below hd)
      replace HD := Lib.hid (chain2 HD.out hd); clear hd
      go_wp2_with fail
      have hS : TgAt w8.drew b9 24 t := H9.out
      replace HTw := Lib.hid (show TabAt w8.drew gp from HTw.out)
      replace HD := Lib.hid (show Below wL.heap.size wL w8.drew from below_drew1 HD.out)
      clear H9
      refine start_ (n := 16) (S := fun w' => TgAt w' b9 24 t) (ds := []) #[false, false, false, false, false, false, false, false, false, false, false, false, false, false, false, false] (by kernel_rfl) rfl rfl hS (fun hHeld => ?_)
      refine with_tabW rg3_8.tab rg3_8.bits (fun HT_ HW_ => ?_)
      generalize w8.drew = w' at HTw HD hHeld ⊢
      refine pure_ (i := 0) (N := some 57) (v := ?_) (a' := ?_) #[true, false, false, false, false, false, false, false, false, false, false, false, false, false, false, false] rfl rfl (any_of HT_.out (by kernel_rfl)) (fun _ _ _ h => h) (Or.inl ⟨by rfl, ?_⟩) ?_ ?_
      rotate_left
      · intro w'
        go_simp
        try with_reducible rfl
      rotate_left
      · simp (maxSteps := 4000000) only [Act.put, List.setIfInBounds_toArray, List.set_cons_zero, List.set_cons_succ, i64_w, i32_w]
        try rfl
      refine pure_ (i := 1) (N := some 58) (v := ?_) (a' := ?_) #[true, true, false, false, false, false, false, false, false, false, false, false, false, false, false, false] rfl rfl (any_of HT_.out (by kernel_rfl)) (fun _ _ _ h => h) (Or.inl ⟨by rfl, ?_⟩) ?_ ?_
      rotate_left
      · intro w'
        go_simp
        try with_reducible rfl
      rotate_left
      · simp (maxSteps := 4000000) only [Act.put, List.setIfInBounds_toArray, List.set_cons_zero, List.set_cons_succ, i64_w, i32_w]
        try rfl
      refine pure_ (i := 2) (N := some 59) (v := ?_) (a' := ?_) #[true, true, true, false, false, false, false, false, false, false, false, false, false, false, false, false] rfl rfl (any_of HT_.out (by kernel_rfl)) (fun _ _ _ h => h) (Or.inl ⟨by rfl, ?_⟩) ?_ ?_
      rotate_left
      · intro w'
        go_simp
        try with_reducible rfl
      rotate_left
      · simp (maxSteps := 4000000) only [Act.put, List.setIfInBounds_toArray, List.set_cons_zero, List.set_cons_succ, i64_w, i32_w]
        try rfl
      refine pure_ (i := 3) (N := some 60) (v := ?_) (a' := ?_) #[true, true, true, true, false, false, false, false, false, false, false, false, false, false, false, false] rfl rfl (any_of HT_.out (by kernel_rfl)) (fun _ _ _ h => h) (Or.inl ⟨by rfl, ?_⟩) ?_ ?_
      rotate_left
      · intro w'
        go_simp
        try with_reducible rfl
      rotate_left
      · simp (maxSteps := 4000000) only [Act.put, List.setIfInBounds_toArray, List.set_cons_zero, List.set_cons_succ, i64_w, i32_w]
        try rfl
      refine pure_ (i := 4) (N := some 61) (v := ?_) (a' := ?_) #[true, true, true, true, true, false, false, false, false, false, false, false, false, false, false, false] rfl rfl (any_of HT_.out (by kernel_rfl)) (fun _ _ _ h => h) (Or.inl ⟨by rfl, ?_⟩) ?_ ?_
      rotate_left
      · intro w'
        go_simp
        try with_reducible rfl
      rotate_left
      · simp (maxSteps := 4000000) only [Act.put, List.setIfInBounds_toArray, List.set_cons_zero, List.set_cons_succ, i64_w, i32_w]
        try rfl
      refine pure_ (i := 5) (N := some 62) (v := ?_) (a' := ?_) #[true, true, true, true, true, true, false, false, false, false, false, false, false, false, false, false] rfl rfl (any_of HT_.out (by kernel_rfl)) (fun _ _ _ h => h) (Or.inl ⟨by rfl, ?_⟩) ?_ ?_
      rotate_left
      · intro w'
        go_simp
        try with_reducible rfl
      rotate_left
      · simp (maxSteps := 4000000) only [Act.put, List.setIfInBounds_toArray, List.set_cons_zero, List.set_cons_succ, i64_w, i32_w]
        try rfl
      refine pure_ (i := 6) (N := some 63) (v := ?_) (a' := ?_) #[true, true, true, true, true, true, true, false, false, false, false, false, false, false, false, false] rfl rfl (any_of HT_.out (by kernel_rfl)) (fun _ _ _ h => h) (Or.inl ⟨by rfl, ?_⟩) ?_ ?_
      rotate_left
      · intro w'
        go_simp
        try with_reducible rfl
      rotate_left
      · simp (maxSteps := 4000000) only [Act.put, List.setIfInBounds_toArray, List.set_cons_zero, List.set_cons_succ, i64_w, i32_w]
        try rfl
      refine pure_ (i := 7) (N := some 64) (v := ?_) (a' := ?_) #[true, true, true, true, true, true, true, true, false, false, false, false, false, false, false, false] rfl rfl (any_of HT_.out (by kernel_rfl)) (fun _ _ _ h => h) (Or.inl ⟨by rfl, ?_⟩) ?_ ?_
      rotate_left
      · intro w'
        go_simp
        try with_reducible rfl
      rotate_left
      · simp (maxSteps := 4000000) only [Act.put, List.setIfInBounds_toArray, List.set_cons_zero, List.set_cons_succ, i64_w, i32_w]
        try rfl
      refine pure_ (i := 8) (N := some 65) (v := ?_) (a' := ?_) #[true, true, true, true, true, true, true, true, true, false, false, false, false, false, false, false] rfl rfl (any_of HT_.out (by kernel_rfl)) (fun _ _ _ h => h) (Or.inl ⟨by rfl, ?_⟩) ?_ ?_
      rotate_left
      · intro w'
        go_simp
        try with_reducible rfl
      rotate_left
      · simp (maxSteps := 4000000) only [Act.put, List.setIfInBounds_toArray, List.set_cons_zero, List.set_cons_succ, i64_w, i32_w]
        try rfl
      refine take_ (i := 9) (N := some 66) (v := ?_) (a' := ?_) #[true, true, true, true, true, true, true, true, true, true, false, false, false, false, false, false] rfl rfl (take_ofW HT_.out HW_.out (by kernel_rfl)) (fun _ _ _ h => h) (Or.inl ⟨by rfl, ?_⟩) hHeld ?_ ?_
      rotate_left
      · intro w' hw_
        try dsimp only at hw_
        obtain ⟨x0, x1, x2, x3, x4⟩ := tg_cells hw_
        go_simp
        try with_reducible rfl
      rotate_left
      · simp (maxSteps := 4000000) only [Act.put, List.setIfInBounds_toArray, List.set_cons_zero, List.set_cons_succ, i64_w, i32_w]
        try rfl
      refine take_ (i := 12) (N := some 69) (v := ?_) (a' := ?_) #[true, true, true, true, true, true, true, true, true, true, false, false, true, false, false, false] rfl rfl (take_ofW HT_.out HW_.out (by kernel_rfl)) (fun _ _ _ h => h) (Or.inl ⟨by rfl, ?_⟩) hHeld ?_ ?_
      rotate_left
      · intro w' hw_
        try dsimp only at hw_
        obtain ⟨x0, x1, x2, x3, x4⟩ := tg_cells hw_
        go_simp
        try with_reducible rfl
      rotate_left
      · simp (maxSteps := 4000000) only [Act.put, List.setIfInBounds_toArray, List.set_cons_zero, List.set_cons_succ, i64_w, i32_w]
        try rfl
      refine one_ (i := 10) (N := some 67) #[true, true, true, true, true, true, true, true, true, true, true, false, true, false, false, false] rfl rfl (one_of HT_.out (by kernel_rfl)) (by decide) (fun K hK => ?_)
      refine goes_ Try.func10 (by kernel_rfl) rfl #[(tgV t)] (by rfl) rfl rfl (by (try simp only [List.map_toArray, List.map_cons, List.map_nil]); first | done | rfl) ?_
      refine (of_ok t _).mono ?_
      rintro e w' ⟨rfl, hd⟩
      refine ⟨_, rfl, ?_⟩
      have hSS := hHeld.below hd
      replace HTw := Lib.hid (HTw.out.below hd)
      replace HD := Lib.hid (chain2 HD.out hd)
      clear hd
      refine hK.out _ _ (hSS) (fun hHeld => ?_)
      clear hK K
      refine norm_ (a' := ?_) ?_ ?_
      rotate_left
      · show Act.put _ (some 67) _ = _
        simp (maxSteps := 4000000) only [Act.put, List.setIfInBounds_toArray, List.set_cons_zero, List.set_cons_succ, i64_w, i32_w]
        try rfl
      refine one_ (i := 11) (N := some 68) #[true, true, true, true, true, true, true, true, true, true, true, true, true, false, false, false] rfl rfl (one_of HT_.out (by kernel_rfl)) (by decide) (fun K hK => ?_)
      refine goes_ Try.func12 (by kernel_rfl) rfl #[(tgV t)] (by rfl) rfl rfl (by (try simp only [List.map_toArray, List.map_cons, List.map_nil]); first | done | rfl) ?_
      refine (right_ok t _).mono ?_
      rintro e w' ⟨rfl, hd⟩
      refine ⟨_, rfl, ?_⟩
      have hSS := hHeld.below hd
      replace HTw := Lib.hid (HTw.out.below hd)
      replace HD := Lib.hid (chain2 HD.out hd)
      clear hd
      refine hK.out _ _ (hSS) (fun hHeld => ?_)
      clear hK K
      refine norm_ (a' := ?_) ?_ ?_
      rotate_left
      · show Act.put _ (some 68) _ = _
        simp (maxSteps := 4000000) only [Act.put, List.setIfInBounds_toArray, List.set_cons_zero, List.set_cons_succ, i64_w, i32_w]
        try rfl
      refine one_ (i := 13) (N := some 70) #[true, true, true, true, true, true, true, true, true, true, true, true, true, true, false, false] rfl rfl (one_of HT_.out (by kernel_rfl)) (by decide) (fun K hK => ?_)
      refine goes_ Try.func13 (by kernel_rfl) rfl #[(tgV t)] (by rfl) rfl rfl (by (try simp only [List.map_toArray, List.map_cons, List.map_nil]); first | done | rfl) ?_
      refine (rright_ok t _).mono ?_
      rintro e w' ⟨rfl, hd⟩
      refine ⟨_, rfl, ?_⟩
      have hSS := hHeld.below hd
      replace HTw := Lib.hid (HTw.out.below hd)
      replace HD := Lib.hid (chain2 HD.out hd)
      clear hd
      refine hK.out _ _ (hSS) (fun hHeld => ?_)
      clear hK K
      refine norm_ (a' := ?_) ?_ ?_
      rotate_left
      · show Act.put _ (some 70) _ = _
        simp (maxSteps := 4000000) only [Act.put, List.setIfInBounds_toArray, List.set_cons_zero, List.set_cons_succ, i64_w, i32_w]
        try rfl
      refine pure_ (i := 14) (N := some 71) (v := ?_) (a' := ?_) #[true, true, true, true, true, true, true, true, true, true, true, true, true, true, true, false] rfl rfl (any_of HT_.out (by kernel_rfl)) (fun _ _ _ h => h) (Or.inl ⟨by rfl, ?_⟩) ?_ ?_
      rotate_left
      · intro w'
        go_simp
        try with_reducible rfl
      rotate_left
      · simp (maxSteps := 4000000) only [Act.put, List.setIfInBounds_toArray, List.set_cons_zero, List.set_cons_succ, i64_w, i32_w]
        try rfl
      refine pure_ (i := 15) (N := some 72) (v := ?_) (a' := ?_) #[true, true, true, true, true, true, true, true, true, true, true, true, true, true, true, true] rfl rfl (any_of HT_.out (by kernel_rfl)) (fun _ _ _ h => h) (Or.inl ⟨by rfl, ?_⟩) ?_ ?_
      rotate_left
      · intro w'
        go_simp
        try with_reducible rfl
      rotate_left
      · simp (maxSteps := 4000000) only [Act.put, List.setIfInBounds_toArray, List.set_cons_zero, List.set_cons_succ, i64_w, i32_w]
        try rfl
      refine done_ (done_of HT_.out (by kernel_rfl)) ?_
      clear hS hHeld
      have H9 := Lib.hid hSS; clear hSS
      have hA1 : ¬ (9223372036854775807 : Int) < (Sf.size : Int) + (bb.size : Int) := by have := HDd.out; have := HLF.out; omega
      have hA2 : ¬ 9223372036854775807 < Sf.size + bb.size := by have := HDd.out; have := HLF.out; omega
      have hA3 : wrap64 ((Sf.size : Int) + (bb.size : Int)) = (Sf.size : Int) + (bb.size : Int) := w64_in _ (by omega) (by have := HDd.out; have := HLF.out; omega)
      obtain ⟨R, hR⟩ : ∃ R : Nat, R = min (Sf.size + bb.size) 32 := ⟨_, rfl⟩
      have r0 : (if 32 < (Sf.size : Int) + (bb.size : Int) then 32 else (Sf.size : Int) + (bb.size : Int)) = (R : Int) := by split <;> omega
      have r1 : min ((Sf.size : Int) + (bb.size : Int)) 32 = (R : Int) := by rw [← r0]; split <;> omega
      have r2 : (0 ≤ (R : Int)) = True := eq_true (by omega)
      have r3 : ((R : Int) ≤ (Sf.size : Int) + (bb.size : Int)) = True := eq_true (by omega)
      have r4 : (R ≤ Sf.size + bb.size) = True := eq_true (by omega)
      have r5 : decide (R ≤ Sf.size + bb.size) = true := decide_eq_true (by omega)
      have HR := Lib.hid (show R ≤ 32 by omega); clear hR
      go_wp2_with fail
      clear hA1 hA2 hA3 r0 r1 r2 r3 r4 r5
      have HG3 := Lib.hid (heap_alloc_new w' (.cells #[.string bb, .string Sf, .string ((Sf ++ bb).extract 0 R)] 9))
      have hd := below_alloc (Below.refl w'.heap.size w') (.cells #[.string bb, .string Sf, .string ((Sf ++ bb).extract 0 R)] 9)
      replace H9 := Lib.hid (H9.out.below hd)
      replace HTw := Lib.hid (HTw.out.below hd)
      replace HD := Lib.hid (chain2 HD.out hd); clear hd
      have HQ := Lib.hid (show ((Sf ++ bb).extract 0 R).size ≤ 100 by rw [ByteArray.size_extract]; have := HR.out; omega)
      generalize (Sf ++ bb).extract 0 R = Qs at HG3 H9 HTw HD HQ ⊢
      generalize w'.alloc (.cells #[.string bb, .string Sf, .string Qs] 9) = w9 at HG3 H9 HTw HD ⊢
      generalize w'.heap.size = g3 at HG3 ⊢
      try unfold tgV
      go_loopw [87] (fun i wx => ∃ q : Nat, q ≤ 3 ∧ i = .int .i64 (q : Int) ∧ Below w9.heap.size w9 wx) (fun i _ => 3 - (RowKit.intOf i).toNat)
      case atStart => exact ⟨0, Nat.zero_le _, rfl, Below.refl _ _⟩
      case round =>
        clear e3
        obtain ⟨q, hq, rfl, h2⟩ := hrel
        have HG := Lib.hid h2; clear h2
        by_cases hlt2 : q < 3
        · have e3 : wrap64 ((q : Int) + 1) = ((q + 1 : Nat) : Int) := by unfold wrap64; omega
          obtain ⟨sq, hsq, hk⟩ := three_strs (blk_below HG3.out HG.out) (by have := HDd.out; omega) (by have := HLF.out; omega) HQ.out q hlt2
          have hq1 : ((q : Int) < 3) = True := eq_true (by omega)
          have hq3 : (q < 3) = True := eq_true hlt2
          have hq2 : decide ((q : Int) < 3) = true := decide_eq_true (by omega)
          have HSq := Lib.hid hsq; clear hsq
          go_wp2_with fail
          clear hk hq1 hq2 hq3
          refine (parse_ok gp dd sq (by have := HDd.out; omega) (by have := HSq.out; omega) wr (HTw.out.below HG.out)).mono ?_
          rintro e w10 ⟨rfl, ht, hd⟩
          clear ht
          replace HG := Lib.hid (chain2 HG.out hd); clear hd
          have HRp := Lib.hid (fun w => rparse_ok dd sq (by have := HDd.out; omega) (by have := HSq.out; omega) w)
          generalize parseT dd.data.toList sq.data.toList = P at HRp ⊢
          obtain ⟨⟨pk, pl, ps, pp, pn⟩, pc⟩ := P
          unfold tgV at HRp ⊢
          simp only at HRp ⊢
          go_wp2_with fail
          have H16 := Lib.hid (show TgAt _ _ _ (⟨pk, pl, ps, pp, pn⟩ : Tg) from TgAt.new w10 37 (⟨pk, pl, ps, pp, pn⟩ : Tg))
          have hd := below_alloc (Below.refl w10.heap.size w10) (.cells #[.int .u8 (pk : Int), .int .i64 pl, .int .u64 (ps : Int), .int .i64 pp, .int .i64 pn] 37)
          replace HG := Lib.hid (chain2 HG.out hd); clear hd
          simp only at H16
          generalize w10.alloc (.cells #[.int .u8 (pk : Int), .int .i64 pl, .int .u64 (ps : Int), .int .i64 pp, .int .i64 pn] 37) = w11 at H16 HG ⊢
          generalize w10.heap.size = b16 at H16 ⊢
          refine (HRp.out w11).mono ?_
          rintro e w12 ⟨rfl, hd⟩
          clear HRp
          replace H16 := Lib.hid (H16.out.below hd)
          replace HG := Lib.hid (chain2 HG.out hd); clear hd
          have H18 := Lib.hid (show TgAt _ _ _ (⟨pk, pl, ps, pp, pn⟩ : Tg) from TgAt.new w12 41 (⟨pk, pl, ps, pp, pn⟩ : Tg))
          have hd := below_alloc (Below.refl w12.heap.size w12) (.cells #[.int .u8 (pk : Int), .int .i64 pl, .int .u64 (ps : Int), .int .i64 pp, .int .i64 pn] 41)
          replace H16 := Lib.hid (H16.out.below hd)
          replace HG := Lib.hid (chain2 HG.out hd); clear hd
          simp only at H18
          go_wp2_with fail
          generalize w12.alloc (.cells #[.int .u8 (pk : Int), .int .i64 pl, .int .u64 (ps : Int), .int .i64 pp, .int .i64 pn] 41) = w13 at H16 H18 HG ⊢
          generalize w12.heap.size = b18 at H18 ⊢
          have hS : TgAt w13.drew b16 37 (⟨pk, pl, ps, pp, pn⟩ : Tg) ∧ TgAt w13.drew b18 41 (⟨pk, pl, ps, pp, pn⟩ : Tg) := ⟨H16.out, H18.out⟩
          replace HG := Lib.hid (show Below w9.heap.size w9 w13.drew from below_drew1 HG.out)
          clear H16 H18
          refine start_ (n := 9) (S := fun w' => TgAt w' b16 37 (⟨pk, pl, ps, pp, pn⟩ : Tg) ∧ TgAt w' b18 41 (⟨pk, pl, ps, pp, pn⟩ : Tg)) (ds := []) #[false, false, false, false, false, false, false, false, false] (by kernel_rfl) rfl rfl hS (fun hHeld => ?_)
          refine with_tabW rg3_15.tab rg3_15.bits (fun HT_ HW_ => ?_)
          generalize w13.drew = w' at HG hHeld ⊢
          refine pure_ (i := 0) (N := some 103) (v := ?_) (a' := ?_) #[true, false, false, false, false, false, false, false, false] rfl rfl (any_of HT_.out (by kernel_rfl)) (fun _ _ _ h => h) (Or.inl ⟨by rfl, ?_⟩) ?_ ?_
          rotate_left
          · intro w'
            go_simp
            try with_reducible rfl
          rotate_left
          · simp (maxSteps := 4000000) only [Act.put, List.setIfInBounds_toArray, List.set_cons_zero, List.set_cons_succ, i64_w, i32_w]
            try rfl
          refine pure_ (i := 1) (N := some 104) (v := ?_) (a' := ?_) #[true, true, false, false, false, false, false, false, false] rfl rfl (any_of HT_.out (by kernel_rfl)) (fun _ _ _ h => h) (Or.inl ⟨by rfl, ?_⟩) ?_ ?_
          rotate_left
          · intro w'
            go_simp
            try with_reducible rfl
          rotate_left
          · simp (maxSteps := 4000000) only [Act.put, List.setIfInBounds_toArray, List.set_cons_zero, List.set_cons_succ, i64_w, i32_w]
            try rfl
          refine pure_ (i := 2) (N := some 105) (v := ?_) (a' := ?_) #[true, true, true, false, false, false, false, false, false] rfl rfl (any_of HT_.out (by kernel_rfl)) (fun _ _ _ h => h) (Or.inl ⟨by rfl, ?_⟩) ?_ ?_
          rotate_left
          · intro w'
            go_simp
            try with_reducible rfl
          rotate_left
          · simp (maxSteps := 4000000) only [Act.put, List.setIfInBounds_toArray, List.set_cons_zero, List.set_cons_succ, i64_w, i32_w]
            try rfl
          refine pure_ (i := 3) (N := some 106) (v := ?_) (a' := ?_) #[true, true, true, true, false, false, false, false, false] rfl rfl (any_of HT_.out (by kernel_rfl)) (fun _ _ _ h => h) (Or.inl ⟨by rfl, ?_⟩) ?_ ?_
          rotate_left
          · intro w'
            go_simp
            try with_reducible rfl
          rotate_left
          · simp (maxSteps := 4000000) only [Act.put, List.setIfInBounds_toArray, List.set_cons_zero, List.set_cons_succ, i64_w, i32_w]
            try rfl
          refine take_ (i := 4) (N := some 107) (v := ?_) (a' := ?_) #[true, true, true, true, true, false, false, false, false] rfl rfl (take_ofW HT_.out HW_.out (by kernel_rfl)) (fun _ _ _ h => h) (Or.inl ⟨by rfl, ?_⟩) hHeld ?_ ?_
          rotate_left
          · intro w' hw_
            try dsimp only at hw_
            obtain ⟨x0, x1, x2, x3, x4⟩ := tg_cells hw_.1
            go_simp
            try with_reducible rfl
          rotate_left
          · simp (maxSteps := 4000000) only [Act.put, List.setIfInBounds_toArray, List.set_cons_zero, List.set_cons_succ, i64_w, i32_w]
            try rfl
          refine take_ (i := 5) (N := some 108) (v := ?_) (a' := ?_) #[true, true, true, true, true, true, false, false, false] rfl rfl (take_ofW HT_.out HW_.out (by kernel_rfl)) (fun _ _ _ h => h) (Or.inl ⟨by rfl, ?_⟩) hHeld ?_ ?_
          rotate_left
          · intro w' hw_
            try dsimp only at hw_
            obtain ⟨x0, x1, x2, x3, x4⟩ := tg_cells hw_.2
            go_simp
            try with_reducible rfl
          rotate_left
          · simp (maxSteps := 4000000) only [Act.put, List.setIfInBounds_toArray, List.set_cons_zero, List.set_cons_succ, i64_w, i32_w]
            try rfl
          refine one_ (i := 6) (N := some 109) #[true, true, true, true, true, true, true, false, false] rfl rfl (one_of HT_.out (by kernel_rfl)) (by decide) (fun K hK => ?_)
          refine goes_ Try.func10 (by kernel_rfl) rfl #[(.agg #[.int .u8 (pk : Int), .int .i64 pl, .int .u64 (ps : Int), .int .i64 pp, .int .i64 pn])] (by rfl) rfl rfl (by (try simp only [List.map_toArray, List.map_cons, List.map_nil]); first | done | rfl) ?_
          refine (of_raw pk pl ps pp pn _).mono ?_
          rintro e w' ⟨rfl, hd⟩
          refine ⟨_, rfl, ?_⟩
          have hSS := And.intro (hHeld.1.below hd) (hHeld.2.below hd)
          replace HG := Lib.hid (chain2 HG.out hd)
          clear hd
          refine hK.out _ _ (hSS) (fun hHeld => ?_)
          clear hK K
          refine norm_ (a' := ?_) ?_ ?_
          rotate_left
          · show Act.put _ (some 109) _ = _
            simp (maxSteps := 4000000) only [Act.put, List.setIfInBounds_toArray, List.set_cons_zero, List.set_cons_succ, i64_w, i32_w]
            try rfl
          refine pure_ (i := 7) (N := some 110) (v := ?_) (a' := ?_) #[true, true, true, true, true, true, true, true, false] rfl rfl (any_of HT_.out (by kernel_rfl)) (fun _ _ _ h => h) (Or.inl ⟨by rfl, ?_⟩) ?_ ?_
          rotate_left
          · intro w'
            go_simp
            try with_reducible rfl
          rotate_left
          · simp (maxSteps := 4000000) only [Act.put, List.setIfInBounds_toArray, List.set_cons_zero, List.set_cons_succ, i64_w, i32_w]
            try rfl
          refine pure_ (i := 8) (N := some 111) (v := ?_) (a' := ?_) #[true, true, true, true, true, true, true, true, true] rfl rfl (any_of HT_.out (by kernel_rfl)) (fun _ _ _ h => h) (Or.inl ⟨by rfl, ?_⟩) ?_ ?_
          rotate_left
          · intro w'
            go_simp
            try with_reducible rfl
          rotate_left
          · simp (maxSteps := 4000000) only [Act.put, List.setIfInBounds_toArray, List.set_cons_zero, List.set_cons_succ, i64_w, i32_w]
            try rfl
          refine done_ (done_of HT_.out (by kernel_rfl)) ?_
          clear hSS
          go_wp2_with fail
          go_roundw
          case rel => exact ⟨q + 1, hlt2, by first | rw [e3] | rfl, HG.out⟩
          case measure => (first | rw [e3] | rw [show ((q : Int) + 1) = ((q + 1 : Nat) : Int) from rfl]); simp only [RowKit.intOf, Int.toNat_natCast]; exact Nat.sub_lt_sub_left hlt2 (Nat.lt_succ_self q)
        · obtain rfl : q = 3 := Nat.le_antisymm hq (Nat.le_of_not_lt hlt2)
          have e3 : wrap64 ((j : Int) + 1) = ((j + 1 : Nat) : Int) := by unfold wrap64; omega
          replace HD := Lib.hid (chain2 HD.out HG.out); clear HG hlt2 hq
          go_wp2_with fail
          go_roundw
          case rel => exact ⟨j + 1, hlt, by first | rw [e3] | rfl, HD.out⟩
          case measure => (first | rw [e3] | rw [show ((j : Int) + 1) = ((j + 1 : Nat) : Int) from rfl]); simp only [RowKit.intOf, Int.toNat_natCast]; exact Nat.sub_lt_sub_left hlt (Nat.lt_succ_self j)
    · obtain rfl : j = 2 := Nat.le_antisymm hj (Nat.le_of_not_lt hlt)
      replace HX := Lib.hid (HX.out.below HD.out)
      replace HB := Lib.hid (chain2 HB.out HD.out)
      clear HD hlt hj HS2 HT
      obtain ⟨x0, x1, x2, x3, x4⟩ := tg_cells HX.out
      go_wp2_with fail
      refine (of_ok x wr).mono ?_
      rintro e w5 ⟨rfl, hd⟩
      clear x0 x1 x2 x3 x4
      replace HB := Lib.hid (chain2 HB.out hd); clear hd HX
      go_wp2_with fail
      refine (frame_nil x dd w5).mono ?_
      rintro e w6 ⟨rfl, hd⟩
      replace HB := Lib.hid (chain2 HB.out hd); clear hd
      go_wp2_with fail
      refine (parse_nil dd bb w6).mono ?_
      rintro e w7 ⟨rfl, hd⟩
      replace HB := Lib.hid (chain2 HB.out hd); clear hd
      unfold tgV Tg.zero
      go_wp2_with fail
      refine (wakes_ok6 _).mono ?_
      rintro e w8 ⟨rfl, hd⟩
      replace hd := below_then (below_alloc (Below.refl w7.heap.size w7) _) (by simp) hd
      replace HB := Lib.hid (chain2 HB.out hd); clear hd
      go_wp2
      go_ret
      exact ⟨rfl, HB.out⟩
theorem tagBytes_law (a00 a01 a02 a03 a04 : Int) (a1 a2 : ByteArray) (W : World) (w00 : (Lit.int .u8 a00).wf = true) (w01 : (Lit.int .i64 a01).wf = true) (w02 : (Lit.int .u64 a02).wf = true) (w03 : (Lit.int .i64 a03).wf = true) (w04 : (Lit.int .i64 a04).wf = true) (h1 : a1.size ≤ 140737488351232) (h2 : a2.size ≤ 140737488351232) :
    Calls Try.prog 3 #[.agg #[.int .u8 a00, .int .i64 a01, .int .u64 a02, .int .i64 a03, .int .i64 a04], .string a1, .string a2] W fun e w' => e = .returned (.bool true) ∧ Below W.heap.size W w' := by
  obtain ⟨k, rfl, hk⟩ := wf_u8 w00
  obtain ⟨s, rfl, hs⟩ := wf_u64 w02
  exact tagBytes_walk ⟨k, a01, s, a03, a04⟩ ⟨hk, hs⟩ a1 a2 h1 h2 W
end Go.Proofs.Ytfomgljhcegjdaa
