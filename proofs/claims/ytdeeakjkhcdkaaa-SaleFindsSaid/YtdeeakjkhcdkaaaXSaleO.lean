/- The law's transactions: the program's and the document's. No conditions beyond those that are written. -/
import Derived.Test.YtdeeakjkhcdkaaaXSaleA
namespace Go.Proofs.Ytdeeakjkhcdkaaa
open Go.RowKit Go.Lib Go.Proofs.YtdeeakjkhcdkaaaW.PrintWords Go.Proofs.YtdeeakjkhcdkaaaW.PrintLast Go.Proofs.YtdeeakjkhcdkaaaW.PrintMore
set_option linter.unusedVariables false
set_option linter.unusedSimpArgs false
def rg9_6.T : Bool × List (List Nat × List Nat) := (true, [([], []), ([], []), ([0, 0], [0]), ([1, 2, 0, 1, 2], [1])])
def rg9_6.B : List Nat := [0, 0, 1, 7]
theorem rg9_6.tab : rtab .any (opsOf Try.f9 6) = rg9_6.T := by kernel_rfl
theorem rg9_6.bits : waitsOk rg9_6.T.2 rg9_6.B = true := by kernel_rfl
/-- A transaction as the law has it. -/
structure TA where
  kind : Int
  shift : Int
  ref : Int
  amount : Int
  acc : Int
def lsA (x : TA) : List LN := if x.acc = 0 then [] else [⟨x.acc, 3⟩]
def ofT (x : TA) : TP := ⟨77, x.kind, x.shift, x.ref, x.amount, 9, true, lsA x⟩
def ofR (x : TA) : TP := ⟨0, x.kind, x.shift, x.ref, x.amount, 0, false, lsA x⟩
def aggA (x : TA) : Value := .agg #[.int .u8 x.kind, .int .i64 x.shift, .int .i64 x.ref, .int .i64 x.amount, .int .i64 x.acc]
/-- A block of eight cells of a type. -/
def BoxU (ty : TypeId) (w : World) (b : Nat) (t : TP) (v : Value) : Prop := w.heap[b]? = some (.cells #[.int .i64 t.num, .int .u8 t.kind, .int .i64 t.shift, .int .i64 t.ref, .int .i64 t.amount, .int .i64 t.left, .bool t.void, v] ty (0, 0))
variable {ty : TypeId}
theorem BoxU.below {w w' : World} {b : Nat} {t : TP} {v : Value} (h : BoxU ty w b t v) (hb : Below w.heap.size w w') : BoxU ty w' b t v := blk_below h hb
theorem BoxU.cells {w : World} {b : Nat} {t : TP} {v : Value} (h : BoxU ty w b t v) : w.cell? ⟨b, 0, none⟩ = some (.int .i64 t.num) ∧ w.cell? ⟨b, 1, none⟩ = some (.int .u8 t.kind) ∧ w.cell? ⟨b, 2, none⟩ = some (.int .i64 t.shift) ∧ w.cell? ⟨b, 3, none⟩ = some (.int .i64 t.ref) ∧ w.cell? ⟨b, 4, none⟩ = some (.int .i64 t.amount) ∧ w.cell? ⟨b, 5, none⟩ = some (.int .i64 t.left) ∧ w.cell? ⟨b, 6, none⟩ = some (.bool t.void) ∧ w.cell? ⟨b, 7, none⟩ = some v :=
  ⟨cell_of_row w b 0 _ _ (0, 0) h, cell_of_row w b 1 _ _ (0, 0) h, cell_of_row w b 2 _ _ (0, 0) h, cell_of_row w b 3 _ _ (0, 0) h, cell_of_row w b 4 _ _ (0, 0) h, cell_of_row w b 5 _ _ (0, 0) h, cell_of_row w b 6 _ _ (0, 0) h, cell_of_row w b 7 _ _ (0, 0) h⟩
theorem BoxU.free {w : World} {b : Nat} {t : TP} {v : Value} (h : BoxU ty w b t v) : w.frozen? ⟨b, 0, none⟩ = false ∧ w.frozen? ⟨b, 1, none⟩ = false ∧ w.frozen? ⟨b, 2, none⟩ = false ∧ w.frozen? ⟨b, 3, none⟩ = false ∧ w.frozen? ⟨b, 4, none⟩ = false ∧ w.frozen? ⟨b, 5, none⟩ = false ∧ w.frozen? ⟨b, 6, none⟩ = false ∧ w.frozen? ⟨b, 7, none⟩ = false := by
  unfold BoxU at h
  refine ⟨?_, ?_, ?_, ?_, ?_, ?_, ?_, ?_⟩
  all_goals (unfold World.frozen?; rw [h]; rfl)
theorem BoxU.set8 {w : World} {b : Nat} {t0 : TP} {v0 : Value} (h : BoxU ty w b t0 v0) (t : TP) (v : Value) : BoxU ty (set8W w b t v) b t v := by
  unfold BoxU at h
  have h0 := heap_setCell_same _ b 0 _ _ (.int .i64 t.num) h
  have h1 := heap_setCell_same _ b 1 _ _ (.int .u8 t.kind) h0
  have h2 := heap_setCell_same _ b 2 _ _ (.int .i64 t.shift) h1
  have h3 := heap_setCell_same _ b 3 _ _ (.int .i64 t.ref) h2
  have h4 := heap_setCell_same _ b 4 _ _ (.int .i64 t.amount) h3
  have h5 := heap_setCell_same _ b 5 _ _ (.int .i64 t.left) h4
  have h6 := heap_setCell_same _ b 6 _ _ (.bool t.void) h5
  have h7 := heap_setCell_same _ b 7 _ _ v h6
  unfold BoxU set8W
  rw [h7]
  simp
theorem BoxU.set7 {w : World} {b : Nat} {t : TP} {v0 : Value} (h : BoxU ty w b t v0) (v : Value) : BoxU ty (w.setCell ⟨b, 7, none⟩ v) b t v := by
  unfold BoxU at h ⊢
  rw [heap_setCell_same _ b 7 _ _ v h]
  simp
theorem BoxU.other {w w' : World} {b c : Nat} {t : TP} {v : Value} (h : BoxU ty w b t v) (hg : w.grownBy w' (some c)) (hne : b ≠ c) : BoxU ty w' b t v := (hg.block b (blk_lt h) (by intro e; cases e; exact hne rfl)).trans h
theorem set8W_below {B : Nat} {a w : World} {b : Nat} (h : Below B a w) (hb : B ≤ b) (t : TP) (v : Value) : Below B a (set8W w b t v) := below_set8 h hb _ _ _ _ _ _ _ _
theorem rtx_size : (Try.prog.info? 40).map (·.size) = some 8 := by kernel_rfl
theorem alloc_size (w : World) (o : Obj) : (w.alloc o).heap.size = w.heap.size + 1 := by simp
theorem set_size (w : World) (a : Addr) (v : Value) : (w.setCell a v).heap.size = w.heap.size := by simp
/-- One line in a block of its own. -/
theorem line_row {w : World} {b : Nat} {lty : TypeId} (k : Int) (h : w.heap[b]? = some (.cells #[.int .i64 k, .int .i64 3] lty (0, 0))) : RowO encL 2 lty w 0 (.slice (some ⟨b, 0, none⟩) 1 1) [⟨k, 3⟩] := by
  refine .inr ⟨b, 0, 1, _, rfl, Nat.zero_le _, h, by simp, Nat.le_refl _, by decide, fun j u hu => ?_⟩
  rw [Nat.zero_add]
  match j, hu with
  | 0, hu => simp [encL] at hu; rw [← hu]; rfl
  | 1, hu => simp [encL] at hu; rw [← hu]; rfl
  | j + 2, hu => simp [encL] at hu
theorem alloc_keep {w : World} {k : Nat} {A : Obj} (h : w.heap[k]? = some A) (o : Obj) : (w.alloc o).heap[k]? = some A := blk_below h (below_alloc (Below.refl _ _) o)
theorem five (w W : World) (A B C D E : Obj) (hW : W = ((((w.alloc A).alloc B).alloc C).alloc D).alloc E) :
    W.heap[w.heap.size]? = some A ∧ W.heap[w.heap.size + 1]? = some B ∧ W.heap[w.heap.size + 1 + 1]? = some C ∧ W.heap[w.heap.size + 1 + 1 + 1]? = some D ∧ W.heap[w.heap.size + 1 + 1 + 1 + 1]? = some E ∧ Below w.heap.size w W := by
  subst hW
  have a1 := heap_alloc_new w A
  have a2 := heap_alloc_new (w.alloc A) B
  have a3 := heap_alloc_new ((w.alloc A).alloc B) C
  have a4 := heap_alloc_new (((w.alloc A).alloc B).alloc C) D
  have a5 := heap_alloc_new ((((w.alloc A).alloc B).alloc C).alloc D) E
  simp only [alloc_size] at a2 a3 a4 a5
  exact ⟨alloc_keep (alloc_keep (alloc_keep (alloc_keep a1 _) _) _) _, alloc_keep (alloc_keep (alloc_keep a2 _) _) _, alloc_keep (alloc_keep a3 _) _, alloc_keep a4 _, a5,
    below_alloc (below_alloc (below_alloc (below_alloc (below_alloc (Below.refl _ _) _) _) _) _) _⟩
set_option maxHeartbeats 16000000 in
set_option maxRecDepth 100000 in
theorem of_ok (x : TA) (w : World) : Calls Try.prog 9 #[aggA x] w fun e w' => ∃ lv rv, e = .returned (.tuple #[aggT (ofT x) lv, aggT (ofR x) rv]) ∧ RowO encL 2 58 w' 0 lv (lsA x) ∧ RowO encL 2 90 w' 0 rv (lsA x) ∧ Below w.heap.size w w' := by
  obtain ⟨xk, xs, xr, xa, xc⟩ := x
  unfold aggA aggT ofT ofR
  simp only
  go_enter Try.func9, Try.ntmps9
  go_upto_region 3 with (fail)
  obtain ⟨W, hW⟩ : ∃ W, W = ((((w.alloc (.cells #[.int .u8 xk, .int .i64 xs, .int .i64 xr, .int .i64 xa, .int .i64 xc] 31)).alloc (.cells #[.int .i64 0, .int .u8 0, .int .i64 0, .int .i64 0, .int .i64 0, .int .i64 0, .bool false, .slice none 0 0] 37)).alloc (.cells #[.int .i64 0, .int .u8 0, .int .i64 0, .int .i64 0, .int .i64 0, .int .i64 0, .bool false, .slice none 0 0] 40)).alloc (.cells #[.int .i64 77, .int .u8 xk, .int .i64 xs, .int .i64 xr, .int .i64 xa, .int .i64 9, .bool true, .slice none 0 0] 37)).alloc (.cells #[.int .i64 0, .int .u8 xk, .int .i64 xs, .int .i64 xr, .int .i64 xa, .int .i64 0, .bool false, .slice none 0 0] 40) := ⟨_, rfl⟩
  rw [← hW]
  obtain ⟨h1, h2, h3, h4, h5, hb⟩ := five w W _ _ _ _ _ hW
  clear hW
  have HB := Lib.hid hb; clear hb
  have H2 := Lib.hid (show BoxU 37 W (w.heap.size + 1) z0 (.slice none 0 0) from h2); clear h2
  have H3 := Lib.hid (show BoxU 40 W (w.heap.size + 1 + 1) z0 (.slice none 0 0) from h3); clear h3
  have H4 := Lib.hid (show BoxU 37 W (w.heap.size + 1 + 1 + 1) ⟨77, xk, xs, xr, xa, 9, true, []⟩ (.slice none 0 0) from h4); clear h4
  have H5 := Lib.hid (show BoxU 40 W (w.heap.size + 1 + 1 + 1 + 1) ⟨0, xk, xs, xr, xa, 0, false, []⟩ (.slice none 0 0) from h5); clear h5
  have x4 : W.cell? ⟨w.heap.size, 4, none⟩ = some (.int .i64 xc) := cell_of_row W _ 4 _ _ (0, 0) h1
  clear h1
  have HO := Lib.hid (show w.heap.size < w.heap.size + 1 ∧ w.heap.size + 1 < w.heap.size + 1 + 1 ∧ w.heap.size + 1 + 1 < w.heap.size + 1 + 1 + 1 ∧ w.heap.size + 1 + 1 + 1 < w.heap.size + 1 + 1 + 1 + 1 by omega)
  generalize w.heap.size + 1 + 1 + 1 + 1 = b5 at H5 HO ⊢
  generalize w.heap.size + 1 + 1 + 1 = b4 at H4 HO ⊢
  generalize w.heap.size + 1 + 1 = b3 at H3 HO ⊢
  generalize w.heap.size + 1 = b2 at H2 HO ⊢
  generalize hb1 : w.heap.size = b1 at x4 HO ⊢
  have Hb1 := Lib.hid (show w.heap.size ≤ b1 by omega)
  clear hb1
  by_cases hc : xc = 0
  case pos =>
    subst hc
    go_upto_region 6 with (fail)
    clear x4
    obtain ⟨lv, hlv⟩ : ∃ lv, lv = Value.slice none 0 0 := ⟨_, rfl⟩
    obtain ⟨rv, hrv⟩ : ∃ rv, rv = Value.slice none 0 0 := ⟨_, rfl⟩
    replace H4 := Lib.hid (show BoxU 37 W b4 ⟨77, xk, xs, xr, xa, 9, true, []⟩ lv by rw [hlv]; exact H4.out)
    replace H5 := Lib.hid (show BoxU 40 W b5 ⟨0, xk, xs, xr, xa, 0, false, []⟩ rv by rw [hrv]; exact H5.out)
    have HL := Lib.hid (show RowO encL 2 58 W 0 lv (lsA ⟨xk, xs, xr, xa, 0⟩) by rw [hlv]; exact RowO.nil _ _ _ _ _)
    have HR := Lib.hid (show RowO encL 2 90 W 0 rv (lsA ⟨xk, xs, xr, xa, 0⟩) by rw [hrv]; exact RowO.nil _ _ _ _ _)
    obtain ⟨la, ln, lc, hl⟩ : ∃ a n c, lv = Value.slice a n c := ⟨_, _, _, hlv⟩
    obtain ⟨ra, rn, rc, hr⟩ : ∃ a n c, rv = Value.slice a n c := ⟨_, _, _, hrv⟩
    clear hlv hrv
    subst hl hr
    replace H2 := Lib.hid (show BoxU _ W.drew b2 _ _ from H2.out)
    replace H3 := Lib.hid (show BoxU _ W.drew b3 _ _ from H3.out)
    replace H4 := Lib.hid (show BoxU _ W.drew b4 _ _ from H4.out)
    replace H5 := Lib.hid (show BoxU _ W.drew b5 _ _ from H5.out)
    replace HL := Lib.hid (show RowO encL 2 58 W.drew 0 _ _ from HL.out)
    replace HR := Lib.hid (show RowO encL 2 90 W.drew 0 _ _ from HR.out)
    replace HB := Lib.hid (below_drew1 HB.out)
    have hS := And.intro H4.out.cells H5.out.cells
    simp only at hS
    refine start_ (n := 4) (S := fun w' => (w'.cell? ⟨b4, 0, none⟩ = some (.int .i64 77) ∧ w'.cell? ⟨b4, 1, none⟩ = some (.int .u8 xk) ∧ w'.cell? ⟨b4, 2, none⟩ = some (.int .i64 xs) ∧ w'.cell? ⟨b4, 3, none⟩ = some (.int .i64 xr) ∧ w'.cell? ⟨b4, 4, none⟩ = some (.int .i64 xa) ∧ w'.cell? ⟨b4, 5, none⟩ = some (.int .i64 9) ∧ w'.cell? ⟨b4, 6, none⟩ = some (.bool true) ∧ w'.cell? ⟨b4, 7, none⟩ = some (.slice la ln lc)) ∧ (w'.cell? ⟨b5, 0, none⟩ = some (.int .i64 0) ∧ w'.cell? ⟨b5, 1, none⟩ = some (.int .u8 xk) ∧ w'.cell? ⟨b5, 2, none⟩ = some (.int .i64 xs) ∧ w'.cell? ⟨b5, 3, none⟩ = some (.int .i64 xr) ∧ w'.cell? ⟨b5, 4, none⟩ = some (.int .i64 xa) ∧ w'.cell? ⟨b5, 5, none⟩ = some (.int .i64 0) ∧ w'.cell? ⟨b5, 6, none⟩ = some (.bool false) ∧ w'.cell? ⟨b5, 7, none⟩ = some (.slice ra rn rc))) (ds := [3]) #[false, false, false, false] (by kernel_rfl) rfl rfl hS (fun hHeld => ?_)
    refine with_tabW rg9_6.tab rg9_6.bits (fun HT_ HW_ => ?_)
    generalize W.drew = w' at H2 H3 H4 H5 HL HR HB hS hHeld ⊢
    refine take_ (i := 0) (N := some 37) (v := ?_) (a' := ?_) #[true, false, false, false] rfl rfl (take_ofW HT_.out HW_.out (by kernel_rfl)) (fun _ _ _ h => h) (Or.inl ⟨by rfl, ?_⟩) hHeld ?_ ?_
    rotate_left
    · intro w' hw_
      try dsimp only at hw_
      obtain ⟨⟨x0, x1, x2, x3, x4, x5, x6, x7⟩, _⟩ := hw_
      go_simp
      try with_reducible rfl
    rotate_left
    · simp (maxSteps := 4000000) only [Act.put, List.setIfInBounds_toArray, List.set_cons_zero, List.set_cons_succ, i64_w, i32_w]
      try rfl
    refine take_ (i := 1) (N := some 38) (v := ?_) (a' := ?_) #[true, true, false, false] rfl rfl (take_ofW HT_.out HW_.out (by kernel_rfl)) (fun _ _ _ h => h) (Or.inl ⟨by rfl, ?_⟩) hHeld ?_ ?_
    rotate_left
    · intro w' hw_
      try dsimp only at hw_
      obtain ⟨_, x0, x1, x2, x3, x4, x5, x6, x7⟩ := hw_
      go_simp
      try with_reducible rfl
    rotate_left
    · simp (maxSteps := 4000000) only [Act.put, List.setIfInBounds_toArray, List.set_cons_zero, List.set_cons_succ, i64_w, i32_w]
      try rfl
    refine one_ (i := 2) (N := none) #[true, true, true, false] rfl rfl (one_of HT_.out (by kernel_rfl)) (by decide) (fun K hK => ?_)
    have hgA := set8W_grown w' b2 ⟨77, xk, xs, xr, xa, 9, true, []⟩ (.slice la ln lc)
    refine skip_ (w1 := set8W w' b2 ⟨77, xk, xs, xr, xa, 9, true, []⟩ (.slice la ln lc)) (by rfl) rfl ?_ ?_
    · (unfold set8W; obtain ⟨c0, c1, c2, c3, c4, c5, c6, c7⟩ := H2.out.cells; obtain ⟨f0, f1, f2, f3, f4, f5, f6, f7⟩ := H2.out.free; go_simp)
    have hq2 := H2.out
    unfold BoxU at hq2
    replace H2 := Lib.hid (H2.out.set8 ⟨77, xk, xs, xr, xa, 9, true, []⟩ (.slice la ln lc))
    replace H3 := Lib.hid (H3.out.other hgA (by have := HO.out; omega))
    replace H4 := Lib.hid (H4.out.other hgA (by have := HO.out; omega))
    replace H5 := Lib.hid (H5.out.other hgA (by have := HO.out; omega))
    replace HL := Lib.hid (HL.out.grown hgA (.inr (HL.out.ne hq2 (by decide))))
    replace HR := Lib.hid (HR.out.grown hgA (.inr (HR.out.ne hq2 (by decide))))
    replace HB := Lib.hid (set8W_below HB.out (show w.heap.size ≤ b2 by have := HO.out; have := Hb1.out; omega) ⟨77, xk, xs, xr, xa, 9, true, []⟩ (.slice la ln lc))
    generalize set8W w' b2 ⟨77, xk, xs, xr, xa, 9, true, []⟩ (.slice la ln lc) = w' at H2 H3 H4 H5 HL HR HB ⊢
    clear hgA hq2
    refine hK.out _ _ (And.intro H4.out.cells H5.out.cells) (fun hHeld => ?_)
    clear hK K
    refine last_ (i := 3) (N := none) #[true, true, true, true] rfl rfl (one_of HT_.out (by kernel_rfl)) (by decide) (fun K hK => ?_)
    refine skip_ (w1 := set8W w' b3 ⟨0, xk, xs, xr, xa, 0, false, []⟩ (.slice ra rn rc)) (by rfl) rfl ?_ ?_
    · (unfold set8W; obtain ⟨c0, c1, c2, c3, c4, c5, c6, c7⟩ := H3.out.cells; obtain ⟨f0, f1, f2, f3, f4, f5, f6, f7⟩ := H3.out.free; go_simp)
    refine hK.out _ _ ?_
    clear hK K
    refine done_ (done_of HT_.out (by kernel_rfl)) ?_
    go_wp2
    have hgB := set8W_grown w' b3 ⟨0, xk, xs, xr, xa, 0, false, []⟩ (.slice ra rn rc)
    have hq3 := H3.out
    have h2 := H2.out.other hgB (by have := HO.out; omega)
    have h3 := H3.out.set8 ⟨0, xk, xs, xr, xa, 0, false, []⟩ (.slice ra rn rc)
    unfold BoxU at hq3
    refine bodyPost_ret (results_cc rfl _ _ b2 b3 37 40 _ _ (0, 0) (0, 0) _ _ rfl h2 Try.underlying37 rfl tx_size rfl h3 Try.underlying40 rfl rtx_size) rfl ?_
    exact ⟨_, _, rfl, HL.out.grown hgB (.inr (HL.out.ne hq3 (by decide))), HR.out.grown hgB (.inr (HR.out.ne hq3 (by decide))), set8W_below HB.out (show w.heap.size ≤ b3 by have := HO.out; have := Hb1.out; omega) _ _⟩
  case neg =>
    have e1 : (xc == 0) = false := by simpa using hc
    have q4 := (H4.out.below (below_alloc (Below.refl W.heap.size W) (.cells #[.int .i64 xc, .int .i64 3] 58))).cells.2.2.2.2.2.2.2
    have f4 := (H4.out.below (below_alloc (Below.refl W.heap.size W) (.cells #[.int .i64 xc, .int .i64 3] 58))).free.2.2.2.2.2.2.2
    go_upto_region 5 with (fail)
    clear q4 f4
    have hal := below_alloc (Below.refl W.heap.size W) (.cells #[.int .i64 xc, .int .i64 3] 58)
    have hLr := blk_new W (.cells #[.int .i64 xc, .int .i64 3] 58)
    have hg := Lib.grownBy_setCell (W.alloc (.cells #[.int .i64 xc, .int .i64 3] 58)) b4 7 (.slice (some ⟨W.heap.size, 0, none⟩) 1 1)
    have hnb : b4 ≠ W.heap.size := fun e => by have := blk_lt H4.out; omega
    have HLr := Lib.hid ((hg.block W.heap.size (blk_lt hLr) (fun e => hnb (by cases e; rfl))).trans hLr)
    replace H2 := Lib.hid ((H2.out.below hal).other hg (by have := HO.out; omega))
    replace H3 := Lib.hid ((H3.out.below hal).other hg (by have := HO.out; omega))
    replace H5 := Lib.hid ((H5.out.below hal).other hg (by have := HO.out; omega))
    replace H4 := Lib.hid ((H4.out.below hal).set7 (.slice (some ⟨W.heap.size, 0, none⟩) 1 1))
    replace HB := Lib.hid (below_set w.heap.size (chain2 HB.out hal) (show w.heap.size ≤ b4 by have := HO.out; have := Hb1.out; omega) (i := 7) (v := (.slice (some ⟨W.heap.size, 0, none⟩) 1 1)))
    replace x4 := hg.cell (pw_cell_below hal x4) (by have := HO.out; intro e; simp only [Option.some.injEq] at e; omega)
    clear hg hal hLr hnb
    generalize (W.alloc (.cells #[.int .i64 xc, .int .i64 3] 58)).setCell ⟨b4, 7, none⟩ (.slice (some ⟨W.heap.size, 0, none⟩) 1 1) = V at HLr H2 H3 H4 H5 HB x4 ⊢
    generalize W.heap.size = bl at HLr H4 ⊢
    have q5 := (H5.out.below (below_alloc (Below.refl V.heap.size V) (.cells #[.int .i64 xc, .int .i64 3] 90))).cells.2.2.2.2.2.2.2
    have f5 := (H5.out.below (below_alloc (Below.refl V.heap.size V) (.cells #[.int .i64 xc, .int .i64 3] 90))).free.2.2.2.2.2.2.2
    go_upto_region 6 with (fail)
    clear q5 f5 e1 x4
    have hal := below_alloc (Below.refl V.heap.size V) (.cells #[.int .i64 xc, .int .i64 3] 90)
    have hLr := blk_new V (.cells #[.int .i64 xc, .int .i64 3] 90)
    have hg := Lib.grownBy_setCell (V.alloc (.cells #[.int .i64 xc, .int .i64 3] 90)) b5 7 (.slice (some ⟨V.heap.size, 0, none⟩) 1 1)
    have hnb : b5 ≠ V.heap.size := fun e => by have := blk_lt H5.out; omega
    have hb5l : b5 ≠ bl := fun e => by
      have h1 := H5.out
      unfold BoxU at h1
      rw [e, HLr.out] at h1
      simp at h1
    replace HLr := Lib.hid ((hg.block bl (Nat.lt_of_lt_of_le (blk_lt HLr.out) hal.size) (fun e => hb5l (by cases e; rfl))).trans (blk_below HLr.out hal))
    have HRr := Lib.hid ((hg.block V.heap.size (blk_lt hLr) (fun e => hnb (by cases e; rfl))).trans hLr)
    replace H2 := Lib.hid ((H2.out.below hal).other hg (by have := HO.out; omega))
    replace H3 := Lib.hid ((H3.out.below hal).other hg (by have := HO.out; omega))
    replace H4 := Lib.hid ((H4.out.below hal).other hg (by have := HO.out; omega))
    replace H5 := Lib.hid ((H5.out.below hal).set7 (.slice (some ⟨V.heap.size, 0, none⟩) 1 1))
    replace HB := Lib.hid (below_set w.heap.size (chain2 HB.out hal) (show w.heap.size ≤ b5 by have := HO.out; have := Hb1.out; omega) (i := 7) (v := (.slice (some ⟨V.heap.size, 0, none⟩) 1 1)))
    clear hg hal hLr hnb hb5l
    generalize (V.alloc (.cells #[.int .i64 xc, .int .i64 3] 90)).setCell ⟨b5, 7, none⟩ (.slice (some ⟨V.heap.size, 0, none⟩) 1 1) = W2 at HLr HRr H2 H3 H4 H5 HB ⊢
    generalize V.heap.size = br at HRr H5 ⊢
    have HL := Lib.hid (show RowO encL 2 58 W2 0 (.slice (some ⟨bl, 0, none⟩) 1 1) (lsA ⟨xk, xs, xr, xa, xc⟩) by unfold lsA; rw [if_neg hc]; exact line_row xc HLr.out)
    have HR := Lib.hid (show RowO encL 2 90 W2 0 (.slice (some ⟨br, 0, none⟩) 1 1) (lsA ⟨xk, xs, xr, xa, xc⟩) by unfold lsA; rw [if_neg hc]; exact line_row xc HRr.out)
    clear HLr HRr hc
    generalize some (⟨bl, 0, none⟩ : Addr) = la at HL H4 ⊢
    generalize some (⟨br, 0, none⟩ : Addr) = ra at HR H5 ⊢
    replace H2 := Lib.hid (show BoxU _ W2.drew b2 _ _ from H2.out)
    replace H3 := Lib.hid (show BoxU _ W2.drew b3 _ _ from H3.out)
    replace H4 := Lib.hid (show BoxU _ W2.drew b4 _ _ from H4.out)
    replace H5 := Lib.hid (show BoxU _ W2.drew b5 _ _ from H5.out)
    replace HL := Lib.hid (show RowO encL 2 58 W2.drew 0 _ _ from HL.out)
    replace HR := Lib.hid (show RowO encL 2 90 W2.drew 0 _ _ from HR.out)
    replace HB := Lib.hid (below_drew1 HB.out)
    have hS := And.intro H4.out.cells H5.out.cells
    simp only at hS
    refine start_ (n := 4) (S := fun w' => (w'.cell? ⟨b4, 0, none⟩ = some (.int .i64 77) ∧ w'.cell? ⟨b4, 1, none⟩ = some (.int .u8 xk) ∧ w'.cell? ⟨b4, 2, none⟩ = some (.int .i64 xs) ∧ w'.cell? ⟨b4, 3, none⟩ = some (.int .i64 xr) ∧ w'.cell? ⟨b4, 4, none⟩ = some (.int .i64 xa) ∧ w'.cell? ⟨b4, 5, none⟩ = some (.int .i64 9) ∧ w'.cell? ⟨b4, 6, none⟩ = some (.bool true) ∧ w'.cell? ⟨b4, 7, none⟩ = some (.slice la 1 1)) ∧ (w'.cell? ⟨b5, 0, none⟩ = some (.int .i64 0) ∧ w'.cell? ⟨b5, 1, none⟩ = some (.int .u8 xk) ∧ w'.cell? ⟨b5, 2, none⟩ = some (.int .i64 xs) ∧ w'.cell? ⟨b5, 3, none⟩ = some (.int .i64 xr) ∧ w'.cell? ⟨b5, 4, none⟩ = some (.int .i64 xa) ∧ w'.cell? ⟨b5, 5, none⟩ = some (.int .i64 0) ∧ w'.cell? ⟨b5, 6, none⟩ = some (.bool false) ∧ w'.cell? ⟨b5, 7, none⟩ = some (.slice ra 1 1))) (ds := [3]) #[false, false, false, false] (by kernel_rfl) rfl rfl hS (fun hHeld => ?_)
    refine with_tabW rg9_6.tab rg9_6.bits (fun HT_ HW_ => ?_)
    generalize W2.drew = w' at H2 H3 H4 H5 HL HR HB hS hHeld ⊢
    refine take_ (i := 0) (N := some 37) (v := ?_) (a' := ?_) #[true, false, false, false] rfl rfl (take_ofW HT_.out HW_.out (by kernel_rfl)) (fun _ _ _ h => h) (Or.inl ⟨by rfl, ?_⟩) hHeld ?_ ?_
    rotate_left
    · intro w' hw_
      try dsimp only at hw_
      obtain ⟨⟨x0, x1, x2, x3, x4, x5, x6, x7⟩, _⟩ := hw_
      go_simp
      try with_reducible rfl
    rotate_left
    · simp (maxSteps := 4000000) only [Act.put, List.setIfInBounds_toArray, List.set_cons_zero, List.set_cons_succ, i64_w, i32_w]
      try rfl
    refine take_ (i := 1) (N := some 38) (v := ?_) (a' := ?_) #[true, true, false, false] rfl rfl (take_ofW HT_.out HW_.out (by kernel_rfl)) (fun _ _ _ h => h) (Or.inl ⟨by rfl, ?_⟩) hHeld ?_ ?_
    rotate_left
    · intro w' hw_
      try dsimp only at hw_
      obtain ⟨_, x0, x1, x2, x3, x4, x5, x6, x7⟩ := hw_
      go_simp
      try with_reducible rfl
    rotate_left
    · simp (maxSteps := 4000000) only [Act.put, List.setIfInBounds_toArray, List.set_cons_zero, List.set_cons_succ, i64_w, i32_w]
      try rfl
    refine one_ (i := 2) (N := none) #[true, true, true, false] rfl rfl (one_of HT_.out (by kernel_rfl)) (by decide) (fun K hK => ?_)
    have hgA := set8W_grown w' b2 ⟨77, xk, xs, xr, xa, 9, true, []⟩ (.slice la 1 1)
    refine skip_ (w1 := set8W w' b2 ⟨77, xk, xs, xr, xa, 9, true, []⟩ (.slice la 1 1)) (by rfl) rfl ?_ ?_
    · (unfold set8W; obtain ⟨c0, c1, c2, c3, c4, c5, c6, c7⟩ := H2.out.cells; obtain ⟨f0, f1, f2, f3, f4, f5, f6, f7⟩ := H2.out.free; go_simp)
    have hq2 := H2.out
    unfold BoxU at hq2
    replace H2 := Lib.hid (H2.out.set8 ⟨77, xk, xs, xr, xa, 9, true, []⟩ (.slice la 1 1))
    replace H3 := Lib.hid (H3.out.other hgA (by have := HO.out; omega))
    replace H4 := Lib.hid (H4.out.other hgA (by have := HO.out; omega))
    replace H5 := Lib.hid (H5.out.other hgA (by have := HO.out; omega))
    replace HL := Lib.hid (HL.out.grown hgA (.inr (HL.out.ne hq2 (by decide))))
    replace HR := Lib.hid (HR.out.grown hgA (.inr (HR.out.ne hq2 (by decide))))
    replace HB := Lib.hid (set8W_below HB.out (show w.heap.size ≤ b2 by have := HO.out; have := Hb1.out; omega) ⟨77, xk, xs, xr, xa, 9, true, []⟩ (.slice la 1 1))
    generalize set8W w' b2 ⟨77, xk, xs, xr, xa, 9, true, []⟩ (.slice la 1 1) = w' at H2 H3 H4 H5 HL HR HB ⊢
    clear hgA hq2
    refine hK.out _ _ (And.intro H4.out.cells H5.out.cells) (fun hHeld => ?_)
    clear hK K
    refine last_ (i := 3) (N := none) #[true, true, true, true] rfl rfl (one_of HT_.out (by kernel_rfl)) (by decide) (fun K hK => ?_)
    refine skip_ (w1 := set8W w' b3 ⟨0, xk, xs, xr, xa, 0, false, []⟩ (.slice ra 1 1)) (by rfl) rfl ?_ ?_
    · (unfold set8W; obtain ⟨c0, c1, c2, c3, c4, c5, c6, c7⟩ := H3.out.cells; obtain ⟨f0, f1, f2, f3, f4, f5, f6, f7⟩ := H3.out.free; go_simp)
    refine hK.out _ _ ?_
    clear hK K
    refine done_ (done_of HT_.out (by kernel_rfl)) ?_
    go_wp2
    have hgB := set8W_grown w' b3 ⟨0, xk, xs, xr, xa, 0, false, []⟩ (.slice ra 1 1)
    have hq3 := H3.out
    have h2 := H2.out.other hgB (by have := HO.out; omega)
    have h3 := H3.out.set8 ⟨0, xk, xs, xr, xa, 0, false, []⟩ (.slice ra 1 1)
    unfold BoxU at hq3
    refine bodyPost_ret (results_cc rfl _ _ b2 b3 37 40 _ _ (0, 0) (0, 0) _ _ rfl h2 Try.underlying37 rfl tx_size rfl h3 Try.underlying40 rfl rtx_size) rfl ?_
    exact ⟨_, _, rfl, HL.out.grown hgB (.inr (HL.out.ne hq3 (by decide))), HR.out.grown hgB (.inr (HR.out.ne hq3 (by decide))), set8W_below HB.out (show w.heap.size ≤ b3 by have := HO.out; have := Hb1.out; omega) _ _⟩
end Go.Proofs.Ytdeeakjkhcdkaaa
