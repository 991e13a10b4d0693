/- req: the law's 'of': the program's and the document's request. No conditions beyond those that are written. -/
import Derived.Test.YtepgdjkmobngcaaXReqE
import Derived.Test.YtepgdjkmobngcaaXOpen
import Derived.BigQuiet
namespace Go.Proofs.Ytepgdjkmobngcaa
open Go.RowKit Go.Lib Go.Proofs.Ytepgdjkmobngcaa.P Go.Proofs.Ytepgdjkmobngcaa.BeS Go.Proofs.YtepgdjkmobngcaaW.PrintWords Go.Proofs.YtepgdjkmobngcaaW.PrintLast Go.Proofs.YtepgdjkmobngcaaW.PrintMore
set_option linter.unusedVariables false
set_option linter.unusedSimpArgs false
def rg7_10.T : Bool × List (List Nat × List Nat) := (true, [([], []), ([], []), ([0, 0], [0]), ([1, 2, 0, 1, 2], [1])])
def rg7_10.B : List Nat := [0, 0, 1, 7]
theorem rg7_10.tab : rtab .any (opsOf Try.f7 10) = rg7_10.T := by kernel_rfl
theorem rg7_10.bits : waitsOk rg7_10.T.2 rg7_10.B = true := by kernel_rfl
def cutN (s : ByteArray) : ByteArray := s.extract 0 (min s.size 300)
def ofQ (q : RQ) : RQ := { q with ek := 77, name := cutN q.name }
/-- The document's request, flat; the law's too. -/
def rfC (q : RQ) (v : Value) : Array Value := #[.int .u8 (q.k : Int), .int .i64 q.code, .int .u8 (q.ak : Int), .string q.name, .int .u64 (q.key : Int), .int .i64 q.ref, .int .i64 q.amt, .int .i64 q.n, v]
def RfAt (w : World) (b : Nat) (q : RQ) (v : Value) : Prop := w.heap[b]? = some (.cells (rfC q v) 42 (0, 0))
theorem RfAt.cells {w : World} {b : Nat} {q : RQ} {v : Value} (h : RfAt w b q v) : w.cell? ⟨b, 0, none⟩ = some (.int .u8 (q.k : Int)) ∧ w.cell? ⟨b, 1, none⟩ = some (.int .i64 q.code) ∧ w.cell? ⟨b, 2, none⟩ = some (.int .u8 (q.ak : Int)) ∧ w.cell? ⟨b, 3, none⟩ = some (.string q.name) ∧ w.cell? ⟨b, 4, none⟩ = some (.int .u64 (q.key : Int)) ∧ w.cell? ⟨b, 5, none⟩ = some (.int .i64 q.ref) ∧ w.cell? ⟨b, 6, none⟩ = some (.int .i64 q.amt) ∧ w.cell? ⟨b, 7, none⟩ = some (.int .i64 q.n) ∧ w.cell? ⟨b, 8, none⟩ = some v := by
  unfold RfAt at h
  refine ⟨?_, ?_, ?_, ?_, ?_, ?_, ?_, ?_, ?_⟩ <;> (unfold World.cell?; rw [h]; rfl)
theorem RfAt.free {w : World} {b : Nat} {q : RQ} {v : Value} (h : RfAt w b q v) : w.frozen? ⟨b, 0, none⟩ = false ∧ w.frozen? ⟨b, 1, none⟩ = false ∧ w.frozen? ⟨b, 2, none⟩ = false ∧ w.frozen? ⟨b, 3, none⟩ = false ∧ w.frozen? ⟨b, 4, none⟩ = false ∧ w.frozen? ⟨b, 5, none⟩ = false ∧ w.frozen? ⟨b, 6, none⟩ = false ∧ w.frozen? ⟨b, 7, none⟩ = false ∧ w.frozen? ⟨b, 8, none⟩ = false := by
  unfold RfAt at h
  refine ⟨?_, ?_, ?_, ?_, ?_, ?_, ?_, ?_, ?_⟩ <;> (unfold World.frozen?; rw [h]; rfl)
section
variable {w : World} {b : Nat} {q : RQ} {v : Value}
theorem RfAt.s0 (h : RfAt w b q v) (x : Nat) : RfAt (w.setCell ⟨b, 0, none⟩ (.int .u8 (x : Int))) b { q with k := x } v := heap_setCell_same w b 0 _ _ _ h
theorem RfAt.s1 (h : RfAt w b q v) (x : Int) : RfAt (w.setCell ⟨b, 1, none⟩ (.int .i64 x)) b { q with code := x } v := heap_setCell_same w b 1 _ _ _ h
theorem RfAt.s2 (h : RfAt w b q v) (x : Nat) : RfAt (w.setCell ⟨b, 2, none⟩ (.int .u8 (x : Int))) b { q with ak := x } v := heap_setCell_same w b 2 _ _ _ h
theorem RfAt.s3 (h : RfAt w b q v) (x : ByteArray) : RfAt (w.setCell ⟨b, 3, none⟩ (.string x)) b { q with name := x } v := heap_setCell_same w b 3 _ _ _ h
theorem RfAt.s4 (h : RfAt w b q v) (x : Nat) : RfAt (w.setCell ⟨b, 4, none⟩ (.int .u64 (x : Int))) b { q with key := x } v := heap_setCell_same w b 4 _ _ _ h
theorem RfAt.s5 (h : RfAt w b q v) (x : Int) : RfAt (w.setCell ⟨b, 5, none⟩ (.int .i64 x)) b { q with ref := x } v := heap_setCell_same w b 5 _ _ _ h
theorem RfAt.s6 (h : RfAt w b q v) (x : Int) : RfAt (w.setCell ⟨b, 6, none⟩ (.int .i64 x)) b { q with amt := x } v := heap_setCell_same w b 6 _ _ _ h
theorem RfAt.s7 (h : RfAt w b q v) (x : Int) : RfAt (w.setCell ⟨b, 7, none⟩ (.int .i64 x)) b { q with n := x } v := heap_setCell_same w b 7 _ _ _ h
theorem RfAt.s8 (h : RfAt w b q v) (x : Value) : RfAt (w.setCell ⟨b, 8, none⟩ x) b q x := heap_setCell_same w b 8 _ _ _ h
end
def set9 (w : World) (b : Nat) (q : RQ) (v : Value) : World :=
  ((((((((w.setCell ⟨b, 0, none⟩ (.int .u8 (q.k : Int))).setCell ⟨b, 1, none⟩ (.int .i64 q.code)).setCell ⟨b, 2, none⟩ (.int .u8 (q.ak : Int))).setCell ⟨b, 3, none⟩ (.string q.name)).setCell ⟨b, 4, none⟩ (.int .u64 (q.key : Int))).setCell ⟨b, 5, none⟩ (.int .i64 q.ref)).setCell ⟨b, 6, none⟩ (.int .i64 q.amt)).setCell ⟨b, 7, none⟩ (.int .i64 q.n)).setCell ⟨b, 8, none⟩ v
theorem set9_at {w : World} {b : Nat} {q0 : RQ} {v0 : Value} (h : RfAt w b q0 v0) (q : RQ) (v : Value) : ∃ e, RfAt (set9 w b q v) b { q with ek := e } v :=
  ⟨q0.ek, ((((((((h.s0 q.k).s1 q.code).s2 q.ak).s3 q.name).s4 q.key).s5 q.ref).s6 q.amt).s7 q.n).s8 v⟩
theorem set9_below {B : Nat} {a w : World} {b : Nat} (h : Below B a w) (hb : B ≤ b) (q : RQ) (v : Value) : Below B a (set9 w b q v) :=
  below_set (below_set (below_set (below_set (below_set (below_set (below_set (below_set (below_set h hb) hb) hb) hb) hb) hb) hb) hb) hb
theorem set9_grown {w : World} (b : Nat) (q : RQ) (v : Value) : w.grownBy (set9 w b q v) (some b) := by
  have h := fun (u : World) i x => Lib.grownBy_setCell u b i x
  exact grown_two (grown_two (grown_two (grown_two (grown_two (grown_two (grown_two (grown_two (h _ _ _) (h _ _ _)) (h _ _ _)) (h _ _ _)) (h _ _ _)) (h _ _ _)) (h _ _ _)) (h _ _ _)) (h _ _ _)
theorem rf_size : (Try.prog.info? 42).map (·.size) = some 9 := by kernel_rfl
theorem blk_other {w w' : World} {b c : Nat} {o : Obj} (h : w.heap[b]? = some o) (hg : w.grownBy w' (some c)) (hne : b ≠ c) : w'.heap[b]? = some o := (hg.block b (Array.getElem?_eq_some_iff.1 h).1 (fun e => hne (Option.some.inj e))).trans h
theorem alloc_keep {w : World} {k : Nat} {A : Obj} (h : w.heap[k]? = some A) (o : Obj) : (w.alloc o).heap[k]? = some A := blk_below h (below_alloc (Below.refl _ _) o)
theorem alloc_size (w : World) (o : Obj) : (w.alloc o).heap.size = w.heap.size + 1 := by simp
theorem five (w W : World) (A B C D E : Obj) (hW : W = ((((w.alloc A).alloc B).alloc C).alloc D).alloc E) :
    W.heap[w.heap.size]? = some A ∧ W.heap[w.heap.size + 1]? = some B ∧ W.heap[w.heap.size + 1 + 1]? = some C ∧ W.heap[w.heap.size + 1 + 1 + 1]? = some D ∧ W.heap[w.heap.size + 1 + 1 + 1 + 1]? = some E ∧ Below w.heap.size w W := by
  subst hW
  have a1 := heap_alloc_new w A
  have a2 := heap_alloc_new (w.alloc A) B
  have a3 := heap_alloc_new ((w.alloc A).alloc B) C
  have a4 := heap_alloc_new (((w.alloc A).alloc B).alloc C) D
  have a5 := heap_alloc_new ((((w.alloc A).alloc B).alloc C).alloc D) E
  simp only [alloc_size] at a2 a3 a4 a5
  exact ⟨alloc_keep (alloc_keep (alloc_keep (alloc_keep a1 _) _) _) _, alloc_keep (alloc_keep (alloc_keep a2 _) _) _, alloc_keep (alloc_keep a3 _) _, alloc_keep a4 _, a5,
    below_alloc (below_alloc (below_alloc (below_alloc (below_alloc (Below.refl _ _) _) _) _) _) _⟩
theorem below_row {B B' : Nat} {a w w' : World} {o : Option Nat} (h : Below B a w) (hg : w.grownBy w' o) (ho : ∀ i, o = some i → B' ≤ i) (hB : B ≤ B') (hs : B ≤ a.heap.size) : Below B a w' :=
  pw_below_grown h _ (Nat.le_trans hs h.size) hg (fun i hi => Nat.le_trans hB (ho i hi))
theorem below_size1 {b1 : Nat} {w w' : World} (h : Below b1 w w') (hb : w.heap.size = b1) : b1 ≤ w'.heap.size := by rw [← hb]; exact h.size
theorem LRow.neB {w : World} {E B b T : Nat} {v : Value} {rs : List Ln} {cs : Array Value} {fr : Nat × Nat} (h : LRow w E B v rs) (hb : w.heap[b]? = some (.cells cs T fr)) (hne : T ≠ E) : v.ownBlock = none ∨ v.ownBlock ≠ some b := by
  refine .inr (fun e => ?_)
  obtain ⟨c1, h1⟩ := h.at_ e
  rw [hb] at h1
  simp only [Option.some.injEq, Obj.cells.injEq] at h1
  exact hne h1.2.1
set_option maxHeartbeats 16000000 in
set_option maxRecDepth 20000 in
theorem of_ok (q : RQ) (a : Option Addr) (xs : List Ln) (cap : Nat) (hcap : xs.length ≤ cap ∧ cap ≤ maxLen) (w : World) (h : LnsAt w a xs) :
    Calls Try.prog 7 #[.agg (rfC q (.slice a xs.length cap))] w fun e w' => ∃ va vb, e = .returned (.tuple #[rqV (ofQ q) va, .agg (rfC (ofQ q) vb)]) ∧ LRow w' 81 w.heap.size va (xs.take 10) ∧ LRow w' 82 w.heap.size vb (xs.take 10) ∧ Below w.heap.size w w' := by
  have HF := Lib.hid h; clear h
  obtain ⟨k, ek, key, ref, amt, code, ak, name, n⟩ := q
  unfold ofQ cutN rqV rfC rqC
  simp only
  obtain ⟨j, hj, hj1, hj2, hj3⟩ : ∃ j : Nat, (if 300 < (name.size : Int) then 300 else (name.size : Int)) = (j : Int) ∧ j ≤ name.size ∧ j ≤ 300 ∧ min name.size 300 = j := ⟨min name.size 300, by split <;> omega, by omega, by omega, rfl⟩
  have hjm : min (name.size : Int) 300 = (j : Int) := by rw [← hj]; split <;> omega
  have s1 : (0 ≤ (j : Int)) = True := eq_true (by omega)
  have s2 : ((j : Int) ≤ (name.size : Int)) = True := eq_true (by omega)
  have s3 : (j ≤ name.size) = True := eq_true (by omega)
  have s4 : decide (j ≤ name.size) = true := decide_eq_true (by omega)
  rw [hj3]
  clear hj1 hj2 hj3
  obtain ⟨N, hN, hN1, hN2, hN3, hN4⟩ : ∃ N : Nat, (if 10 < (xs.length : Int) then 10 else (xs.length : Int)) = (N : Int) ∧ N ≤ xs.length ∧ N ≤ 10 ∧ N ≤ cap ∧ min 10 xs.length = N := ⟨min 10 xs.length, by split <;> omega, by omega, by omega, by omega, rfl⟩
  have c1 : (0 ≤ (N : Int)) = True := eq_true (by omega)
  have c2 : ((N : Int) ≤ (cap : Int)) = True := eq_true (by omega)
  have c3 : (N ≤ cap) = True := eq_true hN3
  have c4 : decide (N ≤ cap) = true := decide_eq_true hN3
  have hNm : min (xs.length : Int) 10 = (N : Int) := by rw [← hN]; split <;> omega
  have HRs := Lib.hid (show xs.take 10 = xs.take N by rw [← hN4, List.take_eq_take_min])
  have HN := Lib.hid (And.intro hN1 hN2); clear hN1 hN2 hN3 hN4 hcap
  go_enter Try.func7, Try.ntmps7
  go_upto_region 4 with (fail)
  obtain ⟨W, hW⟩ : ∃ W, W = ((((w.alloc (.cells #[.int .u8 (k : Int), .int .i64 code, .int .u8 (ak : Int), .string name, .int .u64 (key : Int), .int .i64 ref, .int .i64 amt, .int .i64 n, .slice a xs.length cap] 25)).alloc (.cells #[.int .u8 0, .int .u8 0, .int .u64 0, .int .i64 0, .int .i64 0, .int .i64 0, .int .u8 0, .string { data := #[] }, .slice none 0 0, .int .i64 0] 39)).alloc (.cells #[.int .u8 0, .int .i64 0, .int .u8 0, .string { data := #[] }, .int .u64 0, .int .i64 0, .int .i64 0, .int .i64 0, .slice none 0 0] 42)).alloc (.cells #[.int .u8 (k : Int), .int .u8 77, .int .u64 (key : Int), .int .i64 ref, .int .i64 amt, .int .i64 code, .int .u8 (ak : Int), .string (name.extract 0 j), .slice none 0 0, .int .i64 n] 39)).alloc (.cells #[.int .u8 (k : Int), .int .i64 code, .int .u8 (ak : Int), .string (name.extract 0 j), .int .u64 (key : Int), .int .i64 ref, .int .i64 amt, .int .i64 n, .slice none 0 0] 42) := ⟨_, rfl⟩
  rw [← hW]
  obtain ⟨h1, h2, h3, h4, h5, hb⟩ := five w W _ _ _ _ _ hW
  clear hW s1 s2 s3 s4 hj hjm
  have HB := Lib.hid hb; clear hb
  generalize hnm : name.extract 0 j = nm at h4 h5 ⊢
  have HNm := Lib.hid hnm; clear hnm
  have H2 := Lib.hid (show RqAt W (w.heap.size + 1) (rq0 0) (.slice none 0 0) from h2); clear h2
  have H3 := Lib.hid (show RfAt W (w.heap.size + 1 + 1) (rq0 0) (.slice none 0 0) from h3); clear h3
  have H4 := Lib.hid (show RqAt W (w.heap.size + 1 + 1 + 1) ⟨k, 77, key, ref, amt, code, ak, nm, n⟩ (.slice none 0 0) from h4); clear h4
  have H5 := Lib.hid (show RfAt W (w.heap.size + 1 + 1 + 1 + 1) ⟨k, 77, key, ref, amt, code, ak, nm, n⟩ (.slice none 0 0) from h5); clear h5
  have x8 : W.cell? ⟨w.heap.size, 8, none⟩ = some (.slice a xs.length cap) := cell_of_row W _ 8 _ _ (0, 0) h1
  clear h1
  have HO := Lib.hid (show w.heap.size < w.heap.size + 1 ∧ w.heap.size + 1 < w.heap.size + 1 + 1 ∧ w.heap.size + 1 + 1 < w.heap.size + 1 + 1 + 1 ∧ w.heap.size + 1 + 1 + 1 < w.heap.size + 1 + 1 + 1 + 1 by omega)
  generalize w.heap.size + 1 + 1 + 1 + 1 = b5 at H5 HO ⊢
  generalize w.heap.size + 1 + 1 + 1 = b4 at H4 HO ⊢
  generalize w.heap.size + 1 + 1 = b3 at H3 HO ⊢
  generalize w.heap.size + 1 = b2 at H2 HO ⊢
  generalize hb1 : w.heap.size = b1 at x8 HO ⊢
  have Hb1 := Lib.hid hb1
  clear hb1
  go_wp2_with fail
  clear hN hNm c1 c2 c3 c4 x8
  go_loopw [58] (fun i wr => ∃ (j : Nat) (va vb : Value), j ≤ N ∧ i = .int .i64 (j : Int) ∧ RqAt wr b4 ⟨k, 77, key, ref, amt, code, ak, nm, n⟩ va ∧ RfAt wr b5 ⟨k, 77, key, ref, amt, code, ak, nm, n⟩ vb ∧ RqAt wr b2 (rq0 0) (.slice none 0 0) ∧ RfAt wr b3 (rq0 0) (.slice none 0 0) ∧ LRow wr 81 w.heap.size va (xs.take j) ∧ LRow wr 82 w.heap.size vb (xs.take j) ∧ Below w.heap.size w wr) (fun i _ => N - (RowKit.intOf i).toNat)
  case atStart => exact ⟨0, _, _, Nat.zero_le _, rfl, H4.out, H5.out, H2.out, H3.out, World.ownsRow_nil _ _ _ _, World.ownsRow_nil _ _ _ _, HB.out⟩
  case round =>
    clear H2 H3 H4 H5 HB
    obtain ⟨j, va, vb, hj, rfl, h4, h5, h2, h3, h6, h7, h9⟩ := hrel
    have H4 := Lib.hid h4; clear h4
    have H5 := Lib.hid h5; clear h5
    have H2 := Lib.hid h2; clear h2
    have H3 := Lib.hid h3; clear h3
    have HA := Lib.hid h6; clear h6
    have HD := Lib.hid h7; clear h7
    have HB := Lib.hid h9; clear h9
    have HMl := Lib.hid (show (xs.take j).length = j by rw [List.length_take]; exact Nat.min_eq_left (Nat.le_trans hj HN.out.1))
    obtain ⟨aa, ca, rfl⟩ := HA.out.form
    obtain ⟨ab, cb, rfl⟩ := HD.out.form
    rw [HMl.out] at HA HD H4 H5
    by_cases hlt : j < N
    · have hjf : j < xs.length := Nat.lt_of_lt_of_le hlt HN.out.1
      have HNl := Lib.hid (show j ≤ 1000 by have := HN.out; omega)
      obtain ⟨ga, off, rfl, k0, k1⟩ := HF.out.below HB.out j hjf
      have HMap := Lib.hid (take_snoc' xs j hjf)
      generalize xs[j] = p at k0 k1 HMap
      obtain ⟨pk, pb⟩ := p
      simp only at k0 k1
      have e3 : wrap64 ((j : Int) + 1) = ((j + 1 : Nat) : Int) := wrap_succP j (Nat.lt_of_lt_of_le hlt (Nat.le_trans HN.out.2 (by decide)))
      have Hlt := Lib.hid hlt; clear hj
      have HX := Lib.hid (heap_alloc_new wr (.cells #[.int .i64 pk, .int .i64 pb] 79))
      have ha := below_alloc (Below.refl wr.heap.size wr) (.cells #[.int .i64 pk, .int .i64 pb] 79)
      replace H4 := Lib.hid (show RqAt _ _ _ _ from blk_below H4.out ha)
      replace H5 := Lib.hid (show RfAt _ _ _ _ from blk_below H5.out ha)
      replace H2 := Lib.hid (show RqAt _ _ _ _ from blk_below H2.out ha)
      replace H3 := Lib.hid (show RfAt _ _ _ _ from blk_below H3.out ha)
      replace HA := Lib.hid (HA.out.below ha)
      replace HD := Lib.hid (HD.out.below ha)
      replace HB := Lib.hid (chain2 HB.out ha)
      clear ha
      have y4 := H4.out.cells.2.2.2.2.2.2.2.2.1
      obtain ⟨x0, x1, _, _⟩ := wide_cells HX.out
      have HN2 := Lib.hid (heap_alloc_new (wr.alloc (.cells #[.int .i64 pk, .int .i64 pb] 79)) (.cells #[.int .i64 pk, .int .i64 pb] 81))
      have ha := below_alloc (Below.refl (wr.alloc (.cells #[.int .i64 pk, .int .i64 pb] 79)).heap.size (wr.alloc (.cells #[.int .i64 pk, .int .i64 pb] 79))) (.cells #[.int .i64 pk, .int .i64 pb] 81)
      replace H4 := Lib.hid (show RqAt _ _ _ _ from blk_below H4.out ha)
      replace H5 := Lib.hid (show RfAt _ _ _ _ from blk_below H5.out ha)
      replace H2 := Lib.hid (show RqAt _ _ _ _ from blk_below H2.out ha)
      replace H3 := Lib.hid (show RfAt _ _ _ _ from blk_below H3.out ha)
      replace HA := Lib.hid (HA.out.below ha)
      replace HD := Lib.hid (HD.out.below ha)
      replace HB := Lib.hid (chain2 HB.out ha)
      replace HX := Lib.hid (blk_below HX.out ha); clear ha
      rw [show (wr.alloc (.cells #[.int .i64 pk, .int .i64 pb] 79)).heap.size = wr.heap.size + 1 by simp] at HN2
      obtain ⟨ax, cx, w4, hr, ho2, hgr⟩ := l_addN Try.underlying35 line_info 35 w.heap.size _ _ j HMl.out _ HA.out HNl.out (pk, pb) (wr.heap.size + 1) HN2.out HB.out.size
      have HRun := Lib.hid hr; clear hr
      have HAD := Lib.hid (LRow.apart HD.out HA.out (by decide))
      replace HD := Lib.hid (LRow.grown HD.out hgr HAD.out)
      replace HX := Lib.hid (LRow.keeps HA.out hgr HX.out (by decide))
      replace H4 := Lib.hid (show RqAt _ _ _ _ from LRow.keeps HA.out hgr H4.out (by decide))
      replace H5 := Lib.hid (show RfAt _ _ _ _ from LRow.keeps HA.out hgr H5.out (by decide))
      replace H2 := Lib.hid (show RqAt _ _ _ _ from LRow.keeps HA.out hgr H2.out (by decide))
      replace H3 := Lib.hid (show RfAt _ _ _ _ from LRow.keeps HA.out hgr H3.out (by decide))
      replace HB := Lib.hid (below_row HB.out hgr (fun i hi => (World.ownsRow.lt HA.out i hi).1) (Nat.le_refl _) (Nat.le_refl _))
      replace HA := Lib.hid ho2; clear ho2 hgr HN2 HAD
      have f8 := H4.out.froz.2.2.2.2.2.2.1
      have z8 := H4.out.cells.2.2.2.2.2.2.2.2.1
      go_upto_region 8 with (at_builtin; refine wpList_append_run rfl _ _ 35 rfl _ _ rfl rfl HRun.out ?_)
      clear f8 z8 x0 x1 y4 k0 k1 HRun
      have hg := Lib.grownBy_setCell w4 b4 8 (.slice ax (j + 1) cx)
      replace HX := Lib.hid (blk_other HX.out hg (fun e => by
        have h1 := H4.out
        unfold RqAt at h1
        rw [← e, HX.out] at h1
        simp at h1))
      replace HA := Lib.hid (LRow.grown HA.out hg (LRow.neB HA.out H4.out (by decide)))
      replace HD := Lib.hid (LRow.grown HD.out hg (LRow.neB HD.out H4.out (by decide)))
      replace H5 := Lib.hid (show RfAt _ _ _ _ from blk_other H5.out hg (by have := HO.out; omega))
      replace H2 := Lib.hid (show RqAt _ _ _ _ from blk_other H2.out hg (by have := HO.out; omega))
      replace H3 := Lib.hid (show RfAt _ _ _ _ from blk_other H3.out hg (by have := HO.out; omega))
      replace HB := Lib.hid (below_row HB.out hg (fun i hi => by cases hi; exact Nat.le_refl _) (by have h1 := HO.out; have h2 := Hb1.out; omega) (Nat.le_refl _))
      replace H4 := Lib.hid (H4.out.setV (.slice ax (j + 1) cx)); clear hg
      generalize w4.setCell ⟨b4, 8, none⟩ (.slice ax (j + 1) cx) = w5 at HX H4 H5 H2 H3 HA HD HB ⊢
      generalize wr.heap.size = bx at HX ⊢
      have y5 := H5.out.cells.2.2.2.2.2.2.2.2
      obtain ⟨x0, x1, _, _⟩ := wide_cells HX.out
      have HN2 := Lib.hid (heap_alloc_new w5 (.cells #[.int .i64 pk, .int .i64 pb] 82))
      have ha := below_alloc (Below.refl w5.heap.size w5) (.cells #[.int .i64 pk, .int .i64 pb] 82)
      replace H4 := Lib.hid (show RqAt _ _ _ _ from blk_below H4.out ha)
      replace H5 := Lib.hid (show RfAt _ _ _ _ from blk_below H5.out ha)
      replace H2 := Lib.hid (show RqAt _ _ _ _ from blk_below H2.out ha)
      replace H3 := Lib.hid (show RfAt _ _ _ _ from blk_below H3.out ha)
      replace HA := Lib.hid (HA.out.below ha)
      replace HD := Lib.hid (HD.out.below ha)
      replace HB := Lib.hid (chain2 HB.out ha); clear ha
      obtain ⟨ay, cy, w7, hr, ho2, hgr⟩ := l_addN Try.underlying40 line22_info 40 w.heap.size _ _ j HMl.out _ HD.out HNl.out (pk, pb) w5.heap.size HN2.out HB.out.size
      have HRun := Lib.hid hr; clear hr
      have HAD := Lib.hid (LRow.apart HA.out HD.out (by decide))
      replace HA := Lib.hid (LRow.grown HA.out hgr HAD.out)
      replace H4 := Lib.hid (show RqAt _ _ _ _ from LRow.keeps HD.out hgr H4.out (by decide))
      replace H5 := Lib.hid (show RfAt _ _ _ _ from LRow.keeps HD.out hgr H5.out (by decide))
      replace H2 := Lib.hid (show RqAt _ _ _ _ from LRow.keeps HD.out hgr H2.out (by decide))
      replace H3 := Lib.hid (show RfAt _ _ _ _ from LRow.keeps HD.out hgr H3.out (by decide))
      replace HB := Lib.hid (below_row HB.out hgr (fun i hi => (World.ownsRow.lt HD.out i hi).1) (Nat.le_refl _) (Nat.le_refl _))
      replace HD := Lib.hid ho2; clear ho2 hgr HN2 HAD
      have f8 := H5.out.free.2.2.2.2.2.2.2.2
      have z8 := H5.out.cells.2.2.2.2.2.2.2.2
      go_wp2_with (at_builtin; refine wpList_append_run rfl _ _ 40 rfl _ _ rfl rfl HRun.out ?_)
      clear f8 z8 x0 x1 y5 HRun HX
      have hg := Lib.grownBy_setCell w7 b5 8 (.slice ay (j + 1) cy)
      replace HA := Lib.hid (LRow.grown HA.out hg (LRow.neB HA.out H5.out (by decide)))
      replace HD := Lib.hid (LRow.grown HD.out hg (LRow.neB HD.out H5.out (by decide)))
      replace H4 := Lib.hid (show RqAt _ _ _ _ from blk_other H4.out hg (by have := HO.out; omega))
      replace H2 := Lib.hid (show RqAt _ _ _ _ from blk_other H2.out hg (by have := HO.out; omega))
      replace H3 := Lib.hid (show RfAt _ _ _ _ from blk_other H3.out hg (by have := HO.out; omega))
      replace HB := Lib.hid (below_row HB.out hg (fun i hi => by cases hi; exact Nat.le_refl _) (by have h1 := HO.out; have h2 := Hb1.out; omega) (Nat.le_refl _))
      replace H5 := Lib.hid (H5.out.s8 (.slice ay (j + 1) cy)); clear hg
      go_roundw
      case rel => exact ⟨j + 1, _, _, Hlt.out, by first | rw [e3] | rfl, H4.out, H5.out, H2.out, H3.out, by rw [HMap.out]; exact HA.out, by rw [HMap.out]; exact HD.out, HB.out⟩
      case measure => (first | rw [e3] | rw [show ((j : Int) + 1) = ((j + 1 : Nat) : Int) from rfl]); simp only [RowKit.intOf, Int.toNat_natCast]; exact Nat.sub_lt_sub_left Hlt.out (Nat.lt_succ_self j)
    · obtain rfl : j = N := Nat.le_antisymm hj (Nat.le_of_not_lt hlt)
      go_upto_region 10 with (fail)
      replace H2 := Lib.hid (show RqAt wr.drew b2 _ _ from H2.out)
      replace H3 := Lib.hid (show RfAt wr.drew b3 _ _ from H3.out)
      replace H4 := Lib.hid (show RqAt wr.drew b4 _ _ from H4.out)
      replace H5 := Lib.hid (show RfAt wr.drew b5 _ _ from H5.out)
      replace HA := Lib.hid (show LRow wr.drew _ _ _ _ from HA.out)
      replace HD := Lib.hid (show LRow wr.drew _ _ _ _ from HD.out)
      replace HB := Lib.hid (below_drew1 HB.out)
      have hS := And.intro H4.out.cells H5.out.cells
      simp only at hS
      refine start_ (n := 4) (S := fun w' => (w'.cell? ⟨b4, 0, none⟩ = some (.int .u8 (k : Int)) ∧ w'.cell? ⟨b4, 1, none⟩ = some (.int .u8 ((77 : Nat) : Int)) ∧ w'.cell? ⟨b4, 2, none⟩ = some (.int .u64 (key : Int)) ∧ w'.cell? ⟨b4, 3, none⟩ = some (.int .i64 ref) ∧ w'.cell? ⟨b4, 4, none⟩ = some (.int .i64 amt) ∧ w'.cell? ⟨b4, 5, none⟩ = some (.int .i64 code) ∧ w'.cell? ⟨b4, 6, none⟩ = some (.int .u8 (ak : Int)) ∧ w'.cell? ⟨b4, 7, none⟩ = some (.string nm) ∧ w'.cell? ⟨b4, 8, none⟩ = some (.slice aa j ca) ∧ w'.cell? ⟨b4, 9, none⟩ = some (.int .i64 n)) ∧ (w'.cell? ⟨b5, 0, none⟩ = some (.int .u8 (k : Int)) ∧ w'.cell? ⟨b5, 1, none⟩ = some (.int .i64 code) ∧ w'.cell? ⟨b5, 2, none⟩ = some (.int .u8 (ak : Int)) ∧ w'.cell? ⟨b5, 3, none⟩ = some (.string nm) ∧ w'.cell? ⟨b5, 4, none⟩ = some (.int .u64 (key : Int)) ∧ w'.cell? ⟨b5, 5, none⟩ = some (.int .i64 ref) ∧ w'.cell? ⟨b5, 6, none⟩ = some (.int .i64 amt) ∧ w'.cell? ⟨b5, 7, none⟩ = some (.int .i64 n) ∧ w'.cell? ⟨b5, 8, none⟩ = some (.slice ab j cb))) (ds := [3]) #[false, false, false, false] (by kernel_rfl) rfl rfl hS (fun hHeld => ?_)
      refine with_tabW rg7_10.tab rg7_10.bits (fun HT_ HW_ => ?_)
      generalize wr.drew = w' at H2 H3 H4 H5 HA HD HB hS hHeld ⊢
      refine take_ (i := 0) (N := some 81) (v := ?_) (a' := ?_) #[true, false, false, false] rfl rfl (take_ofW HT_.out HW_.out (by kernel_rfl)) (fun _ _ _ h => h) (Or.inl ⟨by rfl, ?_⟩) hHeld ?_ ?_
      rotate_left
      · intro w' hw_
        try dsimp only at hw_
        obtain ⟨⟨x0, x1, x2, x3, x4, x5, x6, x7, x8, x9⟩, _⟩ := hw_
        go_simp
        try with_reducible rfl
      rotate_left
      · simp (maxSteps := 4000000) only [Act.put, List.setIfInBounds_toArray, List.set_cons_zero, List.set_cons_succ, i64_w, i32_w]
        try rfl
      refine take_ (i := 1) (N := some 82) (v := ?_) (a' := ?_) #[true, true, false, false] rfl rfl (take_ofW HT_.out HW_.out (by kernel_rfl)) (fun _ _ _ h => h) (Or.inl ⟨by rfl, ?_⟩) hHeld ?_ ?_
      rotate_left
      · intro w' hw_
        try dsimp only at hw_
        obtain ⟨_, x0, x1, x2, x3, x4, x5, x6, x7, x8⟩ := hw_
        go_simp
        try with_reducible rfl
      rotate_left
      · simp (maxSteps := 4000000) only [Act.put, List.setIfInBounds_toArray, List.set_cons_zero, List.set_cons_succ, i64_w, i32_w]
        try rfl
      refine one_ (i := 2) (N := none) #[true, true, true, false] rfl rfl (one_of HT_.out (by kernel_rfl)) (by decide) (fun K hK => ?_)
      have hgA := set10_grown (w := w') b2 ⟨k, 77, key, ref, amt, code, ak, nm, n⟩ (.slice aa j ca)
      refine skip_ (w1 := set10 w' b2 ⟨k, 77, key, ref, amt, code, ak, nm, n⟩ (.slice aa j ca)) (by rfl) rfl ?_ ?_
      · (unfold set10; obtain ⟨c0, c1, c2, c3, c4, c5, c6, c7, c8, c9⟩ := H2.out.cells; obtain ⟨f2, f3, f4, f5, f6, f7, f8, f9⟩ := H2.out.froz; obtain ⟨f0, f1⟩ := H2.out.froz2; go_simp)
      have hq2 := H2.out
      unfold RqAt at hq2
      replace HA := Lib.hid (LRow.grown HA.out hgA (LRow.neB HA.out hq2 (by decide)))
      replace HD := Lib.hid (LRow.grown HD.out hgA (LRow.neB HD.out hq2 (by decide)))
      replace H3 := Lib.hid (show RfAt _ _ _ _ from blk_other H3.out hgA (by have := HO.out; omega))
      replace H4 := Lib.hid (show RqAt _ _ _ _ from blk_other H4.out hgA (by have := HO.out; omega))
      replace H5 := Lib.hid (show RfAt _ _ _ _ from blk_other H5.out hgA (by have := HO.out; omega))
      replace H2 := Lib.hid (set10_at H2.out ⟨k, 77, key, ref, amt, code, ak, nm, n⟩ (.slice aa j ca))
      replace HB := Lib.hid (set10_below HB.out (show w.heap.size ≤ b2 by have h1 := HO.out; have h2 := Hb1.out; omega) ⟨k, 77, key, ref, amt, code, ak, nm, n⟩ (.slice aa j ca))
      generalize set10 w' b2 ⟨k, 77, key, ref, amt, code, ak, nm, n⟩ (.slice aa j ca) = w' at H2 H3 H4 H5 HA HD HB ⊢
      clear hgA hq2
      refine hK.out _ _ (And.intro H4.out.cells H5.out.cells) (fun hHeld => ?_)
      clear hK K
      refine last_ (i := 3) (N := none) #[true, true, true, true] rfl rfl (one_of HT_.out (by kernel_rfl)) (by decide) (fun K hK => ?_)
      refine skip_ (w1 := set9 w' b3 ⟨k, 77, key, ref, amt, code, ak, nm, n⟩ (.slice ab j cb)) (by rfl) rfl ?_ ?_
      · (unfold set9; obtain ⟨c0, c1, c2, c3, c4, c5, c6, c7, c8⟩ := H3.out.cells; obtain ⟨f0, f1, f2, f3, f4, f5, f6, f7, f8⟩ := H3.out.free; go_simp)
      refine hK.out _ _ ?_
      clear hK K
      refine done_ (done_of HT_.out (by kernel_rfl)) ?_
      go_wp2
      have hgB := set9_grown (w := w') b3 ⟨k, 77, key, ref, amt, code, ak, nm, n⟩ (.slice ab j cb)
      have hq3 := H3.out
      have h2 := show RqAt _ _ ⟨k, 77, key, ref, amt, code, ak, nm, n⟩ _ from blk_other H2.out hgB (by have := HO.out; omega)
      obtain ⟨e, h3⟩ := set9_at H3.out ⟨k, 77, key, ref, amt, code, ak, nm, n⟩ (.slice ab j cb)
      unfold RfAt at hq3
      refine bodyPost_ret (results_cc rfl _ _ b2 b3 39 42 _ _ (0, 0) (0, 0) _ _ rfl h2 Try.underlying39 rfl rq_size rfl h3 Try.underlying42 rfl rf_size) rfl ?_
      refine ⟨_, _, by rw [HNm.out]; rfl, ?_, ?_, set9_below HB.out (show w.heap.size ≤ b3 by have h1 := HO.out; have h2 := Hb1.out; omega) _ _⟩
      · rw [HRs.out]; exact LRow.grown HA.out hgB (LRow.neB HA.out hq3 (by decide))
      · rw [HRs.out]; exact LRow.grown HD.out hgB (LRow.neB HD.out hq3 (by decide))
end Go.Proofs.Ytepgdjkmobngcaa
