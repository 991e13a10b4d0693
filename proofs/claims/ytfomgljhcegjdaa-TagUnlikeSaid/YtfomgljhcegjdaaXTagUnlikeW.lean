/- TagUnlike: two tags that may be, and are unlike, have unlike bytes, whatever the data. No conditions beyond the form's own reach. -/
import Derived.Test.YtfomgljhcegjdaaXTagC
import Derived.Test.YtfomgljhcegjdaaXStr
import Derived.Deep.Cut
namespace Go.Proofs.Ytfomgljhcegjdaa
open Go.RowKit Go.Lib Go.Proofs.Ytfomgljhcegjdaa.P Go.Proofs.Ytfomgljhcegjdaa.BeS Go.Proofs.Ytfomgljhcegjdaa.PoS Go.Proofs.YtfomgljhcegjdaaW.PrintWords Go.Proofs.YtfomgljhcegjdaaW.PrintLast Go.Proofs.YtfomgljhcegjdaaW.PrintMore
set_option linter.unusedVariables false
set_option linter.unusedSimpArgs false
def rg5_3.T : Bool × List (List Nat × List Nat) := (true, [([], []), ([0], [0]), ([1, 1], [1]), ([], []), ([3, 2], [3]), ([4, 4], [4]), ([], []), ([], []), ([6, 2, 5, 0, 1, 2, 6, 7], [2, 6]), ([7, 5, 8, 0, 1, 2, 3, 4, 5, 6, 7, 8], [5, 7])])
def rg5_3.B : List Nat := [0, 1, 3, 0, 15, 31, 0, 0, 255, 511]
theorem rg5_3.tab : rtab .any (opsOf Try.f5 3) = rg5_3.T := by kernel_rfl
theorem rg5_3.bits : waitsOk rg5_3.T.2 rg5_3.B = true := by kernel_rfl
theorem set5T {w : World} {b : Nat} {c0 c1 c2 c3 c4 : Value} {T : TypeId} (h : w.heap[b]? = some (.cells #[c0, c1, c2, c3, c4] T (0, 0))) (t : Tg) : TgAt (((((w.setCell ⟨b, 0, none⟩ (.int .u8 (t.kind : Int))).setCell ⟨b, 1, none⟩ (.int .i64 t.log)).setCell ⟨b, 2, none⟩ (.int .u64 (t.seq : Int))).setCell ⟨b, 3, none⟩ (.int .i64 t.pos)).setCell ⟨b, 4, none⟩ (.int .i64 t.len)) b T t :=
  heap_setCell_same _ b 4 _ _ (.int .i64 t.len) (heap_setCell_same _ b 3 _ _ (.int .i64 t.pos) (heap_setCell_same _ b 2 _ _ (.int .u64 (t.seq : Int)) (heap_setCell_same _ b 1 _ _ (.int .i64 t.log) (heap_setCell_same _ b 0 _ _ (.int .u8 (t.kind : Int)) h))))
theorem off5T {w : World} {b g : Nat} {o : Option Obj} (t : Tg) (hne : g ≠ b) (h : w.heap[g]? = o) : (((((w.setCell ⟨b, 0, none⟩ (.int .u8 (t.kind : Int))).setCell ⟨b, 1, none⟩ (.int .i64 t.log)).setCell ⟨b, 2, none⟩ (.int .u64 (t.seq : Int))).setCell ⟨b, 3, none⟩ (.int .i64 t.pos)).setCell ⟨b, 4, none⟩ (.int .i64 t.len)).heap[g]? = o := by
  rw [heap_setCell_other _ _ g _ hne, heap_setCell_other _ _ g _ hne, heap_setCell_other _ _ g _ hne, heap_setCell_other _ _ g _ hne, heap_setCell_other _ _ g _ hne]; exact h
theorem tab5T {w : World} {b g : Nat} (t : Tg) (hne : g ≠ b) (h : TabAt w g) : TabAt (((((w.setCell ⟨b, 0, none⟩ (.int .u8 (t.kind : Int))).setCell ⟨b, 1, none⟩ (.int .i64 t.log)).setCell ⟨b, 2, none⟩ (.int .u64 (t.seq : Int))).setCell ⟨b, 3, none⟩ (.int .i64 t.pos)).setCell ⟨b, 4, none⟩ (.int .i64 t.len)) g := ((((h.setT hne).setT hne).setT hne).setT hne).setT hne
theorem below5T {w0 w : World} {B b : Nat} (t : Tg) (hb : B ≤ b) (h : Below B w0 w) : Below B w0 (((((w.setCell ⟨b, 0, none⟩ (.int .u8 (t.kind : Int))).setCell ⟨b, 1, none⟩ (.int .i64 t.log)).setCell ⟨b, 2, none⟩ (.int .u64 (t.seq : Int))).setCell ⟨b, 3, none⟩ (.int .i64 t.pos)).setCell ⟨b, 4, none⟩ (.int .i64 t.len)) :=
  ((((h.setCell (p := ⟨b, 0, none⟩) hb _).setCell (p := ⟨b, 1, none⟩) hb _).setCell (p := ⟨b, 2, none⟩) hb _).setCell (p := ⟨b, 3, none⟩) hb _).setCell (p := ⟨b, 4, none⟩) hb _
def UnlR (g B : Nat) (w0 : World) (x y : Tg) (s8 s9 : Value) (w : World) : Prop := ∃ b8 b9, s8 = .pointer (some ⟨b8, 0, none⟩) ∧ s9 = .pointer (some ⟨b9, 0, none⟩) ∧ TgAt w b8 37 x ∧ TgAt w b9 37 y ∧ TabAt w g ∧ Below B w0 w
set_option maxHeartbeats 16000000 in
set_option maxRecDepth 100000 in
theorem tagUnlike_walk (x y : Tg) (hx : x.Ok) (hy : y.Ok) (d : ByteArray) (hd0 : d.size ≤ 140737488351232) (w : World) :
    Calls Try.prog 5 #[tgV x, tgV y, .string d] w fun e w' => e = .returned (.bool true) ∧ Below w.heap.size w w' := by
  have HO := Lib.hid (And.intro hx hy); clear hx hy
  obtain ⟨N, hN, hN1, hN2, hN3, hN4⟩ : ∃ N : Nat, (if 100 < (d.size : Int) then 100 else (d.size : Int)) = (N : Int) ∧ N ≤ d.size ∧ N ≤ 100 ∧ N ≤ d.size ∧ min 100 d.size = N := ⟨min 100 d.size, by split <;> omega, by omega, by omega, by omega, rfl⟩
  have c1 : (0 ≤ (N : Int)) = True := eq_true (by omega)
  have c2 : ((N : Int) ≤ (d.size : Int)) = True := eq_true (by omega)
  have c3 : (N ≤ d.size) = True := eq_true hN3
  have c4 : decide (N ≤ d.size) = true := decide_eq_true hN3
  have hNm : min (d.size : Int) 100 = (N : Int) := by rw [← hN]; split <;> omega
  have HN := Lib.hid (And.intro hN1 hN2); clear hN1 hN2 hN3 hN4 hd0
  have hz := make_zero
  have HX := Lib.hid ((TgAt.new w 24 x).below (below_alloc (Below.refl _ _) (.cells #[.int .u8 (y.kind : Int), .int .i64 y.log, .int .u64 (y.seq : Int), .int .i64 y.pos, .int .i64 y.len] 24)))
  have HY := Lib.hid (TgAt.new (w.alloc (.cells #[.int .u8 (x.kind : Int), .int .i64 x.log, .int .u64 (x.seq : Int), .int .i64 x.pos, .int .i64 x.len] 24)) 24 y)
  have HB := Lib.hid (below_then (below_alloc (Below.refl w.heap.size w) (.cells #[.int .u8 (x.kind : Int), .int .i64 x.log, .int .u64 (x.seq : Int), .int .i64 x.pos, .int .i64 x.len] 24)) (by simp) (below_alloc (Below.refl _ _) (.cells #[.int .u8 (y.kind : Int), .int .i64 y.log, .int .u64 (y.seq : Int), .int .i64 y.pos, .int .i64 y.len] 24)))
  rw [show (w.alloc (.cells #[.int .u8 (x.kind : Int), .int .i64 x.log, .int .u64 (x.seq : Int), .int .i64 x.pos, .int .i64 x.len] 24)).heap.size = w.heap.size + 1 by simp] at HY
  unfold tgV
  go_enter Try.func5, Try.ntmps5
  go_wp2_with fail
  generalize (w.alloc (.cells #[.int .u8 (x.kind : Int), .int .i64 x.log, .int .u64 (x.seq : Int), .int .i64 x.pos, .int .i64 x.len] 24)).alloc (.cells #[.int .u8 (y.kind : Int), .int .i64 y.log, .int .u64 (y.seq : Int), .int .i64 y.pos, .int .i64 y.len] 24) = w0 at HX HY HB ⊢
  obtain ⟨bx, hbx⟩ : ∃ bx, bx = w.heap.size := ⟨_, rfl⟩
  rw [← hbx] at HX HY ⊢
  rw [show (⟨bx + 1, 0, none⟩ : Addr) = ⟨bx + 1, 0, none⟩ from rfl]
  generalize bx + 1 = byy at HY ⊢
  clear hbx
  obtain ⟨dd, hdd⟩ : ∃ dd, dd = d.extract 0 N := ⟨_, rfl⟩
  rw [← hdd]
  have HDd := Lib.hid (show dd.size ≤ 100 by rw [hdd, ByteArray.size_extract]; have := HN.out; omega)
  clear hdd hN hNm c1 c2 c3 c4
  refine (poly_Make.calls _).mono ?_
  rintro e w1 ⟨rfl, hd⟩
  replace HX := Lib.hid (HX.out.below hd)
  replace HY := Lib.hid (HY.out.below hd)
  replace HB := Lib.hid (chain2 HB.out hd); clear hd
  go_wp2_with (refine wpList_store_row rfl 27 _ _ rfl w1.heap.size (tabCells 256) rfl rfl 27 (tabCells 0) (heap_alloc_new w1 _) make_info (by rw [tabCells_size, tabCells_size]) (tabCells_one _) ?_)
  clear hz
  have hd : Below w1.heap.size w1 ((w1.alloc (.cells (tabCells 0) 27)).setRow w1.heap.size (tabCells 256)) := below_setRow (below_alloc (Below.refl w1.heap.size w1) _) (Nat.le_refl _) _
  have hT := (made_facts (Below.refl w1.heap.size w1) _ rfl).1
  replace HX := Lib.hid (HX.out.below hd)
  replace HY := Lib.hid (HY.out.below hd)
  replace HB := Lib.hid (chain2 HB.out hd); clear hd
  generalize (w1.alloc (.cells (tabCells 0) 27)).setRow w1.heap.size (tabCells 256) = w2 at HX HY HB hT ⊢
  generalize w1.heap.size = gp at hT ⊢
  have HT := Lib.hid hT; clear hT
  go_wp2_with fail
  rw [show ∀ (a : Act) (v : Value), a.put none v = a from fun _ _ => rfl]
  go_cut [8, 9] from 14 (fun s8 s9 wx => UnlR gp w.heap.size w (tameT x) (tameT y) s8 s9 wx)
  case first =>
    have hS : TgAt w2.drew bx 24 x ∧ TgAt w2.drew byy 24 y := ⟨HX.out, HY.out⟩
    replace HT := Lib.hid (show TabAt w2.drew gp from HT.out)
    replace HB := Lib.hid (show Below w.heap.size w w2.drew from below_drew1 HB.out)
    clear HX HY
    refine start_ (n := 10) (S := fun w' => TgAt w' bx 24 x ∧ TgAt w' byy 24 y) (ds := [8, 9]) #[false, false, false, false, false, false, false, false, false, false] (by kernel_rfl) rfl rfl hS (fun hHeld => ?_)
    refine with_tabW rg5_3.tab rg5_3.bits (fun HT_ HW_ => ?_)
    generalize w2.drew = w' at HT HB hHeld ⊢
    refine take_ (i := 0) (N := some 20) (v := ?_) (a' := ?_) #[true, false, false, false, false, false, false, false, false, false] rfl rfl (take_ofW HT_.out HW_.out (by kernel_rfl)) (fun _ _ _ h => h) (Or.inl ⟨by rfl, ?_⟩) hHeld ?_ ?_
    rotate_left
    · intro w' hw_
      try dsimp only at hw_
      obtain ⟨x0, x1, x2, x3, x4⟩ := tg_cells hw_.1
      go_simp
      try with_reducible rfl
    rotate_left
    · simp (maxSteps := 4000000) only [Act.put, List.setIfInBounds_toArray, List.set_cons_zero, List.set_cons_succ, i64_w, i32_w]
      try rfl
    refine take_ (i := 3) (N := some 23) (v := ?_) (a' := ?_) #[true, false, false, true, false, false, false, false, false, false] rfl rfl (take_ofW HT_.out HW_.out (by kernel_rfl)) (fun _ _ _ h => h) (Or.inl ⟨by rfl, ?_⟩) hHeld ?_ ?_
    rotate_left
    · intro w' hw_
      try dsimp only at hw_
      obtain ⟨x0, x1, x2, x3, x4⟩ := tg_cells hw_.2
      go_simp
      try with_reducible rfl
    rotate_left
    · simp (maxSteps := 4000000) only [Act.put, List.setIfInBounds_toArray, List.set_cons_zero, List.set_cons_succ, i64_w, i32_w]
      try rfl
    refine three_ (i := 1) (j := 6) (k := 7) (Ni := some 21) (Nj := some 8) (Nk := some 9) #[true, true, false, true, false, false, false, false, false, false] #[true, false, false, true, false, false, true, false, false, false] #[true, false, false, true, false, false, false, true, false, false] rfl rfl rfl rfl rfl rfl  (three_of HT_.out (by kernel_rfl)) (by decide) (by decide) (by decide)  (fun K hK => ?_) (fun K hK => ?_) (fun K hK => ?_) 
    · refine goes_ Try.func8 (by kernel_rfl) rfl #[(tgV x)] (by rfl) rfl rfl (by (try simp only [List.map_toArray, List.map_cons, List.map_nil]); first | done | rfl) ?_
      refine (tame_ok x HO.out.1.kind _).mono ?_
      rintro e w' ⟨rfl, hd⟩
      refine ⟨_, rfl, ?_⟩
      have hSS := And.intro (hHeld.1.below hd) (hHeld.2.below hd)
      (try replace HZ8 := Lib.hid (blk_below HZ8.out hd))
      (try replace HZ9 := Lib.hid (blk_below HZ9.out hd))
      replace HT := Lib.hid (HT.out.below hd)
      replace HB := Lib.hid (chain2 HB.out hd)
      clear hd
      refine hK.out _ _ (hSS) (fun hHeld => ?_)
      clear hK K
      refine norm_ (a' := ?_) ?_ ?_
      rotate_left
      · show Act.put _ (some 21) _ = _
        simp (maxSteps := 4000000) only [Act.put, List.setIfInBounds_toArray, List.set_cons_zero, List.set_cons_succ, i64_w, i32_w]
        try rfl
      refine three_ (i := 2) (j := 6) (k := 7) (Ni := some 22) (Nj := some 8) (Nk := some 9) #[true, true, true, true, false, false, false, false, false, false] #[true, true, false, true, false, false, true, false, false, false] #[true, true, false, true, false, false, false, true, false, false] rfl rfl rfl rfl rfl rfl  (three_of HT_.out (by kernel_rfl)) (by decide) (by decide) (by decide)  (fun K hK => ?_) (fun K hK => ?_) (fun K hK => ?_) 
      · refine goes_ Try.func10 (by kernel_rfl) rfl #[(tgV (tameT x))] (by rfl) rfl rfl (by (try simp only [List.map_toArray, List.map_cons, List.map_nil]); first | done | rfl) ?_
        refine (of_ok (tameT x) _).mono ?_
        rintro e w' ⟨rfl, hd⟩
        refine ⟨_, rfl, ?_⟩
        have hSS := And.intro (hHeld.1.below hd) (hHeld.2.below hd)
        (try replace HZ8 := Lib.hid (blk_below HZ8.out hd))
        (try replace HZ9 := Lib.hid (blk_below HZ9.out hd))
        replace HT := Lib.hid (HT.out.below hd)
        replace HB := Lib.hid (chain2 HB.out hd)
        clear hd
        refine hK.out _ _ (hSS) (fun hHeld => ?_)
        clear hK K
        refine norm_ (a' := ?_) ?_ ?_
        rotate_left
        · show Act.put _ (some 22) _ = _
          simp (maxSteps := 4000000) only [Act.put, List.setIfInBounds_toArray, List.set_cons_zero, List.set_cons_succ, i64_w, i32_w]
          try rfl
        refine three_ (i := 4) (j := 6) (k := 7) (Ni := some 24) (Nj := some 8) (Nk := some 9) #[true, true, true, true, true, false, false, false, false, false] #[true, true, true, true, false, false, true, false, false, false] #[true, true, true, true, false, false, false, true, false, false] rfl rfl rfl rfl rfl rfl  (three_of HT_.out (by kernel_rfl)) (by decide) (by decide) (by decide)  (fun K hK => ?_) (fun K hK => ?_) (fun K hK => ?_) 
        · refine goes_ Try.func8 (by kernel_rfl) rfl #[(tgV y)] (by rfl) rfl rfl (by (try simp only [List.map_toArray, List.map_cons, List.map_nil]); first | done | rfl) ?_
          refine (tame_ok y HO.out.2.kind _).mono ?_
          rintro e w' ⟨rfl, hd⟩
          refine ⟨_, rfl, ?_⟩
          have hSS := And.intro (hHeld.1.below hd) (hHeld.2.below hd)
          (try replace HZ8 := Lib.hid (blk_below HZ8.out hd))
          (try replace HZ9 := Lib.hid (blk_below HZ9.out hd))
          replace HT := Lib.hid (HT.out.below hd)
          replace HB := Lib.hid (chain2 HB.out hd)
          clear hd
          refine hK.out _ _ (hSS) (fun hHeld => ?_)
          clear hK K
          refine norm_ (a' := ?_) ?_ ?_
          rotate_left
          · show Act.put _ (some 24) _ = _
            simp (maxSteps := 4000000) only [Act.put, List.setIfInBounds_toArray, List.set_cons_zero, List.set_cons_succ, i64_w, i32_w]
            try rfl
          refine three_ (i := 5) (j := 6) (k := 7) (Ni := some 25) (Nj := some 8) (Nk := some 9) #[true, true, true, true, true, true, false, false, false, false] #[true, true, true, true, true, false, true, false, false, false] #[true, true, true, true, true, false, false, true, false, false] rfl rfl rfl rfl rfl rfl  (three_of HT_.out (by kernel_rfl)) (by decide) (by decide) (by decide)  (fun K hK => ?_) (fun K hK => ?_) (fun K hK => ?_) 
          · refine goes_ Try.func10 (by kernel_rfl) rfl #[(tgV (tameT y))] (by rfl) rfl rfl (by (try simp only [List.map_toArray, List.map_cons, List.map_nil]); first | done | rfl) ?_
            refine (of_ok (tameT y) _).mono ?_
            rintro e w' ⟨rfl, hd⟩
            refine ⟨_, rfl, ?_⟩
            have hSS := And.intro (hHeld.1.below hd) (hHeld.2.below hd)
            (try replace HZ8 := Lib.hid (blk_below HZ8.out hd))
            (try replace HZ9 := Lib.hid (blk_below HZ9.out hd))
            replace HT := Lib.hid (HT.out.below hd)
            replace HB := Lib.hid (chain2 HB.out hd)
            clear hd
            refine hK.out _ _ (hSS) (fun hHeld => ?_)
            clear hK K
            refine norm_ (a' := ?_) ?_ ?_
            rotate_left
            · show Act.put _ (some 25) _ = _
              simp (maxSteps := 4000000) only [Act.put, List.setIfInBounds_toArray, List.set_cons_zero, List.set_cons_succ, i64_w, i32_w]
              try rfl
            refine two_ (i := 6) (j := 7) (Ni := some 8) (Nj := some 9) #[true, true, true, true, true, true, true, false, false, false] #[true, true, true, true, true, true, false, true, false, false] rfl rfl rfl rfl  (two_of HT_.out (by kernel_rfl)) (by decide) (by decide)  (fun K hK => ?_) (fun K hK => ?_) 
            · refine value_ (v := (.pointer (some ⟨w'.heap.size, 0, none⟩))) (w1 := w'.alloc (.cells #[.int .u8 0, .int .i64 0, .int .u64 0, .int .i64 0, .int .i64 0] 37)) (by rfl) rfl ?_ ?_
              · (go_simp)
              have HZ8 := Lib.hid (heap_alloc_new w' (.cells #[.int .u8 0, .int .i64 0, .int .u64 0, .int .i64 0, .int .i64 0] 37))
              have hd := below_alloc (Below.refl w'.heap.size w') (.cells #[.int .u8 0, .int .i64 0, .int .u64 0, .int .i64 0, .int .i64 0] 37)
              have HG8 := Lib.hid HB.out.size
              have HN8 := Lib.hid (Nat.ne_of_lt HT.out.lt)
              (try have HNe := Lib.hid (Nat.ne_of_lt (blk_lt HZ9.out)))
              (try replace HZ9 := Lib.hid (blk_below HZ9.out hd))
              replace HT := Lib.hid (HT.out.below hd)
              replace HB := Lib.hid (chain2 HB.out hd)
              have hSS := And.intro (hHeld.1.below hd) (hHeld.2.below hd)
              clear hd
              (first | generalize w'.heap.size = b8 at HZ8 HG8 HN8 HNe ⊢ | generalize w'.heap.size = b8 at HZ8 HG8 HN8 ⊢)
              (first | generalize w'.alloc (.cells #[.int .u8 0, .int .i64 0, .int .u64 0, .int .i64 0, .int .i64 0] 37) = w' at HZ8 HZ9 HT HB hSS ⊢ | generalize w'.alloc (.cells #[.int .u8 0, .int .i64 0, .int .u64 0, .int .i64 0, .int .i64 0] 37) = w' at HZ8 HT HB hSS ⊢)
              refine hK.out _ _ (hSS) (fun hHeld => ?_)
              clear hK K
              refine norm_ (a' := ?_) ?_ ?_
              rotate_left
              · show Act.put _ (some 8) _ = _
                simp (maxSteps := 4000000) only [Act.put, List.setIfInBounds_toArray, List.set_cons_zero, List.set_cons_succ, i64_w, i32_w]
                try rfl
              refine one_ (i := 7) (N := some 9) #[true, true, true, true, true, true, true, true, false, false] rfl rfl (one_of HT_.out (by kernel_rfl)) (by decide) (fun K hK => ?_)
              refine value_ (v := (.pointer (some ⟨w'.heap.size, 0, none⟩))) (w1 := w'.alloc (.cells #[.int .u8 0, .int .i64 0, .int .u64 0, .int .i64 0, .int .i64 0] 37)) (by rfl) rfl ?_ ?_
              · (go_simp)
              have HZ9 := Lib.hid (heap_alloc_new w' (.cells #[.int .u8 0, .int .i64 0, .int .u64 0, .int .i64 0, .int .i64 0] 37))
              have hd := below_alloc (Below.refl w'.heap.size w') (.cells #[.int .u8 0, .int .i64 0, .int .u64 0, .int .i64 0, .int .i64 0] 37)
              have HG9 := Lib.hid HB.out.size
              have HN9 := Lib.hid (Nat.ne_of_lt HT.out.lt)
              (try have HNe := Lib.hid (Nat.ne_of_lt (blk_lt HZ8.out)))
              (try replace HZ8 := Lib.hid (blk_below HZ8.out hd))
              replace HT := Lib.hid (HT.out.below hd)
              replace HB := Lib.hid (chain2 HB.out hd)
              have hSS := And.intro (hHeld.1.below hd) (hHeld.2.below hd)
              clear hd
              (first | generalize w'.heap.size = b9 at HZ9 HG9 HN9 HNe ⊢ | generalize w'.heap.size = b9 at HZ9 HG9 HN9 ⊢)
              (first | generalize w'.alloc (.cells #[.int .u8 0, .int .i64 0, .int .u64 0, .int .i64 0, .int .i64 0] 37) = w' at HZ8 HZ9 HT HB hSS ⊢ | generalize w'.alloc (.cells #[.int .u8 0, .int .i64 0, .int .u64 0, .int .i64 0, .int .i64 0] 37) = w' at HZ9 HT HB hSS ⊢)
              refine hK.out _ _ (hSS) (fun hHeld => ?_)
              clear hK K
              refine norm_ (a' := ?_) ?_ ?_
              rotate_left
              · show Act.put _ (some 9) _ = _
                simp (maxSteps := 4000000) only [Act.put, List.setIfInBounds_toArray, List.set_cons_zero, List.set_cons_succ, i64_w, i32_w]
                try rfl
              refine last_ (i := 8) (N := none) #[true, true, true, true, true, true, true, true, true, false] rfl rfl (one_of HT_.out (by kernel_rfl)) (by decide) (fun K hK => ?_)
              refine skip_ (w1 := ((((w'.setCell ⟨b8, 0, none⟩ (.int .u8 ((tameT x).kind : Int))).setCell ⟨b8, 1, none⟩ (.int .i64 (tameT x).log)).setCell ⟨b8, 2, none⟩ (.int .u64 ((tameT x).seq : Int))).setCell ⟨b8, 3, none⟩ (.int .i64 (tameT x).pos)).setCell ⟨b8, 4, none⟩ (.int .i64 (tameT x).len)) (by rfl) rfl ?_ ?_
              · (obtain ⟨y0, y1, y2, y3, y4⟩ := tg_cells HZ8.out; have f0 := fun i => pl_frozenT HZ8.out i; unfold tgV; go_simp)
              refine hK.out _ _ ?_
              clear hK K
              refine last_ (i := 9) (N := none) #[true, true, true, true, true, true, true, true, true, true] rfl rfl (one_of HT_.out (by kernel_rfl)) (by decide) (fun K hK => ?_)
              refine skip_ (w1 := (((((((((w'.setCell ⟨b8, 0, none⟩ (.int .u8 ((tameT x).kind : Int))).setCell ⟨b8, 1, none⟩ (.int .i64 (tameT x).log)).setCell ⟨b8, 2, none⟩ (.int .u64 ((tameT x).seq : Int))).setCell ⟨b8, 3, none⟩ (.int .i64 (tameT x).pos)).setCell ⟨b8, 4, none⟩ (.int .i64 (tameT x).len)).setCell ⟨b9, 0, none⟩ (.int .u8 ((tameT y).kind : Int))).setCell ⟨b9, 1, none⟩ (.int .i64 (tameT y).log)).setCell ⟨b9, 2, none⟩ (.int .u64 ((tameT y).seq : Int))).setCell ⟨b9, 3, none⟩ (.int .i64 (tameT y).pos)).setCell ⟨b9, 4, none⟩ (.int .i64 (tameT y).len)) (by rfl) rfl ?_ ?_
              · (obtain ⟨y0, y1, y2, y3, y4⟩ := tg_cells (off5T (tameT x) (by first | exact HNe.out | exact HNe.out.symm) HZ9.out); have f0 := fun i => pl_frozenT (off5T (tameT x) (by first | exact HNe.out | exact HNe.out.symm) HZ9.out) i; unfold tgV; go_simp)
              refine hK.out _ _ ?_
              clear hK K
              refine done_ (done_of HT_.out (by kernel_rfl)) ?_
              go_wp2_with fail
              go_meet
              case rel => exact ⟨b8, b9, rfl, rfl, off5T (tameT y) (by first | exact HNe.out | exact HNe.out.symm) (set5T HZ8.out (tameT x)), set5T (off5T (tameT x) (by first | exact HNe.out | exact HNe.out.symm) HZ9.out) (tameT y), tab5T (tameT y) HN9.out (tab5T (tameT x) HN8.out HT.out), below5T (tameT y) HG9.out (below5T (tameT x) HG8.out HB.out)⟩
            · refine value_ (v := (.pointer (some ⟨w'.heap.size, 0, none⟩))) (w1 := w'.alloc (.cells #[.int .u8 0, .int .i64 0, .int .u64 0, .int .i64 0, .int .i64 0] 37)) (by rfl) rfl ?_ ?_
              · (go_simp)
              have HZ9 := Lib.hid (heap_alloc_new w' (.cells #[.int .u8 0, .int .i64 0, .int .u64 0, .int .i64 0, .int .i64 0] 37))
              have hd := below_alloc (Below.refl w'.heap.size w') (.cells #[.int .u8 0, .int .i64 0, .int .u64 0, .int .i64 0, .int .i64 0] 37)
              have HG9 := Lib.hid HB.out.size
              have HN9 := Lib.hid (Nat.ne_of_lt HT.out.lt)
              (try have HNe := Lib.hid (Nat.ne_of_lt (blk_lt HZ8.out)))
              (try replace HZ8 := Lib.hid (blk_below HZ8.out hd))
              replace HT := Lib.hid (HT.out.below hd)
              replace HB := Lib.hid (chain2 HB.out hd)
              have hSS := And.intro (hHeld.1.below hd) (hHeld.2.below hd)
              clear hd
              (first | generalize w'.heap.size = b9 at HZ9 HG9 HN9 HNe ⊢ | generalize w'.heap.size = b9 at HZ9 HG9 HN9 ⊢)
              (first | generalize w'.alloc (.cells #[.int .u8 0, .int .i64 0, .int .u64 0, .int .i64 0, .int .i64 0] 37) = w' at HZ8 HZ9 HT HB hSS ⊢ | generalize w'.alloc (.cells #[.int .u8 0, .int .i64 0, .int .u64 0, .int .i64 0, .int .i64 0] 37) = w' at HZ9 HT HB hSS ⊢)
              refine hK.out _ _ (hSS) (fun hHeld => ?_)
              clear hK K
              refine norm_ (a' := ?_) ?_ ?_
              rotate_left
              · show Act.put _ (some 9) _ = _
                simp (maxSteps := 4000000) only [Act.put, List.setIfInBounds_toArray, List.set_cons_zero, List.set_cons_succ, i64_w, i32_w]
                try rfl
              refine one_ (i := 6) (N := some 8) #[true, true, true, true, true, true, true, true, false, false] rfl rfl (one_of HT_.out (by kernel_rfl)) (by decide) (fun K hK => ?_)
              refine value_ (v := (.pointer (some ⟨w'.heap.size, 0, none⟩))) (w1 := w'.alloc (.cells #[.int .u8 0, .int .i64 0, .int .u64 0, .int .i64 0, .int .i64 0] 37)) (by rfl) rfl ?_ ?_
              · (go_simp)
              have HZ8 := Lib.hid (heap_alloc_new w' (.cells #[.int .u8 0, .int .i64 0, .int .u64 0, .int .i64 0, .int .i64 0] 37))
              have hd := below_alloc (Below.refl w'.heap.size w') (.cells #[.int .u8 0, .int .i64 0, .int .u64 0, .int .i64 0, .int .i64 0] 37)
              have HG8 := Lib.hid HB.out.size
              have HN8 := Lib.hid (Nat.ne_of_lt HT.out.lt)
              (try have HNe := Lib.hid (Nat.ne_of_lt (blk_lt HZ9.out)))
              (try replace HZ9 := Lib.hid (blk_below HZ9.out hd))
              replace HT := Lib.hid (HT.out.below hd)
              replace HB := Lib.hid (chain2 HB.out hd)
              have hSS := And.intro (hHeld.1.below hd) (hHeld.2.below hd)
              clear hd
              (first | generalize w'.heap.size = b8 at HZ8 HG8 HN8 HNe ⊢ | generalize w'.heap.size = b8 at HZ8 HG8 HN8 ⊢)
              (first | generalize w'.alloc (.cells #[.int .u8 0, .int .i64 0, .int .u64 0, .int .i64 0, .int .i64 0] 37) = w' at HZ8 HZ9 HT HB hSS ⊢ | generalize w'.alloc (.cells #[.int .u8 0, .int .i64 0, .int .u64 0, .int .i64 0, .int .i64 0] 37) = w' at HZ8 HT HB hSS ⊢)
              refine hK.out _ _ (hSS) (fun hHeld => ?_)
              clear hK K
              refine norm_ (a' := ?_) ?_ ?_
              rotate_left
              · show Act.put _ (some 8) _ = _
                simp (maxSteps := 4000000) only [Act.put, List.setIfInBounds_toArray, List.set_cons_zero, List.set_cons_succ, i64_w, i32_w]
                try rfl
              refine last_ (i := 8) (N := none) #[true, true, true, true, true, true, true, true, true, false] rfl rfl (one_of HT_.out (by kernel_rfl)) (by decide) (fun K hK => ?_)
              refine skip_ (w1 := ((((w'.setCell ⟨b8, 0, none⟩ (.int .u8 ((tameT x).kind : Int))).setCell ⟨b8, 1, none⟩ (.int .i64 (tameT x).log)).setCell ⟨b8, 2, none⟩ (.int .u64 ((tameT x).seq : Int))).setCell ⟨b8, 3, none⟩ (.int .i64 (tameT x).pos)).setCell ⟨b8, 4, none⟩ (.int .i64 (tameT x).len)) (by rfl) rfl ?_ ?_
              · (obtain ⟨y0, y1, y2, y3, y4⟩ := tg_cells HZ8.out; have f0 := fun i => pl_frozenT HZ8.out i; unfold tgV; go_simp)
              refine hK.out _ _ ?_
              clear hK K
              refine last_ (i := 9) (N := none) #[true, true, true, true, true, true, true, true, true, true] rfl rfl (one_of HT_.out (by kernel_rfl)) (by decide) (fun K hK => ?_)
              refine skip_ (w1 := (((((((((w'.setCell ⟨b8, 0, none⟩ (.int .u8 ((tameT x).kind : Int))).setCell ⟨b8, 1, none⟩ (.int .i64 (tameT x).log)).setCell ⟨b8, 2, none⟩ (.int .u64 ((tameT x).seq : Int))).setCell ⟨b8, 3, none⟩ (.int .i64 (tameT x).pos)).setCell ⟨b8, 4, none⟩ (.int .i64 (tameT x).len)).setCell ⟨b9, 0, none⟩ (.int .u8 ((tameT y).kind : Int))).setCell ⟨b9, 1, none⟩ (.int .i64 (tameT y).log)).setCell ⟨b9, 2, none⟩ (.int .u64 ((tameT y).seq : Int))).setCell ⟨b9, 3, none⟩ (.int .i64 (tameT y).pos)).setCell ⟨b9, 4, none⟩ (.int .i64 (tameT y).len)) (by rfl) rfl ?_ ?_
              · (obtain ⟨y0, y1, y2, y3, y4⟩ := tg_cells (off5T (tameT x) (by first | exact HNe.out | exact HNe.out.symm) HZ9.out); have f0 := fun i => pl_frozenT (off5T (tameT x) (by first | exact HNe.out | exact HNe.out.symm) HZ9.out) i; unfold tgV; go_simp)
              refine hK.out _ _ ?_
              clear hK K
              refine done_ (done_of HT_.out (by kernel_rfl)) ?_
              go_wp2_with fail
              go_meet
              case rel => exact ⟨b8, b9, rfl, rfl, off5T (tameT y) (by first | exact HNe.out | exact HNe.out.symm) (set5T HZ8.out (tameT x)), set5T (off5T (tameT x) (by first | exact HNe.out | exact HNe.out.symm) HZ9.out) (tameT y), tab5T (tameT y) HN9.out (tab5T (tameT x) HN8.out HT.out), below5T (tameT y) HG9.out (below5T (tameT x) HG8.out HB.out)⟩
          · refine value_ (v := (.pointer (some ⟨w'.heap.size, 0, none⟩))) (w1 := w'.alloc (.cells #[.int .u8 0, .int .i64 0, .int .u64 0, .int .i64 0, .int .i64 0] 37)) (by rfl) rfl ?_ ?_
            · (go_simp)
            have HZ8 := Lib.hid (heap_alloc_new w' (.cells #[.int .u8 0, .int .i64 0, .int .u64 0, .int .i64 0, .int .i64 0] 37))
            have hd := below_alloc (Below.refl w'.heap.size w') (.cells #[.int .u8 0, .int .i64 0, .int .u64 0, .int .i64 0, .int .i64 0] 37)
            have HG8 := Lib.hid HB.out.size
            have HN8 := Lib.hid (Nat.ne_of_lt HT.out.lt)
            (try have HNe := Lib.hid (Nat.ne_of_lt (blk_lt HZ9.out)))
            (try replace HZ9 := Lib.hid (blk_below HZ9.out hd))
            replace HT := Lib.hid (HT.out.below hd)
            replace HB := Lib.hid (chain2 HB.out hd)
            have hSS := And.intro (hHeld.1.below hd) (hHeld.2.below hd)
            clear hd
            (first | generalize w'.heap.size = b8 at HZ8 HG8 HN8 HNe ⊢ | generalize w'.heap.size = b8 at HZ8 HG8 HN8 ⊢)
            (first | generalize w'.alloc (.cells #[.int .u8 0, .int .i64 0, .int .u64 0, .int .i64 0, .int .i64 0] 37) = w' at HZ8 HZ9 HT HB hSS ⊢ | generalize w'.alloc (.cells #[.int .u8 0, .int .i64 0, .int .u64 0, .int .i64 0, .int .i64 0] 37) = w' at HZ8 HT HB hSS ⊢)
            refine hK.out _ _ (hSS) (fun hHeld => ?_)
            clear hK K
            refine norm_ (a' := ?_) ?_ ?_
            rotate_left
            · show Act.put _ (some 8) _ = _
              simp (maxSteps := 4000000) only [Act.put, List.setIfInBounds_toArray, List.set_cons_zero, List.set_cons_succ, i64_w, i32_w]
              try rfl
            refine two_ (i := 5) (j := 7) (Ni := some 25) (Nj := some 9) #[true, true, true, true, true, true, true, false, false, false] #[true, true, true, true, true, false, true, true, false, false] rfl rfl rfl rfl  (two_of HT_.out (by kernel_rfl)) (by decide) (by decide)  (fun K hK => ?_) (fun K hK => ?_) 
            · refine goes_ Try.func10 (by kernel_rfl) rfl #[(tgV (tameT y))] (by rfl) rfl rfl (by (try simp only [List.map_toArray, List.map_cons, List.map_nil]); first | done | rfl) ?_
              refine (of_ok (tameT y) _).mono ?_
              rintro e w' ⟨rfl, hd⟩
              refine ⟨_, rfl, ?_⟩
              have hSS := And.intro (hHeld.1.below hd) (hHeld.2.below hd)
              (try replace HZ8 := Lib.hid (blk_below HZ8.out hd))
              (try replace HZ9 := Lib.hid (blk_below HZ9.out hd))
              replace HT := Lib.hid (HT.out.below hd)
              replace HB := Lib.hid (chain2 HB.out hd)
              clear hd
              refine hK.out _ _ (hSS) (fun hHeld => ?_)
              clear hK K
              refine norm_ (a' := ?_) ?_ ?_
              rotate_left
              · show Act.put _ (some 25) _ = _
                simp (maxSteps := 4000000) only [Act.put, List.setIfInBounds_toArray, List.set_cons_zero, List.set_cons_succ, i64_w, i32_w]
                try rfl
              refine one_ (i := 7) (N := some 9) #[true, true, true, true, true, true, true, true, false, false] rfl rfl (one_of HT_.out (by kernel_rfl)) (by decide) (fun K hK => ?_)
              refine value_ (v := (.pointer (some ⟨w'.heap.size, 0, none⟩))) (w1 := w'.alloc (.cells #[.int .u8 0, .int .i64 0, .int .u64 0, .int .i64 0, .int .i64 0] 37)) (by rfl) rfl ?_ ?_
              · (go_simp)
              have HZ9 := Lib.hid (heap_alloc_new w' (.cells #[.int .u8 0, .int .i64 0, .int .u64 0, .int .i64 0, .int .i64 0] 37))
              have hd := below_alloc (Below.refl w'.heap.size w') (.cells #[.int .u8 0, .int .i64 0, .int .u64 0, .int .i64 0, .int .i64 0] 37)
              have HG9 := Lib.hid HB.out.size
              have HN9 := Lib.hid (Nat.ne_of_lt HT.out.lt)
              (try have HNe := Lib.hid (Nat.ne_of_lt (blk_lt HZ8.out)))
              (try replace HZ8 := Lib.hid (blk_below HZ8.out hd))
              replace HT := Lib.hid (HT.out.below hd)
              replace HB := Lib.hid (chain2 HB.out hd)
              have hSS := And.intro (hHeld.1.below hd) (hHeld.2.below hd)
              clear hd
              (first | generalize w'.heap.size = b9 at HZ9 HG9 HN9 HNe ⊢ | generalize w'.heap.size = b9 at HZ9 HG9 HN9 ⊢)
              (first | generalize w'.alloc (.cells #[.int .u8 0, .int .i64 0, .int .u64 0, .int .i64 0, .int .i64 0] 37) = w' at HZ8 HZ9 HT HB hSS ⊢ | generalize w'.alloc (.cells #[.int .u8 0, .int .i64 0, .int .u64 0, .int .i64 0, .int .i64 0] 37) = w' at HZ9 HT HB hSS ⊢)
              refine hK.out _ _ (hSS) (fun hHeld => ?_)
              clear hK K
              refine norm_ (a' := ?_) ?_ ?_
              rotate_left
              · show Act.put _ (some 9) _ = _
                simp (maxSteps := 4000000) only [Act.put, List.setIfInBounds_toArray, List.set_cons_zero, List.set_cons_succ, i64_w, i32_w]
                try rfl
              refine last_ (i := 8) (N := none) #[true, true, true, true, true, true, true, true, true, false] rfl rfl (one_of HT_.out (by kernel_rfl)) (by decide) (fun K hK => ?_)
              refine skip_ (w1 := ((((w'.setCell ⟨b8, 0, none⟩ (.int .u8 ((tameT x).kind : Int))).setCell ⟨b8, 1, none⟩ (.int .i64 (tameT x).log)).setCell ⟨b8, 2, none⟩ (.int .u64 ((tameT x).seq : Int))).setCell ⟨b8, 3, none⟩ (.int .i64 (tameT x).pos)).setCell ⟨b8, 4, none⟩ (.int .i64 (tameT x).len)) (by rfl) rfl ?_ ?_
              · (obtain ⟨y0, y1, y2, y3, y4⟩ := tg_cells HZ8.out; have f0 := fun i => pl_frozenT HZ8.out i; unfold tgV; go_simp)
              refine hK.out _ _ ?_
              clear hK K
              refine last_ (i := 9) (N := none) #[true, true, true, true, true, true, true, true, true, true] rfl rfl (one_of HT_.out (by kernel_rfl)) (by decide) (fun K hK => ?_)
              refine skip_ (w1 := (((((((((w'.setCell ⟨b8, 0, none⟩ (.int .u8 ((tameT x).kind : Int))).setCell ⟨b8, 1, none⟩ (.int .i64 (tameT x).log)).setCell ⟨b8, 2, none⟩ (.int .u64 ((tameT x).seq : Int))).setCell ⟨b8, 3, none⟩ (.int .i64 (tameT x).pos)).setCell ⟨b8, 4, none⟩ (.int .i64 (tameT x).len)).setCell ⟨b9, 0, none⟩ (.int .u8 ((tameT y).kind : Int))).setCell ⟨b9, 1, none⟩ (.int .i64 (tameT y).log)).setCell ⟨b9, 2, none⟩ (.int .u64 ((tameT y).seq : Int))).setCell ⟨b9, 3, none⟩ (.int .i64 (tameT y).pos)).setCell ⟨b9, 4, none⟩ (.int .i64 (tameT y).len)) (by rfl) rfl ?_ ?_
              · (obtain ⟨y0, y1, y2, y3, y4⟩ := tg_cells (off5T (tameT x) (by first | exact HNe.out | exact HNe.out.symm) HZ9.out); have f0 := fun i => pl_frozenT (off5T (tameT x) (by first | exact HNe.out | exact HNe.out.symm) HZ9.out) i; unfold tgV; go_simp)
              refine hK.out _ _ ?_
              clear hK K
              refine done_ (done_of HT_.out (by kernel_rfl)) ?_
              go_wp2_with fail
              go_meet
              case rel => exact ⟨b8, b9, rfl, rfl, off5T (tameT y) (by first | exact HNe.out | exact HNe.out.symm) (set5T HZ8.out (tameT x)), set5T (off5T (tameT x) (by first | exact HNe.out | exact HNe.out.symm) HZ9.out) (tameT y), tab5T (tameT y) HN9.out (tab5T (tameT x) HN8.out HT.out), below5T (tameT y) HG9.out (below5T (tameT x) HG8.out HB.out)⟩
            · refine value_ (v := (.pointer (some ⟨w'.heap.size, 0, none⟩))) (w1 := w'.alloc (.cells #[.int .u8 0, .int .i64 0, .int .u64 0, .int .i64 0, .int .i64 0] 37)) (by rfl) rfl ?_ ?_
              · (go_simp)
              have HZ9 := Lib.hid (heap_alloc_new w' (.cells #[.int .u8 0, .int .i64 0, .int .u64 0, .int .i64 0, .int .i64 0] 37))
              have hd := below_alloc (Below.refl w'.heap.size w') (.cells #[.int .u8 0, .int .i64 0, .int .u64 0, .int .i64 0, .int .i64 0] 37)
              have HG9 := Lib.hid HB.out.size
              have HN9 := Lib.hid (Nat.ne_of_lt HT.out.lt)
              (try have HNe := Lib.hid (Nat.ne_of_lt (blk_lt HZ8.out)))
              (try replace HZ8 := Lib.hid (blk_below HZ8.out hd))
              replace HT := Lib.hid (HT.out.below hd)
              replace HB := Lib.hid (chain2 HB.out hd)
              have hSS := And.intro (hHeld.1.below hd) (hHeld.2.below hd)
              clear hd
              (first | generalize w'.heap.size = b9 at HZ9 HG9 HN9 HNe ⊢ | generalize w'.heap.size = b9 at HZ9 HG9 HN9 ⊢)
              (first | generalize w'.alloc (.cells #[.int .u8 0, .int .i64 0, .int .u64 0, .int .i64 0, .int .i64 0] 37) = w' at HZ8 HZ9 HT HB hSS ⊢ | generalize w'.alloc (.cells #[.int .u8 0, .int .i64 0, .int .u64 0, .int .i64 0, .int .i64 0] 37) = w' at HZ9 HT HB hSS ⊢)
              refine hK.out _ _ (hSS) (fun hHeld => ?_)
              clear hK K
              refine norm_ (a' := ?_) ?_ ?_
              rotate_left
              · show Act.put _ (some 9) _ = _
                simp (maxSteps := 4000000) only [Act.put, List.setIfInBounds_toArray, List.set_cons_zero, List.set_cons_succ, i64_w, i32_w]
                try rfl
              refine one_ (i := 5) (N := some 25) #[true, true, true, true, true, true, true, true, false, false] rfl rfl (one_of HT_.out (by kernel_rfl)) (by decide) (fun K hK => ?_)
              refine goes_ Try.func10 (by kernel_rfl) rfl #[(tgV (tameT y))] (by rfl) rfl rfl (by (try simp only [List.map_toArray, List.map_cons, List.map_nil]); first | done | rfl) ?_
              refine (of_ok (tameT y) _).mono ?_
              rintro e w' ⟨rfl, hd⟩
              refine ⟨_, rfl, ?_⟩
              have hSS := And.intro (hHeld.1.below hd) (hHeld.2.below hd)
              (try replace HZ8 := Lib.hid (blk_below HZ8.out hd))
              (try replace HZ9 := Lib.hid (blk_below HZ9.out hd))
              replace HT := Lib.hid (HT.out.below hd)
              replace HB := Lib.hid (chain2 HB.out hd)
              clear hd
              refine hK.out _ _ (hSS) (fun hHeld => ?_)
              clear hK K
              refine norm_ (a' := ?_) ?_ ?_
              rotate_left
              · show Act.put _ (some 25) _ = _
                simp (maxSteps := 4000000) only [Act.put, List.setIfInBounds_toArray, List.set_cons_zero, List.set_cons_succ, i64_w, i32_w]
                try rfl
              refine last_ (i := 8) (N := none) #[true, true, true, true, true, true, true, true, true, false] rfl rfl (one_of HT_.out (by kernel_rfl)) (by decide) (fun K hK => ?_)
              refine skip_ (w1 := ((((w'.setCell ⟨b8, 0, none⟩ (.int .u8 ((tameT x).kind : Int))).setCell ⟨b8, 1, none⟩ (.int .i64 (tameT x).log)).setCell ⟨b8, 2, none⟩ (.int .u64 ((tameT x).seq : Int))).setCell ⟨b8, 3, none⟩ (.int .i64 (tameT x).pos)).setCell ⟨b8, 4, none⟩ (.int .i64 (tameT x).len)) (by rfl) rfl ?_ ?_
              · (obtain ⟨y0, y1, y2, y3, y4⟩ := tg_cells HZ8.out; have f0 := fun i => pl_frozenT HZ8.out i; unfold tgV; go_simp)
              refine hK.out _ _ ?_
              clear hK K
              refine last_ (i := 9) (N := none) #[true, true, true, true, true, true, true, true, true, true] rfl rfl (one_of HT_.out (by kernel_rfl)) (by decide) (fun K hK => ?_)
              refine skip_ (w1 := (((((((((w'.setCell ⟨b8, 0, none⟩ (.int .u8 ((tameT x).kind : Int))).setCell ⟨b8, 1, none⟩ (.int .i64 (tameT x).log)).setCell ⟨b8, 2, none⟩ (.int .u64 ((tameT x).seq : Int))).setCell ⟨b8, 3, none⟩ (.int .i64 (tameT x).pos)).setCell ⟨b8, 4, none⟩ (.int .i64 (tameT x).len)).setCell ⟨b9, 0, none⟩ (.int .u8 ((tameT y).kind : Int))).setCell ⟨b9, 1, none⟩ (.int .i64 (tameT y).log)).setCell ⟨b9, 2, none⟩ (.int .u64 ((tameT y).seq : Int))).setCell ⟨b9, 3, none⟩ (.int .i64 (tameT y).pos)).setCell ⟨b9, 4, none⟩ (.int .i64 (tameT y).len)) (by rfl) rfl ?_ ?_
              · (obtain ⟨y0, y1, y2, y3, y4⟩ := tg_cells (off5T (tameT x) (by first | exact HNe.out | exact HNe.out.symm) HZ9.out); have f0 := fun i => pl_frozenT (off5T (tameT x) (by first | exact HNe.out | exact HNe.out.symm) HZ9.out) i; unfold tgV; go_simp)
              refine hK.out _ _ ?_
              clear hK K
              refine done_ (done_of HT_.out (by kernel_rfl)) ?_
              go_wp2_with fail
              go_meet
              case rel => exact ⟨b8, b9, rfl, rfl, off5T (tameT y) (by first | exact HNe.out | exact HNe.out.symm) (set5T HZ8.out (tameT x)), set5T (off5T (tameT x) (by first | exact HNe.out | exact HNe.out.symm) HZ9.out) (tameT y), tab5T (tameT y) HN9.out (tab5T (tameT x) HN8.out HT.out), below5T (tameT y) HG9.out (below5T (tameT x) HG8.out HB.out)⟩
          · refine value_ (v := (.pointer (some ⟨w'.heap.size, 0, none⟩))) (w1 := w'.alloc (.cells #[.int .u8 0, .int .i64 0, .int .u64 0, .int .i64 0, .int .i64 0] 37)) (by rfl) rfl ?_ ?_
            · (go_simp)
            have HZ9 := Lib.hid (heap_alloc_new w' (.cells #[.int .u8 0, .int .i64 0, .int .u64 0, .int .i64 0, .int .i64 0] 37))
            have hd := below_alloc (Below.refl w'.heap.size w') (.cells #[.int .u8 0, .int .i64 0, .int .u64 0, .int .i64 0, .int .i64 0] 37)
            have HG9 := Lib.hid HB.out.size
            have HN9 := Lib.hid (Nat.ne_of_lt HT.out.lt)
            (try have HNe := Lib.hid (Nat.ne_of_lt (blk_lt HZ8.out)))
            (try replace HZ8 := Lib.hid (blk_below HZ8.out hd))
            replace HT := Lib.hid (HT.out.below hd)
            replace HB := Lib.hid (chain2 HB.out hd)
            have hSS := And.intro (hHeld.1.below hd) (hHeld.2.below hd)
            clear hd
            (first | generalize w'.heap.size = b9 at HZ9 HG9 HN9 HNe ⊢ | generalize w'.heap.size = b9 at HZ9 HG9 HN9 ⊢)
            (first | generalize w'.alloc (.cells #[.int .u8 0, .int .i64 0, .int .u64 0, .int .i64 0, .int .i64 0] 37) = w' at HZ8 HZ9 HT HB hSS ⊢ | generalize w'.alloc (.cells #[.int .u8 0, .int .i64 0, .int .u64 0, .int .i64 0, .int .i64 0] 37) = w' at HZ9 HT HB hSS ⊢)
            refine hK.out _ _ (hSS) (fun hHeld => ?_)
            clear hK K
            refine norm_ (a' := ?_) ?_ ?_
            rotate_left
            · show Act.put _ (some 9) _ = _
              simp (maxSteps := 4000000) only [Act.put, List.setIfInBounds_toArray, List.set_cons_zero, List.set_cons_succ, i64_w, i32_w]
              try rfl
            refine two_ (i := 5) (j := 6) (Ni := some 25) (Nj := some 8) #[true, true, true, true, true, true, false, true, false, false] #[true, true, true, true, true, false, true, true, false, false] rfl rfl rfl rfl  (two_of HT_.out (by kernel_rfl)) (by decide) (by decide)  (fun K hK => ?_) (fun K hK => ?_) 
            · refine goes_ Try.func10 (by kernel_rfl) rfl #[(tgV (tameT y))] (by rfl) rfl rfl (by (try simp only [List.map_toArray, List.map_cons, List.map_nil]); first | done | rfl) ?_
              refine (of_ok (tameT y) _).mono ?_
              rintro e w' ⟨rfl, hd⟩
              refine ⟨_, rfl, ?_⟩
              have hSS := And.intro (hHeld.1.below hd) (hHeld.2.below hd)
              (try replace HZ8 := Lib.hid (blk_below HZ8.out hd))
              (try replace HZ9 := Lib.hid (blk_below HZ9.out hd))
              replace HT := Lib.hid (HT.out.below hd)
              replace HB := Lib.hid (chain2 HB.out hd)
              clear hd
              refine hK.out _ _ (hSS) (fun hHeld => ?_)
              clear hK K
              refine norm_ (a' := ?_) ?_ ?_
              rotate_left
              · show Act.put _ (some 25) _ = _
                simp (maxSteps := 4000000) only [Act.put, List.setIfInBounds_toArray, List.set_cons_zero, List.set_cons_succ, i64_w, i32_w]
                try rfl
              refine one_ (i := 6) (N := some 8) #[true, true, true, true, true, true, true, true, false, false] rfl rfl (one_of HT_.out (by kernel_rfl)) (by decide) (fun K hK => ?_)
              refine value_ (v := (.pointer (some ⟨w'.heap.size, 0, none⟩))) (w1 := w'.alloc (.cells #[.int .u8 0, .int .i64 0, .int .u64 0, .int .i64 0, .int .i64 0] 37)) (by rfl) rfl ?_ ?_
              · (go_simp)
              have HZ8 := Lib.hid (heap_alloc_new w' (.cells #[.int .u8 0, .int .i64 0, .int .u64 0, .int .i64 0, .int .i64 0] 37))
              have hd := below_alloc (Below.refl w'.heap.size w') (.cells #[.int .u8 0, .int .i64 0, .int .u64 0, .int .i64 0, .int .i64 0] 37)
              have HG8 := Lib.hid HB.out.size
              have HN8 := Lib.hid (Nat.ne_of_lt HT.out.lt)
              (try have HNe := Lib.hid (Nat.ne_of_lt (blk_lt HZ9.out)))
              (try replace HZ9 := Lib.hid (blk_below HZ9.out hd))
              replace HT := Lib.hid (HT.out.below hd)
              replace HB := Lib.hid (chain2 HB.out hd)
              have hSS := And.intro (hHeld.1.below hd) (hHeld.2.below hd)
              clear hd
              (first | generalize w'.heap.size = b8 at HZ8 HG8 HN8 HNe ⊢ | generalize w'.heap.size = b8 at HZ8 HG8 HN8 ⊢)
              (first | generalize w'.alloc (.cells #[.int .u8 0, .int .i64 0, .int .u64 0, .int .i64 0, .int .i64 0] 37) = w' at HZ8 HZ9 HT HB hSS ⊢ | generalize w'.alloc (.cells #[.int .u8 0, .int .i64 0, .int .u64 0, .int .i64 0, .int .i64 0] 37) = w' at HZ8 HT HB hSS ⊢)
              refine hK.out _ _ (hSS) (fun hHeld => ?_)
              clear hK K
              refine norm_ (a' := ?_) ?_ ?_
              rotate_left
              · show Act.put _ (some 8) _ = _
                simp (maxSteps := 4000000) only [Act.put, List.setIfInBounds_toArray, List.set_cons_zero, List.set_cons_succ, i64_w, i32_w]
                try rfl
              refine last_ (i := 8) (N := none) #[true, true, true, true, true, true, true, true, true, false] rfl rfl (one_of HT_.out (by kernel_rfl)) (by decide) (fun K hK => ?_)
              refine skip_ (w1 := ((((w'.setCell ⟨b8, 0, none⟩ (.int .u8 ((tameT x).kind : Int))).setCell ⟨b8, 1, none⟩ (.int .i64 (tameT x).log)).setCell ⟨b8, 2, none⟩ (.int .u64 ((tameT x).seq : Int))).setCell ⟨b8, 3, none⟩ (.int .i64 (tameT x).pos)).setCell ⟨b8, 4, none⟩ (.int .i64 (tameT x).len)) (by rfl) rfl ?_ ?_
              · (obtain ⟨y0, y1, y2, y3, y4⟩ := tg_cells HZ8.out; have f0 := fun i => pl_frozenT HZ8.out i; unfold tgV; go_simp)
              refine hK.out _ _ ?_
              clear hK K
              refine last_ (i := 9) (N := none) #[true, true, true, true, true, true, true, true, true, true] rfl rfl (one_of HT_.out (by kernel_rfl)) (by decide) (fun K hK => ?_)
              refine skip_ (w1 := (((((((((w'.setCell ⟨b8, 0, none⟩ (.int .u8 ((tameT x).kind : Int))).setCell ⟨b8, 1, none⟩ (.int .i64 (tameT x).log)).setCell ⟨b8, 2, none⟩ (.int .u64 ((tameT x).seq : Int))).setCell ⟨b8, 3, none⟩ (.int .i64 (tameT x).pos)).setCell ⟨b8, 4, none⟩ (.int .i64 (tameT x).len)).setCell ⟨b9, 0, none⟩ (.int .u8 ((tameT y).kind : Int))).setCell ⟨b9, 1, none⟩ (.int .i64 (tameT y).log)).setCell ⟨b9, 2, none⟩ (.int .u64 ((tameT y).seq : Int))).setCell ⟨b9, 3, none⟩ (.int .i64 (tameT y).pos)).setCell ⟨b9, 4, none⟩ (.int .i64 (tameT y).len)) (by rfl) rfl ?_ ?_
              · (obtain ⟨y0, y1, y2, y3, y4⟩ := tg_cells (off5T (tameT x) (by first | exact HNe.out | exact HNe.out.symm) HZ9.out); have f0 := fun i => pl_frozenT (off5T (tameT x) (by first | exact HNe.out | exact HNe.out.symm) HZ9.out) i; unfold tgV; go_simp)
              refine hK.out _ _ ?_
              clear hK K
              refine done_ (done_of HT_.out (by kernel_rfl)) ?_
              go_wp2_with fail
              go_meet
              case rel => exact ⟨b8, b9, rfl, rfl, off5T (tameT y) (by first | exact HNe.out | exact HNe.out.symm) (set5T HZ8.out (tameT x)), set5T (off5T (tameT x) (by first | exact HNe.out | exact HNe.out.symm) HZ9.out) (tameT y), tab5T (tameT y) HN9.out (tab5T (tameT x) HN8.out HT.out), below5T (tameT y) HG9.out (below5T (tameT x) HG8.out HB.out)⟩
            · refine value_ (v := (.pointer (some ⟨w'.heap.size, 0, none⟩))) (w1 := w'.alloc (.cells #[.int .u8 0, .int .i64 0, .int .u64 0, .int .i64 0, .int .i64 0] 37)) (by rfl) rfl ?_ ?_
              · (go_simp)
              have HZ8 := Lib.hid (heap_alloc_new w' (.cells #[.int .u8 0, .int .i64 0, .int .u64 0, .int .i64 0, .int .i64 0] 37))
              have hd := below_alloc (Below.refl w'.heap.size w') (.cells #[.int .u8 0, .int .i64 0, .int .u64 0, .int .i64 0, .int .i64 0] 37)
              have HG8 := Lib.hid HB.out.size
              have HN8 := Lib.hid (Nat.ne_of_lt HT.out.lt)
              (try have HNe := Lib.hid (Nat.ne_of_lt (blk_lt HZ9.out)))
              (try replace HZ9 := Lib.hid (blk_below HZ9.out hd))
              replace HT := Lib.hid (HT.out.below hd)
              replace HB := Lib.hid (chain2 HB.out hd)
              have hSS := And.intro (hHeld.1.below hd) (hHeld.2.below hd)
              clear hd
              (first | generalize w'.heap.size = b8 at HZ8 HG8 HN8 HNe ⊢ | generalize w'.heap.size = b8 at HZ8 HG8 HN8 ⊢)
              (first | generalize w'.alloc (.cells #[.int .u8 0, .int .i64 0, .int .u64 0, .int .i64 0, .int .i64 0] 37) = w' at HZ8 HZ9 HT HB hSS ⊢ | generalize w'.alloc (.cells #[.int .u8 0, .int .i64 0, .int .u64 0, .int .i64 0, .int .i64 0] 37) = w' at HZ8 HT HB hSS ⊢)
              refine hK.out _ _ (hSS) (fun hHeld => ?_)
              clear hK K
              refine norm_ (a' := ?_) ?_ ?_
              rotate_left
              · show Act.put _ (some 8) _ = _
                simp (maxSteps := 4000000) only [Act.put, List.setIfInBounds_toArray, List.set_cons_zero, List.set_cons_succ, i64_w, i32_w]
                try rfl
              refine one_ (i := 5) (N := some 25) #[true, true, true, true, true, true, true, true, false, false] rfl rfl (one_of HT_.out (by kernel_rfl)) (by decide) (fun K hK => ?_)
              refine goes_ Try.func10 (by kernel_rfl) rfl #[(tgV (tameT y))] (by rfl) rfl rfl (by (try simp only [List.map_toArray, List.map_cons, List.map_nil]); first | done | rfl) ?_
              refine (of_ok (tameT y) _).mono ?_
              rintro e w' ⟨rfl, hd⟩
              refine ⟨_, rfl, ?_⟩
              have hSS := And.intro (hHeld.1.below hd) (hHeld.2.below hd)
              (try replace HZ8 := Lib.hid (blk_below HZ8.out hd))
              (try replace HZ9 := Lib.hid (blk_below HZ9.out hd))
              replace HT := Lib.hid (HT.out.below hd)
              replace HB := Lib.hid (chain2 HB.out hd)
              clear hd
              refine hK.out _ _ (hSS) (fun hHeld => ?_)
              clear hK K
              refine norm_ (a' := ?_) ?_ ?_
              rotate_left
              · show Act.put _ (some 25) _ = _
                simp (maxSteps := 4000000) only [Act.put, List.setIfInBounds_toArray, List.set_cons_zero, List.set_cons_succ, i64_w, i32_w]
                try rfl
              refine last_ (i := 8) (N := none) #[true, true, true, true, true, true, true, true, true, false] rfl rfl (one_of HT_.out (by kernel_rfl)) (by decide) (fun K hK => ?_)
              refine skip_ (w1 := ((((w'.setCell ⟨b8, 0, none⟩ (.int .u8 ((tameT x).kind : Int))).setCell ⟨b8, 1, none⟩ (.int .i64 (tameT x).log)).setCell ⟨b8, 2, none⟩ (.int .u64 ((tameT x).seq : Int))).setCell ⟨b8, 3, none⟩ (.int .i64 (tameT x).pos)).setCell ⟨b8, 4, none⟩ (.int .i64 (tameT x).len)) (by rfl) rfl ?_ ?_
              · (obtain ⟨y0, y1, y2, y3, y4⟩ := tg_cells HZ8.out; have f0 := fun i => pl_frozenT HZ8.out i; unfold tgV; go_simp)
              refine hK.out _ _ ?_
              clear hK K
              refine last_ (i := 9) (N := none) #[true, true, true, true, true, true, true, true, true, true] rfl rfl (one_of HT_.out (by kernel_rfl)) (by decide) (fun K hK => ?_)
              refine skip_ (w1 := (((((((((w'.setCell ⟨b8, 0, none⟩ (.int .u8 ((tameT x).kind : Int))).setCell ⟨b8, 1, none⟩ (.int .i64 (tameT x).log)).setCell ⟨b8, 2, none⟩ (.int .u64 ((tameT x).seq : Int))).setCell ⟨b8, 3, none⟩ (.int .i64 (tameT x).pos)).setCell ⟨b8, 4, none⟩ (.int .i64 (tameT x).len)).setCell ⟨b9, 0, none⟩ (.int .u8 ((tameT y).kind : Int))).setCell ⟨b9, 1, none⟩ (.int .i64 (tameT y).log)).setCell ⟨b9, 2, none⟩ (.int .u64 ((tameT y).seq : Int))).setCell ⟨b9, 3, none⟩ (.int .i64 (tameT y).pos)).setCell ⟨b9, 4, none⟩ (.int .i64 (tameT y).len)) (by rfl) rfl ?_ ?_
              · (obtain ⟨y0, y1, y2, y3, y4⟩ := tg_cells (off5T (tameT x) (by first | exact HNe.out | exact HNe.out.symm) HZ9.out); have f0 := fun i => pl_frozenT (off5T (tameT x) (by first | exact HNe.out | exact HNe.out.symm) HZ9.out) i; unfold tgV; go_simp)
              refine hK.out _ _ ?_
              clear hK K
              refine done_ (done_of HT_.out (by kernel_rfl)) ?_
              go_wp2_with fail
              go_meet
              case rel => exact ⟨b8, b9, rfl, rfl, off5T (tameT y) (by first | exact HNe.out | exact HNe.out.symm) (set5T HZ8.out (tameT x)), set5T (off5T (tameT x) (by first | exact HNe.out | exact HNe.out.symm) HZ9.out) (tameT y), tab5T (tameT y) HN9.out (tab5T (tameT x) HN8.out HT.out), below5T (tameT y) HG9.out (below5T (tameT x) HG8.out HB.out)⟩
        · refine value_ (v := (.pointer (some ⟨w'.heap.size, 0, none⟩))) (w1 := w'.alloc (.cells #[.int .u8 0, .int .i64 0, .int .u64 0, .int .i64 0, .int .i64 0] 37)) (by rfl) rfl ?_ ?_
          · (go_simp)
          have HZ8 := Lib.hid (heap_alloc_new w' (.cells #[.int .u8 0, .int .i64 0, .int .u64 0, .int .i64 0, .int .i64 0] 37))
          have hd := below_alloc (Below.refl w'.heap.size w') (.cells #[.int .u8 0, .int .i64 0, .int .u64 0, .int .i64 0, .int .i64 0] 37)
          have HG8 := Lib.hid HB.out.size
          have HN8 := Lib.hid (Nat.ne_of_lt HT.out.lt)
          (try have HNe := Lib.hid (Nat.ne_of_lt (blk_lt HZ9.out)))
          (try replace HZ9 := Lib.hid (blk_below HZ9.out hd))
          replace HT := Lib.hid (HT.out.below hd)
          replace HB := Lib.hid (chain2 HB.out hd)
          have hSS := And.intro (hHeld.1.below hd) (hHeld.2.below hd)
          clear hd
          (first | generalize w'.heap.size = b8 at HZ8 HG8 HN8 HNe ⊢ | generalize w'.heap.size = b8 at HZ8 HG8 HN8 ⊢)
          (first | generalize w'.alloc (.cells #[.int .u8 0, .int .i64 0, .int .u64 0, .int .i64 0, .int .i64 0] 37) = w' at HZ8 HZ9 HT HB hSS ⊢ | generalize w'.alloc (.cells #[.int .u8 0, .int .i64 0, .int .u64 0, .int .i64 0, .int .i64 0] 37) = w' at HZ8 HT HB hSS ⊢)
          refine hK.out _ _ (hSS) (fun hHeld => ?_)
          clear hK K
          refine norm_ (a' := ?_) ?_ ?_
          rotate_left
          · show Act.put _ (some 8) _ = _
            simp (maxSteps := 4000000) only [Act.put, List.setIfInBounds_toArray, List.set_cons_zero, List.set_cons_succ, i64_w, i32_w]
            try rfl
          refine two_ (i := 4) (j := 7) (Ni := some 24) (Nj := some 9) #[true, true, true, true, true, false, true, false, false, false] #[true, true, true, true, false, false, true, true, false, false] rfl rfl rfl rfl  (two_of HT_.out (by kernel_rfl)) (by decide) (by decide)  (fun K hK => ?_) (fun K hK => ?_) 
          · refine goes_ Try.func8 (by kernel_rfl) rfl #[(tgV y)] (by rfl) rfl rfl (by (try simp only [List.map_toArray, List.map_cons, List.map_nil]); first | done | rfl) ?_
            refine (tame_ok y HO.out.2.kind _).mono ?_
            rintro e w' ⟨rfl, hd⟩
            refine ⟨_, rfl, ?_⟩
            have hSS := And.intro (hHeld.1.below hd) (hHeld.2.below hd)
            (try replace HZ8 := Lib.hid (blk_below HZ8.out hd))
            (try replace HZ9 := Lib.hid (blk_below HZ9.out hd))
            replace HT := Lib.hid (HT.out.below hd)
            replace HB := Lib.hid (chain2 HB.out hd)
            clear hd
            refine hK.out _ _ (hSS) (fun hHeld => ?_)
            clear hK K
            refine norm_ (a' := ?_) ?_ ?_
            rotate_left
            · show Act.put _ (some 24) _ = _
              simp (maxSteps := 4000000) only [Act.put, List.setIfInBounds_toArray, List.set_cons_zero, List.set_cons_succ, i64_w, i32_w]
              try rfl
            refine two_ (i := 5) (j := 7) (Ni := some 25) (Nj := some 9) #[true, true, true, true, true, true, true, false, false, false] #[true, true, true, true, true, false, true, true, false, false] rfl rfl rfl rfl  (two_of HT_.out (by kernel_rfl)) (by decide) (by decide)  (fun K hK => ?_) (fun K hK => ?_) 
            · refine goes_ Try.func10 (by kernel_rfl) rfl #[(tgV (tameT y))] (by rfl) rfl rfl (by (try simp only [List.map_toArray, List.map_cons, List.map_nil]); first | done | rfl) ?_
              refine (of_ok (tameT y) _).mono ?_
              rintro e w' ⟨rfl, hd⟩
              refine ⟨_, rfl, ?_⟩
              have hSS := And.intro (hHeld.1.below hd) (hHeld.2.below hd)
              (try replace HZ8 := Lib.hid (blk_below HZ8.out hd))
              (try replace HZ9 := Lib.hid (blk_below HZ9.out hd))
              replace HT := Lib.hid (HT.out.below hd)
              replace HB := Lib.hid (chain2 HB.out hd)
              clear hd
              refine hK.out _ _ (hSS) (fun hHeld => ?_)
              clear hK K
              refine norm_ (a' := ?_) ?_ ?_
              rotate_left
              · show Act.put _ (some 25) _ = _
                simp (maxSteps := 4000000) only [Act.put, List.setIfInBounds_toArray, List.set_cons_zero, List.set_cons_succ, i64_w, i32_w]
                try rfl
              refine one_ (i := 7) (N := some 9) #[true, true, true, true, true, true, true, true, false, false] rfl rfl (one_of HT_.out (by kernel_rfl)) (by decide) (fun K hK => ?_)
              refine value_ (v := (.pointer (some ⟨w'.heap.size, 0, none⟩))) (w1 := w'.alloc (.cells #[.int .u8 0, .int .i64 0, .int .u64 0, .int .i64 0, .int .i64 0] 37)) (by rfl) rfl ?_ ?_
              · (go_simp)
              have HZ9 := Lib.hid (heap_alloc_new w' (.cells #[.int .u8 0, .int .i64 0, .int .u64 0, .int .i64 0, .int .i64 0] 37))
              have hd := below_alloc (Below.refl w'.heap.size w') (.cells #[.int .u8 0, .int .i64 0, .int .u64 0, .int .i64 0, .int .i64 0] 37)
              have HG9 := Lib.hid HB.out.size
              have HN9 := Lib.hid (Nat.ne_of_lt HT.out.lt)
              (try have HNe := Lib.hid (Nat.ne_of_lt (blk_lt HZ8.out)))
              (try replace HZ8 := Lib.hid (blk_below HZ8.out hd))
              replace HT := Lib.hid (HT.out.below hd)
              replace HB := Lib.hid (chain2 HB.out hd)
              have hSS := And.intro (hHeld.1.below hd) (hHeld.2.below hd)
              clear hd
              (first | generalize w'.heap.size = b9 at HZ9 HG9 HN9 HNe ⊢ | generalize w'.heap.size = b9 at HZ9 HG9 HN9 ⊢)
              (first | generalize w'.alloc (.cells #[.int .u8 0, .int .i64 0, .int .u64 0, .int .i64 0, .int .i64 0] 37) = w' at HZ8 HZ9 HT HB hSS ⊢ | generalize w'.alloc (.cells #[.int .u8 0, .int .i64 0, .int .u64 0, .int .i64 0, .int .i64 0] 37) = w' at HZ9 HT HB hSS ⊢)
              refine hK.out _ _ (hSS) (fun hHeld => ?_)
              clear hK K
              refine norm_ (a' := ?_) ?_ ?_
              rotate_left
              · show Act.put _ (some 9) _ = _
                simp (maxSteps := 4000000) only [Act.put, List.setIfInBounds_toArray, List.set_cons_zero, List.set_cons_succ, i64_w, i32_w]
                try rfl
              refine last_ (i := 8) (N := none) #[true, true, true, true, true, true, true, true, true, false] rfl rfl (one_of HT_.out (by kernel_rfl)) (by decide) (fun K hK => ?_)
              refine skip_ (w1 := ((((w'.setCell ⟨b8, 0, none⟩ (.int .u8 ((tameT x).kind : Int))).setCell ⟨b8, 1, none⟩ (.int .i64 (tameT x).log)).setCell ⟨b8, 2, none⟩ (.int .u64 ((tameT x).seq : Int))).setCell ⟨b8, 3, none⟩ (.int .i64 (tameT x).pos)).setCell ⟨b8, 4, none⟩ (.int .i64 (tameT x).len)) (by rfl) rfl ?_ ?_
              · (obtain ⟨y0, y1, y2, y3, y4⟩ := tg_cells HZ8.out; have f0 := fun i => pl_frozenT HZ8.out i; unfold tgV; go_simp)
              refine hK.out _ _ ?_
              clear hK K
              refine last_ (i := 9) (N := none) #[true, true, true, true, true, true, true, true, true, true] rfl rfl (one_of HT_.out (by kernel_rfl)) (by decide) (fun K hK => ?_)
              refine skip_ (w1 := (((((((((w'.setCell ⟨b8, 0, none⟩ (.int .u8 ((tameT x).kind : Int))).setCell ⟨b8, 1, none⟩ (.int .i64 (tameT x).log)).setCell ⟨b8, 2, none⟩ (.int .u64 ((tameT x).seq : Int))).setCell ⟨b8, 3, none⟩ (.int .i64 (tameT x).pos)).setCell ⟨b8, 4, none⟩ (.int .i64 (tameT x).len)).setCell ⟨b9, 0, none⟩ (.int .u8 ((tameT y).kind : Int))).setCell ⟨b9, 1, none⟩ (.int .i64 (tameT y).log)).setCell ⟨b9, 2, none⟩ (.int .u64 ((tameT y).seq : Int))).setCell ⟨b9, 3, none⟩ (.int .i64 (tameT y).pos)).setCell ⟨b9, 4, none⟩ (.int .i64 (tameT y).len)) (by rfl) rfl ?_ ?_
              · (obtain ⟨y0, y1, y2, y3, y4⟩ := tg_cells (off5T (tameT x) (by first | exact HNe.out | exact HNe.out.symm) HZ9.out); have f0 := fun i => pl_frozenT (off5T (tameT x) (by first | exact HNe.out | exact HNe.out.symm) HZ9.out) i; unfold tgV; go_simp)
              refine hK.out _ _ ?_
              clear hK K
              refine done_ (done_of HT_.out (by kernel_rfl)) ?_
              go_wp2_with fail
              go_meet
              case rel => exact ⟨b8, b9, rfl, rfl, off5T (tameT y) (by first | exact HNe.out | exact HNe.out.symm) (set5T HZ8.out (tameT x)), set5T (off5T (tameT x) (by first | exact HNe.out | exact HNe.out.symm) HZ9.out) (tameT y), tab5T (tameT y) HN9.out (tab5T (tameT x) HN8.out HT.out), below5T (tameT y) HG9.out (below5T (tameT x) HG8.out HB.out)⟩
            · refine value_ (v := (.pointer (some ⟨w'.heap.size, 0, none⟩))) (w1 := w'.alloc (.cells #[.int .u8 0, .int .i64 0, .int .u64 0, .int .i64 0, .int .i64 0] 37)) (by rfl) rfl ?_ ?_
              · (go_simp)
              have HZ9 := Lib.hid (heap_alloc_new w' (.cells #[.int .u8 0, .int .i64 0, .int .u64 0, .int .i64 0, .int .i64 0] 37))
              have hd := below_alloc (Below.refl w'.heap.size w') (.cells #[.int .u8 0, .int .i64 0, .int .u64 0, .int .i64 0, .int .i64 0] 37)
              have HG9 := Lib.hid HB.out.size
              have HN9 := Lib.hid (Nat.ne_of_lt HT.out.lt)
              (try have HNe := Lib.hid (Nat.ne_of_lt (blk_lt HZ8.out)))
              (try replace HZ8 := Lib.hid (blk_below HZ8.out hd))
              replace HT := Lib.hid (HT.out.below hd)
              replace HB := Lib.hid (chain2 HB.out hd)
              have hSS := And.intro (hHeld.1.below hd) (hHeld.2.below hd)
              clear hd
              (first | generalize w'.heap.size = b9 at HZ9 HG9 HN9 HNe ⊢ | generalize w'.heap.size = b9 at HZ9 HG9 HN9 ⊢)
              (first | generalize w'.alloc (.cells #[.int .u8 0, .int .i64 0, .int .u64 0, .int .i64 0, .int .i64 0] 37) = w' at HZ8 HZ9 HT HB hSS ⊢ | generalize w'.alloc (.cells #[.int .u8 0, .int .i64 0, .int .u64 0, .int .i64 0, .int .i64 0] 37) = w' at HZ9 HT HB hSS ⊢)
              refine hK.out _ _ (hSS) (fun hHeld => ?_)
              clear hK K
              refine norm_ (a' := ?_) ?_ ?_
              rotate_left
              · show Act.put _ (some 9) _ = _
                simp (maxSteps := 4000000) only [Act.put, List.setIfInBounds_toArray, List.set_cons_zero, List.set_cons_succ, i64_w, i32_w]
                try rfl
              refine one_ (i := 5) (N := some 25) #[true, true, true, true, true, true, true, true, false, false] rfl rfl (one_of HT_.out (by kernel_rfl)) (by decide) (fun K hK => ?_)
              refine goes_ Try.func10 (by kernel_rfl) rfl #[(tgV (tameT y))] (by rfl) rfl rfl (by (try simp only [List.map_toArray, List.map_cons, List.map_nil]); first | done | rfl) ?_
              refine (of_ok (tameT y) _).mono ?_
              rintro e w' ⟨rfl, hd⟩
              refine ⟨_, rfl, ?_⟩
              have hSS := And.intro (hHeld.1.below hd) (hHeld.2.below hd)
              (try replace HZ8 := Lib.hid (blk_below HZ8.out hd))
              (try replace HZ9 := Lib.hid (blk_below HZ9.out hd))
              replace HT := Lib.hid (HT.out.below hd)
              replace HB := Lib.hid (chain2 HB.out hd)
              clear hd
              refine hK.out _ _ (hSS) (fun hHeld => ?_)
              clear hK K
              refine norm_ (a' := ?_) ?_ ?_
              rotate_left
              · show Act.put _ (some 25) _ = _
                simp (maxSteps := 4000000) only [Act.put, List.setIfInBounds_toArray, List.set_cons_zero, List.set_cons_succ, i64_w, i32_w]
                try rfl
              refine last_ (i := 8) (N := none) #[true, true, true, true, true, true, true, true, true, false] rfl rfl (one_of HT_.out (by kernel_rfl)) (by decide) (fun K hK => ?_)
              refine skip_ (w1 := ((((w'.setCell ⟨b8, 0, none⟩ (.int .u8 ((tameT x).kind : Int))).setCell ⟨b8, 1, none⟩ (.int .i64 (tameT x).log)).setCell ⟨b8, 2, none⟩ (.int .u64 ((tameT x).seq : Int))).setCell ⟨b8, 3, none⟩ (.int .i64 (tameT x).pos)).setCell ⟨b8, 4, none⟩ (.int .i64 (tameT x).len)) (by rfl) rfl ?_ ?_
              · (obtain ⟨y0, y1, y2, y3, y4⟩ := tg_cells HZ8.out; have f0 := fun i => pl_frozenT HZ8.out i; unfold tgV; go_simp)
              refine hK.out _ _ ?_
              clear hK K
              refine last_ (i := 9) (N := none) #[true, true, true, true, true, true, true, true, true, true] rfl rfl (one_of HT_.out (by kernel_rfl)) (by decide) (fun K hK => ?_)
              refine skip_ (w1 := (((((((((w'.setCell ⟨b8, 0, none⟩ (.int .u8 ((tameT x).kind : Int))).setCell ⟨b8, 1, none⟩ (.int .i64 (tameT x).log)).setCell ⟨b8, 2, none⟩ (.int .u64 ((tameT x).seq : Int))).setCell ⟨b8, 3, none⟩ (.int .i64 (tameT x).pos)).setCell ⟨b8, 4, none⟩ (.int .i64 (tameT x).len)).setCell ⟨b9, 0, none⟩ (.int .u8 ((tameT y).kind : Int))).setCell ⟨b9, 1, none⟩ (.int .i64 (tameT y).log)).setCell ⟨b9, 2, none⟩ (.int .u64 ((tameT y).seq : Int))).setCell ⟨b9, 3, none⟩ (.int .i64 (tameT y).pos)).setCell ⟨b9, 4, none⟩ (.int .i64 (tameT y).len)) (by rfl) rfl ?_ ?_
              · (obtain ⟨y0, y1, y2, y3, y4⟩ := tg_cells (off5T (tameT x) (by first | exact HNe.out | exact HNe.out.symm) HZ9.out); have f0 := fun i => pl_frozenT (off5T (tameT x) (by first | exact HNe.out | exact HNe.out.symm) HZ9.out) i; unfold tgV; go_simp)
              refine hK.out _ _ ?_
              clear hK K
              refine done_ (done_of HT_.out (by kernel_rfl)) ?_
              go_wp2_with fail
              go_meet
              case rel => exact ⟨b8, b9, rfl, rfl, off5T (tameT y) (by first | exact HNe.out | exact HNe.out.symm) (set5T HZ8.out (tameT x)), set5T (off5T (tameT x) (by first | exact HNe.out | exact HNe.out.symm) HZ9.out) (tameT y), tab5T (tameT y) HN9.out (tab5T (tameT x) HN8.out HT.out), below5T (tameT y) HG9.out (below5T (tameT x) HG8.out HB.out)⟩
          · refine value_ (v := (.pointer (some ⟨w'.heap.size, 0, none⟩))) (w1 := w'.alloc (.cells #[.int .u8 0, .int .i64 0, .int .u64 0, .int .i64 0, .int .i64 0] 37)) (by rfl) rfl ?_ ?_
            · (go_simp)
            have HZ9 := Lib.hid (heap_alloc_new w' (.cells #[.int .u8 0, .int .i64 0, .int .u64 0, .int .i64 0, .int .i64 0] 37))
            have hd := below_alloc (Below.refl w'.heap.size w') (.cells #[.int .u8 0, .int .i64 0, .int .u64 0, .int .i64 0, .int .i64 0] 37)
            have HG9 := Lib.hid HB.out.size
            have HN9 := Lib.hid (Nat.ne_of_lt HT.out.lt)
            (try have HNe := Lib.hid (Nat.ne_of_lt (blk_lt HZ8.out)))
            (try replace HZ8 := Lib.hid (blk_below HZ8.out hd))
            replace HT := Lib.hid (HT.out.below hd)
            replace HB := Lib.hid (chain2 HB.out hd)
            have hSS := And.intro (hHeld.1.below hd) (hHeld.2.below hd)
            clear hd
            (first | generalize w'.heap.size = b9 at HZ9 HG9 HN9 HNe ⊢ | generalize w'.heap.size = b9 at HZ9 HG9 HN9 ⊢)
            (first | generalize w'.alloc (.cells #[.int .u8 0, .int .i64 0, .int .u64 0, .int .i64 0, .int .i64 0] 37) = w' at HZ8 HZ9 HT HB hSS ⊢ | generalize w'.alloc (.cells #[.int .u8 0, .int .i64 0, .int .u64 0, .int .i64 0, .int .i64 0] 37) = w' at HZ9 HT HB hSS ⊢)
            refine hK.out _ _ (hSS) (fun hHeld => ?_)
            clear hK K
            refine norm_ (a' := ?_) ?_ ?_
            rotate_left
            · show Act.put _ (some 9) _ = _
              simp (maxSteps := 4000000) only [Act.put, List.setIfInBounds_toArray, List.set_cons_zero, List.set_cons_succ, i64_w, i32_w]
              try rfl
            refine one_ (i := 4) (N := some 24) #[true, true, true, true, true, false, true, true, false, false] rfl rfl (one_of HT_.out (by kernel_rfl)) (by decide) (fun K hK => ?_)
            refine goes_ Try.func8 (by kernel_rfl) rfl #[(tgV y)] (by rfl) rfl rfl (by (try simp only [List.map_toArray, List.map_cons, List.map_nil]); first | done | rfl) ?_
            refine (tame_ok y HO.out.2.kind _).mono ?_
            rintro e w' ⟨rfl, hd⟩
            refine ⟨_, rfl, ?_⟩
            have hSS := And.intro (hHeld.1.below hd) (hHeld.2.below hd)
            (try replace HZ8 := Lib.hid (blk_below HZ8.out hd))
            (try replace HZ9 := Lib.hid (blk_below HZ9.out hd))
            replace HT := Lib.hid (HT.out.below hd)
            replace HB := Lib.hid (chain2 HB.out hd)
            clear hd
            refine hK.out _ _ (hSS) (fun hHeld => ?_)
            clear hK K
            refine norm_ (a' := ?_) ?_ ?_
            rotate_left
            · show Act.put _ (some 24) _ = _
              simp (maxSteps := 4000000) only [Act.put, List.setIfInBounds_toArray, List.set_cons_zero, List.set_cons_succ, i64_w, i32_w]
              try rfl
            refine one_ (i := 5) (N := some 25) #[true, true, true, true, true, true, true, true, false, false] rfl rfl (one_of HT_.out (by kernel_rfl)) (by decide) (fun K hK => ?_)
            refine goes_ Try.func10 (by kernel_rfl) rfl #[(tgV (tameT y))] (by rfl) rfl rfl (by (try simp only [List.map_toArray, List.map_cons, List.map_nil]); first | done | rfl) ?_
            refine (of_ok (tameT y) _).mono ?_
            rintro e w' ⟨rfl, hd⟩
            refine ⟨_, rfl, ?_⟩
            have hSS := And.intro (hHeld.1.below hd) (hHeld.2.below hd)
            (try replace HZ8 := Lib.hid (blk_below HZ8.out hd))
            (try replace HZ9 := Lib.hid (blk_below HZ9.out hd))
            replace HT := Lib.hid (HT.out.below hd)
            replace HB := Lib.hid (chain2 HB.out hd)
            clear hd
            refine hK.out _ _ (hSS) (fun hHeld => ?_)
            clear hK K
            refine norm_ (a' := ?_) ?_ ?_
            rotate_left
            · show Act.put _ (some 25) _ = _
              simp (maxSteps := 4000000) only [Act.put, List.setIfInBounds_toArray, List.set_cons_zero, List.set_cons_succ, i64_w, i32_w]
              try rfl
            refine last_ (i := 8) (N := none) #[true, true, true, true, true, true, true, true, true, false] rfl rfl (one_of HT_.out (by kernel_rfl)) (by decide) (fun K hK => ?_)
            refine skip_ (w1 := ((((w'.setCell ⟨b8, 0, none⟩ (.int .u8 ((tameT x).kind : Int))).setCell ⟨b8, 1, none⟩ (.int .i64 (tameT x).log)).setCell ⟨b8, 2, none⟩ (.int .u64 ((tameT x).seq : Int))).setCell ⟨b8, 3, none⟩ (.int .i64 (tameT x).pos)).setCell ⟨b8, 4, none⟩ (.int .i64 (tameT x).len)) (by rfl) rfl ?_ ?_
            · (obtain ⟨y0, y1, y2, y3, y4⟩ := tg_cells HZ8.out; have f0 := fun i => pl_frozenT HZ8.out i; unfold tgV; go_simp)
            refine hK.out _ _ ?_
            clear hK K
            refine last_ (i := 9) (N := none) #[true, true, true, true, true, true, true, true, true, true] rfl rfl (one_of HT_.out (by kernel_rfl)) (by decide) (fun K hK => ?_)
            refine skip_ (w1 := (((((((((w'.setCell ⟨b8, 0, none⟩ (.int .u8 ((tameT x).kind : Int))).setCell ⟨b8, 1, none⟩ (.int .i64 (tameT x).log)).setCell ⟨b8, 2, none⟩ (.int .u64 ((tameT x).seq : Int))).setCell ⟨b8, 3, none⟩ (.int .i64 (tameT x).pos)).setCell ⟨b8, 4, none⟩ (.int .i64 (tameT x).len)).setCell ⟨b9, 0, none⟩ (.int .u8 ((tameT y).kind : Int))).setCell ⟨b9, 1, none⟩ (.int .i64 (tameT y).log)).setCell ⟨b9, 2, none⟩ (.int .u64 ((tameT y).seq : Int))).setCell ⟨b9, 3, none⟩ (.int .i64 (tameT y).pos)).setCell ⟨b9, 4, none⟩ (.int .i64 (tameT y).len)) (by rfl) rfl ?_ ?_
            · (obtain ⟨y0, y1, y2, y3, y4⟩ := tg_cells (off5T (tameT x) (by first | exact HNe.out | exact HNe.out.symm) HZ9.out); have f0 := fun i => pl_frozenT (off5T (tameT x) (by first | exact HNe.out | exact HNe.out.symm) HZ9.out) i; unfold tgV; go_simp)
            refine hK.out _ _ ?_
            clear hK K
            refine done_ (done_of HT_.out (by kernel_rfl)) ?_
            go_wp2_with fail
            go_meet
            case rel => exact ⟨b8, b9, rfl, rfl, off5T (tameT y) (by first | exact HNe.out | exact HNe.out.symm) (set5T HZ8.out (tameT x)), set5T (off5T (tameT x) (by first | exact HNe.out | exact HNe.out.symm) HZ9.out) (tameT y), tab5T (tameT y) HN9.out (tab5T (tameT x) HN8.out HT.out), below5T (tameT y) HG9.out (below5T (tameT x) HG8.out HB.out)⟩
        · refine value_ (v := (.pointer (some ⟨w'.heap.size, 0, none⟩))) (w1 := w'.alloc (.cells #[.int .u8 0, .int .i64 0, .int .u64 0, .int .i64 0, .int .i64 0] 37)) (by rfl) rfl ?_ ?_
          · (go_simp)
          have HZ9 := Lib.hid (heap_alloc_new w' (.cells #[.int .u8 0, .int .i64 0, .int .u64 0, .int .i64 0, .int .i64 0] 37))
          have hd := below_alloc (Below.refl w'.heap.size w') (.cells #[.int .u8 0, .int .i64 0, .int .u64 0, .int .i64 0, .int .i64 0] 37)
          have HG9 := Lib.hid HB.out.size
          have HN9 := Lib.hid (Nat.ne_of_lt HT.out.lt)
          (try have HNe := Lib.hid (Nat.ne_of_lt (blk_lt HZ8.out)))
          (try replace HZ8 := Lib.hid (blk_below HZ8.out hd))
          replace HT := Lib.hid (HT.out.below hd)
          replace HB := Lib.hid (chain2 HB.out hd)
          have hSS := And.intro (hHeld.1.below hd) (hHeld.2.below hd)
          clear hd
          (first | generalize w'.heap.size = b9 at HZ9 HG9 HN9 HNe ⊢ | generalize w'.heap.size = b9 at HZ9 HG9 HN9 ⊢)
          (first | generalize w'.alloc (.cells #[.int .u8 0, .int .i64 0, .int .u64 0, .int .i64 0, .int .i64 0] 37) = w' at HZ8 HZ9 HT HB hSS ⊢ | generalize w'.alloc (.cells #[.int .u8 0, .int .i64 0, .int .u64 0, .int .i64 0, .int .i64 0] 37) = w' at HZ9 HT HB hSS ⊢)
          refine hK.out _ _ (hSS) (fun hHeld => ?_)
          clear hK K
          refine norm_ (a' := ?_) ?_ ?_
          rotate_left
          · show Act.put _ (some 9) _ = _
            simp (maxSteps := 4000000) only [Act.put, List.setIfInBounds_toArray, List.set_cons_zero, List.set_cons_succ, i64_w, i32_w]
            try rfl
          refine two_ (i := 4) (j := 6) (Ni := some 24) (Nj := some 8) #[true, true, true, true, true, false, false, true, false, false] #[true, true, true, true, false, false, true, true, false, false] rfl rfl rfl rfl  (two_of HT_.out (by kernel_rfl)) (by decide) (by decide)  (fun K hK => ?_) (fun K hK => ?_) 
          · refine goes_ Try.func8 (by kernel_rfl) rfl #[(tgV y)] (by rfl) rfl rfl (by (try simp only [List.map_toArray, List.map_cons, List.map_nil]); first | done | rfl) ?_
            refine (tame_ok y HO.out.2.kind _).mono ?_
            rintro e w' ⟨rfl, hd⟩
            refine ⟨_, rfl, ?_⟩
            have hSS := And.intro (hHeld.1.below hd) (hHeld.2.below hd)
            (try replace HZ8 := Lib.hid (blk_below HZ8.out hd))
            (try replace HZ9 := Lib.hid (blk_below HZ9.out hd))
            replace HT := Lib.hid (HT.out.below hd)
            replace HB := Lib.hid (chain2 HB.out hd)
            clear hd
            refine hK.out _ _ (hSS) (fun hHeld => ?_)
            clear hK K
            refine norm_ (a' := ?_) ?_ ?_
            rotate_left
            · show Act.put _ (some 24) _ = _
              simp (maxSteps := 4000000) only [Act.put, List.setIfInBounds_toArray, List.set_cons_zero, List.set_cons_succ, i64_w, i32_w]
              try rfl
            refine two_ (i := 5) (j := 6) (Ni := some 25) (Nj := some 8) #[true, true, true, true, true, true, false, true, false, false] #[true, true, true, true, true, false, true, true, false, false] rfl rfl rfl rfl  (two_of HT_.out (by kernel_rfl)) (by decide) (by decide)  (fun K hK => ?_) (fun K hK => ?_) 
            · refine goes_ Try.func10 (by kernel_rfl) rfl #[(tgV (tameT y))] (by rfl) rfl rfl (by (try simp only [List.map_toArray, List.map_cons, List.map_nil]); first | done | rfl) ?_
              refine (of_ok (tameT y) _).mono ?_
              rintro e w' ⟨rfl, hd⟩
              refine ⟨_, rfl, ?_⟩
              have hSS := And.intro (hHeld.1.below hd) (hHeld.2.below hd)
              (try replace HZ8 := Lib.hid (blk_below HZ8.out hd))
              (try replace HZ9 := Lib.hid (blk_below HZ9.out hd))
              replace HT := Lib.hid (HT.out.below hd)
              replace HB := Lib.hid (chain2 HB.out hd)
              clear hd
              refine hK.out _ _ (hSS) (fun hHeld => ?_)
              clear hK K
              refine norm_ (a' := ?_) ?_ ?_
              rotate_left
              · show Act.put _ (some 25) _ = _
                simp (maxSteps := 4000000) only [Act.put, List.setIfInBounds_toArray, List.set_cons_zero, List.set_cons_succ, i64_w, i32_w]
                try rfl
              refine one_ (i := 6) (N := some 8) #[true, true, true, true, true, true, true, true, false, false] rfl rfl (one_of HT_.out (by kernel_rfl)) (by decide) (fun K hK => ?_)
              refine value_ (v := (.pointer (some ⟨w'.heap.size, 0, none⟩))) (w1 := w'.alloc (.cells #[.int .u8 0, .int .i64 0, .int .u64 0, .int .i64 0, .int .i64 0] 37)) (by rfl) rfl ?_ ?_
              · (go_simp)
              have HZ8 := Lib.hid (heap_alloc_new w' (.cells #[.int .u8 0, .int .i64 0, .int .u64 0, .int .i64 0, .int .i64 0] 37))
              have hd := below_alloc (Below.refl w'.heap.size w') (.cells #[.int .u8 0, .int .i64 0, .int .u64 0, .int .i64 0, .int .i64 0] 37)
              have HG8 := Lib.hid HB.out.size
              have HN8 := Lib.hid (Nat.ne_of_lt HT.out.lt)
              (try have HNe := Lib.hid (Nat.ne_of_lt (blk_lt HZ9.out)))
              (try replace HZ9 := Lib.hid (blk_below HZ9.out hd))
              replace HT := Lib.hid (HT.out.below hd)
              replace HB := Lib.hid (chain2 HB.out hd)
              have hSS := And.intro (hHeld.1.below hd) (hHeld.2.below hd)
              clear hd
              (first | generalize w'.heap.size = b8 at HZ8 HG8 HN8 HNe ⊢ | generalize w'.heap.size = b8 at HZ8 HG8 HN8 ⊢)
              (first | generalize w'.alloc (.cells #[.int .u8 0, .int .i64 0, .int .u64 0, .int .i64 0, .int .i64 0] 37) = w' at HZ8 HZ9 HT HB hSS ⊢ | generalize w'.alloc (.cells #[.int .u8 0, .int .i64 0, .int .u64 0, .int .i64 0, .int .i64 0] 37) = w' at HZ8 HT HB hSS ⊢)
              refine hK.out _ _ (hSS) (fun hHeld => ?_)
              clear hK K
              refine norm_ (a' := ?_) ?_ ?_
              rotate_left
              · show Act.put _ (some 8) _ = _
                simp (maxSteps := 4000000) only [Act.put, List.setIfInBounds_toArray, List.set_cons_zero, List.set_cons_succ, i64_w, i32_w]
                try rfl
              refine last_ (i := 8) (N := none) #[true, true, true, true, true, true, true, true, true, false] rfl rfl (one_of HT_.out (by kernel_rfl)) (by decide) (fun K hK => ?_)
              refine skip_ (w1 := ((((w'.setCell ⟨b8, 0, none⟩ (.int .u8 ((tameT x).kind : Int))).setCell ⟨b8, 1, none⟩ (.int .i64 (tameT x).log)).setCell ⟨b8, 2, none⟩ (.int .u64 ((tameT x).seq : Int))).setCell ⟨b8, 3, none⟩ (.int .i64 (tameT x).pos)).setCell ⟨b8, 4, none⟩ (.int .i64 (tameT x).len)) (by rfl) rfl ?_ ?_
              · (obtain ⟨y0, y1, y2, y3, y4⟩ := tg_cells HZ8.out; have f0 := fun i => pl_frozenT HZ8.out i; unfold tgV; go_simp)
              refine hK.out _ _ ?_
              clear hK K
              refine last_ (i := 9) (N := none) #[true, true, true, true, true, true, true, true, true, true] rfl rfl (one_of HT_.out (by kernel_rfl)) (by decide) (fun K hK => ?_)
              refine skip_ (w1 := (((((((((w'.setCell ⟨b8, 0, none⟩ (.int .u8 ((tameT x).kind : Int))).setCell ⟨b8, 1, none⟩ (.int .i64 (tameT x).log)).setCell ⟨b8, 2, none⟩ (.int .u64 ((tameT x).seq : Int))).setCell ⟨b8, 3, none⟩ (.int .i64 (tameT x).pos)).setCell ⟨b8, 4, none⟩ (.int .i64 (tameT x).len)).setCell ⟨b9, 0, none⟩ (.int .u8 ((tameT y).kind : Int))).setCell ⟨b9, 1, none⟩ (.int .i64 (tameT y).log)).setCell ⟨b9, 2, none⟩ (.int .u64 ((tameT y).seq : Int))).setCell ⟨b9, 3, none⟩ (.int .i64 (tameT y).pos)).setCell ⟨b9, 4, none⟩ (.int .i64 (tameT y).len)) (by rfl) rfl ?_ ?_
              · (obtain ⟨y0, y1, y2, y3, y4⟩ := tg_cells (off5T (tameT x) (by first | exact HNe.out | exact HNe.out.symm) HZ9.out); have f0 := fun i => pl_frozenT (off5T (tameT x) (by first | exact HNe.out | exact HNe.out.symm) HZ9.out) i; unfold tgV; go_simp)
              refine hK.out _ _ ?_
              clear hK K
              refine done_ (done_of HT_.out (by kernel_rfl)) ?_
              go_wp2_with fail
              go_meet
              case rel => exact ⟨b8, b9, rfl, rfl, off5T (tameT y) (by first | exact HNe.out | exact HNe.out.symm) (set5T HZ8.out (tameT x)), set5T (off5T (tameT x) (by first | exact HNe.out | exact HNe.out.symm) HZ9.out) (tameT y), tab5T (tameT y) HN9.out (tab5T (tameT x) HN8.out HT.out), below5T (tameT y) HG9.out (below5T (tameT x) HG8.out HB.out)⟩
            · refine value_ (v := (.pointer (some ⟨w'.heap.size, 0, none⟩))) (w1 := w'.alloc (.cells #[.int .u8 0, .int .i64 0, .int .u64 0, .int .i64 0, .int .i64 0] 37)) (by rfl) rfl ?_ ?_
              · (go_simp)
              have HZ8 := Lib.hid (heap_alloc_new w' (.cells #[.int .u8 0, .int .i64 0, .int .u64 0, .int .i64 0, .int .i64 0] 37))
              have hd := below_alloc (Below.refl w'.heap.size w') (.cells #[.int .u8 0, .int .i64 0, .int .u64 0, .int .i64 0, .int .i64 0] 37)
              have HG8 := Lib.hid HB.out.size
              have HN8 := Lib.hid (Nat.ne_of_lt HT.out.lt)
              (try have HNe := Lib.hid (Nat.ne_of_lt (blk_lt HZ9.out)))
              (try replace HZ9 := Lib.hid (blk_below HZ9.out hd))
              replace HT := Lib.hid (HT.out.below hd)
              replace HB := Lib.hid (chain2 HB.out hd)
              have hSS := And.intro (hHeld.1.below hd) (hHeld.2.below hd)
              clear hd
              (first | generalize w'.heap.size = b8 at HZ8 HG8 HN8 HNe ⊢ | generalize w'.heap.size = b8 at HZ8 HG8 HN8 ⊢)
              (first | generalize w'.alloc (.cells #[.int .u8 0, .int .i64 0, .int .u64 0, .int .i64 0, .int .i64 0] 37) = w' at HZ8 HZ9 HT HB hSS ⊢ | generalize w'.alloc (.cells #[.int .u8 0, .int .i64 0, .int .u64 0, .int .i64 0, .int .i64 0] 37) = w' at HZ8 HT HB hSS ⊢)
              refine hK.out _ _ (hSS) (fun hHeld => ?_)
              clear hK K
              refine norm_ (a' := ?_) ?_ ?_
              rotate_left
              · show Act.put _ (some 8) _ = _
                simp (maxSteps := 4000000) only [Act.put, List.setIfInBounds_toArray, List.set_cons_zero, List.set_cons_succ, i64_w, i32_w]
                try rfl
              refine one_ (i := 5) (N := some 25) #[true, true, true, true, true, true, true, true, false, false] rfl rfl (one_of HT_.out (by kernel_rfl)) (by decide) (fun K hK => ?_)
              refine goes_ Try.func10 (by kernel_rfl) rfl #[(tgV (tameT y))] (by rfl) rfl rfl (by (try simp only [List.map_toArray, List.map_cons, List.map_nil]); first | done | rfl) ?_
              refine (of_ok (tameT y) _).mono ?_
              rintro e w' ⟨rfl, hd⟩
              refine ⟨_, rfl, ?_⟩
              have hSS := And.intro (hHeld.1.below hd) (hHeld.2.below hd)
              (try replace HZ8 := Lib.hid (blk_below HZ8.out hd))
              (try replace HZ9 := Lib.hid (blk_below HZ9.out hd))
              replace HT := Lib.hid (HT.out.below hd)
              replace HB := Lib.hid (chain2 HB.out hd)
              clear hd
              refine hK.out _ _ (hSS) (fun hHeld => ?_)
              clear hK K
              refine norm_ (a' := ?_) ?_ ?_
              rotate_left
              · show Act.put _ (some 25) _ = _
                simp (maxSteps := 4000000) only [Act.put, List.setIfInBounds_toArray, List.set_cons_zero, List.set_cons_succ, i64_w, i32_w]
                try rfl
              refine last_ (i := 8) (N := none) #[true, true, true, true, true, true, true, true, true, false] rfl rfl (one_of HT_.out (by kernel_rfl)) (by decide) (fun K hK => ?_)
              refine skip_ (w1 := ((((w'.setCell ⟨b8, 0, none⟩ (.int .u8 ((tameT x).kind : Int))).setCell ⟨b8, 1, none⟩ (.int .i64 (tameT x).log)).setCell ⟨b8, 2, none⟩ (.int .u64 ((tameT x).seq : Int))).setCell ⟨b8, 3, none⟩ (.int .i64 (tameT x).pos)).setCell ⟨b8, 4, none⟩ (.int .i64 (tameT x).len)) (by rfl) rfl ?_ ?_
              · (obtain ⟨y0, y1, y2, y3, y4⟩ := tg_cells HZ8.out; have f0 := fun i => pl_frozenT HZ8.out i; unfold tgV; go_simp)
              refine hK.out _ _ ?_
              clear hK K
              refine last_ (i := 9) (N := none) #[true, true, true, true, true, true, true, true, true, true] rfl rfl (one_of HT_.out (by kernel_rfl)) (by decide) (fun K hK => ?_)
              refine skip_ (w1 := (((((((((w'.setCell ⟨b8, 0, none⟩ (.int .u8 ((tameT x).kind : Int))).setCell ⟨b8, 1, none⟩ (.int .i64 (tameT x).log)).setCell ⟨b8, 2, none⟩ (.int .u64 ((tameT x).seq : Int))).setCell ⟨b8, 3, none⟩ (.int .i64 (tameT x).pos)).setCell ⟨b8, 4, none⟩ (.int .i64 (tameT x).len)).setCell ⟨b9, 0, none⟩ (.int .u8 ((tameT y).kind : Int))).setCell ⟨b9, 1, none⟩ (.int .i64 (tameT y).log)).setCell ⟨b9, 2, none⟩ (.int .u64 ((tameT y).seq : Int))).setCell ⟨b9, 3, none⟩ (.int .i64 (tameT y).pos)).setCell ⟨b9, 4, none⟩ (.int .i64 (tameT y).len)) (by rfl) rfl ?_ ?_
              · (obtain ⟨y0, y1, y2, y3, y4⟩ := tg_cells (off5T (tameT x) (by first | exact HNe.out | exact HNe.out.symm) HZ9.out); have f0 := fun i => pl_frozenT (off5T (tameT x) (by first | exact HNe.out | exact HNe.out.symm) HZ9.out) i; unfold tgV; go_simp)
              refine hK.out _ _ ?_
              clear hK K
              refine done_ (done_of HT_.out (by kernel_rfl)) ?_
              go_wp2_with fail
              go_meet
              case rel => exact ⟨b8, b9, rfl, rfl, off5T (tameT y) (by first | exact HNe.out | exact HNe.out.symm) (set5T HZ8.out (tameT x)), set5T (off5T (tameT x) (by first | exact HNe.out | exact HNe.out.symm) HZ9.out) (tameT y), tab5T (tameT y) HN9.out (tab5T (tameT x) HN8.out HT.out), below5T (tameT y) HG9.out (below5T (tameT x) HG8.out HB.out)⟩
          · refine value_ (v := (.pointer (some ⟨w'.heap.size, 0, none⟩))) (w1 := w'.alloc (.cells #[.int .u8 0, .int .i64 0, .int .u64 0, .int .i64 0, .int .i64 0] 37)) (by rfl) rfl ?_ ?_
            · (go_simp)
            have HZ8 := Lib.hid (heap_alloc_new w' (.cells #[.int .u8 0, .int .i64 0, .int .u64 0, .int .i64 0, .int .i64 0] 37))
            have hd := below_alloc (Below.refl w'.heap.size w') (.cells #[.int .u8 0, .int .i64 0, .int .u64 0, .int .i64 0, .int .i64 0] 37)
            have HG8 := Lib.hid HB.out.size
            have HN8 := Lib.hid (Nat.ne_of_lt HT.out.lt)
            (try have HNe := Lib.hid (Nat.ne_of_lt (blk_lt HZ9.out)))
            (try replace HZ9 := Lib.hid (blk_below HZ9.out hd))
            replace HT := Lib.hid (HT.out.below hd)
            replace HB := Lib.hid (chain2 HB.out hd)
            have hSS := And.intro (hHeld.1.below hd) (hHeld.2.below hd)
            clear hd
            (first | generalize w'.heap.size = b8 at HZ8 HG8 HN8 HNe ⊢ | generalize w'.heap.size = b8 at HZ8 HG8 HN8 ⊢)
            (first | generalize w'.alloc (.cells #[.int .u8 0, .int .i64 0, .int .u64 0, .int .i64 0, .int .i64 0] 37) = w' at HZ8 HZ9 HT HB hSS ⊢ | generalize w'.alloc (.cells #[.int .u8 0, .int .i64 0, .int .u64 0, .int .i64 0, .int .i64 0] 37) = w' at HZ8 HT HB hSS ⊢)
            refine hK.out _ _ (hSS) (fun hHeld => ?_)
            clear hK K
            refine norm_ (a' := ?_) ?_ ?_
            rotate_left
            · show Act.put _ (some 8) _ = _
              simp (maxSteps := 4000000) only [Act.put, List.setIfInBounds_toArray, List.set_cons_zero, List.set_cons_succ, i64_w, i32_w]
              try rfl
            refine one_ (i := 4) (N := some 24) #[true, true, true, true, true, false, true, true, false, false] rfl rfl (one_of HT_.out (by kernel_rfl)) (by decide) (fun K hK => ?_)
            refine goes_ Try.func8 (by kernel_rfl) rfl #[(tgV y)] (by rfl) rfl rfl (by (try simp only [List.map_toArray, List.map_cons, List.map_nil]); first | done | rfl) ?_
            refine (tame_ok y HO.out.2.kind _).mono ?_
            rintro e w' ⟨rfl, hd⟩
            refine ⟨_, rfl, ?_⟩
            have hSS := And.intro (hHeld.1.below hd) (hHeld.2.below hd)
            (try replace HZ8 := Lib.hid (blk_below HZ8.out hd))
            (try replace HZ9 := Lib.hid (blk_below HZ9.out hd))
            replace HT := Lib.hid (HT.out.below hd)
            replace HB := Lib.hid (chain2 HB.out hd)
            clear hd
            refine hK.out _ _ (hSS) (fun hHeld => ?_)
            clear hK K
            refine norm_ (a' := ?_) ?_ ?_
            rotate_left
            · show Act.put _ (some 24) _ = _
              simp (maxSteps := 4000000) only [Act.put, List.setIfInBounds_toArray, List.set_cons_zero, List.set_cons_succ, i64_w, i32_w]
              try rfl
            refine one_ (i := 5) (N := some 25) #[true, true, true, true, true, true, true, true, false, false] rfl rfl (one_of HT_.out (by kernel_rfl)) (by decide) (fun K hK => ?_)
            refine goes_ Try.func10 (by kernel_rfl) rfl #[(tgV (tameT y))] (by rfl) rfl rfl (by (try simp only [List.map_toArray, List.map_cons, List.map_nil]); first | done | rfl) ?_
            refine (of_ok (tameT y) _).mono ?_
            rintro e w' ⟨rfl, hd⟩
            refine ⟨_, rfl, ?_⟩
            have hSS := And.intro (hHeld.1.below hd) (hHeld.2.below hd)
            (try replace HZ8 := Lib.hid (blk_below HZ8.out hd))
            (try replace HZ9 := Lib.hid (blk_below HZ9.out hd))
            replace HT := Lib.hid (HT.out.below hd)
            replace HB := Lib.hid (chain2 HB.out hd)
            clear hd
            refine hK.out _ _ (hSS) (fun hHeld => ?_)
            clear hK K
            refine norm_ (a' := ?_) ?_ ?_
            rotate_left
            · show Act.put _ (some 25) _ = _
              simp (maxSteps := 4000000) only [Act.put, List.setIfInBounds_toArray, List.set_cons_zero, List.set_cons_succ, i64_w, i32_w]
              try rfl
            refine last_ (i := 8) (N := none) #[true, true, true, true, true, true, true, true, true, false] rfl rfl (one_of HT_.out (by kernel_rfl)) (by decide) (fun K hK => ?_)
            refine skip_ (w1 := ((((w'.setCell ⟨b8, 0, none⟩ (.int .u8 ((tameT x).kind : Int))).setCell ⟨b8, 1, none⟩ (.int .i64 (tameT x).log)).setCell ⟨b8, 2, none⟩ (.int .u64 ((tameT x).seq : Int))).setCell ⟨b8, 3, none⟩ (.int .i64 (tameT x).pos)).setCell ⟨b8, 4, none⟩ (.int .i64 (tameT x).len)) (by rfl) rfl ?_ ?_
            · (obtain ⟨y0, y1, y2, y3, y4⟩ := tg_cells HZ8.out; have f0 := fun i => pl_frozenT HZ8.out i; unfold tgV; go_simp)
            refine hK.out _ _ ?_
            clear hK K
            refine last_ (i := 9) (N := none) #[true, true, true, true, true, true, true, true, true, true] rfl rfl (one_of HT_.out (by kernel_rfl)) (by decide) (fun K hK => ?_)
            refine skip_ (w1 := (((((((((w'.setCell ⟨b8, 0, none⟩ (.int .u8 ((tameT x).kind : Int))).setCell ⟨b8, 1, none⟩ (.int .i64 (tameT x).log)).setCell ⟨b8, 2, none⟩ (.int .u64 ((tameT x).seq : Int))).setCell ⟨b8, 3, none⟩ (.int .i64 (tameT x).pos)).setCell ⟨b8, 4, none⟩ (.int .i64 (tameT x).len)).setCell ⟨b9, 0, none⟩ (.int .u8 ((tameT y).kind : Int))).setCell ⟨b9, 1, none⟩ (.int .i64 (tameT y).log)).setCell ⟨b9, 2, none⟩ (.int .u64 ((tameT y).seq : Int))).setCell ⟨b9, 3, none⟩ (.int .i64 (tameT y).pos)).setCell ⟨b9, 4, none⟩ (.int .i64 (tameT y).len)) (by rfl) rfl ?_ ?_
            · (obtain ⟨y0, y1, y2, y3, y4⟩ := tg_cells (off5T (tameT x) (by first | exact HNe.out | exact HNe.out.symm) HZ9.out); have f0 := fun i => pl_frozenT (off5T (tameT x) (by first | exact HNe.out | exact HNe.out.symm) HZ9.out) i; unfold tgV; go_simp)
            refine hK.out _ _ ?_
            clear hK K
            refine done_ (done_of HT_.out (by kernel_rfl)) ?_
            go_wp2_with fail
            go_meet
            case rel => exact ⟨b8, b9, rfl, rfl, off5T (tameT y) (by first | exact HNe.out | exact HNe.out.symm) (set5T HZ8.out (tameT x)), set5T (off5T (tameT x) (by first | exact HNe.out | exact HNe.out.symm) HZ9.out) (tameT y), tab5T (tameT y) HN9.out (tab5T (tameT x) HN8.out HT.out), below5T (tameT y) HG9.out (below5T (tameT x) HG8.out HB.out)⟩
      · refine value_ (v := (.pointer (some ⟨w'.heap.size, 0, none⟩))) (w1 := w'.alloc (.cells #[.int .u8 0, .int .i64 0, .int .u64 0, .int .i64 0, .int .i64 0] 37)) (by rfl) rfl ?_ ?_
        · (go_simp)
        have HZ8 := Lib.hid (heap_alloc_new w' (.cells #[.int .u8 0, .int .i64 0, .int .u64 0, .int .i64 0, .int .i64 0] 37))
        have hd := below_alloc (Below.refl w'.heap.size w') (.cells #[.int .u8 0, .int .i64 0, .int .u64 0, .int .i64 0, .int .i64 0] 37)
        have HG8 := Lib.hid HB.out.size
        have HN8 := Lib.hid (Nat.ne_of_lt HT.out.lt)
        (try have HNe := Lib.hid (Nat.ne_of_lt (blk_lt HZ9.out)))
        (try replace HZ9 := Lib.hid (blk_below HZ9.out hd))
        replace HT := Lib.hid (HT.out.below hd)
        replace HB := Lib.hid (chain2 HB.out hd)
        have hSS := And.intro (hHeld.1.below hd) (hHeld.2.below hd)
        clear hd
        (first | generalize w'.heap.size = b8 at HZ8 HG8 HN8 HNe ⊢ | generalize w'.heap.size = b8 at HZ8 HG8 HN8 ⊢)
        (first | generalize w'.alloc (.cells #[.int .u8 0, .int .i64 0, .int .u64 0, .int .i64 0, .int .i64 0] 37) = w' at HZ8 HZ9 HT HB hSS ⊢ | generalize w'.alloc (.cells #[.int .u8 0, .int .i64 0, .int .u64 0, .int .i64 0, .int .i64 0] 37) = w' at HZ8 HT HB hSS ⊢)
        refine hK.out _ _ (hSS) (fun hHeld => ?_)
        clear hK K
        refine norm_ (a' := ?_) ?_ ?_
        rotate_left
        · show Act.put _ (some 8) _ = _
          simp (maxSteps := 4000000) only [Act.put, List.setIfInBounds_toArray, List.set_cons_zero, List.set_cons_succ, i64_w, i32_w]
          try rfl
        refine two_ (i := 2) (j := 7) (Ni := some 22) (Nj := some 9) #[true, true, true, true, false, false, true, false, false, false] #[true, true, false, true, false, false, true, true, false, false] rfl rfl rfl rfl  (two_of HT_.out (by kernel_rfl)) (by decide) (by decide)  (fun K hK => ?_) (fun K hK => ?_) 
        · refine goes_ Try.func10 (by kernel_rfl) rfl #[(tgV (tameT x))] (by rfl) rfl rfl (by (try simp only [List.map_toArray, List.map_cons, List.map_nil]); first | done | rfl) ?_
          refine (of_ok (tameT x) _).mono ?_
          rintro e w' ⟨rfl, hd⟩
          refine ⟨_, rfl, ?_⟩
          have hSS := And.intro (hHeld.1.below hd) (hHeld.2.below hd)
          (try replace HZ8 := Lib.hid (blk_below HZ8.out hd))
          (try replace HZ9 := Lib.hid (blk_below HZ9.out hd))
          replace HT := Lib.hid (HT.out.below hd)
          replace HB := Lib.hid (chain2 HB.out hd)
          clear hd
          refine hK.out _ _ (hSS) (fun hHeld => ?_)
          clear hK K
          refine norm_ (a' := ?_) ?_ ?_
          rotate_left
          · show Act.put _ (some 22) _ = _
            simp (maxSteps := 4000000) only [Act.put, List.setIfInBounds_toArray, List.set_cons_zero, List.set_cons_succ, i64_w, i32_w]
            try rfl
          refine two_ (i := 4) (j := 7) (Ni := some 24) (Nj := some 9) #[true, true, true, true, true, false, true, false, false, false] #[true, true, true, true, false, false, true, true, false, false] rfl rfl rfl rfl  (two_of HT_.out (by kernel_rfl)) (by decide) (by decide)  (fun K hK => ?_) (fun K hK => ?_) 
          · refine goes_ Try.func8 (by kernel_rfl) rfl #[(tgV y)] (by rfl) rfl rfl (by (try simp only [List.map_toArray, List.map_cons, List.map_nil]); first | done | rfl) ?_
            refine (tame_ok y HO.out.2.kind _).mono ?_
            rintro e w' ⟨rfl, hd⟩
            refine ⟨_, rfl, ?_⟩
            have hSS := And.intro (hHeld.1.below hd) (hHeld.2.below hd)
            (try replace HZ8 := Lib.hid (blk_below HZ8.out hd))
            (try replace HZ9 := Lib.hid (blk_below HZ9.out hd))
            replace HT := Lib.hid (HT.out.below hd)
            replace HB := Lib.hid (chain2 HB.out hd)
            clear hd
            refine hK.out _ _ (hSS) (fun hHeld => ?_)
            clear hK K
            refine norm_ (a' := ?_) ?_ ?_
            rotate_left
            · show Act.put _ (some 24) _ = _
              simp (maxSteps := 4000000) only [Act.put, List.setIfInBounds_toArray, List.set_cons_zero, List.set_cons_succ, i64_w, i32_w]
              try rfl
            refine two_ (i := 5) (j := 7) (Ni := some 25) (Nj := some 9) #[true, true, true, true, true, true, true, false, false, false] #[true, true, true, true, true, false, true, true, false, false] rfl rfl rfl rfl  (two_of HT_.out (by kernel_rfl)) (by decide) (by decide)  (fun K hK => ?_) (fun K hK => ?_) 
            · refine goes_ Try.func10 (by kernel_rfl) rfl #[(tgV (tameT y))] (by rfl) rfl rfl (by (try simp only [List.map_toArray, List.map_cons, List.map_nil]); first | done | rfl) ?_
              refine (of_ok (tameT y) _).mono ?_
              rintro e w' ⟨rfl, hd⟩
              refine ⟨_, rfl, ?_⟩
              have hSS := And.intro (hHeld.1.below hd) (hHeld.2.below hd)
              (try replace HZ8 := Lib.hid (blk_below HZ8.out hd))
              (try replace HZ9 := Lib.hid (blk_below HZ9.out hd))
              replace HT := Lib.hid (HT.out.below hd)
              replace HB := Lib.hid (chain2 HB.out hd)
              clear hd
              refine hK.out _ _ (hSS) (fun hHeld => ?_)
              clear hK K
              refine norm_ (a' := ?_) ?_ ?_
              rotate_left
              · show Act.put _ (some 25) _ = _
                simp (maxSteps := 4000000) only [Act.put, List.setIfInBounds_toArray, List.set_cons_zero, List.set_cons_succ, i64_w, i32_w]
                try rfl
              refine one_ (i := 7) (N := some 9) #[true, true, true, true, true, true, true, true, false, false] rfl rfl (one_of HT_.out (by kernel_rfl)) (by decide) (fun K hK => ?_)
              refine value_ (v := (.pointer (some ⟨w'.heap.size, 0, none⟩))) (w1 := w'.alloc (.cells #[.int .u8 0, .int .i64 0, .int .u64 0, .int .i64 0, .int .i64 0] 37)) (by rfl) rfl ?_ ?_
              · (go_simp)
              have HZ9 := Lib.hid (heap_alloc_new w' (.cells #[.int .u8 0, .int .i64 0, .int .u64 0, .int .i64 0, .int .i64 0] 37))
              have hd := below_alloc (Below.refl w'.heap.size w') (.cells #[.int .u8 0, .int .i64 0, .int .u64 0, .int .i64 0, .int .i64 0] 37)
              have HG9 := Lib.hid HB.out.size
              have HN9 := Lib.hid (Nat.ne_of_lt HT.out.lt)
              (try have HNe := Lib.hid (Nat.ne_of_lt (blk_lt HZ8.out)))
              (try replace HZ8 := Lib.hid (blk_below HZ8.out hd))
              replace HT := Lib.hid (HT.out.below hd)
              replace HB := Lib.hid (chain2 HB.out hd)
              have hSS := And.intro (hHeld.1.below hd) (hHeld.2.below hd)
              clear hd
              (first | generalize w'.heap.size = b9 at HZ9 HG9 HN9 HNe ⊢ | generalize w'.heap.size = b9 at HZ9 HG9 HN9 ⊢)
              (first | generalize w'.alloc (.cells #[.int .u8 0, .int .i64 0, .int .u64 0, .int .i64 0, .int .i64 0] 37) = w' at HZ8 HZ9 HT HB hSS ⊢ | generalize w'.alloc (.cells #[.int .u8 0, .int .i64 0, .int .u64 0, .int .i64 0, .int .i64 0] 37) = w' at HZ9 HT HB hSS ⊢)
              refine hK.out _ _ (hSS) (fun hHeld => ?_)
              clear hK K
              refine norm_ (a' := ?_) ?_ ?_
              rotate_left
              · show Act.put _ (some 9) _ = _
                simp (maxSteps := 4000000) only [Act.put, List.setIfInBounds_toArray, List.set_cons_zero, List.set_cons_succ, i64_w, i32_w]
                try rfl
              refine last_ (i := 8) (N := none) #[true, true, true, true, true, true, true, true, true, false] rfl rfl (one_of HT_.out (by kernel_rfl)) (by decide) (fun K hK => ?_)
              refine skip_ (w1 := ((((w'.setCell ⟨b8, 0, none⟩ (.int .u8 ((tameT x).kind : Int))).setCell ⟨b8, 1, none⟩ (.int .i64 (tameT x).log)).setCell ⟨b8, 2, none⟩ (.int .u64 ((tameT x).seq : Int))).setCell ⟨b8, 3, none⟩ (.int .i64 (tameT x).pos)).setCell ⟨b8, 4, none⟩ (.int .i64 (tameT x).len)) (by rfl) rfl ?_ ?_
              · (obtain ⟨y0, y1, y2, y3, y4⟩ := tg_cells HZ8.out; have f0 := fun i => pl_frozenT HZ8.out i; unfold tgV; go_simp)
              refine hK.out _ _ ?_
              clear hK K
              refine last_ (i := 9) (N := none) #[true, true, true, true, true, true, true, true, true, true] rfl rfl (one_of HT_.out (by kernel_rfl)) (by decide) (fun K hK => ?_)
              refine skip_ (w1 := (((((((((w'.setCell ⟨b8, 0, none⟩ (.int .u8 ((tameT x).kind : Int))).setCell ⟨b8, 1, none⟩ (.int .i64 (tameT x).log)).setCell ⟨b8, 2, none⟩ (.int .u64 ((tameT x).seq : Int))).setCell ⟨b8, 3, none⟩ (.int .i64 (tameT x).pos)).setCell ⟨b8, 4, none⟩ (.int .i64 (tameT x).len)).setCell ⟨b9, 0, none⟩ (.int .u8 ((tameT y).kind : Int))).setCell ⟨b9, 1, none⟩ (.int .i64 (tameT y).log)).setCell ⟨b9, 2, none⟩ (.int .u64 ((tameT y).seq : Int))).setCell ⟨b9, 3, none⟩ (.int .i64 (tameT y).pos)).setCell ⟨b9, 4, none⟩ (.int .i64 (tameT y).len)) (by rfl) rfl ?_ ?_
              · (obtain ⟨y0, y1, y2, y3, y4⟩ := tg_cells (off5T (tameT x) (by first | exact HNe.out | exact HNe.out.symm) HZ9.out); have f0 := fun i => pl_frozenT (off5T (tameT x) (by first | exact HNe.out | exact HNe.out.symm) HZ9.out) i; unfold tgV; go_simp)
              refine hK.out _ _ ?_
              clear hK K
              refine done_ (done_of HT_.out (by kernel_rfl)) ?_
              go_wp2_with fail
              go_meet
              case rel => exact ⟨b8, b9, rfl, rfl, off5T (tameT y) (by first | exact HNe.out | exact HNe.out.symm) (set5T HZ8.out (tameT x)), set5T (off5T (tameT x) (by first | exact HNe.out | exact HNe.out.symm) HZ9.out) (tameT y), tab5T (tameT y) HN9.out (tab5T (tameT x) HN8.out HT.out), below5T (tameT y) HG9.out (below5T (tameT x) HG8.out HB.out)⟩
            · refine value_ (v := (.pointer (some ⟨w'.heap.size, 0, none⟩))) (w1 := w'.alloc (.cells #[.int .u8 0, .int .i64 0, .int .u64 0, .int .i64 0, .int .i64 0] 37)) (by rfl) rfl ?_ ?_
              · (go_simp)
              have HZ9 := Lib.hid (heap_alloc_new w' (.cells #[.int .u8 0, .int .i64 0, .int .u64 0, .int .i64 0, .int .i64 0] 37))
              have hd := below_alloc (Below.refl w'.heap.size w') (.cells #[.int .u8 0, .int .i64 0, .int .u64 0, .int .i64 0, .int .i64 0] 37)
              have HG9 := Lib.hid HB.out.size
              have HN9 := Lib.hid (Nat.ne_of_lt HT.out.lt)
              (try have HNe := Lib.hid (Nat.ne_of_lt (blk_lt HZ8.out)))
              (try replace HZ8 := Lib.hid (blk_below HZ8.out hd))
              replace HT := Lib.hid (HT.out.below hd)
              replace HB := Lib.hid (chain2 HB.out hd)
              have hSS := And.intro (hHeld.1.below hd) (hHeld.2.below hd)
              clear hd
              (first | generalize w'.heap.size = b9 at HZ9 HG9 HN9 HNe ⊢ | generalize w'.heap.size = b9 at HZ9 HG9 HN9 ⊢)
              (first | generalize w'.alloc (.cells #[.int .u8 0, .int .i64 0, .int .u64 0, .int .i64 0, .int .i64 0] 37) = w' at HZ8 HZ9 HT HB hSS ⊢ | generalize w'.alloc (.cells #[.int .u8 0, .int .i64 0, .int .u64 0, .int .i64 0, .int .i64 0] 37) = w' at HZ9 HT HB hSS ⊢)
              refine hK.out _ _ (hSS) (fun hHeld => ?_)
              clear hK K
              refine norm_ (a' := ?_) ?_ ?_
              rotate_left
              · show Act.put _ (some 9) _ = _
                simp (maxSteps := 4000000) only [Act.put, List.setIfInBounds_toArray, List.set_cons_zero, List.set_cons_succ, i64_w, i32_w]
                try rfl
              refine one_ (i := 5) (N := some 25) #[true, true, true, true, true, true, true, true, false, false] rfl rfl (one_of HT_.out (by kernel_rfl)) (by decide) (fun K hK => ?_)
              refine goes_ Try.func10 (by kernel_rfl) rfl #[(tgV (tameT y))] (by rfl) rfl rfl (by (try simp only [List.map_toArray, List.map_cons, List.map_nil]); first | done | rfl) ?_
              refine (of_ok (tameT y) _).mono ?_
              rintro e w' ⟨rfl, hd⟩
              refine ⟨_, rfl, ?_⟩
              have hSS := And.intro (hHeld.1.below hd) (hHeld.2.below hd)
              (try replace HZ8 := Lib.hid (blk_below HZ8.out hd))
              (try replace HZ9 := Lib.hid (blk_below HZ9.out hd))
              replace HT := Lib.hid (HT.out.below hd)
              replace HB := Lib.hid (chain2 HB.out hd)
              clear hd
              refine hK.out _ _ (hSS) (fun hHeld => ?_)
              clear hK K
              refine norm_ (a' := ?_) ?_ ?_
              rotate_left
              · show Act.put _ (some 25) _ = _
                simp (maxSteps := 4000000) only [Act.put, List.setIfInBounds_toArray, List.set_cons_zero, List.set_cons_succ, i64_w, i32_w]
                try rfl
              refine last_ (i := 8) (N := none) #[true, true, true, true, true, true, true, true, true, false] rfl rfl (one_of HT_.out (by kernel_rfl)) (by decide) (fun K hK => ?_)
              refine skip_ (w1 := ((((w'.setCell ⟨b8, 0, none⟩ (.int .u8 ((tameT x).kind : Int))).setCell ⟨b8, 1, none⟩ (.int .i64 (tameT x).log)).setCell ⟨b8, 2, none⟩ (.int .u64 ((tameT x).seq : Int))).setCell ⟨b8, 3, none⟩ (.int .i64 (tameT x).pos)).setCell ⟨b8, 4, none⟩ (.int .i64 (tameT x).len)) (by rfl) rfl ?_ ?_
              · (obtain ⟨y0, y1, y2, y3, y4⟩ := tg_cells HZ8.out; have f0 := fun i => pl_frozenT HZ8.out i; unfold tgV; go_simp)
              refine hK.out _ _ ?_
              clear hK K
              refine last_ (i := 9) (N := none) #[true, true, true, true, true, true, true, true, true, true] rfl rfl (one_of HT_.out (by kernel_rfl)) (by decide) (fun K hK => ?_)
              refine skip_ (w1 := (((((((((w'.setCell ⟨b8, 0, none⟩ (.int .u8 ((tameT x).kind : Int))).setCell ⟨b8, 1, none⟩ (.int .i64 (tameT x).log)).setCell ⟨b8, 2, none⟩ (.int .u64 ((tameT x).seq : Int))).setCell ⟨b8, 3, none⟩ (.int .i64 (tameT x).pos)).setCell ⟨b8, 4, none⟩ (.int .i64 (tameT x).len)).setCell ⟨b9, 0, none⟩ (.int .u8 ((tameT y).kind : Int))).setCell ⟨b9, 1, none⟩ (.int .i64 (tameT y).log)).setCell ⟨b9, 2, none⟩ (.int .u64 ((tameT y).seq : Int))).setCell ⟨b9, 3, none⟩ (.int .i64 (tameT y).pos)).setCell ⟨b9, 4, none⟩ (.int .i64 (tameT y).len)) (by rfl) rfl ?_ ?_
              · (obtain ⟨y0, y1, y2, y3, y4⟩ := tg_cells (off5T (tameT x) (by first | exact HNe.out | exact HNe.out.symm) HZ9.out); have f0 := fun i => pl_frozenT (off5T (tameT x) (by first | exact HNe.out | exact HNe.out.symm) HZ9.out) i; unfold tgV; go_simp)
              refine hK.out _ _ ?_
              clear hK K
              refine done_ (done_of HT_.out (by kernel_rfl)) ?_
              go_wp2_with fail
              go_meet
              case rel => exact ⟨b8, b9, rfl, rfl, off5T (tameT y) (by first | exact HNe.out | exact HNe.out.symm) (set5T HZ8.out (tameT x)), set5T (off5T (tameT x) (by first | exact HNe.out | exact HNe.out.symm) HZ9.out) (tameT y), tab5T (tameT y) HN9.out (tab5T (tameT x) HN8.out HT.out), below5T (tameT y) HG9.out (below5T (tameT x) HG8.out HB.out)⟩
          · refine value_ (v := (.pointer (some ⟨w'.heap.size, 0, none⟩))) (w1 := w'.alloc (.cells #[.int .u8 0, .int .i64 0, .int .u64 0, .int .i64 0, .int .i64 0] 37)) (by rfl) rfl ?_ ?_
            · (go_simp)
            have HZ9 := Lib.hid (heap_alloc_new w' (.cells #[.int .u8 0, .int .i64 0, .int .u64 0, .int .i64 0, .int .i64 0] 37))
            have hd := below_alloc (Below.refl w'.heap.size w') (.cells #[.int .u8 0, .int .i64 0, .int .u64 0, .int .i64 0, .int .i64 0] 37)
            have HG9 := Lib.hid HB.out.size
            have HN9 := Lib.hid (Nat.ne_of_lt HT.out.lt)
            (try have HNe := Lib.hid (Nat.ne_of_lt (blk_lt HZ8.out)))
            (try replace HZ8 := Lib.hid (blk_below HZ8.out hd))
            replace HT := Lib.hid (HT.out.below hd)
            replace HB := Lib.hid (chain2 HB.out hd)
            have hSS := And.intro (hHeld.1.below hd) (hHeld.2.below hd)
            clear hd
            (first | generalize w'.heap.size = b9 at HZ9 HG9 HN9 HNe ⊢ | generalize w'.heap.size = b9 at HZ9 HG9 HN9 ⊢)
            (first | generalize w'.alloc (.cells #[.int .u8 0, .int .i64 0, .int .u64 0, .int .i64 0, .int .i64 0] 37) = w' at HZ8 HZ9 HT HB hSS ⊢ | generalize w'.alloc (.cells #[.int .u8 0, .int .i64 0, .int .u64 0, .int .i64 0, .int .i64 0] 37) = w' at HZ9 HT HB hSS ⊢)
            refine hK.out _ _ (hSS) (fun hHeld => ?_)
            clear hK K
            refine norm_ (a' := ?_) ?_ ?_
            rotate_left
            · show Act.put _ (some 9) _ = _
              simp (maxSteps := 4000000) only [Act.put, List.setIfInBounds_toArray, List.set_cons_zero, List.set_cons_succ, i64_w, i32_w]
              try rfl
            refine one_ (i := 4) (N := some 24) #[true, true, true, true, true, false, true, true, false, false] rfl rfl (one_of HT_.out (by kernel_rfl)) (by decide) (fun K hK => ?_)
            refine goes_ Try.func8 (by kernel_rfl) rfl #[(tgV y)] (by rfl) rfl rfl (by (try simp only [List.map_toArray, List.map_cons, List.map_nil]); first | done | rfl) ?_
            refine (tame_ok y HO.out.2.kind _).mono ?_
            rintro e w' ⟨rfl, hd⟩
            refine ⟨_, rfl, ?_⟩
            have hSS := And.intro (hHeld.1.below hd) (hHeld.2.below hd)
            (try replace HZ8 := Lib.hid (blk_below HZ8.out hd))
            (try replace HZ9 := Lib.hid (blk_below HZ9.out hd))
            replace HT := Lib.hid (HT.out.below hd)
            replace HB := Lib.hid (chain2 HB.out hd)
            clear hd
            refine hK.out _ _ (hSS) (fun hHeld => ?_)
            clear hK K
            refine norm_ (a' := ?_) ?_ ?_
            rotate_left
            · show Act.put _ (some 24) _ = _
              simp (maxSteps := 4000000) only [Act.put, List.setIfInBounds_toArray, List.set_cons_zero, List.set_cons_succ, i64_w, i32_w]
              try rfl
            refine one_ (i := 5) (N := some 25) #[true, true, true, true, true, true, true, true, false, false] rfl rfl (one_of HT_.out (by kernel_rfl)) (by decide) (fun K hK => ?_)
            refine goes_ Try.func10 (by kernel_rfl) rfl #[(tgV (tameT y))] (by rfl) rfl rfl (by (try simp only [List.map_toArray, List.map_cons, List.map_nil]); first | done | rfl) ?_
            refine (of_ok (tameT y) _).mono ?_
            rintro e w' ⟨rfl, hd⟩
            refine ⟨_, rfl, ?_⟩
            have hSS := And.intro (hHeld.1.below hd) (hHeld.2.below hd)
            (try replace HZ8 := Lib.hid (blk_below HZ8.out hd))
            (try replace HZ9 := Lib.hid (blk_below HZ9.out hd))
            replace HT := Lib.hid (HT.out.below hd)
            replace HB := Lib.hid (chain2 HB.out hd)
            clear hd
            refine hK.out _ _ (hSS) (fun hHeld => ?_)
            clear hK K
            refine norm_ (a' := ?_) ?_ ?_
            rotate_left
            · show Act.put _ (some 25) _ = _
              simp (maxSteps := 4000000) only [Act.put, List.setIfInBounds_toArray, List.set_cons_zero, List.set_cons_succ, i64_w, i32_w]
              try rfl
            refine last_ (i := 8) (N := none) #[true, true, true, true, true, true, true, true, true, false] rfl rfl (one_of HT_.out (by kernel_rfl)) (by decide) (fun K hK => ?_)
            refine skip_ (w1 := ((((w'.setCell ⟨b8, 0, none⟩ (.int .u8 ((tameT x).kind : Int))).setCell ⟨b8, 1, none⟩ (.int .i64 (tameT x).log)).setCell ⟨b8, 2, none⟩ (.int .u64 ((tameT x).seq : Int))).setCell ⟨b8, 3, none⟩ (.int .i64 (tameT x).pos)).setCell ⟨b8, 4, none⟩ (.int .i64 (tameT x).len)) (by rfl) rfl ?_ ?_
            · (obtain ⟨y0, y1, y2, y3, y4⟩ := tg_cells HZ8.out; have f0 := fun i => pl_frozenT HZ8.out i; unfold tgV; go_simp)
            refine hK.out _ _ ?_
            clear hK K
            refine last_ (i := 9) (N := none) #[true, true, true, true, true, true, true, true, true, true] rfl rfl (one_of HT_.out (by kernel_rfl)) (by decide) (fun K hK => ?_)
            refine skip_ (w1 := (((((((((w'.setCell ⟨b8, 0, none⟩ (.int .u8 ((tameT x).kind : Int))).setCell ⟨b8, 1, none⟩ (.int .i64 (tameT x).log)).setCell ⟨b8, 2, none⟩ (.int .u64 ((tameT x).seq : Int))).setCell ⟨b8, 3, none⟩ (.int .i64 (tameT x).pos)).setCell ⟨b8, 4, none⟩ (.int .i64 (tameT x).len)).setCell ⟨b9, 0, none⟩ (.int .u8 ((tameT y).kind : Int))).setCell ⟨b9, 1, none⟩ (.int .i64 (tameT y).log)).setCell ⟨b9, 2, none⟩ (.int .u64 ((tameT y).seq : Int))).setCell ⟨b9, 3, none⟩ (.int .i64 (tameT y).pos)).setCell ⟨b9, 4, none⟩ (.int .i64 (tameT y).len)) (by rfl) rfl ?_ ?_
            · (obtain ⟨y0, y1, y2, y3, y4⟩ := tg_cells (off5T (tameT x) (by first | exact HNe.out | exact HNe.out.symm) HZ9.out); have f0 := fun i => pl_frozenT (off5T (tameT x) (by first | exact HNe.out | exact HNe.out.symm) HZ9.out) i; unfold tgV; go_simp)
            refine hK.out _ _ ?_
            clear hK K
            refine done_ (done_of HT_.out (by kernel_rfl)) ?_
            go_wp2_with fail
            go_meet
            case rel => exact ⟨b8, b9, rfl, rfl, off5T (tameT y) (by first | exact HNe.out | exact HNe.out.symm) (set5T HZ8.out (tameT x)), set5T (off5T (tameT x) (by first | exact HNe.out | exact HNe.out.symm) HZ9.out) (tameT y), tab5T (tameT y) HN9.out (tab5T (tameT x) HN8.out HT.out), below5T (tameT y) HG9.out (below5T (tameT x) HG8.out HB.out)⟩
        · refine value_ (v := (.pointer (some ⟨w'.heap.size, 0, none⟩))) (w1 := w'.alloc (.cells #[.int .u8 0, .int .i64 0, .int .u64 0, .int .i64 0, .int .i64 0] 37)) (by rfl) rfl ?_ ?_
          · (go_simp)
          have HZ9 := Lib.hid (heap_alloc_new w' (.cells #[.int .u8 0, .int .i64 0, .int .u64 0, .int .i64 0, .int .i64 0] 37))
          have hd := below_alloc (Below.refl w'.heap.size w') (.cells #[.int .u8 0, .int .i64 0, .int .u64 0, .int .i64 0, .int .i64 0] 37)
          have HG9 := Lib.hid HB.out.size
          have HN9 := Lib.hid (Nat.ne_of_lt HT.out.lt)
          (try have HNe := Lib.hid (Nat.ne_of_lt (blk_lt HZ8.out)))
          (try replace HZ8 := Lib.hid (blk_below HZ8.out hd))
          replace HT := Lib.hid (HT.out.below hd)
          replace HB := Lib.hid (chain2 HB.out hd)
          have hSS := And.intro (hHeld.1.below hd) (hHeld.2.below hd)
          clear hd
          (first | generalize w'.heap.size = b9 at HZ9 HG9 HN9 HNe ⊢ | generalize w'.heap.size = b9 at HZ9 HG9 HN9 ⊢)
          (first | generalize w'.alloc (.cells #[.int .u8 0, .int .i64 0, .int .u64 0, .int .i64 0, .int .i64 0] 37) = w' at HZ8 HZ9 HT HB hSS ⊢ | generalize w'.alloc (.cells #[.int .u8 0, .int .i64 0, .int .u64 0, .int .i64 0, .int .i64 0] 37) = w' at HZ9 HT HB hSS ⊢)
          refine hK.out _ _ (hSS) (fun hHeld => ?_)
          clear hK K
          refine norm_ (a' := ?_) ?_ ?_
          rotate_left
          · show Act.put _ (some 9) _ = _
            simp (maxSteps := 4000000) only [Act.put, List.setIfInBounds_toArray, List.set_cons_zero, List.set_cons_succ, i64_w, i32_w]
            try rfl
          refine one_ (i := 2) (N := some 22) #[true, true, true, true, false, false, true, true, false, false] rfl rfl (one_of HT_.out (by kernel_rfl)) (by decide) (fun K hK => ?_)
          refine goes_ Try.func10 (by kernel_rfl) rfl #[(tgV (tameT x))] (by rfl) rfl rfl (by (try simp only [List.map_toArray, List.map_cons, List.map_nil]); first | done | rfl) ?_
          refine (of_ok (tameT x) _).mono ?_
          rintro e w' ⟨rfl, hd⟩
          refine ⟨_, rfl, ?_⟩
          have hSS := And.intro (hHeld.1.below hd) (hHeld.2.below hd)
          (try replace HZ8 := Lib.hid (blk_below HZ8.out hd))
          (try replace HZ9 := Lib.hid (blk_below HZ9.out hd))
          replace HT := Lib.hid (HT.out.below hd)
          replace HB := Lib.hid (chain2 HB.out hd)
          clear hd
          refine hK.out _ _ (hSS) (fun hHeld => ?_)
          clear hK K
          refine norm_ (a' := ?_) ?_ ?_
          rotate_left
          · show Act.put _ (some 22) _ = _
            simp (maxSteps := 4000000) only [Act.put, List.setIfInBounds_toArray, List.set_cons_zero, List.set_cons_succ, i64_w, i32_w]
            try rfl
          refine one_ (i := 4) (N := some 24) #[true, true, true, true, true, false, true, true, false, false] rfl rfl (one_of HT_.out (by kernel_rfl)) (by decide) (fun K hK => ?_)
          refine goes_ Try.func8 (by kernel_rfl) rfl #[(tgV y)] (by rfl) rfl rfl (by (try simp only [List.map_toArray, List.map_cons, List.map_nil]); first | done | rfl) ?_
          refine (tame_ok y HO.out.2.kind _).mono ?_
          rintro e w' ⟨rfl, hd⟩
          refine ⟨_, rfl, ?_⟩
          have hSS := And.intro (hHeld.1.below hd) (hHeld.2.below hd)
          (try replace HZ8 := Lib.hid (blk_below HZ8.out hd))
          (try replace HZ9 := Lib.hid (blk_below HZ9.out hd))
          replace HT := Lib.hid (HT.out.below hd)
          replace HB := Lib.hid (chain2 HB.out hd)
          clear hd
          refine hK.out _ _ (hSS) (fun hHeld => ?_)
          clear hK K
          refine norm_ (a' := ?_) ?_ ?_
          rotate_left
          · show Act.put _ (some 24) _ = _
            simp (maxSteps := 4000000) only [Act.put, List.setIfInBounds_toArray, List.set_cons_zero, List.set_cons_succ, i64_w, i32_w]
            try rfl
          refine one_ (i := 5) (N := some 25) #[true, true, true, true, true, true, true, true, false, false] rfl rfl (one_of HT_.out (by kernel_rfl)) (by decide) (fun K hK => ?_)
          refine goes_ Try.func10 (by kernel_rfl) rfl #[(tgV (tameT y))] (by rfl) rfl rfl (by (try simp only [List.map_toArray, List.map_cons, List.map_nil]); first | done | rfl) ?_
          refine (of_ok (tameT y) _).mono ?_
          rintro e w' ⟨rfl, hd⟩
          refine ⟨_, rfl, ?_⟩
          have hSS := And.intro (hHeld.1.below hd) (hHeld.2.below hd)
          (try replace HZ8 := Lib.hid (blk_below HZ8.out hd))
          (try replace HZ9 := Lib.hid (blk_below HZ9.out hd))
          replace HT := Lib.hid (HT.out.below hd)
          replace HB := Lib.hid (chain2 HB.out hd)
          clear hd
          refine hK.out _ _ (hSS) (fun hHeld => ?_)
          clear hK K
          refine norm_ (a' := ?_) ?_ ?_
          rotate_left
          · show Act.put _ (some 25) _ = _
            simp (maxSteps := 4000000) only [Act.put, List.setIfInBounds_toArray, List.set_cons_zero, List.set_cons_succ, i64_w, i32_w]
            try rfl
          refine last_ (i := 8) (N := none) #[true, true, true, true, true, true, true, true, true, false] rfl rfl (one_of HT_.out (by kernel_rfl)) (by decide) (fun K hK => ?_)
          refine skip_ (w1 := ((((w'.setCell ⟨b8, 0, none⟩ (.int .u8 ((tameT x).kind : Int))).setCell ⟨b8, 1, none⟩ (.int .i64 (tameT x).log)).setCell ⟨b8, 2, none⟩ (.int .u64 ((tameT x).seq : Int))).setCell ⟨b8, 3, none⟩ (.int .i64 (tameT x).pos)).setCell ⟨b8, 4, none⟩ (.int .i64 (tameT x).len)) (by rfl) rfl ?_ ?_
          · (obtain ⟨y0, y1, y2, y3, y4⟩ := tg_cells HZ8.out; have f0 := fun i => pl_frozenT HZ8.out i; unfold tgV; go_simp)
          refine hK.out _ _ ?_
          clear hK K
          refine last_ (i := 9) (N := none) #[true, true, true, true, true, true, true, true, true, true] rfl rfl (one_of HT_.out (by kernel_rfl)) (by decide) (fun K hK => ?_)
          refine skip_ (w1 := (((((((((w'.setCell ⟨b8, 0, none⟩ (.int .u8 ((tameT x).kind : Int))).setCell ⟨b8, 1, none⟩ (.int .i64 (tameT x).log)).setCell ⟨b8, 2, none⟩ (.int .u64 ((tameT x).seq : Int))).setCell ⟨b8, 3, none⟩ (.int .i64 (tameT x).pos)).setCell ⟨b8, 4, none⟩ (.int .i64 (tameT x).len)).setCell ⟨b9, 0, none⟩ (.int .u8 ((tameT y).kind : Int))).setCell ⟨b9, 1, none⟩ (.int .i64 (tameT y).log)).setCell ⟨b9, 2, none⟩ (.int .u64 ((tameT y).seq : Int))).setCell ⟨b9, 3, none⟩ (.int .i64 (tameT y).pos)).setCell ⟨b9, 4, none⟩ (.int .i64 (tameT y).len)) (by rfl) rfl ?_ ?_
          · (obtain ⟨y0, y1, y2, y3, y4⟩ := tg_cells (off5T (tameT x) (by first | exact HNe.out | exact HNe.out.symm) HZ9.out); have f0 := fun i => pl_frozenT (off5T (tameT x) (by first | exact HNe.out | exact HNe.out.symm) HZ9.out) i; unfold tgV; go_simp)
          refine hK.out _ _ ?_
          clear hK K
          refine done_ (done_of HT_.out (by kernel_rfl)) ?_
          go_wp2_with fail
          go_meet
          case rel => exact ⟨b8, b9, rfl, rfl, off5T (tameT y) (by first | exact HNe.out | exact HNe.out.symm) (set5T HZ8.out (tameT x)), set5T (off5T (tameT x) (by first | exact HNe.out | exact HNe.out.symm) HZ9.out) (tameT y), tab5T (tameT y) HN9.out (tab5T (tameT x) HN8.out HT.out), below5T (tameT y) HG9.out (below5T (tameT x) HG8.out HB.out)⟩
      · refine value_ (v := (.pointer (some ⟨w'.heap.size, 0, none⟩))) (w1 := w'.alloc (.cells #[.int .u8 0, .int .i64 0, .int .u64 0, .int .i64 0, .int .i64 0] 37)) (by rfl) rfl ?_ ?_
        · (go_simp)
        have HZ9 := Lib.hid (heap_alloc_new w' (.cells #[.int .u8 0, .int .i64 0, .int .u64 0, .int .i64 0, .int .i64 0] 37))
        have hd := below_alloc (Below.refl w'.heap.size w') (.cells #[.int .u8 0, .int .i64 0, .int .u64 0, .int .i64 0, .int .i64 0] 37)
        have HG9 := Lib.hid HB.out.size
        have HN9 := Lib.hid (Nat.ne_of_lt HT.out.lt)
        (try have HNe := Lib.hid (Nat.ne_of_lt (blk_lt HZ8.out)))
        (try replace HZ8 := Lib.hid (blk_below HZ8.out hd))
        replace HT := Lib.hid (HT.out.below hd)
        replace HB := Lib.hid (chain2 HB.out hd)
        have hSS := And.intro (hHeld.1.below hd) (hHeld.2.below hd)
        clear hd
        (first | generalize w'.heap.size = b9 at HZ9 HG9 HN9 HNe ⊢ | generalize w'.heap.size = b9 at HZ9 HG9 HN9 ⊢)
        (first | generalize w'.alloc (.cells #[.int .u8 0, .int .i64 0, .int .u64 0, .int .i64 0, .int .i64 0] 37) = w' at HZ8 HZ9 HT HB hSS ⊢ | generalize w'.alloc (.cells #[.int .u8 0, .int .i64 0, .int .u64 0, .int .i64 0, .int .i64 0] 37) = w' at HZ9 HT HB hSS ⊢)
        refine hK.out _ _ (hSS) (fun hHeld => ?_)
        clear hK K
        refine norm_ (a' := ?_) ?_ ?_
        rotate_left
        · show Act.put _ (some 9) _ = _
          simp (maxSteps := 4000000) only [Act.put, List.setIfInBounds_toArray, List.set_cons_zero, List.set_cons_succ, i64_w, i32_w]
          try rfl
        refine two_ (i := 2) (j := 6) (Ni := some 22) (Nj := some 8) #[true, true, true, true, false, false, false, true, false, false] #[true, true, false, true, false, false, true, true, false, false] rfl rfl rfl rfl  (two_of HT_.out (by kernel_rfl)) (by decide) (by decide)  (fun K hK => ?_) (fun K hK => ?_) 
        · refine goes_ Try.func10 (by kernel_rfl) rfl #[(tgV (tameT x))] (by rfl) rfl rfl (by (try simp only [List.map_toArray, List.map_cons, List.map_nil]); first | done | rfl) ?_
          refine (of_ok (tameT x) _).mono ?_
          rintro e w' ⟨rfl, hd⟩
          refine ⟨_, rfl, ?_⟩
          have hSS := And.intro (hHeld.1.below hd) (hHeld.2.below hd)
          (try replace HZ8 := Lib.hid (blk_below HZ8.out hd))
          (try replace HZ9 := Lib.hid (blk_below HZ9.out hd))
          replace HT := Lib.hid (HT.out.below hd)
          replace HB := Lib.hid (chain2 HB.out hd)
          clear hd
          refine hK.out _ _ (hSS) (fun hHeld => ?_)
          clear hK K
          refine norm_ (a' := ?_) ?_ ?_
          rotate_left
          · show Act.put _ (some 22) _ = _
            simp (maxSteps := 4000000) only [Act.put, List.setIfInBounds_toArray, List.set_cons_zero, List.set_cons_succ, i64_w, i32_w]
            try rfl
          refine two_ (i := 4) (j := 6) (Ni := some 24) (Nj := some 8) #[true, true, true, true, true, false, false, true, false, false] #[true, true, true, true, false, false, true, true, false, false] rfl rfl rfl rfl  (two_of HT_.out (by kernel_rfl)) (by decide) (by decide)  (fun K hK => ?_) (fun K hK => ?_) 
          · refine goes_ Try.func8 (by kernel_rfl) rfl #[(tgV y)] (by rfl) rfl rfl (by (try simp only [List.map_toArray, List.map_cons, List.map_nil]); first | done | rfl) ?_
            refine (tame_ok y HO.out.2.kind _).mono ?_
            rintro e w' ⟨rfl, hd⟩
            refine ⟨_, rfl, ?_⟩
            have hSS := And.intro (hHeld.1.below hd) (hHeld.2.below hd)
            (try replace HZ8 := Lib.hid (blk_below HZ8.out hd))
            (try replace HZ9 := Lib.hid (blk_below HZ9.out hd))
            replace HT := Lib.hid (HT.out.below hd)
            replace HB := Lib.hid (chain2 HB.out hd)
            clear hd
            refine hK.out _ _ (hSS) (fun hHeld => ?_)
            clear hK K
            refine norm_ (a' := ?_) ?_ ?_
            rotate_left
            · show Act.put _ (some 24) _ = _
              simp (maxSteps := 4000000) only [Act.put, List.setIfInBounds_toArray, List.set_cons_zero, List.set_cons_succ, i64_w, i32_w]
              try rfl
            refine two_ (i := 5) (j := 6) (Ni := some 25) (Nj := some 8) #[true, true, true, true, true, true, false, true, false, false] #[true, true, true, true, true, false, true, true, false, false] rfl rfl rfl rfl  (two_of HT_.out (by kernel_rfl)) (by decide) (by decide)  (fun K hK => ?_) (fun K hK => ?_) 
            · refine goes_ Try.func10 (by kernel_rfl) rfl #[(tgV (tameT y))] (by rfl) rfl rfl (by (try simp only [List.map_toArray, List.map_cons, List.map_nil]); first | done | rfl) ?_
              refine (of_ok (tameT y) _).mono ?_
              rintro e w' ⟨rfl, hd⟩
              refine ⟨_, rfl, ?_⟩
              have hSS := And.intro (hHeld.1.below hd) (hHeld.2.below hd)
              (try replace HZ8 := Lib.hid (blk_below HZ8.out hd))
              (try replace HZ9 := Lib.hid (blk_below HZ9.out hd))
              replace HT := Lib.hid (HT.out.below hd)
              replace HB := Lib.hid (chain2 HB.out hd)
              clear hd
              refine hK.out _ _ (hSS) (fun hHeld => ?_)
              clear hK K
              refine norm_ (a' := ?_) ?_ ?_
              rotate_left
              · show Act.put _ (some 25) _ = _
                simp (maxSteps := 4000000) only [Act.put, List.setIfInBounds_toArray, List.set_cons_zero, List.set_cons_succ, i64_w, i32_w]
                try rfl
              refine one_ (i := 6) (N := some 8) #[true, true, true, true, true, true, true, true, false, false] rfl rfl (one_of HT_.out (by kernel_rfl)) (by decide) (fun K hK => ?_)
              refine value_ (v := (.pointer (some ⟨w'.heap.size, 0, none⟩))) (w1 := w'.alloc (.cells #[.int .u8 0, .int .i64 0, .int .u64 0, .int .i64 0, .int .i64 0] 37)) (by rfl) rfl ?_ ?_
              · (go_simp)
              have HZ8 := Lib.hid (heap_alloc_new w' (.cells #[.int .u8 0, .int .i64 0, .int .u64 0, .int .i64 0, .int .i64 0] 37))
              have hd := below_alloc (Below.refl w'.heap.size w') (.cells #[.int .u8 0, .int .i64 0, .int .u64 0, .int .i64 0, .int .i64 0] 37)
              have HG8 := Lib.hid HB.out.size
              have HN8 := Lib.hid (Nat.ne_of_lt HT.out.lt)
              (try have HNe := Lib.hid (Nat.ne_of_lt (blk_lt HZ9.out)))
              (try replace HZ9 := Lib.hid (blk_below HZ9.out hd))
              replace HT := Lib.hid (HT.out.below hd)
              replace HB := Lib.hid (chain2 HB.out hd)
              have hSS := And.intro (hHeld.1.below hd) (hHeld.2.below hd)
              clear hd
              (first | generalize w'.heap.size = b8 at HZ8 HG8 HN8 HNe ⊢ | generalize w'.heap.size = b8 at HZ8 HG8 HN8 ⊢)
              (first | generalize w'.alloc (.cells #[.int .u8 0, .int .i64 0, .int .u64 0, .int .i64 0, .int .i64 0] 37) = w' at HZ8 HZ9 HT HB hSS ⊢ | generalize w'.alloc (.cells #[.int .u8 0, .int .i64 0, .int .u64 0, .int .i64 0, .int .i64 0] 37) = w' at HZ8 HT HB hSS ⊢)
              refine hK.out _ _ (hSS) (fun hHeld => ?_)
              clear hK K
              refine norm_ (a' := ?_) ?_ ?_
              rotate_left
              · show Act.put _ (some 8) _ = _
                simp (maxSteps := 4000000) only [Act.put, List.setIfInBounds_toArray, List.set_cons_zero, List.set_cons_succ, i64_w, i32_w]
                try rfl
              refine last_ (i := 8) (N := none) #[true, true, true, true, true, true, true, true, true, false] rfl rfl (one_of HT_.out (by kernel_rfl)) (by decide) (fun K hK => ?_)
              refine skip_ (w1 := ((((w'.setCell ⟨b8, 0, none⟩ (.int .u8 ((tameT x).kind : Int))).setCell ⟨b8, 1, none⟩ (.int .i64 (tameT x).log)).setCell ⟨b8, 2, none⟩ (.int .u64 ((tameT x).seq : Int))).setCell ⟨b8, 3, none⟩ (.int .i64 (tameT x).pos)).setCell ⟨b8, 4, none⟩ (.int .i64 (tameT x).len)) (by rfl) rfl ?_ ?_
              · (obtain ⟨y0, y1, y2, y3, y4⟩ := tg_cells HZ8.out; have f0 := fun i => pl_frozenT HZ8.out i; unfold tgV; go_simp)
              refine hK.out _ _ ?_
              clear hK K
              refine last_ (i := 9) (N := none) #[true, true, true, true, true, true, true, true, true, true] rfl rfl (one_of HT_.out (by kernel_rfl)) (by decide) (fun K hK => ?_)
              refine skip_ (w1 := (((((((((w'.setCell ⟨b8, 0, none⟩ (.int .u8 ((tameT x).kind : Int))).setCell ⟨b8, 1, none⟩ (.int .i64 (tameT x).log)).setCell ⟨b8, 2, none⟩ (.int .u64 ((tameT x).seq : Int))).setCell ⟨b8, 3, none⟩ (.int .i64 (tameT x).pos)).setCell ⟨b8, 4, none⟩ (.int .i64 (tameT x).len)).setCell ⟨b9, 0, none⟩ (.int .u8 ((tameT y).kind : Int))).setCell ⟨b9, 1, none⟩ (.int .i64 (tameT y).log)).setCell ⟨b9, 2, none⟩ (.int .u64 ((tameT y).seq : Int))).setCell ⟨b9, 3, none⟩ (.int .i64 (tameT y).pos)).setCell ⟨b9, 4, none⟩ (.int .i64 (tameT y).len)) (by rfl) rfl ?_ ?_
              · (obtain ⟨y0, y1, y2, y3, y4⟩ := tg_cells (off5T (tameT x) (by first | exact HNe.out | exact HNe.out.symm) HZ9.out); have f0 := fun i => pl_frozenT (off5T (tameT x) (by first | exact HNe.out | exact HNe.out.symm) HZ9.out) i; unfold tgV; go_simp)
              refine hK.out _ _ ?_
              clear hK K
              refine done_ (done_of HT_.out (by kernel_rfl)) ?_
              go_wp2_with fail
              go_meet
              case rel => exact ⟨b8, b9, rfl, rfl, off5T (tameT y) (by first | exact HNe.out | exact HNe.out.symm) (set5T HZ8.out (tameT x)), set5T (off5T (tameT x) (by first | exact HNe.out | exact HNe.out.symm) HZ9.out) (tameT y), tab5T (tameT y) HN9.out (tab5T (tameT x) HN8.out HT.out), below5T (tameT y) HG9.out (below5T (tameT x) HG8.out HB.out)⟩
            · refine value_ (v := (.pointer (some ⟨w'.heap.size, 0, none⟩))) (w1 := w'.alloc (.cells #[.int .u8 0, .int .i64 0, .int .u64 0, .int .i64 0, .int .i64 0] 37)) (by rfl) rfl ?_ ?_
              · (go_simp)
              have HZ8 := Lib.hid (heap_alloc_new w' (.cells #[.int .u8 0, .int .i64 0, .int .u64 0, .int .i64 0, .int .i64 0] 37))
              have hd := below_alloc (Below.refl w'.heap.size w') (.cells #[.int .u8 0, .int .i64 0, .int .u64 0, .int .i64 0, .int .i64 0] 37)
              have HG8 := Lib.hid HB.out.size
              have HN8 := Lib.hid (Nat.ne_of_lt HT.out.lt)
              (try have HNe := Lib.hid (Nat.ne_of_lt (blk_lt HZ9.out)))
              (try replace HZ9 := Lib.hid (blk_below HZ9.out hd))
              replace HT := Lib.hid (HT.out.below hd)
              replace HB := Lib.hid (chain2 HB.out hd)
              have hSS := And.intro (hHeld.1.below hd) (hHeld.2.below hd)
              clear hd
              (first | generalize w'.heap.size = b8 at HZ8 HG8 HN8 HNe ⊢ | generalize w'.heap.size = b8 at HZ8 HG8 HN8 ⊢)
              (first | generalize w'.alloc (.cells #[.int .u8 0, .int .i64 0, .int .u64 0, .int .i64 0, .int .i64 0] 37) = w' at HZ8 HZ9 HT HB hSS ⊢ | generalize w'.alloc (.cells #[.int .u8 0, .int .i64 0, .int .u64 0, .int .i64 0, .int .i64 0] 37) = w' at HZ8 HT HB hSS ⊢)
              refine hK.out _ _ (hSS) (fun hHeld => ?_)
              clear hK K
              refine norm_ (a' := ?_) ?_ ?_
              rotate_left
              · show Act.put _ (some 8) _ = _
                simp (maxSteps := 4000000) only [Act.put, List.setIfInBounds_toArray, List.set_cons_zero, List.set_cons_succ, i64_w, i32_w]
                try rfl
              refine one_ (i := 5) (N := some 25) #[true, true, true, true, true, true, true, true, false, false] rfl rfl (one_of HT_.out (by kernel_rfl)) (by decide) (fun K hK => ?_)
              refine goes_ Try.func10 (by kernel_rfl) rfl #[(tgV (tameT y))] (by rfl) rfl rfl (by (try simp only [List.map_toArray, List.map_cons, List.map_nil]); first | done | rfl) ?_
              refine (of_ok (tameT y) _).mono ?_
              rintro e w' ⟨rfl, hd⟩
              refine ⟨_, rfl, ?_⟩
              have hSS := And.intro (hHeld.1.below hd) (hHeld.2.below hd)
              (try replace HZ8 := Lib.hid (blk_below HZ8.out hd))
              (try replace HZ9 := Lib.hid (blk_below HZ9.out hd))
              replace HT := Lib.hid (HT.out.below hd)
              replace HB := Lib.hid (chain2 HB.out hd)
              clear hd
              refine hK.out _ _ (hSS) (fun hHeld => ?_)
              clear hK K
              refine norm_ (a' := ?_) ?_ ?_
              rotate_left
              · show Act.put _ (some 25) _ = _
                simp (maxSteps := 4000000) only [Act.put, List.setIfInBounds_toArray, List.set_cons_zero, List.set_cons_succ, i64_w, i32_w]
                try rfl
              refine last_ (i := 8) (N := none) #[true, true, true, true, true, true, true, true, true, false] rfl rfl (one_of HT_.out (by kernel_rfl)) (by decide) (fun K hK => ?_)
              refine skip_ (w1 := ((((w'.setCell ⟨b8, 0, none⟩ (.int .u8 ((tameT x).kind : Int))).setCell ⟨b8, 1, none⟩ (.int .i64 (tameT x).log)).setCell ⟨b8, 2, none⟩ (.int .u64 ((tameT x).seq : Int))).setCell ⟨b8, 3, none⟩ (.int .i64 (tameT x).pos)).setCell ⟨b8, 4, none⟩ (.int .i64 (tameT x).len)) (by rfl) rfl ?_ ?_
              · (obtain ⟨y0, y1, y2, y3, y4⟩ := tg_cells HZ8.out; have f0 := fun i => pl_frozenT HZ8.out i; unfold tgV; go_simp)
              refine hK.out _ _ ?_
              clear hK K
              refine last_ (i := 9) (N := none) #[true, true, true, true, true, true, true, true, true, true] rfl rfl (one_of HT_.out (by kernel_rfl)) (by decide) (fun K hK => ?_)
              refine skip_ (w1 := (((((((((w'.setCell ⟨b8, 0, none⟩ (.int .u8 ((tameT x).kind : Int))).setCell ⟨b8, 1, none⟩ (.int .i64 (tameT x).log)).setCell ⟨b8, 2, none⟩ (.int .u64 ((tameT x).seq : Int))).setCell ⟨b8, 3, none⟩ (.int .i64 (tameT x).pos)).setCell ⟨b8, 4, none⟩ (.int .i64 (tameT x).len)).setCell ⟨b9, 0, none⟩ (.int .u8 ((tameT y).kind : Int))).setCell ⟨b9, 1, none⟩ (.int .i64 (tameT y).log)).setCell ⟨b9, 2, none⟩ (.int .u64 ((tameT y).seq : Int))).setCell ⟨b9, 3, none⟩ (.int .i64 (tameT y).pos)).setCell ⟨b9, 4, none⟩ (.int .i64 (tameT y).len)) (by rfl) rfl ?_ ?_
              · (obtain ⟨y0, y1, y2, y3, y4⟩ := tg_cells (off5T (tameT x) (by first | exact HNe.out | exact HNe.out.symm) HZ9.out); have f0 := fun i => pl_frozenT (off5T (tameT x) (by first | exact HNe.out | exact HNe.out.symm) HZ9.out) i; unfold tgV; go_simp)
              refine hK.out _ _ ?_
              clear hK K
              refine done_ (done_of HT_.out (by kernel_rfl)) ?_
              go_wp2_with fail
              go_meet
              case rel => exact ⟨b8, b9, rfl, rfl, off5T (tameT y) (by first | exact HNe.out | exact HNe.out.symm) (set5T HZ8.out (tameT x)), set5T (off5T (tameT x) (by first | exact HNe.out | exact HNe.out.symm) HZ9.out) (tameT y), tab5T (tameT y) HN9.out (tab5T (tameT x) HN8.out HT.out), below5T (tameT y) HG9.out (below5T (tameT x) HG8.out HB.out)⟩
          · refine value_ (v := (.pointer (some ⟨w'.heap.size, 0, none⟩))) (w1 := w'.alloc (.cells #[.int .u8 0, .int .i64 0, .int .u64 0, .int .i64 0, .int .i64 0] 37)) (by rfl) rfl ?_ ?_
            · (go_simp)
            have HZ8 := Lib.hid (heap_alloc_new w' (.cells #[.int .u8 0, .int .i64 0, .int .u64 0, .int .i64 0, .int .i64 0] 37))
            have hd := below_alloc (Below.refl w'.heap.size w') (.cells #[.int .u8 0, .int .i64 0, .int .u64 0, .int .i64 0, .int .i64 0] 37)
            have HG8 := Lib.hid HB.out.size
            have HN8 := Lib.hid (Nat.ne_of_lt HT.out.lt)
            (try have HNe := Lib.hid (Nat.ne_of_lt (blk_lt HZ9.out)))
            (try replace HZ9 := Lib.hid (blk_below HZ9.out hd))
            replace HT := Lib.hid (HT.out.below hd)
            replace HB := Lib.hid (chain2 HB.out hd)
            have hSS := And.intro (hHeld.1.below hd) (hHeld.2.below hd)
            clear hd
            (first | generalize w'.heap.size = b8 at HZ8 HG8 HN8 HNe ⊢ | generalize w'.heap.size = b8 at HZ8 HG8 HN8 ⊢)
            (first | generalize w'.alloc (.cells #[.int .u8 0, .int .i64 0, .int .u64 0, .int .i64 0, .int .i64 0] 37) = w' at HZ8 HZ9 HT HB hSS ⊢ | generalize w'.alloc (.cells #[.int .u8 0, .int .i64 0, .int .u64 0, .int .i64 0, .int .i64 0] 37) = w' at HZ8 HT HB hSS ⊢)
            refine hK.out _ _ (hSS) (fun hHeld => ?_)
            clear hK K
            refine norm_ (a' := ?_) ?_ ?_
            rotate_left
            · show Act.put _ (some 8) _ = _
              simp (maxSteps := 4000000) only [Act.put, List.setIfInBounds_toArray, List.set_cons_zero, List.set_cons_succ, i64_w, i32_w]
              try rfl
            refine one_ (i := 4) (N := some 24) #[true, true, true, true, true, false, true, true, false, false] rfl rfl (one_of HT_.out (by kernel_rfl)) (by decide) (fun K hK => ?_)
            refine goes_ Try.func8 (by kernel_rfl) rfl #[(tgV y)] (by rfl) rfl rfl (by (try simp only [List.map_toArray, List.map_cons, List.map_nil]); first | done | rfl) ?_
            refine (tame_ok y HO.out.2.kind _).mono ?_
            rintro e w' ⟨rfl, hd⟩
            refine ⟨_, rfl, ?_⟩
            have hSS := And.intro (hHeld.1.below hd) (hHeld.2.below hd)
            (try replace HZ8 := Lib.hid (blk_below HZ8.out hd))
            (try replace HZ9 := Lib.hid (blk_below HZ9.out hd))
            replace HT := Lib.hid (HT.out.below hd)
            replace HB := Lib.hid (chain2 HB.out hd)
            clear hd
            refine hK.out _ _ (hSS) (fun hHeld => ?_)
            clear hK K
            refine norm_ (a' := ?_) ?_ ?_
            rotate_left
            · show Act.put _ (some 24) _ = _
              simp (maxSteps := 4000000) only [Act.put, List.setIfInBounds_toArray, List.set_cons_zero, List.set_cons_succ, i64_w, i32_w]
              try rfl
            refine one_ (i := 5) (N := some 25) #[true, true, true, true, true, true, true, true, false, false] rfl rfl (one_of HT_.out (by kernel_rfl)) (by decide) (fun K hK => ?_)
            refine goes_ Try.func10 (by kernel_rfl) rfl #[(tgV (tameT y))] (by rfl) rfl rfl (by (try simp only [List.map_toArray, List.map_cons, List.map_nil]); first | done | rfl) ?_
            refine (of_ok (tameT y) _).mono ?_
            rintro e w' ⟨rfl, hd⟩
            refine ⟨_, rfl, ?_⟩
            have hSS := And.intro (hHeld.1.below hd) (hHeld.2.below hd)
            (try replace HZ8 := Lib.hid (blk_below HZ8.out hd))
            (try replace HZ9 := Lib.hid (blk_below HZ9.out hd))
            replace HT := Lib.hid (HT.out.below hd)
            replace HB := Lib.hid (chain2 HB.out hd)
            clear hd
            refine hK.out _ _ (hSS) (fun hHeld => ?_)
            clear hK K
            refine norm_ (a' := ?_) ?_ ?_
            rotate_left
            · show Act.put _ (some 25) _ = _
              simp (maxSteps := 4000000) only [Act.put, List.setIfInBounds_toArray, List.set_cons_zero, List.set_cons_succ, i64_w, i32_w]
              try rfl
            refine last_ (i := 8) (N := none) #[true, true, true, true, true, true, true, true, true, false] rfl rfl (one_of HT_.out (by kernel_rfl)) (by decide) (fun K hK => ?_)
            refine skip_ (w1 := ((((w'.setCell ⟨b8, 0, none⟩ (.int .u8 ((tameT x).kind : Int))).setCell ⟨b8, 1, none⟩ (.int .i64 (tameT x).log)).setCell ⟨b8, 2, none⟩ (.int .u64 ((tameT x).seq : Int))).setCell ⟨b8, 3, none⟩ (.int .i64 (tameT x).pos)).setCell ⟨b8, 4, none⟩ (.int .i64 (tameT x).len)) (by rfl) rfl ?_ ?_
            · (obtain ⟨y0, y1, y2, y3, y4⟩ := tg_cells HZ8.out; have f0 := fun i => pl_frozenT HZ8.out i; unfold tgV; go_simp)
            refine hK.out _ _ ?_
            clear hK K
            refine last_ (i := 9) (N := none) #[true, true, true, true, true, true, true, true, true, true] rfl rfl (one_of HT_.out (by kernel_rfl)) (by decide) (fun K hK => ?_)
            refine skip_ (w1 := (((((((((w'.setCell ⟨b8, 0, none⟩ (.int .u8 ((tameT x).kind : Int))).setCell ⟨b8, 1, none⟩ (.int .i64 (tameT x).log)).setCell ⟨b8, 2, none⟩ (.int .u64 ((tameT x).seq : Int))).setCell ⟨b8, 3, none⟩ (.int .i64 (tameT x).pos)).setCell ⟨b8, 4, none⟩ (.int .i64 (tameT x).len)).setCell ⟨b9, 0, none⟩ (.int .u8 ((tameT y).kind : Int))).setCell ⟨b9, 1, none⟩ (.int .i64 (tameT y).log)).setCell ⟨b9, 2, none⟩ (.int .u64 ((tameT y).seq : Int))).setCell ⟨b9, 3, none⟩ (.int .i64 (tameT y).pos)).setCell ⟨b9, 4, none⟩ (.int .i64 (tameT y).len)) (by rfl) rfl ?_ ?_
            · (obtain ⟨y0, y1, y2, y3, y4⟩ := tg_cells (off5T (tameT x) (by first | exact HNe.out | exact HNe.out.symm) HZ9.out); have f0 := fun i => pl_frozenT (off5T (tameT x) (by first | exact HNe.out | exact HNe.out.symm) HZ9.out) i; unfold tgV; go_simp)
            refine hK.out _ _ ?_
            clear hK K
            refine done_ (done_of HT_.out (by kernel_rfl)) ?_
            go_wp2_with fail
            go_meet
            case rel => exact ⟨b8, b9, rfl, rfl, off5T (tameT y) (by first | exact HNe.out | exact HNe.out.symm) (set5T HZ8.out (tameT x)), set5T (off5T (tameT x) (by first | exact HNe.out | exact HNe.out.symm) HZ9.out) (tameT y), tab5T (tameT y) HN9.out (tab5T (tameT x) HN8.out HT.out), below5T (tameT y) HG9.out (below5T (tameT x) HG8.out HB.out)⟩
        · refine value_ (v := (.pointer (some ⟨w'.heap.size, 0, none⟩))) (w1 := w'.alloc (.cells #[.int .u8 0, .int .i64 0, .int .u64 0, .int .i64 0, .int .i64 0] 37)) (by rfl) rfl ?_ ?_
          · (go_simp)
          have HZ8 := Lib.hid (heap_alloc_new w' (.cells #[.int .u8 0, .int .i64 0, .int .u64 0, .int .i64 0, .int .i64 0] 37))
          have hd := below_alloc (Below.refl w'.heap.size w') (.cells #[.int .u8 0, .int .i64 0, .int .u64 0, .int .i64 0, .int .i64 0] 37)
          have HG8 := Lib.hid HB.out.size
          have HN8 := Lib.hid (Nat.ne_of_lt HT.out.lt)
          (try have HNe := Lib.hid (Nat.ne_of_lt (blk_lt HZ9.out)))
          (try replace HZ9 := Lib.hid (blk_below HZ9.out hd))
          replace HT := Lib.hid (HT.out.below hd)
          replace HB := Lib.hid (chain2 HB.out hd)
          have hSS := And.intro (hHeld.1.below hd) (hHeld.2.below hd)
          clear hd
          (first | generalize w'.heap.size = b8 at HZ8 HG8 HN8 HNe ⊢ | generalize w'.heap.size = b8 at HZ8 HG8 HN8 ⊢)
          (first | generalize w'.alloc (.cells #[.int .u8 0, .int .i64 0, .int .u64 0, .int .i64 0, .int .i64 0] 37) = w' at HZ8 HZ9 HT HB hSS ⊢ | generalize w'.alloc (.cells #[.int .u8 0, .int .i64 0, .int .u64 0, .int .i64 0, .int .i64 0] 37) = w' at HZ8 HT HB hSS ⊢)
          refine hK.out _ _ (hSS) (fun hHeld => ?_)
          clear hK K
          refine norm_ (a' := ?_) ?_ ?_
          rotate_left
          · show Act.put _ (some 8) _ = _
            simp (maxSteps := 4000000) only [Act.put, List.setIfInBounds_toArray, List.set_cons_zero, List.set_cons_succ, i64_w, i32_w]
            try rfl
          refine one_ (i := 2) (N := some 22) #[true, true, true, true, false, false, true, true, false, false] rfl rfl (one_of HT_.out (by kernel_rfl)) (by decide) (fun K hK => ?_)
          refine goes_ Try.func10 (by kernel_rfl) rfl #[(tgV (tameT x))] (by rfl) rfl rfl (by (try simp only [List.map_toArray, List.map_cons, List.map_nil]); first | done | rfl) ?_
          refine (of_ok (tameT x) _).mono ?_
          rintro e w' ⟨rfl, hd⟩
          refine ⟨_, rfl, ?_⟩
          have hSS := And.intro (hHeld.1.below hd) (hHeld.2.below hd)
          (try replace HZ8 := Lib.hid (blk_below HZ8.out hd))
          (try replace HZ9 := Lib.hid (blk_below HZ9.out hd))
          replace HT := Lib.hid (HT.out.below hd)
          replace HB := Lib.hid (chain2 HB.out hd)
          clear hd
          refine hK.out _ _ (hSS) (fun hHeld => ?_)
          clear hK K
          refine norm_ (a' := ?_) ?_ ?_
          rotate_left
          · show Act.put _ (some 22) _ = _
            simp (maxSteps := 4000000) only [Act.put, List.setIfInBounds_toArray, List.set_cons_zero, List.set_cons_succ, i64_w, i32_w]
            try rfl
          refine one_ (i := 4) (N := some 24) #[true, true, true, true, true, false, true, true, false, false] rfl rfl (one_of HT_.out (by kernel_rfl)) (by decide) (fun K hK => ?_)
          refine goes_ Try.func8 (by kernel_rfl) rfl #[(tgV y)] (by rfl) rfl rfl (by (try simp only [List.map_toArray, List.map_cons, List.map_nil]); first | done | rfl) ?_
          refine (tame_ok y HO.out.2.kind _).mono ?_
          rintro e w' ⟨rfl, hd⟩
          refine ⟨_, rfl, ?_⟩
          have hSS := And.intro (hHeld.1.below hd) (hHeld.2.below hd)
          (try replace HZ8 := Lib.hid (blk_below HZ8.out hd))
          (try replace HZ9 := Lib.hid (blk_below HZ9.out hd))
          replace HT := Lib.hid (HT.out.below hd)
          replace HB := Lib.hid (chain2 HB.out hd)
          clear hd
          refine hK.out _ _ (hSS) (fun hHeld => ?_)
          clear hK K
          refine norm_ (a' := ?_) ?_ ?_
          rotate_left
          · show Act.put _ (some 24) _ = _
            simp (maxSteps := 4000000) only [Act.put, List.setIfInBounds_toArray, List.set_cons_zero, List.set_cons_succ, i64_w, i32_w]
            try rfl
          refine one_ (i := 5) (N := some 25) #[true, true, true, true, true, true, true, true, false, false] rfl rfl (one_of HT_.out (by kernel_rfl)) (by decide) (fun K hK => ?_)
          refine goes_ Try.func10 (by kernel_rfl) rfl #[(tgV (tameT y))] (by rfl) rfl rfl (by (try simp only [List.map_toArray, List.map_cons, List.map_nil]); first | done | rfl) ?_
          refine (of_ok (tameT y) _).mono ?_
          rintro e w' ⟨rfl, hd⟩
          refine ⟨_, rfl, ?_⟩
          have hSS := And.intro (hHeld.1.below hd) (hHeld.2.below hd)
          (try replace HZ8 := Lib.hid (blk_below HZ8.out hd))
          (try replace HZ9 := Lib.hid (blk_below HZ9.out hd))
          replace HT := Lib.hid (HT.out.below hd)
          replace HB := Lib.hid (chain2 HB.out hd)
          clear hd
          refine hK.out _ _ (hSS) (fun hHeld => ?_)
          clear hK K
          refine norm_ (a' := ?_) ?_ ?_
          rotate_left
          · show Act.put _ (some 25) _ = _
            simp (maxSteps := 4000000) only [Act.put, List.setIfInBounds_toArray, List.set_cons_zero, List.set_cons_succ, i64_w, i32_w]
            try rfl
          refine last_ (i := 8) (N := none) #[true, true, true, true, true, true, true, true, true, false] rfl rfl (one_of HT_.out (by kernel_rfl)) (by decide) (fun K hK => ?_)
          refine skip_ (w1 := ((((w'.setCell ⟨b8, 0, none⟩ (.int .u8 ((tameT x).kind : Int))).setCell ⟨b8, 1, none⟩ (.int .i64 (tameT x).log)).setCell ⟨b8, 2, none⟩ (.int .u64 ((tameT x).seq : Int))).setCell ⟨b8, 3, none⟩ (.int .i64 (tameT x).pos)).setCell ⟨b8, 4, none⟩ (.int .i64 (tameT x).len)) (by rfl) rfl ?_ ?_
          · (obtain ⟨y0, y1, y2, y3, y4⟩ := tg_cells HZ8.out; have f0 := fun i => pl_frozenT HZ8.out i; unfold tgV; go_simp)
          refine hK.out _ _ ?_
          clear hK K
          refine last_ (i := 9) (N := none) #[true, true, true, true, true, true, true, true, true, true] rfl rfl (one_of HT_.out (by kernel_rfl)) (by decide) (fun K hK => ?_)
          refine skip_ (w1 := (((((((((w'.setCell ⟨b8, 0, none⟩ (.int .u8 ((tameT x).kind : Int))).setCell ⟨b8, 1, none⟩ (.int .i64 (tameT x).log)).setCell ⟨b8, 2, none⟩ (.int .u64 ((tameT x).seq : Int))).setCell ⟨b8, 3, none⟩ (.int .i64 (tameT x).pos)).setCell ⟨b8, 4, none⟩ (.int .i64 (tameT x).len)).setCell ⟨b9, 0, none⟩ (.int .u8 ((tameT y).kind : Int))).setCell ⟨b9, 1, none⟩ (.int .i64 (tameT y).log)).setCell ⟨b9, 2, none⟩ (.int .u64 ((tameT y).seq : Int))).setCell ⟨b9, 3, none⟩ (.int .i64 (tameT y).pos)).setCell ⟨b9, 4, none⟩ (.int .i64 (tameT y).len)) (by rfl) rfl ?_ ?_
          · (obtain ⟨y0, y1, y2, y3, y4⟩ := tg_cells (off5T (tameT x) (by first | exact HNe.out | exact HNe.out.symm) HZ9.out); have f0 := fun i => pl_frozenT (off5T (tameT x) (by first | exact HNe.out | exact HNe.out.symm) HZ9.out) i; unfold tgV; go_simp)
          refine hK.out _ _ ?_
          clear hK K
          refine done_ (done_of HT_.out (by kernel_rfl)) ?_
          go_wp2_with fail
          go_meet
          case rel => exact ⟨b8, b9, rfl, rfl, off5T (tameT y) (by first | exact HNe.out | exact HNe.out.symm) (set5T HZ8.out (tameT x)), set5T (off5T (tameT x) (by first | exact HNe.out | exact HNe.out.symm) HZ9.out) (tameT y), tab5T (tameT y) HN9.out (tab5T (tameT x) HN8.out HT.out), below5T (tameT y) HG9.out (below5T (tameT x) HG8.out HB.out)⟩
    · refine value_ (v := (.pointer (some ⟨w'.heap.size, 0, none⟩))) (w1 := w'.alloc (.cells #[.int .u8 0, .int .i64 0, .int .u64 0, .int .i64 0, .int .i64 0] 37)) (by rfl) rfl ?_ ?_
      · (go_simp)
      have HZ8 := Lib.hid (heap_alloc_new w' (.cells #[.int .u8 0, .int .i64 0, .int .u64 0, .int .i64 0, .int .i64 0] 37))
      have hd := below_alloc (Below.refl w'.heap.size w') (.cells #[.int .u8 0, .int .i64 0, .int .u64 0, .int .i64 0, .int .i64 0] 37)
      have HG8 := Lib.hid HB.out.size
      have HN8 := Lib.hid (Nat.ne_of_lt HT.out.lt)
      (try have HNe := Lib.hid (Nat.ne_of_lt (blk_lt HZ9.out)))
      (try replace HZ9 := Lib.hid (blk_below HZ9.out hd))
      replace HT := Lib.hid (HT.out.below hd)
      replace HB := Lib.hid (chain2 HB.out hd)
      have hSS := And.intro (hHeld.1.below hd) (hHeld.2.below hd)
      clear hd
      (first | generalize w'.heap.size = b8 at HZ8 HG8 HN8 HNe ⊢ | generalize w'.heap.size = b8 at HZ8 HG8 HN8 ⊢)
      (first | generalize w'.alloc (.cells #[.int .u8 0, .int .i64 0, .int .u64 0, .int .i64 0, .int .i64 0] 37) = w' at HZ8 HZ9 HT HB hSS ⊢ | generalize w'.alloc (.cells #[.int .u8 0, .int .i64 0, .int .u64 0, .int .i64 0, .int .i64 0] 37) = w' at HZ8 HT HB hSS ⊢)
      refine hK.out _ _ (hSS) (fun hHeld => ?_)
      clear hK K
      refine norm_ (a' := ?_) ?_ ?_
      rotate_left
      · show Act.put _ (some 8) _ = _
        simp (maxSteps := 4000000) only [Act.put, List.setIfInBounds_toArray, List.set_cons_zero, List.set_cons_succ, i64_w, i32_w]
        try rfl
      refine two_ (i := 1) (j := 7) (Ni := some 21) (Nj := some 9) #[true, true, false, true, false, false, true, false, false, false] #[true, false, false, true, false, false, true, true, false, false] rfl rfl rfl rfl  (two_of HT_.out (by kernel_rfl)) (by decide) (by decide)  (fun K hK => ?_) (fun K hK => ?_) 
      · refine goes_ Try.func8 (by kernel_rfl) rfl #[(tgV x)] (by rfl) rfl rfl (by (try simp only [List.map_toArray, List.map_cons, List.map_nil]); first | done | rfl) ?_
        refine (tame_ok x HO.out.1.kind _).mono ?_
        rintro e w' ⟨rfl, hd⟩
        refine ⟨_, rfl, ?_⟩
        have hSS := And.intro (hHeld.1.below hd) (hHeld.2.below hd)
        (try replace HZ8 := Lib.hid (blk_below HZ8.out hd))
        (try replace HZ9 := Lib.hid (blk_below HZ9.out hd))
        replace HT := Lib.hid (HT.out.below hd)
        replace HB := Lib.hid (chain2 HB.out hd)
        clear hd
        refine hK.out _ _ (hSS) (fun hHeld => ?_)
        clear hK K
        refine norm_ (a' := ?_) ?_ ?_
        rotate_left
        · show Act.put _ (some 21) _ = _
          simp (maxSteps := 4000000) only [Act.put, List.setIfInBounds_toArray, List.set_cons_zero, List.set_cons_succ, i64_w, i32_w]
          try rfl
        refine two_ (i := 2) (j := 7) (Ni := some 22) (Nj := some 9) #[true, true, true, true, false, false, true, false, false, false] #[true, true, false, true, false, false, true, true, false, false] rfl rfl rfl rfl  (two_of HT_.out (by kernel_rfl)) (by decide) (by decide)  (fun K hK => ?_) (fun K hK => ?_) 
        · refine goes_ Try.func10 (by kernel_rfl) rfl #[(tgV (tameT x))] (by rfl) rfl rfl (by (try simp only [List.map_toArray, List.map_cons, List.map_nil]); first | done | rfl) ?_
          refine (of_ok (tameT x) _).mono ?_
          rintro e w' ⟨rfl, hd⟩
          refine ⟨_, rfl, ?_⟩
          have hSS := And.intro (hHeld.1.below hd) (hHeld.2.below hd)
          (try replace HZ8 := Lib.hid (blk_below HZ8.out hd))
          (try replace HZ9 := Lib.hid (blk_below HZ9.out hd))
          replace HT := Lib.hid (HT.out.below hd)
          replace HB := Lib.hid (chain2 HB.out hd)
          clear hd
          refine hK.out _ _ (hSS) (fun hHeld => ?_)
          clear hK K
          refine norm_ (a' := ?_) ?_ ?_
          rotate_left
          · show Act.put _ (some 22) _ = _
            simp (maxSteps := 4000000) only [Act.put, List.setIfInBounds_toArray, List.set_cons_zero, List.set_cons_succ, i64_w, i32_w]
            try rfl
          refine two_ (i := 4) (j := 7) (Ni := some 24) (Nj := some 9) #[true, true, true, true, true, false, true, false, false, false] #[true, true, true, true, false, false, true, true, false, false] rfl rfl rfl rfl  (two_of HT_.out (by kernel_rfl)) (by decide) (by decide)  (fun K hK => ?_) (fun K hK => ?_) 
          · refine goes_ Try.func8 (by kernel_rfl) rfl #[(tgV y)] (by rfl) rfl rfl (by (try simp only [List.map_toArray, List.map_cons, List.map_nil]); first | done | rfl) ?_
            refine (tame_ok y HO.out.2.kind _).mono ?_
            rintro e w' ⟨rfl, hd⟩
            refine ⟨_, rfl, ?_⟩
            have hSS := And.intro (hHeld.1.below hd) (hHeld.2.below hd)
            (try replace HZ8 := Lib.hid (blk_below HZ8.out hd))
            (try replace HZ9 := Lib.hid (blk_below HZ9.out hd))
            replace HT := Lib.hid (HT.out.below hd)
            replace HB := Lib.hid (chain2 HB.out hd)
            clear hd
            refine hK.out _ _ (hSS) (fun hHeld => ?_)
            clear hK K
            refine norm_ (a' := ?_) ?_ ?_
            rotate_left
            · show Act.put _ (some 24) _ = _
              simp (maxSteps := 4000000) only [Act.put, List.setIfInBounds_toArray, List.set_cons_zero, List.set_cons_succ, i64_w, i32_w]
              try rfl
            refine two_ (i := 5) (j := 7) (Ni := some 25) (Nj := some 9) #[true, true, true, true, true, true, true, false, false, false] #[true, true, true, true, true, false, true, true, false, false] rfl rfl rfl rfl  (two_of HT_.out (by kernel_rfl)) (by decide) (by decide)  (fun K hK => ?_) (fun K hK => ?_) 
            · refine goes_ Try.func10 (by kernel_rfl) rfl #[(tgV (tameT y))] (by rfl) rfl rfl (by (try simp only [List.map_toArray, List.map_cons, List.map_nil]); first | done | rfl) ?_
              refine (of_ok (tameT y) _).mono ?_
              rintro e w' ⟨rfl, hd⟩
              refine ⟨_, rfl, ?_⟩
              have hSS := And.intro (hHeld.1.below hd) (hHeld.2.below hd)
              (try replace HZ8 := Lib.hid (blk_below HZ8.out hd))
              (try replace HZ9 := Lib.hid (blk_below HZ9.out hd))
              replace HT := Lib.hid (HT.out.below hd)
              replace HB := Lib.hid (chain2 HB.out hd)
              clear hd
              refine hK.out _ _ (hSS) (fun hHeld => ?_)
              clear hK K
              refine norm_ (a' := ?_) ?_ ?_
              rotate_left
              · show Act.put _ (some 25) _ = _
                simp (maxSteps := 4000000) only [Act.put, List.setIfInBounds_toArray, List.set_cons_zero, List.set_cons_succ, i64_w, i32_w]
                try rfl
              refine one_ (i := 7) (N := some 9) #[true, true, true, true, true, true, true, true, false, false] rfl rfl (one_of HT_.out (by kernel_rfl)) (by decide) (fun K hK => ?_)
              refine value_ (v := (.pointer (some ⟨w'.heap.size, 0, none⟩))) (w1 := w'.alloc (.cells #[.int .u8 0, .int .i64 0, .int .u64 0, .int .i64 0, .int .i64 0] 37)) (by rfl) rfl ?_ ?_
              · (go_simp)
              have HZ9 := Lib.hid (heap_alloc_new w' (.cells #[.int .u8 0, .int .i64 0, .int .u64 0, .int .i64 0, .int .i64 0] 37))
              have hd := below_alloc (Below.refl w'.heap.size w') (.cells #[.int .u8 0, .int .i64 0, .int .u64 0, .int .i64 0, .int .i64 0] 37)
              have HG9 := Lib.hid HB.out.size
              have HN9 := Lib.hid (Nat.ne_of_lt HT.out.lt)
              (try have HNe := Lib.hid (Nat.ne_of_lt (blk_lt HZ8.out)))
              (try replace HZ8 := Lib.hid (blk_below HZ8.out hd))
              replace HT := Lib.hid (HT.out.below hd)
              replace HB := Lib.hid (chain2 HB.out hd)
              have hSS := And.intro (hHeld.1.below hd) (hHeld.2.below hd)
              clear hd
              (first | generalize w'.heap.size = b9 at HZ9 HG9 HN9 HNe ⊢ | generalize w'.heap.size = b9 at HZ9 HG9 HN9 ⊢)
              (first | generalize w'.alloc (.cells #[.int .u8 0, .int .i64 0, .int .u64 0, .int .i64 0, .int .i64 0] 37) = w' at HZ8 HZ9 HT HB hSS ⊢ | generalize w'.alloc (.cells #[.int .u8 0, .int .i64 0, .int .u64 0, .int .i64 0, .int .i64 0] 37) = w' at HZ9 HT HB hSS ⊢)
              refine hK.out _ _ (hSS) (fun hHeld => ?_)
              clear hK K
              refine norm_ (a' := ?_) ?_ ?_
              rotate_left
              · show Act.put _ (some 9) _ = _
                simp (maxSteps := 4000000) only [Act.put, List.setIfInBounds_toArray, List.set_cons_zero, List.set_cons_succ, i64_w, i32_w]
                try rfl
              refine last_ (i := 8) (N := none) #[true, true, true, true, true, true, true, true, true, false] rfl rfl (one_of HT_.out (by kernel_rfl)) (by decide) (fun K hK => ?_)
              refine skip_ (w1 := ((((w'.setCell ⟨b8, 0, none⟩ (.int .u8 ((tameT x).kind : Int))).setCell ⟨b8, 1, none⟩ (.int .i64 (tameT x).log)).setCell ⟨b8, 2, none⟩ (.int .u64 ((tameT x).seq : Int))).setCell ⟨b8, 3, none⟩ (.int .i64 (tameT x).pos)).setCell ⟨b8, 4, none⟩ (.int .i64 (tameT x).len)) (by rfl) rfl ?_ ?_
              · (obtain ⟨y0, y1, y2, y3, y4⟩ := tg_cells HZ8.out; have f0 := fun i => pl_frozenT HZ8.out i; unfold tgV; go_simp)
              refine hK.out _ _ ?_
              clear hK K
              refine last_ (i := 9) (N := none) #[true, true, true, true, true, true, true, true, true, true] rfl rfl (one_of HT_.out (by kernel_rfl)) (by decide) (fun K hK => ?_)
              refine skip_ (w1 := (((((((((w'.setCell ⟨b8, 0, none⟩ (.int .u8 ((tameT x).kind : Int))).setCell ⟨b8, 1, none⟩ (.int .i64 (tameT x).log)).setCell ⟨b8, 2, none⟩ (.int .u64 ((tameT x).seq : Int))).setCell ⟨b8, 3, none⟩ (.int .i64 (tameT x).pos)).setCell ⟨b8, 4, none⟩ (.int .i64 (tameT x).len)).setCell ⟨b9, 0, none⟩ (.int .u8 ((tameT y).kind : Int))).setCell ⟨b9, 1, none⟩ (.int .i64 (tameT y).log)).setCell ⟨b9, 2, none⟩ (.int .u64 ((tameT y).seq : Int))).setCell ⟨b9, 3, none⟩ (.int .i64 (tameT y).pos)).setCell ⟨b9, 4, none⟩ (.int .i64 (tameT y).len)) (by rfl) rfl ?_ ?_
              · (obtain ⟨y0, y1, y2, y3, y4⟩ := tg_cells (off5T (tameT x) (by first | exact HNe.out | exact HNe.out.symm) HZ9.out); have f0 := fun i => pl_frozenT (off5T (tameT x) (by first | exact HNe.out | exact HNe.out.symm) HZ9.out) i; unfold tgV; go_simp)
              refine hK.out _ _ ?_
              clear hK K
              refine done_ (done_of HT_.out (by kernel_rfl)) ?_
              go_wp2_with fail
              go_meet
              case rel => exact ⟨b8, b9, rfl, rfl, off5T (tameT y) (by first | exact HNe.out | exact HNe.out.symm) (set5T HZ8.out (tameT x)), set5T (off5T (tameT x) (by first | exact HNe.out | exact HNe.out.symm) HZ9.out) (tameT y), tab5T (tameT y) HN9.out (tab5T (tameT x) HN8.out HT.out), below5T (tameT y) HG9.out (below5T (tameT x) HG8.out HB.out)⟩
            · refine value_ (v := (.pointer (some ⟨w'.heap.size, 0, none⟩))) (w1 := w'.alloc (.cells #[.int .u8 0, .int .i64 0, .int .u64 0, .int .i64 0, .int .i64 0] 37)) (by rfl) rfl ?_ ?_
              · (go_simp)
              have HZ9 := Lib.hid (heap_alloc_new w' (.cells #[.int .u8 0, .int .i64 0, .int .u64 0, .int .i64 0, .int .i64 0] 37))
              have hd := below_alloc (Below.refl w'.heap.size w') (.cells #[.int .u8 0, .int .i64 0, .int .u64 0, .int .i64 0, .int .i64 0] 37)
              have HG9 := Lib.hid HB.out.size
              have HN9 := Lib.hid (Nat.ne_of_lt HT.out.lt)
              (try have HNe := Lib.hid (Nat.ne_of_lt (blk_lt HZ8.out)))
              (try replace HZ8 := Lib.hid (blk_below HZ8.out hd))
              replace HT := Lib.hid (HT.out.below hd)
              replace HB := Lib.hid (chain2 HB.out hd)
              have hSS := And.intro (hHeld.1.below hd) (hHeld.2.below hd)
              clear hd
              (first | generalize w'.heap.size = b9 at HZ9 HG9 HN9 HNe ⊢ | generalize w'.heap.size = b9 at HZ9 HG9 HN9 ⊢)
              (first | generalize w'.alloc (.cells #[.int .u8 0, .int .i64 0, .int .u64 0, .int .i64 0, .int .i64 0] 37) = w' at HZ8 HZ9 HT HB hSS ⊢ | generalize w'.alloc (.cells #[.int .u8 0, .int .i64 0, .int .u64 0, .int .i64 0, .int .i64 0] 37) = w' at HZ9 HT HB hSS ⊢)
              refine hK.out _ _ (hSS) (fun hHeld => ?_)
              clear hK K
              refine norm_ (a' := ?_) ?_ ?_
              rotate_left
              · show Act.put _ (some 9) _ = _
                simp (maxSteps := 4000000) only [Act.put, List.setIfInBounds_toArray, List.set_cons_zero, List.set_cons_succ, i64_w, i32_w]
                try rfl
              refine one_ (i := 5) (N := some 25) #[true, true, true, true, true, true, true, true, false, false] rfl rfl (one_of HT_.out (by kernel_rfl)) (by decide) (fun K hK => ?_)
              refine goes_ Try.func10 (by kernel_rfl) rfl #[(tgV (tameT y))] (by rfl) rfl rfl (by (try simp only [List.map_toArray, List.map_cons, List.map_nil]); first | done | rfl) ?_
              refine (of_ok (tameT y) _).mono ?_
              rintro e w' ⟨rfl, hd⟩
              refine ⟨_, rfl, ?_⟩
              have hSS := And.intro (hHeld.1.below hd) (hHeld.2.below hd)
              (try replace HZ8 := Lib.hid (blk_below HZ8.out hd))
              (try replace HZ9 := Lib.hid (blk_below HZ9.out hd))
              replace HT := Lib.hid (HT.out.below hd)
              replace HB := Lib.hid (chain2 HB.out hd)
              clear hd
              refine hK.out _ _ (hSS) (fun hHeld => ?_)
              clear hK K
              refine norm_ (a' := ?_) ?_ ?_
              rotate_left
              · show Act.put _ (some 25) _ = _
                simp (maxSteps := 4000000) only [Act.put, List.setIfInBounds_toArray, List.set_cons_zero, List.set_cons_succ, i64_w, i32_w]
                try rfl
              refine last_ (i := 8) (N := none) #[true, true, true, true, true, true, true, true, true, false] rfl rfl (one_of HT_.out (by kernel_rfl)) (by decide) (fun K hK => ?_)
              refine skip_ (w1 := ((((w'.setCell ⟨b8, 0, none⟩ (.int .u8 ((tameT x).kind : Int))).setCell ⟨b8, 1, none⟩ (.int .i64 (tameT x).log)).setCell ⟨b8, 2, none⟩ (.int .u64 ((tameT x).seq : Int))).setCell ⟨b8, 3, none⟩ (.int .i64 (tameT x).pos)).setCell ⟨b8, 4, none⟩ (.int .i64 (tameT x).len)) (by rfl) rfl ?_ ?_
              · (obtain ⟨y0, y1, y2, y3, y4⟩ := tg_cells HZ8.out; have f0 := fun i => pl_frozenT HZ8.out i; unfold tgV; go_simp)
              refine hK.out _ _ ?_
              clear hK K
              refine last_ (i := 9) (N := none) #[true, true, true, true, true, true, true, true, true, true] rfl rfl (one_of HT_.out (by kernel_rfl)) (by decide) (fun K hK => ?_)
              refine skip_ (w1 := (((((((((w'.setCell ⟨b8, 0, none⟩ (.int .u8 ((tameT x).kind : Int))).setCell ⟨b8, 1, none⟩ (.int .i64 (tameT x).log)).setCell ⟨b8, 2, none⟩ (.int .u64 ((tameT x).seq : Int))).setCell ⟨b8, 3, none⟩ (.int .i64 (tameT x).pos)).setCell ⟨b8, 4, none⟩ (.int .i64 (tameT x).len)).setCell ⟨b9, 0, none⟩ (.int .u8 ((tameT y).kind : Int))).setCell ⟨b9, 1, none⟩ (.int .i64 (tameT y).log)).setCell ⟨b9, 2, none⟩ (.int .u64 ((tameT y).seq : Int))).setCell ⟨b9, 3, none⟩ (.int .i64 (tameT y).pos)).setCell ⟨b9, 4, none⟩ (.int .i64 (tameT y).len)) (by rfl) rfl ?_ ?_
              · (obtain ⟨y0, y1, y2, y3, y4⟩ := tg_cells (off5T (tameT x) (by first | exact HNe.out | exact HNe.out.symm) HZ9.out); have f0 := fun i => pl_frozenT (off5T (tameT x) (by first | exact HNe.out | exact HNe.out.symm) HZ9.out) i; unfold tgV; go_simp)
              refine hK.out _ _ ?_
              clear hK K
              refine done_ (done_of HT_.out (by kernel_rfl)) ?_
              go_wp2_with fail
              go_meet
              case rel => exact ⟨b8, b9, rfl, rfl, off5T (tameT y) (by first | exact HNe.out | exact HNe.out.symm) (set5T HZ8.out (tameT x)), set5T (off5T (tameT x) (by first | exact HNe.out | exact HNe.out.symm) HZ9.out) (tameT y), tab5T (tameT y) HN9.out (tab5T (tameT x) HN8.out HT.out), below5T (tameT y) HG9.out (below5T (tameT x) HG8.out HB.out)⟩
          · refine value_ (v := (.pointer (some ⟨w'.heap.size, 0, none⟩))) (w1 := w'.alloc (.cells #[.int .u8 0, .int .i64 0, .int .u64 0, .int .i64 0, .int .i64 0] 37)) (by rfl) rfl ?_ ?_
            · (go_simp)
            have HZ9 := Lib.hid (heap_alloc_new w' (.cells #[.int .u8 0, .int .i64 0, .int .u64 0, .int .i64 0, .int .i64 0] 37))
            have hd := below_alloc (Below.refl w'.heap.size w') (.cells #[.int .u8 0, .int .i64 0, .int .u64 0, .int .i64 0, .int .i64 0] 37)
            have HG9 := Lib.hid HB.out.size
            have HN9 := Lib.hid (Nat.ne_of_lt HT.out.lt)
            (try have HNe := Lib.hid (Nat.ne_of_lt (blk_lt HZ8.out)))
            (try replace HZ8 := Lib.hid (blk_below HZ8.out hd))
            replace HT := Lib.hid (HT.out.below hd)
            replace HB := Lib.hid (chain2 HB.out hd)
            have hSS := And.intro (hHeld.1.below hd) (hHeld.2.below hd)
            clear hd
            (first | generalize w'.heap.size = b9 at HZ9 HG9 HN9 HNe ⊢ | generalize w'.heap.size = b9 at HZ9 HG9 HN9 ⊢)
            (first | generalize w'.alloc (.cells #[.int .u8 0, .int .i64 0, .int .u64 0, .int .i64 0, .int .i64 0] 37) = w' at HZ8 HZ9 HT HB hSS ⊢ | generalize w'.alloc (.cells #[.int .u8 0, .int .i64 0, .int .u64 0, .int .i64 0, .int .i64 0] 37) = w' at HZ9 HT HB hSS ⊢)
            refine hK.out _ _ (hSS) (fun hHeld => ?_)
            clear hK K
            refine norm_ (a' := ?_) ?_ ?_
            rotate_left
            · show Act.put _ (some 9) _ = _
              simp (maxSteps := 4000000) only [Act.put, List.setIfInBounds_toArray, List.set_cons_zero, List.set_cons_succ, i64_w, i32_w]
              try rfl
            refine one_ (i := 4) (N := some 24) #[true, true, true, true, true, false, true, true, false, false] rfl rfl (one_of HT_.out (by kernel_rfl)) (by decide) (fun K hK => ?_)
            refine goes_ Try.func8 (by kernel_rfl) rfl #[(tgV y)] (by rfl) rfl rfl (by (try simp only [List.map_toArray, List.map_cons, List.map_nil]); first | done | rfl) ?_
            refine (tame_ok y HO.out.2.kind _).mono ?_
            rintro e w' ⟨rfl, hd⟩
            refine ⟨_, rfl, ?_⟩
            have hSS := And.intro (hHeld.1.below hd) (hHeld.2.below hd)
            (try replace HZ8 := Lib.hid (blk_below HZ8.out hd))
            (try replace HZ9 := Lib.hid (blk_below HZ9.out hd))
            replace HT := Lib.hid (HT.out.below hd)
            replace HB := Lib.hid (chain2 HB.out hd)
            clear hd
            refine hK.out _ _ (hSS) (fun hHeld => ?_)
            clear hK K
            refine norm_ (a' := ?_) ?_ ?_
            rotate_left
            · show Act.put _ (some 24) _ = _
              simp (maxSteps := 4000000) only [Act.put, List.setIfInBounds_toArray, List.set_cons_zero, List.set_cons_succ, i64_w, i32_w]
              try rfl
            refine one_ (i := 5) (N := some 25) #[true, true, true, true, true, true, true, true, false, false] rfl rfl (one_of HT_.out (by kernel_rfl)) (by decide) (fun K hK => ?_)
            refine goes_ Try.func10 (by kernel_rfl) rfl #[(tgV (tameT y))] (by rfl) rfl rfl (by (try simp only [List.map_toArray, List.map_cons, List.map_nil]); first | done | rfl) ?_
            refine (of_ok (tameT y) _).mono ?_
            rintro e w' ⟨rfl, hd⟩
            refine ⟨_, rfl, ?_⟩
            have hSS := And.intro (hHeld.1.below hd) (hHeld.2.below hd)
            (try replace HZ8 := Lib.hid (blk_below HZ8.out hd))
            (try replace HZ9 := Lib.hid (blk_below HZ9.out hd))
            replace HT := Lib.hid (HT.out.below hd)
            replace HB := Lib.hid (chain2 HB.out hd)
            clear hd
            refine hK.out _ _ (hSS) (fun hHeld => ?_)
            clear hK K
            refine norm_ (a' := ?_) ?_ ?_
            rotate_left
            · show Act.put _ (some 25) _ = _
              simp (maxSteps := 4000000) only [Act.put, List.setIfInBounds_toArray, List.set_cons_zero, List.set_cons_succ, i64_w, i32_w]
              try rfl
            refine last_ (i := 8) (N := none) #[true, true, true, true, true, true, true, true, true, false] rfl rfl (one_of HT_.out (by kernel_rfl)) (by decide) (fun K hK => ?_)
            refine skip_ (w1 := ((((w'.setCell ⟨b8, 0, none⟩ (.int .u8 ((tameT x).kind : Int))).setCell ⟨b8, 1, none⟩ (.int .i64 (tameT x).log)).setCell ⟨b8, 2, none⟩ (.int .u64 ((tameT x).seq : Int))).setCell ⟨b8, 3, none⟩ (.int .i64 (tameT x).pos)).setCell ⟨b8, 4, none⟩ (.int .i64 (tameT x).len)) (by rfl) rfl ?_ ?_
            · (obtain ⟨y0, y1, y2, y3, y4⟩ := tg_cells HZ8.out; have f0 := fun i => pl_frozenT HZ8.out i; unfold tgV; go_simp)
            refine hK.out _ _ ?_
            clear hK K
            refine last_ (i := 9) (N := none) #[true, true, true, true, true, true, true, true, true, true] rfl rfl (one_of HT_.out (by kernel_rfl)) (by decide) (fun K hK => ?_)
            refine skip_ (w1 := (((((((((w'.setCell ⟨b8, 0, none⟩ (.int .u8 ((tameT x).kind : Int))).setCell ⟨b8, 1, none⟩ (.int .i64 (tameT x).log)).setCell ⟨b8, 2, none⟩ (.int .u64 ((tameT x).seq : Int))).setCell ⟨b8, 3, none⟩ (.int .i64 (tameT x).pos)).setCell ⟨b8, 4, none⟩ (.int .i64 (tameT x).len)).setCell ⟨b9, 0, none⟩ (.int .u8 ((tameT y).kind : Int))).setCell ⟨b9, 1, none⟩ (.int .i64 (tameT y).log)).setCell ⟨b9, 2, none⟩ (.int .u64 ((tameT y).seq : Int))).setCell ⟨b9, 3, none⟩ (.int .i64 (tameT y).pos)).setCell ⟨b9, 4, none⟩ (.int .i64 (tameT y).len)) (by rfl) rfl ?_ ?_
            · (obtain ⟨y0, y1, y2, y3, y4⟩ := tg_cells (off5T (tameT x) (by first | exact HNe.out | exact HNe.out.symm) HZ9.out); have f0 := fun i => pl_frozenT (off5T (tameT x) (by first | exact HNe.out | exact HNe.out.symm) HZ9.out) i; unfold tgV; go_simp)
            refine hK.out _ _ ?_
            clear hK K
            refine done_ (done_of HT_.out (by kernel_rfl)) ?_
            go_wp2_with fail
            go_meet
            case rel => exact ⟨b8, b9, rfl, rfl, off5T (tameT y) (by first | exact HNe.out | exact HNe.out.symm) (set5T HZ8.out (tameT x)), set5T (off5T (tameT x) (by first | exact HNe.out | exact HNe.out.symm) HZ9.out) (tameT y), tab5T (tameT y) HN9.out (tab5T (tameT x) HN8.out HT.out), below5T (tameT y) HG9.out (below5T (tameT x) HG8.out HB.out)⟩
        · refine value_ (v := (.pointer (some ⟨w'.heap.size, 0, none⟩))) (w1 := w'.alloc (.cells #[.int .u8 0, .int .i64 0, .int .u64 0, .int .i64 0, .int .i64 0] 37)) (by rfl) rfl ?_ ?_
          · (go_simp)
          have HZ9 := Lib.hid (heap_alloc_new w' (.cells #[.int .u8 0, .int .i64 0, .int .u64 0, .int .i64 0, .int .i64 0] 37))
          have hd := below_alloc (Below.refl w'.heap.size w') (.cells #[.int .u8 0, .int .i64 0, .int .u64 0, .int .i64 0, .int .i64 0] 37)
          have HG9 := Lib.hid HB.out.size
          have HN9 := Lib.hid (Nat.ne_of_lt HT.out.lt)
          (try have HNe := Lib.hid (Nat.ne_of_lt (blk_lt HZ8.out)))
          (try replace HZ8 := Lib.hid (blk_below HZ8.out hd))
          replace HT := Lib.hid (HT.out.below hd)
          replace HB := Lib.hid (chain2 HB.out hd)
          have hSS := And.intro (hHeld.1.below hd) (hHeld.2.below hd)
          clear hd
          (first | generalize w'.heap.size = b9 at HZ9 HG9 HN9 HNe ⊢ | generalize w'.heap.size = b9 at HZ9 HG9 HN9 ⊢)
          (first | generalize w'.alloc (.cells #[.int .u8 0, .int .i64 0, .int .u64 0, .int .i64 0, .int .i64 0] 37) = w' at HZ8 HZ9 HT HB hSS ⊢ | generalize w'.alloc (.cells #[.int .u8 0, .int .i64 0, .int .u64 0, .int .i64 0, .int .i64 0] 37) = w' at HZ9 HT HB hSS ⊢)
          refine hK.out _ _ (hSS) (fun hHeld => ?_)
          clear hK K
          refine norm_ (a' := ?_) ?_ ?_
          rotate_left
          · show Act.put _ (some 9) _ = _
            simp (maxSteps := 4000000) only [Act.put, List.setIfInBounds_toArray, List.set_cons_zero, List.set_cons_succ, i64_w, i32_w]
            try rfl
          refine one_ (i := 2) (N := some 22) #[true, true, true, true, false, false, true, true, false, false] rfl rfl (one_of HT_.out (by kernel_rfl)) (by decide) (fun K hK => ?_)
          refine goes_ Try.func10 (by kernel_rfl) rfl #[(tgV (tameT x))] (by rfl) rfl rfl (by (try simp only [List.map_toArray, List.map_cons, List.map_nil]); first | done | rfl) ?_
          refine (of_ok (tameT x) _).mono ?_
          rintro e w' ⟨rfl, hd⟩
          refine ⟨_, rfl, ?_⟩
          have hSS := And.intro (hHeld.1.below hd) (hHeld.2.below hd)
          (try replace HZ8 := Lib.hid (blk_below HZ8.out hd))
          (try replace HZ9 := Lib.hid (blk_below HZ9.out hd))
          replace HT := Lib.hid (HT.out.below hd)
          replace HB := Lib.hid (chain2 HB.out hd)
          clear hd
          refine hK.out _ _ (hSS) (fun hHeld => ?_)
          clear hK K
          refine norm_ (a' := ?_) ?_ ?_
          rotate_left
          · show Act.put _ (some 22) _ = _
            simp (maxSteps := 4000000) only [Act.put, List.setIfInBounds_toArray, List.set_cons_zero, List.set_cons_succ, i64_w, i32_w]
            try rfl
          refine one_ (i := 4) (N := some 24) #[true, true, true, true, true, false, true, true, false, false] rfl rfl (one_of HT_.out (by kernel_rfl)) (by decide) (fun K hK => ?_)
          refine goes_ Try.func8 (by kernel_rfl) rfl #[(tgV y)] (by rfl) rfl rfl (by (try simp only [List.map_toArray, List.map_cons, List.map_nil]); first | done | rfl) ?_
          refine (tame_ok y HO.out.2.kind _).mono ?_
          rintro e w' ⟨rfl, hd⟩
          refine ⟨_, rfl, ?_⟩
          have hSS := And.intro (hHeld.1.below hd) (hHeld.2.below hd)
          (try replace HZ8 := Lib.hid (blk_below HZ8.out hd))
          (try replace HZ9 := Lib.hid (blk_below HZ9.out hd))
          replace HT := Lib.hid (HT.out.below hd)
          replace HB := Lib.hid (chain2 HB.out hd)
          clear hd
          refine hK.out _ _ (hSS) (fun hHeld => ?_)
          clear hK K
          refine norm_ (a' := ?_) ?_ ?_
          rotate_left
          · show Act.put _ (some 24) _ = _
            simp (maxSteps := 4000000) only [Act.put, List.setIfInBounds_toArray, List.set_cons_zero, List.set_cons_succ, i64_w, i32_w]
            try rfl
          refine one_ (i := 5) (N := some 25) #[true, true, true, true, true, true, true, true, false, false] rfl rfl (one_of HT_.out (by kernel_rfl)) (by decide) (fun K hK => ?_)
          refine goes_ Try.func10 (by kernel_rfl) rfl #[(tgV (tameT y))] (by rfl) rfl rfl (by (try simp only [List.map_toArray, List.map_cons, List.map_nil]); first | done | rfl) ?_
          refine (of_ok (tameT y) _).mono ?_
          rintro e w' ⟨rfl, hd⟩
          refine ⟨_, rfl, ?_⟩
          have hSS := And.intro (hHeld.1.below hd) (hHeld.2.below hd)
          (try replace HZ8 := Lib.hid (blk_below HZ8.out hd))
          (try replace HZ9 := Lib.hid (blk_below HZ9.out hd))
          replace HT := Lib.hid (HT.out.below hd)
          replace HB := Lib.hid (chain2 HB.out hd)
          clear hd
          refine hK.out _ _ (hSS) (fun hHeld => ?_)
          clear hK K
          refine norm_ (a' := ?_) ?_ ?_
          rotate_left
          · show Act.put _ (some 25) _ = _
            simp (maxSteps := 4000000) only [Act.put, List.setIfInBounds_toArray, List.set_cons_zero, List.set_cons_succ, i64_w, i32_w]
            try rfl
          refine last_ (i := 8) (N := none) #[true, true, true, true, true, true, true, true, true, false] rfl rfl (one_of HT_.out (by kernel_rfl)) (by decide) (fun K hK => ?_)
          refine skip_ (w1 := ((((w'.setCell ⟨b8, 0, none⟩ (.int .u8 ((tameT x).kind : Int))).setCell ⟨b8, 1, none⟩ (.int .i64 (tameT x).log)).setCell ⟨b8, 2, none⟩ (.int .u64 ((tameT x).seq : Int))).setCell ⟨b8, 3, none⟩ (.int .i64 (tameT x).pos)).setCell ⟨b8, 4, none⟩ (.int .i64 (tameT x).len)) (by rfl) rfl ?_ ?_
          · (obtain ⟨y0, y1, y2, y3, y4⟩ := tg_cells HZ8.out; have f0 := fun i => pl_frozenT HZ8.out i; unfold tgV; go_simp)
          refine hK.out _ _ ?_
          clear hK K
          refine last_ (i := 9) (N := none) #[true, true, true, true, true, true, true, true, true, true] rfl rfl (one_of HT_.out (by kernel_rfl)) (by decide) (fun K hK => ?_)
          refine skip_ (w1 := (((((((((w'.setCell ⟨b8, 0, none⟩ (.int .u8 ((tameT x).kind : Int))).setCell ⟨b8, 1, none⟩ (.int .i64 (tameT x).log)).setCell ⟨b8, 2, none⟩ (.int .u64 ((tameT x).seq : Int))).setCell ⟨b8, 3, none⟩ (.int .i64 (tameT x).pos)).setCell ⟨b8, 4, none⟩ (.int .i64 (tameT x).len)).setCell ⟨b9, 0, none⟩ (.int .u8 ((tameT y).kind : Int))).setCell ⟨b9, 1, none⟩ (.int .i64 (tameT y).log)).setCell ⟨b9, 2, none⟩ (.int .u64 ((tameT y).seq : Int))).setCell ⟨b9, 3, none⟩ (.int .i64 (tameT y).pos)).setCell ⟨b9, 4, none⟩ (.int .i64 (tameT y).len)) (by rfl) rfl ?_ ?_
          · (obtain ⟨y0, y1, y2, y3, y4⟩ := tg_cells (off5T (tameT x) (by first | exact HNe.out | exact HNe.out.symm) HZ9.out); have f0 := fun i => pl_frozenT (off5T (tameT x) (by first | exact HNe.out | exact HNe.out.symm) HZ9.out) i; unfold tgV; go_simp)
          refine hK.out _ _ ?_
          clear hK K
          refine done_ (done_of HT_.out (by kernel_rfl)) ?_
          go_wp2_with fail
          go_meet
          case rel => exact ⟨b8, b9, rfl, rfl, off5T (tameT y) (by first | exact HNe.out | exact HNe.out.symm) (set5T HZ8.out (tameT x)), set5T (off5T (tameT x) (by first | exact HNe.out | exact HNe.out.symm) HZ9.out) (tameT y), tab5T (tameT y) HN9.out (tab5T (tameT x) HN8.out HT.out), below5T (tameT y) HG9.out (below5T (tameT x) HG8.out HB.out)⟩
      · refine value_ (v := (.pointer (some ⟨w'.heap.size, 0, none⟩))) (w1 := w'.alloc (.cells #[.int .u8 0, .int .i64 0, .int .u64 0, .int .i64 0, .int .i64 0] 37)) (by rfl) rfl ?_ ?_
        · (go_simp)
        have HZ9 := Lib.hid (heap_alloc_new w' (.cells #[.int .u8 0, .int .i64 0, .int .u64 0, .int .i64 0, .int .i64 0] 37))
        have hd := below_alloc (Below.refl w'.heap.size w') (.cells #[.int .u8 0, .int .i64 0, .int .u64 0, .int .i64 0, .int .i64 0] 37)
        have HG9 := Lib.hid HB.out.size
        have HN9 := Lib.hid (Nat.ne_of_lt HT.out.lt)
        (try have HNe := Lib.hid (Nat.ne_of_lt (blk_lt HZ8.out)))
        (try replace HZ8 := Lib.hid (blk_below HZ8.out hd))
        replace HT := Lib.hid (HT.out.below hd)
        replace HB := Lib.hid (chain2 HB.out hd)
        have hSS := And.intro (hHeld.1.below hd) (hHeld.2.below hd)
        clear hd
        (first | generalize w'.heap.size = b9 at HZ9 HG9 HN9 HNe ⊢ | generalize w'.heap.size = b9 at HZ9 HG9 HN9 ⊢)
        (first | generalize w'.alloc (.cells #[.int .u8 0, .int .i64 0, .int .u64 0, .int .i64 0, .int .i64 0] 37) = w' at HZ8 HZ9 HT HB hSS ⊢ | generalize w'.alloc (.cells #[.int .u8 0, .int .i64 0, .int .u64 0, .int .i64 0, .int .i64 0] 37) = w' at HZ9 HT HB hSS ⊢)
        refine hK.out _ _ (hSS) (fun hHeld => ?_)
        clear hK K
        refine norm_ (a' := ?_) ?_ ?_
        rotate_left
        · show Act.put _ (some 9) _ = _
          simp (maxSteps := 4000000) only [Act.put, List.setIfInBounds_toArray, List.set_cons_zero, List.set_cons_succ, i64_w, i32_w]
          try rfl
        refine one_ (i := 1) (N := some 21) #[true, true, false, true, false, false, true, true, false, false] rfl rfl (one_of HT_.out (by kernel_rfl)) (by decide) (fun K hK => ?_)
        refine goes_ Try.func8 (by kernel_rfl) rfl #[(tgV x)] (by rfl) rfl rfl (by (try simp only [List.map_toArray, List.map_cons, List.map_nil]); first | done | rfl) ?_
        refine (tame_ok x HO.out.1.kind _).mono ?_
        rintro e w' ⟨rfl, hd⟩
        refine ⟨_, rfl, ?_⟩
        have hSS := And.intro (hHeld.1.below hd) (hHeld.2.below hd)
        (try replace HZ8 := Lib.hid (blk_below HZ8.out hd))
        (try replace HZ9 := Lib.hid (blk_below HZ9.out hd))
        replace HT := Lib.hid (HT.out.below hd)
        replace HB := Lib.hid (chain2 HB.out hd)
        clear hd
        refine hK.out _ _ (hSS) (fun hHeld => ?_)
        clear hK K
        refine norm_ (a' := ?_) ?_ ?_
        rotate_left
        · show Act.put _ (some 21) _ = _
          simp (maxSteps := 4000000) only [Act.put, List.setIfInBounds_toArray, List.set_cons_zero, List.set_cons_succ, i64_w, i32_w]
          try rfl
        refine one_ (i := 2) (N := some 22) #[true, true, true, true, false, false, true, true, false, false] rfl rfl (one_of HT_.out (by kernel_rfl)) (by decide) (fun K hK => ?_)
        refine goes_ Try.func10 (by kernel_rfl) rfl #[(tgV (tameT x))] (by rfl) rfl rfl (by (try simp only [List.map_toArray, List.map_cons, List.map_nil]); first | done | rfl) ?_
        refine (of_ok (tameT x) _).mono ?_
        rintro e w' ⟨rfl, hd⟩
        refine ⟨_, rfl, ?_⟩
        have hSS := And.intro (hHeld.1.below hd) (hHeld.2.below hd)
        (try replace HZ8 := Lib.hid (blk_below HZ8.out hd))
        (try replace HZ9 := Lib.hid (blk_below HZ9.out hd))
        replace HT := Lib.hid (HT.out.below hd)
        replace HB := Lib.hid (chain2 HB.out hd)
        clear hd
        refine hK.out _ _ (hSS) (fun hHeld => ?_)
        clear hK K
        refine norm_ (a' := ?_) ?_ ?_
        rotate_left
        · show Act.put _ (some 22) _ = _
          simp (maxSteps := 4000000) only [Act.put, List.setIfInBounds_toArray, List.set_cons_zero, List.set_cons_succ, i64_w, i32_w]
          try rfl
        refine one_ (i := 4) (N := some 24) #[true, true, true, true, true, false, true, true, false, false] rfl rfl (one_of HT_.out (by kernel_rfl)) (by decide) (fun K hK => ?_)
        refine goes_ Try.func8 (by kernel_rfl) rfl #[(tgV y)] (by rfl) rfl rfl (by (try simp only [List.map_toArray, List.map_cons, List.map_nil]); first | done | rfl) ?_
        refine (tame_ok y HO.out.2.kind _).mono ?_
        rintro e w' ⟨rfl, hd⟩
        refine ⟨_, rfl, ?_⟩
        have hSS := And.intro (hHeld.1.below hd) (hHeld.2.below hd)
        (try replace HZ8 := Lib.hid (blk_below HZ8.out hd))
        (try replace HZ9 := Lib.hid (blk_below HZ9.out hd))
        replace HT := Lib.hid (HT.out.below hd)
        replace HB := Lib.hid (chain2 HB.out hd)
        clear hd
        refine hK.out _ _ (hSS) (fun hHeld => ?_)
        clear hK K
        refine norm_ (a' := ?_) ?_ ?_
        rotate_left
        · show Act.put _ (some 24) _ = _
          simp (maxSteps := 4000000) only [Act.put, List.setIfInBounds_toArray, List.set_cons_zero, List.set_cons_succ, i64_w, i32_w]
          try rfl
        refine one_ (i := 5) (N := some 25) #[true, true, true, true, true, true, true, true, false, false] rfl rfl (one_of HT_.out (by kernel_rfl)) (by decide) (fun K hK => ?_)
        refine goes_ Try.func10 (by kernel_rfl) rfl #[(tgV (tameT y))] (by rfl) rfl rfl (by (try simp only [List.map_toArray, List.map_cons, List.map_nil]); first | done | rfl) ?_
        refine (of_ok (tameT y) _).mono ?_
        rintro e w' ⟨rfl, hd⟩
        refine ⟨_, rfl, ?_⟩
        have hSS := And.intro (hHeld.1.below hd) (hHeld.2.below hd)
        (try replace HZ8 := Lib.hid (blk_below HZ8.out hd))
        (try replace HZ9 := Lib.hid (blk_below HZ9.out hd))
        replace HT := Lib.hid (HT.out.below hd)
        replace HB := Lib.hid (chain2 HB.out hd)
        clear hd
        refine hK.out _ _ (hSS) (fun hHeld => ?_)
        clear hK K
        refine norm_ (a' := ?_) ?_ ?_
        rotate_left
        · show Act.put _ (some 25) _ = _
          simp (maxSteps := 4000000) only [Act.put, List.setIfInBounds_toArray, List.set_cons_zero, List.set_cons_succ, i64_w, i32_w]
          try rfl
        refine last_ (i := 8) (N := none) #[true, true, true, true, true, true, true, true, true, false] rfl rfl (one_of HT_.out (by kernel_rfl)) (by decide) (fun K hK => ?_)
        refine skip_ (w1 := ((((w'.setCell ⟨b8, 0, none⟩ (.int .u8 ((tameT x).kind : Int))).setCell ⟨b8, 1, none⟩ (.int .i64 (tameT x).log)).setCell ⟨b8, 2, none⟩ (.int .u64 ((tameT x).seq : Int))).setCell ⟨b8, 3, none⟩ (.int .i64 (tameT x).pos)).setCell ⟨b8, 4, none⟩ (.int .i64 (tameT x).len)) (by rfl) rfl ?_ ?_
        · (obtain ⟨y0, y1, y2, y3, y4⟩ := tg_cells HZ8.out; have f0 := fun i => pl_frozenT HZ8.out i; unfold tgV; go_simp)
        refine hK.out _ _ ?_
        clear hK K
        refine last_ (i := 9) (N := none) #[true, true, true, true, true, true, true, true, true, true] rfl rfl (one_of HT_.out (by kernel_rfl)) (by decide) (fun K hK => ?_)
        refine skip_ (w1 := (((((((((w'.setCell ⟨b8, 0, none⟩ (.int .u8 ((tameT x).kind : Int))).setCell ⟨b8, 1, none⟩ (.int .i64 (tameT x).log)).setCell ⟨b8, 2, none⟩ (.int .u64 ((tameT x).seq : Int))).setCell ⟨b8, 3, none⟩ (.int .i64 (tameT x).pos)).setCell ⟨b8, 4, none⟩ (.int .i64 (tameT x).len)).setCell ⟨b9, 0, none⟩ (.int .u8 ((tameT y).kind : Int))).setCell ⟨b9, 1, none⟩ (.int .i64 (tameT y).log)).setCell ⟨b9, 2, none⟩ (.int .u64 ((tameT y).seq : Int))).setCell ⟨b9, 3, none⟩ (.int .i64 (tameT y).pos)).setCell ⟨b9, 4, none⟩ (.int .i64 (tameT y).len)) (by rfl) rfl ?_ ?_
        · (obtain ⟨y0, y1, y2, y3, y4⟩ := tg_cells (off5T (tameT x) (by first | exact HNe.out | exact HNe.out.symm) HZ9.out); have f0 := fun i => pl_frozenT (off5T (tameT x) (by first | exact HNe.out | exact HNe.out.symm) HZ9.out) i; unfold tgV; go_simp)
        refine hK.out _ _ ?_
        clear hK K
        refine done_ (done_of HT_.out (by kernel_rfl)) ?_
        go_wp2_with fail
        go_meet
        case rel => exact ⟨b8, b9, rfl, rfl, off5T (tameT y) (by first | exact HNe.out | exact HNe.out.symm) (set5T HZ8.out (tameT x)), set5T (off5T (tameT x) (by first | exact HNe.out | exact HNe.out.symm) HZ9.out) (tameT y), tab5T (tameT y) HN9.out (tab5T (tameT x) HN8.out HT.out), below5T (tameT y) HG9.out (below5T (tameT x) HG8.out HB.out)⟩
    · refine value_ (v := (.pointer (some ⟨w'.heap.size, 0, none⟩))) (w1 := w'.alloc (.cells #[.int .u8 0, .int .i64 0, .int .u64 0, .int .i64 0, .int .i64 0] 37)) (by rfl) rfl ?_ ?_
      · (go_simp)
      have HZ9 := Lib.hid (heap_alloc_new w' (.cells #[.int .u8 0, .int .i64 0, .int .u64 0, .int .i64 0, .int .i64 0] 37))
      have hd := below_alloc (Below.refl w'.heap.size w') (.cells #[.int .u8 0, .int .i64 0, .int .u64 0, .int .i64 0, .int .i64 0] 37)
      have HG9 := Lib.hid HB.out.size
      have HN9 := Lib.hid (Nat.ne_of_lt HT.out.lt)
      (try have HNe := Lib.hid (Nat.ne_of_lt (blk_lt HZ8.out)))
      (try replace HZ8 := Lib.hid (blk_below HZ8.out hd))
      replace HT := Lib.hid (HT.out.below hd)
      replace HB := Lib.hid (chain2 HB.out hd)
      have hSS := And.intro (hHeld.1.below hd) (hHeld.2.below hd)
      clear hd
      (first | generalize w'.heap.size = b9 at HZ9 HG9 HN9 HNe ⊢ | generalize w'.heap.size = b9 at HZ9 HG9 HN9 ⊢)
      (first | generalize w'.alloc (.cells #[.int .u8 0, .int .i64 0, .int .u64 0, .int .i64 0, .int .i64 0] 37) = w' at HZ8 HZ9 HT HB hSS ⊢ | generalize w'.alloc (.cells #[.int .u8 0, .int .i64 0, .int .u64 0, .int .i64 0, .int .i64 0] 37) = w' at HZ9 HT HB hSS ⊢)
      refine hK.out _ _ (hSS) (fun hHeld => ?_)
      clear hK K
      refine norm_ (a' := ?_) ?_ ?_
      rotate_left
      · show Act.put _ (some 9) _ = _
        simp (maxSteps := 4000000) only [Act.put, List.setIfInBounds_toArray, List.set_cons_zero, List.set_cons_succ, i64_w, i32_w]
        try rfl
      refine two_ (i := 1) (j := 6) (Ni := some 21) (Nj := some 8) #[true, true, false, true, false, false, false, true, false, false] #[true, false, false, true, false, false, true, true, false, false] rfl rfl rfl rfl  (two_of HT_.out (by kernel_rfl)) (by decide) (by decide)  (fun K hK => ?_) (fun K hK => ?_) 
      · refine goes_ Try.func8 (by kernel_rfl) rfl #[(tgV x)] (by rfl) rfl rfl (by (try simp only [List.map_toArray, List.map_cons, List.map_nil]); first | done | rfl) ?_
        refine (tame_ok x HO.out.1.kind _).mono ?_
        rintro e w' ⟨rfl, hd⟩
        refine ⟨_, rfl, ?_⟩
        have hSS := And.intro (hHeld.1.below hd) (hHeld.2.below hd)
        (try replace HZ8 := Lib.hid (blk_below HZ8.out hd))
        (try replace HZ9 := Lib.hid (blk_below HZ9.out hd))
        replace HT := Lib.hid (HT.out.below hd)
        replace HB := Lib.hid (chain2 HB.out hd)
        clear hd
        refine hK.out _ _ (hSS) (fun hHeld => ?_)
        clear hK K
        refine norm_ (a' := ?_) ?_ ?_
        rotate_left
        · show Act.put _ (some 21) _ = _
          simp (maxSteps := 4000000) only [Act.put, List.setIfInBounds_toArray, List.set_cons_zero, List.set_cons_succ, i64_w, i32_w]
          try rfl
        refine two_ (i := 2) (j := 6) (Ni := some 22) (Nj := some 8) #[true, true, true, true, false, false, false, true, false, false] #[true, true, false, true, false, false, true, true, false, false] rfl rfl rfl rfl  (two_of HT_.out (by kernel_rfl)) (by decide) (by decide)  (fun K hK => ?_) (fun K hK => ?_) 
        · refine goes_ Try.func10 (by kernel_rfl) rfl #[(tgV (tameT x))] (by rfl) rfl rfl (by (try simp only [List.map_toArray, List.map_cons, List.map_nil]); first | done | rfl) ?_
          refine (of_ok (tameT x) _).mono ?_
          rintro e w' ⟨rfl, hd⟩
          refine ⟨_, rfl, ?_⟩
          have hSS := And.intro (hHeld.1.below hd) (hHeld.2.below hd)
          (try replace HZ8 := Lib.hid (blk_below HZ8.out hd))
          (try replace HZ9 := Lib.hid (blk_below HZ9.out hd))
          replace HT := Lib.hid (HT.out.below hd)
          replace HB := Lib.hid (chain2 HB.out hd)
          clear hd
          refine hK.out _ _ (hSS) (fun hHeld => ?_)
          clear hK K
          refine norm_ (a' := ?_) ?_ ?_
          rotate_left
          · show Act.put _ (some 22) _ = _
            simp (maxSteps := 4000000) only [Act.put, List.setIfInBounds_toArray, List.set_cons_zero, List.set_cons_succ, i64_w, i32_w]
            try rfl
          refine two_ (i := 4) (j := 6) (Ni := some 24) (Nj := some 8) #[true, true, true, true, true, false, false, true, false, false] #[true, true, true, true, false, false, true, true, false, false] rfl rfl rfl rfl  (two_of HT_.out (by kernel_rfl)) (by decide) (by decide)  (fun K hK => ?_) (fun K hK => ?_) 
          · refine goes_ Try.func8 (by kernel_rfl) rfl #[(tgV y)] (by rfl) rfl rfl (by (try simp only [List.map_toArray, List.map_cons, List.map_nil]); first | done | rfl) ?_
            refine (tame_ok y HO.out.2.kind _).mono ?_
            rintro e w' ⟨rfl, hd⟩
            refine ⟨_, rfl, ?_⟩
            have hSS := And.intro (hHeld.1.below hd) (hHeld.2.below hd)
            (try replace HZ8 := Lib.hid (blk_below HZ8.out hd))
            (try replace HZ9 := Lib.hid (blk_below HZ9.out hd))
            replace HT := Lib.hid (HT.out.below hd)
            replace HB := Lib.hid (chain2 HB.out hd)
            clear hd
            refine hK.out _ _ (hSS) (fun hHeld => ?_)
            clear hK K
            refine norm_ (a' := ?_) ?_ ?_
            rotate_left
            · show Act.put _ (some 24) _ = _
              simp (maxSteps := 4000000) only [Act.put, List.setIfInBounds_toArray, List.set_cons_zero, List.set_cons_succ, i64_w, i32_w]
              try rfl
            refine two_ (i := 5) (j := 6) (Ni := some 25) (Nj := some 8) #[true, true, true, true, true, true, false, true, false, false] #[true, true, true, true, true, false, true, true, false, false] rfl rfl rfl rfl  (two_of HT_.out (by kernel_rfl)) (by decide) (by decide)  (fun K hK => ?_) (fun K hK => ?_) 
            · refine goes_ Try.func10 (by kernel_rfl) rfl #[(tgV (tameT y))] (by rfl) rfl rfl (by (try simp only [List.map_toArray, List.map_cons, List.map_nil]); first | done | rfl) ?_
              refine (of_ok (tameT y) _).mono ?_
              rintro e w' ⟨rfl, hd⟩
              refine ⟨_, rfl, ?_⟩
              have hSS := And.intro (hHeld.1.below hd) (hHeld.2.below hd)
              (try replace HZ8 := Lib.hid (blk_below HZ8.out hd))
              (try replace HZ9 := Lib.hid (blk_below HZ9.out hd))
              replace HT := Lib.hid (HT.out.below hd)
              replace HB := Lib.hid (chain2 HB.out hd)
              clear hd
              refine hK.out _ _ (hSS) (fun hHeld => ?_)
              clear hK K
              refine norm_ (a' := ?_) ?_ ?_
              rotate_left
              · show Act.put _ (some 25) _ = _
                simp (maxSteps := 4000000) only [Act.put, List.setIfInBounds_toArray, List.set_cons_zero, List.set_cons_succ, i64_w, i32_w]
                try rfl
              refine one_ (i := 6) (N := some 8) #[true, true, true, true, true, true, true, true, false, false] rfl rfl (one_of HT_.out (by kernel_rfl)) (by decide) (fun K hK => ?_)
              refine value_ (v := (.pointer (some ⟨w'.heap.size, 0, none⟩))) (w1 := w'.alloc (.cells #[.int .u8 0, .int .i64 0, .int .u64 0, .int .i64 0, .int .i64 0] 37)) (by rfl) rfl ?_ ?_
              · (go_simp)
              have HZ8 := Lib.hid (heap_alloc_new w' (.cells #[.int .u8 0, .int .i64 0, .int .u64 0, .int .i64 0, .int .i64 0] 37))
              have hd := below_alloc (Below.refl w'.heap.size w') (.cells #[.int .u8 0, .int .i64 0, .int .u64 0, .int .i64 0, .int .i64 0] 37)
              have HG8 := Lib.hid HB.out.size
              have HN8 := Lib.hid (Nat.ne_of_lt HT.out.lt)
              (try have HNe := Lib.hid (Nat.ne_of_lt (blk_lt HZ9.out)))
              (try replace HZ9 := Lib.hid (blk_below HZ9.out hd))
              replace HT := Lib.hid (HT.out.below hd)
              replace HB := Lib.hid (chain2 HB.out hd)
              have hSS := And.intro (hHeld.1.below hd) (hHeld.2.below hd)
              clear hd
              (first | generalize w'.heap.size = b8 at HZ8 HG8 HN8 HNe ⊢ | generalize w'.heap.size = b8 at HZ8 HG8 HN8 ⊢)
              (first | generalize w'.alloc (.cells #[.int .u8 0, .int .i64 0, .int .u64 0, .int .i64 0, .int .i64 0] 37) = w' at HZ8 HZ9 HT HB hSS ⊢ | generalize w'.alloc (.cells #[.int .u8 0, .int .i64 0, .int .u64 0, .int .i64 0, .int .i64 0] 37) = w' at HZ8 HT HB hSS ⊢)
              refine hK.out _ _ (hSS) (fun hHeld => ?_)
              clear hK K
              refine norm_ (a' := ?_) ?_ ?_
              rotate_left
              · show Act.put _ (some 8) _ = _
                simp (maxSteps := 4000000) only [Act.put, List.setIfInBounds_toArray, List.set_cons_zero, List.set_cons_succ, i64_w, i32_w]
                try rfl
              refine last_ (i := 8) (N := none) #[true, true, true, true, true, true, true, true, true, false] rfl rfl (one_of HT_.out (by kernel_rfl)) (by decide) (fun K hK => ?_)
              refine skip_ (w1 := ((((w'.setCell ⟨b8, 0, none⟩ (.int .u8 ((tameT x).kind : Int))).setCell ⟨b8, 1, none⟩ (.int .i64 (tameT x).log)).setCell ⟨b8, 2, none⟩ (.int .u64 ((tameT x).seq : Int))).setCell ⟨b8, 3, none⟩ (.int .i64 (tameT x).pos)).setCell ⟨b8, 4, none⟩ (.int .i64 (tameT x).len)) (by rfl) rfl ?_ ?_
              · (obtain ⟨y0, y1, y2, y3, y4⟩ := tg_cells HZ8.out; have f0 := fun i => pl_frozenT HZ8.out i; unfold tgV; go_simp)
              refine hK.out _ _ ?_
              clear hK K
              refine last_ (i := 9) (N := none) #[true, true, true, true, true, true, true, true, true, true] rfl rfl (one_of HT_.out (by kernel_rfl)) (by decide) (fun K hK => ?_)
              refine skip_ (w1 := (((((((((w'.setCell ⟨b8, 0, none⟩ (.int .u8 ((tameT x).kind : Int))).setCell ⟨b8, 1, none⟩ (.int .i64 (tameT x).log)).setCell ⟨b8, 2, none⟩ (.int .u64 ((tameT x).seq : Int))).setCell ⟨b8, 3, none⟩ (.int .i64 (tameT x).pos)).setCell ⟨b8, 4, none⟩ (.int .i64 (tameT x).len)).setCell ⟨b9, 0, none⟩ (.int .u8 ((tameT y).kind : Int))).setCell ⟨b9, 1, none⟩ (.int .i64 (tameT y).log)).setCell ⟨b9, 2, none⟩ (.int .u64 ((tameT y).seq : Int))).setCell ⟨b9, 3, none⟩ (.int .i64 (tameT y).pos)).setCell ⟨b9, 4, none⟩ (.int .i64 (tameT y).len)) (by rfl) rfl ?_ ?_
              · (obtain ⟨y0, y1, y2, y3, y4⟩ := tg_cells (off5T (tameT x) (by first | exact HNe.out | exact HNe.out.symm) HZ9.out); have f0 := fun i => pl_frozenT (off5T (tameT x) (by first | exact HNe.out | exact HNe.out.symm) HZ9.out) i; unfold tgV; go_simp)
              refine hK.out _ _ ?_
              clear hK K
              refine done_ (done_of HT_.out (by kernel_rfl)) ?_
              go_wp2_with fail
              go_meet
              case rel => exact ⟨b8, b9, rfl, rfl, off5T (tameT y) (by first | exact HNe.out | exact HNe.out.symm) (set5T HZ8.out (tameT x)), set5T (off5T (tameT x) (by first | exact HNe.out | exact HNe.out.symm) HZ9.out) (tameT y), tab5T (tameT y) HN9.out (tab5T (tameT x) HN8.out HT.out), below5T (tameT y) HG9.out (below5T (tameT x) HG8.out HB.out)⟩
            · refine value_ (v := (.pointer (some ⟨w'.heap.size, 0, none⟩))) (w1 := w'.alloc (.cells #[.int .u8 0, .int .i64 0, .int .u64 0, .int .i64 0, .int .i64 0] 37)) (by rfl) rfl ?_ ?_
              · (go_simp)
              have HZ8 := Lib.hid (heap_alloc_new w' (.cells #[.int .u8 0, .int .i64 0, .int .u64 0, .int .i64 0, .int .i64 0] 37))
              have hd := below_alloc (Below.refl w'.heap.size w') (.cells #[.int .u8 0, .int .i64 0, .int .u64 0, .int .i64 0, .int .i64 0] 37)
              have HG8 := Lib.hid HB.out.size
              have HN8 := Lib.hid (Nat.ne_of_lt HT.out.lt)
              (try have HNe := Lib.hid (Nat.ne_of_lt (blk_lt HZ9.out)))
              (try replace HZ9 := Lib.hid (blk_below HZ9.out hd))
              replace HT := Lib.hid (HT.out.below hd)
              replace HB := Lib.hid (chain2 HB.out hd)
              have hSS := And.intro (hHeld.1.below hd) (hHeld.2.below hd)
              clear hd
              (first | generalize w'.heap.size = b8 at HZ8 HG8 HN8 HNe ⊢ | generalize w'.heap.size = b8 at HZ8 HG8 HN8 ⊢)
              (first | generalize w'.alloc (.cells #[.int .u8 0, .int .i64 0, .int .u64 0, .int .i64 0, .int .i64 0] 37) = w' at HZ8 HZ9 HT HB hSS ⊢ | generalize w'.alloc (.cells #[.int .u8 0, .int .i64 0, .int .u64 0, .int .i64 0, .int .i64 0] 37) = w' at HZ8 HT HB hSS ⊢)
              refine hK.out _ _ (hSS) (fun hHeld => ?_)
              clear hK K
              refine norm_ (a' := ?_) ?_ ?_
              rotate_left
              · show Act.put _ (some 8) _ = _
                simp (maxSteps := 4000000) only [Act.put, List.setIfInBounds_toArray, List.set_cons_zero, List.set_cons_succ, i64_w, i32_w]
                try rfl
              refine one_ (i := 5) (N := some 25) #[true, true, true, true, true, true, true, true, false, false] rfl rfl (one_of HT_.out (by kernel_rfl)) (by decide) (fun K hK => ?_)
              refine goes_ Try.func10 (by kernel_rfl) rfl #[(tgV (tameT y))] (by rfl) rfl rfl (by (try simp only [List.map_toArray, List.map_cons, List.map_nil]); first | done | rfl) ?_
              refine (of_ok (tameT y) _).mono ?_
              rintro e w' ⟨rfl, hd⟩
              refine ⟨_, rfl, ?_⟩
              have hSS := And.intro (hHeld.1.below hd) (hHeld.2.below hd)
              (try replace HZ8 := Lib.hid (blk_below HZ8.out hd))
              (try replace HZ9 := Lib.hid (blk_below HZ9.out hd))
              replace HT := Lib.hid (HT.out.below hd)
              replace HB := Lib.hid (chain2 HB.out hd)
              clear hd
              refine hK.out _ _ (hSS) (fun hHeld => ?_)
              clear hK K
              refine norm_ (a' := ?_) ?_ ?_
              rotate_left
              · show Act.put _ (some 25) _ = _
                simp (maxSteps := 4000000) only [Act.put, List.setIfInBounds_toArray, List.set_cons_zero, List.set_cons_succ, i64_w, i32_w]
                try rfl
              refine last_ (i := 8) (N := none) #[true, true, true, true, true, true, true, true, true, false] rfl rfl (one_of HT_.out (by kernel_rfl)) (by decide) (fun K hK => ?_)
              refine skip_ (w1 := ((((w'.setCell ⟨b8, 0, none⟩ (.int .u8 ((tameT x).kind : Int))).setCell ⟨b8, 1, none⟩ (.int .i64 (tameT x).log)).setCell ⟨b8, 2, none⟩ (.int .u64 ((tameT x).seq : Int))).setCell ⟨b8, 3, none⟩ (.int .i64 (tameT x).pos)).setCell ⟨b8, 4, none⟩ (.int .i64 (tameT x).len)) (by rfl) rfl ?_ ?_
              · (obtain ⟨y0, y1, y2, y3, y4⟩ := tg_cells HZ8.out; have f0 := fun i => pl_frozenT HZ8.out i; unfold tgV; go_simp)
              refine hK.out _ _ ?_
              clear hK K
              refine last_ (i := 9) (N := none) #[true, true, true, true, true, true, true, true, true, true] rfl rfl (one_of HT_.out (by kernel_rfl)) (by decide) (fun K hK => ?_)
              refine skip_ (w1 := (((((((((w'.setCell ⟨b8, 0, none⟩ (.int .u8 ((tameT x).kind : Int))).setCell ⟨b8, 1, none⟩ (.int .i64 (tameT x).log)).setCell ⟨b8, 2, none⟩ (.int .u64 ((tameT x).seq : Int))).setCell ⟨b8, 3, none⟩ (.int .i64 (tameT x).pos)).setCell ⟨b8, 4, none⟩ (.int .i64 (tameT x).len)).setCell ⟨b9, 0, none⟩ (.int .u8 ((tameT y).kind : Int))).setCell ⟨b9, 1, none⟩ (.int .i64 (tameT y).log)).setCell ⟨b9, 2, none⟩ (.int .u64 ((tameT y).seq : Int))).setCell ⟨b9, 3, none⟩ (.int .i64 (tameT y).pos)).setCell ⟨b9, 4, none⟩ (.int .i64 (tameT y).len)) (by rfl) rfl ?_ ?_
              · (obtain ⟨y0, y1, y2, y3, y4⟩ := tg_cells (off5T (tameT x) (by first | exact HNe.out | exact HNe.out.symm) HZ9.out); have f0 := fun i => pl_frozenT (off5T (tameT x) (by first | exact HNe.out | exact HNe.out.symm) HZ9.out) i; unfold tgV; go_simp)
              refine hK.out _ _ ?_
              clear hK K
              refine done_ (done_of HT_.out (by kernel_rfl)) ?_
              go_wp2_with fail
              go_meet
              case rel => exact ⟨b8, b9, rfl, rfl, off5T (tameT y) (by first | exact HNe.out | exact HNe.out.symm) (set5T HZ8.out (tameT x)), set5T (off5T (tameT x) (by first | exact HNe.out | exact HNe.out.symm) HZ9.out) (tameT y), tab5T (tameT y) HN9.out (tab5T (tameT x) HN8.out HT.out), below5T (tameT y) HG9.out (below5T (tameT x) HG8.out HB.out)⟩
          · refine value_ (v := (.pointer (some ⟨w'.heap.size, 0, none⟩))) (w1 := w'.alloc (.cells #[.int .u8 0, .int .i64 0, .int .u64 0, .int .i64 0, .int .i64 0] 37)) (by rfl) rfl ?_ ?_
            · (go_simp)
            have HZ8 := Lib.hid (heap_alloc_new w' (.cells #[.int .u8 0, .int .i64 0, .int .u64 0, .int .i64 0, .int .i64 0] 37))
            have hd := below_alloc (Below.refl w'.heap.size w') (.cells #[.int .u8 0, .int .i64 0, .int .u64 0, .int .i64 0, .int .i64 0] 37)
            have HG8 := Lib.hid HB.out.size
            have HN8 := Lib.hid (Nat.ne_of_lt HT.out.lt)
            (try have HNe := Lib.hid (Nat.ne_of_lt (blk_lt HZ9.out)))
            (try replace HZ9 := Lib.hid (blk_below HZ9.out hd))
            replace HT := Lib.hid (HT.out.below hd)
            replace HB := Lib.hid (chain2 HB.out hd)
            have hSS := And.intro (hHeld.1.below hd) (hHeld.2.below hd)
            clear hd
            (first | generalize w'.heap.size = b8 at HZ8 HG8 HN8 HNe ⊢ | generalize w'.heap.size = b8 at HZ8 HG8 HN8 ⊢)
            (first | generalize w'.alloc (.cells #[.int .u8 0, .int .i64 0, .int .u64 0, .int .i64 0, .int .i64 0] 37) = w' at HZ8 HZ9 HT HB hSS ⊢ | generalize w'.alloc (.cells #[.int .u8 0, .int .i64 0, .int .u64 0, .int .i64 0, .int .i64 0] 37) = w' at HZ8 HT HB hSS ⊢)
            refine hK.out _ _ (hSS) (fun hHeld => ?_)
            clear hK K
            refine norm_ (a' := ?_) ?_ ?_
            rotate_left
            · show Act.put _ (some 8) _ = _
              simp (maxSteps := 4000000) only [Act.put, List.setIfInBounds_toArray, List.set_cons_zero, List.set_cons_succ, i64_w, i32_w]
              try rfl
            refine one_ (i := 4) (N := some 24) #[true, true, true, true, true, false, true, true, false, false] rfl rfl (one_of HT_.out (by kernel_rfl)) (by decide) (fun K hK => ?_)
            refine goes_ Try.func8 (by kernel_rfl) rfl #[(tgV y)] (by rfl) rfl rfl (by (try simp only [List.map_toArray, List.map_cons, List.map_nil]); first | done | rfl) ?_
            refine (tame_ok y HO.out.2.kind _).mono ?_
            rintro e w' ⟨rfl, hd⟩
            refine ⟨_, rfl, ?_⟩
            have hSS := And.intro (hHeld.1.below hd) (hHeld.2.below hd)
            (try replace HZ8 := Lib.hid (blk_below HZ8.out hd))
            (try replace HZ9 := Lib.hid (blk_below HZ9.out hd))
            replace HT := Lib.hid (HT.out.below hd)
            replace HB := Lib.hid (chain2 HB.out hd)
            clear hd
            refine hK.out _ _ (hSS) (fun hHeld => ?_)
            clear hK K
            refine norm_ (a' := ?_) ?_ ?_
            rotate_left
            · show Act.put _ (some 24) _ = _
              simp (maxSteps := 4000000) only [Act.put, List.setIfInBounds_toArray, List.set_cons_zero, List.set_cons_succ, i64_w, i32_w]
              try rfl
            refine one_ (i := 5) (N := some 25) #[true, true, true, true, true, true, true, true, false, false] rfl rfl (one_of HT_.out (by kernel_rfl)) (by decide) (fun K hK => ?_)
            refine goes_ Try.func10 (by kernel_rfl) rfl #[(tgV (tameT y))] (by rfl) rfl rfl (by (try simp only [List.map_toArray, List.map_cons, List.map_nil]); first | done | rfl) ?_
            refine (of_ok (tameT y) _).mono ?_
            rintro e w' ⟨rfl, hd⟩
            refine ⟨_, rfl, ?_⟩
            have hSS := And.intro (hHeld.1.below hd) (hHeld.2.below hd)
            (try replace HZ8 := Lib.hid (blk_below HZ8.out hd))
            (try replace HZ9 := Lib.hid (blk_below HZ9.out hd))
            replace HT := Lib.hid (HT.out.below hd)
            replace HB := Lib.hid (chain2 HB.out hd)
            clear hd
            refine hK.out _ _ (hSS) (fun hHeld => ?_)
            clear hK K
            refine norm_ (a' := ?_) ?_ ?_
            rotate_left
            · show Act.put _ (some 25) _ = _
              simp (maxSteps := 4000000) only [Act.put, List.setIfInBounds_toArray, List.set_cons_zero, List.set_cons_succ, i64_w, i32_w]
              try rfl
            refine last_ (i := 8) (N := none) #[true, true, true, true, true, true, true, true, true, false] rfl rfl (one_of HT_.out (by kernel_rfl)) (by decide) (fun K hK => ?_)
            refine skip_ (w1 := ((((w'.setCell ⟨b8, 0, none⟩ (.int .u8 ((tameT x).kind : Int))).setCell ⟨b8, 1, none⟩ (.int .i64 (tameT x).log)).setCell ⟨b8, 2, none⟩ (.int .u64 ((tameT x).seq : Int))).setCell ⟨b8, 3, none⟩ (.int .i64 (tameT x).pos)).setCell ⟨b8, 4, none⟩ (.int .i64 (tameT x).len)) (by rfl) rfl ?_ ?_
            · (obtain ⟨y0, y1, y2, y3, y4⟩ := tg_cells HZ8.out; have f0 := fun i => pl_frozenT HZ8.out i; unfold tgV; go_simp)
            refine hK.out _ _ ?_
            clear hK K
            refine last_ (i := 9) (N := none) #[true, true, true, true, true, true, true, true, true, true] rfl rfl (one_of HT_.out (by kernel_rfl)) (by decide) (fun K hK => ?_)
            refine skip_ (w1 := (((((((((w'.setCell ⟨b8, 0, none⟩ (.int .u8 ((tameT x).kind : Int))).setCell ⟨b8, 1, none⟩ (.int .i64 (tameT x).log)).setCell ⟨b8, 2, none⟩ (.int .u64 ((tameT x).seq : Int))).setCell ⟨b8, 3, none⟩ (.int .i64 (tameT x).pos)).setCell ⟨b8, 4, none⟩ (.int .i64 (tameT x).len)).setCell ⟨b9, 0, none⟩ (.int .u8 ((tameT y).kind : Int))).setCell ⟨b9, 1, none⟩ (.int .i64 (tameT y).log)).setCell ⟨b9, 2, none⟩ (.int .u64 ((tameT y).seq : Int))).setCell ⟨b9, 3, none⟩ (.int .i64 (tameT y).pos)).setCell ⟨b9, 4, none⟩ (.int .i64 (tameT y).len)) (by rfl) rfl ?_ ?_
            · (obtain ⟨y0, y1, y2, y3, y4⟩ := tg_cells (off5T (tameT x) (by first | exact HNe.out | exact HNe.out.symm) HZ9.out); have f0 := fun i => pl_frozenT (off5T (tameT x) (by first | exact HNe.out | exact HNe.out.symm) HZ9.out) i; unfold tgV; go_simp)
            refine hK.out _ _ ?_
            clear hK K
            refine done_ (done_of HT_.out (by kernel_rfl)) ?_
            go_wp2_with fail
            go_meet
            case rel => exact ⟨b8, b9, rfl, rfl, off5T (tameT y) (by first | exact HNe.out | exact HNe.out.symm) (set5T HZ8.out (tameT x)), set5T (off5T (tameT x) (by first | exact HNe.out | exact HNe.out.symm) HZ9.out) (tameT y), tab5T (tameT y) HN9.out (tab5T (tameT x) HN8.out HT.out), below5T (tameT y) HG9.out (below5T (tameT x) HG8.out HB.out)⟩
        · refine value_ (v := (.pointer (some ⟨w'.heap.size, 0, none⟩))) (w1 := w'.alloc (.cells #[.int .u8 0, .int .i64 0, .int .u64 0, .int .i64 0, .int .i64 0] 37)) (by rfl) rfl ?_ ?_
          · (go_simp)
          have HZ8 := Lib.hid (heap_alloc_new w' (.cells #[.int .u8 0, .int .i64 0, .int .u64 0, .int .i64 0, .int .i64 0] 37))
          have hd := below_alloc (Below.refl w'.heap.size w') (.cells #[.int .u8 0, .int .i64 0, .int .u64 0, .int .i64 0, .int .i64 0] 37)
          have HG8 := Lib.hid HB.out.size
          have HN8 := Lib.hid (Nat.ne_of_lt HT.out.lt)
          (try have HNe := Lib.hid (Nat.ne_of_lt (blk_lt HZ9.out)))
          (try replace HZ9 := Lib.hid (blk_below HZ9.out hd))
          replace HT := Lib.hid (HT.out.below hd)
          replace HB := Lib.hid (chain2 HB.out hd)
          have hSS := And.intro (hHeld.1.below hd) (hHeld.2.below hd)
          clear hd
          (first | generalize w'.heap.size = b8 at HZ8 HG8 HN8 HNe ⊢ | generalize w'.heap.size = b8 at HZ8 HG8 HN8 ⊢)
          (first | generalize w'.alloc (.cells #[.int .u8 0, .int .i64 0, .int .u64 0, .int .i64 0, .int .i64 0] 37) = w' at HZ8 HZ9 HT HB hSS ⊢ | generalize w'.alloc (.cells #[.int .u8 0, .int .i64 0, .int .u64 0, .int .i64 0, .int .i64 0] 37) = w' at HZ8 HT HB hSS ⊢)
          refine hK.out _ _ (hSS) (fun hHeld => ?_)
          clear hK K
          refine norm_ (a' := ?_) ?_ ?_
          rotate_left
          · show Act.put _ (some 8) _ = _
            simp (maxSteps := 4000000) only [Act.put, List.setIfInBounds_toArray, List.set_cons_zero, List.set_cons_succ, i64_w, i32_w]
            try rfl
          refine one_ (i := 2) (N := some 22) #[true, true, true, true, false, false, true, true, false, false] rfl rfl (one_of HT_.out (by kernel_rfl)) (by decide) (fun K hK => ?_)
          refine goes_ Try.func10 (by kernel_rfl) rfl #[(tgV (tameT x))] (by rfl) rfl rfl (by (try simp only [List.map_toArray, List.map_cons, List.map_nil]); first | done | rfl) ?_
          refine (of_ok (tameT x) _).mono ?_
          rintro e w' ⟨rfl, hd⟩
          refine ⟨_, rfl, ?_⟩
          have hSS := And.intro (hHeld.1.below hd) (hHeld.2.below hd)
          (try replace HZ8 := Lib.hid (blk_below HZ8.out hd))
          (try replace HZ9 := Lib.hid (blk_below HZ9.out hd))
          replace HT := Lib.hid (HT.out.below hd)
          replace HB := Lib.hid (chain2 HB.out hd)
          clear hd
          refine hK.out _ _ (hSS) (fun hHeld => ?_)
          clear hK K
          refine norm_ (a' := ?_) ?_ ?_
          rotate_left
          · show Act.put _ (some 22) _ = _
            simp (maxSteps := 4000000) only [Act.put, List.setIfInBounds_toArray, List.set_cons_zero, List.set_cons_succ, i64_w, i32_w]
            try rfl
          refine one_ (i := 4) (N := some 24) #[true, true, true, true, true, false, true, true, false, false] rfl rfl (one_of HT_.out (by kernel_rfl)) (by decide) (fun K hK => ?_)
          refine goes_ Try.func8 (by kernel_rfl) rfl #[(tgV y)] (by rfl) rfl rfl (by (try simp only [List.map_toArray, List.map_cons, List.map_nil]); first | done | rfl) ?_
          refine (tame_ok y HO.out.2.kind _).mono ?_
          rintro e w' ⟨rfl, hd⟩
          refine ⟨_, rfl, ?_⟩
          have hSS := And.intro (hHeld.1.below hd) (hHeld.2.below hd)
          (try replace HZ8 := Lib.hid (blk_below HZ8.out hd))
          (try replace HZ9 := Lib.hid (blk_below HZ9.out hd))
          replace HT := Lib.hid (HT.out.below hd)
          replace HB := Lib.hid (chain2 HB.out hd)
          clear hd
          refine hK.out _ _ (hSS) (fun hHeld => ?_)
          clear hK K
          refine norm_ (a' := ?_) ?_ ?_
          rotate_left
          · show Act.put _ (some 24) _ = _
            simp (maxSteps := 4000000) only [Act.put, List.setIfInBounds_toArray, List.set_cons_zero, List.set_cons_succ, i64_w, i32_w]
            try rfl
          refine one_ (i := 5) (N := some 25) #[true, true, true, true, true, true, true, true, false, false] rfl rfl (one_of HT_.out (by kernel_rfl)) (by decide) (fun K hK => ?_)
          refine goes_ Try.func10 (by kernel_rfl) rfl #[(tgV (tameT y))] (by rfl) rfl rfl (by (try simp only [List.map_toArray, List.map_cons, List.map_nil]); first | done | rfl) ?_
          refine (of_ok (tameT y) _).mono ?_
          rintro e w' ⟨rfl, hd⟩
          refine ⟨_, rfl, ?_⟩
          have hSS := And.intro (hHeld.1.below hd) (hHeld.2.below hd)
          (try replace HZ8 := Lib.hid (blk_below HZ8.out hd))
          (try replace HZ9 := Lib.hid (blk_below HZ9.out hd))
          replace HT := Lib.hid (HT.out.below hd)
          replace HB := Lib.hid (chain2 HB.out hd)
          clear hd
          refine hK.out _ _ (hSS) (fun hHeld => ?_)
          clear hK K
          refine norm_ (a' := ?_) ?_ ?_
          rotate_left
          · show Act.put _ (some 25) _ = _
            simp (maxSteps := 4000000) only [Act.put, List.setIfInBounds_toArray, List.set_cons_zero, List.set_cons_succ, i64_w, i32_w]
            try rfl
          refine last_ (i := 8) (N := none) #[true, true, true, true, true, true, true, true, true, false] rfl rfl (one_of HT_.out (by kernel_rfl)) (by decide) (fun K hK => ?_)
          refine skip_ (w1 := ((((w'.setCell ⟨b8, 0, none⟩ (.int .u8 ((tameT x).kind : Int))).setCell ⟨b8, 1, none⟩ (.int .i64 (tameT x).log)).setCell ⟨b8, 2, none⟩ (.int .u64 ((tameT x).seq : Int))).setCell ⟨b8, 3, none⟩ (.int .i64 (tameT x).pos)).setCell ⟨b8, 4, none⟩ (.int .i64 (tameT x).len)) (by rfl) rfl ?_ ?_
          · (obtain ⟨y0, y1, y2, y3, y4⟩ := tg_cells HZ8.out; have f0 := fun i => pl_frozenT HZ8.out i; unfold tgV; go_simp)
          refine hK.out _ _ ?_
          clear hK K
          refine last_ (i := 9) (N := none) #[true, true, true, true, true, true, true, true, true, true] rfl rfl (one_of HT_.out (by kernel_rfl)) (by decide) (fun K hK => ?_)
          refine skip_ (w1 := (((((((((w'.setCell ⟨b8, 0, none⟩ (.int .u8 ((tameT x).kind : Int))).setCell ⟨b8, 1, none⟩ (.int .i64 (tameT x).log)).setCell ⟨b8, 2, none⟩ (.int .u64 ((tameT x).seq : Int))).setCell ⟨b8, 3, none⟩ (.int .i64 (tameT x).pos)).setCell ⟨b8, 4, none⟩ (.int .i64 (tameT x).len)).setCell ⟨b9, 0, none⟩ (.int .u8 ((tameT y).kind : Int))).setCell ⟨b9, 1, none⟩ (.int .i64 (tameT y).log)).setCell ⟨b9, 2, none⟩ (.int .u64 ((tameT y).seq : Int))).setCell ⟨b9, 3, none⟩ (.int .i64 (tameT y).pos)).setCell ⟨b9, 4, none⟩ (.int .i64 (tameT y).len)) (by rfl) rfl ?_ ?_
          · (obtain ⟨y0, y1, y2, y3, y4⟩ := tg_cells (off5T (tameT x) (by first | exact HNe.out | exact HNe.out.symm) HZ9.out); have f0 := fun i => pl_frozenT (off5T (tameT x) (by first | exact HNe.out | exact HNe.out.symm) HZ9.out) i; unfold tgV; go_simp)
          refine hK.out _ _ ?_
          clear hK K
          refine done_ (done_of HT_.out (by kernel_rfl)) ?_
          go_wp2_with fail
          go_meet
          case rel => exact ⟨b8, b9, rfl, rfl, off5T (tameT y) (by first | exact HNe.out | exact HNe.out.symm) (set5T HZ8.out (tameT x)), set5T (off5T (tameT x) (by first | exact HNe.out | exact HNe.out.symm) HZ9.out) (tameT y), tab5T (tameT y) HN9.out (tab5T (tameT x) HN8.out HT.out), below5T (tameT y) HG9.out (below5T (tameT x) HG8.out HB.out)⟩
      · refine value_ (v := (.pointer (some ⟨w'.heap.size, 0, none⟩))) (w1 := w'.alloc (.cells #[.int .u8 0, .int .i64 0, .int .u64 0, .int .i64 0, .int .i64 0] 37)) (by rfl) rfl ?_ ?_
        · (go_simp)
        have HZ8 := Lib.hid (heap_alloc_new w' (.cells #[.int .u8 0, .int .i64 0, .int .u64 0, .int .i64 0, .int .i64 0] 37))
        have hd := below_alloc (Below.refl w'.heap.size w') (.cells #[.int .u8 0, .int .i64 0, .int .u64 0, .int .i64 0, .int .i64 0] 37)
        have HG8 := Lib.hid HB.out.size
        have HN8 := Lib.hid (Nat.ne_of_lt HT.out.lt)
        (try have HNe := Lib.hid (Nat.ne_of_lt (blk_lt HZ9.out)))
        (try replace HZ9 := Lib.hid (blk_below HZ9.out hd))
        replace HT := Lib.hid (HT.out.below hd)
        replace HB := Lib.hid (chain2 HB.out hd)
        have hSS := And.intro (hHeld.1.below hd) (hHeld.2.below hd)
        clear hd
        (first | generalize w'.heap.size = b8 at HZ8 HG8 HN8 HNe ⊢ | generalize w'.heap.size = b8 at HZ8 HG8 HN8 ⊢)
        (first | generalize w'.alloc (.cells #[.int .u8 0, .int .i64 0, .int .u64 0, .int .i64 0, .int .i64 0] 37) = w' at HZ8 HZ9 HT HB hSS ⊢ | generalize w'.alloc (.cells #[.int .u8 0, .int .i64 0, .int .u64 0, .int .i64 0, .int .i64 0] 37) = w' at HZ8 HT HB hSS ⊢)
        refine hK.out _ _ (hSS) (fun hHeld => ?_)
        clear hK K
        refine norm_ (a' := ?_) ?_ ?_
        rotate_left
        · show Act.put _ (some 8) _ = _
          simp (maxSteps := 4000000) only [Act.put, List.setIfInBounds_toArray, List.set_cons_zero, List.set_cons_succ, i64_w, i32_w]
          try rfl
        refine one_ (i := 1) (N := some 21) #[true, true, false, true, false, false, true, true, false, false] rfl rfl (one_of HT_.out (by kernel_rfl)) (by decide) (fun K hK => ?_)
        refine goes_ Try.func8 (by kernel_rfl) rfl #[(tgV x)] (by rfl) rfl rfl (by (try simp only [List.map_toArray, List.map_cons, List.map_nil]); first | done | rfl) ?_
        refine (tame_ok x HO.out.1.kind _).mono ?_
        rintro e w' ⟨rfl, hd⟩
        refine ⟨_, rfl, ?_⟩
        have hSS := And.intro (hHeld.1.below hd) (hHeld.2.below hd)
        (try replace HZ8 := Lib.hid (blk_below HZ8.out hd))
        (try replace HZ9 := Lib.hid (blk_below HZ9.out hd))
        replace HT := Lib.hid (HT.out.below hd)
        replace HB := Lib.hid (chain2 HB.out hd)
        clear hd
        refine hK.out _ _ (hSS) (fun hHeld => ?_)
        clear hK K
        refine norm_ (a' := ?_) ?_ ?_
        rotate_left
        · show Act.put _ (some 21) _ = _
          simp (maxSteps := 4000000) only [Act.put, List.setIfInBounds_toArray, List.set_cons_zero, List.set_cons_succ, i64_w, i32_w]
          try rfl
        refine one_ (i := 2) (N := some 22) #[true, true, true, true, false, false, true, true, false, false] rfl rfl (one_of HT_.out (by kernel_rfl)) (by decide) (fun K hK => ?_)
        refine goes_ Try.func10 (by kernel_rfl) rfl #[(tgV (tameT x))] (by rfl) rfl rfl (by (try simp only [List.map_toArray, List.map_cons, List.map_nil]); first | done | rfl) ?_
        refine (of_ok (tameT x) _).mono ?_
        rintro e w' ⟨rfl, hd⟩
        refine ⟨_, rfl, ?_⟩
        have hSS := And.intro (hHeld.1.below hd) (hHeld.2.below hd)
        (try replace HZ8 := Lib.hid (blk_below HZ8.out hd))
        (try replace HZ9 := Lib.hid (blk_below HZ9.out hd))
        replace HT := Lib.hid (HT.out.below hd)
        replace HB := Lib.hid (chain2 HB.out hd)
        clear hd
        refine hK.out _ _ (hSS) (fun hHeld => ?_)
        clear hK K
        refine norm_ (a' := ?_) ?_ ?_
        rotate_left
        · show Act.put _ (some 22) _ = _
          simp (maxSteps := 4000000) only [Act.put, List.setIfInBounds_toArray, List.set_cons_zero, List.set_cons_succ, i64_w, i32_w]
          try rfl
        refine one_ (i := 4) (N := some 24) #[true, true, true, true, true, false, true, true, false, false] rfl rfl (one_of HT_.out (by kernel_rfl)) (by decide) (fun K hK => ?_)
        refine goes_ Try.func8 (by kernel_rfl) rfl #[(tgV y)] (by rfl) rfl rfl (by (try simp only [List.map_toArray, List.map_cons, List.map_nil]); first | done | rfl) ?_
        refine (tame_ok y HO.out.2.kind _).mono ?_
        rintro e w' ⟨rfl, hd⟩
        refine ⟨_, rfl, ?_⟩
        have hSS := And.intro (hHeld.1.below hd) (hHeld.2.below hd)
        (try replace HZ8 := Lib.hid (blk_below HZ8.out hd))
        (try replace HZ9 := Lib.hid (blk_below HZ9.out hd))
        replace HT := Lib.hid (HT.out.below hd)
        replace HB := Lib.hid (chain2 HB.out hd)
        clear hd
        refine hK.out _ _ (hSS) (fun hHeld => ?_)
        clear hK K
        refine norm_ (a' := ?_) ?_ ?_
        rotate_left
        · show Act.put _ (some 24) _ = _
          simp (maxSteps := 4000000) only [Act.put, List.setIfInBounds_toArray, List.set_cons_zero, List.set_cons_succ, i64_w, i32_w]
          try rfl
        refine one_ (i := 5) (N := some 25) #[true, true, true, true, true, true, true, true, false, false] rfl rfl (one_of HT_.out (by kernel_rfl)) (by decide) (fun K hK => ?_)
        refine goes_ Try.func10 (by kernel_rfl) rfl #[(tgV (tameT y))] (by rfl) rfl rfl (by (try simp only [List.map_toArray, List.map_cons, List.map_nil]); first | done | rfl) ?_
        refine (of_ok (tameT y) _).mono ?_
        rintro e w' ⟨rfl, hd⟩
        refine ⟨_, rfl, ?_⟩
        have hSS := And.intro (hHeld.1.below hd) (hHeld.2.below hd)
        (try replace HZ8 := Lib.hid (blk_below HZ8.out hd))
        (try replace HZ9 := Lib.hid (blk_below HZ9.out hd))
        replace HT := Lib.hid (HT.out.below hd)
        replace HB := Lib.hid (chain2 HB.out hd)
        clear hd
        refine hK.out _ _ (hSS) (fun hHeld => ?_)
        clear hK K
        refine norm_ (a' := ?_) ?_ ?_
        rotate_left
        · show Act.put _ (some 25) _ = _
          simp (maxSteps := 4000000) only [Act.put, List.setIfInBounds_toArray, List.set_cons_zero, List.set_cons_succ, i64_w, i32_w]
          try rfl
        refine last_ (i := 8) (N := none) #[true, true, true, true, true, true, true, true, true, false] rfl rfl (one_of HT_.out (by kernel_rfl)) (by decide) (fun K hK => ?_)
        refine skip_ (w1 := ((((w'.setCell ⟨b8, 0, none⟩ (.int .u8 ((tameT x).kind : Int))).setCell ⟨b8, 1, none⟩ (.int .i64 (tameT x).log)).setCell ⟨b8, 2, none⟩ (.int .u64 ((tameT x).seq : Int))).setCell ⟨b8, 3, none⟩ (.int .i64 (tameT x).pos)).setCell ⟨b8, 4, none⟩ (.int .i64 (tameT x).len)) (by rfl) rfl ?_ ?_
        · (obtain ⟨y0, y1, y2, y3, y4⟩ := tg_cells HZ8.out; have f0 := fun i => pl_frozenT HZ8.out i; unfold tgV; go_simp)
        refine hK.out _ _ ?_
        clear hK K
        refine last_ (i := 9) (N := none) #[true, true, true, true, true, true, true, true, true, true] rfl rfl (one_of HT_.out (by kernel_rfl)) (by decide) (fun K hK => ?_)
        refine skip_ (w1 := (((((((((w'.setCell ⟨b8, 0, none⟩ (.int .u8 ((tameT x).kind : Int))).setCell ⟨b8, 1, none⟩ (.int .i64 (tameT x).log)).setCell ⟨b8, 2, none⟩ (.int .u64 ((tameT x).seq : Int))).setCell ⟨b8, 3, none⟩ (.int .i64 (tameT x).pos)).setCell ⟨b8, 4, none⟩ (.int .i64 (tameT x).len)).setCell ⟨b9, 0, none⟩ (.int .u8 ((tameT y).kind : Int))).setCell ⟨b9, 1, none⟩ (.int .i64 (tameT y).log)).setCell ⟨b9, 2, none⟩ (.int .u64 ((tameT y).seq : Int))).setCell ⟨b9, 3, none⟩ (.int .i64 (tameT y).pos)).setCell ⟨b9, 4, none⟩ (.int .i64 (tameT y).len)) (by rfl) rfl ?_ ?_
        · (obtain ⟨y0, y1, y2, y3, y4⟩ := tg_cells (off5T (tameT x) (by first | exact HNe.out | exact HNe.out.symm) HZ9.out); have f0 := fun i => pl_frozenT (off5T (tameT x) (by first | exact HNe.out | exact HNe.out.symm) HZ9.out) i; unfold tgV; go_simp)
        refine hK.out _ _ ?_
        clear hK K
        refine done_ (done_of HT_.out (by kernel_rfl)) ?_
        go_wp2_with fail
        go_meet
        case rel => exact ⟨b8, b9, rfl, rfl, off5T (tameT y) (by first | exact HNe.out | exact HNe.out.symm) (set5T HZ8.out (tameT x)), set5T (off5T (tameT x) (by first | exact HNe.out | exact HNe.out.symm) HZ9.out) (tameT y), tab5T (tameT y) HN9.out (tab5T (tameT x) HN8.out HT.out), below5T (tameT y) HG9.out (below5T (tameT x) HG8.out HB.out)⟩
  case rest =>
    obtain ⟨b8, b9, rfl, rfl, h1, h2, h3, h4⟩ := hcut
    have H8 := Lib.hid h1; clear h1
    have H9 := Lib.hid h2; clear h2
    have HT := Lib.hid h3; clear h3
    have HB := Lib.hid h4; clear h4
    have HRa := Lib.hid (And.intro (tame_right x) (show (tameT x).seq < 18446744073709551616 from HO.out.1.seq))
    have HRb := Lib.hid (And.intro (tame_right y) (show (tameT y).seq < 18446744073709551616 from HO.out.2.seq))
    generalize tameT x = ta at H8 HRa
    generalize tameT y = tb at H9 HRb
    have HInj := Lib.hid (frame_inj ta tb HRa.out.1 HRb.out.1 HRa.out.2 HRb.out.2 dd.data.toList)
    have HFa := Lib.hid (frame_ok gp ta HRa.out.2 dd (by have := HDd.out; omega))
    have HFb := Lib.hid (frame_ok gp tb HRb.out.2 dd (by have := HDd.out; omega))
    rw [show frV ta dd.data.toList = (frameT ta dd.data.toList, 0) from if_pos HRa.out.1] at HFa
    rw [show frV tb dd.data.toList = (frameT tb dd.data.toList, 0) from if_pos HRb.out.1] at HFb
    clear HRa HRb
    generalize frameT ta dd.data.toList = fa at HInj HFa
    generalize frameT tb dd.data.toList = fb at HInj HFb
    unfold tgV at HFa HFb
    obtain ⟨x0, x1, x2, x3, x4⟩ := tg_cells H8.out
    go_wp2_with fail
    refine (HFa.out wc HT.out).mono ?_
    rintro e w5 ⟨rfl, ht, hd⟩
    clear x0 x1 x2 x3 x4 HFa
    replace H8 := Lib.hid (H8.out.below hd)
    replace H9 := Lib.hid (H9.out.below hd)
    replace HT := Lib.hid ht; clear ht
    replace HB := Lib.hid (chain2 HB.out hd); clear hd
    try simp only
    obtain ⟨x0, x1, x2, x3, x4⟩ := tg_cells H9.out
    go_wp2_with fail
    refine (HFb.out w5 HT.out).mono ?_
    rintro e w6 ⟨rfl, ht, hd⟩
    clear x0 x1 x2 x3 x4 HFb
    replace H8 := Lib.hid (H8.out.below hd)
    replace H9 := Lib.hid (H9.out.below hd)
    replace HT := Lib.hid ht; clear ht
    replace HB := Lib.hid (chain2 HB.out hd); clear hd
    try simp only
    go_wp2_with fail
    refine (wakes_ok6 w6).mono ?_
    rintro e w7 ⟨rfl, hd⟩
    replace H8 := Lib.hid (H8.out.below hd)
    replace H9 := Lib.hid (H9.out.below hd)
    replace HB := Lib.hid (chain2 HB.out hd); clear hd HT
    obtain ⟨ka, la, sa, pa, na⟩ := ta
    obtain ⟨kb, lb, sb, pb, nb⟩ := tb
    try simp only at H8 H9
    obtain ⟨x0, x1, x2, x3, x4⟩ := tg_cells H8.out
    obtain ⟨y0, y1, y2, y3, y4⟩ := tg_cells H9.out
    by_cases hf : fa = fb
    · have he := HInj.out.1 hf
      simp only [Tg.mk.injEq] at he
      obtain ⟨rfl, rfl, rfl, rfl, rfl⟩ := he
      have hs1 : ((str fa).toList == (str fb).toList) = true := by rw [hf]; simp
      clear HInj hf
      generalize str fa = Sa at hs1 ⊢
      generalize str fb = Sb at hs1 ⊢
      go_wp2
      go_ret
      exact ⟨rfl, HB.out⟩
    · have hne : ¬ ((⟨ka, la, sa, pa, na⟩ : Tg) = ⟨kb, lb, sb, pb, nb⟩) := fun e => hf (HInj.out.2 e)
      have hs1 : ((str fa).toList == (str fb).toList) = false := by rw [str_toList, str_toList]; simpa using hf
      have hq : ((((ka : Int) == (kb : Int)) && (la == lb)) && ((sa : Int) == (sb : Int)) && (pa == pb) && (na == nb)) = false := by
        rw [Bool.eq_false_iff]
        intro h
        simp only [Bool.and_eq_true, beq_iff_eq, Int.natCast_inj] at h
        obtain ⟨⟨⟨⟨h1, h2⟩, h3⟩, h4⟩, h5⟩ := h
        exact hne (by rw [h1, h2, h3, h4, h5])
      clear HInj hf
      generalize str fa = Sa at hs1 ⊢
      generalize str fb = Sb at hs1 ⊢
      have HNq := Lib.hid hne; clear hne hq
      go_wp2_with fail
      all_goals first | (exfalso; refine HNq.out ?_; simp only [Tg.mk.injEq]; omega) | (go_ret; exact ⟨rfl, HB.out⟩)
theorem tagUnlike_law (a00 a01 a02 a03 a04 a10 a11 a12 a13 a14 : Int) (a2 : ByteArray) (W : World) (w00 : (Lit.int .u8 a00).wf = true) (w01 : (Lit.int .i64 a01).wf = true) (w02 : (Lit.int .u64 a02).wf = true) (w03 : (Lit.int .i64 a03).wf = true) (w04 : (Lit.int .i64 a04).wf = true) (w10 : (Lit.int .u8 a10).wf = true) (w11 : (Lit.int .i64 a11).wf = true) (w12 : (Lit.int .u64 a12).wf = true) (w13 : (Lit.int .i64 a13).wf = true) (w14 : (Lit.int .i64 a14).wf = true) (w2 : a2.size ≤ 140737488351232) :
    Calls Try.prog 5 #[.agg #[.int .u8 a00, .int .i64 a01, .int .u64 a02, .int .i64 a03, .int .i64 a04], .agg #[.int .u8 a10, .int .i64 a11, .int .u64 a12, .int .i64 a13, .int .i64 a14], .string a2] W fun e w' => e = .returned (.bool true) ∧ Below W.heap.size W w' := by
  obtain ⟨k, rfl, hk⟩ := wf_u8 w00
  obtain ⟨s, rfl, hs⟩ := wf_u64 w02
  obtain ⟨k', rfl, hk'⟩ := wf_u8 w10
  obtain ⟨s', rfl, hs'⟩ := wf_u64 w12
  exact tagUnlike_walk ⟨k, a01, s, a03, a04⟩ ⟨k', a11, s', a13, a14⟩ ⟨hk, hs⟩ ⟨hk', hs'⟩ a2 w2 W
end Go.Proofs.Ytfomgljhcegjdaa
