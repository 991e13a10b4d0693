/- Layer 4's laws: fields as data; 'of'. No conditions beyond the form's own reach. -/
import Derived.Test.YtdpnnokchmjflaaXCurWakes
import Derived.Test.YtdpnnokchmjflaaXRowS
import Derived.Test.YtdpnnokchmjflaaXOpen
import Derived.Test.YtdpnnokchmjflaaWTab
namespace Go.Proofs.Ytdpnnokchmjflaa
open Go.RowKit Go.Lib Go.Proofs.Ytdpnnokchmjflaa.P Go.Proofs.Ytdpnnokchmjflaa.BeS Go.Proofs.YtdpnnokchmjflaaW.PrintWords Go.Proofs.YtdpnnokchmjflaaW.PrintLast Go.Proofs.YtdpnnokchmjflaaW.PrintMore
set_option linter.unusedVariables false
set_option linter.unusedSimpArgs false
def rg7_1.T : Bool × List (List Nat × List Nat) := (true, [([], []), ([0], [0]), ([1], [1]), ([2], [2]), ([], []), ([4], [4]), ([], []), ([6], [6]), ([], []), ([8], [8]), ([], []), ([10], [10]), ([11], [11]), ([12], [12]), ([9, 13], [9, 13]), ([3, 5, 7, 14], [3, 5, 7, 14]), ([15, 0, 1, 2, 3, 4, 5, 6, 7, 8, 9, 10, 11, 12, 13, 14, 15], [15])])
def rg7_1.B : List Nat := [0, 1, 3, 7, 0, 16, 0, 64, 0, 256, 0, 1024, 3072, 7168, 16128, 32767, 65535]
theorem rg7_1.tab : rtab .any (opsOf Try.f7 1) = rg7_1.T := by kernel_rfl
theorem rg7_1.bits : waitsOk rg7_1.T.2 rg7_1.B = true := by kernel_rfl
structure Fd where
  kind : Int
  width : Int
  n : Nat
  s : ByteArray
def encF (f : Fd) : List Value := [.int .i64 f.kind, .int .i64 f.width, .int .u64 (f.n : Int), .string f.s]
theorem encF_len (f : Fd) : (encF f).length = 4 := rfl
/-- What a field may hold at all. -/
structure Fd.In (f : Fd) : Prop where
  k0 : -9223372036854775808 ≤ f.kind
  k1 : f.kind < 9223372036854775808
  w0 : -9223372036854775808 ≤ f.width
  w1 : f.width < 9223372036854775808
  n1 : f.n < 18446744073709551616
def ofF (f : Fd) : Fd := ⟨(max 0 f.kind) % 3, f.width, f.n, f.s.extract 0 (min f.s.size 300)⟩
/-- A block of four cells. -/
def Box4 (w : World) (t : TypeId) (b : Nat) (c0 c1 c2 c3 : Value) : Prop := w.heap[b]? = some (.cells #[c0, c1, c2, c3] t (0, 0))
theorem Box4.S {w : World} {t : TypeId} {b : Nat} {c0 c1 c2 c3 : Value} (h : Box4 w t b c0 c1 c2 c3) : w.cell? ⟨b, 0, none⟩ = some c0 ∧ w.cell? ⟨b, 1, none⟩ = some c1 ∧ w.cell? ⟨b, 2, none⟩ = some c2 ∧ w.cell? ⟨b, 3, none⟩ = some c3 := by
  unfold Box4 at h
  refine ⟨?_, ?_, ?_, ?_⟩
  all_goals (unfold World.cell?; rw [h]; rfl)
theorem Box4.F {w : World} {t : TypeId} {b : Nat} {c0 c1 c2 c3 : Value} (h : Box4 w t b c0 c1 c2 c3) : w.frozen? ⟨b, 0, none⟩ = false ∧ w.frozen? ⟨b, 1, none⟩ = false ∧ w.frozen? ⟨b, 2, none⟩ = false ∧ w.frozen? ⟨b, 3, none⟩ = false := by
  unfold Box4 at h
  refine ⟨?_, ?_, ?_, ?_⟩
  all_goals (unfold World.frozen?; rw [h]; rfl)
theorem Box4.below {w w' : World} {t : TypeId} {b : Nat} {c0 c1 c2 c3 : Value} (h : Box4 w t b c0 c1 c2 c3) (hb : Below w.heap.size w w') : Box4 w' t b c0 c1 c2 c3 := blk_below h hb
theorem Box4.new (w : World) (t : TypeId) (c0 c1 c2 c3 : Value) : Box4 (w.alloc (.cells #[c0, c1, c2, c3] t)) t w.heap.size c0 c1 c2 c3 := heap_alloc_new w _
theorem Box4.set4 {w : World} {t : TypeId} {b : Nat} {c0 c1 c2 c3 : Value} (h : Box4 w t b c0 c1 c2 c3) (x y z u : Value) : Box4 ((((w.setCell ⟨b, 0, none⟩ x).setCell ⟨b, 1, none⟩ y).setCell ⟨b, 2, none⟩ z).setCell ⟨b, 3, none⟩ u) t b x y z u :=
  heap_setCell_same _ b 3 _ _ u (heap_setCell_same _ b 2 _ _ z (heap_setCell_same _ b 1 _ _ y (heap_setCell_same _ b 0 _ _ x h)))

theorem fd_size : (Try.prog.info? 27).map (·.size) = some 4 := by kernel_rfl
set_option maxHeartbeats 4000000 in
set_option maxRecDepth 100000 in
theorem of_ok (f : Fd) (hf : f.In) (w : World) :
    Calls Try.prog 7 #[.agg #[.int .i64 f.kind, .int .i64 f.width, .int .u64 (f.n : Int), .string f.s]] w fun x w' => x = .returned (.agg #[.int .i64 (ofF f).kind, .int .i64 (ofF f).width, .int .u64 ((ofF f).n : Int), .string (ofF f).s]) ∧ Below w.heap.size w w' := by
  obtain ⟨kd, wd, n, s⟩ := f
  have HF := Lib.hid hf; clear hf
  unfold ofF
  simp only
  obtain ⟨km, hkm, hkm2⟩ : ∃ km : Nat, max 0 kd = (km : Int) ∧ (km : Int) < 9223372036854775808 := ⟨(max 0 kd).toNat, by omega, by have := HF.out.k1; simp only at this; omega⟩
  obtain ⟨j, hj, hj1, hj2, hj3⟩ : ∃ j : Nat, (if 300 < (s.size : Int) then 300 else (s.size : Int)) = (j : Int) ∧ j ≤ s.size ∧ j ≤ 300 ∧ min s.size 300 = j := ⟨min s.size 300, by split <;> omega, by omega, by omega, rfl⟩
  have c1 : (0 ≤ (j : Int)) = True := eq_true (by omega)
  have c2 : ((j : Int) ≤ (s.size : Int)) = True := eq_true (by omega)
  have c3 : (j ≤ s.size) = True := eq_true (by omega)
  have c4 : decide (j ≤ s.size) = true := decide_eq_true (by omega)
  rw [hkm, hj3]
  have hmax : (if 0 < kd then kd else 0) = (km : Int) := by split <;> omega
  have hmod : Int.tmod (km : Int) 3 = (km : Int) % 3 := by rw [Int.tmod_eq_emod_of_nonneg (by omega)]
  have hB := Box4.new w 26 (.int .i64 kd) (.int .i64 wd) (.int .u64 (n : Int)) (.string s)
  have hb := below_alloc (Below.refl w.heap.size w) (.cells #[.int .i64 kd, .int .i64 wd, .int .u64 (n : Int), .string s] 26)
  have hB2 := Box4.new (w.alloc (.cells #[.int .i64 kd, .int .i64 wd, .int .u64 (n : Int), .string s] 26)) 27 (.int .i64 0) (.int .i64 0) (.int .u64 0) (.string { data := #[] })
  have hb2 := below_alloc hb (.cells #[.int .i64 0, .int .i64 0, .int .u64 0, .string { data := #[] }] 27)
  replace hB := hB.below ((Below.refl _ _).alloc (Nat.le_refl _) (.cells #[.int .i64 0, .int .i64 0, .int .u64 0, .string { data := #[] }] 27))
  clear hb
  rw [show (w.alloc (.cells #[.int .i64 kd, .int .i64 wd, .int .u64 (n : Int), .string s] 26)).heap.size = w.heap.size + 1 by simp] at hB2
  have HB := Lib.hid hb2; clear hb2
  go_enter Try.func7, Try.ntmps7
  go_wp2_with fail
  have HG := Lib.hid (show w.heap.size ≤ w.heap.size + 1 from Nat.le_succ _)
  generalize hW : ((w.alloc (.cells #[.int .i64 kd, .int .i64 wd, .int .u64 (n : Int), .string s] 26)).alloc (.cells #[.int .i64 0, .int .i64 0, .int .u64 0, .string { data := #[] }] 27)) = W at hB hB2 HB ⊢
  clear hW
  generalize w.heap.size + 1 = g2 at hB2 HG ⊢
  have HB1 := Lib.hid hB; clear hB
  have HB2 := Lib.hid hB2; clear hB2
  have hS := HB1.out.S
  have HJ := Lib.hid (And.intro hj1 hj2)
  clear hj1 hj2 hj3 hkm hkm2
  replace HB := Lib.hid (show Below w.heap.size w W.drew from HB.out.trans ⟨rfl, rfl, rfl, Nat.le_refl _, fun _ _ => rfl⟩)
  replace HB2 := Lib.hid (show Box4 W.drew 27 g2 (.int .i64 0) (.int .i64 0) (.int .u64 0) (.string { data := #[] }) from HB2.out)
  refine start_ (n := 17) (S := fun w' => w'.cell? ⟨w.heap.size, 0, none⟩ = some (.int .i64 kd) ∧ w'.cell? ⟨w.heap.size, 1, none⟩ = some (.int .i64 wd) ∧ w'.cell? ⟨w.heap.size, 2, none⟩ = some (.int .u64 (n : Int)) ∧ w'.cell? ⟨w.heap.size, 3, none⟩ = some (.string s)) (ds := [16]) #[false, false, false, false, false, false, false, false, false, false, false, false, false, false, false, false, false] (by kernel_rfl) rfl rfl hS (fun hHeld => ?_)
  refine with_tabW rg7_1.tab rg7_1.bits (fun HT_ HW_ => ?_)
  generalize W.drew = w' at HB HB2 hHeld ⊢
  refine pure_ (i := 0) (N := some 3) (v := ?_) (a' := ?_) #[true, false, false, false, false, false, false, false, false, false, false, false, false, false, false, false, false] rfl rfl (any_of HT_.out (by kernel_rfl)) (fun _ _ _ h => h) (Or.inl ⟨by rfl, ?_⟩) ?_ ?_
  rotate_left
  · intro w'
    go_simp
    try with_reducible rfl
  rotate_left
  · simp (maxSteps := 4000000) only [Act.put, List.setIfInBounds_toArray, List.set_cons_zero, List.set_cons_succ, i64_w, i32_w]
    try rfl
  refine pure_ (i := 4) (N := some 7) (v := ?_) (a' := ?_) #[true, false, false, false, true, false, false, false, false, false, false, false, false, false, false, false, false] rfl rfl (any_of HT_.out (by kernel_rfl)) (fun _ _ _ h => h) (Or.inl ⟨by rfl, ?_⟩) ?_ ?_
  rotate_left
  · intro w'
    go_simp
    try with_reducible rfl
  rotate_left
  · simp (maxSteps := 4000000) only [Act.put, List.setIfInBounds_toArray, List.set_cons_zero, List.set_cons_succ, i64_w, i32_w]
    try rfl
  refine pure_ (i := 6) (N := some 9) (v := ?_) (a' := ?_) #[true, false, false, false, true, false, true, false, false, false, false, false, false, false, false, false, false] rfl rfl (any_of HT_.out (by kernel_rfl)) (fun _ _ _ h => h) (Or.inl ⟨by rfl, ?_⟩) ?_ ?_
  rotate_left
  · intro w'
    go_simp
    try with_reducible rfl
  rotate_left
  · simp (maxSteps := 4000000) only [Act.put, List.setIfInBounds_toArray, List.set_cons_zero, List.set_cons_succ, i64_w, i32_w]
    try rfl
  refine pure_ (i := 8) (N := some 11) (v := ?_) (a' := ?_) #[true, false, false, false, true, false, true, false, true, false, false, false, false, false, false, false, false] rfl rfl (any_of HT_.out (by kernel_rfl)) (fun _ _ _ h => h) (Or.inl ⟨by rfl, ?_⟩) ?_ ?_
  rotate_left
  · intro w'
    go_simp
    try with_reducible rfl
  rotate_left
  · simp (maxSteps := 4000000) only [Act.put, List.setIfInBounds_toArray, List.set_cons_zero, List.set_cons_succ, i64_w, i32_w]
    try rfl
  refine pure_ (i := 10) (N := some 13) (v := ?_) (a' := ?_) #[true, false, false, false, true, false, true, false, true, false, true, false, false, false, false, false, false] rfl rfl (any_of HT_.out (by kernel_rfl)) (fun _ _ _ h => h) (Or.inl ⟨by rfl, ?_⟩) ?_ ?_
  rotate_left
  · intro w'
    go_simp
    try with_reducible rfl
  rotate_left
  · simp (maxSteps := 4000000) only [Act.put, List.setIfInBounds_toArray, List.set_cons_zero, List.set_cons_succ, i64_w, i32_w]
    try rfl
  refine take_ (i := 1) (N := some 4) (v := ?_) (a' := ?_) #[true, true, false, false, true, false, true, false, true, false, true, false, false, false, false, false, false] rfl rfl (take_ofW HT_.out HW_.out (by kernel_rfl)) (fun _ _ _ h => h) (Or.inl ⟨by rfl, ?_⟩) hHeld ?_ ?_
  rotate_left
  · intro w' hw_
    try dsimp only at hw_
    go_simp
    try with_reducible rfl
  rotate_left
  · simp (maxSteps := 4000000) only [Act.put, List.setIfInBounds_toArray, List.set_cons_zero, List.set_cons_succ, i64_w, i32_w]
    try rfl
  refine pure_ (i := 2) (N := some 5) (v := ?_) (a' := ?_) #[true, true, true, false, true, false, true, false, true, false, true, false, false, false, false, false, false] rfl rfl (any_of HT_.out (by kernel_rfl)) (fun _ _ _ h => h) (Or.inl ⟨by rfl, ?_⟩) ?_ ?_
  rotate_left
  · intro w'
    go_simp
    try with_reducible rfl
  rotate_left
  · simp (maxSteps := 4000000) only [Act.put, List.setIfInBounds_toArray, List.set_cons_zero, List.set_cons_succ, i64_w, i32_w]
    try rfl
  refine pure_ (i := 3) (N := some 6) (v := ?_) (a' := ?_) #[true, true, true, true, true, false, true, false, true, false, true, false, false, false, false, false, false] rfl rfl (any_of HT_.out (by kernel_rfl)) (fun _ _ _ h => h) (Or.inl ⟨by rfl, ?_⟩) ?_ ?_
  rotate_left
  · intro w'
    go_simp
    try with_reducible rfl
  rotate_left
  · simp (maxSteps := 4000000) only [Act.put, List.setIfInBounds_toArray, List.set_cons_zero, List.set_cons_succ, i64_w, i32_w]
    try rfl
  refine take_ (i := 5) (N := some 8) (v := ?_) (a' := ?_) #[true, true, true, true, true, true, true, false, true, false, true, false, false, false, false, false, false] rfl rfl (take_ofW HT_.out HW_.out (by kernel_rfl)) (fun _ _ _ h => h) (Or.inl ⟨by rfl, ?_⟩) hHeld ?_ ?_
  rotate_left
  · intro w' hw_
    try dsimp only at hw_
    go_simp
    try with_reducible rfl
  rotate_left
  · simp (maxSteps := 4000000) only [Act.put, List.setIfInBounds_toArray, List.set_cons_zero, List.set_cons_succ, i64_w, i32_w]
    try rfl
  refine take_ (i := 7) (N := some 10) (v := ?_) (a' := ?_) #[true, true, true, true, true, true, true, true, true, false, true, false, false, false, false, false, false] rfl rfl (take_ofW HT_.out HW_.out (by kernel_rfl)) (fun _ _ _ h => h) (Or.inl ⟨by rfl, ?_⟩) hHeld ?_ ?_
  rotate_left
  · intro w' hw_
    try dsimp only at hw_
    go_simp
    try with_reducible rfl
  rotate_left
  · simp (maxSteps := 4000000) only [Act.put, List.setIfInBounds_toArray, List.set_cons_zero, List.set_cons_succ, i64_w, i32_w]
    try rfl
  refine take_ (i := 9) (N := some 12) (v := ?_) (a' := ?_) #[true, true, true, true, true, true, true, true, true, true, true, false, false, false, false, false, false] rfl rfl (take_ofW HT_.out HW_.out (by kernel_rfl)) (fun _ _ _ h => h) (Or.inl ⟨by rfl, ?_⟩) hHeld ?_ ?_
  rotate_left
  · intro w' hw_
    try dsimp only at hw_
    go_simp
    try with_reducible rfl
  rotate_left
  · simp (maxSteps := 4000000) only [Act.put, List.setIfInBounds_toArray, List.set_cons_zero, List.set_cons_succ, i64_w, i32_w]
    try rfl
  refine take_ (i := 11) (N := some 14) (v := ?_) (a' := ?_) #[true, true, true, true, true, true, true, true, true, true, true, true, false, false, false, false, false] rfl rfl (take_ofW HT_.out HW_.out (by kernel_rfl)) (fun _ _ _ h => h) (Or.inl ⟨by rfl, ?_⟩) hHeld ?_ ?_
  rotate_left
  · intro w' hw_
    try dsimp only at hw_
    go_simp
    try with_reducible rfl
  rotate_left
  · simp (maxSteps := 4000000) only [Act.put, List.setIfInBounds_toArray, List.set_cons_zero, List.set_cons_succ, i64_w, i32_w]
    try rfl
  refine pure_ (i := 12) (N := some 15) (v := ?_) (a' := ?_) #[true, true, true, true, true, true, true, true, true, true, true, true, true, false, false, false, false] rfl rfl (any_of HT_.out (by kernel_rfl)) (fun _ _ _ h => h) (Or.inl ⟨by rfl, ?_⟩) ?_ ?_
  rotate_left
  · intro w'
    go_simp
    try with_reducible rfl
  rotate_left
  · simp (maxSteps := 4000000) only [Act.put, List.setIfInBounds_toArray, List.set_cons_zero, List.set_cons_succ, i64_w, i32_w]
    try rfl
  refine pure_ (i := 13) (N := some 16) (v := ?_) (a' := ?_) #[true, true, true, true, true, true, true, true, true, true, true, true, true, true, false, false, false] rfl rfl (any_of HT_.out (by kernel_rfl)) (fun _ _ _ h => h) (Or.inl ⟨by rfl, ?_⟩) ?_ ?_
  rotate_left
  · intro w'
    go_simp
    try with_reducible rfl
  rotate_left
  · simp (maxSteps := 4000000) only [Act.put, List.setIfInBounds_toArray, List.set_cons_zero, List.set_cons_succ, i64_w, i32_w]
    try rfl
  refine pure_ (i := 14) (N := some 17) (v := ?_) (a' := ?_) #[true, true, true, true, true, true, true, true, true, true, true, true, true, true, true, false, false] rfl rfl (any_of HT_.out (by kernel_rfl)) (fun _ _ _ h => h) (Or.inl ⟨by rfl, ?_⟩) ?_ ?_
  rotate_left
  · intro w'
    go_simp
    try with_reducible rfl
  rotate_left
  · simp (maxSteps := 4000000) only [Act.put, List.setIfInBounds_toArray, List.set_cons_zero, List.set_cons_succ, i64_w, i32_w]
    try rfl
  refine pure_ (i := 15) (N := some 18) (v := ?_) (a' := ?_) #[true, true, true, true, true, true, true, true, true, true, true, true, true, true, true, true, false] rfl rfl (any_of HT_.out (by kernel_rfl)) (fun _ _ _ h => h) (Or.inl ⟨by rfl, ?_⟩) ?_ ?_
  rotate_left
  · intro w'
    go_simp
    try with_reducible rfl
  rotate_left
  · simp (maxSteps := 4000000) only [Act.put, List.setIfInBounds_toArray, List.set_cons_zero, List.set_cons_succ, i64_w, i32_w]
    try rfl
  refine last_ (i := 16) (N := none) #[true, true, true, true, true, true, true, true, true, true, true, true, true, true, true, true, true] rfl rfl (one_of HT_.out (by kernel_rfl)) (by decide) (fun K hK => ?_)
  refine skip_ (w1 := (((w'.setCell ⟨g2, 0, none⟩ (.int .i64 ((km : Int) % 3))).setCell ⟨g2, 1, none⟩ (.int .i64 wd)).setCell ⟨g2, 2, none⟩ (.int .u64 (n : Int))).setCell ⟨g2, 3, none⟩ (.string (s.extract 0 j))) (by rfl) rfl ?_ ?_
  · (obtain ⟨k0, k1, k2, k3⟩ := HB2.out.S; obtain ⟨f0, f1, f2, f3⟩ := HB2.out.F; go_simp)
  refine hK.out _ _ ?_
  clear hK K
  refine done_ (done_of HT_.out (by kernel_rfl)) ?_
  have hx := HB2.out.set4 (.int .i64 ((km : Int) % 3)) (.int .i64 wd) (.int .u64 (n : Int)) (.string (s.extract 0 j))
  have hbl := below_set (below_set (below_set (below_set HB.out (b := g2) (i := 0) (v := .int .i64 ((km : Int) % 3)) HG.out) (b := g2) (i := 1) (v := .int .i64 wd) HG.out) (b := g2) (i := 2) (v := .int .u64 (n : Int)) HG.out) (b := g2) (i := 3) (v := .string (s.extract 0 j)) HG.out
  generalize ((((w'.setCell ⟨g2, 0, none⟩ (.int .i64 ((km : Int) % 3))).setCell ⟨g2, 1, none⟩ (.int .i64 wd)).setCell ⟨g2, 2, none⟩ (.int .u64 (n : Int))).setCell ⟨g2, 3, none⟩ (.string (s.extract 0 j))) = w2 at hx hbl ⊢
  have HX := Lib.hid hx; clear hx
  have HBL := Lib.hid hbl; clear hbl
  go_wp2
  refine bodyPost_ret (results_single rfl (.cell g2 27 _ (0, 0) _ rfl HX.out Try.underlying27 rfl fd_size .nil)) rfl ?_
  exact ⟨rfl, HBL.out⟩
end Go.Proofs.Ytdpnnokchmjflaa
