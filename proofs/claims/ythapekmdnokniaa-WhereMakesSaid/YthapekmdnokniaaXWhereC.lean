/- where: Owner, At, Live, Total. No conditions beyond the form's own reach. -/
import Derived.Test.YthapekmdnokniaaXWhereB
namespace Go.Proofs.Ythapekmdnokniaa
open Go.RowKit Go.Lib Go.Maps Go.Proofs.YthapekmdnokniaaW.PrintWords Go.Proofs.YthapekmdnokniaaW.PrintLast Go.Proofs.YthapekmdnokniaaW.PrintMore
set_option linter.unusedVariables false
set_option linter.unusedSimpArgs false
def rg11_3.T : Bool × List (List Nat × List Nat) := (true, [([], []), ([0], [0]), ([1], [1]), ([2], [2]), ([], []), ([3, 4], [3, 4]), ([5], [5]), ([6], [6]), ([6], [6]), ([7, 0, 1, 2, 3, 4, 5, 6, 7], [7]), ([8, 9, 0, 1, 2, 3, 4, 5, 6, 7, 8, 9], [8])])
def rg11_3.B : List Nat := [0, 1, 3, 7, 0, 31, 63, 127, 127, 255, 1023]
theorem rg11_3.tab : rtab .any (opsOf Try.f11 3) = rg11_3.T := by kernel_rfl
theorem rg11_3.bits : waitsOk rg11_3.T.2 rg11_3.B = true := by kernel_rfl
def ownE (s : WS) (p : Int × Int) : Int := match s.ow p with | some k => k | none => -1
set_option maxHeartbeats 8000000 in
theorem owner_ok (a b : Int) (ha : I64 a) (hb : I64 b) {base : Nat} {w : World} {g B P L : Nat} {s : WS} {bm bo bl cap : Nat} (h : WAt base w g B P L s bm bo bl cap) :
    Calls Try.prog 11 #[.pointer (some ⟨g, 0, none⟩), .agg #[.int .i64 a, .int .i64 b]] w fun e w' => e = .returned (.int .i64 (ownE s (a, b))) ∧ Below w.heap.size w w' := by
  have HOk := Lib.hid (show okP (a, b) from ⟨ha, hb⟩); clear ha hb
  have hX := heap_alloc_new w (.cells #[.int .i64 a, .int .i64 b] 30)
  have ha := below_alloc (Below.refl w.heap.size w) (.cells #[.int .i64 a, .int .i64 b] 30)
  have hG := blk_below h.box ha
  have hM := h.mow.below ha
  have HB := Lib.hid ha; clear ha
  clear h
  go_enter Try.func11, Try.ntmps11
  go_wp2_with fail
  generalize w.heap.size = bx at hX ⊢
  generalize w.alloc (.cells #[.int .i64 a, .int .i64 b] 30) = wx at hX hG hM HB ⊢
  replace HB := Lib.hid (below_drew1 HB.out)
  have HM := Lib.hid hM; clear hM
  have hS : wx.drew.heap[bx]? = some (.cells #[.int .i64 a, .int .i64 b] 30 (0, 0)) ∧ wx.drew.heap[g]? = some (.cells #[.int .i64 (B : Int), .int .i64 (P : Int), .int .i64 (L : Int), .map (some bm), .map (some bo), .slice (some ⟨bl, 0, none⟩) B cap] 63 (0, 0)) ∧ MapV Try.prog 30 ekP okP wx.drew bo s.co (fun p => (s.ow p).map encI) := ⟨hX, hG, HM.out⟩
  clear hX hG
  cases ho : s.ow (a, b) with
  | none =>
    have HV := Lib.hid (show ownE s (a, b) = -1 by unfold ownE; rw [ho])
    have HOw := Lib.hid ho; clear ho
    refine start_ (n := 11) (S := fun w' => w'.heap[bx]? = some (.cells #[.int .i64 a, .int .i64 b] 30 (0, 0)) ∧ w'.heap[g]? = some (.cells #[.int .i64 (B : Int), .int .i64 (P : Int), .int .i64 (L : Int), .map (some bm), .map (some bo), .slice (some ⟨bl, 0, none⟩) B cap] 63 (0, 0)) ∧ MapV Try.prog 30 ekP okP w' bo s.co (fun p => (s.ow p).map encI)) (ds := []) #[false, false, false, false, false, false, false, false, false, false, false] (by kernel_rfl) rfl rfl hS (fun hHeld => ?_)
    refine with_tabW rg11_3.tab rg11_3.bits (fun HT_ HW_ => ?_)
    generalize wx.drew = w' at HB hHeld ⊢
    refine pure_ (i := 0) (N := some 10) (v := ?_) (a' := ?_) #[true, false, false, false, false, false, false, false, false, false, false] rfl rfl (any_of HT_.out (by kernel_rfl)) (fun _ _ _ h => h) (Or.inl ⟨by rfl, ?_⟩) ?_ ?_
    rotate_left
    · intro w'
      go_simp
      try with_reducible rfl
    rotate_left
    · simp (maxSteps := 4000000) only [Act.put, List.setIfInBounds_toArray, List.set_cons_zero, List.set_cons_succ, i64_w, i32_w]
      try rfl
    refine pure_ (i := 1) (N := some 11) (v := ?_) (a' := ?_) #[true, true, false, false, false, false, false, false, false, false, false] rfl rfl (any_of HT_.out (by kernel_rfl)) (fun _ _ _ h => h) (Or.inl ⟨by rfl, ?_⟩) ?_ ?_
    rotate_left
    · intro w'
      go_simp
      try with_reducible rfl
    rotate_left
    · simp (maxSteps := 4000000) only [Act.put, List.setIfInBounds_toArray, List.set_cons_zero, List.set_cons_succ, i64_w, i32_w]
      try rfl
    refine pure_ (i := 2) (N := some 12) (v := ?_) (a' := ?_) #[true, true, true, false, false, false, false, false, false, false, false] rfl rfl (any_of HT_.out (by kernel_rfl)) (fun _ _ _ h => h) (Or.inl ⟨by rfl, ?_⟩) ?_ ?_
    rotate_left
    · intro w'
      go_simp
      try with_reducible rfl
    rotate_left
    · simp (maxSteps := 4000000) only [Act.put, List.setIfInBounds_toArray, List.set_cons_zero, List.set_cons_succ, i64_w, i32_w]
      try rfl
    refine take_ (i := 3) (N := some 13) (v := ?_) (a' := ?_) #[true, true, true, true, false, false, false, false, false, false, false] rfl rfl (take_ofW HT_.out HW_.out (by kernel_rfl)) (fun _ _ _ h => h) (Or.inl ⟨by rfl, ?_⟩) hHeld ?_ ?_
    rotate_left
    · intro w' hw_
      try dsimp only at hw_
      obtain ⟨c0, c1, c2, c3, c4, c5⟩ := w6_cells hw_.2.1
      go_simp
      try with_reducible rfl
    rotate_left
    · simp (maxSteps := 4000000) only [Act.put, List.setIfInBounds_toArray, List.set_cons_zero, List.set_cons_succ, i64_w, i32_w]
      try rfl
    refine take_ (i := 4) (N := some 14) (v := ?_) (a' := ?_) #[true, true, true, true, true, false, false, false, false, false, false] rfl rfl (take_ofW HT_.out HW_.out (by kernel_rfl)) (fun _ _ _ h => h) (Or.inl ⟨by rfl, ?_⟩) hHeld ?_ ?_
    rotate_left
    · intro w' hw_
      try dsimp only at hw_
      obtain ⟨g0, g1⟩ := w2_cells hw_.1
      go_simp
      try with_reducible rfl
    rotate_left
    · simp (maxSteps := 4000000) only [Act.put, List.setIfInBounds_toArray, List.set_cons_zero, List.set_cons_succ, i64_w, i32_w]
      try rfl
    refine take_ (i := 5) (N := some 15) (v := ?_) (a' := ?_) #[true, true, true, true, true, true, false, false, false, false, false] rfl rfl (take_ofW HT_.out HW_.out (by kernel_rfl)) (fun _ _ _ h => h) (Or.inl ⟨by rfl, ?_⟩) hHeld ?_ ?_
    rotate_left
    · intro w' hw_
      try dsimp only at hw_
      have hl := MapV.lookOk keyP hw_.2.2 Try.underlying61 (zeroInt w') (a, b) HOk.out; simp only [HOw.out, ekP, Option.map_none, Option.getD_none, Option.isSome_none] at hl
      go_simp
      try with_reducible rfl
    rotate_left
    · simp (maxSteps := 4000000) only [Act.put, List.setIfInBounds_toArray, List.set_cons_zero, List.set_cons_succ, i64_w, i32_w]
      try rfl
    refine pure_ (i := 6) (N := some 9) (v := ?_) (a' := ?_) #[true, true, true, true, true, true, true, false, false, false, false] rfl rfl (any_of HT_.out (by kernel_rfl)) (fun _ _ _ h => h) (Or.inl ⟨by rfl, ?_⟩) ?_ ?_
    rotate_left
    · intro w'
      go_simp
      try with_reducible rfl
    rotate_left
    · simp (maxSteps := 4000000) only [Act.put, List.setIfInBounds_toArray, List.set_cons_zero, List.set_cons_succ, i64_w, i32_w]
      try rfl
    refine pure_ (i := 7) (N := some 16) (v := ?_) (a' := ?_) #[true, true, true, true, true, true, true, true, false, false, false] rfl rfl (any_of HT_.out (by kernel_rfl)) (fun _ _ _ h => h) (Or.inl ⟨by rfl, ?_⟩) ?_ ?_
    rotate_left
    · intro w'
      go_simp
      try with_reducible rfl
    rotate_left
    · simp (maxSteps := 4000000) only [Act.put, List.setIfInBounds_toArray, List.set_cons_zero, List.set_cons_succ, i64_w, i32_w]
      try rfl
    refine pure_ (i := 8) (N := some 17) (v := ?_) (a' := ?_) #[true, true, true, true, true, true, true, true, true, false, false] rfl rfl (any_of HT_.out (by kernel_rfl)) (fun _ _ _ h => h) (Or.inl ⟨by rfl, ?_⟩) ?_ ?_
    rotate_left
    · intro w'
      go_simp
      try with_reducible rfl
    rotate_left
    · simp (maxSteps := 4000000) only [Act.put, List.setIfInBounds_toArray, List.set_cons_zero, List.set_cons_succ, i64_w, i32_w]
      try rfl
    refine pure_ (i := 9) (N := some 5) (v := ?_) (a' := ?_) #[true, true, true, true, true, true, true, true, true, true, false] rfl rfl (any_of HT_.out (by kernel_rfl)) (fun _ _ _ h => h) (Or.inl ⟨by rfl, ?_⟩) ?_ ?_
    rotate_left
    · intro w'
      go_simp
      try with_reducible rfl
    rotate_left
    · simp (maxSteps := 4000000) only [Act.put, List.setIfInBounds_toArray, List.set_cons_zero, List.set_cons_succ, i64_w, i32_w]
      try rfl
    refine pure_ (i := 10) (N := some 6) (v := ?_) (a' := ?_) #[true, true, true, true, true, true, true, true, true, true, true] rfl rfl (any_of HT_.out (by kernel_rfl)) (fun _ _ _ h => h) (Or.inl ⟨by rfl, ?_⟩) ?_ ?_
    rotate_left
    · intro w'
      go_simp
      try with_reducible rfl
    rotate_left
    · simp (maxSteps := 4000000) only [Act.put, List.setIfInBounds_toArray, List.set_cons_zero, List.set_cons_succ, i64_w, i32_w]
      try rfl
    refine done_ (done_of HT_.out (by kernel_rfl)) ?_
    go_wp2
    go_ret
    exact ⟨by rw [HV.out]; rfl, HB.out⟩
  | some k =>
    have HV := Lib.hid (show ownE s (a, b) = k by unfold ownE; rw [ho])
    have HOw := Lib.hid ho; clear ho
    refine start_ (n := 11) (S := fun w' => w'.heap[bx]? = some (.cells #[.int .i64 a, .int .i64 b] 30 (0, 0)) ∧ w'.heap[g]? = some (.cells #[.int .i64 (B : Int), .int .i64 (P : Int), .int .i64 (L : Int), .map (some bm), .map (some bo), .slice (some ⟨bl, 0, none⟩) B cap] 63 (0, 0)) ∧ MapV Try.prog 30 ekP okP w' bo s.co (fun p => (s.ow p).map encI)) (ds := []) #[false, false, false, false, false, false, false, false, false, false, false] (by kernel_rfl) rfl rfl hS (fun hHeld => ?_)
    refine with_tabW rg11_3.tab rg11_3.bits (fun HT_ HW_ => ?_)
    generalize wx.drew = w' at HB hHeld ⊢
    refine pure_ (i := 0) (N := some 10) (v := ?_) (a' := ?_) #[true, false, false, false, false, false, false, false, false, false, false] rfl rfl (any_of HT_.out (by kernel_rfl)) (fun _ _ _ h => h) (Or.inl ⟨by rfl, ?_⟩) ?_ ?_
    rotate_left
    · intro w'
      go_simp
      try with_reducible rfl
    rotate_left
    · simp (maxSteps := 4000000) only [Act.put, List.setIfInBounds_toArray, List.set_cons_zero, List.set_cons_succ, i64_w, i32_w]
      try rfl
    refine pure_ (i := 1) (N := some 11) (v := ?_) (a' := ?_) #[true, true, false, false, false, false, false, false, false, false, false] rfl rfl (any_of HT_.out (by kernel_rfl)) (fun _ _ _ h => h) (Or.inl ⟨by rfl, ?_⟩) ?_ ?_
    rotate_left
    · intro w'
      go_simp
      try with_reducible rfl
    rotate_left
    · simp (maxSteps := 4000000) only [Act.put, List.setIfInBounds_toArray, List.set_cons_zero, List.set_cons_succ, i64_w, i32_w]
      try rfl
    refine pure_ (i := 2) (N := some 12) (v := ?_) (a' := ?_) #[true, true, true, false, false, false, false, false, false, false, false] rfl rfl (any_of HT_.out (by kernel_rfl)) (fun _ _ _ h => h) (Or.inl ⟨by rfl, ?_⟩) ?_ ?_
    rotate_left
    · intro w'
      go_simp
      try with_reducible rfl
    rotate_left
    · simp (maxSteps := 4000000) only [Act.put, List.setIfInBounds_toArray, List.set_cons_zero, List.set_cons_succ, i64_w, i32_w]
      try rfl
    refine take_ (i := 3) (N := some 13) (v := ?_) (a' := ?_) #[true, true, true, true, false, false, false, false, false, false, false] rfl rfl (take_ofW HT_.out HW_.out (by kernel_rfl)) (fun _ _ _ h => h) (Or.inl ⟨by rfl, ?_⟩) hHeld ?_ ?_
    rotate_left
    · intro w' hw_
      try dsimp only at hw_
      obtain ⟨c0, c1, c2, c3, c4, c5⟩ := w6_cells hw_.2.1
      go_simp
      try with_reducible rfl
    rotate_left
    · simp (maxSteps := 4000000) only [Act.put, List.setIfInBounds_toArray, List.set_cons_zero, List.set_cons_succ, i64_w, i32_w]
      try rfl
    refine take_ (i := 4) (N := some 14) (v := ?_) (a' := ?_) #[true, true, true, true, true, false, false, false, false, false, false] rfl rfl (take_ofW HT_.out HW_.out (by kernel_rfl)) (fun _ _ _ h => h) (Or.inl ⟨by rfl, ?_⟩) hHeld ?_ ?_
    rotate_left
    · intro w' hw_
      try dsimp only at hw_
      obtain ⟨g0, g1⟩ := w2_cells hw_.1
      go_simp
      try with_reducible rfl
    rotate_left
    · simp (maxSteps := 4000000) only [Act.put, List.setIfInBounds_toArray, List.set_cons_zero, List.set_cons_succ, i64_w, i32_w]
      try rfl
    refine take_ (i := 5) (N := some 15) (v := ?_) (a' := ?_) #[true, true, true, true, true, true, false, false, false, false, false] rfl rfl (take_ofW HT_.out HW_.out (by kernel_rfl)) (fun _ _ _ h => h) (Or.inl ⟨by rfl, ?_⟩) hHeld ?_ ?_
    rotate_left
    · intro w' hw_
      try dsimp only at hw_
      have hl := MapV.lookOk keyP hw_.2.2 Try.underlying61 (zeroInt w') (a, b) HOk.out; simp only [HOw.out, ekP, encI, Option.map_some, Option.getD_some, Option.isSome_some] at hl
      go_simp
      try with_reducible rfl
    rotate_left
    · simp (maxSteps := 4000000) only [Act.put, List.setIfInBounds_toArray, List.set_cons_zero, List.set_cons_succ, i64_w, i32_w]
      try rfl
    refine pure_ (i := 6) (N := some 9) (v := ?_) (a' := ?_) #[true, true, true, true, true, true, true, false, false, false, false] rfl rfl (any_of HT_.out (by kernel_rfl)) (fun _ _ _ h => h) (Or.inl ⟨by rfl, ?_⟩) ?_ ?_
    rotate_left
    · intro w'
      go_simp
      try with_reducible rfl
    rotate_left
    · simp (maxSteps := 4000000) only [Act.put, List.setIfInBounds_toArray, List.set_cons_zero, List.set_cons_succ, i64_w, i32_w]
      try rfl
    refine pure_ (i := 7) (N := some 16) (v := ?_) (a' := ?_) #[true, true, true, true, true, true, true, true, false, false, false] rfl rfl (any_of HT_.out (by kernel_rfl)) (fun _ _ _ h => h) (Or.inl ⟨by rfl, ?_⟩) ?_ ?_
    rotate_left
    · intro w'
      go_simp
      try with_reducible rfl
    rotate_left
    · simp (maxSteps := 4000000) only [Act.put, List.setIfInBounds_toArray, List.set_cons_zero, List.set_cons_succ, i64_w, i32_w]
      try rfl
    refine pure_ (i := 8) (N := some 17) (v := ?_) (a' := ?_) #[true, true, true, true, true, true, true, true, true, false, false] rfl rfl (any_of HT_.out (by kernel_rfl)) (fun _ _ _ h => h) (Or.inl ⟨by rfl, ?_⟩) ?_ ?_
    rotate_left
    · intro w'
      go_simp
      try with_reducible rfl
    rotate_left
    · simp (maxSteps := 4000000) only [Act.put, List.setIfInBounds_toArray, List.set_cons_zero, List.set_cons_succ, i64_w, i32_w]
      try rfl
    refine pure_ (i := 9) (N := some 5) (v := ?_) (a' := ?_) #[true, true, true, true, true, true, true, true, true, true, false] rfl rfl (any_of HT_.out (by kernel_rfl)) (fun _ _ _ h => h) (Or.inl ⟨by rfl, ?_⟩) ?_ ?_
    rotate_left
    · intro w'
      go_simp
      try with_reducible rfl
    rotate_left
    · simp (maxSteps := 4000000) only [Act.put, List.setIfInBounds_toArray, List.set_cons_zero, List.set_cons_succ, i64_w, i32_w]
      try rfl
    refine pure_ (i := 10) (N := some 6) (v := ?_) (a' := ?_) #[true, true, true, true, true, true, true, true, true, true, true] rfl rfl (any_of HT_.out (by kernel_rfl)) (fun _ _ _ h => h) (Or.inl ⟨by rfl, ?_⟩) ?_ ?_
    rotate_left
    · intro w'
      go_simp
      try with_reducible rfl
    rotate_left
    · simp (maxSteps := 4000000) only [Act.put, List.setIfInBounds_toArray, List.set_cons_zero, List.set_cons_succ, i64_w, i32_w]
      try rfl
    refine done_ (done_of HT_.out (by kernel_rfl)) ?_
    go_wp2
    go_ret
    exact ⟨by rw [HV.out]; rfl, HB.out⟩
theorem pl_size : (Try.prog.info? 30).map (·.size) = some 2 := by kernel_rfl
def atV (s : WS) (k : Int) : Int × Int := (s.at_ k).getD (0, 0)
theorem pl_set {w : World} {b : Nat} {u0 u1 : Value} {T : TypeId} (h : w.heap[b]? = some (.cells #[u0, u1] T (0, 0))) (v0 v1 : Value) : ((w.setCell ⟨b, 0, none⟩ v0).setCell ⟨b, 1, none⟩ v1).heap[b]? = some (.cells #[v0, v1] T (0, 0)) :=
  heap_setCell_same _ b 1 _ _ v1 (heap_setCell_same w b 0 _ _ v0 h)
theorem pl_frozen {w : World} {b : Nat} {cs : Array Value} {T : TypeId} (h : w.heap[b]? = some (.cells cs T (0, 0))) (i : Nat) : w.frozen? ⟨b, i, none⟩ = false := by unfold World.frozen?; rw [h]; simp
set_option maxHeartbeats 8000000 in
theorem at_ok (k : Int) (hk : I64 k) {base : Nat} {w : World} {g B P L : Nat} {s : WS} {bm bo bl cap : Nat} (h : WAt base w g B P L s bm bo bl cap) :
    Calls Try.prog 12 #[.pointer (some ⟨g, 0, none⟩), .int .i64 k] w fun e w' => e = .returned (.tuple #[.agg #[.int .i64 (atV s k).1, .int .i64 (atV s k).2], .bool (s.at_ k).isSome]) ∧ Below w.heap.size w w' := by
  have hX := heap_alloc_new w (.cells #[.int .i64 0, .int .i64 0] 30)
  have ha := below_alloc (Below.refl w.heap.size w) (.cells #[.int .i64 0, .int .i64 0] 30)
  have hG := blk_below h.box ha
  have hM := h.mat.below ha
  have HB := Lib.hid ha; clear ha
  clear h
  have hl0 := hM.lookOk keyN Try.underlying60 (zeroPl _) k hk
  have hl : (Instr.lookup 60 (.map (some bm)) (.int .i64 k) true).run Try.prog (w.alloc (.cells #[.int .i64 0, .int .i64 0] 30)) = .ok (.tuple #[.agg #[.int .i64 (atV s k).1, .int .i64 (atV s k).2], .bool (s.at_ k).isSome]) (w.alloc (.cells #[.int .i64 0, .int .i64 0] 30)) := by
    rw [hl0]
    unfold atV ekP
    cases s.at_ k <;> rfl
  clear hl0 hM hk
  obtain ⟨c0, c1, c2, c3, c4, c5⟩ := w6_cells hG
  generalize (atV s k).1 = pa at hl ⊢
  generalize (atV s k).2 = pb at hl ⊢
  generalize (s.at_ k).isSome = ok at hl ⊢
  have hx := blk_alloc (heap_alloc_new w (.cells #[.int .i64 pa, .int .i64 pb] 30)) (.cells #[.int .i64 pa, .int .i64 pb] 30)
  have hbl := below_alloc (below_alloc (Below.refl w.heap.size w) (.cells #[.int .i64 pa, .int .i64 pb] 30)) (.cells #[.int .i64 pa, .int .i64 pb] 30)
  go_enter Try.func12, Try.ntmps12
  go_wp2
  refine bodyPost_ret (results_ct rfl _ _ w.heap.size 30 _ (0, 0) _ rfl hx Try.underlying30 rfl pl_size) rfl ?_
  exact ⟨rfl, hbl⟩
set_option maxHeartbeats 8000000 in
theorem total_ok {base : Nat} {w : World} {g B P L : Nat} {s : WS} {bm bo bl cap : Nat} (h : WAt base w g B P L s bm bo bl cap) :
    Calls Try.prog 14 #[.pointer (some ⟨g, 0, none⟩)] w fun e w' => e = .returned (.int .i64 (s.ca : Int)) ∧ w = w' := by
  obtain ⟨c0, c1, c2, c3, c4, c5⟩ := w6_cells h.box
  have hl := h.mat.len Try.underlying60 3
  clear h
  go_enter Try.func14, Try.ntmps14
  go_wp2
  go_ret
  exact ⟨rfl, rfl⟩
def liveV (s : WS) (B : Nat) (k : Int) : Int := if k < 0 ∨ (B : Int) ≤ k then 0 else s.live.getD k.toNat 0
set_option maxHeartbeats 8000000 in
theorem live_ok (k : Int) {base : Nat} {w : World} {g B P L : Nat} {s : WS} {bm bo bl cap : Nat} (h : WAt base w g B P L s bm bo bl cap) (hlen : s.live.length = B) (hB : B ≤ 1000) :
    Calls Try.prog 13 #[.pointer (some ⟨g, 0, none⟩), .int .i64 k] w fun e w' => e = .returned (.int .i64 (liveV s B k)) ∧ w = w' := by
  obtain ⟨c0, c1, c2, c3, c4, c5⟩ := w6_cells h.box
  by_cases h1 : k < 0
  · have d1 : decide (k < 0) = true := decide_eq_true h1
    have HV := Lib.hid (show liveV s B k = 0 from if_pos (.inl h1))
    clear h
    go_enter Try.func13, Try.ntmps13
    go_wp2
    go_ret
    exact ⟨by rw [HV.out]; rfl, rfl⟩
  · have d1 : decide (k < 0) = false := decide_eq_false h1
    by_cases h2 : (B : Int) ≤ k
    · have d2 : decide ((B : Int) ≤ k) = true := decide_eq_true h2
      have HV := Lib.hid (show liveV s B k = 0 from if_pos (.inr h2))
      clear h
      go_enter Try.func13, Try.ntmps13
      go_wp2
      go_ret
      exact ⟨by rw [HV.out]; rfl, rfl⟩
    · obtain ⟨n, rfl⟩ : ∃ n : Nat, k = (n : Int) := ⟨k.toNat, by omega⟩
      have hn : n < B := by omega
      have d2 : decide ((B : Int) ≤ (n : Int)) = false := decide_eq_false h2
      have d3 : ((n : Int) < (B : Int)) = True := eq_true (by omega)
      have d4 : decide (B ≤ n) = false := decide_eq_false (by omega)
      have d5 : (B ≤ n) = False := eq_false (by omega)
      obtain ⟨cur, q1, q2⟩ := h.lv
      have hc : w.cell? ⟨bl, n, none⟩ = some (.int .i64 (s.live.getD n 0)) := by
        rw [cell_of_row w bl n cur _ (0, 0) q1, q2 n (by omega), List.getD_eq_getElem?_getD, List.getElem?_eq_getElem (by omega)]
        rfl
      have HV := Lib.hid (show liveV s B (n : Int) = s.live.getD n 0 from if_neg (fun e => e.elim h1 h2))
      clear h q1 q2 h1 h2
      generalize s.live.getD n 0 = x at hc HV
      go_enter Try.func13, Try.ntmps13
      go_wp2
      go_ret
      exact ⟨by rw [HV.out]; rfl, rfl⟩
end Go.Proofs.Ythapekmdnokniaa
