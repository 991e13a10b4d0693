/- chart: New; what a chart's own memory holds. Any world. -/
import Derived.Test.YtkmbjfgdjoanjaaXChart
import Derived.Test.YtkmbjfgdjoanjaaXMapV
import Derived.Test.YtkmbjfgdjoanjaaXTouch
namespace Go.Proofs.Ytkmbjfgdjoanjaa
open Go.RowKit Go.Lib Go.Proofs.Ytkmbjfgdjoanjaa.P Go.Proofs.YtkmbjfgdjoanjaaW.PrintWords Go.Proofs.YtkmbjfgdjoanjaaW.PrintLast Go.Proofs.YtkmbjfgdjoanjaaW.PrintMore
set_option linter.unusedVariables false
set_option linter.unusedSimpArgs false
def rg26_5.T : Bool × List (List Nat × List Nat) := (true, [([], []), ([0], [0]), ([1], [1]), ([2], [2]), ([], []), ([4], [4]), ([3, 5], [3, 5]), ([6], [6]), ([7], [7]), ([7], [7]), ([], []), ([10, 8, 0, 1, 2, 3, 4, 5, 6, 7, 8, 10], [8, 10]), ([9, 11, 0, 1, 2, 3, 4, 5, 6, 7, 8, 9, 10, 11], [9])])
def rg26_5.B : List Nat := [0, 1, 3, 7, 0, 16, 63, 127, 255, 255, 0, 1535, 4095]
theorem rg26_5.tab : rtab .any (opsOf Try.f26 5) = rg26_5.T := by kernel_rfl
theorem rg26_5.bits : waitsOk rg26_5.T.2 rg26_5.B = true := by kernel_rfl
def rg26_11.T : Bool × List (List Nat × List Nat) := (true, [([], []), ([0], [0]), ([1], [1]), ([2], [2]), ([], []), ([4], [4]), ([], []), ([3, 5, 6, 0, 1, 2, 3, 4, 5, 6], [3, 5, 6])])
def rg26_11.B : List Nat := [0, 1, 3, 7, 0, 16, 0, 127]
theorem rg26_11.tab : rtab .any (opsOf Try.f26 11) = rg26_11.T := by kernel_rfl
theorem rg26_11.bits : waitsOk rg26_11.T.2 rg26_11.B = true := by kernel_rfl
def encAc (a : Int × Int × ByteArray) : Value := .agg #[.int .i64 a.1, .int .u8 a.2.1, .string a.2.2]
theorem keyAc : KeyE Try.prog 3 (fun k : Int => Value.int .i64 k) I64 := keyE_int Try.underlying3
theorem zeroAc (w : World) : (zeroValue 75).run Try.prog w = .ok (encAc (0, 0, { data := #[] })) w := by rw [Try.zeroValue75]; rfl
def AcAt (w : World) (b c : Nat) (f : Int → Option (Int × Int × ByteArray)) : Prop := MapV Try.prog 3 (fun k : Int => Value.int .i64 k) I64 w b c (fun k => (f k).map encAc)
def ChartAt (w : World) (g m c : Nat) (f : Int → Option (Int × Int × ByteArray)) : Prop :=
  w.heap[g]? = some (.cells #[.map (some m)] 105) ∧ AcAt w m c f
set_option maxHeartbeats 4000000 in
theorem new_ok (w : World) :
    Calls Try.prog 25 #[] w fun e w' => ∃ g m, e = .returned (.pointer (some ⟨g, 0, none⟩)) ∧ w.heap.size ≤ g ∧ w.heap.size ≤ m ∧ g ≠ m ∧ Below w.heap.size w w' ∧ ChartAt w' g m 0 (fun _ => none) := by
  have hmm := @run_makeMap Try.prog
  have f1 := MapV.made (P := Try.prog) (K := 3) (ek := fun k : Int => Value.int .i64 k) (ok := I64) w
  have g2 := below_alloc (Below.refl (w.alloc (.map #[] 0)).heap.size (w.alloc (.map #[] 0))) (.cells #[.map (some w.heap.size)] 105)
  replace f1 := Lib.hid (f1.below g2)
  have hb2 := Lib.hid (below_alloc (below_alloc (Below.refl w.heap.size w) (.map #[] 0)) (.cells #[.map (some w.heap.size)] 105)); clear g2
  go_enter Try.func25, Try.ntmps25
  go_wp2
  go_ret
  refine ⟨_, w.heap.size, rfl, ?_, Nat.le_refl _, ?_, hb2.out, ?_, f1.out⟩
  · simp
  · simp
  · have h := heap_alloc_new (w.alloc (.map #[] 0)) (.cells #[.map (some w.heap.size)] 105)
    rw [show (w.alloc (.map #[] 0)).heap.size = w.heap.size + 1 by simp] at h
    exact h
theorem ac_size : (Try.prog.info? 75).map (·.size) = some 3 := by kernel_rfl
def acV (f : Int → Option (Int × Int × ByteArray)) (k : Int) : Int × Int × ByteArray := (f k).getD (0, 0, { data := #[] })
theorem cell1 {w : World} {g T : Nat} {u : Value} (h : w.heap[g]? = some (.cells #[u] T (0, 0))) : w.cell? ⟨g, 0, none⟩ = some u := by unfold World.cell?; rw [h]; rfl
set_option maxHeartbeats 8000000 in
theorem cget_ok (k : Int) (hk : I64 k) {w : World} {g m c : Nat} {f : Int → Option (Int × Int × ByteArray)} (h : ChartAt w g m c f) :
    Calls Try.prog 28 #[.pointer (some ⟨g, 0, none⟩), .int .i64 k] w fun e w' => e = .returned (.tuple #[encAc (acV f k), .bool (f k).isSome]) ∧ Below w.heap.size w w' := by
  obtain ⟨hb, hm⟩ := h
  have ha := below_alloc (Below.refl w.heap.size w) (.cells #[.int .i64 0, .int .u8 0, .string { data := #[] }] 75)
  have hG := blk_below hb ha
  have hM := MapV.below hm ha
  have hl0 := hM.lookOk keyAc Try.underlying103 (zeroAc _) k hk
  have hl : (Instr.lookup 103 (.map (some m)) (.int .i64 k) true).run Try.prog (w.alloc (.cells #[.int .i64 0, .int .u8 0, .string { data := #[] }] 75)) = .ok (.tuple #[.agg #[.int .i64 (acV f k).1, .int .u8 (acV f k).2.1, .string (acV f k).2.2], .bool (f k).isSome]) (w.alloc (.cells #[.int .i64 0, .int .u8 0, .string { data := #[] }] 75)) := by
    rw [hl0]
    unfold acV
    cases f k <;> rfl
  clear hl0 hM hk hm hb
  have c0 := cell1 hG
  unfold encAc
  generalize (acV f k).1 = pa at hl ⊢
  generalize (acV f k).2.1 = pb at hl ⊢
  generalize (acV f k).2.2 = pc at hl ⊢
  generalize (f k).isSome = ok at hl ⊢
  have hx := blk_alloc (heap_alloc_new w (.cells #[.int .i64 pa, .int .u8 pb, .string pc] 75)) (.cells #[.int .i64 pa, .int .u8 pb, .string pc] 75)
  have hbl := below_alloc (below_alloc (Below.refl w.heap.size w) (.cells #[.int .i64 pa, .int .u8 pb, .string pc] 75)) (.cells #[.int .i64 pa, .int .u8 pb, .string pc] 75)
  go_enter Try.func28, Try.ntmps28
  go_wp2
  refine bodyPost_ret (results_ct rfl _ _ w.heap.size 75 _ (0, 0) _ rfl hx Try.underlying75 rfl ac_size) rfl ?_
  exact ⟨rfl, hbl⟩
theorem w3_cells {w : World} {g T : Nat} {u0 u1 u2 : Value} (h : w.heap[g]? = some (.cells #[u0, u1, u2] T (0, 0))) : w.cell? ⟨g, 0, none⟩ = some u0 ∧ w.cell? ⟨g, 1, none⟩ = some u1 ∧ w.cell? ⟨g, 2, none⟩ = some u2 := by
  refine ⟨?_, ?_, ?_⟩ <;> (unfold World.cell?; rw [h]; rfl)
theorem pl_frozen {w : World} {b : Nat} {cs : Array Value} {T : TypeId} (h : w.heap[b]? = some (.cells cs T (0, 0))) (i : Nat) : w.frozen? ⟨b, i, none⟩ = false := by unfold World.frozen?; rw [h]; simp
theorem blkg {w w' : World} {b g : Nat} {o : Obj} (hg : w.grownBy w' (some b)) (h : w.heap[g]? = some o) (hne : g ≠ b) : w'.heap[g]? = some o :=
  (hg.block g (blk_lt h) (fun e => hne (Option.some.inj e))).trans h
theorem upd_exec {P : Program} {oi : Oper} {f : Operand → Value} {w w' : World} {m st x : Operand} {t : TypeId} {mv sv v : Value} (ho : oi.op = .mapUpdate t m st x) (hm : f m = mv) (hs : f st = sv) (hx : f x = v)
    (hr : (Instr.mapUpdate t mv sv v).run P w = .ok () w') : (execOp f oi).run P w = .ok .skip w' := by
  simp [execOp, ho, hm, hs, hx, hr, Result.andThen]
def acX (k : Int) : Int × Int × ByteArray := (k, 1, { data := #[120] })
set_option maxHeartbeats 8000000 in
set_option maxRecDepth 8000 in
theorem cadd_ok (k : Int) (h1 : 1 ≤ k) (h2 : k ≤ 65535) {w : World} {g m c : Nat} {f : Int → Option (Int × Int × ByteArray)} (h : ChartAt w g m c f) (hgm : g ≠ m) (hn : f k = none) (hc : c < 64) :
    Calls Try.prog 26 #[.pointer (some ⟨g, 0, none⟩), .agg #[.int .i64 k, .int .u8 1, .string { data := #[120] }]] w fun e w' => e = .returned (.int .i64 0) ∧ ChartAt w' g m (c + 1) (fun j => if j = k then some (acX k) else f j) ∧ Touch (fun b => b = m) w w' := by
  obtain ⟨hb, hm⟩ := h
  have hk : I64 k := i64_of k (by omega) (by omega)
  have HK := Lib.hid (And.intro hk (And.intro h1 h2)); clear hk
  have HC := Lib.hid (And.intro hc hn); clear hc
  have HGM := Lib.hid hgm
  have hX := heap_alloc_new w (.cells #[.int .i64 k, .int .u8 1, .string { data := #[120] }] 75)
  have ha := below_alloc (Below.refl w.heap.size w) (.cells #[.int .i64 k, .int .u8 1, .string { data := #[120] }] 75)
  have HG := Lib.hid (blk_below hb ha)
  have HM := Lib.hid (MapV.below hm ha)
  have HT := Lib.hid (Touch.of (fun b => b = m) ha)
  have hgl : g < w.heap.size := lt_of_heap hb
  have hml : m < w.heap.size := MapV.lt hm
  have HL := Lib.hid (And.intro hgl hml)
  clear ha hb hm hgl hml
  go_enter Try.func26, Try.ntmps26
  go_wp2_with fail
  generalize hbx : w.heap.size = bx at hX ⊢
  have HBX := Lib.hid hbx; clear hbx
  generalize w.alloc (.cells #[.int .i64 k, .int .u8 1, .string { data := #[120] }] 75) = wx at hX HG HM HT ⊢
  have HX := Lib.hid hX
  have hX0 := w3_cells hX; obtain ⟨q0, q1, q2⟩ := hX0
  clear hX hn
  refine (right_x k HK.out.2.1 HK.out.2.2 _).mono ?_
  rintro e w1 ⟨rfl, hd⟩
  clear q0 q1 q2
  replace HX := Lib.hid (blk_below HX.out hd)
  replace HG := Lib.hid (blk_below HG.out hd)
  replace HM := Lib.hid (MapV.below HM.out hd)
  replace HT := Lib.hid (HT.out.then_ hd); clear hd
  go_wp2_with fail
  have hS : w1.drew.heap[bx]? = some (.cells #[.int .i64 k, .int .u8 1, .string { data := #[120] }] 75 (0, 0)) ∧ w1.drew.heap[g]? = some (.cells #[.map (some m)] 105 (0, 0)) ∧ AcAt w1.drew m c f := ⟨HX.out, HG.out, HM.out⟩
  replace HT := Lib.hid (show Touch _ w w1.drew from HT.out.drew)
  clear HX HG HM
  refine start_ (n := 13) (S := fun w' => w'.heap[bx]? = some (.cells #[.int .i64 k, .int .u8 1, .string { data := #[120] }] 75 (0, 0)) ∧ w'.heap[g]? = some (.cells #[.map (some m)] 105 (0, 0)) ∧ AcAt w' m c f) (ds := [11]) #[false, false, false, false, false, false, false, false, false, false, false, false, false] (by kernel_rfl) rfl rfl hS (fun hHeld => ?_)
  refine with_tabW rg26_5.tab rg26_5.bits (fun HT_ HW_ => ?_)
  generalize w1.drew = w' at HT hHeld ⊢
  refine pure_ (i := 0) (N := some 15) (v := ?_) (a' := ?_) #[true, false, false, false, false, false, false, false, false, false, false, false, false] rfl rfl (any_of HT_.out (by kernel_rfl)) (fun _ _ _ h => h) (Or.inl ⟨by rfl, ?_⟩) ?_ ?_
  rotate_left
  · intro w'
    go_simp
    try with_reducible rfl
  rotate_left
  · simp (maxSteps := 4000000) only [Act.put, List.setIfInBounds_toArray, List.set_cons_zero, List.set_cons_succ, i64_w, i32_w]
    try rfl
  refine pure_ (i := 1) (N := some 16) (v := ?_) (a' := ?_) #[true, true, false, false, false, false, false, false, false, false, false, false, false] rfl rfl (any_of HT_.out (by kernel_rfl)) (fun _ _ _ h => h) (Or.inl ⟨by rfl, ?_⟩) ?_ ?_
  rotate_left
  · intro w'
    go_simp
    try with_reducible rfl
  rotate_left
  · simp (maxSteps := 4000000) only [Act.put, List.setIfInBounds_toArray, List.set_cons_zero, List.set_cons_succ, i64_w, i32_w]
    try rfl
  refine pure_ (i := 2) (N := some 17) (v := ?_) (a' := ?_) #[true, true, true, false, false, false, false, false, false, false, false, false, false] rfl rfl (any_of HT_.out (by kernel_rfl)) (fun _ _ _ h => h) (Or.inl ⟨by rfl, ?_⟩) ?_ ?_
  rotate_left
  · intro w'
    go_simp
    try with_reducible rfl
  rotate_left
  · simp (maxSteps := 4000000) only [Act.put, List.setIfInBounds_toArray, List.set_cons_zero, List.set_cons_succ, i64_w, i32_w]
    try rfl
  refine pure_ (i := 4) (N := some 19) (v := ?_) (a' := ?_) #[true, true, true, false, true, false, false, false, false, false, false, false, false] rfl rfl (any_of HT_.out (by kernel_rfl)) (fun _ _ _ h => h) (Or.inl ⟨by rfl, ?_⟩) ?_ ?_
  rotate_left
  · intro w'
    go_simp
    try with_reducible rfl
  rotate_left
  · simp (maxSteps := 4000000) only [Act.put, List.setIfInBounds_toArray, List.set_cons_zero, List.set_cons_succ, i64_w, i32_w]
    try rfl
  refine take_ (i := 3) (N := some 18) (v := ?_) (a' := ?_) #[true, true, true, true, true, false, false, false, false, false, false, false, false] rfl rfl (take_ofW HT_.out HW_.out (by kernel_rfl)) (fun _ _ _ h => h) (Or.inl ⟨by rfl, ?_⟩) hHeld ?_ ?_
  rotate_left
  · intro w' hw_
    try dsimp only at hw_
    have c0 := cell1 hw_.2.1
    go_simp
    try with_reducible rfl
  rotate_left
  · simp (maxSteps := 4000000) only [Act.put, List.setIfInBounds_toArray, List.set_cons_zero, List.set_cons_succ, i64_w, i32_w]
    try rfl
  refine take_ (i := 5) (N := some 20) (v := ?_) (a' := ?_) #[true, true, true, true, true, true, false, false, false, false, false, false, false] rfl rfl (take_ofW HT_.out HW_.out (by kernel_rfl)) (fun _ _ _ h => h) (Or.inl ⟨by rfl, ?_⟩) hHeld ?_ ?_
  rotate_left
  · intro w' hw_
    try dsimp only at hw_
    obtain ⟨q0, q1, q2⟩ := w3_cells hw_.1
    go_simp
    try with_reducible rfl
  rotate_left
  · simp (maxSteps := 4000000) only [Act.put, List.setIfInBounds_toArray, List.set_cons_zero, List.set_cons_succ, i64_w, i32_w]
    try rfl
  refine take_ (i := 6) (N := some 21) (v := ?_) (a' := ?_) #[true, true, true, true, true, true, true, false, false, false, false, false, false] rfl rfl (take_ofW HT_.out HW_.out (by kernel_rfl)) (fun _ _ _ h => h) (Or.inl ⟨by rfl, ?_⟩) hHeld ?_ ?_
  rotate_left
  · intro w' hw_
    try dsimp only at hw_
    have hl := MapV.lookOk keyAc hw_.2.2 Try.underlying103 (zeroAc w') k HK.out.1; simp only [HC.out.2, encAc, Option.map_none, Option.getD_none, Option.isSome_none] at hl
    go_simp
    try with_reducible rfl
  rotate_left
  · simp (maxSteps := 4000000) only [Act.put, List.setIfInBounds_toArray, List.set_cons_zero, List.set_cons_succ, i64_w, i32_w]
    try rfl
  refine pure_ (i := 7) (N := some 14) (v := ?_) (a' := ?_) #[true, true, true, true, true, true, true, true, false, false, false, false, false] rfl rfl (any_of HT_.out (by kernel_rfl)) (fun _ _ _ h => h) (Or.inl ⟨by rfl, ?_⟩) ?_ ?_
  rotate_left
  · intro w'
    go_simp
    try with_reducible rfl
  rotate_left
  · simp (maxSteps := 4000000) only [Act.put, List.setIfInBounds_toArray, List.set_cons_zero, List.set_cons_succ, i64_w, i32_w]
    try rfl
  refine pure_ (i := 8) (N := some 22) (v := ?_) (a' := ?_) #[true, true, true, true, true, true, true, true, true, false, false, false, false] rfl rfl (any_of HT_.out (by kernel_rfl)) (fun _ _ _ h => h) (Or.inl ⟨by rfl, ?_⟩) ?_ ?_
  rotate_left
  · intro w'
    go_simp
    try with_reducible rfl
  rotate_left
  · simp (maxSteps := 4000000) only [Act.put, List.setIfInBounds_toArray, List.set_cons_zero, List.set_cons_succ, i64_w, i32_w]
    try rfl
  refine pure_ (i := 9) (N := some 23) (v := ?_) (a' := ?_) #[true, true, true, true, true, true, true, true, true, true, false, false, false] rfl rfl (any_of HT_.out (by kernel_rfl)) (fun _ _ _ h => h) (Or.inl ⟨by rfl, ?_⟩) ?_ ?_
  rotate_left
  · intro w'
    go_simp
    try with_reducible rfl
  rotate_left
  · simp (maxSteps := 4000000) only [Act.put, List.setIfInBounds_toArray, List.set_cons_zero, List.set_cons_succ, i64_w, i32_w]
    try rfl
  refine one_ (i := 10) (N := some 5) #[true, true, true, true, true, true, true, true, true, true, true, false, false] rfl rfl (one_of HT_.out (by kernel_rfl)) (by decide) (fun K hK => ?_)
  refine value_ (v := (.pointer (some ⟨w'.heap.size, 0, none⟩))) (w1 := w'.alloc (.cells #[.int .i64 0, .int .u8 0, .string { data := #[] }] 75)) (by rfl) rfl ?_ ?_
  · (go_simp)
  have ha := below_alloc (Below.refl w'.heap.size w') (.cells #[.int .i64 0, .int .u8 0, .string { data := #[] }] 75)
  have HN := Lib.hid (heap_alloc_new w' (.cells #[.int .i64 0, .int .u8 0, .string { data := #[] }] 75))
  have HTs := Lib.hid HT.out.size
  replace HT := Lib.hid (HT.out.then_ ha)
  have hLg := lt_of_heap hHeld.1
  have hLh := lt_of_heap hHeld.2.1
  have hLm := MapV.lt hHeld.2.2
  have hSS := And.intro (blk_below hHeld.1 ha) (And.intro (blk_below hHeld.2.1 ha) (MapV.below hHeld.2.2 ha))
  clear ha
  generalize w'.alloc (.cells #[.int .i64 0, .int .u8 0, .string { data := #[] }] 75) = w6 at HN HT hSS ⊢
  generalize w'.heap.size = bn at HN HTs hLg hLh hLm ⊢
  refine hK.out _ _ (hSS) (fun hHeld => ?_)
  clear hK K
  refine norm_ (a' := ?_) ?_ ?_
  rotate_left
  · show Act.put _ (some 5) _ = _
    simp (maxSteps := 4000000) only [Act.put, List.setIfInBounds_toArray, List.set_cons_zero, List.set_cons_succ, i64_w, i32_w]
    try rfl
  refine last_ (i := 11) (N := none) #[true, true, true, true, true, true, true, true, true, true, true, true, false] rfl rfl (one_of HT_.out (by kernel_rfl)) (by decide) (fun K hK => ?_)
  refine skip_ (w1 := ((w6.setCell ⟨bn, 0, none⟩ (.int .i64 0)).setCell ⟨bn, 1, none⟩ (.int .u8 0)).setCell ⟨bn, 2, none⟩ (.string { data := #[] })) (by rfl) rfl ?_ ?_
  · (obtain ⟨y0, y1, y2⟩ := w3_cells HN.out; have f0 := fun i => pl_frozen HN.out i; go_simp)
  refine hK.out _ _ ?_
  clear hK K
  refine pure_ (i := 12) (N := some 6) (v := ?_) (a' := ?_) #[true, true, true, true, true, true, true, true, true, true, true, true, true] rfl rfl (any_of HT_.out (by kernel_rfl)) (fun _ _ _ h => h) (Or.inl ⟨by rfl, ?_⟩) ?_ ?_
  rotate_left
  · intro w'
    go_simp
    try with_reducible rfl
  rotate_left
  · simp (maxSteps := 4000000) only [Act.put, List.setIfInBounds_toArray, List.set_cons_zero, List.set_cons_succ, i64_w, i32_w]
    try rfl
  refine done_ (done_of HT_.out (by kernel_rfl)) ?_
  have hge : w.heap.size ≤ bn := HTs.out
  replace HT := Lib.hid (((HT.out.set (g := bn) (i := 0) (.inr hge) (.int .i64 0)).set (g := bn) (i := 1) (.inr hge) (.int .u8 0)).set (g := bn) (i := 2) (.inr hge) (.string { data := #[] }))
  have hA : (((w6.setCell ⟨bn, 0, none⟩ (.int .i64 0)).setCell ⟨bn, 1, none⟩ (.int .u8 0)).setCell ⟨bn, 2, none⟩ (.string { data := #[] })).heap[bx]? = some (.cells #[.int .i64 k, .int .u8 1, .string { data := #[120] }] 75 (0, 0)) := by
    rw [heap_setCell_other _ _ bx _ (Nat.ne_of_lt hLg), heap_setCell_other _ _ bx _ (Nat.ne_of_lt hLg), heap_setCell_other _ _ bx _ (Nat.ne_of_lt hLg)]; exact hSS.1
  have hBq : (((w6.setCell ⟨bn, 0, none⟩ (.int .i64 0)).setCell ⟨bn, 1, none⟩ (.int .u8 0)).setCell ⟨bn, 2, none⟩ (.string { data := #[] })).heap[g]? = some (.cells #[.map (some m)] 105 (0, 0)) := by
    rw [heap_setCell_other _ _ g _ (Nat.ne_of_lt hLh), heap_setCell_other _ _ g _ (Nat.ne_of_lt hLh), heap_setCell_other _ _ g _ (Nat.ne_of_lt hLh)]; exact hSS.2.1
  have hCq : AcAt (((w6.setCell ⟨bn, 0, none⟩ (.int .i64 0)).setCell ⟨bn, 1, none⟩ (.int .u8 0)).setCell ⟨bn, 2, none⟩ (.string { data := #[] })) m c f := ((MapV.set hSS.2.2 (a := ⟨bn, 0, none⟩) (Nat.ne_of_lt hLm) _).set (a := ⟨bn, 1, none⟩) (Nat.ne_of_lt hLm) _).set (a := ⟨bn, 2, none⟩) (Nat.ne_of_lt hLm) _
  have HA := Lib.hid hA; have HBq := Lib.hid hBq; have HCq := Lib.hid hCq
  clear hA hBq hCq hSS hHeld HN HTs hLg hLh hLm hge hS
  generalize ((w6.setCell ⟨bn, 0, none⟩ (.int .i64 0)).setCell ⟨bn, 1, none⟩ (.int .u8 0)).setCell ⟨bn, 2, none⟩ (.string { data := #[] }) = w7 at HT HA HBq HCq ⊢
  have c0 := cell1 HBq.out
  obtain ⟨q0, q1, q2⟩ := w3_cells HA.out
  have hl := HCq.out.len Try.underlying103 3
  have d64 : decide ((64 : Int) ≤ (c : Int)) = false := decide_eq_false (by have := HC.out.1; omega)
  go_wp2_with fail
  refine (clone_x _).mono ?_
  rintro e w8 ⟨rfl, hd⟩
  clear c0 q0 q1 q2 hl d64
  replace HA := Lib.hid (blk_below HA.out hd)
  replace HBq := Lib.hid (blk_below HBq.out hd)
  replace HCq := Lib.hid (show AcAt w8 m c f from MapV.below HCq.out hd)
  replace HT := Lib.hid (HT.out.then_ hd); clear hd
  obtain ⟨q0, q1, q2⟩ := w3_cells HA.out
  have f0 := fun i => pl_frozen HA.out i
  go_wp2_with fail
  clear q0 q1 q2 f0
  have hbq : w.heap.size ≤ bx := Nat.le_of_eq HBX.out
  have hgx : g ≠ bx := Nat.ne_of_lt (HBX.out ▸ HL.out.1)
  have hmx : m ≠ bx := Nat.ne_of_lt (HBX.out ▸ HL.out.2)
  have hS : ((w8.setCell ⟨bx, 2, none⟩ (.string { data := #[120] })).drew).heap[bx]? = some (.cells #[.int .i64 k, .int .u8 1, .string { data := #[120] }] 75 (0, 0)) ∧ ((w8.setCell ⟨bx, 2, none⟩ (.string { data := #[120] })).drew).heap[g]? = some (.cells #[.map (some m)] 105 (0, 0)) := by
    refine ⟨heap_setCell_same _ bx 2 _ _ _ HA.out, ?_⟩
    show (w8.setCell ⟨bx, 2, none⟩ (.string { data := #[120] })).heap[g]? = _
    rw [heap_setCell_other _ _ g _ hgx]; exact HBq.out
  replace HT := Lib.hid (HT.out.set (g := bx) (i := 2) (.inr hbq) (.string { data := #[120] })).drew
  replace HCq := Lib.hid (show AcAt (w8.setCell ⟨bx, 2, none⟩ (.string { data := #[120] })).drew m c f from MapV.set HCq.out (a := ⟨bx, 2, none⟩) hmx _)
  have HXX := Lib.hid (And.intro hgx hmx)
  clear hbq hgx hmx HA HBq
  refine start_ (n := 8) (S := fun w' => w'.heap[bx]? = some (.cells #[.int .i64 k, .int .u8 1, .string { data := #[120] }] 75 (0, 0)) ∧ w'.heap[g]? = some (.cells #[.map (some m)] 105 (0, 0))) (ds := []) #[false, false, false, false, false, false, false, false] (by kernel_rfl) rfl rfl hS (fun hHeld => ?_)
  refine with_tabW rg26_11.tab rg26_11.bits (fun HT_ HW_ => ?_)
  generalize (w8.setCell ⟨bx, 2, none⟩ (.string { data := #[120] })).drew = w' at HT HCq hHeld ⊢
  refine pure_ (i := 0) (N := some 35) (v := ?_) (a' := ?_) #[true, false, false, false, false, false, false, false] rfl rfl (any_of HT_.out (by kernel_rfl)) (fun _ _ _ h => h) (Or.inl ⟨by rfl, ?_⟩) ?_ ?_
  rotate_left
  · intro w'
    go_simp
    try with_reducible rfl
  rotate_left
  · simp (maxSteps := 4000000) only [Act.put, List.setIfInBounds_toArray, List.set_cons_zero, List.set_cons_succ, i64_w, i32_w]
    try rfl
  refine pure_ (i := 1) (N := some 36) (v := ?_) (a' := ?_) #[true, true, false, false, false, false, false, false] rfl rfl (any_of HT_.out (by kernel_rfl)) (fun _ _ _ h => h) (Or.inl ⟨by rfl, ?_⟩) ?_ ?_
  rotate_left
  · intro w'
    go_simp
    try with_reducible rfl
  rotate_left
  · simp (maxSteps := 4000000) only [Act.put, List.setIfInBounds_toArray, List.set_cons_zero, List.set_cons_succ, i64_w, i32_w]
    try rfl
  refine pure_ (i := 2) (N := some 37) (v := ?_) (a' := ?_) #[true, true, true, false, false, false, false, false] rfl rfl (any_of HT_.out (by kernel_rfl)) (fun _ _ _ h => h) (Or.inl ⟨by rfl, ?_⟩) ?_ ?_
  rotate_left
  · intro w'
    go_simp
    try with_reducible rfl
  rotate_left
  · simp (maxSteps := 4000000) only [Act.put, List.setIfInBounds_toArray, List.set_cons_zero, List.set_cons_succ, i64_w, i32_w]
    try rfl
  refine pure_ (i := 4) (N := some 39) (v := ?_) (a' := ?_) #[true, true, true, false, true, false, false, false] rfl rfl (any_of HT_.out (by kernel_rfl)) (fun _ _ _ h => h) (Or.inl ⟨by rfl, ?_⟩) ?_ ?_
  rotate_left
  · intro w'
    go_simp
    try with_reducible rfl
  rotate_left
  · simp (maxSteps := 4000000) only [Act.put, List.setIfInBounds_toArray, List.set_cons_zero, List.set_cons_succ, i64_w, i32_w]
    try rfl
  refine take_ (i := 3) (N := some 38) (v := ?_) (a' := ?_) #[true, true, true, true, true, false, false, false] rfl rfl (take_ofW HT_.out HW_.out (by kernel_rfl)) (fun _ _ _ h => h) (Or.inl ⟨by rfl, ?_⟩) hHeld ?_ ?_
  rotate_left
  · intro w' hw_
    try dsimp only at hw_
    have c0 := cell1 hw_.2
    go_simp
    try with_reducible rfl
  rotate_left
  · simp (maxSteps := 4000000) only [Act.put, List.setIfInBounds_toArray, List.set_cons_zero, List.set_cons_succ, i64_w, i32_w]
    try rfl
  refine take_ (i := 5) (N := some 40) (v := ?_) (a' := ?_) #[true, true, true, true, true, true, false, false] rfl rfl (take_ofW HT_.out HW_.out (by kernel_rfl)) (fun _ _ _ h => h) (Or.inl ⟨by rfl, ?_⟩) hHeld ?_ ?_
  rotate_left
  · intro w' hw_
    try dsimp only at hw_
    obtain ⟨q0, q1, q2⟩ := w3_cells hw_.1
    go_simp
    try with_reducible rfl
  rotate_left
  · simp (maxSteps := 4000000) only [Act.put, List.setIfInBounds_toArray, List.set_cons_zero, List.set_cons_succ, i64_w, i32_w]
    try rfl
  refine take_ (i := 6) (N := some 41) (v := ?_) (a' := ?_) #[true, true, true, true, true, true, true, false] rfl rfl (take_ofW HT_.out HW_.out (by kernel_rfl)) (fun _ _ _ h => h) (Or.inl ⟨by rfl, ?_⟩) hHeld ?_ ?_
  rotate_left
  · intro w' hw_
    try dsimp only at hw_
    obtain ⟨q0, q1, q2⟩ := w3_cells hw_.1
    go_simp
    try with_reducible rfl
  rotate_left
  · simp (maxSteps := 4000000) only [Act.put, List.setIfInBounds_toArray, List.set_cons_zero, List.set_cons_succ, i64_w, i32_w]
    try rfl
  refine one_ (i := 7) (N := none) #[true, true, true, true, true, true, true, true] rfl rfl (one_of HT_.out (by kernel_rfl)) (by decide) (fun K hK => ?_)
  obtain ⟨wz, hr, hm3, hg⟩ := MapV.store keyAc HCq.out Try.underlying103 (show c < maxLen by have := HC.out.1; unfold maxLen; omega) k HK.out.1 (encAc (acX k))
  refine skip_ (w1 := wz) (by rfl) rfl ?_ ?_
  · exact upd_exec rfl (by rfl) (by rfl) (by rfl) hr
  clear hr
  have hSS := And.intro (blkg hg hHeld.1 (Ne.symm HXX.out.2)) (blkg hg hHeld.2 HGM.out)
  replace HT := Lib.hid (HT.out.grown hg (fun j hj => by injection hj with hj; subst hj; exact .inl rfl))
  have HM3 := Lib.hid hm3
  clear hm3 hg
  refine hK.out _ _ (hSS) (fun hHeld => ?_)
  clear hK K
  refine done_ (done_of HT_.out (by kernel_rfl)) ?_
  go_wp2
  go_ret
  refine ⟨rfl, ⟨hSS.2, ?_⟩, HT.out⟩
  have h3 := HM3.out
  rw [HC.out.2] at h3
  exact MapV.congr h3 (fun j _ => by by_cases hj : j = k <;> simp [hj])
end Go.Proofs.Ytkmbjfgdjoanjaa
