/- Texts of one chapter, joined: XChart, XChartB, XPostE, XRef21, XRef21B, XPostF, XPostG, XPostH. Each says what it proves, and its conditions. -/
import Derived.Test.YtkmbjfgdjoanjaaXPostC
import Derived.Test.YtkmbjfgdjoanjaaXShelf22
import Derived.Laws.RangeString
import Derived.Laws.RangeAny
import Derived.Test.YtkmbjfgdjoanjaaXMapV
import Derived.Test.YtkmbjfgdjoanjaaXTouch
import Derived.Test.YtkmbjfgdjoanjaaXPostD
import Derived.Test.YtkmbjfgdjoanjaaPx7
import Derived.Laws.BitsLemmas
import Derived.Test.YtkmbjfgdjoanjaaPx8
import Derived.Test.YtkmbjfgdjoanjaaPx9
/-! chart: what layer 22's laws reach of it. No conditions beyond the form's own reach. -/
namespace Go.Proofs.Ytkmbjfgdjoanjaa
open Go.RowKit Go.Lib Go.Proofs.Ytkmbjfgdjoanjaa.P Go.Proofs.YtkmbjfgdjoanjaaW.PrintWords Go.Proofs.YtkmbjfgdjoanjaaW.PrintLast Go.Proofs.YtkmbjfgdjoanjaaW.PrintMore
set_option linter.unusedVariables false
set_option linter.unusedSimpArgs false
--@tables
set_option maxHeartbeats 4000000 in
theorem right_x (k : Int) (h1 : 1 ≤ k) (h2 : k ≤ 65535) (w : World) :
    Calls Try.prog 41 #[.agg #[.int .i64 k, .int .u8 1, .string { data := #[120] }]] w fun e w' => e = .returned (.bool true) ∧ Below w.heap.size w w' := by
  have d1 : decide (k < 1) = false := decide_eq_false (by omega)
  have d2 : decide (65535 < k) = false := decide_eq_false (by omega)
  go_enter Try.func41, Try.ntmps41
  have HB := Lib.hid (below_alloc (Below.refl w.heap.size w) (.cells #[.int .i64 k, .int .u8 1, .string { data := #[120] }] 75))
  go_wp2
  have hsz : (w.alloc (.cells #[.int .i64 k, .int .u8 1, .string { data := #[120] }] 75)).heap.size = w.heap.size + 1 := by simp
  generalize w.alloc (.cells #[.int .i64 k, .int .u8 1, .string { data := #[120] }] 75) = w1 at HB hsz ⊢
  have hn0 : ∀ ty, (Instr.next (.pointer (some ⟨w.heap.size + 1, 0, none⟩)) true ty).run Try.prog (w1.iter { data := #[120] } 0) = .ok (.tuple #[.bool true, .int .i64 0, .int .i32 120]) (w1.iter { data := #[120] } 1) := fun ty => by
    have := run_next_ascii (P := Try.prog) w1 { data := #[120] } 0 ty (by decide) (by decide)
    rw [hsz] at this
    exact this
  have hn1 : ∀ ty, (Instr.next (.pointer (some ⟨w.heap.size + 1, 0, none⟩)) true ty).run Try.prog (w1.iter { data := #[120] } 1) = .ok (.tuple #[.bool false]) (w1.iter { data := #[120] } 1) := fun ty => by
    have := run_next_end (P := Try.prog) w1 { data := #[120] } 1 ty (by decide)
    rw [hsz] at this
    exact this
  have HN0 := Lib.hid hn0; have HN1 := Lib.hid hn1; clear hn0 hn1 d1 d2
  go_loopw [37] (fun t wr => ∃ p : Nat, p ≤ 1 ∧ wr = w1.iter { data := #[120] } p) (fun _ wr => 1 - wr.iterPos (w.heap.size + 1))
  case atStart => exact ⟨0, by decide, rfl⟩
  case round =>
    obtain ⟨p, hp, rfl⟩ := hrel
    rcases (by omega : p = 0 ∨ p = 1) with rfl | rfl
    · have hn := HN0.out
      go_wp2
      go_roundw
      case rel => exact ⟨1, by decide, rfl⟩
      case measure => rw [← hsz]; simp
    · have hn := HN1.out
      go_wp2
      go_ret
      exact ⟨rfl, below_alloc HB.out _⟩
set_option maxHeartbeats 4000000 in
theorem clone_x (w : World) :
    Calls Try.prog 42 #[.string { data := #[120] }] w fun e w' => e = .returned (.string { data := #[120] }) ∧ Below w.heap.size w w' := by
  go_enter Try.func42, Try.ntmps42
  go_wp2_with fail
  refine (sh_clone { data := #[120] } w (by decide)).mono ?_
  rintro e w1 ⟨rfl, HB⟩
  have HB := Lib.hid HB
  go_wp2
  go_ret
  exact ⟨rfl, HB.out⟩
end Go.Proofs.Ytkmbjfgdjoanjaa

/-! chart: New; what a chart's own memory holds. Any world. -/
namespace Go.Proofs.Ytkmbjfgdjoanjaa
open Go.RowKit Go.Lib Go.Proofs.Ytkmbjfgdjoanjaa.P Go.Proofs.YtkmbjfgdjoanjaaW.PrintWords Go.Proofs.YtkmbjfgdjoanjaaW.PrintLast Go.Proofs.YtkmbjfgdjoanjaaW.PrintMore
set_option linter.unusedVariables false
set_option linter.unusedSimpArgs false
def rg26_5.T : Bool × List (List Nat × List Nat) := (true, [([], []), ([0], [0]), ([1], [1]), ([2], [2]), ([], []), ([4], [4]), ([3, 5], [3, 5]), ([6], [6]), ([7], [7]), ([7], [7]), ([], []), ([10, 8, 0, 1, 2, 3, 4, 5, 6, 7, 8, 10], [8, 10]), ([9, 11, 0, 1, 2, 3, 4, 5, 6, 7, 8, 9, 10, 11], [9])])
def rg26_5.B : List Nat := [0, 1, 3, 7, 0, 16, 63, 127, 255, 255, 0, 1535, 4095]
theorem rg26_5.tab : rtab .any (opsOf Try.f26 5) = rg26_5.T := by kernel_rfl
theorem rg26_5.bits : waitsOk rg26_5.T.2 rg26_5.B = true := by kernel_rfl
def rg26_11.T : Bool × List (List Nat × List Nat) := (true, [([], []), ([0], [0]), ([1], [1]), ([2], [2]), ([], []), ([4], [4]), ([], []), ([3, 5, 6, 0, 1, 2, 3, 4, 5, 6], [3, 5, 6])])
def rg26_11.B : List Nat := [0, 1, 3, 7, 0, 16, 0, 127]
theorem rg26_11.tab : rtab .any (opsOf Try.f26 11) = rg26_11.T := by kernel_rfl
theorem rg26_11.bits : waitsOk rg26_11.T.2 rg26_11.B = true := by kernel_rfl
def encAc (a : Int × Int × ByteArray) : Value := .agg #[.int .i64 a.1, .int .u8 a.2.1, .string a.2.2]
theorem keyAc : KeyE Try.prog 3 (fun k : Int => Value.int .i64 k) I64 := keyE_int Try.underlying3
theorem zeroAc (w : World) : (zeroValue 75).run Try.prog w = .ok (encAc (0, 0, { data := #[] })) w := by rw [Try.zeroValue75]; rfl
def AcAt (w : World) (b c : Nat) (f : Int → Option (Int × Int × ByteArray)) : Prop := MapV Try.prog 3 (fun k : Int => Value.int .i64 k) I64 w b c (fun k => (f k).map encAc)
def ChartAt (w : World) (g m c : Nat) (f : Int → Option (Int × Int × ByteArray)) : Prop :=
  w.heap[g]? = some (.cells #[.map (some m)] 105) ∧ AcAt w m c f
set_option maxHeartbeats 4000000 in
theorem new_ok (w : World) :
    Calls Try.prog 25 #[] w fun e w' => ∃ g m, e = .returned (.pointer (some ⟨g, 0, none⟩)) ∧ w.heap.size ≤ g ∧ w.heap.size ≤ m ∧ g ≠ m ∧ Below w.heap.size w w' ∧ ChartAt w' g m 0 (fun _ => none) := by
  have hmm := @run_makeMap Try.prog
  have f1 := MapV.made (P := Try.prog) (K := 3) (ek := fun k : Int => Value.int .i64 k) (ok := I64) w
  have g2 := below_alloc (Below.refl (w.alloc (.map #[] 0)).heap.size (w.alloc (.map #[] 0))) (.cells #[.map (some w.heap.size)] 105)
  replace f1 := Lib.hid (f1.below g2)
  have hb2 := Lib.hid (below_alloc (below_alloc (Below.refl w.heap.size w) (.map #[] 0)) (.cells #[.map (some w.heap.size)] 105)); clear g2
  go_enter Try.func25, Try.ntmps25
  go_wp2
  go_ret
  refine ⟨_, w.heap.size, rfl, ?_, Nat.le_refl _, ?_, hb2.out, ?_, f1.out⟩
  · simp
  · simp
  · have h := heap_alloc_new (w.alloc (.map #[] 0)) (.cells #[.map (some w.heap.size)] 105)
    rw [show (w.alloc (.map #[] 0)).heap.size = w.heap.size + 1 by simp] at h
    exact h
theorem ac_size : (Try.prog.info? 75).map (·.size) = some 3 := by kernel_rfl
def acV (f : Int → Option (Int × Int × ByteArray)) (k : Int) : Int × Int × ByteArray := (f k).getD (0, 0, { data := #[] })
theorem cell1 {w : World} {g T : Nat} {u : Value} (h : w.heap[g]? = some (.cells #[u] T (0, 0))) : w.cell? ⟨g, 0, none⟩ = some u := by unfold World.cell?; rw [h]; rfl
set_option maxHeartbeats 8000000 in
theorem cget_ok (k : Int) (hk : I64 k) {w : World} {g m c : Nat} {f : Int → Option (Int × Int × ByteArray)} (h : ChartAt w g m c f) :
    Calls Try.prog 28 #[.pointer (some ⟨g, 0, none⟩), .int .i64 k] w fun e w' => e = .returned (.tuple #[encAc (acV f k), .bool (f k).isSome]) ∧ Below w.heap.size w w' := by
  obtain ⟨hb, hm⟩ := h
  have ha := below_alloc (Below.refl w.heap.size w) (.cells #[.int .i64 0, .int .u8 0, .string { data := #[] }] 75)
  have hG := blk_below hb ha
  have hM := MapV.below hm ha
  have hl0 := hM.lookOk keyAc Try.underlying103 (zeroAc _) k hk
  have hl : (Instr.lookup 103 (.map (some m)) (.int .i64 k) true).run Try.prog (w.alloc (.cells #[.int .i64 0, .int .u8 0, .string { data := #[] }] 75)) = .ok (.tuple #[.agg #[.int .i64 (acV f k).1, .int .u8 (acV f k).2.1, .string (acV f k).2.2], .bool (f k).isSome]) (w.alloc (.cells #[.int .i64 0, .int .u8 0, .string { data := #[] }] 75)) := by
    rw [hl0]
    unfold acV
    cases f k <;> rfl
  clear hl0 hM hk hm hb
  have c0 := cell1 hG
  unfold encAc
  generalize (acV f k).1 = pa at hl ⊢
  generalize (acV f k).2.1 = pb at hl ⊢
  generalize (acV f k).2.2 = pc at hl ⊢
  generalize (f k).isSome = ok at hl ⊢
  have hx := blk_alloc (heap_alloc_new w (.cells #[.int .i64 pa, .int .u8 pb, .string pc] 75)) (.cells #[.int .i64 pa, .int .u8 pb, .string pc] 75)
  have hbl := below_alloc (below_alloc (Below.refl w.heap.size w) (.cells #[.int .i64 pa, .int .u8 pb, .string pc] 75)) (.cells #[.int .i64 pa, .int .u8 pb, .string pc] 75)
  go_enter Try.func28, Try.ntmps28
  go_wp2
  refine bodyPost_ret (results_ct rfl _ _ w.heap.size 75 _ (0, 0) _ rfl hx Try.underlying75 rfl ac_size) rfl ?_
  exact ⟨rfl, hbl⟩
theorem w3_cells {w : World} {g T : Nat} {u0 u1 u2 : Value} (h : w.heap[g]? = some (.cells #[u0, u1, u2] T (0, 0))) : w.cell? ⟨g, 0, none⟩ = some u0 ∧ w.cell? ⟨g, 1, none⟩ = some u1 ∧ w.cell? ⟨g, 2, none⟩ = some u2 := by
  refine ⟨?_, ?_, ?_⟩ <;> (unfold World.cell?; rw [h]; rfl)
theorem pl_frozen {w : World} {b : Nat} {cs : Array Value} {T : TypeId} (h : w.heap[b]? = some (.cells cs T (0, 0))) (i : Nat) : w.frozen? ⟨b, i, none⟩ = false := by unfold World.frozen?; rw [h]; simp
theorem blkg {w w' : World} {b g : Nat} {o : Obj} (hg : w.grownBy w' (some b)) (h : w.heap[g]? = some o) (hne : g ≠ b) : w'.heap[g]? = some o :=
  (hg.block g (blk_lt h) (fun e => hne (Option.some.inj e))).trans h
theorem upd_exec {P : Program} {oi : Oper} {f : Operand → Value} {w w' : World} {m st x : Operand} {t : TypeId} {mv sv v : Value} (ho : oi.op = .mapUpdate t m st x) (hm : f m = mv) (hs : f st = sv) (hx : f x = v)
    (hr : (Instr.mapUpdate t mv sv v).run P w = .ok () w') : (execOp f oi).run P w = .ok .skip w' := by
  simp [execOp, ho, hm, hs, hx, hr, Result.andThen]
def acX (k : Int) : Int × Int × ByteArray := (k, 1, { data := #[120] })
set_option maxHeartbeats 8000000 in
set_option maxRecDepth 8000 in
theorem cadd_ok (k : Int) (h1 : 1 ≤ k) (h2 : k ≤ 65535) {w : World} {g m c : Nat} {f : Int → Option (Int × Int × ByteArray)} (h : ChartAt w g m c f) (hgm : g ≠ m) (hn : f k = none) (hc : c < 64) :
    Calls Try.prog 26 #[.pointer (some ⟨g, 0, none⟩), .agg #[.int .i64 k, .int .u8 1, .string { data := #[120] }]] w fun e w' => e = .returned (.int .i64 0) ∧ ChartAt w' g m (c + 1) (fun j => if j = k then some (acX k) else f j) ∧ Touch (fun b => b = m) w w' := by
  obtain ⟨hb, hm⟩ := h
  have hk : I64 k := i64_of k (by omega) (by omega)
  have HK := Lib.hid (And.intro hk (And.intro h1 h2)); clear hk
  have HC := Lib.hid (And.intro hc hn); clear hc
  have HGM := Lib.hid hgm
  have hX := heap_alloc_new w (.cells #[.int .i64 k, .int .u8 1, .string { data := #[120] }] 75)
  have ha := below_alloc (Below.refl w.heap.size w) (.cells #[.int .i64 k, .int .u8 1, .string { data := #[120] }] 75)
  have HG := Lib.hid (blk_below hb ha)
  have HM := Lib.hid (MapV.below hm ha)
  have HT := Lib.hid (Touch.of (fun b => b = m) ha)
  have hgl : g < w.heap.size := lt_of_heap hb
  have hml : m < w.heap.size := MapV.lt hm
  have HL := Lib.hid (And.intro hgl hml)
  clear ha hb hm hgl hml
  go_enter Try.func26, Try.ntmps26
  go_wp2_with fail
  generalize hbx : w.heap.size = bx at hX ⊢
  have HBX := Lib.hid hbx; clear hbx
  generalize w.alloc (.cells #[.int .i64 k, .int .u8 1, .string { data := #[120] }] 75) = wx at hX HG HM HT ⊢
  have HX := Lib.hid hX
  have hX0 := w3_cells hX; obtain ⟨q0, q1, q2⟩ := hX0
  clear hX hn
  refine (right_x k HK.out.2.1 HK.out.2.2 _).mono ?_
  rintro e w1 ⟨rfl, hd⟩
  clear q0 q1 q2
  replace HX := Lib.hid (blk_below HX.out hd)
  replace HG := Lib.hid (blk_below HG.out hd)
  replace HM := Lib.hid (MapV.below HM.out hd)
  replace HT := Lib.hid (HT.out.then_ hd); clear hd
  go_wp2_with fail
  have hS : w1.drew.heap[bx]? = some (.cells #[.int .i64 k, .int .u8 1, .string { data := #[120] }] 75 (0, 0)) ∧ w1.drew.heap[g]? = some (.cells #[.map (some m)] 105 (0, 0)) ∧ AcAt w1.drew m c f := ⟨HX.out, HG.out, HM.out⟩
  replace HT := Lib.hid (show Touch _ w w1.drew from HT.out.drew)
  clear HX HG HM
  refine start_ (n := 13) (S := fun w' => w'.heap[bx]? = some (.cells #[.int .i64 k, .int .u8 1, .string { data := #[120] }] 75 (0, 0)) ∧ w'.heap[g]? = some (.cells #[.map (some m)] 105 (0, 0)) ∧ AcAt w' m c f) (ds := [11]) #[false, false, false, false, false, false, false, false, false, false, false, false, false] (by kernel_rfl) rfl rfl hS (fun hHeld => ?_)
  refine with_tabW rg26_5.tab rg26_5.bits (fun HT_ HW_ => ?_)
  generalize w1.drew = w' at HT hHeld ⊢
  refine pure_ (i := 0) (N := some 15) (v := ?_) (a' := ?_) #[true, false, false, false, false, false, false, false, false, false, false, false, false] rfl rfl (any_of HT_.out (by kernel_rfl)) (fun _ _ _ h => h) (Or.inl ⟨by rfl, ?_⟩) ?_ ?_
  rotate_left
  · intro w'
    go_simp
    try with_reducible rfl
  rotate_left
  · simp (maxSteps := 4000000) only [Act.put, List.setIfInBounds_toArray, List.set_cons_zero, List.set_cons_succ, i64_w, i32_w]
    try rfl
  refine pure_ (i := 1) (N := some 16) (v := ?_) (a' := ?_) #[true, true, false, false, false, false, false, false, false, false, false, false, false] rfl rfl (any_of HT_.out (by kernel_rfl)) (fun _ _ _ h => h) (Or.inl ⟨by rfl, ?_⟩) ?_ ?_
  rotate_left
  · intro w'
    go_simp
    try with_reducible rfl
  rotate_left
  · simp (maxSteps := 4000000) only [Act.put, List.setIfInBounds_toArray, List.set_cons_zero, List.set_cons_succ, i64_w, i32_w]
    try rfl
  refine pure_ (i := 2) (N := some 17) (v := ?_) (a' := ?_) #[true, true, true, false, false, false, false, false, false, false, false, false, false] rfl rfl (any_of HT_.out (by kernel_rfl)) (fun _ _ _ h => h) (Or.inl ⟨by rfl, ?_⟩) ?_ ?_
  rotate_left
  · intro w'
    go_simp
    try with_reducible rfl
  rotate_left
  · simp (maxSteps := 4000000) only [Act.put, List.setIfInBounds_toArray, List.set_cons_zero, List.set_cons_succ, i64_w, i32_w]
    try rfl
  refine pure_ (i := 4) (N := some 19) (v := ?_) (a' := ?_) #[true, true, true, false, true, false, false, false, false, false, false, false, false] rfl rfl (any_of HT_.out (by kernel_rfl)) (fun _ _ _ h => h) (Or.inl ⟨by rfl, ?_⟩) ?_ ?_
  rotate_left
  · intro w'
    go_simp
    try with_reducible rfl
  rotate_left
  · simp (maxSteps := 4000000) only [Act.put, List.setIfInBounds_toArray, List.set_cons_zero, List.set_cons_succ, i64_w, i32_w]
    try rfl
  refine take_ (i := 3) (N := some 18) (v := ?_) (a' := ?_) #[true, true, true, true, true, false, false, false, false, false, false, false, false] rfl rfl (take_ofW HT_.out HW_.out (by kernel_rfl)) (fun _ _ _ h => h) (Or.inl ⟨by rfl, ?_⟩) hHeld ?_ ?_
  rotate_left
  · intro w' hw_
    try dsimp only at hw_
    have c0 := cell1 hw_.2.1
    go_simp
    try with_reducible rfl
  rotate_left
  · simp (maxSteps := 4000000) only [Act.put, List.setIfInBounds_toArray, List.set_cons_zero, List.set_cons_succ, i64_w, i32_w]
    try rfl
  refine take_ (i := 5) (N := some 20) (v := ?_) (a' := ?_) #[true, true, true, true, true, true, false, false, false, false, false, false, false] rfl rfl (take_ofW HT_.out HW_.out (by kernel_rfl)) (fun _ _ _ h => h) (Or.inl ⟨by rfl, ?_⟩) hHeld ?_ ?_
  rotate_left
  · intro w' hw_
    try dsimp only at hw_
    obtain ⟨q0, q1, q2⟩ := w3_cells hw_.1
    go_simp
    try with_reducible rfl
  rotate_left
  · simp (maxSteps := 4000000) only [Act.put, List.setIfInBounds_toArray, List.set_cons_zero, List.set_cons_succ, i64_w, i32_w]
    try rfl
  refine take_ (i := 6) (N := some 21) (v := ?_) (a' := ?_) #[true, true, true, true, true, true, true, false, false, false, false, false, false] rfl rfl (take_ofW HT_.out HW_.out (by kernel_rfl)) (fun _ _ _ h => h) (Or.inl ⟨by rfl, ?_⟩) hHeld ?_ ?_
  rotate_left
  · intro w' hw_
    try dsimp only at hw_
    have hl := MapV.lookOk keyAc hw_.2.2 Try.underlying103 (zeroAc w') k HK.out.1; simp only [HC.out.2, encAc, Option.map_none, Option.getD_none, Option.isSome_none] at hl
    go_simp
    try with_reducible rfl
  rotate_left
  · simp (maxSteps := 4000000) only [Act.put, List.setIfInBounds_toArray, List.set_cons_zero, List.set_cons_succ, i64_w, i32_w]
    try rfl
  refine pure_ (i := 7) (N := some 14) (v := ?_) (a' := ?_) #[true, true, true, true, true, true, true, true, false, false, false, false, false] rfl rfl (any_of HT_.out (by kernel_rfl)) (fun _ _ _ h => h) (Or.inl ⟨by rfl, ?_⟩) ?_ ?_
  rotate_left
  · intro w'
    go_simp
    try with_reducible rfl
  rotate_left
  · simp (maxSteps := 4000000) only [Act.put, List.setIfInBounds_toArray, List.set_cons_zero, List.set_cons_succ, i64_w, i32_w]
    try rfl
  refine pure_ (i := 8) (N := some 22) (v := ?_) (a' := ?_) #[true, true, true, true, true, true, true, true, true, false, false, false, false] rfl rfl (any_of HT_.out (by kernel_rfl)) (fun _ _ _ h => h) (Or.inl ⟨by rfl, ?_⟩) ?_ ?_
  rotate_left
  · intro w'
    go_simp
    try with_reducible rfl
  rotate_left
  · simp (maxSteps := 4000000) only [Act.put, List.setIfInBounds_toArray, List.set_cons_zero, List.set_cons_succ, i64_w, i32_w]
    try rfl
  refine pure_ (i := 9) (N := some 23) (v := ?_) (a' := ?_) #[true, true, true, true, true, true, true, true, true, true, false, false, false] rfl rfl (any_of HT_.out (by kernel_rfl)) (fun _ _ _ h => h) (Or.inl ⟨by rfl, ?_⟩) ?_ ?_
  rotate_left
  · intro w'
    go_simp
    try with_reducible rfl
  rotate_left
  · simp (maxSteps := 4000000) only [Act.put, List.setIfInBounds_toArray, List.set_cons_zero, List.set_cons_succ, i64_w, i32_w]
    try rfl
  refine one_ (i := 10) (N := some 5) #[true, true, true, true, true, true, true, true, true, true, true, false, false] rfl rfl (one_of HT_.out (by kernel_rfl)) (by decide) (fun K hK => ?_)
  refine value_ (v := (.pointer (some ⟨w'.heap.size, 0, none⟩))) (w1 := w'.alloc (.cells #[.int .i64 0, .int .u8 0, .string { data := #[] }] 75)) (by rfl) rfl ?_ ?_
  · (go_simp)
  have ha := below_alloc (Below.refl w'.heap.size w') (.cells #[.int .i64 0, .int .u8 0, .string { data := #[] }] 75)
  have HN := Lib.hid (heap_alloc_new w' (.cells #[.int .i64 0, .int .u8 0, .string { data := #[] }] 75))
  have HTs := Lib.hid HT.out.size
  replace HT := Lib.hid (HT.out.then_ ha)
  have hLg := lt_of_heap hHeld.1
  have hLh := lt_of_heap hHeld.2.1
  have hLm := MapV.lt hHeld.2.2
  have hSS := And.intro (blk_below hHeld.1 ha) (And.intro (blk_below hHeld.2.1 ha) (MapV.below hHeld.2.2 ha))
  clear ha
  generalize w'.alloc (.cells #[.int .i64 0, .int .u8 0, .string { data := #[] }] 75) = w6 at HN HT hSS ⊢
  generalize w'.heap.size = bn at HN HTs hLg hLh hLm ⊢
  refine hK.out _ _ (hSS) (fun hHeld => ?_)
  clear hK K
  refine norm_ (a' := ?_) ?_ ?_
  rotate_left
  · show Act.put _ (some 5) _ = _
    simp (maxSteps := 4000000) only [Act.put, List.setIfInBounds_toArray, List.set_cons_zero, List.set_cons_succ, i64_w, i32_w]
    try rfl
  refine last_ (i := 11) (N := none) #[true, true, true, true, true, true, true, true, true, true, true, true, false] rfl rfl (one_of HT_.out (by kernel_rfl)) (by decide) (fun K hK => ?_)
  refine skip_ (w1 := ((w6.setCell ⟨bn, 0, none⟩ (.int .i64 0)).setCell ⟨bn, 1, none⟩ (.int .u8 0)).setCell ⟨bn, 2, none⟩ (.string { data := #[] })) (by rfl) rfl ?_ ?_
  · (obtain ⟨y0, y1, y2⟩ := w3_cells HN.out; have f0 := fun i => pl_frozen HN.out i; go_simp)
  refine hK.out _ _ ?_
  clear hK K
  refine pure_ (i := 12) (N := some 6) (v := ?_) (a' := ?_) #[true, true, true, true, true, true, true, true, true, true, true, true, true] rfl rfl (any_of HT_.out (by kernel_rfl)) (fun _ _ _ h => h) (Or.inl ⟨by rfl, ?_⟩) ?_ ?_
  rotate_left
  · intro w'
    go_simp
    try with_reducible rfl
  rotate_left
  · simp (maxSteps := 4000000) only [Act.put, List.setIfInBounds_toArray, List.set_cons_zero, List.set_cons_succ, i64_w, i32_w]
    try rfl
  refine done_ (done_of HT_.out (by kernel_rfl)) ?_
  have hge : w.heap.size ≤ bn := HTs.out
  replace HT := Lib.hid (((HT.out.set (g := bn) (i := 0) (.inr hge) (.int .i64 0)).set (g := bn) (i := 1) (.inr hge) (.int .u8 0)).set (g := bn) (i := 2) (.inr hge) (.string { data := #[] }))
  have hA : (((w6.setCell ⟨bn, 0, none⟩ (.int .i64 0)).setCell ⟨bn, 1, none⟩ (.int .u8 0)).setCell ⟨bn, 2, none⟩ (.string { data := #[] })).heap[bx]? = some (.cells #[.int .i64 k, .int .u8 1, .string { data := #[120] }] 75 (0, 0)) := by
    rw [heap_setCell_other _ _ bx _ (Nat.ne_of_lt hLg), heap_setCell_other _ _ bx _ (Nat.ne_of_lt hLg), heap_setCell_other _ _ bx _ (Nat.ne_of_lt hLg)]; exact hSS.1
  have hBq : (((w6.setCell ⟨bn, 0, none⟩ (.int .i64 0)).setCell ⟨bn, 1, none⟩ (.int .u8 0)).setCell ⟨bn, 2, none⟩ (.string { data := #[] })).heap[g]? = some (.cells #[.map (some m)] 105 (0, 0)) := by
    rw [heap_setCell_other _ _ g _ (Nat.ne_of_lt hLh), heap_setCell_other _ _ g _ (Nat.ne_of_lt hLh), heap_setCell_other _ _ g _ (Nat.ne_of_lt hLh)]; exact hSS.2.1
  have hCq : AcAt (((w6.setCell ⟨bn, 0, none⟩ (.int .i64 0)).setCell ⟨bn, 1, none⟩ (.int .u8 0)).setCell ⟨bn, 2, none⟩ (.string { data := #[] })) m c f := ((MapV.set hSS.2.2 (a := ⟨bn, 0, none⟩) (Nat.ne_of_lt hLm) _).set (a := ⟨bn, 1, none⟩) (Nat.ne_of_lt hLm) _).set (a := ⟨bn, 2, none⟩) (Nat.ne_of_lt hLm) _
  have HA := Lib.hid hA; have HBq := Lib.hid hBq; have HCq := Lib.hid hCq
  clear hA hBq hCq hSS hHeld HN HTs hLg hLh hLm hge hS
  generalize ((w6.setCell ⟨bn, 0, none⟩ (.int .i64 0)).setCell ⟨bn, 1, none⟩ (.int .u8 0)).setCell ⟨bn, 2, none⟩ (.string { data := #[] }) = w7 at HT HA HBq HCq ⊢
  have c0 := cell1 HBq.out
  obtain ⟨q0, q1, q2⟩ := w3_cells HA.out
  have hl := HCq.out.len Try.underlying103 3
  have d64 : decide ((64 : Int) ≤ (c : Int)) = false := decide_eq_false (by have := HC.out.1; omega)
  go_wp2_with fail
  refine (clone_x _).mono ?_
  rintro e w8 ⟨rfl, hd⟩
  clear c0 q0 q1 q2 hl d64
  replace HA := Lib.hid (blk_below HA.out hd)
  replace HBq := Lib.hid (blk_below HBq.out hd)
  replace HCq := Lib.hid (show AcAt w8 m c f from MapV.below HCq.out hd)
  replace HT := Lib.hid (HT.out.then_ hd); clear hd
  obtain ⟨q0, q1, q2⟩ := w3_cells HA.out
  have f0 := fun i => pl_frozen HA.out i
  go_wp2_with fail
  clear q0 q1 q2 f0
  have hbq : w.heap.size ≤ bx := Nat.le_of_eq HBX.out
  have hgx : g ≠ bx := Nat.ne_of_lt (HBX.out ▸ HL.out.1)
  have hmx : m ≠ bx := Nat.ne_of_lt (HBX.out ▸ HL.out.2)
  have hS : ((w8.setCell ⟨bx, 2, none⟩ (.string { data := #[120] })).drew).heap[bx]? = some (.cells #[.int .i64 k, .int .u8 1, .string { data := #[120] }] 75 (0, 0)) ∧ ((w8.setCell ⟨bx, 2, none⟩ (.string { data := #[120] })).drew).heap[g]? = some (.cells #[.map (some m)] 105 (0, 0)) := by
    refine ⟨heap_setCell_same _ bx 2 _ _ _ HA.out, ?_⟩
    show (w8.setCell ⟨bx, 2, none⟩ (.string { data := #[120] })).heap[g]? = _
    rw [heap_setCell_other _ _ g _ hgx]; exact HBq.out
  replace HT := Lib.hid (HT.out.set (g := bx) (i := 2) (.inr hbq) (.string { data := #[120] })).drew
  replace HCq := Lib.hid (show AcAt (w8.setCell ⟨bx, 2, none⟩ (.string { data := #[120] })).drew m c f from MapV.set HCq.out (a := ⟨bx, 2, none⟩) hmx _)
  have HXX := Lib.hid (And.intro hgx hmx)
  clear hbq hgx hmx HA HBq
  refine start_ (n := 8) (S := fun w' => w'.heap[bx]? = some (.cells #[.int .i64 k, .int .u8 1, .string { data := #[120] }] 75 (0, 0)) ∧ w'.heap[g]? = some (.cells #[.map (some m)] 105 (0, 0))) (ds := []) #[false, false, false, false, false, false, false, false] (by kernel_rfl) rfl rfl hS (fun hHeld => ?_)
  refine with_tabW rg26_11.tab rg26_11.bits (fun HT_ HW_ => ?_)
  generalize (w8.setCell ⟨bx, 2, none⟩ (.string { data := #[120] })).drew = w' at HT HCq hHeld ⊢
  refine pure_ (i := 0) (N := some 35) (v := ?_) (a' := ?_) #[true, false, false, false, false, false, false, false] rfl rfl (any_of HT_.out (by kernel_rfl)) (fun _ _ _ h => h) (Or.inl ⟨by rfl, ?_⟩) ?_ ?_
  rotate_left
  · intro w'
    go_simp
    try with_reducible rfl
  rotate_left
  · simp (maxSteps := 4000000) only [Act.put, List.setIfInBounds_toArray, List.set_cons_zero, List.set_cons_succ, i64_w, i32_w]
    try rfl
  refine pure_ (i := 1) (N := some 36) (v := ?_) (a' := ?_) #[true, true, false, false, false, false, false, false] rfl rfl (any_of HT_.out (by kernel_rfl)) (fun _ _ _ h => h) (Or.inl ⟨by rfl, ?_⟩) ?_ ?_
  rotate_left
  · intro w'
    go_simp
    try with_reducible rfl
  rotate_left
  · simp (maxSteps := 4000000) only [Act.put, List.setIfInBounds_toArray, List.set_cons_zero, List.set_cons_succ, i64_w, i32_w]
    try rfl
  refine pure_ (i := 2) (N := some 37) (v := ?_) (a' := ?_) #[true, true, true, false, false, false, false, false] rfl rfl (any_of HT_.out (by kernel_rfl)) (fun _ _ _ h => h) (Or.inl ⟨by rfl, ?_⟩) ?_ ?_
  rotate_left
  · intro w'
    go_simp
    try with_reducible rfl
  rotate_left
  · simp (maxSteps := 4000000) only [Act.put, List.setIfInBounds_toArray, List.set_cons_zero, List.set_cons_succ, i64_w, i32_w]
    try rfl
  refine pure_ (i := 4) (N := some 39) (v := ?_) (a' := ?_) #[true, true, true, false, true, false, false, false] rfl rfl (any_of HT_.out (by kernel_rfl)) (fun _ _ _ h => h) (Or.inl ⟨by rfl, ?_⟩) ?_ ?_
  rotate_left
  · intro w'
    go_simp
    try with_reducible rfl
  rotate_left
  · simp (maxSteps := 4000000) only [Act.put, List.setIfInBounds_toArray, List.set_cons_zero, List.set_cons_succ, i64_w, i32_w]
    try rfl
  refine take_ (i := 3) (N := some 38) (v := ?_) (a' := ?_) #[true, true, true, true, true, false, false, false] rfl rfl (take_ofW HT_.out HW_.out (by kernel_rfl)) (fun _ _ _ h => h) (Or.inl ⟨by rfl, ?_⟩) hHeld ?_ ?_
  rotate_left
  · intro w' hw_
    try dsimp only at hw_
    have c0 := cell1 hw_.2
    go_simp
    try with_reducible rfl
  rotate_left
  · simp (maxSteps := 4000000) only [Act.put, List.setIfInBounds_toArray, List.set_cons_zero, List.set_cons_succ, i64_w, i32_w]
    try rfl
  refine take_ (i := 5) (N := some 40) (v := ?_) (a' := ?_) #[true, true, true, true, true, true, false, false] rfl rfl (take_ofW HT_.out HW_.out (by kernel_rfl)) (fun _ _ _ h => h) (Or.inl ⟨by rfl, ?_⟩) hHeld ?_ ?_
  rotate_left
  · intro w' hw_
    try dsimp only at hw_
    obtain ⟨q0, q1, q2⟩ := w3_cells hw_.1
    go_simp
    try with_reducible rfl
  rotate_left
  · simp (maxSteps := 4000000) only [Act.put, List.setIfInBounds_toArray, List.set_cons_zero, List.set_cons_succ, i64_w, i32_w]
    try rfl
  refine take_ (i := 6) (N := some 41) (v := ?_) (a' := ?_) #[true, true, true, true, true, true, true, false] rfl rfl (take_ofW HT_.out HW_.out (by kernel_rfl)) (fun _ _ _ h => h) (Or.inl ⟨by rfl, ?_⟩) hHeld ?_ ?_
  rotate_left
  · intro w' hw_
    try dsimp only at hw_
    obtain ⟨q0, q1, q2⟩ := w3_cells hw_.1
    go_simp
    try with_reducible rfl
  rotate_left
  · simp (maxSteps := 4000000) only [Act.put, List.setIfInBounds_toArray, List.set_cons_zero, List.set_cons_succ, i64_w, i32_w]
    try rfl
  refine one_ (i := 7) (N := none) #[true, true, true, true, true, true, true, true] rfl rfl (one_of HT_.out (by kernel_rfl)) (by decide) (fun K hK => ?_)
  obtain ⟨wz, hr, hm3, hg⟩ := MapV.store keyAc HCq.out Try.underlying103 (show c < maxLen by have := HC.out.1; unfold maxLen; omega) k HK.out.1 (encAc (acX k))
  refine skip_ (w1 := wz) (by rfl) rfl ?_ ?_
  · exact upd_exec rfl (by rfl) (by rfl) (by rfl) hr
  clear hr
  have hSS := And.intro (blkg hg hHeld.1 (Ne.symm HXX.out.2)) (blkg hg hHeld.2 HGM.out)
  replace HT := Lib.hid (HT.out.grown hg (fun j hj => by injection hj with hj; subst hj; exact .inl rfl))
  have HM3 := Lib.hid hm3
  clear hm3 hg
  refine hK.out _ _ (hSS) (fun hHeld => ?_)
  clear hK K
  refine done_ (done_of HT_.out (by kernel_rfl)) ?_
  go_wp2
  go_ret
  refine ⟨rfl, ⟨hSS.2, ?_⟩, HT.out⟩
  have h3 := HM3.out
  rw [HC.out.2] at h3
  exact MapV.congr h3 (fun j _ => by by_cases hj : j = k <;> simp [hj])
end Go.Proofs.Ytkmbjfgdjoanjaa

/-! post: Check, by a chart of the accounts 1 to 5. No conditions beyond the form's own reach. -/
namespace Go.Proofs.Ytkmbjfgdjoanjaa
open Go.RowKit Go.Lib Go.Proofs.Ytkmbjfgdjoanjaa.P Go.Proofs.YtkmbjfgdjoanjaaW.PrintWords Go.Proofs.YtkmbjfgdjoanjaaW.PrintLast Go.Proofs.YtkmbjfgdjoanjaaW.PrintMore
set_option linter.unusedVariables false
set_option linter.unusedSimpArgs false
--@tables
def nzL (p : Ln) : Bool := decide (p.2 ≠ 0)
def acL (p : Ln) : Bool := decide (1 ≤ p.1 ∧ p.1 ≤ 5)
def chkV (xs : List Ln) : Int := if xs.length < 2 ∨ 8 < xs.length then 2 else if xs.all nzL = false then 2 else if xs.all acL = false then 19 else if allS xs = 0 then 0 else 18
theorem all_false (p : Ln → Bool) (xs : List Ln) (j : Nat) (h : j < xs.length) (hb : p xs[j] = false) : xs.all p = false := by
  rw [List.all_eq_false]
  exact ⟨xs[j], List.getElem_mem h, by rw [hb]; decide⟩
theorem ret_int {a b : Int} (h : a = b) : Ending.returned (.int .i64 a) = .returned (.int .i64 b) := by rw [h]
def Five (f : Int → Option (Int × Int × ByteArray)) : Prop := ∀ k, (f k).isSome = decide (1 ≤ k ∧ k ≤ 5)
theorem ChartAt.below {w w' : World} {g m c : Nat} {f : Int → Option (Int × Int × ByteArray)} (h : ChartAt w g m c f) (hb : Below w.heap.size w w') : ChartAt w' g m c f := ⟨blk_below h.1 hb, MapV.below h.2 hb⟩
set_option maxHeartbeats 8000000 in
theorem check_ok (xs : List Ln) (hn : xs.length ≤ 100) (hin : LnIn xs) (v : Value) {w : World} {g m c : Nat} {f : Int → Option (Int × Int × ByteArray)} (hr : RowS encL w v xs) (hc : ChartAt w g m c f) (hf : Five f) :
    Calls Try.prog 12 #[v, .pointer (some ⟨g, 0, none⟩)] w fun e w' => e = .returned (.int .i64 (chkV xs)) ∧ Below w.heap.size w w' := by
  obtain ⟨va, vc, rfl, _⟩ := hr.len
  obtain ⟨V, hV⟩ : ∃ V, V = chkV xs := ⟨_, rfl⟩
  rw [← hV]
  have HV := Lib.hid hV; clear hV
  have HR := Lib.hid hr; clear hr
  have HC := Lib.hid hc; clear hc
  have HF := Lib.hid hf; clear hf
  have HI := Lib.hid hin; clear hin
  have HN := Lib.hid hn
  by_cases h2 : xs.length < 2
  · have c1 : decide ((xs.length : Int) < 2) = true := decide_eq_true (by omega)
    have c2 : decide (xs.length < 2) = true := decide_eq_true h2
    have c3 : ((xs.length : Int) < 2) = True := eq_true (by omega)
    have HE := Lib.hid (show V = 2 by rw [HV.out]; exact if_pos (.inl h2))
    go_enter Try.func12, Try.ntmps12
    go_wp2
    go_ret
    exact ⟨ret_int HE.out.symm, Below.refl _ _⟩
  by_cases h8 : 8 < xs.length
  · have c1 : decide ((xs.length : Int) < 2) = false := decide_eq_false (by omega)
    have c2 : decide (xs.length < 2) = false := decide_eq_false h2
    have c3 : decide ((8 : Int) < (xs.length : Int)) = true := decide_eq_true (by omega)
    have c4 : decide (8 < xs.length) = true := decide_eq_true h8
    have HE := Lib.hid (show V = 2 by rw [HV.out]; exact if_pos (.inr h8))
    go_enter Try.func12, Try.ntmps12
    go_wp2
    go_ret
    exact ⟨ret_int HE.out.symm, Below.refl _ _⟩
  have HE := Lib.hid (show V = if xs.all nzL = false then 2 else if xs.all acL = false then 19 else if allS xs = 0 then 0 else 18 by rw [HV.out]; exact if_neg (by rintro (h | h) <;> omega))
  have c1 : decide ((xs.length : Int) < 2) = false := decide_eq_false (by omega)
  have c2 : decide (xs.length < 2) = false := decide_eq_false h2
  have c3 : decide ((8 : Int) < (xs.length : Int)) = false := decide_eq_false (by omega)
  have c4 : decide (8 < xs.length) = false := decide_eq_false h8
  clear hn h2 h8 HV
  go_enter Try.func12, Try.ntmps12
  go_wp2_with fail
  clear c1 c2 c3 c4
  go_loopw [27] (fun i wr => ∃ j : Nat, j ≤ xs.length ∧ i = .int .i64 (j : Int) ∧ (xs.take j).all nzL = true ∧ Below w.heap.size w wr) (fun i _ => xs.length - (RowKit.intOf i).toNat)
  case atStart => exact ⟨0, Nat.zero_le _, rfl, rfl, Below.refl _ _⟩
  case round =>
    obtain ⟨j, hj, rfl, h0, h2⟩ := hrel
    have HA := Lib.hid h0; clear h0
    have HB := Lib.hid h2; clear h2
    by_cases hlt : j < xs.length
    · obtain ⟨gp, off, cap, hv, k0, k1⟩ := ln_at (HR.out.below HB.out) j hlt
      simp only [Value.slice.injEq, true_and] at hv
      obtain ⟨rfl, rfl⟩ := hv
      have e3 : wrap64 ((j : Int) + 1) = ((j + 1 : Nat) : Int) := wrap_succP j (Nat.lt_of_lt_of_le hlt (Nat.le_trans HN.out (by decide)))
      have HAs := Lib.hid (all_take_succ nzL xs j hlt HA.out)
      have HBd := Lib.hid (all_false nzL xs j hlt)
      generalize xs[j] = p at k0 k1 HAs HBd
      obtain ⟨a, mm⟩ := p
      simp only at k0 k1
      have ha := below_alloc (Below.refl wr.heap.size wr) (.cells #[.int .i64 a, .int .i64 mm] 81)
      by_cases hm : mm = 0
      · have HQ := Lib.hid (HBd.out (by unfold nzL; simp [hm]))
        have HQ2 := Lib.hid (show V = 2 by rw [HE.out, if_pos HQ.out])
        replace HB := Lib.hid (chain2 HB.out ha); clear ha
        subst hm
        go_wp2
        go_ret
        exact ⟨ret_int HQ2.out.symm, HB.out⟩
      · have m1 : (mm == 0) = false := by simp [hm]
        have m2 : (mm = 0) = False := eq_false hm
        have HQ := Lib.hid (HAs.out (by unfold nzL; simp [hm]))
        replace HB := Lib.hid (chain2 HB.out ha); clear ha hm
        go_wp2_with fail
        go_roundw
        case rel => exact ⟨j + 1, hlt, by first | rw [e3] | rfl, HQ.out, HB.out⟩
        case measure => (first | rw [e3] | rw [show ((j : Int) + 1) = ((j + 1 : Nat) : Int) from rfl]); simp only [RowKit.intOf, Int.toNat_natCast]; exact Nat.sub_lt_sub_left hlt (Nat.lt_succ_self j)
    · obtain rfl : j = xs.length := Nat.le_antisymm hj (Nat.le_of_not_lt hlt)
      rw [List.take_length] at HA
      replace HE := Lib.hid (show V = if xs.all acL = false then 19 else if allS xs = 0 then 0 else 18 by rw [HE.out, if_neg (by rw [HA.out]; decide)])
      clear HA hlt hj
      go_wp2_with fail
      go_loopw [37] (fun i w2 => ∃ j : Nat, j ≤ xs.length ∧ i = .int .i64 (j : Int) ∧ (xs.take j).all acL = true ∧ Below w.heap.size w w2) (fun i _ => xs.length - (RowKit.intOf i).toNat)
      case atStart => exact ⟨0, Nat.zero_le _, rfl, rfl, HB.out⟩
      case round =>
        clear HB
        obtain ⟨j, hj, rfl, h0, h2⟩ := hrel
        have HA := Lib.hid h0; clear h0
        have HB := Lib.hid h2; clear h2
        by_cases hlt : j < xs.length
        · obtain ⟨gp, off, cap, hv, k0, k1⟩ := ln_at (HR.out.below HB.out) j hlt
          simp only [Value.slice.injEq, true_and] at hv
          obtain ⟨rfl, rfl⟩ := hv
          have e3 : wrap64 ((j : Int) + 1) = ((j + 1 : Nat) : Int) := wrap_succP j (Nat.lt_of_lt_of_le hlt (Nat.le_trans HN.out (by decide)))
          have HAs := Lib.hid (all_take_succ acL xs j hlt HA.out)
          have HBd := Lib.hid (all_false acL xs j hlt)
          have hpi := HI.out xs[j] (List.getElem_mem hlt)
          generalize xs[j] = p at k0 k1 HAs HBd hpi
          obtain ⟨a, mm⟩ := p
          simp only at k0 k1 hpi
          have HPi := Lib.hid hpi; clear hpi
          have ha := below_alloc (Below.refl wr.heap.size wr) (.cells #[.int .i64 a, .int .i64 mm] 81)
          replace HB := Lib.hid (chain2 HB.out ha); clear ha
          go_wp2_with fail
          generalize wr.alloc (.cells #[.int .i64 a, .int .i64 mm] 81) = w3 at HB ⊢
          refine (cget_ok a (i64_of a HPi.out.1.1 HPi.out.1.2) (HC.out.below HB.out)).mono ?_
          rintro e w4 ⟨rfl, hd⟩
          replace HB := Lib.hid (chain2 HB.out hd); clear hd k0 k1
          unfold encAc
          generalize acV f a = q
          obtain ⟨q0, q1, q2⟩ := q
          have hs := HF.out a
          have ha := below_alloc (Below.refl w4.heap.size w4) (.cells #[.int .i64 q0, .int .u8 q1, .string q2] 75)
          replace HB := Lib.hid (chain2 HB.out ha); clear ha
          by_cases hm : 1 ≤ a ∧ a ≤ 5
          · rw [hs, decide_eq_true hm]
            have HQ := Lib.hid (HAs.out (by unfold acL; simp [hm]))
            clear hm hs
            go_wp2_with fail
            go_roundw
            case rel => exact ⟨j + 1, hlt, by first | rw [e3] | rfl, HQ.out, HB.out⟩
            case measure => (first | rw [e3] | rw [show ((j : Int) + 1) = ((j + 1 : Nat) : Int) from rfl]); simp only [RowKit.intOf, Int.toNat_natCast]; exact Nat.sub_lt_sub_left hlt (Nat.lt_succ_self j)
          · rw [hs, decide_eq_false hm]
            have HQ := Lib.hid (HBd.out (by unfold acL; exact decide_eq_false hm))
            have HQ2 := Lib.hid (show V = 19 by rw [HE.out, if_pos HQ.out])
            clear hm hs
            go_wp2
            go_ret
            exact ⟨ret_int HQ2.out.symm, HB.out⟩
        · obtain rfl : j = xs.length := Nat.le_antisymm hj (Nat.le_of_not_lt hlt)
          rw [List.take_length] at HA
          replace HE := Lib.hid (show V = if allS xs = 0 then 0 else 18 by rw [HE.out, if_neg (by rw [HA.out]; decide)])
          clear HA hlt hj
          go_wp2_with fail
          refine (amt_all xs HN.out _ wr (HR.out.below HB.out)).mono ?_
          rintro e w5 ⟨u, rfl, hu, hd⟩
          have HU := Lib.hid hu; clear hu
          replace HB := Lib.hid (chain2 HB.out hd); clear hd
          rw [show xs.filter (fun _ => true) = xs from List.filter_eq_self.2 (fun _ _ => rfl)] at HU
          go_wp2_with fail
          refine (total_ok (xs.map (·.2)) (by rw [List.length_map]; have := HN.out; omega) (fun x hx => by
            obtain ⟨p, hp, rfl⟩ := List.mem_map.1 hx
            exact (HI.out p hp).2) u w5 HU.out).mono ?_
          rintro e w6 ⟨rfl, hd⟩
          replace HB := Lib.hid (chain2 HB.out hd); clear hd HU
          rw [show (xs.map (·.2)).sum = allS xs from rfl]
          generalize allS xs = S at HE ⊢
          by_cases h0 : S = 0
          · subst h0
            rw [show totV 0 = (0, 0) from by decide]
            have HQ2 := Lib.hid (show V = 0 by rw [HE.out]; rfl)
            go_wp2
            go_ret
            exact ⟨ret_int HQ2.out.symm, HB.out⟩
          · have HQ2 := Lib.hid (show V = 18 by rw [HE.out, if_neg h0])
            by_cases hr : -9223372036854775808 ≤ S ∧ S < 9223372036854775808
            · rw [show totV S = (S, 0) from if_pos hr]
              have m1 : (S == 0) = false := by simp [h0]
              have m2 : (S = 0) = False := eq_false h0
              clear hr h0
              go_wp2
              go_ret
              exact ⟨ret_int HQ2.out.symm, HB.out⟩
            · rw [show totV S = (0, 6) from if_neg hr]
              clear hr h0
              go_wp2
              go_ret
              exact ⟨ret_int HQ2.out.symm, HB.out⟩
theorem check_nil (v : Value) (w : World) (hr : ∃ a l c, v = .slice a l c) : Calls Try.prog 12 #[v, .pointer none] w fun e w' => e = .returned (.int .i64 1) ∧ Below w.heap.size w w' := by
  obtain ⟨a, l, c, rfl⟩ := hr
  go_enter Try.func12, Try.ntmps12
  go_wp2
  go_ret
  exact ⟨rfl, Below.refl _ _⟩
end Go.Proofs.Ytkmbjfgdjoanjaa

/-! The document's chart: Add of an account behind all others, named "x" of kind 1. No conditions beyond the form's own reach. -/
namespace Go.Proofs.Ytkmbjfgdjoanjaa
open Go.RowKit Go.Lib Go.Proofs.Ytkmbjfgdjoanjaa.P Go.Proofs.YtkmbjfgdjoanjaaW.PrintWords Go.Proofs.YtkmbjfgdjoanjaaW.PrintLast Go.Proofs.YtkmbjfgdjoanjaaW.PrintMore
set_option linter.unusedVariables false
set_option linter.unusedSimpArgs false
--@tables
abbrev Ac := Int × Int × ByteArray
def encA3 (a : Ac) : List Value := [.int .i64 a.1, .int .u8 a.2.1, .string a.2.2]
theorem encA3_len (a : Ac) : (encA3 a).length = 3 := rfl
def ARow (w : World) (B : Nat) (v : Value) (xs : List Ac) : Prop := w.ownsRow B 79 3 v xs.length (xs.flatMap encA3)
theorem ARow.form {w : World} {B : Nat} {v : Value} {xs : List Ac} (h : ARow w B v xs) : ∃ a c, v = .slice a xs.length c := own_slice h
theorem ARow.below {w w' : World} {B : Nat} {v : Value} {xs : List Ac} (h : ARow w B v xs) (hb : Below w.heap.size w w') : ARow w' B v xs := pw_own_below h hb
theorem ARow.s {w : World} {B : Nat} {v : Value} {xs : List Ac} (h : ARow w B v xs) : RowS encA3 w v xs := RowS.of_owns h
theorem a3_cells {w : World} {b T : Nat} {u0 u1 u2 : Value} (h : w.heap[b]? = some (.cells #[u0, u1, u2] T (0, 0))) : w.cell? ⟨b, 0, none⟩ = some u0 ∧ w.cell? ⟨b, 1, none⟩ = some u1 ∧ w.cell? ⟨b, 2, none⟩ = some u2 := by
  refine ⟨?_, ?_, ?_⟩ <;> (unfold World.cell?; rw [h]; rfl)
theorem a3_info : (Try.prog.info? 79).map (fun i => (i.zero, i.size, i.bytes)) = some (some (.agg #[.int .i64 0, .int .u8 0, .string ByteArray.empty]), 3, 32) := by kernel_rfl
theorem a_add (ty B : Nat) (v : Value) (xs : List Ac) (n : Nat) (hn : xs.length = n) (w : World) (h : ARow w B v xs) (hl : n ≤ 1000) (x : Ac) (bN : Nat) (hN : w.heap[bN]? = some (.cells #[.int .i64 x.1, .int .u8 x.2.1, .string x.2.2] 79 (0, 0))) (hB : B ≤ w.heap.size) :
    ∃ a c w', (Builtin.append_ #[24, 24] ty #[v, .slice (some ⟨bN, 0, none⟩) 1 1]).run Try.prog w = .ok (.slice a (n + 1) c) w' ∧ ARow w' B (.slice a (n + 1) c) (xs ++ [x]) ∧ w.grownBy w' v.ownBlock := by
  subst hn
  obtain ⟨i0, hi, hz0, hz1, hz2⟩ := info_parts a3_info
  obtain ⟨c0, c1, c2⟩ := a3_cells hN
  obtain ⟨v', w', hr, ho, hg, _⟩ := run_append_own w (P := Try.prog) B 24 ty 79 i0 (.agg #[.int .i64 0, .int .u8 0, .string ByteArray.empty]) 3 32 Try.underlying24 hi hz0 hz1 hz2 rfl (by decide) v xs.length (xs.flatMap encA3) h ⟨bN, 0, none⟩ 1 1 (encA3 x) rfl (fun j u hu => by
    rw [Addr.add_lit, Nat.zero_add]
    match j, hu with
    | 0, hu => simp [encA3] at hu; rw [← hu]; exact c0
    | 1, hu => simp [encA3] at hu; rw [← hu]; exact c1
    | 2, hu => simp [encA3] at hu; rw [← hu]; exact c2
    | j + 3, hu => simp [encA3] at hu) (fun u hu => by
      simp only [encA3, List.mem_cons, List.not_mem_nil, or_false] at hu
      obtain rfl | rfl | rfl := hu <;> rfl) (by unfold maxLen; omega) (by omega) hB
  obtain ⟨a, c, rfl⟩ := own_slice ho
  refine ⟨a, c, w', hr, ?_, hg⟩
  unfold ARow
  rw [List.length_append, List.flatMap_append]
  simpa using ho
theorem a_at {w : World} {v : Value} {xs : List Ac} (h : RowS encA3 w v xs) (j : Nat) (hj : j < xs.length) : ∃ g off cap, v = .slice (some ⟨g, off, none⟩) xs.length cap ∧ w.cell? ⟨g, off + j * 3, none⟩ = some (.int .i64 xs[j].1) ∧ w.cell? ⟨g, off + j * 3 + 1, none⟩ = some (.int .u8 xs[j].2.1) ∧ w.cell? ⟨g, off + j * 3 + 2, none⟩ = some (.string xs[j].2.2) := by
  rcases h with ⟨_, rfl⟩ | ⟨g, off, cap, h1, _, _, _, h5⟩
  · exact absurd hj (Nat.not_lt_zero _)
  · refine ⟨g, off, cap, h1, ?_, ?_, ?_⟩
    · exact h5 (j * 3 + 0) _ (flat_get encA3 3 encA3_len xs j 0 hj (by decide))
    · have := h5 (j * 3 + 1) _ (flat_get encA3 3 encA3_len xs j 1 hj (by decide))
      rw [← Nat.add_assoc] at this
      exact this
    · have := h5 (j * 3 + 2) _ (flat_get encA3 3 encA3_len xs j 2 hj (by decide))
      rw [← Nat.add_assoc] at this
      exact this
def s79 (a : Ac) : S79 := ⟨a.1, a.2.1, a.2.2⟩
/-- A row in the printed functions' words. -/
theorem a_C {w : World} {v : Value} {xs : List Ac} (h : RowS encA3 w v xs) : ∃ A c, v = .slice A xs.length c ∧ xs.length ≤ c ∧ Kd.C k79 w A xs.length (xs.map s79) := by
  rcases h with ⟨rfl, rfl⟩ | ⟨g, off, cap, h1, h2, h3, _, h5⟩
  · exact ⟨none, 0, rfl, Nat.le_refl _, rfl, by decide, fun h => absurd h (Nat.lt_irrefl _)⟩
  · refine ⟨_, cap, h1, h2, List.length_map _, by unfold maxLen at h3; omega, fun hn => ⟨⟨g, off, none⟩, rfl, fun j p hj => ?_⟩⟩
    rw [List.getElem?_map] at hj
    obtain ⟨q, hq, rfl⟩ := Option.map_eq_some_iff.1 hj
    obtain ⟨hj', rfl⟩ := List.getElem?_eq_some_iff.1 hq
    refine ⟨encA3 xs[j], rfl, k79_mk w (s79 xs[j]), fun i u hu => ?_⟩
    have hi : i < 3 := (List.getElem?_eq_some_iff.1 hu).1
    rw [Addr.add_lit]
    exact h5 (j * 3 + i) u (by rw [flat_get encA3 3 encA3_len xs j i hj' hi]; exact hu)
def fnd : List Ac → Int → Nat → Int
  | [], _, _ => -1
  | x :: xs, a, i => if x.1 = a then (i : Int) else fnd xs a (i + 1)
theorem find_l0 (l : List Ac) (hl : l.length ≤ 1000) (a : Int) (d : Nat) : ∀ (k i : Nat), i + d = l.length → d < k → tillrollref21_Find.l0 k (l.map s79) a (i : Int) = some (fnd (l.drop i) a i) := by
  induction d with
  | zero =>
    intro k i h hk
    obtain ⟨k, rfl⟩ : ∃ m, k = m + 1 := ⟨k - 1, by omega⟩
    simp only [tillrollref21_Find.l0]
    rw [if_neg (by rw [List.length_map]; omega), List.drop_of_length_le (by omega)]
    rfl
  | succ d ih =>
    intro k i h hk
    obtain ⟨k, rfl⟩ : ∃ m, k = m + 1 := ⟨k - 1, by omega⟩
    have hi : i < l.length := by omega
    simp only [tillrollref21_Find.l0]
    have hrd : rd_T79 (l.map s79) (i : Int) = s79 l[i] := by
      unfold rd_T79
      rw [Int.toNat_natCast, List.getD_eq_getElem?_getD, List.getElem?_map, List.getElem?_eq_getElem hi]
      rfl
    rw [if_pos (by rw [List.length_map]; omega), if_pos (by omega), hrd, List.drop_eq_getElem_cons hi]
    unfold fnd
    show (if l[i].1 = a then _ else _) = _
    by_cases hc : l[i].1 = a
    · rw [if_pos hc, if_pos hc]
    · rw [if_neg hc, if_neg hc, show wrap64 ((i : Int) + 1) = ((i + 1 : Nat) : Int) by unfold wrap64; omega]
      exact ih k (i + 1) (by omega) (by omega)
theorem find_f (l : List Ac) (hl : l.length ≤ 1000) (a : Int) (k : Nat) (hk : 1000 < k) : tillrollref21_Find.f k (l.map s79) a = some (fnd l a 0) := find_l0 l hl a l.length k 0 (by omega) (by omega)
theorem fnd_none (l : List Ac) (a : Int) (h : ∀ x ∈ l, x.1 < a) : ∀ i, fnd l a i = -1 := by
  induction l with
  | nil => intro i; rfl
  | cons x l ih =>
    intro i
    unfold fnd
    have := h x List.mem_cons_self
    rw [if_neg (by omega)]
    exact ih (fun y hy => h y (List.mem_cons_of_mem _ hy)) _
set_option maxHeartbeats 4000000 in
theorem rright_x (k : Int) (h1 : 1 ≤ k) (h2 : k ≤ 65535) (w : World) :
    Calls Try.prog 43 #[.agg #[.int .i64 k, .int .u8 1, .string { data := #[120] }]] w fun e w' => e = .returned (.bool true) ∧ Below w.heap.size w w' := by
  have d1 : decide (k < 1) = false := decide_eq_false (by omega)
  have d2 : decide (65535 < k) = false := decide_eq_false (by omega)
  have HB := Lib.hid (below_alloc (Below.refl w.heap.size w) (.cells #[.int .i64 k, .int .u8 1, .string { data := #[120] }] 79))
  have HX := Lib.hid (heap_alloc_new w (.cells #[.int .i64 k, .int .u8 1, .string { data := #[120] }] 79))
  go_enter Try.func43, Try.ntmps43
  go_wp2_with fail
  clear d1 d2
  generalize w.alloc (.cells #[.int .i64 k, .int .u8 1, .string { data := #[120] }] 79) = w1 at HB HX ⊢
  generalize hb : w.heap.size = b at HX ⊢
  have HBs := Lib.hid hb; clear hb
  go_loopw [3] (fun i wr => ∃ p : Nat, p ≤ 1 ∧ i = .int .i64 (p : Int) ∧ wr = w1) (fun i wr => 1 - (RowKit.intOf i).toNat)
  case atStart => exact ⟨0, by decide, rfl, by first | rfl | trivial⟩
  case round =>
    obtain ⟨p, hp, rfl, rfl⟩ := hrel
    obtain ⟨x0, x1, x2⟩ := a3_cells HX.out
    rcases (by omega : p = 0 ∨ p = 1) with rfl | rfl
    · go_wp2
      go_roundw
      case rel => exact ⟨1, by decide, rfl, by first | rfl | trivial⟩
      case measure => decide
    · go_wp2
      go_ret
      exact ⟨rfl, HB.out⟩
end Go.Proofs.Ytkmbjfgdjoanjaa

/-! The document's chart: Add of an account behind all others; the law's accounts. No conditions beyond the form's own reach. -/
namespace Go.Proofs.Ytkmbjfgdjoanjaa
open Go.RowKit Go.Lib Go.Proofs.Ytkmbjfgdjoanjaa.P Go.Proofs.YtkmbjfgdjoanjaaW.PrintWords Go.Proofs.YtkmbjfgdjoanjaaW.PrintLast Go.Proofs.YtkmbjfgdjoanjaaW.PrintMore
set_option linter.unusedVariables false
set_option linter.unusedSimpArgs false
def rg27_14.T : Bool × List (List Nat × List Nat) := (true, [([], []), ([0], [0]), ([1], [1]), ([2], [2]), ([2], [2]), ([3, 4, 2], [2, 3, 4]), ([5, 2], [2, 5]), ([6, 2], [2, 6]), ([2], [2]), ([8, 2], [2, 8]), ([7, 9, 2], [2, 7, 9]), ([2, 10], [2, 10])])
def rg27_14.B : List Nat := [0, 1, 3, 7, 7, 31, 63, 127, 7, 263, 1023, 2047]
theorem rg27_14.tab : rtab .any (opsOf Try.f27 14) = rg27_14.T := by kernel_rfl
theorem rg27_14.bits : waitsOk rg27_14.T.2 rg27_14.B = true := by kernel_rfl
theorem ARow.grownA {w w' : World} {B b T : Nat} {v : Value} {rs : List Ac} {cs : Array Value} {fr : Nat × Nat} (h : ARow w B v rs) (hg : w.grownBy w' v.ownBlock) (hb : w.heap[b]? = some (.cells cs T fr)) (hlt : b < B) : w'.heap[b]? = some (.cells cs T fr) :=
  (hg.block b (blk_lt hb) (fun e => by
    have := (World.ownsRow.lt h b e.symm).1
    omega)).trans hb
theorem RowS.grownB {w w' : World} {v : Value} {xs : List Ac} {o : Option Nat} (h : RowS encA3 w v xs) (hg : w.grownBy w' o) (hne : ∀ g, v.ownBlock = some g → o ≠ some g) : RowS encA3 w' v xs := by
  rcases h with h | ⟨g, off, cap, h1, h2, h3, h4, h5⟩
  · exact .inl h
  · subst h1
    exact .inr ⟨g, off, cap, rfl, h2, h3, Nat.lt_of_lt_of_le h4 hg.size, fun j u hu => hg.cell (h5 j u hu) (fun e => hne g rfl e.symm)⟩
set_option maxHeartbeats 16000000 in
set_option maxRecDepth 20000 in
theorem radd_ok (k : Int) (h1 : 1 ≤ k) (h2 : k ≤ 65535) (es : List Ac) (hl : es.length < 64) (hes : ∀ x ∈ es, x.1 < k) (v : Value) (w : World) (hr : RowS encA3 w v es) :
    Calls Try.prog 27 #[v, .agg #[.int .i64 k, .int .u8 1, .string { data := #[120] }]] w fun e w' => ∃ u, e = .returned (.tuple #[u, .int .i64 0]) ∧ ARow w' w.heap.size u (es ++ [(k, 1, { data := #[120] })]) ∧ Below w.heap.size w w' := by
  obtain ⟨va, vc, rfl, _⟩ := hr.len
  have HK := Lib.hid (And.intro (And.intro h1 h2) (And.intro hl hes)); clear h1 h2 hl hes
  have HR := Lib.hid hr; clear hr
  have HX := Lib.hid (heap_alloc_new w (.cells #[.int .i64 k, .int .u8 1, .string { data := #[120] }] 79))
  have ha := below_alloc (Below.refl w.heap.size w) (.cells #[.int .i64 k, .int .u8 1, .string { data := #[120] }] 79)
  replace HR := Lib.hid (HR.out.below ha)
  have HB := Lib.hid ha; clear ha
  go_enter Try.func27, Try.ntmps27
  go_wp2_with fail
  generalize w.alloc (.cells #[.int .i64 k, .int .u8 1, .string { data := #[120] }] 79) = w1 at HX HR HB ⊢
  obtain ⟨b, hb⟩ : ∃ b, b = w.heap.size := ⟨_, rfl⟩
  rw [← hb] at HX ⊢
  have HBs := Lib.hid hb; clear hb
  refine (rright_x k HK.out.1.1 HK.out.1.2 w1).mono ?_
  rintro e w2 ⟨rfl, hd⟩
  replace HX := Lib.hid (blk_below HX.out hd)
  replace HR := Lib.hid (HR.out.below hd)
  replace HB := Lib.hid (chain2 HB.out hd); clear hd
  obtain ⟨x0, x1, x2⟩ := a3_cells HX.out
  go_wp2_with fail
  obtain ⟨A, c, hv, hc, hC⟩ := a_C HR.out
  simp only [Value.slice.injEq, true_and] at hv
  obtain ⟨rfl, rfl⟩ := hv
  have hf := find_f es (by have := HK.out.2.1; omega) k 2000 (by decide)
  rw [fnd_none es k HK.out.2.2 0] at hf
  have hcon := tillrollref21_Find.calls 2000 va vc (es.map s79) k (-1) w2 (by rw [List.length_map]; exact hC) (by rw [List.length_map]; exact hc) hf
  rw [List.length_map] at hcon
  refine hcon.mono ?_
  rintro e w3 ⟨rfl, hd⟩
  replace hd := hd.below
  clear hf hcon hC hc x0 x1 x2
  replace HX := Lib.hid (blk_below HX.out hd)
  replace HR := Lib.hid (HR.out.below hd)
  replace HB := Lib.hid (chain2 HB.out hd); clear hd
  have c1 : decide ((64 : Int) ≤ (es.length : Int)) = false := decide_eq_false (by have := HK.out.2.1; omega)
  have c2 : decide (64 ≤ es.length) = false := decide_eq_false (by have := HK.out.2.1; omega)
  have HBs3 := Lib.hid HB.out.size
  go_wp2_with fail
  clear c1 c2
  go_loopw [8, 9, 10] (fun o dn i wr => ∃ j : Nat, j ≤ es.length ∧ i = .int .i64 (j : Int) ∧ dn = .bool false ∧ ARow wr w3.heap.size o (es.take j) ∧ Below w3.heap.size w3 wr) (fun _ _ i _ => es.length - (RowKit.intOf i).toNat)
  case atStart => exact ⟨0, Nat.zero_le _, rfl, rfl, World.ownsRow_nil _ _ _ _, Below.refl _ _⟩
  case round =>
    obtain ⟨j, hj, rfl, rfl, h1, h2⟩ := hrel
    have HO := Lib.hid h1; clear h1
    have HD := Lib.hid h2; clear h2
    have HMl := Lib.hid (show (es.take j).length = j by rw [List.length_take]; exact Nat.min_eq_left hj)
    obtain ⟨oa, oc, rfl⟩ := HO.out.form
    rw [HMl.out] at HO ⊢
    by_cases hlt : j < es.length
    · obtain ⟨gp, off, cap, hv, k0, k1, k2⟩ := a_at (HR.out.below HD.out) j hlt
      simp only [Value.slice.injEq, true_and] at hv
      obtain ⟨rfl, rfl⟩ := hv
      have HMap := Lib.hid (show es.take (j + 1) = es.take j ++ [es[j]] from List.take_succ_eq_append_getElem hlt)
      have hlk := HK.out.2.2 es[j] (List.getElem_mem hlt)
      have e3 : wrap64 ((j : Int) + 1) = ((j + 1 : Nat) : Int) := wrap_succP j (Nat.lt_trans hlt (Nat.lt_of_lt_of_le HK.out.2.1 (by decide)))
      generalize es[j] = p at k0 k1 k2 HMap hlk
      obtain ⟨p0, p1, p2⟩ := p
      simp only at k0 k1 k2 hlk
      have hXr := blk_below HX.out HD.out
      have g1 : decide (k < p0) = false := decide_eq_false (by omega)
      have HP := Lib.hid (And.intro k0 (And.intro k1 k2)); clear k0 k1 k2 hlk
      go_wp2_with fail
      have hS : wr.drew.heap[b]? = some (.cells #[.int .i64 k, .int .u8 1, .string { data := #[120] }] 79 (0, 0)) ∧ wr.drew.cell? ⟨gp, off + j * 3, none⟩ = some (.int .i64 p0) := ⟨hXr, HP.out.1⟩
      refine start_ (n := 12) (S := fun w' => w'.heap[b]? = some (.cells #[.int .i64 k, .int .u8 1, .string { data := #[120] }] 79 (0, 0)) ∧ w'.cell? ⟨gp, off + j * 3, none⟩ = some (.int .i64 p0)) (ds := []) #[false, false, false, false, false, false, false, false, false, false, false, false] (by kernel_rfl) rfl rfl hS (fun hHeld => ?_)
      refine with_tabW rg27_14.tab rg27_14.bits (fun HT_ HW_ => ?_)
      refine pure_ (i := 0) (N := some 33) (v := ?_) (a' := ?_) #[true, false, false, false, false, false, false, false, false, false, false, false] rfl rfl (any_of HT_.out (by kernel_rfl)) (fun _ _ _ h => h) (Or.inl ⟨by rfl, ?_⟩) ?_ ?_
      rotate_left
      · intro w'
        go_simp
        try with_reducible rfl
      rotate_left
      · simp (maxSteps := 4000000) only [Act.put, List.setIfInBounds_toArray, List.set_cons_zero, List.set_cons_succ, i64_w, i32_w]
        try rfl
      refine pure_ (i := 1) (N := some 34) (v := ?_) (a' := ?_) #[true, true, false, false, false, false, false, false, false, false, false, false] rfl rfl (any_of HT_.out (by kernel_rfl)) (fun _ _ _ h => h) (Or.inl ⟨by rfl, ?_⟩) ?_ ?_
      rotate_left
      · intro w'
        go_simp
        try with_reducible rfl
      rotate_left
      · simp (maxSteps := 4000000) only [Act.put, List.setIfInBounds_toArray, List.set_cons_zero, List.set_cons_succ, i64_w, i32_w]
        try rfl
      refine pure_ (i := 2) (N := some 35) (v := ?_) (a' := ?_) #[true, true, true, false, false, false, false, false, false, false, false, false] rfl rfl (any_of HT_.out (by kernel_rfl)) (fun _ _ _ h => h) (Or.inl ⟨by rfl, ?_⟩) ?_ ?_
      rotate_left
      · intro w'
        go_simp
        try with_reducible rfl
      rotate_left
      · simp (maxSteps := 4000000) only [Act.put, List.setIfInBounds_toArray, List.set_cons_zero, List.set_cons_succ, i64_w, i32_w]
        try rfl
      refine pure_ (i := 3) (N := some 36) (v := ?_) (a' := ?_) #[true, true, true, true, false, false, false, false, false, false, false, false] rfl rfl (any_of HT_.out (by kernel_rfl)) (fun _ _ _ h => h) (Or.inl ⟨by rfl, ?_⟩) ?_ ?_
      rotate_left
      · intro w'
        go_simp
        try with_reducible rfl
      rotate_left
      · simp (maxSteps := 4000000) only [Act.put, List.setIfInBounds_toArray, List.set_cons_zero, List.set_cons_succ, i64_w, i32_w]
        try rfl
      refine pure_ (i := 4) (N := some 37) (v := ?_) (a' := ?_) #[true, true, true, true, true, false, false, false, false, false, false, false] rfl rfl (any_of HT_.out (by kernel_rfl)) (fun _ _ _ h => h) (Or.inl ⟨by rfl, ?_⟩) ?_ ?_
      rotate_left
      · intro w'
        go_simp
        try with_reducible rfl
      rotate_left
      · simp (maxSteps := 4000000) only [Act.put, List.setIfInBounds_toArray, List.set_cons_zero, List.set_cons_succ, i64_w, i32_w]
        try rfl
      refine pure_ (i := 5) (N := some 38) (v := ?_) (a' := ?_) #[true, true, true, true, true, true, false, false, false, false, false, false] rfl rfl (any_of HT_.out (by kernel_rfl)) (fun _ _ _ h => h) (Or.inl ⟨by rfl, ?_⟩) ?_ ?_
      rotate_left
      · intro w'
        go_simp
        try with_reducible rfl
      rotate_left
      · simp (maxSteps := 4000000) only [Act.put, List.setIfInBounds_toArray, List.set_cons_zero, List.set_cons_succ, i64_w, i32_w]
        try rfl
      refine pure_ (i := 6) (N := some 39) (v := ?_) (a' := ?_) #[true, true, true, true, true, true, true, false, false, false, false, false] rfl rfl (any_of HT_.out (by kernel_rfl)) (fun _ _ _ h => h) (Or.inl ⟨by rfl, ?_⟩) ?_ ?_
      rotate_left
      · intro w'
        go_simp
        try with_reducible rfl
      rotate_left
      · simp (maxSteps := 4000000) only [Act.put, List.setIfInBounds_toArray, List.set_cons_zero, List.set_cons_succ, i64_w, i32_w]
        try rfl
      refine pure_ (i := 8) (N := some 41) (v := ?_) (a' := ?_) #[true, true, true, true, true, true, true, false, true, false, false, false] rfl rfl (any_of HT_.out (by kernel_rfl)) (fun _ _ _ h => h) (Or.inl ⟨by rfl, ?_⟩) ?_ ?_
      rotate_left
      · intro w'
        go_simp
        try with_reducible rfl
      rotate_left
      · simp (maxSteps := 4000000) only [Act.put, List.setIfInBounds_toArray, List.set_cons_zero, List.set_cons_succ, i64_w, i32_w]
        try rfl
      refine take_ (i := 7) (N := some 40) (v := ?_) (a' := ?_) #[true, true, true, true, true, true, true, true, true, false, false, false] rfl rfl (take_ofW HT_.out HW_.out (by kernel_rfl)) (fun _ _ _ h => h) (Or.inl ⟨by rfl, ?_⟩) hHeld ?_ ?_
      rotate_left
      · intro w' hw_
        try dsimp only at hw_
        have q0 := hw_.2
        go_simp
        try with_reducible rfl
      rotate_left
      · simp (maxSteps := 4000000) only [Act.put, List.setIfInBounds_toArray, List.set_cons_zero, List.set_cons_succ, i64_w, i32_w]
        try rfl
      refine take_ (i := 9) (N := some 42) (v := ?_) (a' := ?_) #[true, true, true, true, true, true, true, true, true, true, false, false] rfl rfl (take_ofW HT_.out HW_.out (by kernel_rfl)) (fun _ _ _ h => h) (Or.inl ⟨by rfl, ?_⟩) hHeld ?_ ?_
      rotate_left
      · intro w' hw_
        try dsimp only at hw_
        obtain ⟨q0, q1, q2⟩ := a3_cells hw_.1
        go_simp
        try with_reducible rfl
      rotate_left
      · simp (maxSteps := 4000000) only [Act.put, List.setIfInBounds_toArray, List.set_cons_zero, List.set_cons_succ, i64_w, i32_w]
        try rfl
      refine pure_ (i := 10) (N := some 43) (v := ?_) (a' := ?_) #[true, true, true, true, true, true, true, true, true, true, true, false] rfl rfl (any_of HT_.out (by kernel_rfl)) (fun _ _ _ h => h) (Or.inl ⟨by rfl, ?_⟩) ?_ ?_
      rotate_left
      · intro w'
        go_simp
        try with_reducible rfl
      rotate_left
      · simp (maxSteps := 4000000) only [Act.put, List.setIfInBounds_toArray, List.set_cons_zero, List.set_cons_succ, i64_w, i32_w]
        try rfl
      refine pure_ (i := 11) (N := some 44) (v := ?_) (a' := ?_) #[true, true, true, true, true, true, true, true, true, true, true, true] rfl rfl (any_of HT_.out (by kernel_rfl)) (fun _ _ _ h => h) (Or.inl ⟨by rfl, ?_⟩) ?_ ?_
      rotate_left
      · intro w'
        go_simp
        try with_reducible rfl
      rotate_left
      · simp (maxSteps := 4000000) only [Act.put, List.setIfInBounds_toArray, List.set_cons_zero, List.set_cons_succ, i64_w, i32_w]
        try rfl
      refine done_ (done_of HT_.out (by kernel_rfl)) ?_
      clear g1 hS hXr hHeld
      replace HO := Lib.hid (show ARow wr.drew w3.heap.size (.slice oa j oc) (es.take j) from HO.out)
      replace HD := Lib.hid (show Below w3.heap.size w3 wr.drew from below_drew1 HD.out)
      replace HP := Lib.hid (show wr.drew.cell? ⟨gp, off + j * 3, none⟩ = some (.int .i64 p0) ∧ wr.drew.cell? ⟨gp, off + j * 3 + 1, none⟩ = some (.int .u8 p1) ∧ wr.drew.cell? ⟨gp, off + j * 3 + 2, none⟩ = some (.string p2) from HP.out)
      generalize wr.drew = wd at HO HD HP ⊢
      obtain ⟨k0, k1, k2⟩ := HP.out
      have HN := Lib.hid (heap_alloc_new wd (.cells #[.int .i64 p0, .int .u8 p1, .string p2] 79))
      have ha := below_alloc (Below.refl wd.heap.size wd) (.cells #[.int .i64 p0, .int .u8 p1, .string p2] 79)
      replace HO := Lib.hid (HO.out.below ha)
      replace HD := Lib.hid (chain2 HD.out ha); clear ha
      obtain ⟨ax, cx, w4, hr, ho2, hgr⟩ := a_add 24 w3.heap.size _ _ j HMl.out _ HO.out (by have := HK.out.2.1; omega) (p0, p1, p2) wd.heap.size HN.out HD.out.size
      have HRun := Lib.hid hr; clear hr
      go_wp2_with (at_builtin; refine wpList_append_run rfl _ _ 24 rfl _ _ rfl rfl HRun.out ?_)
      clear HRun k0 k1 k2
      replace HD := Lib.hid (pw_below_grown HD.out _ HD.out.size hgr (fun k hk => (World.ownsRow.lt HO.out k hk).1))
      replace HO := Lib.hid ho2; clear ho2 hgr
      go_roundw
      case rel => exact ⟨j + 1, hlt, by first | rw [e3] | rfl, rfl, by rw [HMap.out]; exact HO.out, HD.out⟩
      case measure => (first | rw [e3] | rw [show ((j : Int) + 1) = ((j + 1 : Nat) : Int) from rfl]); simp only [RowKit.intOf, Int.toNat_natCast]; exact Nat.sub_lt_sub_left hlt (Nat.lt_succ_self j)
    · obtain rfl : j = es.length := Nat.le_antisymm hj (Nat.le_of_not_lt hlt)
      rw [List.take_length] at HO HMl
      replace HX := Lib.hid (blk_below HX.out HD.out)
      replace HB := Lib.hid (chain2 HB.out HD.out)
      obtain ⟨x0, x1, x2⟩ := a3_cells HX.out
      have HN := Lib.hid (heap_alloc_new wr (.cells #[.int .i64 k, .int .u8 1, .string { data := #[120] }] 79))
      have ha := below_alloc (Below.refl wr.heap.size wr) (.cells #[.int .i64 k, .int .u8 1, .string { data := #[120] }] 79)
      replace HO := Lib.hid (HO.out.below ha)
      replace HD := Lib.hid (chain2 HD.out ha)
      replace HB := Lib.hid (chain2 HB.out ha); clear ha
      obtain ⟨ax, cx, w4, hr, ho2, hgr⟩ := a_add 24 w3.heap.size _ _ es.length rfl _ HO.out (by have := HK.out.2.1; omega) (k, 1, { data := #[120] }) wr.heap.size HN.out HD.out.size
      have HRun := Lib.hid hr; clear hr
      go_wp2_with (at_builtin; refine wpList_append_run rfl _ _ 24 rfl _ _ rfl rfl HRun.out ?_)
      clear HRun x0 x1 x2
      replace HB := Lib.hid (pw_below_grown HB.out _ HB.out.size hgr (fun k hk => Nat.le_trans HBs3.out (World.ownsRow.lt HO.out k hk).1))
      replace HO := Lib.hid (show ARow w4 w.heap.size (.slice ax (es.length + 1) cx) (es ++ [(k, 1, { data := #[120] })]) from own_weaken ho2 HBs3.out); clear ho2 hgr
      go_ret2
      exact ⟨_, rfl, HO.out, HB.out⟩
end Go.Proofs.Ytkmbjfgdjoanjaa

/-! post: the law's chart of five accounts, and its signs of life. No conditions beyond the form's own reach. -/
namespace Go.Proofs.Ytkmbjfgdjoanjaa
open Go.RowKit Go.Lib Go.Proofs.Ytkmbjfgdjoanjaa.P Go.Proofs.YtkmbjfgdjoanjaaW.PrintWords Go.Proofs.YtkmbjfgdjoanjaaW.PrintLast Go.Proofs.YtkmbjfgdjoanjaaW.PrintMore
set_option linter.unusedVariables false
set_option linter.unusedSimpArgs false
--@tables
def fJ (j : Nat) (k : Int) : Option Ac := if 1 ≤ k ∧ k ≤ (j : Int) then some (acX k) else none
def accL (j : Nat) : List Ac := (List.range j).map (fun i => (((i + 1 : Nat) : Int), 1, { data := #[120] }))
theorem accL_succ (j : Nat) : accL (j + 1) = accL j ++ [(((j + 1 : Nat) : Int), 1, { data := #[120] })] := by unfold accL; rw [List.range_succ, List.map_append]; rfl
theorem accL_len (j : Nat) : (accL j).length = j := by simp [accL]
theorem accL_lt (j : Nat) : ∀ x ∈ accL j, x.1 < ((j + 1 : Nat) : Int) := by
  intro x hx
  unfold accL at hx
  obtain ⟨i, hi, rfl⟩ := List.mem_map.1 hx
  have := List.mem_range.1 hi
  show ((i + 1 : Nat) : Int) < _
  omega
theorem fJ_succ (j : Nat) : (fun k => if k = ((j + 1 : Nat) : Int) then some (acX ((j + 1 : Nat) : Int)) else fJ j k) = fJ (j + 1) := by
  funext k
  unfold fJ
  by_cases h : k = ((j + 1 : Nat) : Int)
  · rw [if_pos h, if_pos (by omega), h]
  · rw [if_neg h]
    by_cases h2 : 1 ≤ k ∧ k ≤ (j : Int)
    · rw [if_pos h2, if_pos (by omega)]
    · rw [if_neg h2, if_neg (by omega)]
theorem five_J : Five (fJ 5) := by
  intro k
  unfold fJ
  by_cases h : 1 ≤ k ∧ k ≤ 5
  · rw [if_pos (by omega), decide_eq_true h]; rfl
  · rw [if_neg (by omega), decide_eq_false h]; rfl
set_option maxHeartbeats 8000000 in
theorem accounts_ok (w : World) :
    Calls Try.prog 7 #[] w fun e w' => ∃ g m u, e = .returned (.tuple #[.pointer (some ⟨g, 0, none⟩), u]) ∧ ChartAt w' g m 5 (fJ 5) ∧ RowS encA3 w' u (accL 5) ∧ Below w.heap.size w w' := by
  go_enter Try.func7, Try.ntmps7
  go_wp2_with fail
  refine (new_ok _).mono ?_
  rintro e w1 ⟨g, m, rfl, hg, hm, hne, hb, hc⟩
  have HG := Lib.hid (And.intro hg (And.intro hm hne))
  have HL := Lib.hid (MapV.lt hc.2)
  have hB := hb
  have HB := Lib.hid hb
  have HC := Lib.hid hc; clear hg hm hne hb hc hB
  go_wp2_with fail
  go_loopw [3, 6] (fun v i wr => ∃ j : Nat, j ≤ 5 ∧ i = .int .i64 (j : Int) ∧ ChartAt wr g m j (fJ j) ∧ ARow wr w1.heap.size v (accL j) ∧ Below w.heap.size w wr ∧ w1.heap.size ≤ wr.heap.size) (fun _ i _ => 5 - (RowKit.intOf i).toNat)
  case atStart =>
    refine ⟨0, Nat.zero_le _, rfl, ?_, World.ownsRow_nil _ _ _ _, HB.out, Nat.le_refl _⟩
    have : fJ 0 = fun _ => none := by funext k; unfold fJ; exact if_neg (by omega)
    rw [this]
    exact HC.out
  case round =>
    obtain ⟨j, hj, rfl, h1, h2, h3, h4⟩ := hrel
    clear HB HC
    have HC := Lib.hid h1; clear h1
    have HA := Lib.hid h2; clear h2
    have HB := Lib.hid h3; clear h3
    have HS := Lib.hid h4; clear h4
    by_cases hlt : j < 5
    · have e3 : wrap64 ((j : Int) + 1) = ((j + 1 : Nat) : Int) := by unfold wrap64; omega
      go_wp2_with fail
      have hcon := cadd_ok ((j + 1 : Nat) : Int) (by omega) (by omega) HC.out HG.out.2.2 (by unfold fJ; exact if_neg (by omega)) (by omega)
      rw [fJ_succ] at hcon
      refine hcon.mono ?_
      rintro e w2 ⟨rfl, hc2, ht⟩
      have HA2 := Lib.hid (show ARow w2 w1.heap.size _ (accL j) from World.ownsRow.kept HA.out ht.grownOne (by
        cases hv : Value.ownBlock _ with
        | none => exact .inl rfl
        | some b =>
          refine .inr (fun e => ?_)
          have h1 := (World.ownsRow.lt HA.out b hv).1
          have h2 := HL.out
          rw [Option.some.inj e] at h1
          omega))
      replace HB := Lib.hid (HB.out.trans (ht.below (base := w.heap.size) (fun k hk => by rw [hk]; exact HG.out.2.1) HB.out.size))
      have HS2 := Lib.hid (Nat.le_trans HS.out ht.size)
      clear hcon ht HA HS
      replace HC := Lib.hid hc2; clear hc2
      go_wp2_with fail
      refine (radd_ok ((j + 1 : Nat) : Int) (by omega) (by omega) (accL j) (by rw [accL_len]; omega) (accL_lt j) _ w2 HA2.out.s).mono ?_
      rintro e w3 ⟨u, rfl, ha, hd⟩
      rw [← accL_succ] at ha
      have HA := Lib.hid (show ARow w3 w1.heap.size u (accL (j + 1)) from own_weaken ha HS2.out); clear ha
      replace HC := Lib.hid (HC.out.below hd)
      replace HB := Lib.hid (chain2 HB.out hd)
      have HS := Lib.hid (Nat.le_trans HS2.out hd.size); clear hd HA2 HS2
      go_wp2_with fail
      go_roundw
      case rel => exact ⟨j + 1, hlt, by first | rw [e3] | rfl, HC.out, HA.out, HB.out, HS.out⟩
      case measure => (first | rw [e3] | rw [show ((j : Int) + 1) = ((j + 1 : Nat) : Int) from rfl]); simp only [RowKit.intOf, Int.toNat_natCast]; exact Nat.sub_lt_sub_left hlt (Nat.lt_succ_self j)
    · obtain rfl : j = 5 := Nat.le_antisymm hj (Nat.le_of_not_lt hlt)
      go_wp2
      go_ret2
      exact ⟨g, m, _, rfl, HC.out, HA.out.s, HB.out⟩
end Go.Proofs.Ytkmbjfgdjoanjaa

/-! post: the law's 'even' and 'same' out of the printed functions. No conditions beyond the form's own reach. -/
namespace Go.Proofs.Ytkmbjfgdjoanjaa
open Go.RowKit Go.Lib Go.Proofs.Ytkmbjfgdjoanjaa.P Go.Proofs.YtkmbjfgdjoanjaaW.PrintWords Go.Proofs.YtkmbjfgdjoanjaaW.PrintLast Go.Proofs.YtkmbjfgdjoanjaaW.PrintMore
set_option linter.unusedVariables false
set_option linter.unusedSimpArgs false
--@tables
theorem lns_C {α : Type} (d : Go.Proofs.YtkmbjfgdjoanjaaW.PrintWords.Kd α) (f : Ln → α) (hsz : d.sz = 2) (hmk : ∀ w p, d.K w (f p) [.int .i64 p.1, .int .i64 p.2]) {w : World} {a : Option Addr} {xs : List Ln} (h : LnsAt w a xs) (hl : xs.length ≤ maxLen) : d.C w a xs.length (xs.map f) := by
  refine ⟨List.length_map _, by unfold maxLen at hl; omega, fun hn => ?_⟩
  obtain ⟨g, off, ha, _, _⟩ := h 0 hn
  refine ⟨⟨g, off, none⟩, ha, fun j p hj => ?_⟩
  rw [List.getElem?_map] at hj
  obtain ⟨q, hq, rfl⟩ := Option.map_eq_some_iff.1 hj
  obtain ⟨hj', rfl⟩ := List.getElem?_eq_some_iff.1 hq
  obtain ⟨g', off', ha', k0, k1⟩ := h j hj'
  rw [ha] at ha'
  simp only [Option.some.injEq, Addr.mk.injEq, and_true] at ha'
  obtain ⟨rfl, rfl⟩ := ha'
  refine ⟨[.int .i64 xs[j].1, .int .i64 xs[j].2], by rw [hsz]; rfl, hmk w xs[j], fun i u hu => ?_⟩
  rw [Addr.add_lit, hsz]
  match i, hu with
  | 0, hu => simp only [List.getElem?_cons_zero, Option.some.injEq] at hu; rw [← hu]; exact k0
  | 1, hu =>
    simp only [List.getElem?_cons_succ, List.getElem?_cons_zero, Option.some.injEq] at hu
    rw [← hu, ← Nat.add_assoc]; exact k1
  | i + 2, hu => simp at hu
theorem reps_flat {α : Type} {R : α → List Value → Prop} (f : α → Ln) (hR : ∀ p c, R p c → c = encL (f p)) (ps : List α) : ∀ cs : List Value, Reps R 2 ps cs → cs = (ps.map f).flatMap encL := by
  induction ps with
  | nil =>
    intro cs h
    have := h.1
    simp at this
    rw [this]; rfl
  | cons p ps ih =>
    intro cs h
    have h0 := hR _ _ (h.2 0 p rfl)
    rw [Nat.zero_mul, List.drop_zero] at h0
    have h1 : Reps R 2 ps (cs.drop 2) := ⟨by have := h.1; rw [List.length_cons] at this; rw [List.length_drop]; omega, fun j q hq => by
      have := h.2 (j + 1) q hq
      rw [List.drop_drop, show 2 + j * 2 = (j + 1) * 2 by omega]
      exact this⟩
    have h2 := ih _ h1
    rw [List.map_cons, List.flatMap_cons, ← h2, ← h0, List.take_append_drop]
theorem R_LRow {α : Type} (d : Go.Proofs.YtkmbjfgdjoanjaaW.PrintWords.Kd α) (f : α → Ln) (hsz : d.sz = 2) (hop : ∀ {w : World} {base : Nat} {ok : Nat → Prop} {x : α} {cs : List Value}, d.M w base ok x cs → cs = encL (f x)) {w : World} {e base : Nat} {ok : Nat → Prop} {v : Value} {xs : List α} (h : d.R e w base ok v xs) : LRow w e base v (xs.map f) := by
  obtain ⟨_, inner, ho, hr⟩ := h
  rw [hsz] at ho hr
  have := reps_flat f (fun p c hp => hop hp) xs inner hr
  unfold LRow
  rw [List.length_map, ← this]
  exact ho
def sW (p : Ln) : S52 := ⟨p.1, p.2⟩
def sP (p : Ln) : S81 := ⟨p.1, p.2⟩
def sR (p : Ln) : S82 := ⟨p.1, p.2⟩
def uW (x : S52) : Ln := (x.f0, x.f1)
def uP (x : S81) : Ln := (x.f0, x.f1)
def uR (x : S82) : Ln := (x.f0, x.f1)
theorem nat_or1 (a : Nat) : a ||| 1 = 2 * (a / 2) + 1 := by
  have h := Nat.two_pow_add_eq_or_of_lt (i := 1) (b := 1) (by decide) (a / 2)
  have h0 := Nat.two_pow_add_eq_or_of_lt (i := 1) (b := a % 2) (Nat.mod_lt _ (by decide)) (a / 2)
  have e : 2 ^ 1 * (a / 2) + a % 2 = a := by rw [Nat.pow_one]; exact Nat.div_add_mod a 2
  rw [e] at h0
  rw [Nat.pow_one] at h
  rcases Nat.mod_two_eq_zero_or_one a with hm | hm
  · rw [hm, Nat.pow_one, Nat.or_zero] at h0
    rw [h, ← h0]
  · rw [hm, Nat.pow_one] at h0
    conv => lhs; rw [h0]
    rw [Nat.or_assoc, Nat.or_self, h]
theorem or1 (t : Int) (h0 : -9223372036854775808 ≤ t) (h1 : t < 9223372036854775808) : Go.bits .or .i64 t 1 = 2 * (t / 2) + 1 := by
  unfold Go.bits
  show IntKind.i64.wrap (((BitVec.ofInt 64 t ||| BitVec.ofInt 64 1).toNat : Nat) : Int) = _
  rw [BitVec.toNat_or, BitVec.toNat_ofInt, BitVec.toNat_ofInt, show ((1 : Int) % ((2 ^ 64 : Nat) : Int)).toNat = 1 from by decide, nat_or1, IntKind.wrap_i64]
  have h2 : ((2 ^ 64 : Nat) : Int) = 18446744073709551616 := by decide
  rw [h2]
  omega
def ev1 (p : Ln) : Ln := (1 + (max 0 p.1) % 5, 2 * (Int.tmod p.2 1000000 / 2) + 1)
theorem ev1_bound (p : Ln) : (1 ≤ (ev1 p).1 ∧ (ev1 p).1 ≤ 5) ∧ -1000001 ≤ (ev1 p).2 ∧ (ev1 p).2 ≤ 1000001 ∧ (ev1 p).2 % 2 = 1 := by
  unfold ev1
  simp only
  have h1 : -1000000 < Int.tmod p.2 1000000 := Int.lt_tmod_of_pos _ (by decide)
  have h2 : Int.tmod p.2 1000000 < 1000000 := Int.tmod_lt_of_pos _ (by decide)
  omega
def evenL (xs : List Ln) : List Ln := if allS ((xs.take 7).map ev1) ≠ 0 ∨ ((xs.take 7).map ev1).length < 2 then (xs.take 7).map ev1 ++ [(5, -allS ((xs.take 7).map ev1))] else (xs.take 7).map ev1
theorem allS_snoc (ys : List Ln) (p : Ln) : allS (ys ++ [p]) = allS ys + p.2 := by
  unfold allS
  rw [List.map_append]
  induction ys.map (·.2) with
  | nil => simp
  | cons x l ih => rw [List.cons_append, List.sum_cons, List.sum_cons, ih]; omega
theorem evS_bound (zs : List Ln) : -(zs.length * 1000001 : Int) ≤ allS (zs.map ev1) ∧ allS (zs.map ev1) ≤ zs.length * 1000001 := by
  induction zs with
  | nil => simp [allS]
  | cons z zs ih =>
    have := ev1_bound z
    unfold allS at ih ⊢
    rw [List.map_cons, List.map_cons, List.sum_cons, List.length_cons]
    omega
theorem even_l0 (zs : List Ln) (hz : zs.length ≤ 7) (d : Nat) : ∀ (k i : Nat), i + d = zs.length → d < k →
    tillrolllaw22_even.l0 k (((zs.take i).map ev1).map sW) (allS ((zs.take i).map ev1)) (zs.map sW) (zs.length : Int) (i : Int) = some ((if allS (zs.map ev1) ≠ 0 ∨ (zs.map ev1).length < 2 then zs.map ev1 ++ [(5, -allS (zs.map ev1))] else zs.map ev1).map sW) := by
  induction d with
  | zero =>
    intro k i h hk
    obtain ⟨k, rfl⟩ : ∃ m, k = m + 1 := ⟨k - 1, by omega⟩
    obtain rfl : i = zs.length := by omega
    rw [List.take_length]
    have hb := evS_bound zs
    simp only [tillrolllaw22_even.l0]
    rw [if_neg (by omega)]
    have hl : ((zs.map ev1).map sW).length < 8796093022208 := by rw [List.length_map, List.length_map]; omega
    have hw : wrap64 (-allS (zs.map ev1)) = -allS (zs.map ev1) := by unfold wrap64; omega
    by_cases h0 : allS (zs.map ev1) = 0
    · rw [if_pos h0]
      by_cases h2 : (zs.map ev1).length < 2
      · rw [if_pos (by rw [List.length_map]; omega), if_pos hl, if_pos (.inr h2), hw, List.map_append]; rfl
      · rw [if_neg (by rw [List.length_map]; omega), if_neg (by rintro (h | h); exact h h0; exact h2 h)]
    · rw [if_neg h0, if_pos hl, if_pos (.inl h0), hw, List.map_append]; rfl
  | succ d ih =>
    intro k i h hk
    obtain ⟨k, rfl⟩ : ∃ m, k = m + 1 := ⟨k - 1, by omega⟩
    have hi : i < zs.length := by omega
    have hrd : rd_T52 (zs.map sW) (i : Int) = sW zs[i] := by
      unfold rd_T52
      rw [Int.toNat_natCast, List.getD_eq_getElem?_getD, List.getElem?_map, List.getElem?_eq_getElem hi]
      rfl
    have ht : zs.take (i + 1) = zs.take i ++ [zs[i]] := List.take_succ_eq_append_getElem hi
    have hb := evS_bound (zs.take (i + 1))
    have hbl : (zs.take (i + 1)).length ≤ 7 := by rw [List.length_take]; omega
    have h1 : -1000000 < Int.tmod zs[i].2 1000000 := Int.lt_tmod_of_pos _ (by decide)
    have h2 : Int.tmod zs[i].2 1000000 < 1000000 := Int.tmod_lt_of_pos _ (by decide)
    have hor : Go.bits .or .i64 (Int.tmod (sW zs[i]).f1 1000000) 1 = (ev1 zs[i]).2 := or1 _ (by show _ ≤ Int.tmod zs[i].2 1000000; omega) (by show Int.tmod zs[i].2 1000000 < _; omega)
    have hmx : 1 + (mx 0 (sW zs[i]).f0) % 5 = (ev1 zs[i]).1 := by
      show 1 + (mx 0 zs[i].1) % 5 = 1 + (max 0 zs[i].1) % 5
      have : mx 0 zs[i].1 = max 0 zs[i].1 := by unfold mx; omega
      rw [this]
    simp only [tillrolllaw22_even.l0]
    rw [if_pos (by omega), if_pos (by omega), if_pos (by rw [List.length_map]; omega), if_pos (by rw [List.length_map, List.length_map, List.length_take]; omega), hrd, hor, hmx]
    have e1 : ((zs.take i).map ev1).map sW ++ [(⟨(ev1 zs[i]).1, (ev1 zs[i]).2⟩ : S52)] = ((zs.take (i + 1)).map ev1).map sW := by
      rw [ht, List.map_append, List.map_append]; rfl
    have e2 : allS ((zs.take i).map ev1) + (ev1 zs[i]).2 = allS ((zs.take (i + 1)).map ev1) := by
      rw [ht, List.map_append, List.map_cons, List.map_nil, allS_snoc]
    rw [e1, e2, show wrap64 (allS ((zs.take (i + 1)).map ev1)) = allS ((zs.take (i + 1)).map ev1) by unfold wrap64; omega, show wrap64 ((i : Int) + 1) = ((i + 1 : Nat) : Int) by unfold wrap64; omega]
    exact ih k (i + 1) (by omega) (by omega)
theorem even_f (xs : List Ln) (k : Nat) (hk : 10 < k) : tillrolllaw22_even.f k (xs.map sW) = some ((evenL xs).map sW) := by
  unfold tillrolllaw22_even.f
  have hm : mn (((xs.map sW).length : Nat) : Int) 7 = (((xs.take 7).length : Nat) : Int) := by
    rw [List.length_map, List.length_take]; unfold mn; omega
  have hl : (xs.take 7).length ≤ 7 := by rw [List.length_take]; omega
  have hl2 : (xs.take 7).length ≤ xs.length := by rw [List.length_take]; omega
  rw [hm, if_pos (by omega), if_pos (by rw [List.length_map]; omega), Int.toNat_natCast, Option.bind_some, ← List.map_take]
  have ht : xs.take (xs.take 7).length = xs.take 7 := by rw [List.length_take, ← List.take_eq_take_min]
  rw [ht, List.length_map]
  have := even_l0 (xs.take 7) hl (xs.take 7).length k 0 (by omega) (by omega)
  rw [List.take_zero] at this
  exact this
theorem even_ok (a : Option Addr) (xs : List Ln) (cap : Nat) (hcap : xs.length ≤ cap ∧ cap ≤ maxLen) (w : World) (h : LnsAt w a xs) :
    Calls Try.prog 8 #[.slice a xs.length cap] w fun e w' => ∃ v, e = .returned v ∧ LRow w' 52 w.heap.size v (evenL xs) ∧ Below w.heap.size w w' := by
  have hcon := tillrolllaw22_even.calls 20 a cap (xs.map sW) _ w (by rw [List.length_map]; exact lns_C k52 sW rfl (fun w p => k52_mk w (sW p)) h (Nat.le_trans hcap.1 hcap.2)) (by rw [List.length_map]; exact hcap.1) (even_f xs 20 (by decide))
  rw [List.length_map] at hcon
  refine hcon.mono ?_
  rintro e w' ⟨v, rfl, hr, hb⟩
  refine ⟨v, rfl, ?_, hb⟩
  have := R_LRow k52 uW rfl (fun hM => k52_openM hM) hr
  rw [List.map_map] at this
  rwa [show uW ∘ sW = id from rfl, List.map_id] at this
theorem same_l0 (xs ys : List Ln) (hx : xs.length ≤ 1000) (hxy : xs.length = ys.length) (d : Nat) : ∀ (k i : Nat), i + d = xs.length → d < k →
    tillrolllaw22_same.l0 k (xs.map sP) (ys.map sR) (xs.length : Int) (i : Int) = some (decide (xs.drop i = ys.drop i)) := by
  induction d with
  | zero =>
    intro k i h hk
    obtain ⟨k, rfl⟩ : ∃ m, k = m + 1 := ⟨k - 1, by omega⟩
    simp only [tillrolllaw22_same.l0]
    rw [if_neg (by omega), List.drop_of_length_le (by omega), List.drop_of_length_le (by omega)]
    rfl
  | succ d ih =>
    intro k i h hk
    obtain ⟨k, rfl⟩ : ∃ m, k = m + 1 := ⟨k - 1, by omega⟩
    have hi : i < xs.length := by omega
    have hi2 : i < ys.length := by omega
    have hrd : rd_T81 (xs.map sP) (i : Int) = sP xs[i] := by
      unfold rd_T81
      rw [Int.toNat_natCast, List.getD_eq_getElem?_getD, List.getElem?_map, List.getElem?_eq_getElem hi]
      rfl
    have hrd2 : rd_T82 (ys.map sR) (i : Int) = sR ys[i] := by
      unfold rd_T82
      rw [Int.toNat_natCast, List.getD_eq_getElem?_getD, List.getElem?_map, List.getElem?_eq_getElem hi2]
      rfl
    simp only [tillrolllaw22_same.l0]
    rw [if_pos (by omega), if_pos (by omega), if_pos (by rw [List.length_map]; omega), if_pos (by rw [List.length_map]; omega), hrd, hrd2]
    have key : (xs.drop i = ys.drop i) ↔ (xs[i] = ys[i] ∧ xs.drop (i + 1) = ys.drop (i + 1)) := by
      rw [List.drop_eq_getElem_cons hi, List.drop_eq_getElem_cons hi2, List.cons.injEq]
    show (if xs[i].1 = ys[i].1 then (if xs[i].2 = ys[i].2 then _ else _) else _) = _
    by_cases h1 : xs[i].1 = ys[i].1
    · rw [if_pos h1]
      by_cases h2 : xs[i].2 = ys[i].2
      · rw [if_pos h2, show wrap64 ((i : Int) + 1) = ((i + 1 : Nat) : Int) by unfold wrap64; omega, ih k (i + 1) (by omega) (by omega)]
        have : xs[i] = ys[i] := Prod.ext h1 h2
        exact congrArg some (decide_eq_decide.2 (by rw [key]; exact ⟨fun h => ⟨this, h⟩, fun h => h.2⟩))
      · rw [if_neg h2]
        have : ¬ xs[i] = ys[i] := fun e => h2 (by rw [e])
        exact congrArg some (decide_eq_false (fun h => this (key.1 h).1)).symm
    · rw [if_neg h1]
      have : ¬ xs[i] = ys[i] := fun e => h1 (by rw [e])
      exact congrArg some (decide_eq_false (fun h => this (key.1 h).1)).symm
theorem same_f (xs ys : List Ln) (hx : xs.length ≤ 1000) (k : Nat) (hk : 1000 < k) : tillrolllaw22_same.f k (xs.map sP) (ys.map sR) = some (decide (xs = ys)) := by
  unfold tillrolllaw22_same.f
  rw [List.length_map, List.length_map]
  by_cases h : xs.length = ys.length
  · rw [if_pos (by omega)]
    exact same_l0 xs ys hx h xs.length k 0 (by omega) (by omega)
  · rw [if_neg (by omega)]
    have : ¬ xs = ys := fun e => h (by rw [e])
    simp [this]
theorem same_ok (xs ys : List Ln) (hx : xs.length ≤ 1000) {E B E' B' : Nat} {v u : Value} {w : World} (h : LRow w E B v xs) (h' : LRow w E' B' u ys) :
    Calls Try.prog 14 #[v, u] w fun e w' => e = .returned (.bool (decide (xs = ys))) ∧ Drawn0 w w' := by
  obtain ⟨a, c, rfl, hc, ha⟩ := h.at'
  obtain ⟨a', c', rfl, hc', ha'⟩ := h'.at'
  have hcon := tillrolllaw22_same.calls 2000 a c (xs.map sP) a' c' (ys.map sR) _ w (by rw [List.length_map]; exact lns_C k81 sP rfl (fun w p => k81_mk w (sP p)) ha (Nat.le_trans hc.1 hc.2)) (by rw [List.length_map]; exact hc.1) (by rw [List.length_map]; exact lns_C k82 sR rfl (fun w p => k82_mk w (sR p)) ha' (Nat.le_trans hc'.1 hc'.2)) (by rw [List.length_map]; exact hc'.1) (same_f xs ys hx 2000 (by decide))
  rw [List.length_map, List.length_map] at hcon
  exact hcon
end Go.Proofs.Ytkmbjfgdjoanjaa

/-! post: the law's signs of life. No conditions beyond the form's own reach. -/
namespace Go.Proofs.Ytkmbjfgdjoanjaa
open Go.RowKit Go.Lib Go.Proofs.Ytkmbjfgdjoanjaa.P Go.Proofs.YtkmbjfgdjoanjaaW.PrintWords Go.Proofs.YtkmbjfgdjoanjaaW.PrintLast Go.Proofs.YtkmbjfgdjoanjaaW.PrintMore
set_option linter.unusedVariables false
set_option linter.unusedSimpArgs false
--@tables
def lit2 : List Ln := [(1, 500), (2, -500)]
theorem lit_in (xs : List Ln) (h : ∀ p ∈ xs, (-1000 ≤ p.1 ∧ p.1 ≤ 1000) ∧ -1000 ≤ p.2 ∧ p.2 ≤ 1000) : LnIn xs := fun p hp => by have := h p hp; omega
theorem lit_row {w : World} {b T : Nat} (h : w.heap[b]? = some (.cells #[.int .i64 1, .int .i64 500, .int .i64 2, .int .i64 (-500)] T (0, 0))) (n : Nat) (hn : n ≤ 2) : RowS encL w (.slice (some ⟨b, 0, none⟩) n 2) (lit2.take n) := by
  have hl : (lit2.take n).length = n := by rw [List.length_take]; exact Nat.min_eq_left hn
  refine .inr ⟨b, 0, 2, by rw [hl], by rw [hl]; exact hn, by unfold maxLen; decide, blk_lt h, fun j u hu => ?_⟩
  have h4 : (lit2.flatMap encL)[j]? = some u := by
    rw [flat_take encL 2 encL_len] at hu
    rw [List.getElem?_take] at hu
    split at hu
    · exact hu
    · cases hu
  unfold World.cell?
  rw [h, Nat.zero_add]
  match j, h4 with
  | 0, h4 => exact h4
  | 1, h4 => exact h4
  | 2, h4 => exact h4
  | 3, h4 => exact h4
  | j + 4, h4 => simp [lit2, encL] at h4
set_option maxHeartbeats 8000000 in
theorem wakes_ok (w : World) : Calls Try.prog 17 #[] w fun e w' => e = .returned (.bool true) ∧ Below w.heap.size w w' := by
  go_enter Try.func17, Try.ntmps17
  go_wp2_with fail
  refine (accounts_ok _).mono ?_
  rintro e w1 ⟨g, m, u, rfl, hc, _, hd⟩
  have HC := Lib.hid hc; clear hc
  have HB := Lib.hid hd; clear hd
  have hx := heap_alloc_new w1 (.cells #[.int .i64 1, .int .i64 500, .int .i64 2, .int .i64 (-500)] 81)
  have hd := below_alloc (Below.refl w1.heap.size w1) (.cells #[.int .i64 1, .int .i64 500, .int .i64 2, .int .i64 (-500)] 81)
  replace HC := Lib.hid (HC.out.below hd)
  replace HB := Lib.hid (chain2 HB.out hd); clear hd
  have HP := Lib.hid (show RowS encL _ _ lit2 from lit_row hx 2 (Nat.le_refl _))
  have HP1 := Lib.hid (show RowS encL _ _ [(1, 500)] from lit_row hx 1 (by decide)); clear hx
  go_wp2_with fail
  generalize w1.alloc (.cells #[.int .i64 1, .int .i64 500, .int .i64 2, .int .i64 (-500)] 81) = w2 at HC HB HP HP1 ⊢
  generalize w1.heap.size = b at HP HP1 ⊢
  refine (contra_ok lit2 (by decide) (lit_in _ (by decide)) _ w2 HP.out).mono ?_
  rintro e w3 ⟨q, rfl, hq, hd⟩
  rw [show conV lit2 = ([(1, -500), (2, 500)], 0) from by decide] at hq ⊢
  have HQ := Lib.hid hq.s; clear hq
  replace HC := Lib.hid (HC.out.below hd)
  replace HP := Lib.hid (HP.out.below hd)
  replace HP1 := Lib.hid (HP1.out.below hd)
  replace HB := Lib.hid (chain2 HB.out hd); clear hd
  go_wp2_with fail
  refine (on_ok [(1, -500), (2, 500)] (by decide) (lit_in _ (by decide)) 1 q w3 HQ.out).mono ?_
  rintro e w4 ⟨rfl, hd⟩
  rw [show totV (onS [(1, -500), (2, 500)] 1) = (-500, 0) from by decide]
  replace HC := Lib.hid (HC.out.below hd)
  replace HP := Lib.hid (HP.out.below hd)
  replace HP1 := Lib.hid (HP1.out.below hd)
  replace HQ := Lib.hid (HQ.out.below hd)
  replace HB := Lib.hid (chain2 HB.out hd); clear hd
  go_wp2_with fail
  refine (check_ok lit2 (by decide) (lit_in _ (by decide)) _ HP.out HC.out five_J).mono ?_
  rintro e w5 ⟨rfl, hd⟩
  rw [show chkV lit2 = 0 from by decide]
  replace HC := Lib.hid (HC.out.below hd)
  replace HP1 := Lib.hid (HP1.out.below hd)
  replace HQ := Lib.hid (HQ.out.below hd)
  replace HB := Lib.hid (chain2 HB.out hd); clear hd
  go_wp2_with fail
  refine (check_ok [(1, 500)] (by decide) (lit_in _ (by decide)) _ HP1.out HC.out five_J).mono ?_
  rintro e w6 ⟨rfl, hd⟩
  rw [show chkV [(1, 500)] = 2 from by decide]
  replace HC := Lib.hid (HC.out.below hd)
  replace HQ := Lib.hid (HQ.out.below hd)
  replace HB := Lib.hid (chain2 HB.out hd); clear hd
  go_wp2_with fail
  refine (check_ok [(1, -500), (2, 500)] (by decide) (lit_in _ (by decide)) q HQ.out HC.out five_J).mono ?_
  rintro e w7 ⟨rfl, hd⟩
  rw [show chkV [(1, -500), (2, 500)] = 0 from by decide]
  replace HB := Lib.hid (chain2 HB.out hd); clear hd
  go_wp2
  go_ret
  exact ⟨rfl, HB.out⟩
end Go.Proofs.Ytkmbjfgdjoanjaa
