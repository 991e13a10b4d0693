/- keys: find, New, Match, Put, List. -/
import Derived.Test.YtkadlahhcldjfaaXKeys
import Derived.Lib.BufferOwn
namespace Go.Proofs.Ytkadlahhcldjfaa
open Go.RowKit Go.Lib Go.Proofs.YtkadlahhcldjfaaW.PrintWords Go.Proofs.YtkadlahhcldjfaaW.PrintLast
set_option linter.unusedVariables false
set_option linter.unusedSimpArgs false
--@tables
def KeysAt (w : World) (g lim : Nat) (es : List KE) : Prop := ∃ v, w.cell? ⟨g, 0, none⟩ = some (.int .i64 (lim : Int)) ∧ w.cell? ⟨g, 1, none⟩ = some v ∧ w.frozen? ⟨g, 1, none⟩ = false ∧ RowS encK w v es ∧ v.ownBlock ≠ some g ∧ es.length ≤ lim ∧ 1 ≤ lim ∧ lim ≤ 64
theorem KeysAt.below {w w' : World} {g lim : Nat} {es : List KE} (h : KeysAt w g lim es) (hb : Below w.heap.size w w') : KeysAt w' g lim es := by
  obtain ⟨v, h1, h2, h3, h4, h5, h6⟩ := h
  exact ⟨v, pw_cell_below hb h1, pw_cell_below hb h2, (hb.frozen (p := ⟨g, 1, none⟩) (World.block_lt_of_cell? w _ h2)).trans h3, h4.below hb, h5, h6⟩
theorem KeysAt.lt {w : World} {g lim : Nat} {es : List KE} (h : KeysAt w g lim es) : g < w.heap.size := by
  obtain ⟨v, h1, _⟩ := h
  exact World.block_lt_of_cell? w _ h1
def findK (key : Int) (es : List KE) : Option KE := es.find? fun e => decide (e.key = key)
theorem find_none {key : Int} {es : List KE} (h : ∀ e ∈ es, ¬ e.key = key) : findK key es = none := by
  unfold findK
  rw [List.find?_eq_none]
  intro e he
  simp [h e he]
theorem find_some {key : Int} {es : List KE} {i : Nat} (hi : i < es.length) (h : es[i].key = key) (hj : ∀ j, ∀ h : j < i, ¬ es[j].key = key) : findK key es = some es[i] := by
  unfold findK
  rw [List.find?_eq_some_iff_getElem]
  exact ⟨by simp [h], i, hi, rfl, fun j hji => by simp [hj j hji]⟩
def foundK (o : Option KE) : Value := match o with | some x => .tuple #[.agg #[.int .u64 x.key, .string x.body, .int .i64 x.num], .bool true] | none => .tuple #[.agg #[.int .u64 0, .string ByteArray.empty, .int .i64 0], .bool false]

/-- Three cells in a block of one's own. -/
def Box3 (w : World) (b : Nat) (c0 c1 c2 : Value) : Prop := w.heap[b]? = some (.cells #[c0, c1, c2] 30 (0, 0))
theorem Box3.facts {w : World} {b : Nat} {c0 c1 c2 : Value} (h : Box3 w b c0 c1 c2) : w.cell? ⟨b, 0, none⟩ = some c0 ∧ w.cell? ⟨b, 1, none⟩ = some c1 ∧ w.cell? ⟨b, 2, none⟩ = some c2 ∧ w.frozen? ⟨b, 0, none⟩ = false ∧ w.frozen? ⟨b, 1, none⟩ = false ∧ w.frozen? ⟨b, 2, none⟩ = false := by
  unfold Box3 at h
  refine ⟨?_, ?_, ?_, ?_, ?_, ?_⟩
  all_goals first | (unfold World.frozen?; rw [h]; rfl) | (unfold World.cell?; rw [h]; rfl)
theorem Box3.new (w : World) (c0 c1 c2 : Value) : Box3 (w.alloc (.cells #[c0, c1, c2] 30)) w.heap.size c0 c1 c2 := heap_alloc_new w _
theorem Box3.below {w w' : World} {b : Nat} {c0 c1 c2 : Value} (h : Box3 w b c0 c1 c2) (hb : Below w.heap.size w w') : Box3 w' b c0 c1 c2 := blk_below h hb
theorem Box3.set3 {w : World} {b : Nat} {c0 c1 c2 : Value} (h : Box3 w b c0 c1 c2) (x y z : Value) : Box3 (((w.setCell ⟨b, 0, none⟩ x).setCell ⟨b, 1, none⟩ y).setCell ⟨b, 2, none⟩ z) b x y z :=
  heap_setCell_same _ b 2 _ _ z (heap_setCell_same _ b 1 _ _ y (heap_setCell_same _ b 0 _ _ x h))
theorem ke_size : (Try.prog.info? 30).map (·.size) = some 3 := by kernel_rfl
theorem below_set {B : Nat} {a w : World} {b i : Nat} {v : Value} (h : Below B a w) (hb : B ≤ b) : Below B a (w.setCell ⟨b, i, none⟩ v) := h.setCell (p := ⟨b, i, none⟩) hb v

set_option maxHeartbeats 2000000 in
set_option maxRecDepth 100000 in
theorem keys_find (g lim : Nat) (es : List KE) (key : Int) (w : World) (h : KeysAt w g lim es) :
    Calls Try.prog 19 #[.pointer (some ⟨g, 0, none⟩), .int .u64 key] w fun x w' => x = .returned (foundK (findK key es)) ∧ Below w.heap.size w w' := by
  have HK := Lib.hid h; clear h
  obtain ⟨v, h1, h2, h3, h4, h5, h6, h7, h8⟩ := HK.out
  have hl := h4.len
  have H6 := Lib.hid (show es.length ≤ 64 by omega)
  clear h1 h3 h5 h6 h7 h8
  have hg := World.block_lt_of_cell? w _ h2
  simp only at hg
  have hg2 : g < w.heap.size + 1 := by omega
  obtain ⟨ad, cap, rfl, _⟩ := hl
  have HR := Lib.hid h4; clear h4
  go_enter Try.func19, Try.ntmps19
  go_wp2_with fail
  have hB := Box3.new (w.alloc (Obj.cells #[Value.int IntKind.u64 key] 28)) (.int .u64 0) (.string { data := #[] }) (.int .i64 0)
  have hb := below_alloc (below_alloc (Below.refl w.heap.size w) (Obj.cells #[Value.int IntKind.u64 key] 28)) (Obj.cells #[Value.int IntKind.u64 0, Value.string { data := #[] }, Value.int IntKind.i64 0] 30)
  have hs : (w.alloc (Obj.cells #[Value.int IntKind.u64 key] 28)).heap.size = w.heap.size + 1 := by simp
  rw [hs] at hB
  have hC : ((w.alloc (Obj.cells #[Value.int IntKind.u64 key] 28)).alloc (Obj.cells #[Value.int IntKind.u64 0, Value.string { data := #[] }, Value.int IntKind.i64 0] 30)).cell? ⟨w.heap.size, 0, none⟩ = some (.int .u64 key) := by simp
  generalize ((w.alloc (Obj.cells #[Value.int IntKind.u64 key] 28)).alloc (Obj.cells #[Value.int IntKind.u64 0, Value.string { data := #[] }, Value.int IntKind.i64 0] 30)) = W at hB hb hC ⊢
  have hbb : w.heap.size ≤ w.heap.size + 1 := by omega
  generalize w.heap.size + 1 = b4 at hB hg2 hbb ⊢
  replace HR := Lib.hid (HR.out.below hb)
  have k2 := pw_cell_below hb h2
  clear hs h2 hg2 HK
  have HB := Lib.hid hb; clear hb
  have HX := Lib.hid hB; clear hB
  refine (keys_index key w.heap.size es (by have := H6.out; omega) _ W HR.out hC).mono ?_
  rintro e w' ⟨r, rfl, hi, hd⟩
  replace HR := Lib.hid (HR.out.below hd)
  replace HX := Lib.hid (HX.out.below hd)
  replace HB := Lib.hid (chain2 HB.out hd)
  replace k2 := pw_cell_below hd k2
  clear hd hC
  rcases hi with ⟨rfl, hn⟩ | ⟨i, hi, rfl, hki, hj⟩
  · have HN := Lib.hid (find_none hn); clear hn
    obtain ⟨x0, x1, x2, f0, f1, f2⟩ := HX.out.facts
    go_wp2
    have hx := HX.out.set3 (.int .u64 0) (.string { data := #[] }) (.int .i64 0)
    refine bodyPost_ret (results_ct rfl _ _ b4 30 _ (0, 0) _ rfl hx Try.underlying30 rfl ke_size) rfl ?_
    exact ⟨by rw [HN.out]; rfl, below_set (below_set (below_set HB.out hbb) hbb) hbb⟩
  · have HN := Lib.hid (find_some hi hki hj); clear hki hj
    rcases HR.out with ⟨h1, h2⟩ | ⟨g', off, cap', h1, h2, h3, h4, h5⟩
    · rw [h2] at hi; exact absurd hi (Nat.not_lt_zero _)
    simp only [Value.slice.injEq, true_and] at h1
    obtain ⟨rfl, rfl⟩ := h1
    obtain ⟨l1, l2, l3⟩ := row_cells h5 i hi
    clear h5 h2 h3 h4 HR
    generalize es[i] = x at l1 l2 l3 HN
    obtain ⟨x0, x1, x2, f0, f1, f2⟩ := HX.out.facts
    have e0 : ¬ (i : Int) < 0 := by omega
    have e1 : decide ((i : Int) < 0) = false := decide_eq_false e0
    have e2 : (0 : Int) ≤ (i : Int) := by omega
    have e3 : (i : Int) < (es.length : Int) := by omega
    clear e0
    go_wp2
    have hx := HX.out.set3 (.int .u64 x.key) (.string x.body) (.int .i64 x.num)
    refine bodyPost_ret (results_ct rfl _ _ b4 30 _ (0, 0) _ rfl hx Try.underlying30 rfl ke_size) rfl ?_
    exact ⟨by rw [HN.out]; rfl, below_set (below_set (below_set HB.out hbb) hbb) hbb⟩
end Go.Proofs.Ytkadlahhcldjfaa
