/- cur: the writer's functions, and what they touch of what was there. No conditions beyond the form's own reach. -/
import Derived.Test.YtepgdjkmobngcaaXBePure
import Derived.Test.YtepgdjkmobngcaaWTab
import Derived.Test.YtepgdjkmobngcaaWMore
import Derived.Test.YtepgdjkmobngcaaWLast
import Derived.Lib.Hide
import Derived.Lib.AppendStr
import Derived.Lib.SlicesS
import Derived.Lib.BufferOwn
import Derived.Test.YtepgdjkmobngcaaXTouch
namespace Go.Proofs.Ytepgdjkmobngcaa
open Go.RowKit Go.Lib Go.Proofs.Ytepgdjkmobngcaa.P Go.Proofs.Ytepgdjkmobngcaa.BeS Go.Proofs.YtepgdjkmobngcaaW.PrintWords Go.Proofs.YtepgdjkmobngcaaW.PrintLast Go.Proofs.YtepgdjkmobngcaaW.PrintMore
set_option linter.unusedVariables false
set_option linter.unusedSimpArgs false
--@tables
theorem chainC {w a b : World} (h : Below w.heap.size w a) (k : Below a.heap.size a b) : Below w.heap.size w b := below_then h h.size k
theorem below_set {B : Nat} {a w : World} {b i : Nat} {v : Value} (h : Below B a w) (hb : B ≤ b) : Below B a (w.setCell ⟨b, i, none⟩ v) := h.setCell (p := ⟨b, i, none⟩) hb v
/-- A number below an older line is kept: B counts blocks that were there. -/
theorem chainB {B : Nat} {w a b : World} (h : Below B w a) (hB : B ≤ a.heap.size) (k : Below a.heap.size a b) : Below B w b := h.trans (k.mono hB)
/-- A block of two cells. -/
def Box2 (w : World) (t : TypeId) (b : Nat) (c0 c1 : Value) : Prop := w.heap[b]? = some (.cells #[c0, c1] t (0, 0))
theorem Box2.facts {w : World} {t : TypeId} {b : Nat} {c0 c1 : Value} (h : Box2 w t b c0 c1) : w.cell? ⟨b, 0, none⟩ = some c0 ∧ w.cell? ⟨b, 1, none⟩ = some c1 ∧ w.frozen? ⟨b, 0, none⟩ = false ∧ w.frozen? ⟨b, 1, none⟩ = false := by
  unfold Box2 at h
  refine ⟨?_, ?_, ?_, ?_⟩
  all_goals first | (unfold World.frozen?; rw [h]; rfl) | (unfold World.cell?; rw [h]; rfl)
theorem Box2.below {w w' : World} {t : TypeId} {b : Nat} {c0 c1 : Value} (h : Box2 w t b c0 c1) (hb : Below w.heap.size w w') : Box2 w' t b c0 c1 := blk_below h hb
theorem Box2.new (w : World) (t : TypeId) (c0 c1 : Value) : Box2 (w.alloc (.cells #[c0, c1] t)) t w.heap.size c0 c1 := heap_alloc_new w _
theorem Box2.set0 {w : World} {t : TypeId} {b : Nat} {c0 c1 : Value} (h : Box2 w t b c0 c1) (x : Value) : Box2 (w.setCell ⟨b, 0, none⟩ x) t b x c1 := heap_setCell_same _ b 0 _ _ x h
theorem Box2.set1 {w : World} {t : TypeId} {b : Nat} {c0 c1 : Value} (h : Box2 w t b c0 c1) (x : Value) : Box2 (w.setCell ⟨b, 1, none⟩ x) t b c0 x := heap_setCell_same _ b 1 _ _ x h
theorem Box2.lt {w : World} {t : TypeId} {b : Nat} {c0 c1 : Value} (h : Box2 w t b c0 c1) : b < w.heap.size := blk_lt h
theorem Box2.grown {w w' : World} {t : TypeId} {b : Nat} {c0 c1 : Value} {r : Option Nat} (h : Box2 w t b c0 c1) (hg : w.grownBy w' r) (hne : r ≠ some b) : Box2 w' t b c0 c1 :=
  (hg.block b (blk_lt h) (fun e => hne e.symm)).trans h
def byteCells (l : List UInt8) : List Value := l.map fun b => Value.int .u8 b.toNat
theorem byteCells_nums (l : List UInt8) : byteCells l = nums .u8 (l.map fun b => (b.toNat : Int)) := by unfold byteCells nums; rw [List.map_map]; rfl
theorem strOfNums_bytes (l : List UInt8) : strOfNums (l.map fun b => (b.toNat : Int)) = str l := by
  induction l with
  | nil => rfl
  | cons b l ih =>
    rw [List.map_cons, strOfNums_cons, ih, str_data]
    simp
/-- A writer in a block g, its bytes in a block of their own, both from base on. -/
def WrAt (w : World) (base g : Nat) (l : List UInt8) (wrong : Bool) : Prop := base ≤ g ∧ ∃ v, Box2 w 84 g v (.bool wrong) ∧ w.ownsRow base 5 1 v l.length (byteCells l) ∧ v.ownBlock ≠ some g
theorem WrAt.below {w w' : World} {base g : Nat} {l : List UInt8} {wrong : Bool} (h : WrAt w base g l wrong) (hb : Below w.heap.size w w') : WrAt w' base g l wrong := by
  obtain ⟨h1, v, h2, h3, h4⟩ := h
  exact ⟨h1, v, h2.below hb, pw_own_below h3 hb, h4⟩
theorem WrAt.lt {w : World} {base g : Nat} {l : List UInt8} {wrong : Bool} (h : WrAt w base g l wrong) : base < w.heap.size := by
  obtain ⟨h1, v, h2, _⟩ := h
  have := h2.lt
  omega
theorem WrAt.mono {w : World} {base base' g : Nat} {l : List UInt8} {wrong : Bool} (h : WrAt w base g l wrong) (hb : base' ≤ base) : WrAt w base' g l wrong := by
  obtain ⟨h1, v, h2, h3, h4⟩ := h
  refine ⟨Nat.le_trans hb h1, v, h2, ⟨h3.1, ?_⟩, h4⟩
  rcases h3.2 with h5 | ⟨k, cap, cur, h5, h6, h7⟩
  · exact .inl h5
  · exact .inr ⟨k, cap, cur, h5, Nat.le_trans hb h6, h7⟩
def WrO (w : World) (base : Nat) (o : Option Nat) (l : List UInt8) (wrong : Bool) : Prop := base ≤ w.heap.size ∧ ∀ g, o = some g → WrAt w base g l wrong
theorem WrO.below {w w' : World} {base : Nat} {o : Option Nat} {l : List UInt8} {wrong : Bool} (h : WrO w base o l wrong) (hb : Below w.heap.size w w') : WrO w' base o l wrong := ⟨Nat.le_trans h.1 hb.size, fun g e => (h.2 g e).below hb⟩
theorem WrAt.o {w : World} {base g : Nat} {l : List UInt8} {wrong : Bool} (h : WrAt w base g l wrong) : WrO w base (some g) l wrong := ⟨Nat.le_of_lt h.lt, fun k e => by cases e; exact h⟩
def wrP (o : Option Nat) : Value := .pointer (o.map fun g => ⟨g, 0, none⟩)
theorem u8_infoC : (Try.prog.info? 5).map (fun i => (i.size, i.bytes, i.zero)) = some (1, 1, some (.int .u8 0)) := by kernel_rfl

theorem strCells_bytes (t : ByteArray) : strCells t = byteCells t.data.toList := by unfold strCells byteCells; rfl
theorem wr_ne {w : World} {base g n : Nat} {c0 c1 v : Value} {xs : List Value} (hb : Box2 w 84 g c0 c1) (ho : w.ownsRow base 5 1 v n xs) : v.ownBlock ≠ some g := by
  intro e
  rcases ho.2 with ⟨rfl, _⟩ | ⟨k, cap, cur, rfl, _, h, _⟩
  · cases e
  · have e2 : k = g := by simpa [Value.ownBlock] using e
    subst e2
    unfold Box2 at hb
    rw [hb] at h
    simp at h
theorem wr_put_end {w2 : World} {base g : Nat} {v v' : Value} {l : List UInt8} {t : ByteArray} {b : Bool} (h1 : base ≤ g) (hs : base ≤ w2.heap.size) (hb : Box2 w2 84 g v (.bool b)) (ho : w2.ownsRow base 5 1 v' (l.length + t.size) (byteCells l ++ strCells t)) : WrO (w2.setCell ⟨g, 0, none⟩ v') base (some g) (l ++ t.data.toList) b := by
  have hne := wr_ne hb ho
  refine ⟨by simpa using hs, fun k e => ?_⟩
  cases e
  refine ⟨h1, v', hb.set0 v', ?_, hne⟩
  have h := ho.kept (Lib.grownBy_setCell w2 g 0 v') (.inr hne)
  have e1 : (l ++ t.data.toList).length = l.length + t.size := by rw [List.length_append]; rfl
  rw [e1, show byteCells (l ++ t.data.toList) = byteCells l ++ strCells t by rw [strCells_bytes]; unfold byteCells; rw [List.map_append]]
  exact h
theorem wr_put_below {w w1 w2 : World} {base g : Nat} {v x : Value} {n : Nat} {xs : List Value} (h1 : base ≤ g) (hb : Below base w w1) (hs : base ≤ w1.heap.size) (ho : w1.ownsRow base 5 1 v n xs) (hg : w1.grownBy w2 v.ownBlock) : Below base w (w2.setCell ⟨g, 0, none⟩ x) :=
  below_set (pw_below_grown hb _ hs hg (fun k hk => (ho.lt k hk).1)) h1
/-- Of what was there, only the writer and rows of bytes may be others. -/
def TW (o : Option Nat) (w : World) (k : Nat) : Prop := o = some k ∨ ∃ c z, w.heap[k]? = some (.cells c 5 z)
def TouchU (o : Option Nat) (w w' : World) : Prop := Touch (TW o w) w w'
theorem TouchU.of {o : Option Nat} {w w' : World} (h : Below w.heap.size w w') : TouchU o w w' := Touch.of _ h
theorem TouchU.trans {o : Option Nat} {a b c : World} (h : TouchU o a b) (k : TouchU o b c) : TouchU o a c := by
  refine ⟨k.os.trans h.os, k.tape.trans h.tape, k.output.trans h.output, Nat.le_trans h.size k.size, fun i hi hn => ?_⟩
  have h1 := h.block i hi hn
  have hn2 : ¬ TW o b i := by
    rintro (e | ⟨x, z, e⟩)
    · exact hn (.inl e)
    · exact hn (.inr ⟨x, z, h1.symm.trans e⟩)
  exact (k.block i (Nat.lt_of_lt_of_le hi h.size) hn2).trans h1
theorem TouchU.set {o : Option Nat} {a b : World} {g i : Nat} (h : TouchU o a b) (ho : o = some g) (u : Value) : TouchU o a (b.setCell ⟨g, i, none⟩ u) := Touch.set h (.inl (.inl ho)) u
theorem TouchU.grown {o : Option Nat} {a b w' : World} {base n : Nat} {v : Value} {xs : List Value} (h : TouchU o a b) (ho : b.ownsRow base 5 1 v n xs) (hg : b.grownBy w' v.ownBlock) : TouchU o a w' := by
  refine TouchU.trans h ⟨hg.os, hg.tape, hg.output, hg.size, fun i hi hn => hg.block i hi (fun e => hn (.inr ?_))⟩
  rcases ho.2 with ⟨rfl, _⟩ | ⟨k, cap, cur, rfl, _, h2, _⟩
  · cases e
  · simp only [Value.ownBlock, Option.some.injEq] at e
    subst e
    exact ⟨_, _, h2⟩
/-- What is neither the writer nor a row of bytes is as it was. -/
theorem TouchU.blk {o : Option Nat} {a b : World} {k : Nat} {cs : Array Value} {t : TypeId} {z : Nat × Nat} (h : TouchU o a b) (hx : a.heap[k]? = some (.cells cs t z)) (ho : o ≠ some k) (ht : t ≠ 5) : b.heap[k]? = some (.cells cs t z) := by
  refine Touch.blk h hx ?_
  rintro (e | ⟨x, y, e⟩)
  · exact ho e
  · rw [hx] at e
    simp only [Option.some.injEq, Obj.cells.injEq] at e
    exact ht e.2.1
set_option maxHeartbeats 2000000 in
set_option maxRecDepth 100000 in
theorem wr_put (base : Nat) (o : Option Nat) (l : List UInt8) (wrong : Bool) (t : ByteArray) (may : Bool) (w : World) (h : WrO w base o l wrong) (hl : l.length + t.size ≤ 1000000) :
    Calls Try.prog 36 #[wrP o, .string t, .bool may] w fun x w' => x = .returned (wrP o) ∧ WrO w' base o (l ++ t.data.toList) (wrong || !may) ∧ Below base w w' ∧ TouchU o w w' := by
  have HO := Lib.hid h; clear h
  have HL := Lib.hid hl; clear hl
  unfold wrP
  cases o with
  | none =>
    simp only [Option.map_none]
    go_enter Try.func36, Try.ntmps36
    go_wp2
    go_ret
    exact ⟨rfl, ⟨HO.out.1, fun g e => by cases e⟩, Below.refl _ _, TouchU.of (Below.refl _ _)⟩
  | some g =>
    simp only [Option.map_some]
    obtain ⟨h1, v, h2, h3, h4⟩ := HO.out.2 g rfl
    have hbs := HO.out.1
    clear HO
    obtain ⟨f0, f1, f2, f3⟩ := h2.facts
    obtain ⟨i, hi, hz⟩ := Option.map_eq_some_iff.mp u8_infoC
    obtain ⟨hz1, hz2, hz3⟩ : i.size = 1 ∧ i.bytes = 1 ∧ i.zero = some (.int .u8 0) := by simpa using hz
    clear hz
    have H3 := Lib.hid (show (w.setCell ⟨g, 1, none⟩ (.bool (wrong || !may))).ownsRow base 5 1 v l.length (byteCells l) from h3.kept (Lib.grownBy_setCell w g 1 (.bool (wrong || !may))) (.inr h4)); clear h3
    have H2 := Lib.hid (h2.set1 (.bool (wrong || !may))); clear h2
    have HB := Lib.hid (below_set (Below.refl base w) (b := g) (i := 1) (v := .bool (wrong || !may)) h1)
    have H1 := Lib.hid h1; clear h1
    have H4 := Lib.hid h4; clear h4
    obtain ⟨xa, xn, xc, rfl⟩ : ∃ a n c, v = .slice a n c := by
      rcases H3.out.2 with ⟨rfl, _⟩ | ⟨_, _, _, rfl, _⟩ <;> exact ⟨_, _, _, rfl⟩
    have hbs2 : base ≤ (w.setCell ⟨g, 1, none⟩ (.bool (wrong || !may))).heap.size := by simpa using hbs
    have HBS := Lib.hid hbs2; clear hbs2 hbs
    have hc0 := H2.out.facts.1
    have hw : ∀ b, b = (wrong || !may) → b = (wrong || !may) := fun _ h => h
    cases wrong with
    | true =>
      simp only [Bool.true_or] at *
      go_enter Try.func36, Try.ntmps36
      go_wp2_with (at_builtin; refine wpList_append_own_string _ rfl _ _ 50 9 rfl base 5 i Try.underlying50 Try.underlying9 hi hz3 hz1 hz2 _ l.length (byteCells l) rfl H3.out t rfl ?qa ?qb HBS.out ?_)
      case qa => have := HL.out; unfold maxLen; omega
      case qb => have := HL.out; omega
      intro v' w' ho hg _
      have hbx := H2.out.grown hg H4.out
      obtain ⟨ya, yc, rfl⟩ := own_slice ho
      obtain ⟨k0, k1, k2, k3⟩ := hbx.facts
      have HX := Lib.hid hbx; clear hbx
      have HW := Lib.hid ho; clear ho
      have HGR := Lib.hid hg; clear hg
      clear f0 f1 f2 f3 hc0 hw hi hz1 hz2 hz3
      go_wp2
      go_ret
      exact ⟨rfl, wr_put_end H1.out (Nat.le_trans HBS.out HGR.out.size) HX.out HW.out, wr_put_below H1.out HB.out HBS.out H3.out HGR.out, TouchU.set (TouchU.grown (TouchU.set (TouchU.of (Below.refl _ _)) rfl _) H3.out HGR.out) rfl _⟩
    | false =>
      simp only [Bool.false_or] at *
      go_enter Try.func36, Try.ntmps36
      go_wp2_with (at_builtin; refine wpList_append_own_string _ rfl _ _ 50 9 rfl base 5 i Try.underlying50 Try.underlying9 hi hz3 hz1 hz2 _ l.length (byteCells l) rfl H3.out t rfl ?qa ?qb HBS.out ?_)
      case qa => have := HL.out; unfold maxLen; omega
      case qb => have := HL.out; omega
      intro v' w' ho hg _
      have hbx := H2.out.grown hg H4.out
      obtain ⟨ya, yc, rfl⟩ := own_slice ho
      obtain ⟨k0, k1, k2, k3⟩ := hbx.facts
      have HX := Lib.hid hbx; clear hbx
      have HW := Lib.hid ho; clear ho
      have HGR := Lib.hid hg; clear hg
      clear f0 f1 f2 f3 hc0 hw hi hz1 hz2 hz3
      go_wp2
      go_ret
      exact ⟨rfl, wr_put_end H1.out (Nat.le_trans HBS.out HGR.out.size) HX.out HW.out, wr_put_below H1.out HB.out HBS.out H3.out HGR.out, TouchU.set (TouchU.grown (TouchU.set (TouchU.of (Below.refl _ _)) rfl _) H3.out HGR.out) rfl _⟩

def putB (n : Nat) (wd : Int) : List UInt8 := if 1 ≤ wd ∧ wd ≤ 8 then putL n wd.toNat else []
theorem putB_len (n : Nat) (wd : Int) : (putB n wd).length ≤ 8 := by
  unfold putB
  split
  · rw [putL_length]; omega
  · simp
theorem put_fB (n : Nat) (hn : n < 18446744073709551616) (wd : Int) : be_Put.f (n : Int) wd = some (str (putB n wd)) := by
  rw [put_f n hn]
  unfold putB
  split <;> rfl

set_option maxHeartbeats 2000000 in
theorem wr_number (base : Nat) (o : Option Nat) (l : List UInt8) (wrong : Bool) (n : Nat) (wd : Int) (w : World) (h : WrO w base o l wrong) (hl : l.length + 8 ≤ 1000000) (hn : n < 18446744073709551616) (h0 : -9223372036854775808 ≤ wd) (h1 : wd < 9223372036854775808) :
    Calls Try.prog 18 #[wrP o, .int .u64 (n : Int), .int .i64 wd] w fun x w' => x = .returned (wrP o) ∧ WrO w' base o (l ++ putB n wd) (wrong || !fits n wd) ∧ Below base w w' ∧ TouchU o w w' := by
  have hb0 := Lib.hid h.1
  have HO := Lib.hid h; clear h
  have HP := Lib.hid (put_fB n hn wd)
  have HF := Lib.hid (fits_f n hn wd h0 h1)
  have HL := Lib.hid (show l.length + (str (putB n wd)).size ≤ 1000000 by have := putB_len n wd; rw [str_size]; omega)
  clear hn h0 h1 hl
  generalize hp : wrP o = p
  go_enter Try.func18, Try.ntmps18
  go_wp2_with fail
  refine (be_Put.calls _ _ _ _ HP.out).mono ?_
  rintro e w1 ⟨rfl, hd⟩
  replace HO := Lib.hid (HO.out.below hd)
  have hbs := HO.out.1
  have HT := Lib.hid (TouchU.of (o := o) hd)
  have HB := Lib.hid (hd.mono hb0.out); clear hd
  go_wp2_with fail
  refine (be_Fits.calls _ _ _ _ HF.out).mono ?_
  rintro e w2 ⟨rfl, hd⟩
  replace HO := Lib.hid (HO.out.below hd.below)
  replace HT := Lib.hid (HT.out.trans (TouchU.of hd.below))
  replace HB := Lib.hid (chainB HB.out hbs hd.below); clear hd
  go_wp2_with fail
  rw [← hp]
  refine (wr_put base o l wrong _ _ w2 HO.out HL.out).mono ?_
  rintro e w3 ⟨rfl, hw, hb, ht⟩
  replace HT := Lib.hid (HT.out.trans ht); clear ht
  rw [str_data] at hw
  have HW := Lib.hid hw; clear hw
  replace HB := Lib.hid (HB.out.trans hb); clear hb
  rw [hp]
  go_wp2
  go_ret
  exact ⟨by rw [← hp]; rfl, HW.out, HB.out, HT.out⟩

theorem u64_wrap_nat (n : Nat) (hn : n < 18446744073709551616) : IntKind.u64.wrap (n : Int) = (n : Int) := wrap_u64_in _ (by omega) (by omega)
set_option maxHeartbeats 2000000 in
theorem wr_signed (base : Nat) (o : Option Nat) (l : List UInt8) (wrong : Bool) (n : Int) (w : World) (h : WrO w base o l wrong) (hl : l.length + 8 ≤ 1000000) :
    Calls Try.prog 21 #[wrP o, .int .i64 n] w fun x w' => x = .returned (wrP o) ∧ WrO w' base o (l ++ putL (n % 18446744073709551616).toNat 8) wrong ∧ Below base w w' ∧ TouchU o w w' := by
  have HO := Lib.hid h; clear h
  obtain ⟨k, hk, hk2⟩ : ∃ k : Nat, IntKind.u64.wrap n = (k : Int) ∧ k = (n % 18446744073709551616).toNat := ⟨_, by rw [wrap_u64]; omega, rfl⟩
  have HK := Lib.hid (show k < 18446744073709551616 by omega)
  have HF := Lib.hid (show fits k 8 = true by unfold fits; rw [decide_eq_true_iff]; exact ⟨by decide, by decide, by have := HK.out; simpa using this⟩)
  rw [← hk2]
  clear hk2
  generalize hp : wrP o = p
  go_enter Try.func21, Try.ntmps21
  go_wp2_with fail
  rw [← hp]
  clear hk
  refine (wr_number base o l wrong k 8 w HO.out hl HK.out (by decide) (by decide)).mono ?_
  rintro e w3 ⟨rfl, hw, hb, ht⟩
  have HT := Lib.hid ht; clear ht
  rw [HF.out, show putB k 8 = putL k 8 from rfl, Bool.not_true, Bool.or_false] at hw
  have HW := Lib.hid hw; clear hw
  have HB := Lib.hid hb; clear hb
  rw [hp]
  go_wp2
  go_ret
  exact ⟨by rw [← hp]; rfl, HW.out, HB.out, HT.out⟩

set_option maxHeartbeats 2000000 in
theorem wr_text (base : Nat) (o : Option Nat) (l : List UInt8) (wrong : Bool) (s : ByteArray) (w : World) (h : WrO w base o l wrong) (hl : l.length + 300 ≤ 1000000) (hs : s.size ≤ 9223372036854775806) :
    Calls Try.prog 19 #[wrP o, .string s] w fun x w' => x = .returned (wrP o) ∧ WrO w' base o (if s.size ≤ 255 then l ++ UInt8.ofNat s.size :: s.data.toList else l) (wrong || decide (255 < s.size)) ∧ Below base w w' ∧ TouchU o w w' := by
  have HO := Lib.hid h; clear h
  have HS := Lib.hid hs; clear hs
  generalize hp : wrP o = p
  by_cases h255 : s.size ≤ 255
  · have c1 : decide (255 < (s.size : Int)) = false := decide_eq_false (by omega)
    have c2 : decide (255 < s.size) = false := decide_eq_false (by omega)
    have c3 : IntKind.u64.wrap (s.size : Int) = (s.size : Int) := u64_wrap_nat _ (by omega)
    have HF := Lib.hid (show fits s.size 1 = true by unfold fits; rw [decide_eq_true_iff]; exact ⟨by decide, by decide, by simpa using Nat.lt_succ_of_le h255⟩)
    have HB1 := Lib.hid (show putB s.size 1 = [UInt8.ofNat s.size] by unfold putB; rw [if_pos (by decide)]; show putL s.size 1 = _; simp [putL])
    have H255 := Lib.hid h255
    rw [if_pos h255, c2, Bool.or_false]
    clear c2
    go_enter Try.func19, Try.ntmps19
    go_wp2_with fail
    rw [← hp]
    refine (wr_number base o l wrong s.size 1 w HO.out (by omega) (by have := H255.out; omega) (by decide) (by decide)).mono ?_
    rintro e w3 ⟨rfl, hw, hb, ht⟩
    have HT := Lib.hid ht; clear ht
    rw [HF.out, HB1.out, Bool.not_true, Bool.or_false] at hw
    have HW := Lib.hid hw; clear hw
    have HB := Lib.hid hb; clear hb
    rw [hp]
    go_wp2_with fail
    rw [← hp]
    refine (wr_put base o _ wrong s true w3 HW.out (by have := H255.out; simp; omega)).mono ?_
    rintro e w4 ⟨rfl, hw, hb, ht⟩
    replace HT := Lib.hid (HT.out.trans ht); clear ht
    rw [Bool.not_true, Bool.or_false, List.append_assoc, List.singleton_append] at hw
    replace HW := Lib.hid hw; clear hw
    replace HB := Lib.hid (HB.out.trans hb); clear hb
    rw [hp]
    go_wp2
    go_ret
    exact ⟨by rw [← hp]; rfl, HW.out, HB.out, HT.out⟩
  · have c1 : decide (255 < (s.size : Int)) = true := decide_eq_true (by omega)
    have c2 : decide (255 < s.size) = true := decide_eq_true (by omega)
    rw [if_neg h255, c2]
    clear c2
    go_enter Try.func19, Try.ntmps19
    go_wp2_with fail
    rw [← hp]
    refine (wr_put base o l wrong { data := #[] } false w HO.out (by simp [ByteArray.size]; omega)).mono ?_
    rintro e w4 ⟨rfl, hw, hb, ht⟩
    have HT := Lib.hid ht; clear ht
    rw [Bool.not_false, show l ++ ({ data := #[] } : ByteArray).data.toList = l from List.append_nil l] at hw
    have HW := Lib.hid hw; clear hw
    have HB := Lib.hid hb; clear hb
    rw [hp]
    go_wp2
    go_ret
    exact ⟨by rw [← hp]; rfl, HW.out, HB.out, HT.out⟩

set_option maxHeartbeats 2000000 in
set_option maxRecDepth 100000 in
theorem wr_bytes (base g : Nat) (l : List UInt8) (wrong : Bool) (w : World) (h : WrAt w base g l wrong) :
    Calls Try.prog 22 #[.pointer (some ⟨g, 0, none⟩)] w fun x w' => x = .returned (.tuple #[.string (if wrong then { data := #[] } else str l), .int .i64 (if wrong then 2 else 0)]) ∧ Below w.heap.size w w' := by
  obtain ⟨h1, v, h2, h3, h4⟩ := h
  obtain ⟨f0, f1, f2, f3⟩ := h2.facts
  clear f2 f3
  rw [byteCells_nums] at h3
  obtain ⟨xa, xc, rfl⟩ := own_slice h3
  have HC := own_string (P := Try.prog) (src := 50) (dst := 9) Try.underlying50 Try.underlying5 Try.underlying9 h3
  rw [strOfNums_bytes] at HC
  clear h1 h2 h3 h4
  cases wrong with
  | true =>
    go_enter Try.func22, Try.ntmps22
    go_wp2
    go_ret2
    exact ⟨rfl, Below.refl _ _⟩
  | false =>
    go_enter Try.func22, Try.ntmps22
    go_wp2
    go_ret2
    exact ⟨rfl, Below.refl _ _⟩
theorem wr_bytes_nil (w : World) : Calls Try.prog 22 #[.pointer none] w fun x w' => x = .returned (.tuple #[.string { data := #[] }, .int .i64 1]) ∧ Below w.heap.size w w' := by
  go_enter Try.func22, Try.ntmps22
  go_wp2
  go_ret2
  exact ⟨rfl, Below.refl _ _⟩
end Go.Proofs.Ytepgdjkmobngcaa
