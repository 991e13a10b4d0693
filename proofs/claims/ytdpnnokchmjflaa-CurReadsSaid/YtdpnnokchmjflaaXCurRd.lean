/- Layer 4's laws: 'read' by a reader. No conditions beyond the form's own reach. -/
import Derived.Test.YtdpnnokchmjflaaXCurWr
namespace Go.Proofs.Ytdpnnokchmjflaa
open Go.RowKit Go.Lib Go.Proofs.Ytdpnnokchmjflaa.P Go.Proofs.Ytdpnnokchmjflaa.BeS Go.Proofs.YtdpnnokchmjflaaW.PrintWords Go.Proofs.YtdpnnokchmjflaaW.PrintLast Go.Proofs.YtdpnnokchmjflaaW.PrintMore
set_option linter.unusedVariables false
set_option linter.unusedSimpArgs false
--@tables
def rdF (r : RdS) (f : Fd) : Fd := if f.kind = 0 then ⟨f.kind, f.width, rdN r f.width, { data := #[] }⟩ else if f.kind = 1 then ⟨f.kind, f.width, rdN r 8, { data := #[] }⟩ else ⟨f.kind, f.width, 0, str (rdT r)⟩
def rdFR (r : RdS) (f : Fd) : RdS := if f.kind = 0 then tkR r (numW f.width) else if f.kind = 1 then tkR r 8 else rdTR r
theorem Box4.grown {w w' : World} {t : TypeId} {b : Nat} {c0 c1 c2 c3 : Value} {q : Option Nat} (h : Box4 w t b c0 c1 c2 c3) (hg : w.grownBy w' q) (hne : q ≠ some b) : Box4 w' t b c0 c1 c2 c3 :=
  (hg.block b (blk_lt h) (fun e => hne e.symm)).trans h
theorem Box4.set2 {w : World} {t : TypeId} {b : Nat} {c0 c1 c2 c3 : Value} (h : Box4 w t b c0 c1 c2 c3) (x : Value) : Box4 (w.setCell ⟨b, 2, none⟩ x) t b c0 c1 x c3 := heap_setCell_same _ b 2 _ _ x h
theorem Box4.set3 {w : World} {t : TypeId} {b : Nat} {c0 c1 c2 c3 : Value} (h : Box4 w t b c0 c1 c2 c3) (x : Value) : Box4 (w.setCell ⟨b, 3, none⟩ x) t b c0 c1 c2 x := heap_setCell_same _ b 3 _ _ x h
theorem RdO.lt {w : World} {o : Option Nat} {r : RdS} (h : RdO w o r) : ∀ g, o = some g → g < w.heap.size := fun g e => (h.1 g e).lt
theorem grown_set {w0 w : World} {o : Option Nat} {b i : Nat} {v : Value} (h : w0.grownBy w o) (hb : w0.heap.size ≤ b) : w0.grownBy (w.setCell ⟨b, i, none⟩ v) o := by
  have k := Lib.grownBy_setCell w b i v
  exact ⟨k.os.trans h.os, k.tape.trans h.tape, k.output.trans h.output, Nat.le_trans h.size k.size, fun j hj hne => (k.block j (Nat.lt_of_lt_of_le hj h.size) (fun e => by cases e; omega)).trans (h.block j hj hne)⟩

theorem RdO.set {w : World} {o : Option Nat} {r : RdS} {b i : Nat} {v : Value} (h : RdO w o r) (hne : ∀ g, o = some g → g ≠ b) : RdO (w.setCell ⟨b, i, none⟩ v) o r :=
  h.grown (Lib.grownBy_setCell w b i v) (fun g e h => hne g e (by cases h; rfl))
theorem u64_back (n : Nat) (hn : n < 18446744073709551616) : IntKind.u64.wrap (wrap64 (n : Int)) = (n : Int) := by rw [wrap_u64]; unfold wrap64; omega
set_option maxHeartbeats 4000000 in
set_option maxRecDepth 100000 in
theorem read_ok (o : Option Nat) (r : RdS) (f : Fd) (hf : f.Ok) (w : World) (h : RdO w o r) :
    Calls Try.prog 18 #[wrP o, .agg #[.int .i64 f.kind, .int .i64 f.width, .int .u64 (f.n : Int), .string f.s]] w fun x w' => x = .returned (.agg #[.int .i64 (rdF r f).kind, .int .i64 (rdF r f).width, .int .u64 ((rdF r f).n : Int), .string (rdF r f).s]) ∧ RdO w' o (rdFR r f) ∧ w.grownBy w' o := by
  obtain ⟨kd, wd, n, s⟩ := f
  have HR := Lib.hid h; clear h
  have HF := Lib.hid hf; clear hf
  generalize hp : wrP o = p
  have HLt := Lib.hid HR.out.lt
  rcases HF.out.k with hk | hk | hk
  · simp only at hk
    subst hk
    have hA : Box4 (((w.alloc (.cells #[.int .i64 0, .int .i64 wd, .int .u64 (n : Int), .string s] 27)).alloc (.cells #[.int .i64 0, .int .i64 0, .int .u64 0, .string { data := #[] }] 27)).alloc (.cells #[.int .i64 0, .int .i64 wd, .int .u64 0, .string { data := #[] }] 27)) 27 (w.heap.size + 1 + 1) (.int .i64 0) (.int .i64 wd) (.int .u64 0) (.string { data := #[] }) := by
      have h := Box4.new ((w.alloc (.cells #[.int .i64 0, .int .i64 wd, .int .u64 (n : Int), .string s] 27)).alloc (.cells #[.int .i64 0, .int .i64 0, .int .u64 0, .string { data := #[] }] 27)) 27 (.int .i64 0) (.int .i64 wd) (.int .u64 0) (.string { data := #[] })
      rw [show ((w.alloc (.cells #[.int .i64 0, .int .i64 wd, .int .u64 (n : Int), .string s] 27)).alloc (.cells #[.int .i64 0, .int .i64 0, .int .u64 0, .string { data := #[] }] 27)).heap.size = w.heap.size + 1 + 1 by simp] at h
      exact h
    have hB : Box4 (((w.alloc (.cells #[.int .i64 0, .int .i64 wd, .int .u64 (n : Int), .string s] 27)).alloc (.cells #[.int .i64 0, .int .i64 0, .int .u64 0, .string { data := #[] }] 27)).alloc (.cells #[.int .i64 0, .int .i64 wd, .int .u64 0, .string { data := #[] }] 27)) 27 (w.heap.size + 1) (.int .i64 0) (.int .i64 0) (.int .u64 0) (.string { data := #[] }) := by
      have := (Box4.new (w.alloc (.cells #[.int .i64 0, .int .i64 wd, .int .u64 (n : Int), .string s] 27)) 27 (.int .i64 0) (.int .i64 0) (.int .u64 0) (.string { data := #[] })).below ((Below.refl _ _).alloc (Nat.le_refl _) (.cells #[.int .i64 0, .int .i64 wd, .int .u64 0, .string { data := #[] }] 27))
      simpa using this
    have hb := below_alloc (below_alloc (below_alloc (Below.refl w.heap.size w) (.cells #[.int .i64 0, .int .i64 wd, .int .u64 (n : Int), .string s] 27)) (.cells #[.int .i64 0, .int .i64 0, .int .u64 0, .string { data := #[] }] 27)) (.cells #[.int .i64 0, .int .i64 wd, .int .u64 0, .string { data := #[] }] 27)
    have HA := Lib.hid hA; clear hA
    have HB := Lib.hid hB; clear hB
    have HW := Lib.hid hb; clear hb
    go_enter Try.func18, Try.ntmps18
    go_wp2_with fail
    generalize (((w.alloc (.cells #[.int .i64 0, .int .i64 wd, .int .u64 (n : Int), .string s] 27)).alloc (.cells #[.int .i64 0, .int .i64 0, .int .u64 0, .string { data := #[] }] 27)).alloc (.cells #[.int .i64 0, .int .i64 wd, .int .u64 0, .string { data := #[] }] 27)) = w3 at HA HB HW ⊢
    replace HR := Lib.hid (HR.out.below HW.out)
    have HS := Lib.hid (show w.heap.size ≤ w.heap.size + 1 ∧ w.heap.size ≤ w.heap.size + 1 + 1 ∧ w.heap.size + 1 ≠ w.heap.size + 1 + 1 from ⟨by omega, by omega, by omega⟩)
    generalize w.heap.size + 1 + 1 = b2 at HA HS ⊢
    generalize w.heap.size + 1 = b1 at HB HS ⊢
    rw [← hp]
    refine (rd_number o r wd w3 HR.out HF.out.w0 HF.out.w1).mono ?_
    rintro e w4 ⟨rfl, hr, hg⟩
    have HR2 := Lib.hid hr; clear hr
    have n1 : o ≠ some b1 := fun e => by have := HLt.out b1 e; have := HS.out; omega
    have n2 : o ≠ some b2 := fun e => by have := HLt.out b2 e; have := HS.out; omega
    replace HA := Lib.hid (HA.out.grown hg n2)
    replace HB := Lib.hid (HB.out.grown hg n1)
    have N1 := Lib.hid (show ∀ g, o = some g → g ≠ b1 from fun g e h => n1 (by rw [e, h]))
    have N2 := Lib.hid (show ∀ g, o = some g → g ≠ b2 from fun g e h => n2 (by rw [e, h]))
    have HG := Lib.hid (grown_two (grown_of_below HW.out o) hg); clear hg HW n1 n2
    rw [hp]
    skip
    have hx := HA.out.set2 (.int .u64 (rdN r wd : Int))
    obtain ⟨x0, x1, x2, x3⟩ := hx.S
    obtain ⟨y0, y1, y2, y3⟩ := HA.out.S
    obtain ⟨z0, z1, z2, z3⟩ := HA.out.F
    have hu := HB.out.grown (Lib.grownBy_setCell w4 b2 2 (.int .u64 (rdN r wd : Int))) (by intro e; cases e; exact HS.out.2.2 rfl)
    obtain ⟨u0, u1, u2, u3⟩ := hu.S
    obtain ⟨v0, v1, v2, v3⟩ := hu.F
    have HX := Lib.hid hx; clear hx
    have HU := Lib.hid hu; clear hu
    go_wp2_with fail
    have hz := HU.out.set4 (.int .i64 0) (.int .i64 wd) (.int .u64 (rdN r wd : Int)) (.string { data := #[] })
    have hgr := grown_set (i := 3) (v := (.string { data := #[] })) (grown_set (i := 2) (v := (.int .u64 (rdN r wd : Int))) (grown_set (i := 1) (v := .int .i64 wd) (grown_set (i := 0) (v := .int .i64 0) (grown_set (i := 2) (v := (.int .u64 (rdN r wd : Int))) HG.out HS.out.2.1) HS.out.1) HS.out.1) HS.out.1) HS.out.1
    have hrr := ((((HR2.out.set (i := 2) (v := (.int .u64 (rdN r wd : Int))) N2.out).set (i := 0) (v := .int .i64 0) N1.out).set (i := 1) (v := .int .i64 wd) N1.out).set (i := 2) (v := (.int .u64 (rdN r wd : Int))) N1.out).set (i := 3) (v := (.string { data := #[] })) N1.out
    refine bodyPost_ret (results_single rfl (.cell b1 27 _ (0, 0) _ rfl hz Try.underlying27 rfl fd_size .nil)) rfl ?_
    exact ⟨rfl, hrr, hgr⟩
  · simp only at hk
    subst hk
    have hA : Box4 (((w.alloc (.cells #[.int .i64 1, .int .i64 wd, .int .u64 (n : Int), .string s] 27)).alloc (.cells #[.int .i64 0, .int .i64 0, .int .u64 0, .string { data := #[] }] 27)).alloc (.cells #[.int .i64 1, .int .i64 wd, .int .u64 0, .string { data := #[] }] 27)) 27 (w.heap.size + 1 + 1) (.int .i64 1) (.int .i64 wd) (.int .u64 0) (.string { data := #[] }) := by
      have h := Box4.new ((w.alloc (.cells #[.int .i64 1, .int .i64 wd, .int .u64 (n : Int), .string s] 27)).alloc (.cells #[.int .i64 0, .int .i64 0, .int .u64 0, .string { data := #[] }] 27)) 27 (.int .i64 1) (.int .i64 wd) (.int .u64 0) (.string { data := #[] })
      rw [show ((w.alloc (.cells #[.int .i64 1, .int .i64 wd, .int .u64 (n : Int), .string s] 27)).alloc (.cells #[.int .i64 0, .int .i64 0, .int .u64 0, .string { data := #[] }] 27)).heap.size = w.heap.size + 1 + 1 by simp] at h
      exact h
    have hB : Box4 (((w.alloc (.cells #[.int .i64 1, .int .i64 wd, .int .u64 (n : Int), .string s] 27)).alloc (.cells #[.int .i64 0, .int .i64 0, .int .u64 0, .string { data := #[] }] 27)).alloc (.cells #[.int .i64 1, .int .i64 wd, .int .u64 0, .string { data := #[] }] 27)) 27 (w.heap.size + 1) (.int .i64 0) (.int .i64 0) (.int .u64 0) (.string { data := #[] }) := by
      have := (Box4.new (w.alloc (.cells #[.int .i64 1, .int .i64 wd, .int .u64 (n : Int), .string s] 27)) 27 (.int .i64 0) (.int .i64 0) (.int .u64 0) (.string { data := #[] })).below ((Below.refl _ _).alloc (Nat.le_refl _) (.cells #[.int .i64 1, .int .i64 wd, .int .u64 0, .string { data := #[] }] 27))
      simpa using this
    have hb := below_alloc (below_alloc (below_alloc (Below.refl w.heap.size w) (.cells #[.int .i64 1, .int .i64 wd, .int .u64 (n : Int), .string s] 27)) (.cells #[.int .i64 0, .int .i64 0, .int .u64 0, .string { data := #[] }] 27)) (.cells #[.int .i64 1, .int .i64 wd, .int .u64 0, .string { data := #[] }] 27)
    have HA := Lib.hid hA; clear hA
    have HB := Lib.hid hB; clear hB
    have HW := Lib.hid hb; clear hb
    go_enter Try.func18, Try.ntmps18
    go_wp2_with fail
    generalize (((w.alloc (.cells #[.int .i64 1, .int .i64 wd, .int .u64 (n : Int), .string s] 27)).alloc (.cells #[.int .i64 0, .int .i64 0, .int .u64 0, .string { data := #[] }] 27)).alloc (.cells #[.int .i64 1, .int .i64 wd, .int .u64 0, .string { data := #[] }] 27)) = w3 at HA HB HW ⊢
    replace HR := Lib.hid (HR.out.below HW.out)
    have HS := Lib.hid (show w.heap.size ≤ w.heap.size + 1 ∧ w.heap.size ≤ w.heap.size + 1 + 1 ∧ w.heap.size + 1 ≠ w.heap.size + 1 + 1 from ⟨by omega, by omega, by omega⟩)
    generalize w.heap.size + 1 + 1 = b2 at HA HS ⊢
    generalize w.heap.size + 1 = b1 at HB HS ⊢
    rw [← hp]
    refine (rd_signed o r w3 HR.out).mono ?_
    rintro e w4 ⟨rfl, hr, hg⟩
    have HR2 := Lib.hid hr; clear hr
    have n1 : o ≠ some b1 := fun e => by have := HLt.out b1 e; have := HS.out; omega
    have n2 : o ≠ some b2 := fun e => by have := HLt.out b2 e; have := HS.out; omega
    replace HA := Lib.hid (HA.out.grown hg n2)
    replace HB := Lib.hid (HB.out.grown hg n1)
    have N1 := Lib.hid (show ∀ g, o = some g → g ≠ b1 from fun g e h => n1 (by rw [e, h]))
    have N2 := Lib.hid (show ∀ g, o = some g → g ≠ b2 from fun g e h => n2 (by rw [e, h]))
    have HG := Lib.hid (grown_two (grown_of_below HW.out o) hg); clear hg HW n1 n2
    rw [hp]
    have hcv : IntKind.u64.wrap (wrap64 (rdN r 8 : Int)) = (rdN r 8 : Int) := u64_back _ (rdN_lt r 8)
    have hx := HA.out.set2 (.int .u64 (rdN r 8 : Int))
    obtain ⟨x0, x1, x2, x3⟩ := hx.S
    obtain ⟨y0, y1, y2, y3⟩ := HA.out.S
    obtain ⟨z0, z1, z2, z3⟩ := HA.out.F
    have hu := HB.out.grown (Lib.grownBy_setCell w4 b2 2 (.int .u64 (rdN r 8 : Int))) (by intro e; cases e; exact HS.out.2.2 rfl)
    obtain ⟨u0, u1, u2, u3⟩ := hu.S
    obtain ⟨v0, v1, v2, v3⟩ := hu.F
    have HX := Lib.hid hx; clear hx
    have HU := Lib.hid hu; clear hu
    go_wp2_with fail
    have hz := HU.out.set4 (.int .i64 1) (.int .i64 wd) (.int .u64 (rdN r 8 : Int)) (.string { data := #[] })
    have hgr := grown_set (i := 3) (v := (.string { data := #[] })) (grown_set (i := 2) (v := (.int .u64 (rdN r 8 : Int))) (grown_set (i := 1) (v := .int .i64 wd) (grown_set (i := 0) (v := .int .i64 1) (grown_set (i := 2) (v := (.int .u64 (rdN r 8 : Int))) HG.out HS.out.2.1) HS.out.1) HS.out.1) HS.out.1) HS.out.1
    have hrr := ((((HR2.out.set (i := 2) (v := (.int .u64 (rdN r 8 : Int))) N2.out).set (i := 0) (v := .int .i64 1) N1.out).set (i := 1) (v := .int .i64 wd) N1.out).set (i := 2) (v := (.int .u64 (rdN r 8 : Int))) N1.out).set (i := 3) (v := (.string { data := #[] })) N1.out
    refine bodyPost_ret (results_single rfl (.cell b1 27 _ (0, 0) _ rfl hz Try.underlying27 rfl fd_size .nil)) rfl ?_
    exact ⟨rfl, hrr, hgr⟩
  · simp only at hk
    subst hk
    have hA : Box4 (((w.alloc (.cells #[.int .i64 2, .int .i64 wd, .int .u64 (n : Int), .string s] 27)).alloc (.cells #[.int .i64 0, .int .i64 0, .int .u64 0, .string { data := #[] }] 27)).alloc (.cells #[.int .i64 2, .int .i64 wd, .int .u64 0, .string { data := #[] }] 27)) 27 (w.heap.size + 1 + 1) (.int .i64 2) (.int .i64 wd) (.int .u64 0) (.string { data := #[] }) := by
      have h := Box4.new ((w.alloc (.cells #[.int .i64 2, .int .i64 wd, .int .u64 (n : Int), .string s] 27)).alloc (.cells #[.int .i64 0, .int .i64 0, .int .u64 0, .string { data := #[] }] 27)) 27 (.int .i64 2) (.int .i64 wd) (.int .u64 0) (.string { data := #[] })
      rw [show ((w.alloc (.cells #[.int .i64 2, .int .i64 wd, .int .u64 (n : Int), .string s] 27)).alloc (.cells #[.int .i64 0, .int .i64 0, .int .u64 0, .string { data := #[] }] 27)).heap.size = w.heap.size + 1 + 1 by simp] at h
      exact h
    have hB : Box4 (((w.alloc (.cells #[.int .i64 2, .int .i64 wd, .int .u64 (n : Int), .string s] 27)).alloc (.cells #[.int .i64 0, .int .i64 0, .int .u64 0, .string { data := #[] }] 27)).alloc (.cells #[.int .i64 2, .int .i64 wd, .int .u64 0, .string { data := #[] }] 27)) 27 (w.heap.size + 1) (.int .i64 0) (.int .i64 0) (.int .u64 0) (.string { data := #[] }) := by
      have := (Box4.new (w.alloc (.cells #[.int .i64 2, .int .i64 wd, .int .u64 (n : Int), .string s] 27)) 27 (.int .i64 0) (.int .i64 0) (.int .u64 0) (.string { data := #[] })).below ((Below.refl _ _).alloc (Nat.le_refl _) (.cells #[.int .i64 2, .int .i64 wd, .int .u64 0, .string { data := #[] }] 27))
      simpa using this
    have hb := below_alloc (below_alloc (below_alloc (Below.refl w.heap.size w) (.cells #[.int .i64 2, .int .i64 wd, .int .u64 (n : Int), .string s] 27)) (.cells #[.int .i64 0, .int .i64 0, .int .u64 0, .string { data := #[] }] 27)) (.cells #[.int .i64 2, .int .i64 wd, .int .u64 0, .string { data := #[] }] 27)
    have HA := Lib.hid hA; clear hA
    have HB := Lib.hid hB; clear hB
    have HW := Lib.hid hb; clear hb
    go_enter Try.func18, Try.ntmps18
    go_wp2_with fail
    generalize (((w.alloc (.cells #[.int .i64 2, .int .i64 wd, .int .u64 (n : Int), .string s] 27)).alloc (.cells #[.int .i64 0, .int .i64 0, .int .u64 0, .string { data := #[] }] 27)).alloc (.cells #[.int .i64 2, .int .i64 wd, .int .u64 0, .string { data := #[] }] 27)) = w3 at HA HB HW ⊢
    replace HR := Lib.hid (HR.out.below HW.out)
    have HS := Lib.hid (show w.heap.size ≤ w.heap.size + 1 ∧ w.heap.size ≤ w.heap.size + 1 + 1 ∧ w.heap.size + 1 ≠ w.heap.size + 1 + 1 from ⟨by omega, by omega, by omega⟩)
    generalize w.heap.size + 1 + 1 = b2 at HA HS ⊢
    generalize w.heap.size + 1 = b1 at HB HS ⊢
    rw [← hp]
    refine (rd_text o r w3 HR.out).mono ?_
    rintro e w4 ⟨rfl, hr, hg⟩
    have HR2 := Lib.hid hr; clear hr
    have n1 : o ≠ some b1 := fun e => by have := HLt.out b1 e; have := HS.out; omega
    have n2 : o ≠ some b2 := fun e => by have := HLt.out b2 e; have := HS.out; omega
    replace HA := Lib.hid (HA.out.grown hg n2)
    replace HB := Lib.hid (HB.out.grown hg n1)
    have N1 := Lib.hid (show ∀ g, o = some g → g ≠ b1 from fun g e h => n1 (by rw [e, h]))
    have N2 := Lib.hid (show ∀ g, o = some g → g ≠ b2 from fun g e h => n2 (by rw [e, h]))
    have HG := Lib.hid (grown_two (grown_of_below HW.out o) hg); clear hg HW n1 n2
    rw [hp]
    skip
    have hx := HA.out.set3 (.string (str (rdT r)))
    obtain ⟨x0, x1, x2, x3⟩ := hx.S
    obtain ⟨y0, y1, y2, y3⟩ := HA.out.S
    obtain ⟨z0, z1, z2, z3⟩ := HA.out.F
    have hu := HB.out.grown (Lib.grownBy_setCell w4 b2 3 (.string (str (rdT r)))) (by intro e; cases e; exact HS.out.2.2 rfl)
    obtain ⟨u0, u1, u2, u3⟩ := hu.S
    obtain ⟨v0, v1, v2, v3⟩ := hu.F
    have HX := Lib.hid hx; clear hx
    have HU := Lib.hid hu; clear hu
    go_wp2_with fail
    have hz := HU.out.set4 (.int .i64 2) (.int .i64 wd) (.int .u64 0) (.string (str (rdT r)))
    have hgr := grown_set (i := 3) (v := (.string (str (rdT r)))) (grown_set (i := 2) (v := (.int .u64 0)) (grown_set (i := 1) (v := .int .i64 wd) (grown_set (i := 0) (v := .int .i64 2) (grown_set (i := 3) (v := (.string (str (rdT r)))) HG.out HS.out.2.1) HS.out.1) HS.out.1) HS.out.1) HS.out.1
    have hrr := ((((HR2.out.set (i := 3) (v := (.string (str (rdT r)))) N2.out).set (i := 0) (v := .int .i64 2) N1.out).set (i := 1) (v := .int .i64 wd) N1.out).set (i := 2) (v := (.int .u64 0)) N1.out).set (i := 3) (v := (.string (str (rdT r)))) N1.out
    refine bodyPost_ret (results_single rfl (.cell b1 27 _ (0, 0) _ rfl hz Try.underlying27 rfl fd_size .nil)) rfl ?_
    exact ⟨rfl, hrr, hgr⟩
end Go.Proofs.Ytdpnnokchmjflaa
