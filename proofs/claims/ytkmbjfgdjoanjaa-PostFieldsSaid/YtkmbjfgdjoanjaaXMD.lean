/- Texts of one chapter, joined: XPostW, XPostRd, XRefWrite, XPostFL, XPostFieldsW. Each says what it proves, and its conditions. -/
import Derived.Test.YtkmbjfgdjoanjaaXPost
import Derived.Test.YtkmbjfgdjoanjaaXMC
import Derived.Deep.CutRange
import Derived.Test.YtkmbjfgdjoanjaaXPostD
import Derived.Test.YtkmbjfgdjoanjaaXBeRef
import Derived.Test.YtkmbjfgdjoanjaaPx4
import Derived.Test.YtkmbjfgdjoanjaaXMB
import Derived.Test.YtkmbjfgdjoanjaaPx5
import Derived.Test.YtkmbjfgdjoanjaaPx6
/-! post: Write, of up to 20 lines. No conditions beyond those that are written. -/
namespace Go.Proofs.Ytkmbjfgdjoanjaa
open Go.RowKit Go.Lib Go.Proofs.Ytkmbjfgdjoanjaa.P Go.Proofs.Ytkmbjfgdjoanjaa.BeS Go.Proofs.YtkmbjfgdjoanjaaW.PrintWords Go.Proofs.YtkmbjfgdjoanjaaW.PrintLast Go.Proofs.YtkmbjfgdjoanjaaW.PrintMore
set_option linter.unusedVariables false
set_option linter.unusedSimpArgs false
def rg18_7.T : Bool × List (List Nat × List Nat) := (true, [([], []), ([], []), ([1], [1]), ([2], [2]), ([0, 3], [0, 3]), ([], []), ([5], [5]), ([4, 6, 4], [4, 6])])
def rg18_7.B : List Nat := [0, 0, 2, 6, 15, 0, 32, 127]
theorem rg18_7.tab : rtab .any (opsOf Try.f18 7) = rg18_7.T := by kernel_rfl
theorem rg18_7.bits : waitsOk rg18_7.T.2 rg18_7.B = true := by kernel_rfl
theorem wr_numberP (base : Nat) (o : Option Nat) (p : Value) (hp : wrP o = p) (l : List UInt8) (wrong : Bool) (n : Nat) (wd : Int) (w : World) (h : WrO w base o l wrong) (hl : l.length + 8 ≤ 1000000) (hn : n < 18446744073709551616) (h0 : -9223372036854775808 ≤ wd) (h1 : wd < 9223372036854775808) :
    Calls Try.prog 35 #[p, .int .u64 (n : Int), .int .i64 wd] w fun x w' => x = .returned p ∧ WrO w' base o (l ++ putB n wd) (wrong || !fits n wd) ∧ Below base w w' ∧ TouchU o w w' := by
  subst hp; exact wr_number base o l wrong n wd w h hl hn h0 h1
theorem wr_signedP (base : Nat) (o : Option Nat) (p : Value) (hp : wrP o = p) (l : List UInt8) (wrong : Bool) (n : Int) (w : World) (h : WrO w base o l wrong) (hl : l.length + 8 ≤ 1000000) :
    Calls Try.prog 36 #[p, .int .i64 n] w fun x w' => x = .returned p ∧ WrO w' base o (l ++ putL (n % 18446744073709551616).toNat 8) wrong ∧ Below base w w' ∧ TouchU o w w' := by
  subst hp; exact wr_signed base o l wrong n w h hl
def uN (x : Int) : Nat := (x % 18446744073709551616).toNat
theorem uN_lt (x : Int) : uN x < 18446744073709551616 := by unfold uN; omega
theorem uN_wrap (x : Int) : IntKind.u64.wrap x = (uN x : Int) := by rw [IntKind.wrap_u64]; unfold uN; omega
def lnB (p : Ln) : List UInt8 := putB (uN p.1) 2 ++ putL (uN p.2) 8
def lnBad (p : Ln) : Bool := !fits (uN p.1) 2
def cntP (n : Nat) : Nat := if 8 < n then 18446744073709551615 else n
def textL (xs : List Ln) : List UInt8 := putB (cntP xs.length) 1 ++ xs.flatMap lnB
def badL (xs : List Ln) : Bool := !fits (cntP xs.length) 1 || xs.any lnBad
theorem lnB_len (p : Ln) : (lnB p).length ≤ 16 := by
  unfold lnB
  rw [List.length_append, putL_length]
  have := putB_len (uN p.1) 2
  omega
theorem lnB_flat (xs : List Ln) : (xs.flatMap lnB).length ≤ xs.length * 16 := by
  induction xs with
  | nil => simp
  | cons x xs ih =>
    rw [List.flatMap_cons, List.length_append, List.length_cons, Nat.succ_mul]
    have := lnB_len x
    omega
theorem Box2.S {w : World} {t : TypeId} {b : Nat} {c0 c1 : Value} (h : Box2 w t b c0 c1) : w.cell? ⟨b, 0, none⟩ = some c0 ∧ w.cell? ⟨b, 1, none⟩ = some c1 := ⟨h.facts.1, h.facts.2.1⟩
theorem WrO.ne_new {w : World} {base : Nat} {o : Option Nat} {l : List UInt8} {wrong : Bool} (h : WrO w base o l wrong) : o ≠ some w.heap.size := by
  intro e
  obtain ⟨_, v, h2, _⟩ := h.2 _ e
  exact Nat.lt_irrefl _ h2.lt
set_option maxHeartbeats 4000000 in
theorem post_write (xs : List Ln) (hn : xs.length ≤ 100) (v : Value) (base : Nat) (o : Option Nat) (l : List UInt8) (wrong : Bool) (w0 w : World) (hr : RowS encL w0 v xs) (h0 : Below w0.heap.size w0 w) (hb : w0.heap.size ≤ base) (hW : WrO w base o l wrong) (hl : l.length + 30000 ≤ 1000000) :
    Calls Try.prog 18 #[v, wrP o] w fun x w' => x = .returned (.tuple #[]) ∧ WrO w' base o (l ++ textL xs) (wrong || badL xs) ∧ Below base w w' ∧ TouchU o w w' := by
  have H0 := Lib.hid h0; clear h0
  have HBase := Lib.hid hb; clear hb
  have HW := Lib.hid hW; clear hW
  have HL := Lib.hid hl; clear hl
  have HN := Lib.hid hn; clear hn
  obtain ⟨ad, cap, rfl, _⟩ := hr.len
  have HRow := Lib.hid hr; clear hr
  have HC := Lib.hid (show cntP xs.length < 18446744073709551616 by have := HN.out; unfold cntP; split <;> omega)
  have c1 : IntKind.u64.wrap (xs.length : Int) = (xs.length : Int) := u64_wrap_nat _ (by have := HN.out; omega)
  generalize hp : wrP o = p
  have Hp := Lib.hid hp; clear hp
  go_enter Try.func18, Try.ntmps18
  generalize hcn : cntP xs.length = C at HC
  have HCn := Lib.hid hcn; clear hcn
  go_upto_if 12 with (fail)
  go_cut [4] from 7 to 12 (fun s4 wx => s4 = .int .u64 (C : Int) ∧ wx = w)
  case first =>
    by_cases h8 : 8 < xs.length
    · have q1 : decide (8 < xs.length) = true := decide_eq_true h8
      have q2 : decide (8 < (xs.length : Int)) = true := decide_eq_true (by omega)
      go_wp2_with fail
      go_meet
      case rel => exact ⟨by rw [← HCn.out]; unfold cntP; rw [if_pos h8]; rfl, rfl⟩
    · have q1 : decide (8 < xs.length) = false := decide_eq_false h8
      have q2 : decide (8 < (xs.length : Int)) = false := decide_eq_false (by omega)
      go_wp2_with fail
      go_meet
      case rel => exact ⟨by rw [← HCn.out]; unfold cntP; rw [if_neg h8], rfl⟩
  case rest =>
    obtain ⟨rfl, rfl⟩ := hcut
    clear c1
    go_wp2_with fail
    refine (wr_numberP base o p Hp.out l wrong C 1 wc HW.out (by have := HL.out; omega) HC.out (by decide) (by decide)).mono ?_
    rintro e w1 ⟨rfl, hw, hb, ht⟩
    replace HW := Lib.hid hw; clear hw
    have HB := Lib.hid hb; clear hb
    have HT := Lib.hid ht; clear ht
    go_wp2_with fail
    generalize hL1 : l ++ putB C 1 = L1 at HW
    have HL1 := Lib.hid hL1; clear hL1
    have HLn := Lib.hid (show L1.length ≤ l.length + 8 by rw [← HL1.out, List.length_append]; have := putB_len C 1; omega)
    generalize hw1 : (wrong || !fits C 1) = W1 at HW
    have HW1 := Lib.hid hw1; clear hw1
    go_loopw [18] (fun i wr => ∃ j : Nat, j ≤ xs.length ∧ i = .int .i64 (j : Int) ∧ WrO wr base o (L1 ++ (xs.take j).flatMap lnB) (W1 || (xs.take j).any lnBad) ∧ Below base wc wr ∧ TouchU o wc wr) (fun i _ => xs.length - (RowKit.intOf i).toNat)
    case atStart => exact ⟨0, Nat.zero_le _, rfl, by simpa using HW.out, HB.out, HT.out⟩
    case round =>
      clear HW HB HT
      obtain ⟨j, hj, rfl, hw, hb, ht⟩ := hrel
      have HW := Lib.hid hw; clear hw
      have HB := Lib.hid hb; clear hb
      have HT := Lib.hid ht; clear ht
      by_cases hlt : j < xs.length
      · have e3 : wrap64 ((j : Int) + 1) = ((j + 1 : Nat) : Int) := wrap_succP j (by have := HN.out; omega)
        obtain ⟨g, off, cap', hv, k0, k1⟩ := ln_at (HRow.out.below (H0.out.trans (HB.out.mono HBase.out))) j hlt
        have hv2 := (Value.slice.inj hv).1
        subst hv2
        clear hv
        have hlen : ((xs.take j).flatMap lnB).length ≤ j * 16 := by
          have := lnB_flat (xs.take j)
          rwa [List.length_take, Nat.min_eq_left hj] at this
        have HLen := Lib.hid (show (L1 ++ (xs.take j).flatMap lnB).length + 1000 ≤ 1000000 by rw [List.length_append]; have := HL.out; have := HLn.out; have := HN.out; omega)
        have HTk := Lib.hid (show (xs.take (j + 1)).flatMap lnB = (xs.take j).flatMap lnB ++ lnB xs[j] ∧ (xs.take (j + 1)).any lnBad = ((xs.take j).any lnBad || lnBad xs[j]) by rw [List.take_succ_eq_append_getElem hlt, List.flatMap_append, List.any_append]; simp)
        generalize xs[j] = x at k0 k1 HTk
        obtain ⟨xa, xm⟩ := x
        simp only at k0 k1
        have Hlt := Lib.hid hlt
        clear hlen
        go_upto_region 7 with (fail)
        clear k0 k1
        have HX := Lib.hid (Box2.new wr 81 (.int .i64 xa) (.int .i64 xm))
        have ha := below_alloc (Below.refl wr.heap.size wr) (.cells #[.int .i64 xa, .int .i64 xm] 81)
        have HNe := Lib.hid HW.out.ne_new
        replace HB := Lib.hid (chainB HB.out HW.out.1 ha)
        replace HW := Lib.hid (HW.out.below ha)
        replace HT := Lib.hid (HT.out.trans (TouchU.of ha))
        clear ha
        generalize hL2 : L1 ++ (xs.take j).flatMap lnB = L at HW HLen
        have HL2 := Lib.hid hL2; clear hL2
        generalize hW2 : (W1 || (xs.take j).any lnBad) = W2 at HW
        have HW2 := Lib.hid hW2; clear hW2
        have c3 : IntKind.u64.wrap xa = (uN xa : Int) := uN_wrap xa
        generalize (wr.alloc (.cells #[.int .i64 xa, .int .i64 xm] 81)) = wa at HX HB HW HT ⊢
        generalize wr.heap.size = bx at HX HNe ⊢
        have hS := HX.out.S
        replace HX := Lib.hid (show Box2 wa.drew 81 bx _ _ from HX.out)
        replace HW := Lib.hid (show WrO wa.drew base o L W2 from HW.out)
        replace HB := Lib.hid (below_drew1 HB.out)
        replace HT := Lib.hid (show TouchU o wc wa.drew from Touch.drew HT.out)
        refine start_ (n := 8) (S := fun w' => w'.cell? ⟨bx, 0, none⟩ = some (.int .i64 xa) ∧ w'.cell? ⟨bx, 1, none⟩ = some (.int .i64 xm)) (ds := []) #[false, false, false, false, false, false, false, false] (by kernel_rfl) rfl rfl hS (fun hHeld => ?_)
        refine with_tabW rg18_7.tab rg18_7.bits (fun HT_ HW_ => ?_)
        generalize wa.drew = w' at HX HW HB HT hS hHeld ⊢
        refine pure_ (i := 0) (N := some 22) (v := ?_) (a' := ?_) #[true, false, false, false, false, false, false, false] rfl rfl (any_of HT_.out (by kernel_rfl)) (fun _ _ _ h => h) (Or.inl ⟨by rfl, ?_⟩) ?_ ?_
        rotate_left
        · intro w'
          go_simp
          try with_reducible rfl
        rotate_left
        · simp (maxSteps := 4000000) only [Act.put, List.setIfInBounds_toArray, List.set_cons_zero, List.set_cons_succ, i64_w, i32_w]
          try rfl
        refine pure_ (i := 1) (N := some 23) (v := ?_) (a' := ?_) #[true, true, false, false, false, false, false, false] rfl rfl (any_of HT_.out (by kernel_rfl)) (fun _ _ _ h => h) (Or.inl ⟨by rfl, ?_⟩) ?_ ?_
        rotate_left
        · intro w'
          go_simp
          try with_reducible rfl
        rotate_left
        · simp (maxSteps := 4000000) only [Act.put, List.setIfInBounds_toArray, List.set_cons_zero, List.set_cons_succ, i64_w, i32_w]
          try rfl
        refine pure_ (i := 5) (N := some 27) (v := ?_) (a' := ?_) #[true, true, false, false, false, true, false, false] rfl rfl (any_of HT_.out (by kernel_rfl)) (fun _ _ _ h => h) (Or.inl ⟨by rfl, ?_⟩) ?_ ?_
        rotate_left
        · intro w'
          go_simp
          try with_reducible rfl
        rotate_left
        · simp (maxSteps := 4000000) only [Act.put, List.setIfInBounds_toArray, List.set_cons_zero, List.set_cons_succ, i64_w, i32_w]
          try rfl
        refine take_ (i := 2) (N := some 24) (v := ?_) (a' := ?_) #[true, true, true, false, false, true, false, false] rfl rfl (take_ofW HT_.out HW_.out (by kernel_rfl)) (fun _ _ _ h => h) (Or.inl ⟨by rfl, ?_⟩) hHeld ?_ ?_
        rotate_left
        · intro w' hw_
          try dsimp only at hw_
          obtain ⟨x0, x1⟩ := hw_
          go_simp
          try with_reducible rfl
        rotate_left
        · simp (maxSteps := 4000000) only [Act.put, List.setIfInBounds_toArray, List.set_cons_zero, List.set_cons_succ, i64_w, i32_w]
          try rfl
        refine pure_ (i := 3) (N := some 25) (v := ?_) (a' := ?_) #[true, true, true, true, false, true, false, false] rfl rfl (any_of HT_.out (by kernel_rfl)) (fun _ _ _ h => h) (Or.inl ⟨by rfl, ?_⟩) ?_ ?_
        rotate_left
        · intro w'
          go_simp
          try with_reducible rfl
        rotate_left
        · simp (maxSteps := 4000000) only [Act.put, List.setIfInBounds_toArray, List.set_cons_zero, List.set_cons_succ, i64_w, i32_w]
          try rfl
        refine take_ (i := 6) (N := some 28) (v := ?_) (a' := ?_) #[true, true, true, true, false, true, true, false] rfl rfl (take_ofW HT_.out HW_.out (by kernel_rfl)) (fun _ _ _ h => h) (Or.inl ⟨by rfl, ?_⟩) hHeld ?_ ?_
        rotate_left
        · intro w' hw_
          try dsimp only at hw_
          obtain ⟨x0, x1⟩ := hw_
          go_simp
          try with_reducible rfl
        rotate_left
        · simp (maxSteps := 4000000) only [Act.put, List.setIfInBounds_toArray, List.set_cons_zero, List.set_cons_succ, i64_w, i32_w]
          try rfl
        refine one_ (i := 4) (N := some 26) #[true, true, true, true, true, true, true, false] rfl rfl (one_of HT_.out (by kernel_rfl)) (by decide) (fun K hK => ?_)
        refine goes_ Try.func35 (by kernel_rfl) rfl #[p, .int .u64 (uN xa : Int), .int .i64 2] (by rfl) rfl rfl (by (try simp only [List.map_toArray, List.map_cons, List.map_nil]); first | done | rfl) ?_
        refine (wr_numberP base o p Hp.out L W2 (uN xa) 2 w' HW.out (by have := HLen.out; omega) (uN_lt xa) (by decide) (by decide)).mono ?_
        rintro e w' ⟨rfl, hw, hb, ht⟩
        refine ⟨_, rfl, ?_⟩
        replace HX := Lib.hid (show Box2 _ _ _ _ _ from ht.blk HX.out HNe.out (by decide))
        replace HW := Lib.hid hw
        replace HB := Lib.hid (HB.out.trans hb)
        replace HT := Lib.hid (HT.out.trans ht)
        clear hw hb ht
        refine hK.out _ _ (HX.out.S) (fun hHeld => ?_)
        clear hK K
        refine norm_ (a' := ?_) ?_ ?_
        rotate_left
        · show Act.put _ (some 26) _ = _
          simp (maxSteps := 4000000) only [Act.put, List.setIfInBounds_toArray, List.set_cons_zero, List.set_cons_succ, i64_w, i32_w]
          try rfl
        refine one_ (i := 7) (N := some 29) #[true, true, true, true, true, true, true, true] rfl rfl (one_of HT_.out (by kernel_rfl)) (by decide) (fun K hK => ?_)
        refine goes_ Try.func36 (by kernel_rfl) rfl #[p, .int .i64 xm] (by rfl) rfl rfl (by (try simp only [List.map_toArray, List.map_cons, List.map_nil]); first | done | rfl) ?_
        refine (wr_signedP base o p Hp.out (L ++ putB (uN xa) 2) (W2 || !fits (uN xa) 2) xm w' HW.out (by have := HLen.out; rw [List.length_append]; have := putB_len (uN xa) 2; omega)).mono ?_
        rintro e w' ⟨rfl, hw, hb, ht⟩
        refine ⟨_, rfl, ?_⟩
        replace HX := Lib.hid (show Box2 _ _ _ _ _ from ht.blk HX.out HNe.out (by decide))
        replace HW := Lib.hid hw
        replace HB := Lib.hid (HB.out.trans hb)
        replace HT := Lib.hid (HT.out.trans ht)
        clear hw hb ht
        refine hK.out _ _ (HX.out.S) (fun hHeld => ?_)
        clear hK K
        refine norm_ (a' := ?_) ?_ ?_
        rotate_left
        · show Act.put _ (some 29) _ = _
          simp (maxSteps := 4000000) only [Act.put, List.setIfInBounds_toArray, List.set_cons_zero, List.set_cons_succ, i64_w, i32_w]
          try rfl
        refine done_ (done_of HT_.out (by kernel_rfl)) ?_
        clear c3
        go_wp2_with fail
        exact ⟨⟨j + 1, Hlt.out, by rw [e3], by rw [HTk.out.1, HTk.out.2, ← List.append_assoc, ← Bool.or_assoc, HL2.out, HW2.out]; unfold lnB lnBad; rw [← List.append_assoc]; exact HW.out, HB.out, HT.out⟩, by rw [e3]; simp only [RowKit.intOf, Int.toNat_natCast]; exact Nat.sub_lt_sub_left Hlt.out (Nat.lt_succ_self j)⟩
      · obtain rfl : j = xs.length := Nat.le_antisymm hj (Nat.le_of_not_lt hlt)
        have hw := HW.out
        rw [List.take_length, ← HL1.out, ← HW1.out, ← HCn.out, List.append_assoc, Bool.or_assoc] at hw
        go_wp2_with fail
        go_end0
        exact ⟨by rfl, hw, HB.out, HT.out⟩
end Go.Proofs.Ytkmbjfgdjoanjaa

/-! post: Read. No conditions beyond those that are written. -/
namespace Go.Proofs.Ytkmbjfgdjoanjaa
open Go.RowKit Go.Lib Go.Proofs.Ytkmbjfgdjoanjaa.P Go.Proofs.Ytkmbjfgdjoanjaa.BeS Go.Proofs.YtkmbjfgdjoanjaaW.PrintWords Go.Proofs.YtkmbjfgdjoanjaaW.PrintLast Go.Proofs.YtkmbjfgdjoanjaaW.PrintMore
set_option linter.unusedVariables false
set_option linter.unusedSimpArgs false
--@tables
theorem grown_own {w a b : World} {o q : Option Nat} (h : w.grownBy a o) (k : a.grownBy b q) (hq : ∀ g, q = some g → w.heap.size ≤ g) : w.grownBy b o :=
  ⟨k.os.trans h.os, k.tape.trans h.tape, k.output.trans h.output, Nat.le_trans h.size k.size, fun i hi hne => (k.block i (Nat.lt_of_lt_of_le hi h.size) (fun e => Nat.lt_irrefl _ (Nat.lt_of_lt_of_le hi (hq i e.symm)))).trans (h.block i hi hne)⟩
theorem rd_numberP (o : Option Nat) (p : Value) (hp : wrP o = p) (r : RdS) (wd : Int) (w : World) (h : RdO w o r) (h0 : -9223372036854775808 ≤ wd) (h1 : wd < 9223372036854775808) :
    Calls Try.prog 38 #[p, .int .i64 wd] w fun x w' => x = .returned (.int .u64 (rdN r wd : Int)) ∧ RdO w' o (tkR r (numW wd)) ∧ w.grownBy w' o := by
  subst hp; exact rd_number o r wd w h h0 h1
theorem rd_signedP (o : Option Nat) (p : Value) (hp : wrP o = p) (r : RdS) (w : World) (h : RdO w o r) :
    Calls Try.prog 39 #[p] w fun x w' => x = .returned (.int .i64 (wrap64 (rdN r 8 : Int))) ∧ RdO w' o (tkR r 8) ∧ w.grownBy w' o := by
  subst hp; exact rd_signed o r w h
theorem rd_wrongP (o : Option Nat) (p : Value) (hp : wrP o = p) (r : RdS) (w : World) (h : RdO w o r) :
    Calls Try.prog 40 #[p] w fun x w' => x = .returned (.bool r.2) ∧ Below w.heap.size w w' := by
  subst hp; exact rd_wrong o r w h
theorem rdN2_lt (r : RdS) : rdN r 2 < 65536 := by
  have h := getN_lt (tkS r (numW 2))
  have h2 : (tkS r (numW 2)).length ≤ 2 := tkS_le r _ 2 (by decide)
  unfold rdN
  calc getN (tkS r (numW 2)) < 256 ^ (tkS r (numW 2)).length := h
    _ ≤ 256 ^ 2 := Nat.pow_le_pow_right (by decide) h2
    _ = 65536 := by decide
/-- A line read, and what is left. -/
def rdLn (r : RdS) : Ln × RdS := (((rdN r 2 : Int), wrap64 (rdN (tkR r 2) 8 : Int)), tkR (tkR r 2) 8)
def rdLs : Nat → RdS → List Ln × RdS
  | 0, r => ([], r)
  | k + 1, r => ((rdLs k r).1 ++ [(rdLn (rdLs k r).2).1], (rdLn (rdLs k r).2).2)
theorem rdLs_len (k : Nat) (r : RdS) : (rdLs k r).1.length = k := by
  induction k with
  | zero => rfl
  | succ k ih => unfold rdLs; rw [List.length_append, ih]; rfl
/-- The lines, the error and what is left. -/
def prd (r : RdS) : List Ln × Int × RdS :=
  if 8 < rdN r 1 then ([], 4, tkR r 1) else if (rdLs (rdN r 1) (tkR r 1)).2.2 = true then ([], 4, (rdLs (rdN r 1) (tkR r 1)).2) else ((rdLs (rdN r 1) (tkR r 1)).1, 0, (rdLs (rdN r 1) (tkR r 1)).2)
theorem RdO.lt {w : World} {o : Option Nat} {r : RdS} (h : RdO w o r) : ∀ g, o = some g → g < w.heap.size := fun g e => (h.1 g e).lt
set_option maxHeartbeats 4000000 in
theorem post_read (o : Option Nat) (r : RdS) (w : World) (h : RdO w o r) :
    Calls Try.prog 22 #[wrP o] w fun x w' => ∃ v, x = .returned (.tuple #[v, .int .i64 (prd r).2.1]) ∧ LRow w' 81 w.heap.size v (prd r).1 ∧ RdO w' o (prd r).2.2 ∧ w.grownBy w' o := by
  have HLt := Lib.hid h.lt
  have HR := Lib.hid h; clear h
  have HPr := Lib.hid (show prd r = prd r from rfl)
  generalize hpr : prd r = R at HPr ⊢
  have HR2 := Lib.hid hpr; clear hpr HPr
  unfold prd at HR2
  generalize hp : wrP o = p
  have Hp := Lib.hid hp; clear hp
  generalize hB : w.heap.size = B at HLt ⊢
  have HB := Lib.hid hB; clear hB
  go_enter Try.func22, Try.ntmps22
  go_wp2_with fail
  refine (rd_numberP o p Hp.out r 1 w HR.out (by decide) (by decide)).mono ?_
  rintro e w1 ⟨rfl, hr, hg⟩
  rw [show numW 1 = 1 from rfl] at hr
  replace HR := Lib.hid hr; clear hr
  have HG := Lib.hid hg; clear hg
  generalize tkR r 1 = r1 at HR HR2
  generalize rdN r 1 = n at HR2 ⊢
  by_cases h8 : 8 < n
  · have q1 : decide (8 < n) = true := decide_eq_true h8
    have q2 : decide (8 < (n : Int)) = true := decide_eq_true (by omega)
    have hR := HR2.out
    rw [if_pos h8] at hR
    subst hR
    go_wp2
    go_ret2
    exact ⟨_, rfl, World.ownsRow_nil _ _ _ _, HR.out, HG.out⟩
  · have q1 : decide (8 < n) = false := decide_eq_false h8
    have q2 : decide (8 < (n : Int)) = false := decide_eq_false (by omega)
    have HN := Lib.hid (Nat.le_of_not_lt h8)
    have hR := HR2.out
    rw [if_neg h8] at hR
    replace HR2 := Lib.hid hR; clear hR h8
    go_wp2_with fail
    go_loopw [5, 11] (fun v i wr => ∃ j : Nat, j ≤ n ∧ i = .int .u64 (j : Int) ∧ LRow wr 81 B v (rdLs j r1).1 ∧ RdO wr o (rdLs j r1).2 ∧ w.grownBy wr o) (fun _ i _ => n - (RowKit.intOf i).toNat)
    case atStart => exact ⟨0, Nat.zero_le _, rfl, World.ownsRow_nil _ _ _ _, HR.out, HG.out⟩
    case round =>
      clear HR HG q1 q2
      obtain ⟨j, hj, rfl, hl, hr, hg⟩ := hrel
      have HL := Lib.hid hl; clear hl
      have HR := Lib.hid hr; clear hr
      have HG := Lib.hid hg; clear hg
      have HMl := Lib.hid (rdLs_len j r1)
      by_cases hlt : j < n
      · have e3 : IntKind.u64.wrap ((j : Int) + 1) = ((j + 1 : Nat) : Int) := by rw [IntKind.wrap_u64]; have := HN.out; omega
        have HS := Lib.hid (show rdLs (j + 1) r1 = ((rdLs j r1).1 ++ [(rdLn (rdLs j r1).2).1], (rdLn (rdLs j r1).2).2) from rfl)
        generalize rdLs j r1 = P at HL HR HMl HS
        obtain ⟨xs, rr⟩ := P
        simp only at HL HR HMl HS
        unfold rdLn at HS
        obtain ⟨aa, ca, rfl⟩ := HL.out.form
        rw [HMl.out] at HL ⊢
        have Hlt := Lib.hid hlt; clear hj
        have q1 : decide (j < n) = true := decide_eq_true hlt
        have q2 : decide ((j : Int) < (n : Int)) = true := decide_eq_true (by omega)
        clear hlt
        go_wp2_with fail
        refine (rd_numberP o p Hp.out rr 2 wr HR.out (by decide) (by decide)).mono ?_
        rintro e w2 ⟨rfl, hr, hg⟩
        rw [show numW 2 = 2 from rfl] at hr
        replace HR := Lib.hid hr; clear hr
        replace HL := Lib.hid (LRow.grown HL.out hg (by
          cases hv : (Value.slice aa j ca).ownBlock with
          | none => exact .inl rfl
          | some k => exact .inr (fun e => by have h1 := (World.ownsRow.lt HL.out k hv).1; have h2 := HLt.out k e.symm; omega)))
        replace HG := Lib.hid (grown_two HG.out hg); clear hg
        have c1 : wrap64 (rdN rr 2 : Int) = (rdN rr 2 : Int) := by have := rdN2_lt rr; unfold wrap64; omega
        have c2 : IntKind.i64.wrap (rdN rr 2 : Int) = (rdN rr 2 : Int) := by rw [IntKind.wrap_i64]; have := rdN2_lt rr; omega
        generalize tkR rr 2 = r2 at HR HS
        generalize rdN rr 2 = na at HS c1 c2 ⊢
        go_wp2_with fail
        refine (rd_signedP o p Hp.out r2 w2 HR.out).mono ?_
        rintro e w3 ⟨rfl, hr, hg⟩
        replace HR := Lib.hid hr; clear hr
        replace HL := Lib.hid (LRow.grown HL.out hg (by
          cases hv : (Value.slice aa j ca).ownBlock with
          | none => exact .inl rfl
          | some k => exact .inr (fun e => by have h1 := (World.ownsRow.lt HL.out k hv).1; have h2 := HLt.out k e.symm; omega)))
        replace HG := Lib.hid (grown_two HG.out hg); clear hg
        generalize tkR r2 8 = r3 at HR HS
        generalize wrap64 (rdN r2 8 : Int) = m at HS ⊢
        have HN2 := Lib.hid (heap_alloc_new w3 (.cells #[.int .i64 (na : Int), .int .i64 m] 81))
        have ha := below_alloc (Below.refl w3.heap.size w3) (.cells #[.int .i64 (na : Int), .int .i64 m] 81)
        replace HL := Lib.hid (HL.out.below ha)
        replace HR := Lib.hid (HR.out.below ha)
        replace HG := Lib.hid (grown_two HG.out (grown_of_below ha o)); clear ha
        have HSz := Lib.hid (show B ≤ (w3.alloc (.cells #[.int .i64 (na : Int), .int .i64 m] 81)).heap.size by have := HG.out.size; have := HB.out; omega)
        obtain ⟨ax, cx, w4, hr, ho2, hgr⟩ := l_addN Try.underlying30 line_info 30 B _ _ j HMl.out _ HL.out (by have := HN.out; have := Hlt.out; omega) ((na : Int), m) w3.heap.size HN2.out HSz.out
        have HRun := Lib.hid hr; clear hr
        have hne : ∀ g, (Value.slice aa j ca).ownBlock = some g → B ≤ g := fun g hv => (World.ownsRow.lt HL.out g hv).1
        replace HR := Lib.hid (HR.out.grown hgr (fun g e1 e2 => by have h1 := hne g e2; have h2 := HLt.out g e1; omega))
        replace HG := Lib.hid (grown_own HG.out hgr (fun g e => by rw [HB.out]; exact hne g e))
        replace HL := Lib.hid ho2; clear ho2 hgr hne
        go_wp2_with (at_builtin; refine wpList_append_run rfl _ _ 30 rfl _ _ rfl rfl HRun.out ?_)
        go_roundw
        case rel => exact ⟨j + 1, Hlt.out, by first | rw [e3] | rfl, by rw [HS.out]; exact HL.out, by rw [HS.out]; exact HR.out, HG.out⟩
        case measure => (first | rw [e3] | rw [show ((j : Int) + 1) = ((j + 1 : Nat) : Int) from rfl]); simp only [RowKit.intOf, Int.toNat_natCast]; exact Nat.sub_lt_sub_left Hlt.out (Nat.lt_succ_self j)
      · obtain rfl : j = n := Nat.le_antisymm hj (Nat.le_of_not_lt hlt)
        obtain ⟨aa, ca, rfl⟩ := HL.out.form
        rw [HMl.out] at HL ⊢
        clear hlt hj
        generalize rdLs j r1 = P at HL HR HMl HR2
        obtain ⟨xs, rr⟩ := P
        simp only at HL HR HMl HR2
        have q1 : decide (j < j) = false := decide_eq_false (Nat.lt_irrefl _)
        have q2 : decide ((j : Int) < (j : Int)) = false := decide_eq_false (by omega)
        go_wp2_with fail
        refine (rd_wrongP o p Hp.out rr wr HR.out).mono ?_
        rintro e w2 ⟨rfl, hd⟩
        replace HL := Lib.hid (HL.out.below hd)
        replace HR := Lib.hid (HR.out.below hd)
        replace HG := Lib.hid (grown_two HG.out (grown_of_below hd o)); clear hd
        cases hw : rr.2 with
        | true =>
          have hR := HR2.out
          rw [if_pos hw] at hR
          subst hR
          clear hw
          go_wp2
          go_ret2
          exact ⟨_, rfl, World.ownsRow_nil _ _ _ _, HR.out, HG.out⟩
        | false =>
          have hR := HR2.out
          rw [if_neg (by rw [hw]; decide)] at hR
          subst hR
          clear hw
          go_wp2
          go_ret2
          exact ⟨_, rfl, HL.out, HR.out, HG.out⟩
end Go.Proofs.Ytkmbjfgdjoanjaa

/-! The document's Write of fields (printed), plainly: the bytes of all fields, or none. No conditions beyond the kinds of the numbers. -/
namespace Go.Proofs.Ytkmbjfgdjoanjaa
open Go.RowKit Go.Lib Go.Proofs.Ytkmbjfgdjoanjaa.P Go.Proofs.Ytkmbjfgdjoanjaa.BeS Go.Proofs.YtkmbjfgdjoanjaaW.PrintWords Go.Proofs.YtkmbjfgdjoanjaaW.PrintLast Go.Proofs.YtkmbjfgdjoanjaaW.PrintMore
set_option linter.unusedVariables false
set_option linter.unusedSimpArgs false
/-- A field: a number of a width, a number with a sign, or a text. -/
inductive Fl where
  | num (n : Nat) (wd : Nat)
  | sig (n : Nat)
  | txt (s : ByteArray)
def Fl.ok : Fl → Bool
  | .num n wd => fits n (wd : Int)
  | .sig _ => true
  | .txt s => decide (s.size ≤ 255)
def Fl.bytes : Fl → List UInt8
  | .num n wd => putB n (wd : Int)
  | .sig n => putL n 8
  | .txt s => UInt8.ofNat s.size :: s.data.toList
def Fl.In : Fl → Prop
  | .num n wd => n < 18446744073709551616 ∧ wd ≤ 8
  | .sig n => n < 18446744073709551616
  | .txt s => s.size ≤ 1000
/-- As the document has it. -/
def Fl.s : Fl → S96
  | .num n wd => ⟨0, (wd : Int), (n : Int), ⟨#[]⟩⟩
  | .sig n => ⟨1, 0, (n : Int), ⟨#[]⟩⟩
  | .txt s => ⟨2, 0, 0, s⟩
def flBytes (fs : List Fl) : List UInt8 := fs.flatMap Fl.bytes
def flOk (fs : List Fl) : Bool := fs.all Fl.ok
theorem Fl.bytes_len {f : Fl} (h : f.In) : f.bytes.length ≤ 1001 := by
  cases f with
  | num n wd => have := putB_len n (wd : Int); show (putB n _).length ≤ _; omega
  | sig n => show (putL n 8).length ≤ _; rw [putL_length]; omega
  | txt s =>
    show (UInt8.ofNat s.size :: s.data.toList).length ≤ _
    have e : s.data.toList.length = s.size := rfl
    have : s.size ≤ 1000 := h
    rw [List.length_cons, e]; omega
theorem flBytes_len (fs : List Fl) (h : ∀ f ∈ fs, f.In) : (flBytes fs).length ≤ fs.length * 1001 := by
  unfold flBytes
  induction fs with
  | nil => simp
  | cons f fs ih =>
    have := Fl.bytes_len (h f (by simp))
    have := ih (fun x hx => h x (by simp [hx]))
    rw [List.flatMap_cons, List.length_append, List.length_cons]
    omega
theorem rd_fl (fs : List Fl) (i : Nat) (hi : i < fs.length) : rd_T96 (fs.map Fl.s) (i : Int) = fs[i].s := by
  unfold rd_T96
  rw [Int.toNat_natCast, List.getD_eq_getElem?_getD, List.getElem?_map, List.getElem?_eq_getElem hi]
  rfl
theorem ref_put_fBk (n : Nat) (hn : n < 18446744073709551616) (wd : Int) (k : Nat) (hk : 10 < k) : tillrollref01_Put.f k (n : Int) wd = some (str (putB n wd)) := by
  rw [ref_put_f n hn wd k hk]
  unfold putB
  split <;> rfl
theorem str_addS (l : List UInt8) (s : ByteArray) : str l ++ s = str (l ++ s.data.toList) := by
  have h := str_append l s.data.toList
  rw [← of_data s] at h
  exact h
theorem rwrite_l0 (fs : List Fl) (hin : ∀ f ∈ fs, f.In) (hfs : fs.length ≤ 1000) (d : Nat) : ∀ (k i : Nat), i + d = fs.length → 2 * d + 80 < k → flOk (fs.take i) = true →
    tillrollref04_Write.l0 k (fs.map Fl.s) (str (flBytes (fs.take i))) (i : Int) = some (if flOk fs = true then (str (flBytes fs), true) else ((⟨#[]⟩ : ByteArray), false)) := by
  have hB : ∀ i, (flBytes (fs.take i)).length ≤ 1001000 := fun i => by
    have h1 := flBytes_len (fs.take i) (fun x hx => hin x (List.mem_of_mem_take hx))
    have h2 : (fs.take i).length ≤ 1000 := by rw [List.length_take]; omega
    have : (fs.take i).length * 1001 ≤ 1000 * 1001 := Nat.mul_le_mul_right _ h2
    omega
  induction d with
  | zero =>
    intro k i h hk ho
    obtain ⟨k, rfl⟩ : ∃ q, k = q + 1 := ⟨k - 1, by omega⟩
    simp only [tillrollref04_Write.l0]
    rw [List.take_of_length_le (by omega)] at ho ⊢
    rw [if_neg (by rw [List.length_map]; omega), if_pos ho]
  | succ d ih =>
    intro k i h hk ho
    obtain ⟨k, rfl⟩ : ∃ q, k = q + 1 + 1 := ⟨k - 2, by omega⟩
    have hi : i < fs.length := by omega
    have hl := hB i
    have hmem := hin fs[i] (List.getElem_mem hi)
    have htk : fs.take (i + 1) = fs.take i ++ [fs[i]] := List.take_succ_eq_append_getElem hi
    have hby : flBytes (fs.take (i + 1)) = flBytes (fs.take i) ++ fs[i].bytes := by unfold flBytes; rw [htk, List.flatMap_append]; simp
    have hok : flOk (fs.take (i + 1)) = fs[i].ok := by
      unfold flOk at ho ⊢
      rw [htk, List.all_append, ho]; simp
    have hbad : fs[i].ok = false → flOk fs = false := fun hf => by
      unfold flOk
      rw [List.all_eq_false]
      exact ⟨fs[i], List.getElem_mem hi, by rw [hf]; decide⟩
    have hw : wrap64 ((i : Int) + 1) = ((i + 1 : Nat) : Int) := by unfold wrap64; omega
    have hn := fun hf : fs[i].ok = true => ih k (i + 1) (by omega) (by omega) (hok.trans hf)
    rw [hby] at hn
    simp only [tillrollref04_Write.l0]
    rw [if_pos (by rw [List.length_map]; omega), if_pos (by omega), rd_fl fs i hi]
    have hbl := Fl.bytes_len hmem
    generalize fs[i] = f at hmem hn hbad hbl
    cases f with
    | num n wd =>
      obtain ⟨h1, h2⟩ := hmem
      rw [show (Fl.num n wd).s = ⟨0, (wd : Int), (n : Int), ⟨#[]⟩⟩ from rfl]
      simp only
      rw [if_neg (by decide)]
      simp only [tillrollref04_Write.j1]
      rw [if_neg (by decide), ref_fits_f n h1 (wd : Int) _ (by omega), Option.bind_some]
      by_cases hf : fits n (wd : Int) = true
      · rw [if_pos hf, ref_put_fBk n h1 _ _ (by omega), Option.bind_some, if_pos (by rw [str_size, str_size]; have := putB_len n (wd : Int); omega), str_append, hw]
        exact hn hf
      · rw [if_neg hf, if_neg (by rw [hbad (show fits n (wd : Int) = false by simpa using hf)]; decide)]
    | sig n =>
      have h1 : n < 18446744073709551616 := hmem
      rw [show (Fl.sig n).s = ⟨1, 0, (n : Int), ⟨#[]⟩⟩ from rfl]
      simp only
      rw [if_pos trivial]
      simp only [tillrollref04_Write.j1]
      have hf : fits n 8 = true := by unfold fits; rw [decide_eq_true_iff]; exact ⟨by decide, by decide, by simpa using h1⟩
      rw [if_neg (by decide), ref_fits_f n h1 8 _ (by omega), Option.bind_some, if_pos hf, ref_put_fBk n h1 _ _ (by omega), Option.bind_some, if_pos (by rw [str_size, str_size]; have := putB_len n 8; omega), str_append, hw]
      exact hn rfl
    | txt s =>
      have h1 : s.size ≤ 1000 := hmem
      rw [show (Fl.txt s).s = ⟨2, 0, 0, s⟩ from rfl]
      simp only
      rw [if_neg (by decide)]
      simp only [tillrollref04_Write.j1]
      rw [if_pos trivial]
      by_cases h255 : s.size ≤ 255
      · have e1 : strOfNums [(s.size : Int) % 256] = str [UInt8.ofNat s.size] := by
          rw [strOfNums_cons, show (s.size : Int) % 256 = (s.size : Int) by omega]
          rfl
        rw [if_neg (by omega), Option.bind_some, e1, if_pos (by rw [str_size, str_size]; simp; omega), str_append, if_pos (by rw [str_size, List.length_append, List.length_singleton]; omega), str_addS, hw]
        have := hn (by unfold Fl.ok; exact decide_eq_true h255)
        rw [show (Fl.txt s).bytes = [UInt8.ofNat s.size] ++ s.data.toList from rfl, ← List.append_assoc] at this
        exact this
      · rw [if_pos (by omega), if_neg (by rw [hbad (by unfold Fl.ok; exact decide_eq_false h255)]; decide)]
theorem rwrite_f (fs : List Fl) (hin : ∀ f ∈ fs, f.In) (hfs : fs.length ≤ 1000) (k : Nat) (hk : 2 * fs.length + 80 < k) :
    tillrollref04_Write.f k (fs.map Fl.s) = some (if flOk fs = true then (str (flBytes fs), true) else ((⟨#[]⟩ : ByteArray), false)) := by
  have := rwrite_l0 fs hin hfs fs.length k 0 (Nat.zero_add _) hk rfl
  exact this
end Go.Proofs.Ytkmbjfgdjoanjaa

/-! post: the document's Text and Read (printed), plainly; what is read of bytes is the document's. No conditions beyond the kinds of the numbers. -/
namespace Go.Proofs.Ytkmbjfgdjoanjaa
open Go.RowKit Go.Lib Go.Proofs.Ytkmbjfgdjoanjaa.P Go.Proofs.Ytkmbjfgdjoanjaa.BeS Go.Proofs.YtkmbjfgdjoanjaaW.PrintWords Go.Proofs.YtkmbjfgdjoanjaaW.PrintLast Go.Proofs.YtkmbjfgdjoanjaaW.PrintMore
set_option linter.unusedVariables false
set_option linter.unusedSimpArgs false
def lnF (p : Ln) : List Fl := [.num (uN p.1) 2, .sig (uN p.2)]
def fldsL (n : Nat) (ys : List Ln) : List Fl := .num n 1 :: ys.flatMap lnF
theorem fits_of (n : Nat) (wd : Nat) (h1 : 1 ≤ wd) (h8 : wd ≤ 8) : fits n (wd : Int) = decide (n < 256 ^ wd) := by
  unfold fits
  rw [decide_eq_decide, Int.toNat_natCast]
  exact ⟨fun h => h.2.2, fun h => ⟨by omega, by omega, h⟩⟩
theorem lnBad_is (p : Ln) (h : -9223372036854775808 ≤ p.1 ∧ p.1 < 9223372036854775808) : lnBad p = decide (p.1 < 0 ∨ 65535 < p.1) := by
  unfold lnBad
  rw [show (2 : Int) = ((2 : Nat) : Int) from rfl, fits_of _ 2 (by decide) (by decide), show (256 : Nat) ^ 2 = 65536 by decide]
  unfold uN
  by_cases hc : p.1 < 0 ∨ 65535 < p.1
  · rw [decide_eq_true hc, decide_eq_false (by omega)]; rfl
  · rw [decide_eq_false hc, decide_eq_true (by omega)]; rfl
theorem flds_ok (n : Nat) (hn : n ≤ 8) (ys : List Ln) : flOk (fldsL n ys) = !(ys.any lnBad) := by
  have h1 : Fl.ok (.num n 1) = true := by
    show fits n ((1 : Nat) : Int) = true
    rw [fits_of _ 1 (by decide) (by decide)]
    exact decide_eq_true (by omega)
  unfold flOk fldsL
  rw [List.all_cons, h1, Bool.true_and]
  induction ys with
  | nil => rfl
  | cons y ys ih =>
    rw [List.flatMap_cons, List.all_append, ih, List.any_cons, Bool.not_or]
    congr 1
    unfold lnF lnBad
    simp [Fl.ok]
theorem flds_in (n : Nat) (hn : n ≤ 8) (ys : List Ln) : ∀ f ∈ fldsL n ys, f.In := by
  intro f hf
  unfold fldsL at hf
  rw [List.mem_cons, List.mem_flatMap] at hf
  rcases hf with rfl | ⟨p, _, hp⟩
  · exact ⟨by omega, by decide⟩
  · unfold lnF at hp
    simp only [List.mem_cons, List.not_mem_nil, or_false] at hp
    rcases hp with rfl | rfl
    · exact ⟨uN_lt _, by decide⟩
    · exact uN_lt _
theorem flds_len (n : Nat) (ys : List Ln) : (fldsL n ys).length = 1 + 2 * ys.length := by
  unfold fldsL
  rw [List.length_cons]
  induction ys with
  | nil => rfl
  | cons y ys ih =>
    rw [List.flatMap_cons, List.length_append, List.length_cons]
    have : (lnF y).length = 2 := rfl
    omega
theorem flds_bytes (xs : List Ln) (h8 : xs.length ≤ 8) : flBytes (fldsL xs.length xs) = textL xs := by
  unfold flBytes fldsL textL cntP
  rw [if_neg (by omega), List.flatMap_cons]
  congr 1
  generalize xs.length = n at h8
  clear h8
  induction xs with
  | nil => rfl
  | cons y ys ih =>
    have h : (lnF y).flatMap Fl.bytes = lnB y := by unfold lnF lnB; simp [Fl.bytes]
    rw [List.flatMap_cons, List.flatMap_append, ih, List.flatMap_cons, h]
theorem flds_snoc (n : Nat) (xs : List Ln) (i : Nat) (h : i < xs.length) : (fldsL n (xs.take (i + 1))).map Fl.s = (fldsL n (xs.take i)).map Fl.s ++ [(⟨0, 2, (uN xs[i].1 : Int), (⟨#[]⟩ : ByteArray)⟩ : S96)] ++ [(⟨1, 0, (uN xs[i].2 : Int), (⟨#[]⟩ : ByteArray)⟩ : S96)] := by
  unfold fldsL
  rw [List.take_succ_eq_append_getElem h, List.flatMap_append, List.map_cons, List.map_append, List.map_cons]
  simp [lnF, Fl.s]
theorem text_l0 (xs : List Ln) (hin : LnIn xs) (h8 : xs.length ≤ 8) (d : Nat) : ∀ (k i : Nat), i + d = xs.length → d + 200 < k → (xs.take i).any lnBad = false →
    tillrollref22_Text.l0 k (xs.map sR) ((fldsL xs.length (xs.take i)).map Fl.s) (i : Int) = some (if xs.any lnBad = true then ((⟨#[]⟩ : ByteArray), false) else (str (textL xs), true)) := by
  induction d with
  | zero =>
    intro k i h hk ho
    obtain ⟨k, rfl⟩ : ∃ q, k = q + 1 := ⟨k - 1, by omega⟩
    obtain rfl : i = xs.length := by omega
    rw [List.take_length] at ho ⊢
    simp only [tillrollref22_Text.l0]
    rw [if_neg (by rw [List.length_map]; omega), rwrite_f _ (flds_in _ h8 _) (by rw [flds_len]; omega) k (by rw [flds_len]; omega), flds_ok _ h8, ho, if_pos (show (!false) = true from rfl), if_neg (by decide), Option.bind_some, flds_bytes xs h8]
  | succ d ih =>
    intro k i h hk ho
    obtain ⟨k, rfl⟩ : ∃ q, k = q + 1 := ⟨k - 1, by omega⟩
    have hi : i < xs.length := by omega
    have hrd : rd_T82 (xs.map sR) (i : Int) = sR xs[i] := by
      unfold rd_T82
      rw [Int.toNat_natCast, List.getD_eq_getElem?_getD, List.getElem?_map, List.getElem?_eq_getElem hi]
      rfl
    have hb := hin xs[i] (List.getElem_mem hi)
    have hbad := lnBad_is xs[i] hb.1
    have hany : lnBad xs[i] = true → xs.any lnBad = true := fun h => List.any_eq_true.2 ⟨_, List.getElem_mem hi, h⟩
    simp only [tillrollref22_Text.l0]
    rw [if_pos (by rw [List.length_map]; omega), if_pos (by omega), hrd]
    show (if xs[i].1 < 0 then _ else if xs[i].1 > 65535 then _ else _) = _
    by_cases h1 : xs[i].1 < 0
    · rw [if_pos h1, if_pos (hany (by rw [hbad]; exact decide_eq_true (.inl h1)))]
    · rw [if_neg h1]
      by_cases h2 : xs[i].1 > 65535
      · rw [if_pos h2, if_pos (hany (by rw [hbad]; exact decide_eq_true (.inr h2)))]
      · have hl : ((fldsL xs.length (xs.take i)).map Fl.s).length ≤ 100 := by rw [List.length_map, flds_len, List.length_take]; omega
        have hok : lnBad xs[i] = false := by rw [hbad]; exact decide_eq_false (by omega)
        rw [if_neg h2, if_pos (by omega), Option.bind_some, if_pos (by rw [List.length_append, List.length_singleton]; omega)]
        have e1 : IntKind.u64.wrap (sR xs[i]).f0 = (uN xs[i].1 : Int) := uN_wrap _
        have e2 : IntKind.u64.wrap (sR xs[i]).f1 = (uN xs[i].2 : Int) := uN_wrap _
        rw [e1, e2, ← flds_snoc _ _ _ hi, show wrap64 ((i : Int) + 1) = ((i + 1 : Nat) : Int) by unfold wrap64; omega]
        refine ih k (i + 1) (by omega) (by omega) ?_
        rw [List.take_succ_eq_append_getElem hi, List.any_append, ho]
        simp [hok]
theorem reftext_f (xs : List Ln) (hin : LnIn xs) (k : Nat) (hk : 400 < k) : tillrollref22_Text.f k (xs.map sR) = some (if badL xs = true then ((⟨#[]⟩ : ByteArray), false) else (str (textL xs), true)) := by
  unfold tillrollref22_Text.f
  rw [List.length_map]
  by_cases h8 : xs.length ≤ 8
  · have h1 : badL xs = xs.any lnBad := by
      unfold badL cntP
      rw [if_neg (by omega), show (1 : Int) = ((1 : Nat) : Int) from rfl, fits_of _ 1 (by decide) (by decide), decide_eq_true (by omega)]
      rfl
    rw [if_neg (by omega), h1]
    have e1 : IntKind.u64.wrap (xs.length : Int) = (xs.length : Int) := by rw [IntKind.wrap_u64]; omega
    rw [e1]
    exact text_l0 xs hin h8 xs.length k 0 (by omega) (by omega) rfl
  · have h1 : badL xs = true := by
      unfold badL cntP
      rw [if_pos (by omega), show (1 : Int) = ((1 : Nat) : Int) from rfl, fits_of _ 1 (by decide) (by decide), decide_eq_false (by decide)]
      rfl
    rw [if_pos (by omega), h1, if_pos rfl]
/-! ### Read -/
theorem bt_str (l : List UInt8) (i : Nat) (h : i < l.length) : bt (str l) (i : Int) = (l[i].toNat : Int) := by
  unfold bt
  rw [dif_pos (by rw [str_size, Int.toNat_natCast]; exact h)]
  rfl
def mAt (t : List UInt8) (i : Nat) : List UInt8 := (t.drop (10 * i)).take 10
def lnM (m : List UInt8) : Ln := ((getN (m.take 2) : Int), wrap64 (getN (m.drop 2) : Int))
def lnsT (n : Nat) (t : List UInt8) : List Ln := (List.range n).map fun i => lnM (mAt t i)
theorem lnsT_succ (n : Nat) (t : List UInt8) : lnsT (n + 1) t = lnsT n t ++ [lnM (mAt t n)] := by
  unfold lnsT; rw [List.range_succ, List.map_append]; rfl
theorem lnsT_len (n : Nat) (t : List UInt8) : (lnsT n t).length = n := by unfold lnsT; rw [List.length_map, List.length_range]
/-- The document's Read, plainly. -/
def refRd (l : List UInt8) : List Ln × Int × Int :=
  match l with
  | [] => ([], 0, 4)
  | b :: t => if 8 < b.toNat then ([], 0, 4) else if t.length < 10 * b.toNat then ([], 0, 4) else (lnsT b.toNat t, 1 + 10 * (b.toNat : Int), 0)
theorem getN_snoc (l : List UInt8) (b : UInt8) : getN (l ++ [b]) = getN l * 256 + b.toNat := by
  rw [getN_append]
  show getN l * 256 ^ 1 + getN [b] = _
  rw [getN_cons]
  simp [getN]
theorem wrap_two (a b : Nat) (ha : a < 256) (hb : b < 256) : wrap64 (wrap64 (256 * wrap64 (a : Int)) + wrap64 (b : Int)) = ((a * 256 + b : Nat) : Int) := by unfold wrap64; omega
theorem read_l1 (m : List UInt8) (hm : m.length = 10) (a0 : ByteArray) (x5 : Int) (x6 : List S82) (hx6 : x6.length ≤ 100) (x7 : Int) (K : Nat) (R : Option (List S82 × Int × Int))
    (hnext : ∀ k, K ≤ k → tillrollref22_Read.l0 k a0 x5 (x6 ++ [sR (lnM m)]) (wrap64 (x7 + 1)) = R) (d : Nat) : ∀ (k j : Nat), j + d = 10 → 2 ≤ j → d + K < k →
    tillrollref22_Read.l1 k a0 x5 x6 x7 (str m) (getN ((m.take j).drop 2) : Int) (j : Int) = R := by
  induction d with
  | zero =>
    intro k j h h2 hk
    obtain ⟨k, rfl⟩ : ∃ q, k = q + 1 := ⟨k - 1, by omega⟩
    obtain rfl : j = 10 := by omega
    simp only [tillrollref22_Read.l1]
    rw [if_neg (by omega), if_pos (by rw [str_size]; omega), if_pos (by rw [str_size]; omega), if_pos (by omega), ← hnext k (by omega)]
    congr 3
    unfold sR lnM
    rw [List.take_of_length_le (by omega)]
    have h0 := bt_str m 0 (by omega)
    have h1 := bt_str m 1 (by omega)
    rw [show ((0 : Nat) : Int) = 0 from rfl] at h0
    rw [show ((1 : Nat) : Int) = 1 from rfl] at h1
    rw [h0, h1]
    have hb0 := m[0].toNat_lt
    have hb1 := m[1].toNat_lt
    have h2 : getN (m.take 2) = m[0].toNat * 256 + m[1].toNat := by
      match m, hm with
      | a :: b :: r, _ => 
        show getN [a, b] = _
        simp [getN]
    rw [h2, wrap_two _ _ hb0 hb1]
  | succ d ih =>
    intro k j h h2 hk
    obtain ⟨k, rfl⟩ : ∃ q, k = q + 1 := ⟨k - 1, by omega⟩
    have hj : j < m.length := by omega
    simp only [tillrollref22_Read.l1]
    rw [if_pos (by omega), if_pos (by omega), if_pos (by rw [str_size]; omega), bt_str m j hj]
    have e : (m.take (j + 1)).drop 2 = (m.take j).drop 2 ++ [m[j]] := by
      rw [List.take_succ_eq_append_getElem hj, List.drop_append_of_le_length (by rw [List.length_take]; omega)]
    have hlt := getN_lt ((m.take j).drop 2)
    have hlt2 : 256 ^ ((m.take j).drop 2).length ≤ 256 ^ 7 := Nat.pow_le_pow_right (by decide) (by rw [List.length_drop, List.length_take]; omega)
    have hlt3 : getN ((m.take j).drop 2) < 72057594037927936 := Nat.lt_of_lt_of_le hlt (Nat.le_trans hlt2 (by decide))
    have hb := m[j].toNat_lt
    have h1 : IntKind.u64.wrap (IntKind.u64.wrap (256 * (getN ((m.take j).drop 2) : Int)) + IntKind.u64.wrap (m[j].toNat : Int)) = (getN ((m.take (j + 1)).drop 2) : Int) := by
      rw [e, getN_snoc, IntKind.wrap_u64, IntKind.wrap_u64, IntKind.wrap_u64]
      generalize getN ((m.take j).drop 2) = g at hlt3
      clear hlt hlt2 e ih hnext
      omega
    rw [h1, show wrap64 ((j : Int) + 1) = ((j + 1 : Nat) : Int) by unfold wrap64; omega]
    exact ih k (j + 1) (by omega) (by omega) (by omega)
theorem read_l0 (b : UInt8) (t : List UInt8) (hb : b.toNat ≤ 8) (ht : 10 * b.toNat ≤ t.length) (hl : t.length ≤ 1000000) (d : Nat) : ∀ (k i : Nat), i + d = b.toNat → 20 * d + 1 < k →
    tillrollref22_Read.l0 k (str (b :: t)) (b.toNat : Int) ((lnsT i t).map sR) (i : Int) = some ((lnsT b.toNat t).map sR, 1 + 10 * (b.toNat : Int), 0) := by
  induction d with
  | zero =>
    intro k i h hk
    obtain ⟨k, rfl⟩ : ∃ q, k = q + 1 := ⟨k - 1, by omega⟩
    obtain rfl : i = b.toNat := by omega
    simp only [tillrollref22_Read.l0]
    rw [if_neg (by omega)]
    congr 3
    unfold wrap64
    omega
  | succ d ih =>
    intro k i h hk
    obtain ⟨k, rfl⟩ : ∃ q, k = q + 1 := ⟨k - 1, by omega⟩
    have e1 : wrap64 (1 + wrap64 (10 * (i : Int))) = ((1 + 10 * i : Nat) : Int) := by unfold wrap64; omega
    have e2 : wrap64 (11 + wrap64 (10 * (i : Int))) = ((11 + 10 * i : Nat) : Int) := by unfold wrap64; omega
    have hs : (str (b :: t)).size = t.length + 1 := by rw [str_size]; rfl
    simp only [tillrollref22_Read.l0]
    rw [e1, e2, if_pos (by omega), if_pos (by omega), if_pos (by omega), if_pos (by rw [hs]; omega), Int.toNat_natCast, Int.toNat_natCast, str_extract]
    have e3 : ((b :: t).take (11 + 10 * i)).drop (1 + 10 * i) = mAt t i := by
      rw [show 11 + 10 * i = (10 + 10 * i) + 1 by omega, show 1 + 10 * i = 10 * i + 1 by omega, List.take_succ_cons, List.drop_succ_cons]
      unfold mAt
      rw [List.drop_take]
      congr 1
      omega
    have hm : (mAt t i).length = 10 := by unfold mAt; rw [List.length_take, List.length_drop]; omega
    rw [e3]
    have := read_l1 (mAt t i) hm (str (b :: t)) (b.toNat : Int) ((lnsT i t).map sR) (by rw [List.length_map, lnsT_len]; omega) (i : Int) (20 * d + 2) _ (fun k' hk' => by
      have h1 := ih k' (i + 1) (by omega) (by omega)
      rw [lnsT_succ, List.map_append] at h1
      rw [show wrap64 ((i : Int) + 1) = ((i + 1 : Nat) : Int) by unfold wrap64; omega]
      exact h1) 8 k 2 rfl (Nat.le_refl _) (by omega)
    rw [show ((mAt t i).take 2).drop 2 = [] from List.drop_of_length_le (by rw [List.length_take]; omega)] at this
    exact this
theorem refread_f (l : List UInt8) (hl : l.length ≤ 1000000) (k : Nat) (hk : 400 < k) : tillrollref22_Read.f k (str l) = some ((refRd l).1.map sR, (refRd l).2.1, (refRd l).2.2) := by
  obtain ⟨k, rfl⟩ : ∃ q, k = q + 1 := ⟨k - 1, by omega⟩
  unfold tillrollref22_Read.f
  cases l with
  | nil => rw [if_pos (by rw [str_size]; decide)]; simp only [tillrollref22_Read.j0]; rw [if_pos trivial]; rfl
  | cons b t =>
    have hs : (str (b :: t)).size = t.length + 1 := by rw [str_size]; rfl
    have h0 := bt_str (b :: t) 0 (by simp)
    rw [show ((0 : Nat) : Int) = 0 from rfl, show (b :: t)[0]'(by simp) = b from rfl] at h0
    have hbl := b.toNat_lt
    rw [if_neg (by rw [hs]; omega), if_pos (by rw [hs]; omega), h0]
    unfold refRd
    simp only
    have hw : wrap64 (b.toNat : Int) = (b.toNat : Int) := by unfold wrap64; omega
    by_cases h8 : 8 < b.toNat
    · rw [decide_eq_true (show (b.toNat : Int) > 8 by omega), if_pos h8]
      simp only [tillrollref22_Read.j0]
      rw [if_pos trivial]; rfl
    · rw [decide_eq_false (show ¬ (b.toNat : Int) > 8 by omega), if_neg h8]
      simp only [tillrollref22_Read.j0]
      rw [if_neg (by decide), if_pos (by rw [hs]; omega), h0, hw]
      have e1 : wrap64 (1 + wrap64 (10 * (b.toNat : Int))) = ((1 + 10 * b.toNat : Nat) : Int) := by unfold wrap64; omega
      rw [e1, hs]
      by_cases h10 : t.length < 10 * b.toNat
      · rw [if_pos (by omega), if_pos h10]; rfl
      · rw [if_neg (by omega), if_neg h10]
        exact read_l0 b t (by omega) (by omega) (by rw [List.length_cons] at hl; omega) b.toNat k 0 (by omega) (by omega)
/-! ### the program's Read is the document's -/
theorem tkN_true (l : List UInt8) (n : Nat) (h : n ≤ l.length) : tkN (l, false) (n : Int) = true := by
  show (!false && decide (0 ≤ (n : Int) ∧ (n : Int) ≤ (l.length : Int))) = true; rw [decide_eq_true (by omega)]; rfl
theorem tkN_false (l : List UInt8) (n : Nat) (h : l.length < n) : tkN (l, false) (n : Int) = false := by
  show (!false && decide (0 ≤ (n : Int) ∧ (n : Int) ≤ (l.length : Int))) = false; rw [decide_eq_false (by omega)]; rfl
theorem tkR_in (l : List UInt8) (n : Nat) (h : n ≤ l.length) : tkR (l, false) (n : Int) = (l.drop n, false) := by
  unfold tkR; rw [tkN_true l n h, if_pos rfl, Int.toNat_natCast]
theorem tkR_out (l : List UInt8) (n : Nat) (h : l.length < n) : tkR (l, false) (n : Int) = ([], true) := by
  unfold tkR; rw [tkN_false l n h, if_neg (by decide)]
theorem tkR_bad (l : List UInt8) (n : Int) : tkR (l, true) n = ([], true) := by
  unfold tkR; rw [show tkN (l, true) n = false from rfl, if_neg (by decide)]
theorem rdN_in (l : List UInt8) (n : Nat) (h1 : 1 ≤ n) (h8 : n ≤ 8) (h : n ≤ l.length) : rdN (l, false) (n : Int) = getN (l.take n) := by
  unfold rdN numW
  rw [if_pos (by omega)]
  unfold tkS
  rw [tkN_true l n h, if_pos rfl, Int.toNat_natCast]
theorem rdLs_in (t : List UInt8) (k : Nat) (h : 10 * k ≤ t.length) : rdLs k (t, false) = (lnsT k t, (t.drop (10 * k), false)) := by
  induction k with
  | zero => rfl
  | succ k ih =>
    unfold rdLs
    rw [ih (by omega)]
    unfold rdLn
    simp only
    have hl : (t.drop (10 * k)).length = t.length - 10 * k := List.length_drop
    rw [show (2 : Int) = ((2 : Nat) : Int) from rfl, show (8 : Int) = ((8 : Nat) : Int) from rfl, tkR_in _ 2 (by omega), rdN_in _ 2 (by decide) (by decide) (by omega), rdN_in _ 8 (by decide) (by decide) (by rw [List.length_drop]; omega), tkR_in _ 8 (by rw [List.length_drop]; omega), lnsT_succ, List.drop_drop, List.drop_drop]
    refine Prod.ext ?_ ?_
    · simp only
      congr 2
      unfold lnM mAt
      rw [List.take_take, List.drop_take, List.drop_drop]
      rfl
    · simp only
      congr 1
theorem rdLs_bad (t : List UInt8) (k : Nat) (h : t.length < 10 * k) : (rdLs k (t, false)).2.2 = true := by
  induction k with
  | zero => omega
  | succ k ih =>
    unfold rdLs rdLn
    simp only
    by_cases hk : 10 * k ≤ t.length
    · rw [rdLs_in t k hk]
      simp only
      rw [show (2 : Int) = ((2 : Nat) : Int) from rfl, show (8 : Int) = ((8 : Nat) : Int) from rfl]
      by_cases h2 : (t.drop (10 * k)).length < 2
      · rw [tkR_out _ 2 h2, tkR_bad]
      · rw [tkR_in _ 2 (by omega), tkR_out _ 8 (by rw [List.length_drop] at h2 ⊢; rw [List.length_drop]; omega)]
    · have hi := ih (by omega)
      generalize (rdLs k (t, false)).2 = r at hi
      obtain ⟨l, w⟩ := r
      simp only at hi
      subst hi
      rw [tkR_bad, tkR_bad]
theorem prd_ref (l : List UInt8) : (prd (l, false)).1 = (refRd l).1 ∧ (prd (l, false)).2.1 = (refRd l).2.2 ∧ ((refRd l).2.2 = 0 → ((prd (l, false)).2.2.1.length : Int) = l.length - (refRd l).2.1) := by
  unfold prd
  cases l with
  | nil => 
    have h1 : rdN ([], false) 1 = 0 := by rfl
    have h2 : tkR ([], false) 1 = ([], true) := by rfl
    rw [h1, h2, if_neg (by decide), if_pos (by rfl)]
    exact ⟨rfl, rfl, fun h => by cases h⟩
  | cons b t =>
    have hn : rdN (b :: t, false) 1 = b.toNat := by
      have := rdN_in (b :: t) 1 (by decide) (by decide) (by simp)
      rw [show ((1 : Nat) : Int) = 1 from rfl] at this
      rw [this]
      show getN [b] = _
      simp [getN]
    have hr : tkR (b :: t, false) 1 = (t, false) := tkR_in (b :: t) 1 (by simp)
    rw [hn, hr]
    unfold refRd
    simp only
    by_cases h8 : 8 < b.toNat
    · rw [if_pos h8, if_pos h8]
      exact ⟨rfl, rfl, fun h => by cases h⟩
    · rw [if_neg h8, if_neg h8]
      by_cases h10 : t.length < 10 * b.toNat
      · rw [if_pos h10, if_pos (rdLs_bad t _ h10)]
        exact ⟨rfl, rfl, fun h => by cases h⟩
      · rw [if_neg h10, rdLs_in t _ (by omega), if_neg (by simp)]
        refine ⟨rfl, rfl, fun _ => ?_⟩
        simp only
        rw [List.length_drop, List.length_cons]
        omega
end Go.Proofs.Ytkmbjfgdjoanjaa

/-! post: PostFields: the fields of every posting, and the posting of every fields, are the document's. No conditions beyond the form's own reach. -/
namespace Go.Proofs.Ytkmbjfgdjoanjaa
open Go.RowKit Go.Lib Go.Proofs.Ytkmbjfgdjoanjaa.P Go.Proofs.Ytkmbjfgdjoanjaa.BeS Go.Proofs.YtkmbjfgdjoanjaaW.PrintWords Go.Proofs.YtkmbjfgdjoanjaaW.PrintLast Go.Proofs.YtkmbjfgdjoanjaaW.PrintMore
set_option linter.unusedVariables false
set_option linter.unusedSimpArgs false
--@tables
theorem text_ok (xs : List Ln) (hin : LnIn xs) {E B : Nat} {v : Value} {w : World} (h : LRow w E B v xs) :
    Calls Try.prog 20 #[v] w fun e w' => e = .returned (.tuple #[.string (if badL xs = true then { data := #[] } else str (textL xs)), .bool (!badL xs)]) ∧ Below w.heap.size w w' := by
  obtain ⟨a, c, rfl, hc, ha⟩ := h.at'
  have hcon := tillrollref22_Text.calls 1000 a c (xs.map sR) (if badL xs = true then { data := #[] } else str (textL xs)) (!badL xs) w (by rw [List.length_map]; exact lns_C k82 sR rfl (fun w p => k82_mk w (sR p)) ha (Nat.le_trans hc.1 hc.2)) (by rw [List.length_map]; exact hc.1) (by rw [reftext_f xs hin 1000 (by decide)]; cases badL xs <;> rfl)
  rw [List.length_map] at hcon
  exact hcon
theorem text_okT (xs : List Ln) (t : ByteArray) (ht : (if badL xs = true then ({ data := #[] } : ByteArray) else str (textL xs)) = t) (hin : LnIn xs) {E B : Nat} {v : Value} {w : World} (h : LRow w E B v xs) :
    Calls Try.prog 20 #[v] w fun e w' => e = .returned (.tuple #[.string t, .bool (!badL xs)]) ∧ Below w.heap.size w w' := by
  subst ht; exact text_ok xs hin h
theorem read_ok (s : ByteArray) (hs : s.size ≤ 1000) (w : World) :
    Calls Try.prog 23 #[.string s] w fun e w' => ∃ v, e = .returned (.tuple #[v, .int .i64 (refRd s.data.toList).2.1, .int .i64 (refRd s.data.toList).2.2]) ∧ LRow w' 82 w.heap.size v (refRd s.data.toList).1 ∧ Below w.heap.size w w' := by
  have hl : s.data.toList.length ≤ 1000000 := by have : s.data.toList.length = s.size := rfl; omega
  have hcon := tillrollref22_Read.calls 1000 s ((refRd s.data.toList).1.map sR) (refRd s.data.toList).2.1 (refRd s.data.toList).2.2 w (by
    have := refread_f s.data.toList hl 1000 (by decide)
    rwa [← of_data s] at this)
  refine hcon.mono ?_
  rintro e w' ⟨v, rfl, hr, hb⟩
  refine ⟨v, rfl, ?_, hb⟩
  have := R_LRow k82 uR rfl (fun hM => k82_openM hM) hr
  rw [List.map_map] at this
  rwa [show uR ∘ sR = id from rfl, List.map_id] at this
theorem refRd_err (l : List UInt8) : (refRd l).2.2 = 0 ∨ (refRd l).2.2 = 4 := by
  unfold refRd
  split
  · exact .inr rfl
  · split
    · exact .inr rfl
    · split
      · exact .inr rfl
      · exact .inl rfl
theorem refRd_len (l : List UInt8) : (refRd l).1.length ≤ 8 := by
  unfold refRd
  split
  · exact Nat.zero_le _
  · split
    · exact Nat.zero_le _
    · split
      · exact Nat.zero_le _
      · simp only
        rw [lnsT_len]
        omega
theorem textL_len (xs : List Ln) (h : xs.length ≤ 20) : (textL xs).length ≤ 400 := by
  unfold textL
  rw [List.length_append]
  have h1 := putB_len (cntP xs.length) 1
  have h2 := lnB_flat xs
  omega
theorem rd_leftP (o : Option Nat) (p : Value) (hp : wrP o = p) (r : RdS) (w : World) (h : RdO w o r) :
    Calls Try.prog 24 #[p] w fun x w' => x = .returned (.int .i64 (r.1.length : Int)) ∧ Below w.heap.size w w' := by
  subst hp; exact rd_left o r w h
theorem strs3 (w : World) (s0 s1 s2 : ByteArray) (h0 : s0.size ≤ 1000) (h1 : s1.size ≤ 1000) (h2 : s2.size ≤ 1000) {T : TypeId} (b : Nat) (h : w.heap[b]? = some (.cells #[.string s0, .string s1, .string s2] T (0, 0))) : ∀ j, j < 3 → ∃ s, w.cell? ⟨b, j, none⟩ = some (.string s) ∧ s.size ≤ 1000 := by
  intro j hj
  unfold World.cell?
  rw [h]
  match j, hj with
  | 0, _ => exact ⟨s0, rfl, h0⟩
  | 1, _ => exact ⟨s1, rfl, h1⟩
  | 2, _ => exact ⟨s2, rfl, h2⟩
theorem wr_new (w : World) : WrAt (w.alloc (.cells #[.slice none 0 0, .bool false] 56)) w.heap.size w.heap.size [] false :=
  ⟨Nat.le_refl _, .slice none 0 0, Box2.new w _ _ _, World.ownsRow_nil _ _ _ _, by simp [Value.ownBlock]⟩
set_option maxHeartbeats 16000000 in
set_option maxRecDepth 20000 in
theorem postFields_walk (a : Option Addr) (xs : List Ln) (cap : Nat) (hcap : xs.length ≤ cap ∧ cap ≤ maxLen) (hin : LnIn xs) (s : ByteArray) (hs : s.size ≤ 140737488351232) (w : World) (h : LnsAt w a xs) :
    Calls Try.prog 6 #[.slice a xs.length cap, .string s] w fun e w' => e = .returned (.bool true) ∧ Below w.heap.size w w' := by
  have HF := Lib.hid h; clear h
  have HCp := Lib.hid hcap; clear hcap
  have HIn := Lib.hid (show LnIn (xs.take 20) from fun p hp => hin p (List.mem_of_mem_take hp)); clear hin
  obtain ⟨j, hj, hj1, hj2⟩ : ∃ j : Nat, (if 200 < (s.size : Int) then 200 else (s.size : Int)) = (j : Int) ∧ j ≤ s.size ∧ j ≤ 200 := ⟨min s.size 200, by split <;> omega, by omega, by omega⟩
  have hjm : min (s.size : Int) 200 = (j : Int) := by rw [← hj]; split <;> omega
  have c1 : (0 ≤ (j : Int)) = True := eq_true (by omega)
  have c2 : ((j : Int) ≤ (s.size : Int)) = True := eq_true (by omega)
  have c3 : (j ≤ s.size) = True := eq_true (by omega)
  have c4 : decide (j ≤ s.size) = true := decide_eq_true (by omega)
  have hu : (s.extract 0 j).size ≤ 200 := by rw [ByteArray.size_extract]; omega
  have HU := Lib.hid hu; clear hu
  clear hj1 hj2
  go_enter Try.func6, Try.ntmps6
  go_wp2_with fail
  generalize s.extract 0 j = u at HU ⊢
  clear c1 c2 c3 c4 hj hjm hs
  refine (lines_ok a xs cap HCp.out w HF.out).mono ?_
  rintro e w1 ⟨va, vb, rfl, hp, hm, hd⟩
  have HL20 := Lib.hid (show (xs.take 20).length ≤ 20 by rw [List.length_take]; omega)
  generalize xs.take 20 = ys at hp hm HIn HL20
  have HP := Lib.hid hp; clear hp
  have HM := Lib.hid hm; clear hm
  have HB := Lib.hid hd; clear hd HF HCp
  have HW := Lib.hid (wr_new w1)
  have hd := below_alloc (Below.refl w1.heap.size w1) (.cells #[.slice none 0 0, .bool false] 56)
  have HP1 := Lib.hid (HP.out.below hd)
  have HM1 := Lib.hid (HM.out.below hd)
  have HB1 := Lib.hid hd
  clear hd
  go_wp2_with fail
  generalize w1.alloc (.cells #[.slice none 0 0, .bool false] 56) = w2 at HW HP1 HM1 HB1 ⊢
  have HG := Lib.hid (show w1.heap.size = w1.heap.size from rfl)
  generalize hg : w1.heap.size = g at HW HB1 HG ⊢
  replace HG := Lib.hid hg; clear hg
  refine (post_write ys (by have := HL20.out; omega) va g (some g) [] false w1 w2 HP.out.s (by rw [HG.out]; exact HB1.out) (by rw [HG.out]; exact Nat.le_refl _) HW.out.o (by decide)).mono ?_
  rintro e w3 ⟨rfl, hw, hd, hy⟩
  clear hy
  rw [List.nil_append, Bool.false_or] at hw
  replace HW := Lib.hid hw; clear hw
  replace HB1 := Lib.hid (HB1.out.trans hd); clear hd
  go_wp2_with fail
  have HS3 := Lib.hid (show g ≤ w3.heap.size from HW.out.1)
  refine (post_write ys (by have := HL20.out; omega) va w3.heap.size none [] false w1 w3 HP.out.s (by rw [HG.out]; exact HB1.out) (by rw [HG.out]; exact HS3.out) ⟨Nat.le_refl _, fun k e => by cases e⟩ (by decide)).mono ?_
  rintro e w4 ⟨rfl, hx, hd, hy⟩
  clear hx hy
  replace HW := Lib.hid (HW.out.below hd)
  replace HB1 := Lib.hid (chainB HB1.out HS3.out hd); clear hd HS3
  go_wp2_with fail
  refine (wr_bytes g g _ _ w4 (HW.out.2 _ rfl)).mono ?_
  rintro e w5 ⟨rfl, hd⟩
  obtain ⟨t, ht, hq⟩ : ∃ t : ByteArray, (if badL ys = true then ({ data := #[] } : ByteArray) else str (textL ys)) = t ∧ t.size ≤ 400 := ⟨_, rfl, by split; exact Nat.zero_le _; rw [str_size]; exact textL_len ys HL20.out⟩
  have hbad : ((if badL ys = true then (2 : Int) else 0) == 0) = !badL ys := by cases badL ys <;> rfl
  rw [ht]
  generalize (if badL ys = true then (2 : Int) else 0) = ec at hbad ⊢
  have HTq := Lib.hid hq; clear hq
  have HTx := Lib.hid ht; clear ht
  replace HB1 := Lib.hid (chainB HB1.out (HW.out.1) hd); clear hd HW
  have HMw := Lib.hid (HM.out.below (by rw [HG.out]; exact HB1.out))
  go_wp2_with fail
  refine (text_okT ys t HTx.out HIn.out HMw.out).mono ?_
  rintro e w6 ⟨rfl, hd⟩
  replace HB := Lib.hid (HB.out.trans ((show Below g w1 w6 from chainB HB1.out (by have h1 := HB1.out.size; have h2 := HG.out; omega) hd).mono (by have h1 := HB.out.size; have h2 := HG.out; omega))); clear hd HB1 HMw HM HP HM1 HP1
  generalize hbb : (!badL ys) = bb at hbad ⊢
  clear hbb
  obtain ⟨m, hm, hm1, hm2⟩ : ∃ m : Nat, (if (u.size : Int) < (t.size : Int) then (u.size : Int) else (t.size : Int)) = (m : Int) ∧ m ≤ u.size ∧ m ≤ t.size := ⟨min t.size u.size, by split <;> omega, by omega, by omega⟩
  have hmm : min (t.size : Int) (u.size : Int) = (m : Int) := by rw [← hm]; split <;> omega
  have q2 : ¬ 9223372036854775808 < t.size + u.size := by have h1 := HTq.out; have h2 := HU.out; omega
  have q3 : ¬ 9223372036854775807 < t.size + u.size := by have h1 := HTq.out; have h2 := HU.out; omega
  have q4 : (9223372036854775807 < t.size + u.size) = False := eq_false q3
  go_wp2_with fail
  have HA := Lib.hid (heap_alloc_new w6 (.cells #[.string u, .string (t ++ u), .string (t.extract 0 (t.size - m))] 9))
  have hd := below_alloc (Below.refl w6.heap.size w6) (.cells #[.string u, .string (t ++ u), .string (t.extract 0 (t.size - m))] 9)
  replace HB := Lib.hid (chain2 HB.out hd); clear hd
  have h3 := strs3 _ u (t ++ u) (t.extract 0 (t.size - m)) (by have := HU.out; omega) (by rw [ByteArray.size_append]; have := HU.out; have := HTq.out; omega) (by rw [ByteArray.size_extract]; have := HTq.out; omega) w6.heap.size HA.out
  have H3 := Lib.hid h3; clear h3 HA
  generalize (w6.alloc (.cells #[.string u, .string (t ++ u), .string (t.extract 0 (t.size - m))] 9)) = w7 at HB H3 ⊢
  generalize w6.heap.size = ba at H3 ⊢
  clear q2 q3 q4 hm hmm hm1 hm2 hbad
  go_loopw [70] (fun i wr => ∃ k : Nat, k ≤ 3 ∧ i = .int .i64 (k : Int) ∧ Below w7.heap.size w7 wr) (fun i _ => 3 - (RowKit.intOf i).toNat)
  case atStart => exact ⟨0, by decide, rfl, Below.refl _ _⟩
  case round =>
    obtain ⟨k, hk, rfl, hd⟩ := hrel
    have HD := Lib.hid hd; clear hd
    by_cases hlt : k < 3
    · have e3 : wrap64 ((k : Int) + 1) = ((k + 1 : Nat) : Int) := by unfold wrap64; omega
      obtain ⟨x, hx, hxs⟩ := H3.out k hlt
      replace hx := pw_cell_below HD.out hx
      have HX := Lib.hid hxs; clear hxs
      have Hlt := Lib.hid hlt; clear hk
      have q1 : decide (k < 3) = true := decide_eq_true hlt
      have q2 : decide ((k : Int) < 3) = true := decide_eq_true (by omega)
      have q5 : (0 ≤ (k : Int)) = True := eq_true (by omega)
      have q6 : ((k : Int) < 3) = True := eq_true (by omega)
      have q7 : (k < 3) = True := eq_true hlt
      go_wp2_with fail
      clear hx q1 q2 q5 q6 q7
      refine (rd_new x (by have := HX.out; omega) wr).mono ?_
      rintro e w8 ⟨rfl, hr, _, hd⟩
      generalize hp : wrP (some wr.heap.size) = p
      have Hp := Lib.hid hp; clear hp
      have HRd := Lib.hid hr; clear hr
      have HGe := Lib.hid (show w7.heap.size ≤ wr.heap.size from HD.out.size)
      replace HD := Lib.hid (chain2 HD.out hd); clear hd
      generalize wr.heap.size = gr at Hp HRd HGe
      have HPr := Lib.hid (prd_ref x.data.toList)
      go_wp2_with fail
      rw [← Hp.out]
      refine (post_read (some gr) (x.data.toList, false) w8 HRd.out).mono ?_
      rintro e w9 ⟨v9, rfl, hl, hr, hg⟩
      rw [Hp.out]
      rw [HPr.out.1] at hl
      rw [HPr.out.2.1]
      have HRef := Lib.hid (read_ok x HX.out)
      have HEr := Lib.hid (refRd_err x.data.toList)
      have HLn := Lib.hid (refRd_len x.data.toList)
      have HLf := Lib.hid HPr.out.2.2; clear HPr
      have hsz : (x.data.toList.length : Int) = (x.size : Int) := rfl
      rw [hsz] at HLf
      clear hsz
      generalize refRd x.data.toList = R at hl HRef HEr HLn HLf ⊢
      obtain ⟨zs, nn, er⟩ := R
      simp only at hl HRef HEr HLn HLf ⊢
      have HLr := Lib.hid hl; clear hl
      replace HRd := Lib.hid hr; clear hr
      replace HD := Lib.hid (pw_below_grown HD.out _ HD.out.size hg (fun i hi => by cases hi; exact HGe.out)); clear hg
      go_wp2_with fail
      refine (HRef.out w9).mono ?_
      rintro e w10 ⟨v10, rfl, hl, hd⟩
      have HLq := Lib.hid hl; clear hl HRef
      replace HLr := Lib.hid (HLr.out.below hd)
      replace HRd := Lib.hid (HRd.out.below hd)
      replace HD := Lib.hid (chain2 HD.out hd); clear hd
      go_wp2_with fail
      refine (same_ok zs zs (by have := HLn.out; omega) HLr.out HLq.out).mono ?_
      rintro e w11 ⟨rfl, hd⟩
      rw [show decide (zs = zs) = true from decide_eq_true rfl]
      replace HRd := Lib.hid (HRd.out.below hd.below)
      replace HD := Lib.hid (chain2 HD.out hd.below); clear hd HLr HLq
      rcases HEr.out with rfl | rfl
      · have hlf := HLf.out rfl
        have hb := HRd.out.2.2
        have HCl := Lib.hid (rd_leftP (some gr) p Hp.out _ w11 HRd.out)
        generalize (prd (x.data.toList, false)).2.2.1.length = le at hlf hb HCl
        have c1 : wrap64 ((x.size : Int) - nn) = (le : Int) := by rw [← hlf]; unfold wrap64; omega
        clear hlf hb
        go_wp2_with fail
        refine HCl.out.mono ?_
        rintro e w12 ⟨rfl, hd⟩
        replace HD := Lib.hid (chain2 HD.out hd); clear hd HCl
        go_wp2_with fail
        go_roundw
        case rel => exact ⟨k + 1, Hlt.out, by first | rw [e3] | rfl, HD.out⟩
        case measure => (first | rw [e3] | rw [show ((k : Int) + 1) = ((k + 1 : Nat) : Int) from rfl]); simp only [RowKit.intOf, Int.toNat_natCast]; exact Nat.sub_lt_sub_left Hlt.out (Nat.lt_succ_self k)
      · go_wp2_with fail
        go_roundw
        case rel => exact ⟨k + 1, Hlt.out, by first | rw [e3] | rfl, HD.out⟩
        case measure => (first | rw [e3] | rw [show ((k : Int) + 1) = ((k + 1 : Nat) : Int) from rfl]); simp only [RowKit.intOf, Int.toNat_natCast]; exact Nat.sub_lt_sub_left Hlt.out (Nat.lt_succ_self k)
    · obtain rfl : k = 3 := Nat.le_antisymm hk (Nat.le_of_not_lt hlt)
      replace HB := Lib.hid (chain2 HB.out HD.out)
      clear HD hlt hk
      go_wp2_with fail
      refine (post_read none ([], true) wr ⟨fun g e => (by cases e), fun _ => rfl, Nat.zero_le _⟩).mono ?_
      rintro e w8 ⟨v8, rfl, _, _, hg⟩
      rw [show (prd ([], true)).2.1 = 4 from rfl]
      replace HB := Lib.hid (pw_below_grown HB.out _ HB.out.size hg (fun i hi => by cases hi)); clear hg
      go_wp2_with fail
      refine (wakes_ok w8).mono ?_
      rintro e w9 ⟨rfl, hd⟩
      replace HB := Lib.hid (chain2 HB.out hd); clear hd
      go_wp2_with fail
      go_ret
      exact ⟨rfl, HB.out⟩
theorem postFields_law (a0 : Option Addr) (len0 cap0 : Nat) (a1 : ByteArray) (W : World) (w0 : RowIn W [.int .i64, .int .i64] a0 len0) (y0 : len0 ≤ cap0 ∧ cap0 ≤ maxLen) (w1 : a1.size ≤ 140737488351232) :
    Calls Try.prog 6 #[.slice a0 len0 cap0, .string a1] W fun e w' => e = .returned (.bool true) ∧ Below W.heap.size W w' := by
  obtain ⟨xs, rfl, hi, h⟩ := lns_of w0
  exact postFields_walk a0 xs cap0 y0 hi a1 w1 W h
end Go.Proofs.Ytkmbjfgdjoanjaa
