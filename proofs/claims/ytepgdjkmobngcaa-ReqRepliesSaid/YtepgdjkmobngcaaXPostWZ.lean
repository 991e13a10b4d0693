/- post: Write, of up to 20 lines. No conditions beyond those that are written. -/
import Derived.Test.YtepgdjkmobngcaaXPostZ
import Derived.Test.YtepgdjkmobngcaaXCurT
import Derived.Deep.CutRange
namespace Go.Proofs.Ytepgdjkmobngcaa
open Go.RowKit Go.Lib Go.Proofs.Ytepgdjkmobngcaa.P Go.Proofs.Ytepgdjkmobngcaa.BeS Go.Proofs.YtepgdjkmobngcaaW.PrintWords Go.Proofs.YtepgdjkmobngcaaW.PrintLast Go.Proofs.YtepgdjkmobngcaaW.PrintMore
set_option linter.unusedVariables false
set_option linter.unusedSimpArgs false
def rg20_7.T : Bool × List (List Nat × List Nat) := (true, [([], []), ([], []), ([1], [1]), ([2], [2]), ([0, 3], [0, 3]), ([], []), ([5], [5]), ([4, 6, 4], [4, 6])])
def rg20_7.B : List Nat := [0, 0, 2, 6, 15, 0, 32, 127]
theorem rg20_7.tab : rtab .any (opsOf Try.f20 7) = rg20_7.T := by kernel_rfl
theorem rg20_7.bits : waitsOk rg20_7.T.2 rg20_7.B = true := by kernel_rfl
theorem wr_numberP (base : Nat) (o : Option Nat) (p : Value) (hp : wrP o = p) (l : List UInt8) (wrong : Bool) (n : Nat) (wd : Int) (w : World) (h : WrO w base o l wrong) (hl : l.length + 8 ≤ 1000000) (hn : n < 18446744073709551616) (h0 : -9223372036854775808 ≤ wd) (h1 : wd < 9223372036854775808) :
    Calls Try.prog 18 #[p, .int .u64 (n : Int), .int .i64 wd] w fun x w' => x = .returned p ∧ WrO w' base o (l ++ putB n wd) (wrong || !fits n wd) ∧ Below base w w' ∧ TouchU o w w' := by
  subst hp; exact wr_number base o l wrong n wd w h hl hn h0 h1
theorem wr_signedP (base : Nat) (o : Option Nat) (p : Value) (hp : wrP o = p) (l : List UInt8) (wrong : Bool) (n : Int) (w : World) (h : WrO w base o l wrong) (hl : l.length + 8 ≤ 1000000) :
    Calls Try.prog 21 #[p, .int .i64 n] w fun x w' => x = .returned p ∧ WrO w' base o (l ++ putL (n % 18446744073709551616).toNat 8) wrong ∧ Below base w w' ∧ TouchU o w w' := by
  subst hp; exact wr_signed base o l wrong n w h hl
def uN (x : Int) : Nat := (x % 18446744073709551616).toNat
theorem uN_lt (x : Int) : uN x < 18446744073709551616 := by unfold uN; omega
theorem uN_wrap (x : Int) : IntKind.u64.wrap x = (uN x : Int) := by rw [IntKind.wrap_u64]; unfold uN; omega
def lnB (p : Ln) : List UInt8 := putB (uN p.1) 2 ++ putL (uN p.2) 8
def lnBad (p : Ln) : Bool := !fits (uN p.1) 2
def cntP (n : Nat) : Nat := if 8 < n then 18446744073709551615 else n
def textL (xs : List Ln) : List UInt8 := putB (cntP xs.length) 1 ++ xs.flatMap lnB
def badL (xs : List Ln) : Bool := !fits (cntP xs.length) 1 || xs.any lnBad
theorem lnB_len (p : Ln) : (lnB p).length ≤ 16 := by
  unfold lnB
  rw [List.length_append, putL_length]
  have := putB_len (uN p.1) 2
  omega
theorem lnB_flat (xs : List Ln) : (xs.flatMap lnB).length ≤ xs.length * 16 := by
  induction xs with
  | nil => simp
  | cons x xs ih =>
    rw [List.flatMap_cons, List.length_append, List.length_cons, Nat.succ_mul]
    have := lnB_len x
    omega
theorem Box2.S {w : World} {t : TypeId} {b : Nat} {c0 c1 : Value} (h : Box2 w t b c0 c1) : w.cell? ⟨b, 0, none⟩ = some c0 ∧ w.cell? ⟨b, 1, none⟩ = some c1 := ⟨h.facts.1, h.facts.2.1⟩
theorem WrO.ne_new {w : World} {base : Nat} {o : Option Nat} {l : List UInt8} {wrong : Bool} (h : WrO w base o l wrong) : o ≠ some w.heap.size := by
  intro e
  obtain ⟨_, v, h2, _⟩ := h.2 _ e
  exact Nat.lt_irrefl _ h2.lt
set_option maxHeartbeats 4000000 in
theorem post_write (xs : List Ln) (hn : xs.length ≤ 100) (v : Value) (base : Nat) (o : Option Nat) (l : List UInt8) (wrong : Bool) (w0 w : World) (hr : RowS encL w0 v xs) (h0 : Below w0.heap.size w0 w) (hb : w0.heap.size ≤ base) (hW : WrO w base o l wrong) (hl : l.length + 30000 ≤ 1000000) :
    Calls Try.prog 20 #[v, wrP o] w fun x w' => x = .returned (.tuple #[]) ∧ WrO w' base o (l ++ textL xs) (wrong || badL xs) ∧ Below base w w' ∧ TouchU o w w' := by
  have H0 := Lib.hid h0; clear h0
  have HBase := Lib.hid hb; clear hb
  have HW := Lib.hid hW; clear hW
  have HL := Lib.hid hl; clear hl
  have HN := Lib.hid hn; clear hn
  obtain ⟨ad, cap, rfl, _⟩ := hr.len
  have HRow := Lib.hid hr; clear hr
  have HC := Lib.hid (show cntP xs.length < 18446744073709551616 by have := HN.out; unfold cntP; split <;> omega)
  have c1 : IntKind.u64.wrap (xs.length : Int) = (xs.length : Int) := u64_wrap_nat _ (by have := HN.out; omega)
  generalize hp : wrP o = p
  have Hp := Lib.hid hp; clear hp
  go_enter Try.func20, Try.ntmps20
  generalize hcn : cntP xs.length = C at HC
  have HCn := Lib.hid hcn; clear hcn
  go_upto_if 12 with (fail)
  go_cut [4] from 7 to 12 (fun s4 wx => s4 = .int .u64 (C : Int) ∧ wx = w)
  case first =>
    by_cases h8 : 8 < xs.length
    · have q1 : decide (8 < xs.length) = true := decide_eq_true h8
      have q2 : decide (8 < (xs.length : Int)) = true := decide_eq_true (by omega)
      go_wp2_with fail
      go_meet
      case rel => exact ⟨by rw [← HCn.out]; unfold cntP; rw [if_pos h8]; rfl, rfl⟩
    · have q1 : decide (8 < xs.length) = false := decide_eq_false h8
      have q2 : decide (8 < (xs.length : Int)) = false := decide_eq_false (by omega)
      go_wp2_with fail
      go_meet
      case rel => exact ⟨by rw [← HCn.out]; unfold cntP; rw [if_neg h8], rfl⟩
  case rest =>
    obtain ⟨rfl, rfl⟩ := hcut
    clear c1
    go_wp2_with fail
    refine (wr_numberP base o p Hp.out l wrong C 1 wc HW.out (by have := HL.out; omega) HC.out (by decide) (by decide)).mono ?_
    rintro e w1 ⟨rfl, hw, hb, ht⟩
    replace HW := Lib.hid hw; clear hw
    have HB := Lib.hid hb; clear hb
    have HT := Lib.hid ht; clear ht
    go_wp2_with fail
    generalize hL1 : l ++ putB C 1 = L1 at HW
    have HL1 := Lib.hid hL1; clear hL1
    have HLn := Lib.hid (show L1.length ≤ l.length + 8 by rw [← HL1.out, List.length_append]; have := putB_len C 1; omega)
    generalize hw1 : (wrong || !fits C 1) = W1 at HW
    have HW1 := Lib.hid hw1; clear hw1
    go_loopw [18] (fun i wr => ∃ j : Nat, j ≤ xs.length ∧ i = .int .i64 (j : Int) ∧ WrO wr base o (L1 ++ (xs.take j).flatMap lnB) (W1 || (xs.take j).any lnBad) ∧ Below base wc wr ∧ TouchU o wc wr) (fun i _ => xs.length - (RowKit.intOf i).toNat)
    case atStart => exact ⟨0, Nat.zero_le _, rfl, by simpa using HW.out, HB.out, HT.out⟩
    case round =>
      clear HW HB HT
      obtain ⟨j, hj, rfl, hw, hb, ht⟩ := hrel
      have HW := Lib.hid hw; clear hw
      have HB := Lib.hid hb; clear hb
      have HT := Lib.hid ht; clear ht
      by_cases hlt : j < xs.length
      · have e3 : wrap64 ((j : Int) + 1) = ((j + 1 : Nat) : Int) := wrap_succP j (by have := HN.out; omega)
        obtain ⟨g, off, cap', hv, k0, k1⟩ := ln_at (HRow.out.below (H0.out.trans (HB.out.mono HBase.out))) j hlt
        have hv2 := (Value.slice.inj hv).1
        subst hv2
        clear hv
        have hlen : ((xs.take j).flatMap lnB).length ≤ j * 16 := by
          have := lnB_flat (xs.take j)
          rwa [List.length_take, Nat.min_eq_left hj] at this
        have HLen := Lib.hid (show (L1 ++ (xs.take j).flatMap lnB).length + 1000 ≤ 1000000 by rw [List.length_append]; have := HL.out; have := HLn.out; have := HN.out; omega)
        have HTk := Lib.hid (show (xs.take (j + 1)).flatMap lnB = (xs.take j).flatMap lnB ++ lnB xs[j] ∧ (xs.take (j + 1)).any lnBad = ((xs.take j).any lnBad || lnBad xs[j]) by rw [List.take_succ_eq_append_getElem hlt, List.flatMap_append, List.any_append]; simp)
        generalize xs[j] = x at k0 k1 HTk
        obtain ⟨xa, xm⟩ := x
        simp only at k0 k1
        have Hlt := Lib.hid hlt
        clear hlen
        go_upto_region 7 with (fail)
        clear k0 k1
        have HX := Lib.hid (Box2.new wr 81 (.int .i64 xa) (.int .i64 xm))
        have ha := below_alloc (Below.refl wr.heap.size wr) (.cells #[.int .i64 xa, .int .i64 xm] 81)
        have HNe := Lib.hid HW.out.ne_new
        replace HB := Lib.hid (chainB HB.out HW.out.1 ha)
        replace HW := Lib.hid (HW.out.below ha)
        replace HT := Lib.hid (HT.out.trans (TouchU.of ha))
        clear ha
        generalize hL2 : L1 ++ (xs.take j).flatMap lnB = L at HW HLen
        have HL2 := Lib.hid hL2; clear hL2
        generalize hW2 : (W1 || (xs.take j).any lnBad) = W2 at HW
        have HW2 := Lib.hid hW2; clear hW2
        have c3 : IntKind.u64.wrap xa = (uN xa : Int) := uN_wrap xa
        generalize (wr.alloc (.cells #[.int .i64 xa, .int .i64 xm] 81)) = wa at HX HB HW HT ⊢
        generalize wr.heap.size = bx at HX HNe ⊢
        have hS := HX.out.S
        replace HX := Lib.hid (show Box2 wa.drew 81 bx _ _ from HX.out)
        replace HW := Lib.hid (show WrO wa.drew base o L W2 from HW.out)
        replace HB := Lib.hid (below_drew1 HB.out)
        replace HT := Lib.hid (show TouchU o wc wa.drew from Touch.drew HT.out)
        refine start_ (n := 8) (S := fun w' => w'.cell? ⟨bx, 0, none⟩ = some (.int .i64 xa) ∧ w'.cell? ⟨bx, 1, none⟩ = some (.int .i64 xm)) (ds := []) #[false, false, false, false, false, false, false, false] (by kernel_rfl) rfl rfl hS (fun hHeld => ?_)
        refine with_tabW rg20_7.tab rg20_7.bits (fun HT_ HW_ => ?_)
        generalize wa.drew = w' at HX HW HB HT hS hHeld ⊢
        refine pure_ (i := 0) (N := some 22) (v := ?_) (a' := ?_) #[true, false, false, false, false, false, false, false] rfl rfl (any_of HT_.out (by kernel_rfl)) (fun _ _ _ h => h) (Or.inl ⟨by rfl, ?_⟩) ?_ ?_
        rotate_left
        · intro w'
          go_simp
          try with_reducible rfl
        rotate_left
        · simp (maxSteps := 4000000) only [Act.put, List.setIfInBounds_toArray, List.set_cons_zero, List.set_cons_succ, i64_w, i32_w]
          try rfl
        refine pure_ (i := 1) (N := some 23) (v := ?_) (a' := ?_) #[true, true, false, false, false, false, false, false] rfl rfl (any_of HT_.out (by kernel_rfl)) (fun _ _ _ h => h) (Or.inl ⟨by rfl, ?_⟩) ?_ ?_
        rotate_left
        · intro w'
          go_simp
          try with_reducible rfl
        rotate_left
        · simp (maxSteps := 4000000) only [Act.put, List.setIfInBounds_toArray, List.set_cons_zero, List.set_cons_succ, i64_w, i32_w]
          try rfl
        refine pure_ (i := 5) (N := some 27) (v := ?_) (a' := ?_) #[true, true, false, false, false, true, false, false] rfl rfl (any_of HT_.out (by kernel_rfl)) (fun _ _ _ h => h) (Or.inl ⟨by rfl, ?_⟩) ?_ ?_
        rotate_left
        · intro w'
          go_simp
          try with_reducible rfl
        rotate_left
        · simp (maxSteps := 4000000) only [Act.put, List.setIfInBounds_toArray, List.set_cons_zero, List.set_cons_succ, i64_w, i32_w]
          try rfl
        refine take_ (i := 2) (N := some 24) (v := ?_) (a' := ?_) #[true, true, true, false, false, true, false, false] rfl rfl (take_ofW HT_.out HW_.out (by kernel_rfl)) (fun _ _ _ h => h) (Or.inl ⟨by rfl, ?_⟩) hHeld ?_ ?_
        rotate_left
        · intro w' hw_
          try dsimp only at hw_
          obtain ⟨x0, x1⟩ := hw_
          go_simp
          try with_reducible rfl
        rotate_left
        · simp (maxSteps := 4000000) only [Act.put, List.setIfInBounds_toArray, List.set_cons_zero, List.set_cons_succ, i64_w, i32_w]
          try rfl
        refine pure_ (i := 3) (N := some 25) (v := ?_) (a' := ?_) #[true, true, true, true, false, true, false, false] rfl rfl (any_of HT_.out (by kernel_rfl)) (fun _ _ _ h => h) (Or.inl ⟨by rfl, ?_⟩) ?_ ?_
        rotate_left
        · intro w'
          go_simp
          try with_reducible rfl
        rotate_left
        · simp (maxSteps := 4000000) only [Act.put, List.setIfInBounds_toArray, List.set_cons_zero, List.set_cons_succ, i64_w, i32_w]
          try rfl
        refine take_ (i := 6) (N := some 28) (v := ?_) (a' := ?_) #[true, true, true, true, false, true, true, false] rfl rfl (take_ofW HT_.out HW_.out (by kernel_rfl)) (fun _ _ _ h => h) (Or.inl ⟨by rfl, ?_⟩) hHeld ?_ ?_
        rotate_left
        · intro w' hw_
          try dsimp only at hw_
          obtain ⟨x0, x1⟩ := hw_
          go_simp
          try with_reducible rfl
        rotate_left
        · simp (maxSteps := 4000000) only [Act.put, List.setIfInBounds_toArray, List.set_cons_zero, List.set_cons_succ, i64_w, i32_w]
          try rfl
        refine one_ (i := 4) (N := some 26) #[true, true, true, true, true, true, true, false] rfl rfl (one_of HT_.out (by kernel_rfl)) (by decide) (fun K hK => ?_)
        refine goes_ Try.func18 (by kernel_rfl) rfl #[p, .int .u64 (uN xa : Int), .int .i64 2] (by rfl) rfl rfl (by (try simp only [List.map_toArray, List.map_cons, List.map_nil]); first | done | rfl) ?_
        refine (wr_numberP base o p Hp.out L W2 (uN xa) 2 w' HW.out (by have := HLen.out; omega) (uN_lt xa) (by decide) (by decide)).mono ?_
        rintro e w' ⟨rfl, hw, hb, ht⟩
        refine ⟨_, rfl, ?_⟩
        replace HX := Lib.hid (show Box2 _ _ _ _ _ from ht.blk HX.out HNe.out (by decide))
        replace HW := Lib.hid hw
        replace HB := Lib.hid (HB.out.trans hb)
        replace HT := Lib.hid (HT.out.trans ht)
        clear hw hb ht
        refine hK.out _ _ (HX.out.S) (fun hHeld => ?_)
        clear hK K
        refine norm_ (a' := ?_) ?_ ?_
        rotate_left
        · show Act.put _ (some 26) _ = _
          simp (maxSteps := 4000000) only [Act.put, List.setIfInBounds_toArray, List.set_cons_zero, List.set_cons_succ, i64_w, i32_w]
          try rfl
        refine one_ (i := 7) (N := some 29) #[true, true, true, true, true, true, true, true] rfl rfl (one_of HT_.out (by kernel_rfl)) (by decide) (fun K hK => ?_)
        refine goes_ Try.func21 (by kernel_rfl) rfl #[p, .int .i64 xm] (by rfl) rfl rfl (by (try simp only [List.map_toArray, List.map_cons, List.map_nil]); first | done | rfl) ?_
        refine (wr_signedP base o p Hp.out (L ++ putB (uN xa) 2) (W2 || !fits (uN xa) 2) xm w' HW.out (by have := HLen.out; rw [List.length_append]; have := putB_len (uN xa) 2; omega)).mono ?_
        rintro e w' ⟨rfl, hw, hb, ht⟩
        refine ⟨_, rfl, ?_⟩
        replace HX := Lib.hid (show Box2 _ _ _ _ _ from ht.blk HX.out HNe.out (by decide))
        replace HW := Lib.hid hw
        replace HB := Lib.hid (HB.out.trans hb)
        replace HT := Lib.hid (HT.out.trans ht)
        clear hw hb ht
        refine hK.out _ _ (HX.out.S) (fun hHeld => ?_)
        clear hK K
        refine norm_ (a' := ?_) ?_ ?_
        rotate_left
        · show Act.put _ (some 29) _ = _
          simp (maxSteps := 4000000) only [Act.put, List.setIfInBounds_toArray, List.set_cons_zero, List.set_cons_succ, i64_w, i32_w]
          try rfl
        refine done_ (done_of HT_.out (by kernel_rfl)) ?_
        clear c3
        go_wp2_with fail
        exact ⟨⟨j + 1, Hlt.out, by rw [e3], by rw [HTk.out.1, HTk.out.2, ← List.append_assoc, ← Bool.or_assoc, HL2.out, HW2.out]; unfold lnB lnBad; rw [← List.append_assoc]; exact HW.out, HB.out, HT.out⟩, by rw [e3]; simp only [RowKit.intOf, Int.toNat_natCast]; exact Nat.sub_lt_sub_left Hlt.out (Nat.lt_succ_self j)⟩
      · obtain rfl : j = xs.length := Nat.le_antisymm hj (Nat.le_of_not_lt hlt)
        have hw := HW.out
        rw [List.take_length, ← HL1.out, ← HW1.out, ← HCn.out, List.append_assoc, Bool.or_assoc] at hw
        go_wp2_with fail
        go_end0
        exact ⟨by rfl, hw, HB.out, HT.out⟩
end Go.Proofs.Ytepgdjkmobngcaa
