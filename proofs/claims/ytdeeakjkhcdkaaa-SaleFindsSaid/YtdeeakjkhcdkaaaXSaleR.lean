/- sale: right, on: the tests of a transaction's lines; copied. No conditions beyond those that are written. -/
import Derived.Test.YtdeeakjkhcdkaaaXSale
namespace Go.Proofs.Ytdeeakjkhcdkaaa
open Go.RowKit Go.Lib Go.Proofs.YtdeeakjkhcdkaaaW.PrintWords Go.Proofs.YtdeeakjkhcdkaaaW.PrintLast Go.Proofs.YtdeeakjkhcdkaaaW.PrintMore
set_option linter.unusedVariables false
set_option linter.unusedSimpArgs false
--@tables
theorem inR_eq (n lo hi : Int) : inR n lo hi = true ↔ lo ≤ n ∧ n ≤ hi := by unfold inR; rw [Bool.and_eq_true, decide_eq_true_eq, decide_eq_true_eq]
theorem chain2 {w a b : World} (h : Below w.heap.size w a) (k : Below a.heap.size a b) : Below w.heap.size w b := below_then h h.size k
/-- A line's account is none that there may be. -/
def badL (l : LN) : Bool := !inR l.acc 0 65535
theorem badl_ok (l : LN) (w : World) : Calls Try.prog 52 #[.agg #[.int .i64 l.acc, .int .i64 l.amt]] w fun e w' => e = .returned (.bool (badL l)) ∧ Below w.heap.size w w' := by
  unfold badL
  go_enter Try.func52, Try.ntmps52
  go_wp2_with fail
  refine (within_ok l.acc 0 65535 _).mono ?_
  rintro e w' ⟨rfl, rfl⟩
  go_wp2
  go_ret
  exact ⟨rfl, (Below.refl _ w).alloc (Nat.le_refl _) _⟩
theorem ln_cells {w : World} {g off : Nat} {ls : List LN} (hc : ∀ j u, (ls.flatMap encL)[j]? = some u → w.cell? ⟨g, off + j, none⟩ = some u) (j : Nat) (hj : j < ls.length) :
    w.cell? ⟨g, off + j * 2, none⟩ = some (.int .i64 ls[j].acc) ∧ w.cell? ⟨g, off + j * 2 + 1, none⟩ = some (.int .i64 ls[j].amt) := by
  refine ⟨?_, ?_⟩
  · exact hc (j * 2 + 0) _ (by rw [flat_get encL 2 encL_len ls j 0 hj (by decide)]; rfl)
  · rw [Nat.add_assoc]; exact hc (j * 2 + 1) _ (by rw [flat_get encL 2 encL_len ls j 1 hj (by decide)]; rfl)
/-- The place of the first line that is so. -/
def AnyIs (p : LN → Bool) (ls : List LN) (r : Int) : Prop := decide (0 ≤ r) = ls.any p
theorem any_none {p : LN → Bool} {ls : List LN} (h : ∀ j, ∀ h : j < ls.length, p ls[j] = false) : ls.any p = false := by
  rw [List.any_eq_false]
  intro x hx
  obtain ⟨j, hj, rfl⟩ := List.mem_iff_getElem.mp hx
  rw [h j hj]; decide
theorem any_some {p : LN → Bool} {ls : List LN} (j : Nat) (hj : j < ls.length) (h : p ls[j] = true) : ls.any p = true := by
  rw [List.any_eq_true]
  exact ⟨ls[j], List.getElem_mem hj, h⟩
set_option maxHeartbeats 2000000 in
set_option maxRecDepth 100000 in
theorem lines_bad (ls : List LN) (hls : ls.length ≤ 1000000) (v : Value) (w : World) (hr : RowS encL w v ls) :
    Calls Try.prog 66 #[v, .func (.func 52) #[] #[]] w fun x w' => ∃ r, x = .returned (.int .i64 r) ∧ AnyIs (badL) ls r ∧ Below w.heap.size w w' := by
  obtain ⟨a, cap, rfl, _⟩ := hr.len
  have Hls := Lib.hid hls; clear hls
  have HR := Lib.hid hr; clear hr
  go_enter Try.func66, Try.ntmps66
  go_wp2
  go_loopw [5, 8] (fun _ i wr => ∃ k : Nat, k ≤ ls.length ∧ i = .int .i64 (k : Int) ∧ (∀ j, ∀ h : j < ls.length, j < k → (badL) ls[j] = false) ∧ Below w.heap.size w wr) (fun _ i _ => ls.length - (RowKit.intOf i).toNat)
  case atStart => exact ⟨0, Nat.zero_le _, rfl, fun j _ h => absurd h (Nat.not_lt_zero _), Below.refl _ w⟩
  case round =>
    obtain ⟨k, hk, rfl, ha, hb⟩ := hrel
    have HA := Lib.hid ha; clear ha
    have HB := Lib.hid hb; clear hb
    by_cases hlt : k < ls.length
    · rcases HR.out with ⟨h1, h2⟩ | ⟨g, off, cap', h1, h2, h3, h4, h5⟩
      · rw [h2] at hlt; exact absurd hlt (Nat.not_lt_zero _)
      simp only [Value.slice.injEq, true_and] at h1
      obtain ⟨rfl, rfl⟩ := h1
      obtain ⟨l1, l2⟩ := ln_cells (w := wr) (fun j u hu => pw_cell_below HB.out (h5 j u hu)) k hlt
      clear h5 h2 h3 h4
      have hc := badl_ok ls[k] wr
      generalize hx : ls[k] = x at l1 l2 hc
      have HX := Lib.hid hx; clear hx
      have e1 : wrap64 ((k : Int) + 1) = ((k + 1 : Nat) : Int) := by have := Hls.out; unfold wrap64; omega
      cases hq : (badL) x with
      | true =>
        rw [hq] at hc
        replace hq := Lib.hid hq
        have HCc := Lib.hid hc; clear hc
        go_wp2_with fail
        refine HCc.out.mono ?_
        rintro e w' ⟨rfl, hd⟩
        have HD := Lib.hid (chain2 HB.out hd); clear hd
        go_wp2
        go_ret
        exact ⟨_, rfl, (decide_eq_true (Int.natCast_nonneg k)).trans (any_some k hlt (by rw [HX.out]; exact hq.out)).symm, HD.out⟩
      | false =>
        rw [hq] at hc
        replace hq := Lib.hid hq
        have HCc := Lib.hid hc; clear hc
        go_wp2_with fail
        refine HCc.out.mono ?_
        rintro e w' ⟨rfl, hd⟩
        have HD := Lib.hid (chain2 HB.out hd); clear hd
        go_wp2
        go_roundw
        case rel =>
          refine ⟨k + 1, by omega, by rw [e1], fun j h hj => ?_, HD.out⟩
          by_cases e : j = k
          · subst e; rw [HX.out]; exact hq.out
          · exact HA.out j h (by omega)
        case measure => rw [e1]; simp [RowKit.intOf]; omega
    · go_wp2
      go_ret
      exact ⟨_, rfl, (show decide ((0 : Int) ≤ -1) = false from by decide).trans (any_none (fun j h => HA.out j h (by omega))).symm, HB.out⟩
theorem lines_bad_c (ls : List LN) (hls : ls.length ≤ 1000000) (v : Value) (w : World) (hr : RowS encL w v ls) :
    Calls Try.prog 51 #[v, .func (.func 52) #[] #[]] w fun x w' => x = .returned (.bool (ls.any (badL))) ∧ Below w.heap.size w w' := by
  go_enter Try.func51, Try.ntmps51
  go_wp2_with fail
  refine (lines_bad ls hls v w hr).mono ?_
  rintro e w' ⟨r, rfl, hi, hb⟩
  have HI := Lib.hid hi; clear hi
  go_wp2
  go_ret
  exact ⟨by rw [← HI.out]; rfl, hb⟩
/-- 'func(l post.Line) bool { return l.Account == account }'. -/
def onL (k : Int) (l : LN) : Bool := decide (l.acc = k)
theorem onl_ok (k : Int) (B : Nat) (l : LN) (w : World) (hc : w.cell? ⟨B, 0, none⟩ = some (.int .i64 k)) (hB : B < w.heap.size) : Calls Try.prog 68 #[.agg #[.int .i64 l.acc, .int .i64 l.amt], .pointer (some ⟨B, 0, none⟩)] w fun e w' => e = .returned (.bool (onL k l)) ∧ Below w.heap.size w w' := by
  have hne : B ≠ w.heap.size := by omega
  unfold onL
  go_enter Try.func68, Try.ntmps68
  go_wp2
  go_ret
  exact ⟨by simp; rfl, (Below.refl _ w).alloc (Nat.le_refl _) _⟩
set_option maxHeartbeats 2000000 in
set_option maxRecDepth 100000 in
theorem lines_on (key : Int) (B : Nat) (ls : List LN) (hls : ls.length ≤ 1000000) (v : Value) (w : World) (hr : RowS encL w v ls) (hcB : w.cell? ⟨B, 0, none⟩ = some (.int .i64 key)) :
    Calls Try.prog 66 #[v, .func (.func 68) #[] #[.pointer (some ⟨B, 0, none⟩)]] w fun x w' => ∃ r, x = .returned (.int .i64 r) ∧ AnyIs (onL key) ls r ∧ Below w.heap.size w w' := by
  obtain ⟨a, cap, rfl, _⟩ := hr.len
  have Hls := Lib.hid hls; clear hls
  have HR := Lib.hid hr; clear hr
  have hBl : B < w.heap.size := World.block_lt_of_cell? w _ hcB
  have HCB := Lib.hid hcB; clear hcB
  go_enter Try.func66, Try.ntmps66
  go_wp2
  go_loopw [5, 8] (fun _ i wr => ∃ k : Nat, k ≤ ls.length ∧ i = .int .i64 (k : Int) ∧ (∀ j, ∀ h : j < ls.length, j < k → (onL key) ls[j] = false) ∧ Below w.heap.size w wr) (fun _ i _ => ls.length - (RowKit.intOf i).toNat)
  case atStart => exact ⟨0, Nat.zero_le _, rfl, fun j _ h => absurd h (Nat.not_lt_zero _), Below.refl _ w⟩
  case round =>
    obtain ⟨k, hk, rfl, ha, hb⟩ := hrel
    have HA := Lib.hid ha; clear ha
    have HB := Lib.hid hb; clear hb
    by_cases hlt : k < ls.length
    · rcases HR.out with ⟨h1, h2⟩ | ⟨g, off, cap', h1, h2, h3, h4, h5⟩
      · rw [h2] at hlt; exact absurd hlt (Nat.not_lt_zero _)
      simp only [Value.slice.injEq, true_and] at h1
      obtain ⟨rfl, rfl⟩ := h1
      obtain ⟨l1, l2⟩ := ln_cells (w := wr) (fun j u hu => pw_cell_below HB.out (h5 j u hu)) k hlt
      clear h5 h2 h3 h4
      have hc := onl_ok key B ls[k] wr (pw_cell_below HB.out HCB.out) (Nat.lt_of_lt_of_le hBl HB.out.size)
      generalize hx : ls[k] = x at l1 l2 hc
      have HX := Lib.hid hx; clear hx
      have e1 : wrap64 ((k : Int) + 1) = ((k + 1 : Nat) : Int) := by have := Hls.out; unfold wrap64; omega
      cases hq : (onL key) x with
      | true =>
        rw [hq] at hc
        replace hq := Lib.hid hq
        have HCc := Lib.hid hc; clear hc
        go_wp2_with fail
        refine HCc.out.mono ?_
        rintro e w' ⟨rfl, hd⟩
        have HD := Lib.hid (chain2 HB.out hd); clear hd
        go_wp2
        go_ret
        exact ⟨_, rfl, (decide_eq_true (Int.natCast_nonneg k)).trans (any_some k hlt (by rw [HX.out]; exact hq.out)).symm, HD.out⟩
      | false =>
        rw [hq] at hc
        replace hq := Lib.hid hq
        have HCc := Lib.hid hc; clear hc
        go_wp2_with fail
        refine HCc.out.mono ?_
        rintro e w' ⟨rfl, hd⟩
        have HD := Lib.hid (chain2 HB.out hd); clear hd
        go_wp2
        go_roundw
        case rel =>
          refine ⟨k + 1, by omega, by rw [e1], fun j h hj => ?_, HD.out⟩
          by_cases e : j = k
          · subst e; rw [HX.out]; exact hq.out
          · exact HA.out j h (by omega)
        case measure => rw [e1]; simp [RowKit.intOf]; omega
    · go_wp2
      go_ret
      exact ⟨_, rfl, (show decide ((0 : Int) ≤ -1) = false from by decide).trans (any_none (fun j h => HA.out j h (by omega))).symm, HB.out⟩
theorem lines_on_c (key : Int) (B : Nat) (ls : List LN) (hls : ls.length ≤ 1000000) (v : Value) (w : World) (hr : RowS encL w v ls) (hcB : w.cell? ⟨B, 0, none⟩ = some (.int .i64 key)) :
    Calls Try.prog 51 #[v, .func (.func 68) #[] #[.pointer (some ⟨B, 0, none⟩)]] w fun x w' => x = .returned (.bool (ls.any (onL key))) ∧ Below w.heap.size w w' := by
  go_enter Try.func51, Try.ntmps51
  go_wp2_with fail
  refine (lines_on key B ls hls v w hr hcB).mono ?_
  rintro e w' ⟨r, rfl, hi, hb⟩
  have HI := Lib.hid hi; clear hi
  go_wp2
  go_ret
  exact ⟨by rw [← HI.out]; rfl, hb⟩
/-- May a transaction be added? -/
def refOk (t : TP) : Bool := if backK t.kind = true then inR t.ref 1 4294967295 else decide (t.ref = 0)
def amtOk (t : TP) : Bool := if t.kind = 6 then decide (t.amount = 0) else inR t.amount 1 4611686018427387904
def headOk (t : TP) : Bool := inR t.kind 1 6 && (inR t.shift 1 4294967295 && decide (t.ls.length ≤ 8))
def rightT (t : TP) : Bool := headOk t && (refOk t && (amtOk t && !t.ls.any badL))
theorem quiet_left {P : Program} {f : FuncId} {args : Array Value} {w : World} {n : Nat} {v : Value}
    (h : Calls P f args (w.drewN n) fun e w' => e = .returned v ∧ w.drewN n = w') : Calls P f args (w.drewN n) fun e w'' => e = .returned v ∧ ∃ m, w'' = w.drewN m :=
  h.mono fun _ _ ⟨he, hm⟩ => ⟨he, n, hm.symm⟩
theorem below_drewQ {B : Nat} {a w : World} (h : Below B a w) (n : Nat) : Below B a (w.drewN n) := ⟨h.os, h.tape, h.output, h.size, h.block⟩
/-- A block of eight cells: a transaction's. -/
def BoxT (w : World) (b : Nat) (t : TP) (v : Value) : Prop := w.heap[b]? = some (.cells #[.int .i64 t.num, .int .u8 t.kind, .int .i64 t.shift, .int .i64 t.ref, .int .i64 t.amount, .int .i64 t.left, .bool t.void, v] 37 (0, 0))
theorem BoxT.new (w : World) (t : TP) (v : Value) : BoxT (w.alloc (.cells #[.int .i64 t.num, .int .u8 t.kind, .int .i64 t.shift, .int .i64 t.ref, .int .i64 t.amount, .int .i64 t.left, .bool t.void, v] 37)) w.heap.size t v := heap_alloc_new w _
theorem BoxT.below {w w' : World} {b : Nat} {t : TP} {v : Value} (h : BoxT w b t v) (hb : Below w.heap.size w w') : BoxT w' b t v := blk_below h hb
theorem BoxT.cells {w : World} {b : Nat} {t : TP} {v : Value} (h : BoxT w b t v) : w.cell? ⟨b, 0, none⟩ = some (.int .i64 t.num) ∧ w.cell? ⟨b, 1, none⟩ = some (.int .u8 t.kind) ∧ w.cell? ⟨b, 2, none⟩ = some (.int .i64 t.shift) ∧ w.cell? ⟨b, 3, none⟩ = some (.int .i64 t.ref) ∧ w.cell? ⟨b, 4, none⟩ = some (.int .i64 t.amount) ∧ w.cell? ⟨b, 5, none⟩ = some (.int .i64 t.left) ∧ w.cell? ⟨b, 6, none⟩ = some (.bool t.void) ∧ w.cell? ⟨b, 7, none⟩ = some v :=
  ⟨cell_of_row w b 0 _ _ (0, 0) h, cell_of_row w b 1 _ _ (0, 0) h, cell_of_row w b 2 _ _ (0, 0) h, cell_of_row w b 3 _ _ (0, 0) h, cell_of_row w b 4 _ _ (0, 0) h, cell_of_row w b 5 _ _ (0, 0) h, cell_of_row w b 6 _ _ (0, 0) h, cell_of_row w b 7 _ _ (0, 0) h⟩
set_option maxHeartbeats 4000000 in
theorem right_ok (t : TP) (hk : 0 ≤ t.kind ∧ t.kind < 256) (v : Value) (w : World) (hl : t.ls.length ≤ 1000000) (hr : RowS encL w v t.ls) :
    Calls Try.prog 28 #[aggT t v] w fun e w' => e = .returned (.bool (rightT t)) ∧ Below w.heap.size w w' := by
  unfold aggT
  obtain ⟨va, vc, rfl, _⟩ := hr.len
  have HR := Lib.hid hr; clear hr
  have HL := Lib.hid hl; clear hl
  have hb := below_alloc (Below.refl w.heap.size w) (.cells #[.int .i64 t.num, .int .u8 t.kind, .int .i64 t.shift, .int .i64 t.ref, .int .i64 t.amount, .int .i64 t.left, .bool t.void, .slice va t.ls.length vc] 37)
  have HB := Lib.hid hb; clear hb
  have HX := Lib.hid (BoxT.new w t (.slice va t.ls.length vc))
  by_cases h1 : 1 ≤ t.kind
  · have a1 : decide (t.kind < 1) = false := decide_eq_false (by omega)
    by_cases h2 : t.kind ≤ 6
    · have a2 : decide (6 < t.kind) = false := decide_eq_false (by omega)
      cases h3 : inR t.shift 1 4294967295 with
      | true =>
        by_cases h4 : t.ls.length ≤ 8
        · have a4 : decide (8 < (t.ls.length : Int)) = false := decide_eq_false (by omega)
          have HH := Lib.hid (show rightT t = (refOk t && (amtOk t && !t.ls.any badL)) by unfold rightT headOk; rw [h3, (inR_eq t.kind 1 6).mpr ⟨h1, h2⟩, decide_eq_true h4]; rfl)
          replace h3 := Lib.hid h3
          go_enter Try.func28, Try.ntmps28
          go_wp2_with fail
          refine (within_ok t.shift 1 4294967295 _).mono ?_
          rintro e w' ⟨rfl, rfl⟩
          rw [h3.out]
          go_wp2_with fail
          cases hbk : backK t.kind with
          | true =>
            have hk6 : ¬ t.kind = 6 := by unfold backK at hbk; simp at hbk; omega
            have h6 : (t.kind == 6) = false := by simpa using hk6
            have HRf := Lib.hid (show refOk t = inR t.ref 1 4294967295 by unfold refOk; rw [if_pos hbk])
            have HAm := Lib.hid (show amtOk t = inR t.amount 1 4611686018427387904 by unfold amtOk; rw [if_neg hk6])
            have Hbk := Lib.hid hbk; clear hbk hk6
            cases hx : inR t.ref 1 4294967295 with
            | true =>
              cases hy : inR t.amount 1 4611686018427387904 with
              | true =>
                have HV := Lib.hid (show (refOk t && (amtOk t && !t.ls.any badL)) = (!t.ls.any badL) by rw [HRf.out, HAm.out, hx, hy]; first | rfl | simp)
                have Hx := Lib.hid hx; clear hx
                go_quiet ((go_at_call 27; exact quiet_left (within_ok _ _ _ _)))
                go_wp2_with fail
                refine (back_ok t.kind _).mono ?_
                rintro e w' ⟨rfl, rfl⟩
                rw [Hbk.out]
                go_wp2_with fail
                refine (within_ok t.ref 1 4294967295 _).mono ?_
                rintro e w' ⟨rfl, rfl⟩
                rw [Hx.out]
                go_wp2_with fail
                refine (lines_bad_c t.ls HL.out _ _ (HR.out.below (show Below w.heap.size w _ from by have := HB.out; exact below_drewQ this _))).mono ?_
                rintro e w' ⟨rfl, hd⟩
                have HD := Lib.hid hd; clear hd
                go_wp2
                go_ret
                exact ⟨by rw [HH.out, HV.out]; rfl, chain2 (below_drewQ HB.out _) HD.out⟩
              | false =>
                have HV := Lib.hid (show (refOk t && (amtOk t && !t.ls.any badL)) = false by rw [HRf.out, HAm.out, hx, hy]; first | rfl | simp)
                have Hx := Lib.hid hx; clear hx
                go_quiet ((go_at_call 27; exact quiet_left (within_ok _ _ _ _)))
                go_wp2_with fail
                refine (back_ok t.kind _).mono ?_
                rintro e w' ⟨rfl, rfl⟩
                rw [Hbk.out]
                go_wp2_with fail
                refine (within_ok t.ref 1 4294967295 _).mono ?_
                rintro e w' ⟨rfl, rfl⟩
                rw [Hx.out]
                go_wp2
                go_ret
                exact ⟨by rw [HH.out, HV.out]; rfl, below_drewQ HB.out _⟩
            | false =>
              cases hy : inR t.amount 1 4611686018427387904 with
              | true =>
                have HV := Lib.hid (show (refOk t && (amtOk t && !t.ls.any badL)) = false by rw [HRf.out, HAm.out, hx, hy]; first | rfl | simp)
                have Hx := Lib.hid hx; clear hx
                go_quiet ((go_at_call 27; exact quiet_left (within_ok _ _ _ _)))
                go_wp2_with fail
                refine (back_ok t.kind _).mono ?_
                rintro e w' ⟨rfl, rfl⟩
                rw [Hbk.out]
                go_wp2_with fail
                refine (within_ok t.ref 1 4294967295 _).mono ?_
                rintro e w' ⟨rfl, rfl⟩
                rw [Hx.out]
                go_wp2
                go_ret
                exact ⟨by rw [HH.out, HV.out]; rfl, below_drewQ HB.out _⟩
              | false =>
                have HV := Lib.hid (show (refOk t && (amtOk t && !t.ls.any badL)) = false by rw [HRf.out, HAm.out, hx, hy]; first | rfl | simp)
                have Hx := Lib.hid hx; clear hx
                go_quiet ((go_at_call 27; exact quiet_left (within_ok _ _ _ _)))
                go_wp2_with fail
                refine (back_ok t.kind _).mono ?_
                rintro e w' ⟨rfl, rfl⟩
                rw [Hbk.out]
                go_wp2_with fail
                refine (within_ok t.ref 1 4294967295 _).mono ?_
                rintro e w' ⟨rfl, rfl⟩
                rw [Hx.out]
                go_wp2
                go_ret
                exact ⟨by rw [HH.out, HV.out]; rfl, below_drewQ HB.out _⟩
          | false =>
            have hrf : refOk t = (t.ref == 0) := by unfold refOk; rw [if_neg (by rw [hbk]; decide)]; rfl
            have HRf := Lib.hid hrf; clear hrf
            have Hbk := Lib.hid hbk; clear hbk
            by_cases hk6 : t.kind = 6
            · have h6 : (t.kind == 6) = true := by simpa using hk6
              have HAm := Lib.hid (show amtOk t = (t.amount == 0) by unfold amtOk; rw [if_pos hk6]; rfl)
              clear hk6
              cases hx : (t.ref == 0) with
              | true =>
                cases hy : (t.amount == 0) with
                | true =>
                  have HV := Lib.hid (show (refOk t && (amtOk t && !t.ls.any badL)) = (!t.ls.any badL) by rw [HRf.out, HAm.out, hx, hy]; first | rfl | simp)
                  go_quiet ((go_at_call 27; exact quiet_left (within_ok _ _ _ _)))
                  go_wp2_with fail
                  refine (back_ok t.kind _).mono ?_
                  rintro e w' ⟨rfl, rfl⟩
                  rw [Hbk.out]
                  go_wp2_with fail
                  refine (lines_bad_c t.ls HL.out _ _ (HR.out.below (show Below w.heap.size w _ from by have := HB.out; exact below_drewQ this _))).mono ?_
                  rintro e w' ⟨rfl, hd⟩
                  have HD := Lib.hid hd; clear hd
                  go_wp2
                  go_ret
                  exact ⟨by rw [HH.out, HV.out]; rfl, chain2 (below_drewQ HB.out _) HD.out⟩
                | false =>
                  have HV := Lib.hid (show (refOk t && (amtOk t && !t.ls.any badL)) = false by rw [HRf.out, HAm.out, hx, hy]; first | rfl | simp)
                  go_quiet ((go_at_call 27; exact quiet_left (within_ok _ _ _ _)))
                  go_wp2_with fail
                  refine (back_ok t.kind _).mono ?_
                  rintro e w' ⟨rfl, rfl⟩
                  rw [Hbk.out]
                  go_wp2
                  go_ret
                  exact ⟨by rw [HH.out, HV.out]; rfl, below_drewQ HB.out _⟩
              | false =>
                cases hy : (t.amount == 0) with
                | true =>
                  have HV := Lib.hid (show (refOk t && (amtOk t && !t.ls.any badL)) = false by rw [HRf.out, HAm.out, hx, hy]; first | rfl | simp)
                  go_quiet ((go_at_call 27; exact quiet_left (within_ok _ _ _ _)))
                  go_wp2_with fail
                  refine (back_ok t.kind _).mono ?_
                  rintro e w' ⟨rfl, rfl⟩
                  rw [Hbk.out]
                  go_wp2
                  go_ret
                  exact ⟨by rw [HH.out, HV.out]; rfl, below_drewQ HB.out _⟩
                | false =>
                  have HV := Lib.hid (show (refOk t && (amtOk t && !t.ls.any badL)) = false by rw [HRf.out, HAm.out, hx, hy]; first | rfl | simp)
                  go_quiet ((go_at_call 27; exact quiet_left (within_ok _ _ _ _)))
                  go_wp2_with fail
                  refine (back_ok t.kind _).mono ?_
                  rintro e w' ⟨rfl, rfl⟩
                  rw [Hbk.out]
                  go_wp2
                  go_ret
                  exact ⟨by rw [HH.out, HV.out]; rfl, below_drewQ HB.out _⟩
            · have h6 : (t.kind == 6) = false := by simpa using hk6
              have HAm := Lib.hid (show amtOk t = inR t.amount 1 4611686018427387904 by unfold amtOk; rw [if_neg hk6])
              clear hk6
              cases hx : (t.ref == 0) with
              | true =>
                cases hy : inR t.amount 1 4611686018427387904 with
                | true =>
                  have HV := Lib.hid (show (refOk t && (amtOk t && !t.ls.any badL)) = (!t.ls.any badL) by rw [HRf.out, HAm.out, hx, hy]; first | rfl | simp)
                  go_quiet ((go_at_call 27; exact quiet_left (within_ok _ _ _ _)))
                  go_wp2_with fail
                  refine (back_ok t.kind _).mono ?_
                  rintro e w' ⟨rfl, rfl⟩
                  rw [Hbk.out]
                  go_wp2_with fail
                  refine (lines_bad_c t.ls HL.out _ _ (HR.out.below (show Below w.heap.size w _ from by have := HB.out; exact below_drewQ this _))).mono ?_
                  rintro e w' ⟨rfl, hd⟩
                  have HD := Lib.hid hd; clear hd
                  go_wp2
                  go_ret
                  exact ⟨by rw [HH.out, HV.out]; rfl, chain2 (below_drewQ HB.out _) HD.out⟩
                | false =>
                  have HV := Lib.hid (show (refOk t && (amtOk t && !t.ls.any badL)) = false by rw [HRf.out, HAm.out, hx, hy]; first | rfl | simp)
                  go_quiet ((go_at_call 27; exact quiet_left (within_ok _ _ _ _)))
                  go_wp2_with fail
                  refine (back_ok t.kind _).mono ?_
                  rintro e w' ⟨rfl, rfl⟩
                  rw [Hbk.out]
                  go_wp2
                  go_ret
                  exact ⟨by rw [HH.out, HV.out]; rfl, below_drewQ HB.out _⟩
              | false =>
                cases hy : inR t.amount 1 4611686018427387904 with
                | true =>
                  have HV := Lib.hid (show (refOk t && (amtOk t && !t.ls.any badL)) = false by rw [HRf.out, HAm.out, hx, hy]; first | rfl | simp)
                  go_quiet ((go_at_call 27; exact quiet_left (within_ok _ _ _ _)))
                  go_wp2_with fail
                  refine (back_ok t.kind _).mono ?_
                  rintro e w' ⟨rfl, rfl⟩
                  rw [Hbk.out]
                  go_wp2
                  go_ret
                  exact ⟨by rw [HH.out, HV.out]; rfl, below_drewQ HB.out _⟩
                | false =>
                  have HV := Lib.hid (show (refOk t && (amtOk t && !t.ls.any badL)) = false by rw [HRf.out, HAm.out, hx, hy]; first | rfl | simp)
                  go_quiet ((go_at_call 27; exact quiet_left (within_ok _ _ _ _)))
                  go_wp2_with fail
                  refine (back_ok t.kind _).mono ?_
                  rintro e w' ⟨rfl, rfl⟩
                  rw [Hbk.out]
                  go_wp2
                  go_ret
                  exact ⟨by rw [HH.out, HV.out]; rfl, below_drewQ HB.out _⟩
        · have a4 : decide (8 < (t.ls.length : Int)) = true := decide_eq_true (by omega)
          have HH := Lib.hid (show rightT t = false by unfold rightT headOk; rw [decide_eq_false h4]; simp)
          replace h3 := Lib.hid h3
          go_enter Try.func28, Try.ntmps28
          go_wp2_with fail
          refine (within_ok t.shift 1 4294967295 _).mono ?_
          rintro e w' ⟨rfl, rfl⟩
          rw [h3.out]
          go_wp2
          go_ret
          exact ⟨by rw [HH.out]; rfl, HB.out⟩
      | false =>
        have HH := Lib.hid (show rightT t = false by unfold rightT headOk; rw [h3]; simp)
        replace h3 := Lib.hid h3
        go_enter Try.func28, Try.ntmps28
        go_wp2_with fail
        refine (within_ok t.shift 1 4294967295 _).mono ?_
        rintro e w' ⟨rfl, rfl⟩
        rw [h3.out]
        go_wp2
        go_ret
        exact ⟨by rw [HH.out]; rfl, HB.out⟩
    · have a2 : decide (6 < t.kind) = true := decide_eq_true (by omega)
      have HH := Lib.hid (show rightT t = false by unfold rightT headOk; rw [show inR t.kind 1 6 = false by rw [Bool.eq_false_iff]; intro h; rw [inR_eq] at h; omega]; simp)
      go_enter Try.func28, Try.ntmps28
      go_wp2
      go_ret
      exact ⟨by rw [HH.out]; rfl, HB.out⟩
  · have a1 : decide (t.kind < 1) = true := decide_eq_true (by omega)
    have HH := Lib.hid (show rightT t = false by unfold rightT headOk; rw [show inR t.kind 1 6 = false by rw [Bool.eq_false_iff]; intro h; rw [inR_eq] at h; omega]; simp)
    go_enter Try.func28, Try.ntmps28
    go_wp2
    go_ret
    exact ⟨by rw [HH.out]; rfl, HB.out⟩
end Go.Proofs.Ytdeeakjkhcdkaaa
