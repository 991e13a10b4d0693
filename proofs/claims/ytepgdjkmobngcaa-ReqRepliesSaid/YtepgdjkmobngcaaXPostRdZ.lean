/- post: Read. No conditions beyond those that are written. -/
import Derived.Test.YtepgdjkmobngcaaXPostZ
import Derived.Test.YtepgdjkmobngcaaXCurRT
namespace Go.Proofs.Ytepgdjkmobngcaa
open Go.RowKit Go.Lib Go.Proofs.Ytepgdjkmobngcaa.P Go.Proofs.Ytepgdjkmobngcaa.BeS Go.Proofs.YtepgdjkmobngcaaW.PrintWords Go.Proofs.YtepgdjkmobngcaaW.PrintLast Go.Proofs.YtepgdjkmobngcaaW.PrintMore
set_option linter.unusedVariables false
set_option linter.unusedSimpArgs false
--@tables
theorem grown_own {w a b : World} {o q : Option Nat} (h : w.grownBy a o) (k : a.grownBy b q) (hq : ∀ g, q = some g → w.heap.size ≤ g) : w.grownBy b o :=
  ⟨k.os.trans h.os, k.tape.trans h.tape, k.output.trans h.output, Nat.le_trans h.size k.size, fun i hi hne => (k.block i (Nat.lt_of_lt_of_le hi h.size) (fun e => Nat.lt_irrefl _ (Nat.lt_of_lt_of_le hi (hq i e.symm)))).trans (h.block i hi hne)⟩
theorem rd_numberP (o : Option Nat) (p : Value) (hp : wrP o = p) (r : RdS) (wd : Int) (w : World) (h : RdO w o r) (h0 : -9223372036854775808 ≤ wd) (h1 : wd < 9223372036854775808) :
    Calls Try.prog 28 #[p, .int .i64 wd] w fun x w' => x = .returned (.int .u64 (rdN r wd : Int)) ∧ RdO w' o (tkR r (numW wd)) ∧ w.grownBy w' o := by
  subst hp; exact rd_number o r wd w h h0 h1
theorem rd_signedP (o : Option Nat) (p : Value) (hp : wrP o = p) (r : RdS) (w : World) (h : RdO w o r) :
    Calls Try.prog 45 #[p] w fun x w' => x = .returned (.int .i64 (wrap64 (rdN r 8 : Int))) ∧ RdO w' o (tkR r 8) ∧ w.grownBy w' o := by
  subst hp; exact rd_signed o r w h
theorem rd_wrongP (o : Option Nat) (p : Value) (hp : wrP o = p) (r : RdS) (w : World) (h : RdO w o r) :
    Calls Try.prog 54 #[p] w fun x w' => x = .returned (.bool r.2) ∧ Below w.heap.size w w' := by
  subst hp; exact rd_wrong o r w h
theorem rdN2_lt (r : RdS) : rdN r 2 < 65536 := by
  have h := getN_lt (tkS r (numW 2))
  have h2 : (tkS r (numW 2)).length ≤ 2 := tkS_le r _ 2 (by decide)
  unfold rdN
  calc getN (tkS r (numW 2)) < 256 ^ (tkS r (numW 2)).length := h
    _ ≤ 256 ^ 2 := Nat.pow_le_pow_right (by decide) h2
    _ = 65536 := by decide
/-- A line read, and what is left. -/
def rdLn (r : RdS) : Ln × RdS := (((rdN r 2 : Int), wrap64 (rdN (tkR r 2) 8 : Int)), tkR (tkR r 2) 8)
def rdLs : Nat → RdS → List Ln × RdS
  | 0, r => ([], r)
  | k + 1, r => ((rdLs k r).1 ++ [(rdLn (rdLs k r).2).1], (rdLn (rdLs k r).2).2)
theorem rdLs_len (k : Nat) (r : RdS) : (rdLs k r).1.length = k := by
  induction k with
  | zero => rfl
  | succ k ih => unfold rdLs; rw [List.length_append, ih]; rfl
/-- The lines, the error and what is left. -/
def prd (r : RdS) : List Ln × Int × RdS :=
  if 8 < rdN r 1 then ([], 4, tkR r 1) else if (rdLs (rdN r 1) (tkR r 1)).2.2 = true then ([], 4, (rdLs (rdN r 1) (tkR r 1)).2) else ((rdLs (rdN r 1) (tkR r 1)).1, 0, (rdLs (rdN r 1) (tkR r 1)).2)
theorem RdO.lt {w : World} {o : Option Nat} {r : RdS} (h : RdO w o r) : ∀ g, o = some g → g < w.heap.size := fun g e => (h.1 g e).lt
set_option maxHeartbeats 4000000 in
theorem post_read (o : Option Nat) (r : RdS) (w : World) (h : RdO w o r) :
    Calls Try.prog 44 #[wrP o] w fun x w' => ∃ v, x = .returned (.tuple #[v, .int .i64 (prd r).2.1]) ∧ LRow w' 81 w.heap.size v (prd r).1 ∧ RdO w' o (prd r).2.2 ∧ w.grownBy w' o := by
  have HLt := Lib.hid h.lt
  have HR := Lib.hid h; clear h
  have HPr := Lib.hid (show prd r = prd r from rfl)
  generalize hpr : prd r = R at HPr ⊢
  have HR2 := Lib.hid hpr; clear hpr HPr
  unfold prd at HR2
  generalize hp : wrP o = p
  have Hp := Lib.hid hp; clear hp
  generalize hB : w.heap.size = B at HLt ⊢
  have HB := Lib.hid hB; clear hB
  go_enter Try.func44, Try.ntmps44
  go_wp2_with fail
  refine (rd_numberP o p Hp.out r 1 w HR.out (by decide) (by decide)).mono ?_
  rintro e w1 ⟨rfl, hr, hg⟩
  rw [show numW 1 = 1 from rfl] at hr
  replace HR := Lib.hid hr; clear hr
  have HG := Lib.hid hg; clear hg
  generalize tkR r 1 = r1 at HR HR2
  generalize rdN r 1 = n at HR2 ⊢
  by_cases h8 : 8 < n
  · have q1 : decide (8 < n) = true := decide_eq_true h8
    have q2 : decide (8 < (n : Int)) = true := decide_eq_true (by omega)
    have hR := HR2.out
    rw [if_pos h8] at hR
    subst hR
    go_wp2
    go_ret2
    exact ⟨_, rfl, World.ownsRow_nil _ _ _ _, HR.out, HG.out⟩
  · have q1 : decide (8 < n) = false := decide_eq_false h8
    have q2 : decide (8 < (n : Int)) = false := decide_eq_false (by omega)
    have HN := Lib.hid (Nat.le_of_not_lt h8)
    have hR := HR2.out
    rw [if_neg h8] at hR
    replace HR2 := Lib.hid hR; clear hR h8
    go_wp2_with fail
    go_loopw [5, 11] (fun v i wr => ∃ j : Nat, j ≤ n ∧ i = .int .u64 (j : Int) ∧ LRow wr 81 B v (rdLs j r1).1 ∧ RdO wr o (rdLs j r1).2 ∧ w.grownBy wr o) (fun _ i _ => n - (RowKit.intOf i).toNat)
    case atStart => exact ⟨0, Nat.zero_le _, rfl, World.ownsRow_nil _ _ _ _, HR.out, HG.out⟩
    case round =>
      clear HR HG q1 q2
      obtain ⟨j, hj, rfl, hl, hr, hg⟩ := hrel
      have HL := Lib.hid hl; clear hl
      have HR := Lib.hid hr; clear hr
      have HG := Lib.hid hg; clear hg
      have HMl := Lib.hid (rdLs_len j r1)
      by_cases hlt : j < n
      · have e3 : IntKind.u64.wrap ((j : Int) + 1) = ((j + 1 : Nat) : Int) := by rw [IntKind.wrap_u64]; have := HN.out; omega
        have HS := Lib.hid (show rdLs (j + 1) r1 = ((rdLs j r1).1 ++ [(rdLn (rdLs j r1).2).1], (rdLn (rdLs j r1).2).2) from rfl)
        generalize rdLs j r1 = P at HL HR HMl HS
        obtain ⟨xs, rr⟩ := P
        simp only at HL HR HMl HS
        unfold rdLn at HS
        obtain ⟨aa, ca, rfl⟩ := HL.out.form
        rw [HMl.out] at HL ⊢
        have Hlt := Lib.hid hlt; clear hj
        have q1 : decide (j < n) = true := decide_eq_true hlt
        have q2 : decide ((j : Int) < (n : Int)) = true := decide_eq_true (by omega)
        clear hlt
        go_wp2_with fail
        refine (rd_numberP o p Hp.out rr 2 wr HR.out (by decide) (by decide)).mono ?_
        rintro e w2 ⟨rfl, hr, hg⟩
        rw [show numW 2 = 2 from rfl] at hr
        replace HR := Lib.hid hr; clear hr
        replace HL := Lib.hid (LRow.grown HL.out hg (by
          cases hv : (Value.slice aa j ca).ownBlock with
          | none => exact .inl rfl
          | some k => exact .inr (fun e => by have h1 := (World.ownsRow.lt HL.out k hv).1; have h2 := HLt.out k e.symm; omega)))
        replace HG := Lib.hid (grown_two HG.out hg); clear hg
        have c1 : wrap64 (rdN rr 2 : Int) = (rdN rr 2 : Int) := by have := rdN2_lt rr; unfold wrap64; omega
        have c2 : IntKind.i64.wrap (rdN rr 2 : Int) = (rdN rr 2 : Int) := by rw [IntKind.wrap_i64]; have := rdN2_lt rr; omega
        generalize tkR rr 2 = r2 at HR HS
        generalize rdN rr 2 = na at HS c1 c2 ⊢
        go_wp2_with fail
        refine (rd_signedP o p Hp.out r2 w2 HR.out).mono ?_
        rintro e w3 ⟨rfl, hr, hg⟩
        replace HR := Lib.hid hr; clear hr
        replace HL := Lib.hid (LRow.grown HL.out hg (by
          cases hv : (Value.slice aa j ca).ownBlock with
          | none => exact .inl rfl
          | some k => exact .inr (fun e => by have h1 := (World.ownsRow.lt HL.out k hv).1; have h2 := HLt.out k e.symm; omega)))
        replace HG := Lib.hid (grown_two HG.out hg); clear hg
        generalize tkR r2 8 = r3 at HR HS
        generalize wrap64 (rdN r2 8 : Int) = m at HS ⊢
        have HN2 := Lib.hid (heap_alloc_new w3 (.cells #[.int .i64 (na : Int), .int .i64 m] 81))
        have ha := below_alloc (Below.refl w3.heap.size w3) (.cells #[.int .i64 (na : Int), .int .i64 m] 81)
        replace HL := Lib.hid (HL.out.below ha)
        replace HR := Lib.hid (HR.out.below ha)
        replace HG := Lib.hid (grown_two HG.out (grown_of_below ha o)); clear ha
        have HSz := Lib.hid (show B ≤ (w3.alloc (.cells #[.int .i64 (na : Int), .int .i64 m] 81)).heap.size by have := HG.out.size; have := HB.out; omega)
        obtain ⟨ax, cx, w4, hr, ho2, hgr⟩ := l_addN Try.underlying35 line_info 35 B _ _ j HMl.out _ HL.out (by have := HN.out; have := Hlt.out; omega) ((na : Int), m) w3.heap.size HN2.out HSz.out
        have HRun := Lib.hid hr; clear hr
        have hne : ∀ g, (Value.slice aa j ca).ownBlock = some g → B ≤ g := fun g hv => (World.ownsRow.lt HL.out g hv).1
        replace HR := Lib.hid (HR.out.grown hgr (fun g e1 e2 => by have h1 := hne g e2; have h2 := HLt.out g e1; omega))
        replace HG := Lib.hid (grown_own HG.out hgr (fun g e => by rw [HB.out]; exact hne g e))
        replace HL := Lib.hid ho2; clear ho2 hgr hne
        go_wp2_with (at_builtin; refine wpList_append_run rfl _ _ 35 rfl _ _ rfl rfl HRun.out ?_)
        go_roundw
        case rel => exact ⟨j + 1, Hlt.out, by first | rw [e3] | rfl, by rw [HS.out]; exact HL.out, by rw [HS.out]; exact HR.out, HG.out⟩
        case measure => (first | rw [e3] | rw [show ((j : Int) + 1) = ((j + 1 : Nat) : Int) from rfl]); simp only [RowKit.intOf, Int.toNat_natCast]; exact Nat.sub_lt_sub_left Hlt.out (Nat.lt_succ_self j)
      · obtain rfl : j = n := Nat.le_antisymm hj (Nat.le_of_not_lt hlt)
        obtain ⟨aa, ca, rfl⟩ := HL.out.form
        rw [HMl.out] at HL ⊢
        clear hlt hj
        generalize rdLs j r1 = P at HL HR HMl HR2
        obtain ⟨xs, rr⟩ := P
        simp only at HL HR HMl HR2
        have q1 : decide (j < j) = false := decide_eq_false (Nat.lt_irrefl _)
        have q2 : decide ((j : Int) < (j : Int)) = false := decide_eq_false (by omega)
        go_wp2_with fail
        refine (rd_wrongP o p Hp.out rr wr HR.out).mono ?_
        rintro e w2 ⟨rfl, hd⟩
        replace HL := Lib.hid (HL.out.below hd)
        replace HR := Lib.hid (HR.out.below hd)
        replace HG := Lib.hid (grown_two HG.out (grown_of_below hd o)); clear hd
        cases hw : rr.2 with
        | true =>
          have hR := HR2.out
          rw [if_pos hw] at hR
          subst hR
          clear hw
          go_wp2
          go_ret2
          exact ⟨_, rfl, World.ownsRow_nil _ _ _ _, HR.out, HG.out⟩
        | false =>
          have hR := HR2.out
          rw [if_neg (by rw [hw]; decide)] at hR
          subst hR
          clear hw
          go_wp2
          go_ret2
          exact ⟨_, rfl, HL.out, HR.out, HG.out⟩
end Go.Proofs.Ytepgdjkmobngcaa
