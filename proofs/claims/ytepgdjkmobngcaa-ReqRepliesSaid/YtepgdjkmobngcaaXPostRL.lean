/- Postings as fields, plainly: what is read of what was written, and what was written of what is read. No conditions beyond the kinds of the numbers. -/
import Derived.Test.YtepgdjkmobngcaaXFlR
import Derived.Test.YtepgdjkmobngcaaXPostRdZ
import Derived.Test.YtepgdjkmobngcaaXPostWZ
namespace Go.Proofs.Ytepgdjkmobngcaa
open Go.RowKit Go.Lib Go.Proofs.Ytepgdjkmobngcaa.P Go.Proofs.Ytepgdjkmobngcaa.BeS Go.Proofs.YtepgdjkmobngcaaW.PrintWords Go.Proofs.YtepgdjkmobngcaaW.PrintLast Go.Proofs.YtepgdjkmobngcaaW.PrintMore
set_option linter.unusedVariables false
set_option linter.unusedSimpArgs false
def lnF (p : Ln) : List Fl := [.num (uN p.1) 2, .sig (uN p.2)]
def linesF (xs : List Ln) : List Fl := .num (cntP xs.length) 1 :: xs.flatMap lnF
theorem lnF_bytes (p : Ln) : flBytes (lnF p) = lnB p := by unfold lnF lnB flBytes; simp [Fl.bytes]
theorem lnF_ok (p : Ln) : flOk (lnF p) = !lnBad p := by unfold lnF lnBad flOk; simp [Fl.ok]
theorem flBytes_append (a b : List Fl) : flBytes (a ++ b) = flBytes a ++ flBytes b := by unfold flBytes; rw [List.flatMap_append]
theorem flOk_append (a b : List Fl) : flOk (a ++ b) = (flOk a && flOk b) := by unfold flOk; rw [List.all_append]
theorem flBytes_cons (a : Fl) (b : List Fl) : flBytes (a :: b) = a.bytes ++ flBytes b := by unfold flBytes; rw [List.flatMap_cons]
theorem flOk_cons (a : Fl) (b : List Fl) : flOk (a :: b) = (a.ok && flOk b) := by unfold flOk; rw [List.all_cons]
theorem linesF_bytes (xs : List Ln) : flBytes (linesF xs) = textL xs := by
  unfold linesF textL
  rw [flBytes_cons]
  congr 1
  generalize cntP xs.length = n
  clear n
  induction xs with
  | nil => rfl
  | cons y ys ih => rw [List.flatMap_cons, flBytes_append, ih, List.flatMap_cons, lnF_bytes]
theorem linesF_ok (xs : List Ln) : flOk (linesF xs) = !badL xs := by
  unfold linesF badL
  rw [flOk_cons, Bool.not_or, Bool.not_not]
  congr 1
  generalize cntP xs.length = n
  clear n
  induction xs with
  | nil => rfl
  | cons y ys ih => rw [List.flatMap_cons, flOk_append, ih, List.any_cons, Bool.not_or, lnF_ok]
theorem uN_back (n : Nat) (h : n < 18446744073709551616) : uN (n : Int) = n := by unfold uN; omega
theorem uN_wrap_back (n : Nat) (h : n < 18446744073709551616) : uN (wrap64 (n : Int)) = n := by unfold uN wrap64; omega
theorem wrap_uN (x : Int) (h0 : -9223372036854775808 ≤ x) (h1 : x < 9223372036854775808) : wrap64 (uN x : Int) = x := by unfold uN wrap64; omega
theorem wrap64_range (x : Int) : -9223372036854775808 ≤ wrap64 x ∧ wrap64 x < 9223372036854775808 := by unfold wrap64; omega
theorem uN_small (x : Int) (K : Nat) (hK : K ≤ 9223372036854775808) (h0 : -9223372036854775808 ≤ x) (h1 : x < 9223372036854775808) (h : uN x < K) : (uN x : Int) = x := by unfold uN at h ⊢; omega
theorem rdLn_is (r : RdS) : rdLn r = (((rdN r 2 : Int), wrap64 (rdN (rdK (.num 2) r).2 8 : Int)), (rdK .sig (rdK (.num 2) r).2).2) := rfl
theorem rdLn_wrong (l : List UInt8) : (rdLn (l, true)).2 = ([], true) := by
  rw [rdLn_is]
  show (rdK .sig (rdK (.num 2) (l, true)).2).2 = _
  rw [rdK_wrong, rdK_wrong]
theorem rdLn_back (p : Ln) (h0 : -9223372036854775808 ≤ p.1 ∧ p.1 < 9223372036854775808) (h1 : -9223372036854775808 ≤ p.2 ∧ p.2 < 9223372036854775808) (hb : lnBad p = false) (R : List UInt8) : rdLn (lnB p ++ R, false) = (p, (R, false)) := by
  have hfit : fits (uN p.1) 2 = true := by unfold lnBad at hb; simpa using hb
  have hf : Fl.Fine (.num (uN p.1) 2) := fine_of_ok ⟨uN_lt _, by decide⟩ hfit
  have hg : Fl.Fine (.sig (uN p.2)) := uN_lt _
  have e1 := rdK_back _ hf ((Fl.sig (uN p.2)).bytes ++ R)
  have e2 := rdK_back _ hg R
  have hl : lnB p ++ R = (Fl.num (uN p.1) 2).bytes ++ ((Fl.sig (uN p.2)).bytes ++ R) := by rw [← List.append_assoc]; rfl
  have n1 : rdN (lnB p ++ R, false) 2 = uN p.1 := by
    rw [hl]
    have := congrArg Prod.fst e1
    exact (Fl.num.inj this).1
  have s1 : (rdK (.num 2) (lnB p ++ R, false)).2 = ((Fl.sig (uN p.2)).bytes ++ R, false) := by rw [hl]; exact congrArg Prod.snd e1
  have n2 : rdN ((Fl.sig (uN p.2)).bytes ++ R, false) 8 = uN p.2 := by
    have := congrArg Prod.fst e2
    exact Fl.sig.inj this
  have s2 : (rdK .sig ((Fl.sig (uN p.2)).bytes ++ R, false)).2 = (R, false) := congrArg Prod.snd e2
  rw [rdLn_is, n1, s1, n2, s2, wrap_uN _ h1.1 h1.2, uN_small p.1 65536 (by decide) h0.1 h0.2 (by have := hf.2.2; simpa using this)]
theorem rdLn_forth (l l' : List UInt8) (p : Ln) (h : rdLn (l, false) = (p, (l', false))) : l = lnB p ++ l' ∧ lnBad p = false ∧ (-9223372036854775808 ≤ p.1 ∧ p.1 < 9223372036854775808) ∧ -9223372036854775808 ≤ p.2 ∧ p.2 < 9223372036854775808 := by
  rw [rdLn_is] at h
  have h1 := congrArg Prod.fst h
  have h2 := congrArg Prod.snd h
  simp only at h1 h2
  obtain ⟨f, l1, b, hr⟩ : ∃ f l1 b, rdK (.num 2) (l, false) = (f, (l1, b)) := ⟨_, _, _, rfl⟩
  rw [hr] at h1 h2
  simp only at h1 h2
  cases b with
  | true => rw [rdK_wrong] at h2; cases h2
  | false =>
    obtain ⟨a1, a2, a3⟩ := rdK_forth (.num 2) ⟨by decide, by decide⟩ l l1 f hr
    obtain ⟨b1, b2, b3⟩ := rdK_forth .sig trivial l1 l' (rdK .sig (l1, false)).1 (Prod.ext rfl h2)
    have hf : f = .num (rdN (l, false) 2) 2 := (congrArg Prod.fst hr).symm
    have hg : (rdK .sig (l1, false)).1 = .sig (rdN (l1, false) 8) := rfl
    rw [hg] at b1 b2
    subst hf
    have n1 : rdN (l, false) 2 < 65536 := by have := a2.2.2; simpa using this
    have n2 : rdN (l1, false) 8 < 18446744073709551616 := b2
    have p1 : p.1 = (rdN (l, false) 2 : Int) := by rw [← h1]
    have p2 : p.2 = wrap64 (rdN (l1, false) 8 : Int) := by rw [← h1]
    have u1 : uN p.1 = rdN (l, false) 2 := by rw [p1]; exact uN_back _ (by omega)
    have u2 : uN p.2 = rdN (l1, false) 8 := by rw [p2]; exact uN_wrap_back _ n2
    refine ⟨?_, ?_, by rw [p1]; omega, by rw [p2]; exact wrap64_range _⟩
    · rw [a1, b1]
      unfold lnB
      rw [u1, u2, List.append_assoc]
      rfl
    · unfold lnBad
      rw [u1]
      have := ok_of_fine a2
      have h3 : fits (rdN (l, false) 2) 2 = true := this
      rw [h3]; rfl
theorem rdLs_cons (k : Nat) (r : RdS) : rdLs (k + 1) r = ((rdLn r).1 :: (rdLs k (rdLn r).2).1, (rdLs k (rdLn r).2).2) := by
  induction k with
  | zero => rfl
  | succ k ih =>
    show ((rdLs (k + 1) r).1 ++ [(rdLn (rdLs (k + 1) r).2).1], (rdLn (rdLs (k + 1) r).2).2) = _
    rw [ih]
    rfl
theorem rdLs_wrong (k : Nat) (l : List UInt8) : (rdLs k (l, true)).2.2 = true := by
  induction k generalizing l with
  | zero => rfl
  | succ k ih => rw [rdLs_cons, rdLn_wrong]; exact ih []
theorem rdLs_back (xs : List Ln) (hin : LnIn xs) (hb : xs.any lnBad = false) (R : List UInt8) : rdLs xs.length (xs.flatMap lnB ++ R, false) = (xs, (R, false)) := by
  induction xs with
  | nil => rfl
  | cons x xs ih =>
    rw [List.any_cons, Bool.or_eq_false_iff] at hb
    have hx := hin x (by simp)
    have e1 := rdLn_back x hx.1 hx.2 hb.1 (xs.flatMap lnB ++ R)
    have e2 := ih (fun p hp => hin p (by simp [hp])) hb.2
    rw [List.length_cons, rdLs_cons, List.flatMap_cons, List.append_assoc, e1]
    simp only
    rw [e2]
theorem rdLs_forth (k : Nat) (l l' : List UInt8) (xs : List Ln) (h : rdLs k (l, false) = (xs, (l', false))) : l = xs.flatMap lnB ++ l' ∧ xs.any lnBad = false ∧ LnIn xs ∧ xs.length = k := by
  induction k generalizing l xs with
  | zero =>
    have h1 : [] = xs := congrArg Prod.fst h
    have h2 : (l, false) = (l', false) := congrArg Prod.snd h
    subst h1
    exact ⟨congrArg Prod.fst h2, rfl, fun p hp => by simp at hp, rfl⟩
  | succ k ih =>
    rw [rdLs_cons] at h
    have h1 := congrArg Prod.fst h
    have h2 := congrArg Prod.snd h
    simp only at h1 h2
    obtain ⟨p, l1, b, hr⟩ : ∃ p l1 b, rdLn (l, false) = (p, (l1, b)) := ⟨_, _, _, rfl⟩
    rw [hr] at h1 h2
    simp only at h1 h2
    cases b with
    | true =>
      have := rdLs_wrong k l1
      rw [h2] at this
      cases this
    | false =>
      obtain ⟨a1, a2, a3⟩ := rdLn_forth l l1 p hr
      obtain ⟨b1, b2, b3, b4⟩ := ih l1 (rdLs k (l1, false)).1 (Prod.ext rfl h2)
      subst h1
      refine ⟨?_, ?_, ?_, ?_⟩
      · rw [a1]
        conv => lhs; rw [b1]
        rw [List.flatMap_cons, List.append_assoc]
      · rw [List.any_cons, a2, b2]; rfl
      · intro x hx
        rcases List.mem_cons.1 hx with rfl | hx
        · exact a3
        · exact b3 x hx
      · rw [List.length_cons, b4]
theorem prd_back (xs : List Ln) (hin : LnIn xs) (ho : flOk (linesF xs) = true) (R : List UInt8) : prd (flBytes (linesF xs) ++ R, false) = (xs, 0, (R, false)) := by
  rw [linesF_ok] at ho
  have hb : badL xs = false := by simpa using ho
  unfold badL at hb
  rw [Bool.or_eq_false_iff] at hb
  obtain ⟨h1, h2⟩ := hb
  have h8 : xs.length ≤ 8 := by
    rcases Nat.lt_or_ge 8 xs.length with h | h
    · unfold cntP at h1
      rw [if_pos h] at h1
      exact absurd h1 (by decide)
    · exact h
  have hc : cntP xs.length = xs.length := if_neg (by omega)
  have hpw : (256 : Nat) ^ 1 = 256 := by decide
  have hf : Fl.Fine (.num xs.length 1) := ⟨by decide, by decide, by omega⟩
  have e1 := rdK_back _ hf (xs.flatMap lnB ++ R)
  have hl : flBytes (linesF xs) ++ R = (Fl.num xs.length 1).bytes ++ (xs.flatMap lnB ++ R) := by
    rw [linesF_bytes]
    unfold textL
    rw [hc, List.append_assoc]
    rfl
  rw [hl]
  have n1 : rdN ((Fl.num xs.length 1).bytes ++ (xs.flatMap lnB ++ R), false) 1 = xs.length := (Fl.num.inj (congrArg Prod.fst e1)).1
  have s1 : tkR ((Fl.num xs.length 1).bytes ++ (xs.flatMap lnB ++ R), false) 1 = (xs.flatMap lnB ++ R, false) := congrArg Prod.snd e1
  unfold prd
  rw [n1, s1, if_neg (by omega), rdLs_back xs hin h2 R]
  rfl
theorem prd_wrong (l : List UInt8) : (prd (l, true)).2.1 = 4 := by
  unfold prd
  rw [tkR_wrong]
  split
  · rfl
  · rw [if_pos (rdLs_wrong _ _)]
theorem prd_forth (l l' : List UInt8) (xs : List Ln) (b : Bool) (h : prd (l, false) = (xs, 0, (l', b))) : b = false ∧ l = flBytes (linesF xs) ++ l' ∧ flOk (linesF xs) = true ∧ LnIn xs := by
  unfold prd at h
  obtain ⟨f, l1, c, hr⟩ : ∃ f l1 c, rdK (.num 1) (l, false) = (f, (l1, c)) := ⟨_, _, _, rfl⟩
  have hf : f = .num (rdN (l, false) 1) 1 := (congrArg Prod.fst hr).symm
  have hs : tkR (l, false) 1 = (l1, c) := congrArg Prod.snd hr
  rw [hs] at h
  split at h
  · cases h
  · rename_i h8
    split at h
    · cases h
    · rename_i hw
      have h1 := congrArg Prod.fst h
      have h2 := congrArg (fun p => p.2.2) h
      simp only at h1 h2
      cases c with
      | true => exact absurd (rdLs_wrong _ _) hw
      | false =>
        have hb : b = false := by
          rw [h2] at hw
          simpa using hw
        subst hb
        obtain ⟨a1, a2, a3⟩ := rdK_forth (.num 1) ⟨by decide, by decide⟩ l l1 f hr
        obtain ⟨b1, b2, b3, b4⟩ := rdLs_forth _ l1 l' xs (Prod.ext h1 h2)
        subst hf
        have hc : cntP xs.length = rdN (l, false) 1 := by unfold cntP; rw [b4, if_neg (by omega)]
        refine ⟨rfl, ?_, ?_, b3⟩
        · rw [linesF_bytes, a1, b1]
          unfold textL
          rw [hc, List.append_assoc]
          rfl
        · rw [linesF_ok]
          unfold badL
          rw [hc, b2]
          have := ok_of_fine a2
          have h3 : fits (rdN (l, false) 1) 1 = true := this
          rw [h3]; rfl
end Go.Proofs.Ytepgdjkmobngcaa
