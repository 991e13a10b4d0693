/- cur: the reader's functions. No conditions beyond the form's own reach. -/
import Derived.Test.YtepgdjkmobngcaaXCurT
namespace Go.Proofs.Ytepgdjkmobngcaa
open Go.RowKit Go.Lib Go.Proofs.Ytepgdjkmobngcaa.P Go.Proofs.Ytepgdjkmobngcaa.BeS Go.Proofs.YtepgdjkmobngcaaW.PrintWords Go.Proofs.YtepgdjkmobngcaaW.PrintLast Go.Proofs.YtepgdjkmobngcaaW.PrintMore
set_option linter.unusedVariables false
set_option linter.unusedSimpArgs false
--@tables
/-- What a reader has left, and whether it is wrong. -/
abbrev RdS := List UInt8 × Bool
def tkN (r : RdS) (n : Int) : Bool := !r.2 && decide (0 ≤ n ∧ n ≤ (r.1.length : Int))
def tkS (r : RdS) (n : Int) : List UInt8 := if tkN r n = true then r.1.take n.toNat else []
def tkR (r : RdS) (n : Int) : RdS := if tkN r n = true then (r.1.drop n.toNat, false) else ([], true)
def RdO (w : World) (o : Option Nat) (r : RdS) : Prop := (∀ g, o = some g → Box2 w 111 g (.string (str r.1)) (.bool r.2)) ∧ (o = none → r = ([], true)) ∧ r.1.length ≤ 140737488351232
theorem RdO.grown {w w' : World} {o q : Option Nat} {r : RdS} (h : RdO w o r) (hg : w.grownBy w' q) (hne : ∀ g, o = some g → q ≠ some g) : RdO w' o r :=
  ⟨fun g e => (h.1 g e).grown hg (hne g e), h.2⟩
theorem RdO.below {w w' : World} {o : Option Nat} {r : RdS} (h : RdO w o r) (hb : Below w.heap.size w w') : RdO w' o r := ⟨fun g e => (h.1 g e).below hb, h.2⟩
theorem grown_two {w a b : World} {o : Option Nat} (h : w.grownBy a o) (k : a.grownBy b o) : w.grownBy b o :=
  ⟨k.os.trans h.os, k.tape.trans h.tape, k.output.trans h.output, Nat.le_trans h.size k.size, fun i hi hne => (k.block i (Nat.lt_of_lt_of_le hi h.size) hne).trans (h.block i hi hne)⟩
theorem tkS_len (r : RdS) (n : Int) : (tkS r n).length ≤ r.1.length := by
  unfold tkS
  split
  · rw [List.length_take]; omega
  · simp

set_option maxHeartbeats 2000000 in
theorem rd_fail (o : Option Nat) (r : RdS) (w : World) (h : RdO w o r) :
    Calls Try.prog 52 #[wrP o] w fun x w' => x = .returned (.tuple #[]) ∧ RdO w' o ([], true) ∧ w.grownBy w' o := by
  obtain ⟨h1, h2, h3⟩ := h
  unfold wrP
  cases o with
  | none =>
    simp only [Option.map_none]
    go_enter Try.func52, Try.ntmps52
    go_wp2
    go_end0
    exact ⟨rfl, ⟨fun g e => (by cases e), fun _ => rfl, Nat.zero_le _⟩, grown_of_below (Below.refl _ _) _⟩
  | some g =>
    simp only [Option.map_some]
    have hb := h1 g rfl
    have hb2 := hb.set1 (.bool true)
    have hb3 := hb2.set0 (.string { data := #[] })
    obtain ⟨f0, f1, f2, f3⟩ := hb.facts
    obtain ⟨k0, k1, k2, k3⟩ := hb2.facts
    have HB3 := Lib.hid hb3; clear hb hb2 hb3 h1 h2 h3
    go_enter Try.func52, Try.ntmps52
    go_wp2
    go_end0
    exact ⟨rfl, ⟨fun k e => (by cases e; exact HB3.out), fun e => (by cases e), Nat.zero_le _⟩, grown_two (Lib.grownBy_setCell w g 1 _) (Lib.grownBy_setCell _ g 0 _)⟩

set_option maxHeartbeats 4000000 in
theorem rd_take (o : Option Nat) (r : RdS) (n : Int) (w : World) (h : RdO w o r) :
    Calls Try.prog 41 #[wrP o, .int .i64 n] w fun x w' => x = .returned (.tuple #[.string (str (tkS r n)), .bool (tkN r n)]) ∧ RdO w' o (tkR r n) ∧ w.grownBy w' o := by
  have H := Lib.hid h; clear h
  cases o with
  | none =>
    obtain rfl := H.out.2.1 rfl
    have hN : tkN ([], true) n = false := rfl
    unfold tkS tkR
    rw [hN, if_neg (by simp), if_neg (by simp)]
    show Calls Try.prog 41 #[.pointer none, .int .i64 n] w _
    go_enter Try.func41, Try.ntmps41
    go_wp2_with fail
    refine (rd_fail none ([], true) w H.out).mono ?_
    rintro e w1 ⟨rfl, hr, hg⟩
    have HR := Lib.hid hr; clear hr
    have HG := Lib.hid hg; clear hg
    go_wp2
    go_ret2
    exact ⟨rfl, HR.out, HG.out⟩
  | some g =>
    obtain ⟨l, wr⟩ := r
    have hbx := H.out.1 g rfl
    have hlen := H.out.2.2
    simp only at hbx hlen
    obtain ⟨f0, f1, f2, f3⟩ := hbx.facts
    have hF : ∀ w1, RdO w1 (some g) (l, wr) → True := fun _ _ => trivial
    cases hN : tkN (l, wr) n with
    | false =>
      unfold tkS tkR
      rw [hN, if_neg (by simp), if_neg (by simp)]
      show Calls Try.prog 41 #[.pointer (some ⟨g, 0, none⟩), .int .i64 n] w _
      have hsz : (str l).size = l.length := str_size l
      generalize str l = s at f0 hsz
      clear f2 f3 hbx hF
      have tail : ∀ (Q : Ending → World → Prop), (∀ x w', (x = .returned (.tuple #[]) ∧ RdO w' (some g) ([], true) ∧ w.grownBy w' (some g)) → Q x w') → Calls Try.prog 52 #[.pointer (some ⟨g, 0, none⟩)] w Q := fun Q hQ => (rd_fail (some g) (l, wr) w H.out).mono hQ
      have HT := Lib.hid tail; clear tail
      cases wr with
      | true =>
        clear hN hlen
        go_enter Try.func41, Try.ntmps41
        go_wp2_with fail
        refine HT.out _ ?_
        rintro e w1 ⟨rfl, hr, hg⟩
        have HR := Lib.hid hr; clear hr
        have HG := Lib.hid hg; clear hg
        go_wp2
        go_ret2
        exact ⟨rfl, HR.out, HG.out⟩
      | false =>
        have hN2 : ¬ (0 ≤ n ∧ n ≤ (l.length : Int)) := by unfold tkN at hN; simpa using hN
        by_cases hn : n < 0
        · have c1 : decide (n < 0) = true := decide_eq_true hn
          clear hN hN2 hlen
          go_enter Try.func41, Try.ntmps41
          go_wp2_with fail
          refine HT.out _ ?_
          rintro e w1 ⟨rfl, hr, hg⟩
          have HR := Lib.hid hr; clear hr
          have HG := Lib.hid hg; clear hg
          go_wp2
          go_ret2
          exact ⟨rfl, HR.out, HG.out⟩
        · have c1 : decide (n < 0) = false := decide_eq_false hn
          have c2 : decide ((s.size : Int) < n) = true := decide_eq_true (by omega)
          clear hN hN2 hlen hsz
          go_enter Try.func41, Try.ntmps41
          go_wp2_with fail
          refine HT.out _ ?_
          rintro e w1 ⟨rfl, hr, hg⟩
          have HR := Lib.hid hr; clear hr
          have HG := Lib.hid hg; clear hg
          go_wp2
          go_ret2
          exact ⟨rfl, HR.out, HG.out⟩
    | true =>
      have hN2 : wr = false ∧ 0 ≤ n ∧ n ≤ (l.length : Int) := by unfold tkN at hN; simpa using hN
      obtain ⟨rfl, hn0, hn1⟩ := hN2
      obtain ⟨k, rfl⟩ := Int.eq_ofNat_of_zero_le hn0
      unfold tkS tkR
      rw [hN, if_pos rfl, if_pos rfl]
      show Calls Try.prog 41 #[.pointer (some ⟨g, 0, none⟩), .int .i64 (k : Int)] w _
      have hsz : (str l).size = l.length := str_size l
      have hE1 : (str l).extract 0 k = str (l.take k) := by rw [str_extract]; rfl
      have hE2 : (str l).extract k (str l).size = str (l.drop k) := by rw [str_extract, hsz, List.take_length]
      have HBX := Lib.hid (hbx.set0 (.string (str (l.drop k))))
      simp only [Int.toNat_natCast]
      rw [← hE1] 
      rw [← hE2] at HBX
      have HE2 := Lib.hid hE2; clear hE2 hE1
      generalize str l = s at *
      have c1 : decide ((k : Int) < 0) = false := decide_eq_false (by omega)
      have c2 : decide (s.size < k) = false := decide_eq_false (by omega)
      have c5 : (k ≤ s.size) = True := eq_true (by omega)
      have c6 : decide (k ≤ s.size) = true := decide_eq_true (by omega)
      have c3 : ((k : Int) ≤ (s.size : Int)) = True := eq_true (by omega)
      have c4 : decide ((k : Int) ≤ (s.size : Int)) = true := decide_eq_true (by omega)
      have HLen := Lib.hid hlen
      clear hbx hF hN hn0 hn1 hsz hlen
      go_enter Try.func41, Try.ntmps41
      go_wp2_with fail
      go_ret2
      refine ⟨rfl, ⟨fun k e => ?_, fun e => (by cases e), ?_⟩, Lib.grownBy_setCell w g 0 _⟩
      · cases e
        rw [← HE2.out]
        exact HBX.out
      · have := HLen.out
        simp only [List.length_drop]
        omega

set_option maxHeartbeats 2000000 in
theorem rd_new (s : ByteArray) (hs : s.size ≤ 140737488351232) (w : World) :
    Calls Try.prog 27 #[.string s] w fun x w' => x = .returned (wrP (some w.heap.size)) ∧ RdO w' (some w.heap.size) (s.data.toList, false) ∧ w'.heap.size = w.heap.size + 1 ∧ Below w.heap.size w w' := by
  have HS := Lib.hid hs; clear hs
  go_enter Try.func27, Try.ntmps27
  go_wp2
  go_ret
  refine ⟨rfl, ⟨fun g e => ?_, fun e => (by cases e), ?_⟩, by simp, (Below.refl _ w).alloc (Nat.le_refl _) _⟩
  · cases e
    rw [← of_data s]
    exact Box2.new w _ _ _
  · have := HS.out
    simpa using this

def numW (wd : Int) : Int := if 1 ≤ wd ∧ wd ≤ 8 then wd else -1
theorem tkS_le (r : RdS) (n : Int) (k : Nat) (h : n.toNat ≤ k) : (tkS r n).length ≤ k := by
  unfold tkS
  split
  · rw [List.length_take]; omega
  · simp
theorem numW_len (r : RdS) (wd : Int) : (tkS r (numW wd)).length ≤ 8 := by
  refine tkS_le r _ 8 ?_
  unfold numW
  split <;> omega
def rdN (r : RdS) (wd : Int) : Nat := getN (tkS r (numW wd))
theorem rdN_lt (r : RdS) (wd : Int) : rdN r wd < 18446744073709551616 := by
  have h := getN_lt (tkS r (numW wd))
  have h2 := numW_len r wd
  unfold rdN
  calc getN (tkS r (numW wd)) < 256 ^ (tkS r (numW wd)).length := h
    _ ≤ 256 ^ 8 := Nat.pow_le_pow_right (by decide) h2
    _ = 18446744073709551616 := by decide

set_option maxHeartbeats 2000000 in
theorem rd_number (o : Option Nat) (r : RdS) (wd : Int) (w : World) (h : RdO w o r) (h0 : -9223372036854775808 ≤ wd) (h1 : wd < 9223372036854775808) :
    Calls Try.prog 28 #[wrP o, .int .i64 wd] w fun x w' => x = .returned (.int .u64 (rdN r wd : Int)) ∧ RdO w' o (tkR r (numW wd)) ∧ w.grownBy w' o := by
  have HR := Lib.hid h; clear h
  have HF := Lib.hid (show be_Fits.f (0 : Int) wd = some (decide (1 ≤ wd ∧ wd ≤ 8)) by
    rw [show (0 : Int) = ((0 : Nat) : Int) from rfl, fits_f 0 (by decide) wd h0 h1]
    unfold fits
    congr 1
    rw [decide_eq_decide]
    exact ⟨fun h => ⟨h.1, h.2.1⟩, fun h => ⟨h.1, h.2, Nat.pow_pos (by decide)⟩⟩)
  have HG := Lib.hid (get_str (tkS r (numW wd)) (numW_len r wd) 100 (by decide))
  clear h0 h1
  unfold rdN
  generalize hp : wrP o = p
  by_cases hw : 1 ≤ wd ∧ wd ≤ 8
  · have HN := Lib.hid (show numW wd = wd from if_pos hw)
    rw [decide_eq_true hw] at HF
    rw [HN.out] at HG ⊢
    clear hw HN
    go_enter Try.func28, Try.ntmps28
    go_wp2_with fail
    refine (be_Fits.calls _ _ _ _ HF.out).mono ?_
    rintro e w1 ⟨rfl, hd⟩
    replace HR := Lib.hid (HR.out.below hd.below)
    have HB := Lib.hid (grown_of_below hd.below o); clear hd
    go_wp2_with fail
    rw [← hp]
    refine (rd_take o r wd w1 HR.out).mono ?_
    rintro e w2 ⟨rfl, hr, hg⟩
    replace HR := Lib.hid hr; clear hr
    replace HB := Lib.hid (grown_two HB.out hg); clear hg
    rw [hp]
    go_wp2_with fail
    refine (be_Get.calls _ _ _ _ HG.out).mono ?_
    rintro e w3 ⟨rfl, hd⟩
    replace HR := Lib.hid (HR.out.below hd.below)
    replace HB := Lib.hid (grown_two HB.out (grown_of_below hd.below o)); clear hd
    go_wp2
    go_ret
    exact ⟨rfl, HR.out, HB.out⟩
  · have HN := Lib.hid (show numW wd = -1 from if_neg hw)
    rw [decide_eq_false hw] at HF
    rw [HN.out] at HG ⊢
    clear hw HN
    go_enter Try.func28, Try.ntmps28
    go_wp2_with fail
    refine (be_Fits.calls _ _ _ _ HF.out).mono ?_
    rintro e w1 ⟨rfl, hd⟩
    replace HR := Lib.hid (HR.out.below hd.below)
    have HB := Lib.hid (grown_of_below hd.below o); clear hd
    go_wp2_with fail
    rw [← hp]
    refine (rd_take o r (-1) w1 HR.out).mono ?_
    rintro e w2 ⟨rfl, hr, hg⟩
    replace HR := Lib.hid hr; clear hr
    replace HB := Lib.hid (grown_two HB.out hg); clear hg
    rw [hp]
    go_wp2_with fail
    refine (be_Get.calls _ _ _ _ HG.out).mono ?_
    rintro e w3 ⟨rfl, hd⟩
    replace HR := Lib.hid (HR.out.below hd.below)
    replace HB := Lib.hid (grown_two HB.out (grown_of_below hd.below o)); clear hd
    go_wp2
    go_ret
    exact ⟨rfl, HR.out, HB.out⟩

set_option maxHeartbeats 2000000 in
theorem rd_signed (o : Option Nat) (r : RdS) (w : World) (h : RdO w o r) :
    Calls Try.prog 45 #[wrP o] w fun x w' => x = .returned (.int .i64 (wrap64 (rdN r 8 : Int))) ∧ RdO w' o (tkR r 8) ∧ w.grownBy w' o := by
  have HR := Lib.hid h; clear h
  generalize hp : wrP o = p
  go_enter Try.func45, Try.ntmps45
  go_wp2_with fail
  rw [← hp]
  refine (rd_number o r 8 w HR.out (by decide) (by decide)).mono ?_
  rintro e w2 ⟨rfl, hr, hg⟩
  replace HR := Lib.hid hr; clear hr
  have HB := Lib.hid hg; clear hg
  rw [hp]
  go_wp2
  go_ret
  exact ⟨rfl, HR.out, HB.out⟩

def rdT (r : RdS) : List UInt8 := tkS (tkR r 1) (rdN r 1 : Int)
def rdTR (r : RdS) : RdS := tkR (tkR r 1) (rdN r 1 : Int)
set_option maxHeartbeats 2000000 in
theorem rd_text (o : Option Nat) (r : RdS) (w : World) (h : RdO w o r) :
    Calls Try.prog 53 #[wrP o] w fun x w' => x = .returned (.string (str (rdT r))) ∧ RdO w' o (rdTR r) ∧ w.grownBy w' o := by
  have HR := Lib.hid h; clear h
  unfold rdT rdTR
  obtain ⟨n, hn, hn2⟩ : ∃ n : Nat, rdN r 1 = n ∧ n < 256 := ⟨_, rfl, by
    have h := getN_lt (tkS r (numW 1))
    have h2 : (tkS r (numW 1)).length ≤ 1 := tkS_le r _ 1 (by decide)
    unfold rdN
    calc getN (tkS r (numW 1)) < 256 ^ (tkS r (numW 1)).length := h
      _ ≤ 256 ^ 1 := Nat.pow_le_pow_right (by decide) h2
      _ = 256 := by decide⟩
  have c1 : wrap64 (n : Int) = (n : Int) := wrap64_in _ (by omega) (by omega)
  have c2 : IntKind.i64.wrap (n : Int) = (n : Int) := by have := c1; unfold wrap64 at this; simp [IntKind.wrap, IntKind.bits, IntKind.signed]; omega
  have HN := Lib.hid hn; clear hn hn2
  rw [HN.out]
  generalize hp : wrP o = p
  go_enter Try.func53, Try.ntmps53
  go_wp2_with fail
  rw [← hp]
  refine (rd_number o r 1 w HR.out (by decide) (by decide)).mono ?_
  rintro e w2 ⟨rfl, hr, hg⟩
  rw [show numW 1 = 1 from rfl] at hr
  rw [HN.out]
  replace HR := Lib.hid hr; clear hr
  have HB := Lib.hid hg; clear hg
  rw [hp]
  go_wp2_with fail
  rw [← hp]
  refine (rd_take o _ (n : Int) w2 HR.out).mono ?_
  rintro e w3 ⟨rfl, hr, hg⟩
  replace HR := Lib.hid hr; clear hr
  replace HB := Lib.hid (grown_two HB.out hg); clear hg
  rw [hp]
  go_wp2
  go_ret
  exact ⟨rfl, HR.out, HB.out⟩

set_option maxHeartbeats 2000000 in
theorem rd_wrong (o : Option Nat) (r : RdS) (w : World) (h : RdO w o r) :
    Calls Try.prog 54 #[wrP o] w fun x w' => x = .returned (.bool r.2) ∧ Below w.heap.size w w' := by
  cases o with
  | none =>
    obtain rfl := h.2.1 rfl
    show Calls Try.prog 54 #[.pointer none] w _
    go_enter Try.func54, Try.ntmps54
    go_wp2
    go_ret
    exact ⟨rfl, Below.refl _ _⟩
  | some g =>
    obtain ⟨l, wr⟩ := r
    obtain ⟨f0, f1, f2, f3⟩ := (h.1 g rfl).facts
    show Calls Try.prog 54 #[.pointer (some ⟨g, 0, none⟩)] w _
    clear h f0 f2 f3
    go_enter Try.func54, Try.ntmps54
    go_wp2
    go_ret
    exact ⟨rfl, Below.refl _ _⟩

def rdE (o : Option Nat) (r : RdS) : Int := if o = none then 1 else if r.2 = true ∨ r.1 ≠ [] then 4 else 0
set_option maxHeartbeats 2000000 in
theorem rd_end (o : Option Nat) (r : RdS) (w : World) (h : RdO w o r) :
    Calls Try.prog 31 #[wrP o] w fun x w' => x = .returned (.int .i64 (rdE o r)) ∧ Below w.heap.size w w' := by
  cases o with
  | none =>
    show Calls Try.prog 31 #[.pointer none] w _
    go_enter Try.func31, Try.ntmps31
    go_wp2
    go_ret
    exact ⟨rfl, Below.refl _ _⟩
  | some g =>
    obtain ⟨l, wr⟩ := r
    obtain ⟨f0, f1, f2, f3⟩ := (h.1 g rfl).facts
    show Calls Try.prog 31 #[.pointer (some ⟨g, 0, none⟩)] w _
    simp only at f0 f1
    clear h f2 f3
    cases wr with
    | true =>
      have HE := Lib.hid (show rdE (some g) (l, true) = 4 from rfl)
      rw [HE.out]
      go_enter Try.func31, Try.ntmps31
      go_wp2
      go_ret
      exact ⟨rfl, Below.refl _ _⟩
    | false =>
      cases l with
      | nil =>
        have HE := Lib.hid (show rdE (some g) ([], false) = 0 from rfl)
        rw [HE.out]
        have hs : (str []).toList.isEmpty = true := by rw [str_toList]; rfl
        generalize str [] = s at f0 hs
        go_enter Try.func31, Try.ntmps31
        go_wp2
        go_ret
        exact ⟨rfl, Below.refl _ _⟩
      | cons b l =>
        have HE := Lib.hid (show rdE (some g) (b :: l, false) = 4 from rfl)
        rw [HE.out]
        have hs : (str (b :: l)).toList.isEmpty = false := by rw [str_toList]; rfl
        generalize str (b :: l) = s at f0 hs
        go_enter Try.func31, Try.ntmps31
        go_wp2
        go_ret
        exact ⟨rfl, Below.refl _ _⟩
end Go.Proofs.Ytepgdjkmobngcaa
