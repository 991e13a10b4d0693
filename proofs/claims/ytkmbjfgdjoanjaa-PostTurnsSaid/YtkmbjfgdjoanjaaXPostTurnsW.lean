/- PostTurns: a posting that is even, and the one that turns it back, may be, and have on each account the same with the other sign; turned back again it is the posting. No conditions beyond the form's own reach. -/
import Derived.Test.YtkmbjfgdjoanjaaXPostH
namespace Go.Proofs.Ytkmbjfgdjoanjaa
open Go.RowKit Go.Lib Go.Proofs.Ytkmbjfgdjoanjaa.P Go.Proofs.YtkmbjfgdjoanjaaW.PrintWords Go.Proofs.YtkmbjfgdjoanjaaW.PrintLast Go.Proofs.YtkmbjfgdjoanjaaW.PrintMore
set_option linter.unusedVariables false
set_option linter.unusedSimpArgs false
--@tables
theorem onS_cons (p : Ln) (E : List Ln) (k : Int) : onS (p :: E) k = (if p.1 = k then p.2 else 0) + onS E k := by
  unfold onS
  rw [List.filter_cons]
  by_cases h : p.1 = k
  · rw [if_pos (by simpa using h), if_pos h, List.map_cons, List.sum_cons]
  · rw [if_neg (by simpa using h), if_neg h]; omega
theorem allS_cons (p : Ln) (E : List Ln) : allS (p :: E) = p.2 + allS E := by unfold allS; rw [List.map_cons, List.sum_cons]
theorem onS_neg (E : List Ln) (k : Int) : onS (E.map negL) k = - onS E k := by
  induction E with
  | nil => rfl
  | cons p E ih =>
    rw [List.map_cons, onS_cons, onS_cons, ih]
    unfold negL
    simp only
    split <;> omega
theorem allS_neg (E : List Ln) : allS (E.map negL) = - allS E := by
  induction E with
  | nil => rfl
  | cons p E ih =>
    rw [List.map_cons, allS_cons, allS_cons, ih]
    unfold negL
    simp only
    omega
def parS (E : List Ln) : Nat → Int
  | 0 => 0
  | j + 1 => parS E j + onS E ((j + 1 : Nat) : Int)
theorem parS_cons (p : Ln) (E : List Ln) (j : Nat) : parS (p :: E) j = (if 1 ≤ p.1 ∧ p.1 ≤ (j : Int) then p.2 else 0) + parS E j := by
  induction j with
  | zero => unfold parS; rw [if_neg (by omega)]; omega
  | succ j ih =>
    unfold parS
    rw [ih, onS_cons]
    by_cases h : p.1 = ((j + 1 : Nat) : Int)
    · rw [if_pos h, if_neg (by omega), if_pos (by omega)]; omega
    · rw [if_neg h]
      by_cases h2 : 1 ≤ p.1 ∧ p.1 ≤ (j : Int)
      · rw [if_pos h2, if_pos (by omega)]; omega
      · rw [if_neg h2, if_neg (by omega)]; omega
theorem parS_all (E : List Ln) (h : ∀ p ∈ E, 1 ≤ p.1 ∧ p.1 ≤ 5) : parS E 5 = allS E := by
  induction E with
  | nil => rfl
  | cons p E ih =>
    have := h p List.mem_cons_self
    rw [parS_cons, allS_cons, ih (fun q hq => h q (List.mem_cons_of_mem _ hq)), if_pos (by omega)]
theorem sums_bound (E : List Ln) (h : ∀ p ∈ E, -8000000 ≤ p.2 ∧ p.2 ≤ 8000000) (k : Int) (j : Nat) : (-(E.length * 8000000 : Int) ≤ onS E k ∧ onS E k ≤ E.length * 8000000) ∧ -(E.length * 8000000 : Int) ≤ parS E j ∧ parS E j ≤ E.length * 8000000 := by
  induction E with
  | nil =>
    have h1 : onS [] k = 0 := rfl
    have h2 : parS [] j = 0 := by
      induction j with
      | zero => rfl
      | succ j ih => unfold parS; rw [ih]; rfl
    rw [h1, h2]
    simp
  | cons p E ih =>
    have := h p List.mem_cons_self
    have hi := ih (fun q hq => h q (List.mem_cons_of_mem _ hq))
    rw [onS_cons, parS_cons, List.length_cons]
    constructor
    · split <;> omega
    · split <;> omega
theorem totV_in (x : Int) (h0 : -9223372036854775808 ≤ x) (h1 : x < 9223372036854775808) : totV x = (x, 0) := if_pos ⟨h0, h1⟩
structure EvenIs (xs E : List Ln) : Prop where
  len : E.length ≤ 8
  mem : ∀ p ∈ E, (1 ≤ p.1 ∧ p.1 ≤ 5) ∧ (-8000000 ≤ p.2 ∧ p.2 ≤ 8000000) ∧ (xs ≠ [] → p.2 ≠ 0)
  all : allS E = 0
  two : xs ≠ [] → 2 ≤ E.length
  one : xs = [] → E.length = 1
theorem evenL_is (xs : List Ln) : EvenIs xs (evenL xs) := by
  have hb := evS_bound (xs.take 7)
  have hl : (xs.take 7).length ≤ 7 := by rw [List.length_take]; omega
  have hlm : ((xs.take 7).map ev1).length = (xs.take 7).length := List.length_map _
  have hne : xs ≠ [] → 1 ≤ (xs.take 7).length := by
    intro h
    have : 0 < xs.length := List.length_pos_iff.2 h
    rw [List.length_take]; omega
  have hmem : ∀ p ∈ (xs.take 7).map ev1, (1 ≤ p.1 ∧ p.1 ≤ 5) ∧ (-8000000 ≤ p.2 ∧ p.2 ≤ 8000000) ∧ (xs ≠ [] → p.2 ≠ 0) := by
    intro p hp
    obtain ⟨q, _, rfl⟩ := List.mem_map.1 hp
    have := ev1_bound q
    exact ⟨by omega, by omega, fun _ => by omega⟩
  have hodd : (xs.take 7).length = 1 → allS ((xs.take 7).map ev1) ≠ 0 := by
    intro h
    match hx : xs.take 7, h with
    | [q], _ =>
      have := ev1_bound q
      show allS [ev1 q] ≠ 0
      rw [allS_cons, show allS [] = 0 from rfl]
      omega
  unfold evenL
  by_cases hc : allS ((xs.take 7).map ev1) ≠ 0 ∨ ((xs.take 7).map ev1).length < 2
  · rw [if_pos hc]
    refine ⟨?_, ?_, ?_, ?_, ?_⟩
    · rw [List.length_append, hlm]; simp; omega
    · intro p hp
      rcases List.mem_append.1 hp with hp | hp
      · exact hmem p hp
      · obtain rfl := List.mem_singleton.1 hp
        refine ⟨by simp, by simp only; omega, fun hx => ?_⟩
        have h1 := hne hx
        show -allS ((xs.take 7).map ev1) ≠ 0
        rcases hc with hc | hc
        · omega
        · have := hodd (by omega)
          omega
    · rw [allS_snoc]; show _ + -allS _ = 0; omega
    · intro hx
      have := hne hx
      rw [List.length_append, hlm]; show 2 ≤ (xs.take 7).length + 1; omega
    · intro hx
      subst hx
      rfl
  · rw [if_neg hc]
    have h1 : allS ((xs.take 7).map ev1) = 0 := Classical.not_not.1 (fun h => hc (.inl h))
    have h2 : ¬ ((xs.take 7).map ev1).length < 2 := fun h => hc (.inr h)
    refine ⟨by omega, hmem, h1, fun _ => by omega, fun hx => ?_⟩
    subst hx
    exact absurd (show ((([] : List Ln).take 7).map ev1).length < 2 by decide) h2
theorem chk_even {xs E : List Ln} (h : EvenIs xs E) (hx : xs ≠ []) : chkV E = 0 := by
  unfold chkV
  have h2 := h.two hx
  have h8 := h.len
  rw [if_neg (by omega), if_neg, if_neg, if_pos h.all]
  · rw [Bool.not_eq_false, List.all_eq_true]
    intro p hp
    exact decide_eq_true (h.mem p hp).1
  · rw [Bool.not_eq_false, List.all_eq_true]
    intro p hp
    exact decide_eq_true ((h.mem p hp).2.2 hx)
theorem chk_neg {xs E : List Ln} (h : EvenIs xs E) (hx : xs ≠ []) : chkV (E.map negL) = 0 := by
  unfold chkV
  have h2 := h.two hx
  have h8 := h.len
  rw [if_neg (by rw [List.length_map]; omega), if_neg, if_neg, if_pos (by rw [allS_neg, h.all]; rfl)]
  · rw [Bool.not_eq_false, List.all_eq_true]
    intro p hp
    obtain ⟨q, hq, rfl⟩ := List.mem_map.1 hp
    exact decide_eq_true (h.mem q hq).1
  · rw [Bool.not_eq_false, List.all_eq_true]
    intro p hp
    obtain ⟨q, hq, rfl⟩ := List.mem_map.1 hp
    refine decide_eq_true ?_
    have := (h.mem q hq).2.2 hx
    unfold negL
    simp only
    omega
theorem con_even {xs E : List Ln} (h : EvenIs xs E) : conV E = (E.map negL, 0) := by
  refine if_pos ?_
  rw [List.all_eq_true]
  intro p hp
  have := (h.mem p hp).2.1
  unfold okN
  exact decide_eq_true (by omega)
theorem con_back {xs E : List Ln} (h : EvenIs xs E) : conV (E.map negL) = (E, 0) := by
  have h1 : (E.map negL).all okN = true := by
    rw [List.all_eq_true]
    intro p hp
    obtain ⟨q, hq, rfl⟩ := List.mem_map.1 hp
    have := (h.mem q hq).2.1
    unfold okN negL
    exact decide_eq_true (by simp only; omega)
  have h2 : (E.map negL).map negL = E := by
    rw [List.map_map]
    conv => rhs; rw [← List.map_id E]
    refine List.map_congr_left (fun p _ => ?_)
    unfold negL
    simp
  unfold conV
  rw [if_pos h1, h2]
theorem in_even {xs E : List Ln} (h : EvenIs xs E) : LnIn E ∧ LnIn (E.map negL) := by
  refine ⟨fun p hp => ?_, fun p hp => ?_⟩
  · have := h.mem p hp; omega
  · obtain ⟨q, hq, rfl⟩ := List.mem_map.1 hp
    have := h.mem q hq
    unfold negL
    simp only
    omega
set_option maxHeartbeats 16000000 in
set_option maxRecDepth 20000 in
theorem postTurns_walk (a : Option Addr) (xs : List Ln) (cap : Nat) (hcap : xs.length ≤ cap ∧ cap ≤ maxLen) (w : World) (h : LnsAt w a xs) :
    Calls Try.prog 4 #[.slice a xs.length cap] w fun e w' => e = .returned (.bool true) ∧ Below w.heap.size w w' := by
  have HF := Lib.hid h; clear h
  have HCp := Lib.hid hcap; clear hcap
  go_enter Try.func4, Try.ntmps4
  go_wp2_with fail
  refine (accounts_ok _).mono ?_
  rintro e w1 ⟨g, m, u, rfl, hc, _, hd⟩
  have HC := Lib.hid hc; clear hc
  replace HF := Lib.hid (HF.out.below hd)
  have HB := Lib.hid hd; clear hd
  go_wp2_with fail
  refine (even_ok a xs cap HCp.out w1 HF.out).mono ?_
  rintro e w2 ⟨ve, rfl, he, hd⟩
  have HEv := Lib.hid he; clear he
  replace HC := Lib.hid (HC.out.below hd)
  replace HB := Lib.hid (chain2 HB.out hd); clear hd
  have HE := Lib.hid (evenL_is xs)
  generalize evenL xs = E at HEv HE
  obtain ⟨ea, ec, rfl, hec, hea⟩ := HEv.out.at'
  have HEa := Lib.hid (And.intro hec hea); clear hec hea
  go_wp2_with fail
  refine (lines_ok ea E ec HEa.out.1 w2 HEa.out.2).mono ?_
  rintro e w3 ⟨va, vb, rfl, hp, hm, hd⟩
  rw [List.take_of_length_le (by have := HE.out.len; omega)] at hp hm
  have HP := Lib.hid hp; clear hp
  have HM := Lib.hid hm; clear hm
  replace HC := Lib.hid (HC.out.below hd)
  replace HB := Lib.hid (chain2 HB.out hd); clear hd HEv HEa HF
  go_wp2_with fail
  refine (wakes_ok w3).mono ?_
  rintro e w4 ⟨rfl, hd⟩
  replace HP := Lib.hid (HP.out.below hd)
  replace HM := Lib.hid (HM.out.below hd)
  replace HC := Lib.hid (HC.out.below hd)
  replace HB := Lib.hid (chain2 HB.out hd); clear hd
  go_wp2_with fail
  refine (check_ok E (by have := HE.out.len; omega) (in_even HE.out).1 va HP.out.s HC.out five_J).mono ?_
  rintro e w5 ⟨rfl, hd⟩
  replace HP := Lib.hid (HP.out.below hd)
  replace HM := Lib.hid (HM.out.below hd)
  replace HC := Lib.hid (HC.out.below hd)
  replace HB := Lib.hid (chain2 HB.out hd); clear hd
  by_cases hx : xs = []
  · have hq : chkV E = 2 := by unfold chkV; exact if_pos (.inl (by rw [HE.out.one hx]; decide))
    rw [hq]
    subst hx
    clear hq
    go_wp2_with fail
    refine (wakes_ok w5).mono ?_
    rintro e w6 ⟨rfl, hd⟩
    replace HB := Lib.hid (chain2 HB.out hd); clear hd
    go_wp2
    go_ret
    exact ⟨rfl, HB.out⟩
  have HX := Lib.hid hx; clear hx
  rw [chk_even HE.out HX.out]
  go_wp2_with fail
  refine (contra_ok E (by have := HE.out.len; omega) (in_even HE.out).1 va w5 HP.out.s).mono ?_
  rintro e w6 ⟨q, rfl, hq, hd⟩
  rw [con_even HE.out] at hq ⊢
  have HQ := Lib.hid hq; clear hq
  replace HP := Lib.hid (HP.out.below hd)
  replace HM := Lib.hid (HM.out.below hd)
  replace HC := Lib.hid (HC.out.below hd)
  replace HB := Lib.hid (chain2 HB.out hd); clear hd
  simp only at HQ ⊢
  go_wp2_with fail
  refine (contra_ok (E.map negL) (by rw [List.length_map]; have := HE.out.len; omega) (in_even HE.out).2 q w6 HQ.out.s).mono ?_
  rintro e w7 ⟨r, rfl, hr, hd⟩
  rw [con_back HE.out] at hr ⊢
  have HRr := Lib.hid hr; clear hr
  replace HP := Lib.hid (HP.out.below hd)
  replace HQ := Lib.hid (HQ.out.below hd)
  replace HM := Lib.hid (HM.out.below hd)
  replace HC := Lib.hid (HC.out.below hd)
  replace HB := Lib.hid (chain2 HB.out hd); clear hd
  simp only at HRr ⊢
  go_wp2_with fail
  refine (check_ok (E.map negL) (by rw [List.length_map]; have := HE.out.len; omega) (in_even HE.out).2 q HQ.out.s HC.out five_J).mono ?_
  rintro e w8 ⟨rfl, hd⟩
  rw [chk_neg HE.out HX.out]
  replace HP := Lib.hid (HP.out.below hd)
  replace HQ := Lib.hid (HQ.out.below hd)
  replace HM := Lib.hid (HM.out.below hd)
  replace HRr := Lib.hid (HRr.out.below hd)
  replace HB := Lib.hid (chain2 HB.out hd); clear hd
  go_wp2_with fail
  refine (same_ok E E (by have := HE.out.len; omega) HRr.out HM.out).mono ?_
  rintro e w9 ⟨rfl, hd⟩
  rw [show decide (E = E) = true from decide_eq_true rfl]
  replace hd := hd.below
  replace HP := Lib.hid (HP.out.below hd)
  replace HQ := Lib.hid (HQ.out.below hd)
  replace HB := Lib.hid (chain2 HB.out hd); clear hd HM HRr HC
  have HBd := Lib.hid (fun k j => sums_bound E (fun p hp => (HE.out.mem p hp).2.1) k j)
  go_wp2_with fail
  go_loopw [11, 12] (fun s i wr => ∃ j : Nat, j ≤ 5 ∧ i = .int .i64 ((j + 1 : Nat) : Int) ∧ s = .int .i64 (parS E j) ∧ Below w9.heap.size w9 wr) (fun _ i _ => 6 - (RowKit.intOf i).toNat)
  case atStart => exact ⟨0, by decide, rfl, rfl, Below.refl _ _⟩
  case round =>
    obtain ⟨j, hj, rfl, rfl, hd⟩ := hrel
    have HD := Lib.hid hd; clear hd
    by_cases hlt : j < 5
    · have e3 : wrap64 (((j + 1 : Nat) : Int) + 1) = ((j + 1 + 1 : Nat) : Int) := by unfold wrap64; omega
      have c1 : decide (((j + 1 : Nat) : Int) ≤ 5) = true := decide_eq_true (by omega)
      have c2 : decide (((j : Int) + 1) ≤ 5) = true := decide_eq_true (by omega)
      have c3 : decide ((j : Int) ≤ 4) = true := decide_eq_true (by omega)
      go_wp2_with fail
      refine (on_ok E (by have := HE.out.len; omega) (in_even HE.out).1 ((j + 1 : Nat) : Int) va wr (HP.out.below HD.out).s).mono ?_
      rintro e w10 ⟨rfl, hd⟩
      replace HD := Lib.hid (chain2 HD.out hd); clear hd
      have hb := HBd.out ((j + 1 : Nat) : Int) j
      have hb2 := HBd.out ((j + 1 : Nat) : Int) (j + 1)
      have hE8 := HE.out.len
      rw [totV_in (onS E ((j + 1 : Nat) : Int)) (by omega) (by omega)]
      have hpj : parS E (j + 1) = parS E j + onS E ((j + 1 : Nat) : Int) := rfl
      have HPj := Lib.hid hpj; clear hpj
      have hon := onS_neg E ((j + 1 : Nat) : Int)
      have HOn := Lib.hid hon; clear hon
      have HOk := Lib.hid (on_ok (E.map negL) (by rw [List.length_map]; have := HE.out.len; omega) (in_even HE.out).2 ((j + 1 : Nat) : Int) q w10 (HQ.out.below HD.out).s)
      rw [HOn.out] at HOk
      rw [totV_in (-onS E ((j + 1 : Nat) : Int)) (by omega) (by omega)] at HOk
      generalize onS E ((j + 1 : Nat) : Int) = x at HPj HOk hb hb2 ⊢
      have x0 : -100000000 ≤ x := by omega
      have x1 : x ≤ 100000000 := by omega
      rw [HPj.out] at hb2
      generalize parS E j = y at HPj hb hb2 ⊢
      have y0 : -100000000 ≤ y := by omega
      have y1 : y ≤ 100000000 := by omega
      clear hb hb2 hE8 c1 c2 c3
      go_wp2_with fail
      refine HOk.out.mono ?_
      rintro e w11 ⟨rfl, hd⟩
      replace HD := Lib.hid (chain2 HD.out hd); clear hd HOk
      have hn1 : wrap64 (- -x) = x := by unfold wrap64; omega
      have hs1 : wrap64 (y + x) = y + x := by unfold wrap64; omega
      go_wp2_with fail
      go_roundw
      case rel => exact ⟨j + 1, hlt, by first | rw [e3] | rfl, by rw [HPj.out], HD.out⟩
      case measure => (try rw [e3]); simp only [RowKit.intOf]; omega
    · obtain rfl : j = 5 := Nat.le_antisymm hj (Nat.le_of_not_lt hlt)
      rw [parS_all E (fun p hp => (HE.out.mem p hp).1), HE.out.all]
      replace HB := Lib.hid (chain2 HB.out HD.out)
      go_wp2
      go_ret
      exact ⟨rfl, HB.out⟩
theorem postTurns_law (a0 : Option Addr) (len0 cap0 : Nat) (W : World) (w0 : RowIn W [.int .i64, .int .i64] a0 len0) (y0 : len0 ≤ cap0 ∧ cap0 ≤ maxLen) :
    Calls Try.prog 4 #[.slice a0 len0 cap0] W fun e w' => e = .returned (.bool true) ∧ Below W.heap.size W w' := by
  obtain ⟨xs, rfl, hi, h⟩ := lns_of w0
  exact postTurns_walk a0 xs cap0 y0 W h
end Go.Proofs.Ytkmbjfgdjoanjaa
