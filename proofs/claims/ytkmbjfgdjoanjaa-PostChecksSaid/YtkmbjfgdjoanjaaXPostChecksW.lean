/- PostChecks: which postings may be, their contra ones, and what they have on every account, is the document's answer. No conditions beyond the form's own reach. -/
import Derived.Test.YtkmbjfgdjoanjaaXPostRef
namespace Go.Proofs.Ytkmbjfgdjoanjaa
open Go.RowKit Go.Lib Go.Proofs.Ytkmbjfgdjoanjaa.P Go.Proofs.YtkmbjfgdjoanjaaW.PrintWords Go.Proofs.YtkmbjfgdjoanjaaW.PrintLast Go.Proofs.YtkmbjfgdjoanjaaW.PrintMore
set_option linter.unusedVariables false
set_option linter.unusedSimpArgs false
--@tables
/-- A posting that came in, or was made. -/
def LsV (w : World) (v : Value) : Prop := ∃ a xs cap, v = .slice a (xs : List Ln).length cap ∧ (xs.length ≤ cap ∧ cap ≤ maxLen) ∧ LnIn xs ∧ LnsAt w a xs
theorem LsV.below {w w' : World} {v : Value} (h : LsV w v) (hb : Below w.heap.size w w') : LsV w' v := by
  obtain ⟨a, xs, cap, h1, h2, h3, h4⟩ := h
  exact ⟨a, xs, cap, h1, h2, h3, h4.below hb⟩
theorem two_at {w : World} {b T : Nat} {u v : Value} (h : w.heap[b]? = some (.cells #[u, v] T (0, 0))) (hu : LsV w u) (hv : LsV w v) (j : Nat) (hj : j < 2) : ∃ x, w.cell? ⟨b, j, none⟩ = some x ∧ LsV w x := by
  match j, hj with
  | 0, _ => exact ⟨u, by unfold World.cell?; rw [h]; rfl, hu⟩
  | 1, _ => exact ⟨v, by unfold World.cell?; rw [h]; rfl, hv⟩
theorem three_at {w : World} {b T : Nat} {k : Int} (h : w.heap[b]? = some (.cells #[.int .i64 k, .int .i64 1, .int .i64 5] T (0, 0))) (j : Nat) (hj : j < 3) : ∃ x : Int, w.cell? ⟨b, j, none⟩ = some (.int .i64 x) := by
  match j, hj with
  | 0, _ => exact ⟨k, by unfold World.cell?; rw [h]; rfl⟩
  | 1, _ => exact ⟨1, by unfold World.cell?; rw [h]; rfl⟩
  | 2, _ => exact ⟨5, by unfold World.cell?; rw [h]; rfl⟩
theorem even_in (xs : List Ln) : LnIn (evenL xs) := by
  intro p hp
  have hb := evS_bound (xs.take 7)
  have hl : (xs.take 7).length ≤ 7 := by rw [List.length_take]; omega
  have hm : ∀ p ∈ (xs.take 7).map ev1, (-9223372036854775808 ≤ p.1 ∧ p.1 < 9223372036854775808) ∧ -9223372036854775808 ≤ p.2 ∧ p.2 < 9223372036854775808 := by
    intro p hp
    obtain ⟨q, _, rfl⟩ := List.mem_map.1 hp
    have := ev1_bound q
    omega
  unfold evenL at hp
  split at hp
  · rcases List.mem_append.1 hp with hp | hp
    · exact hm p hp
    · obtain rfl := List.mem_singleton.1 hp
      refine ⟨by simp, ?_⟩
      show _ ≤ -allS _ ∧ -allS _ < _
      omega
  · exact hm p hp
theorem con_len (ys : List Ln) : (conV ys).1.length ≤ ys.length := by
  unfold conV
  split
  · simp
  · simp
set_option maxHeartbeats 16000000 in
set_option maxRecDepth 20000 in
theorem postChecks_walk (a : Option Addr) (xs : List Ln) (cap : Nat) (hcap : xs.length ≤ cap ∧ cap ≤ maxLen) (hin : LnIn xs) (acc : Int) (w : World) (h : LnsAt w a xs) :
    Calls Try.prog 3 #[.slice a xs.length cap, .int .i64 acc] w fun e w' => e = .returned (.bool true) ∧ Below w.heap.size w w' := by
  have HF := Lib.hid h; clear h
  have HCp := Lib.hid hcap; clear hcap
  go_enter Try.func3, Try.ntmps3
  go_wp2_with fail
  refine (accounts_ok _).mono ?_
  rintro e w1 ⟨g, m, u, rfl, hc, hu, hd⟩
  have HC := Lib.hid hc; clear hc
  have HU := Lib.hid hu; clear hu
  replace HF := Lib.hid (HF.out.below hd)
  have HB := Lib.hid hd; clear hd
  go_wp2_with fail
  refine (even_ok a xs cap HCp.out w1 HF.out).mono ?_
  rintro e w2 ⟨ve, rfl, he, hd⟩
  obtain ⟨ea, ec, rfl, hec, hea⟩ := he.at'
  have HEv := Lib.hid (show LsV w2 (.slice ea (evenL xs).length ec) from ⟨ea, evenL xs, ec, rfl, hec, even_in xs, hea⟩); clear he hec hea
  have HF2 := Lib.hid (show LsV w2 (.slice a xs.length cap) from ⟨a, xs, cap, rfl, HCp.out, hin, HF.out.below hd⟩)
  replace HC := Lib.hid (HC.out.below hd)
  replace HU := Lib.hid (HU.out.below hd)
  replace HB := Lib.hid (chain2 HB.out hd); clear hd HF HCp hin
  generalize (evenL xs).length = en at HEv ⊢
  generalize xs.length = xn at HF2 ⊢
  have hd := below_alloc (Below.refl w2.heap.size w2) (.cells #[.slice a xn cap, .slice ea en ec] 22)
  have HX := Lib.hid (heap_alloc_new w2 (.cells #[.slice a xn cap, .slice ea en ec] 22))
  replace HC := Lib.hid (HC.out.below hd)
  replace HU := Lib.hid (HU.out.below hd)
  replace HEv := Lib.hid (HEv.out.below hd)
  replace HF2 := Lib.hid (HF2.out.below hd)
  replace HB := Lib.hid (chain2 HB.out hd); clear hd
  go_wp2_with fail
  generalize w2.alloc (.cells #[.slice a xn cap, .slice ea en ec] 22) = w3 at HC HU HEv HF2 HB HX ⊢
  generalize w2.heap.size = bv at HX ⊢
  go_loopw [30] (fun i wr => ∃ j : Nat, j ≤ 2 ∧ i = .int .i64 (j : Int) ∧ Below w3.heap.size w3 wr) (fun i _ => 2 - (RowKit.intOf i).toNat)
  case atStart => exact ⟨0, Nat.zero_le _, rfl, Below.refl _ _⟩
  case round =>
    obtain ⟨j, hj, rfl, h2⟩ := hrel
    have HD := Lib.hid h2; clear h2
    by_cases hlt : j < 2
    · have e3 : wrap64 ((j : Int) + 1) = ((j + 1 : Nat) : Int) := by unfold wrap64; omega
      obtain ⟨vv, hk, hls⟩ := two_at (blk_below HX.out HD.out) (HF2.out.below HD.out) (HEv.out.below HD.out) j hlt
      have hq1 : ((j : Int) < 2) = True := eq_true (by omega)
      have hq3 : (j < 2) = True := eq_true hlt
      have hq2 : decide ((j : Int) < 2) = true := decide_eq_true (by omega)
      obtain ⟨la, ls, lc, rfl, hlc, hli, hla⟩ := hls
      have HLs := Lib.hid (And.intro hlc (And.intro hli hla)); clear hlc hli hla
      go_wp2_with fail
      clear hk hq1 hq2 hq3
      refine (lines_ok la ls lc HLs.out.1 wr HLs.out.2.2).mono ?_
      rintro e w5 ⟨va, vb, rfl, hp, hm, hd⟩
      replace HD := Lib.hid (chain2 HD.out hd); clear hd
      have HI := Lib.hid (show LnIn (ls.take 20) from fun p hp => HLs.out.2.1 p (List.mem_of_mem_take hp))
      have HLn := Lib.hid (show (ls.take 20).length ≤ 20 by rw [List.length_take]; omega)
      clear HLs
      generalize ls.take 20 = ys at hp hm HI HLn
      have HP := Lib.hid hp; clear hp
      have HM := Lib.hid hm; clear hm
      go_wp2_with fail
      refine (contra_ok ys (by have := HLn.out; omega) HI.out va w5 HP.out.s).mono ?_
      rintro e w6 ⟨q, rfl, hq, hd⟩
      have HQ := Lib.hid hq; clear hq
      replace HP := Lib.hid (HP.out.below hd)
      replace HM := Lib.hid (HM.out.below hd)
      replace HD := Lib.hid (chain2 HD.out hd); clear hd
      have HRc := Lib.hid (rcontra_ok ys (by have := HLn.out; omega) HI.out HM.out)
      have HCl := Lib.hid (con_len ys)
      generalize conV ys = cv at HQ HRc HCl ⊢
      obtain ⟨cs, ce⟩ := cv
      simp only at HQ HRc HCl ⊢
      go_wp2_with fail
      refine HRc.out.mono ?_
      rintro e w7 ⟨r, rfl, hr, hd⟩
      have HR := Lib.hid hr; clear hr HRc
      replace HP := Lib.hid (HP.out.below hd)
      replace HM := Lib.hid (HM.out.below hd)
      replace HQ := Lib.hid (HQ.out.below hd)
      replace HD := Lib.hid (chain2 HD.out hd); clear hd
      have HCx := Lib.hid (HC.out.below HD.out)
      go_wp2_with fail
      refine (check_ok ys (by have := HLn.out; omega) HI.out va HP.out.s HCx.out five_J).mono ?_
      rintro e w8 ⟨rfl, hd⟩
      replace HP := Lib.hid (HP.out.below hd)
      replace HM := Lib.hid (HM.out.below hd)
      replace HQ := Lib.hid (HQ.out.below hd)
      replace HR := Lib.hid (HR.out.below hd)
      replace HD := Lib.hid (chain2 HD.out hd); clear hd HCx
      have HRk := Lib.hid (rcheck_ok ys (by have := HLn.out; omega) HI.out HM.out (HU.out.below HD.out))
      generalize chkV ys = ck at HRk ⊢
      go_wp2_with fail
      refine HRk.out.mono ?_
      rintro e w9 ⟨rfl, hd⟩
      replace HP := Lib.hid (HP.out.below hd)
      replace HM := Lib.hid (HM.out.below hd)
      replace HQ := Lib.hid (HQ.out.below hd)
      replace HR := Lib.hid (HR.out.below hd)
      replace HD := Lib.hid (chain2 HD.out hd); clear hd HRk
      go_wp2_with fail
      refine (same_ok cs cs (by have := HCl.out; have := HLn.out; omega) HQ.out HR.out).mono ?_
      rintro e w10 ⟨rfl, hd⟩
      rw [show decide (cs = cs) = true from decide_eq_true rfl]
      replace hd := hd.below
      replace HP := Lib.hid (HP.out.below hd)
      replace HM := Lib.hid (HM.out.below hd)
      replace HD := Lib.hid (chain2 HD.out hd); clear hd HQ HR
      go_wp2_with fail
      refine (check_nil va w10 (by obtain ⟨x, y, h⟩ := HP.out.form; exact ⟨x, _, y, h⟩)).mono ?_
      rintro e w11 ⟨rfl, hd⟩
      replace HP := Lib.hid (HP.out.below hd)
      replace HM := Lib.hid (HM.out.below hd)
      replace HD := Lib.hid (chain2 HD.out hd); clear hd
      have HY := Lib.hid (heap_alloc_new w11 (.cells #[.int .i64 acc, .int .i64 1, .int .i64 5] 3))
      have hd := below_alloc (Below.refl w11.heap.size w11) (.cells #[.int .i64 acc, .int .i64 1, .int .i64 5] 3)
      replace HP := Lib.hid (HP.out.below hd)
      replace HM := Lib.hid (HM.out.below hd)
      replace HD := Lib.hid (chain2 HD.out hd); clear hd
      go_wp2_with fail
      generalize w11.alloc (.cells #[.int .i64 acc, .int .i64 1, .int .i64 5] 3) = w12 at HY HP HM HD ⊢
      generalize w11.heap.size = b4 at HY ⊢
      go_loopw [75] (fun i wx => ∃ q : Nat, q ≤ 3 ∧ i = .int .i64 (q : Int) ∧ Below w12.heap.size w12 wx) (fun i _ => 3 - (RowKit.intOf i).toNat)
      case atStart => exact ⟨0, Nat.zero_le _, rfl, Below.refl _ _⟩
      case round =>
        clear e3
        obtain ⟨q, hq, rfl, h2⟩ := hrel
        have HG := Lib.hid h2; clear h2
        by_cases hlt2 : q < 3
        · have e3 : wrap64 ((q : Int) + 1) = ((q + 1 : Nat) : Int) := by unfold wrap64; omega
          obtain ⟨kk, hk⟩ := three_at (blk_below HY.out HG.out) q hlt2
          have hq1 : ((q : Int) < 3) = True := eq_true (by omega)
          have hq3 : (q < 3) = True := eq_true hlt2
          have hq2 : decide ((q : Int) < 3) = true := decide_eq_true (by omega)
          go_wp2_with fail
          clear hk hq1 hq2 hq3
          refine (on_ok ys (by have := HLn.out; omega) HI.out kk va wr (HP.out.below HG.out).s).mono ?_
          rintro e w13 ⟨rfl, hd⟩
          replace HG := Lib.hid (chain2 HG.out hd); clear hd
          have HOk := Lib.hid (ron_ok ys (by have := HLn.out; omega) HI.out kk (HM.out.below HG.out))
          generalize totV (onS ys kk) = T at HOk ⊢
          obtain ⟨T1, T2⟩ := T
          simp only at HOk ⊢
          go_wp2_with fail
          refine HOk.out.mono ?_
          rintro e w14 ⟨rfl, hd⟩
          replace HG := Lib.hid (chain2 HG.out hd); clear hd HOk
          go_wp2_with fail
          go_roundw
          case rel => exact ⟨q + 1, hlt2, by first | rw [e3] | rfl, HG.out⟩
          case measure => (first | rw [e3] | rw [show ((q : Int) + 1) = ((q + 1 : Nat) : Int) from rfl]); simp only [RowKit.intOf, Int.toNat_natCast]; exact Nat.sub_lt_sub_left hlt2 (Nat.lt_succ_self q)
        · obtain rfl : q = 3 := Nat.le_antisymm hq (Nat.le_of_not_lt hlt2)
          have e3 : wrap64 ((j : Int) + 1) = ((j + 1 : Nat) : Int) := by unfold wrap64; omega
          replace HP := Lib.hid (HP.out.below HG.out)
          replace HM := Lib.hid (HM.out.below HG.out)
          replace HD := Lib.hid (chain2 HD.out HG.out); clear HG hlt2 hq
          go_wp2_with fail
          refine (same_ok ys ys (by have := HLn.out; omega) HP.out HM.out).mono ?_
          rintro e w15 ⟨rfl, hd⟩
          rw [show decide (ys = ys) = true from decide_eq_true rfl]
          replace hd := hd.below
          replace HD := Lib.hid (chain2 HD.out hd); clear hd HP HM
          go_wp2_with fail
          go_roundw
          case rel => exact ⟨j + 1, hlt, by first | rw [e3] | rfl, HD.out⟩
          case measure => (first | rw [e3] | rw [show ((j : Int) + 1) = ((j + 1 : Nat) : Int) from rfl]); simp only [RowKit.intOf, Int.toNat_natCast]; exact Nat.sub_lt_sub_left hlt (Nat.lt_succ_self j)
    · obtain rfl : j = 2 := Nat.le_antisymm hj (Nat.le_of_not_lt hlt)
      replace HB := Lib.hid (chain2 HB.out HD.out)
      clear HD hlt hj
      go_wp2_with fail
      refine (wakes_ok _).mono ?_
      rintro e w8 ⟨rfl, hd⟩
      replace HB := Lib.hid (chain2 HB.out hd); clear hd
      go_wp2
      go_ret
      exact ⟨rfl, HB.out⟩
theorem postChecks_law (a0 : Option Addr) (len0 cap0 : Nat) (a1 : Int) (W : World) (w0 : RowIn W [.int .i64, .int .i64] a0 len0) (y0 : len0 ≤ cap0 ∧ cap0 ≤ maxLen) (w1 : (Lit.int .i64 a1).wf = true) :
    Calls Try.prog 3 #[.slice a0 len0 cap0, .int .i64 a1] W fun e w' => e = .returned (.bool true) ∧ Below W.heap.size W w' := by
  obtain ⟨xs, rfl, hi, h⟩ := lns_of w0
  exact postChecks_walk a0 xs cap0 y0 hi a1 W h
end Go.Proofs.Ytkmbjfgdjoanjaa
