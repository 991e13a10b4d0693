/- PostOrder: in whatever order its lines come, a posting may be, or not, for the same reason, and has on each account the same. No conditions beyond the form's own reach. -/
import Derived.Test.YtkmbjfgdjoanjaaXPostH
namespace Go.Proofs.Ytkmbjfgdjoanjaa
open Go.RowKit Go.Lib Go.Proofs.Ytkmbjfgdjoanjaa.P Go.Proofs.YtkmbjfgdjoanjaaW.PrintWords Go.Proofs.YtkmbjfgdjoanjaaW.PrintLast Go.Proofs.YtkmbjfgdjoanjaaW.PrintMore
set_option linter.unusedVariables false
set_option linter.unusedSimpArgs false
--@tables
theorem sum_perm {l m : List Int} (h : l.Perm m) : l.sum = m.sum := by
  induction h with
  | nil => rfl
  | cons x _ ih => rw [List.sum_cons, List.sum_cons, ih]
  | swap x y l => rw [List.sum_cons, List.sum_cons, List.sum_cons, List.sum_cons]; omega
  | trans _ _ h1 h2 => exact h1.trans h2
theorem onS_perm {l m : List Ln} (h : l.Perm m) (k : Int) : onS l k = onS m k := sum_perm ((h.filter _).map _)
theorem allS_perm {l m : List Ln} (h : l.Perm m) : allS l = allS m := sum_perm (h.map _)
theorem all_perm {l m : List Ln} (h : l.Perm m) (p : Ln → Bool) : l.all p = m.all p := by
  rw [Bool.eq_iff_iff, List.all_eq_true, List.all_eq_true]
  exact ⟨fun H x hx => H x (h.mem_iff.2 hx), fun H x hx => H x (h.mem_iff.1 hx)⟩
theorem chk_perm {l m : List Ln} (h : l.Perm m) : chkV l = chkV m := by
  unfold chkV
  rw [h.length_eq, all_perm h, all_perm h, allS_perm h]
/-- What the law makes of the lines: turned round. -/
def rotL (xs : List Ln) (t : Nat) : List Ln := (List.range xs.length).map (fun i => xs.getD ((i + t) % xs.length) (0, 0))
theorem rot_eq (xs : List Ln) (t : Nat) : rotL xs t = xs.drop (t % xs.length) ++ xs.take (t % xs.length) := by
  by_cases h0 : xs = []
  · subst h0; simp [rotL]
  have hn : 0 < xs.length := List.length_pos_iff.2 h0
  have ht : t % xs.length < xs.length := Nat.mod_lt _ hn
  apply List.ext_getElem
  · unfold rotL
    rw [List.length_map, List.length_range, List.length_append, List.length_drop, List.length_take]; omega
  · intro i h1 h2
    unfold rotL at h1 ⊢
    rw [List.length_map, List.length_range] at h1
    rw [List.getElem_map, List.getElem_range]
    have e : (i + t) % xs.length = (i + t % xs.length) % xs.length := by rw [Nat.add_mod, Nat.add_mod i (t % xs.length), Nat.mod_mod]
    rw [e]
    suffices H : ∀ q (hq : q < xs.length) (h : i < (xs.drop q ++ xs.take q).length), xs.getD ((i + q) % xs.length) (0, 0) = (xs.drop q ++ xs.take q)[i] from H _ ht h2
    clear e h2 ht
    intro q ht h2
    by_cases hc : i + q < xs.length
    · rw [Nat.mod_eq_of_lt hc, List.getElem_append_left (by rw [List.length_drop]; omega), List.getElem_drop, List.getD_eq_getElem?_getD, List.getElem?_eq_getElem hc]
      simp [Nat.add_comm]
    · have e2 : (i + q) % xs.length = i + q - xs.length := by rw [Nat.mod_eq_sub_mod (by omega), Nat.mod_eq_of_lt (by omega)]
      rw [e2, List.getElem_append_right (by rw [List.length_drop]; omega), List.getElem_take, List.getD_eq_getElem?_getD, List.getElem?_eq_getElem (by omega)]
      simp only [Option.getD_some, List.length_drop]
      congr 1
      omega
theorem rot_perm (xs : List Ln) (t : Nat) : (rotL xs t).Perm xs := by
  rw [rot_eq]
  exact (List.perm_append_comm).trans (by rw [List.take_append_drop])
theorem rot_len (xs : List Ln) (t : Nat) : (rotL xs t).length = xs.length := by simp [rotL]
theorem rot_take (xs : List Ln) (t i : Nat) (h : i < xs.length) : (rotL xs t).take (i + 1) = (rotL xs t).take i ++ [xs.getD ((i + t) % xs.length) (0, 0)] := by
  rw [List.take_succ_eq_append_getElem (by rw [rot_len]; exact h)]
  congr 2
  unfold rotL
  rw [List.getElem_map, List.getElem_range]
theorem LnIn.perm {l m : List Ln} (h : l.Perm m) (hi : LnIn m) : LnIn l := fun p hp => hi p (h.mem_iff.1 hp)
theorem four_at {w : World} {b T : Nat} {v : Value} (h : w.heap[b]? = some (.cells #[v, .int .i64 1, .int .i64 2, .int .i64 3] T (0, 0))) (j : Nat) (hj : j < 4) : ∃ x, w.cell? ⟨b, j, none⟩ = some x ∧ (x = v ∨ ∃ k : Int, x = .int .i64 k) := by
  match j, hj with
  | 0, _ => exact ⟨v, by unfold World.cell?; rw [h]; rfl, .inl rfl⟩
  | 1, _ => exact ⟨.int .i64 1, by unfold World.cell?; rw [h]; rfl, .inr ⟨_, rfl⟩⟩
  | 2, _ => exact ⟨.int .i64 2, by unfold World.cell?; rw [h]; rfl, .inr ⟨_, rfl⟩⟩
  | 3, _ => exact ⟨.int .i64 3, by unfold World.cell?; rw [h]; rfl, .inr ⟨_, rfl⟩⟩
set_option maxHeartbeats 16000000 in
set_option maxRecDepth 20000 in
theorem postOrder_walk (a : Option Addr) (xs : List Ln) (cap : Nat) (hcap : xs.length ≤ cap ∧ cap ≤ maxLen) (hin : LnIn xs) (t : Nat) (ht : t < 256) (acc : Int) (w : World) (h : LnsAt w a xs) :
    Calls Try.prog 5 #[.slice a xs.length cap, .int .u8 (t : Int), .int .i64 acc] w fun e w' => e = .returned (.bool true) ∧ Below w.heap.size w w' := by
  have HF := Lib.hid h; clear h
  obtain ⟨N, hN, hN1, hN2, hN3, hN4⟩ : ∃ N : Nat, (if 9 < (xs.length : Int) then 9 else (xs.length : Int)) = (N : Int) ∧ N ≤ xs.length ∧ N ≤ 9 ∧ N ≤ cap ∧ min 9 xs.length = N := ⟨min 9 xs.length, by split <;> omega, by omega, by omega, by omega, rfl⟩
  have c1 : (0 ≤ (N : Int)) = True := eq_true (by omega)
  have c2 : ((N : Int) ≤ (cap : Int)) = True := eq_true (by omega)
  have c3 : (N ≤ cap) = True := eq_true hN3
  have c4 : decide (N ≤ cap) = true := decide_eq_true hN3
  have hNm : min (xs.length : Int) 9 = (N : Int) := by rw [← hN]; split <;> omega
  have HN := Lib.hid (And.intro (And.intro hN1 hN2) (And.intro hN3 hcap.2)); clear hN1 hN2 hN3 hN4 hcap
  have HT := Lib.hid ht; clear ht
  go_enter Try.func5, Try.ntmps5
  go_wp2_with fail
  refine (accounts_ok _).mono ?_
  rintro e w1 ⟨g, m, u, rfl, hc, _, hd⟩
  have HC := Lib.hid hc; clear hc
  replace HF := Lib.hid (HF.out.below hd)
  have HB := Lib.hid hd; clear hd
  go_wp2_with fail
  clear hN hNm c1 c2 c3 c4
  obtain ⟨ys, hys⟩ : ∃ ys, ys = xs.take N := ⟨_, rfl⟩
  have hyl : ys.length = N := by rw [hys, List.length_take]; exact Nat.min_eq_left HN.out.1.1
  have HI := Lib.hid (show LnIn ys from fun p hp => hin p (by rw [hys] at hp; exact List.mem_of_mem_take hp))
  have HY := Lib.hid (show LnsAt w1 a ys from fun i hi => by
    have hi2 : i < xs.length := by have := HN.out.1.1; omega
    obtain ⟨g, off, ha, k0, k1⟩ := HF.out i hi2
    have : ys[i] = xs[i] := by
      subst hys
      exact List.getElem_take
    rw [this]
    exact ⟨g, off, ha, k0, k1⟩)
  clear hin hys HF
  have HYl := Lib.hid (show N = ys.length from hyl.symm); clear hyl
  have HNb := Lib.hid (show ys.length ≤ cap ∧ cap ≤ maxLen ∧ ys.length ≤ 9 by rw [← HYl.out]; exact ⟨HN.out.2.1, HN.out.2.2, HN.out.1.2⟩)
  rw [HYl.out]
  clear HN
  go_loopw [9, 32] (fun o i wr => ∃ j : Nat, j ≤ ys.length ∧ i = .int .i64 (j : Int) ∧ LRow wr 52 w1.heap.size o ((rotL ys t).take j) ∧ Below w1.heap.size w1 wr) (fun _ i _ => ys.length - (RowKit.intOf i).toNat)
  case atStart => exact ⟨0, Nat.zero_le _, rfl, World.ownsRow_nil _ _ _ _, Below.refl _ _⟩
  case round =>
    obtain ⟨j, hj, rfl, h1, h2⟩ := hrel
    have HO := Lib.hid h1; clear h1
    have HD := Lib.hid h2; clear h2
    have HMl := Lib.hid (show ((rotL ys t).take j).length = j by rw [List.length_take, rot_len]; exact Nat.min_eq_left hj)
    obtain ⟨oa, oc, rfl⟩ := HO.out.form
    rw [HMl.out] at HO ⊢
    by_cases hlt : j < ys.length
    · obtain ⟨q, hq⟩ : ∃ q, (j + t) % ys.length = q := ⟨_, rfl⟩
      have hql : q < ys.length := by rw [← hq]; exact Nat.mod_lt _ (by omega)
      obtain ⟨gp, off, rfl, k0, k1⟩ := (HY.out.below HD.out) q hql
      have hmap := rot_take ys t j hlt
      rw [hq, List.getD_eq_getElem?_getD, List.getElem?_eq_getElem hql] at hmap
      have HMap := Lib.hid hmap; clear hmap
      simp only [Option.getD_some] at HMap
      generalize ys[q] = p at k0 k1 HMap
      obtain ⟨k, b⟩ := p
      simp only at k0 k1
      have HNb2 := HNb.out.2.2
      have HT2 := HT.out
      have e3 : wrap64 ((j : Int) + 1) = ((j + 1 : Nat) : Int) := wrap_succP j (by omega)
      have w1' : wrap64 (t : Int) = (t : Int) := by clear hq; unfold wrap64; omega
      have w2' : wrap64 ((j : Int) + (t : Int)) = (j : Int) + (t : Int) := by clear hq; unfold wrap64; omega
      have w3' : wrap64 (q : Int) = (q : Int) := by clear hq; unfold wrap64; omega
      have nz1 : ((ys.length : Int) == 0) = false := by clear hq; simp only [beq_eq_false_iff_ne, ne_eq]; omega
      have nz2 : ¬ ((ys.length : Int) = 0) := by clear hq; omega
      have nz3 : (ys.length = 0) = False := eq_false (by clear hq; omega)
      have nz5 : (ys = []) = False := eq_false (by clear hq; intro e; rw [e] at hlt; exact absurd hlt (Nat.not_lt_zero _))
      have hq1 : ((0 : Int) ≤ (q : Int)) = True := eq_true (by clear hq; omega)
      have hq2 : ((q : Int) < (ys.length : Int)) = True := eq_true (by clear hq; omega)
      have hq3 : (q < ys.length) = True := eq_true hql
      have hr1 : Int.tmod ((j : Int) + (t : Int)) (ys.length : Int) = (q : Int) := by rw [Int.tmod_eq_emod_of_nonneg (by clear hq; omega), ← hq]; simp
      have hr2 : ((j : Int) + (t : Int)) % (ys.length : Int) = (q : Int) := by rw [← hq]; simp
      clear hq hql HT2 HNb2
      have HN2 := Lib.hid (heap_alloc_new wr (.cells #[.int .i64 k, .int .i64 b] 52))
      have ha := below_alloc (Below.refl wr.heap.size wr) (.cells #[.int .i64 k, .int .i64 b] 52)
      replace HO := Lib.hid (HO.out.below ha)
      replace HD := Lib.hid (chain2 HD.out ha); clear ha
      obtain ⟨ax, cx, w4, hr, ho2, hgr⟩ := l_addN Try.underlying22 lineW_info 22 w1.heap.size _ _ j HMl.out _ HO.out (by have := HNb.out; omega) (k, b) wr.heap.size HN2.out HD.out.size
      have HRun := Lib.hid hr; clear hr
      go_wp2_with (at_builtin; refine wpList_append_run rfl _ _ 22 rfl _ _ rfl rfl HRun.out ?_)
      clear HRun k0 k1 hr1 hr2
      replace HD := Lib.hid (pw_below_grown HD.out _ HD.out.size hgr (fun k hk => (World.ownsRow.lt HO.out k hk).1))
      replace HO := Lib.hid ho2; clear ho2 hgr
      go_roundw
      case rel => exact ⟨j + 1, hlt, by first | rw [e3] | rfl, by rw [HMap.out]; exact HO.out, HD.out⟩
      case measure => (first | rw [e3] | rw [show ((j : Int) + 1) = ((j + 1 : Nat) : Int) from rfl]); simp only [RowKit.intOf, Int.toNat_natCast]; exact Nat.sub_lt_sub_left hlt (Nat.lt_succ_self j)
    · obtain rfl : j = ys.length := Nat.le_antisymm hj (Nat.le_of_not_lt hlt)
      rw [List.take_of_length_le (by rw [rot_len]; exact Nat.le_refl _)] at HO
      have HPm := Lib.hid (rot_perm ys t)
      have HRl := Lib.hid (rot_len ys t)
      generalize rotL ys t = zs at HO HPm HRl
      clear HMl
      replace HY := Lib.hid (HY.out.below HD.out)
      replace HC := Lib.hid (HC.out.below HD.out)
      replace HB := Lib.hid (chain2 HB.out HD.out); clear HD hlt hj
      go_wp2_with fail
      refine (lines_ok a ys cap ⟨HNb.out.1, HNb.out.2.1⟩ wr HY.out).mono ?_
      rintro e w5 ⟨va, vb, rfl, hp, _, hd⟩
      rw [List.take_of_length_le (by have := HNb.out; omega)] at hp
      have HP := Lib.hid hp; clear hp
      replace HO := Lib.hid (HO.out.below hd)
      replace HC := Lib.hid (HC.out.below hd)
      replace HB := Lib.hid (chain2 HB.out hd); clear hd HY
      obtain ⟨za, zc, hz, hzc, hza⟩ := HO.out.at'
      rw [HRl.out] at hz
      simp only [Value.slice.injEq, true_and] at hz
      obtain ⟨rfl, rfl⟩ := hz
      have HZ := Lib.hid (And.intro hzc hza); clear hzc hza
      have HLo := Lib.hid (lines_ok oa zs oc HZ.out.1 w5 HZ.out.2)
      rw [HRl.out] at HLo
      go_wp2_with fail
      refine HLo.out.mono ?_
      rintro e w6 ⟨vc, vd, rfl, hp, _, hd⟩
      rw [List.take_of_length_le (by rw [HRl.out]; have := HNb.out; omega)] at hp
      have HQ := Lib.hid hp; clear hp
      replace HP := Lib.hid (HP.out.below hd)
      replace HC := Lib.hid (HC.out.below hd)
      replace HB := Lib.hid (chain2 HB.out hd); clear hd HO HZ HLo
      have HX := Lib.hid (heap_alloc_new w6 (.cells #[.int .i64 acc, .int .i64 1, .int .i64 2, .int .i64 3] 3))
      have hd := below_alloc (Below.refl w6.heap.size w6) (.cells #[.int .i64 acc, .int .i64 1, .int .i64 2, .int .i64 3] 3)
      replace HP := Lib.hid (HP.out.below hd)
      replace HQ := Lib.hid (HQ.out.below hd)
      replace HC := Lib.hid (HC.out.below hd)
      replace HB := Lib.hid (chain2 HB.out hd); clear hd
      go_wp2_with fail
      generalize w6.alloc (.cells #[.int .i64 acc, .int .i64 1, .int .i64 2, .int .i64 3] 3) = w7 at HX HP HQ HC HB ⊢
      generalize w6.heap.size = b4 at HX ⊢
      go_loopw [62] (fun i wx => ∃ j : Nat, j ≤ 4 ∧ i = .int .i64 (j : Int) ∧ Below w7.heap.size w7 wx) (fun i _ => 4 - (RowKit.intOf i).toNat)
      case atStart => exact ⟨0, Nat.zero_le _, rfl, Below.refl _ _⟩
      case round =>
        obtain ⟨j, hj, rfl, h2⟩ := hrel
        have HD := Lib.hid h2; clear h2
        by_cases hlt : j < 4
        · have e3 : wrap64 ((j : Int) + 1) = ((j + 1 : Nat) : Int) := by unfold wrap64; omega
          obtain ⟨kk, hk⟩ : ∃ kk : Int, wr.cell? ⟨b4, j, none⟩ = some (.int .i64 kk) := by
            obtain ⟨x, hx, hy⟩ := four_at (blk_below HX.out HD.out) j hlt
            rcases hy with rfl | ⟨k, rfl⟩
            · exact ⟨acc, hx⟩
            · exact ⟨k, hx⟩
          have hq1 : ((j : Int) < 4) = True := eq_true (by omega)
          have hq3 : (j < 4) = True := eq_true hlt
          have hq2 : decide ((j : Int) < 4) = true := decide_eq_true (by omega)
          go_wp2_with fail
          clear hk hq1 hq3 hq2
          refine (on_ok ys (by have := HNb.out; omega) HI.out kk va wr (HP.out.below HD.out).s).mono ?_
          rintro e w8 ⟨rfl, hd⟩
          replace HD := Lib.hid (chain2 HD.out hd); clear hd
          have HOk := Lib.hid (on_ok zs (by rw [HRl.out]; have := HNb.out; omega) (HI.out.perm HPm.out) kk vc w8 (HQ.out.below HD.out).s)
          rw [onS_perm HPm.out kk] at HOk
          generalize totV (onS ys kk) = T at HOk ⊢
          obtain ⟨T1, T2⟩ := T
          simp only at HOk ⊢
          go_wp2_with fail
          refine HOk.out.mono ?_
          rintro e w9 ⟨rfl, hd⟩
          replace HD := Lib.hid (chain2 HD.out hd); clear hd HOk
          go_wp2_with fail
          go_roundw
          case rel => exact ⟨j + 1, hlt, by first | rw [e3] | rfl, HD.out⟩
          case measure => (first | rw [e3] | rw [show ((j : Int) + 1) = ((j + 1 : Nat) : Int) from rfl]); simp only [RowKit.intOf, Int.toNat_natCast]; exact Nat.sub_lt_sub_left hlt (Nat.lt_succ_self j)
        · obtain rfl : j = 4 := Nat.le_antisymm hj (Nat.le_of_not_lt hlt)
          replace HP := Lib.hid (HP.out.below HD.out)
          replace HQ := Lib.hid (HQ.out.below HD.out)
          replace HC := Lib.hid (HC.out.below HD.out)
          replace HB := Lib.hid (chain2 HB.out HD.out); clear HD hlt hj
          go_wp2_with fail
          refine (wakes_ok _).mono ?_
          rintro e w8 ⟨rfl, hd⟩
          replace HP := Lib.hid (HP.out.below hd)
          replace HQ := Lib.hid (HQ.out.below hd)
          replace HC := Lib.hid (HC.out.below hd)
          replace HB := Lib.hid (chain2 HB.out hd); clear hd
          go_wp2_with fail
          refine (check_ok ys (by have := HNb.out; omega) HI.out va HP.out.s HC.out five_J).mono ?_
          rintro e w9 ⟨rfl, hd⟩
          replace HQ := Lib.hid (HQ.out.below hd)
          replace HC := Lib.hid (HC.out.below hd)
          replace HB := Lib.hid (chain2 HB.out hd); clear hd
          have HCk := Lib.hid (check_ok zs (by rw [HRl.out]; have := HNb.out; omega) (HI.out.perm HPm.out) vc HQ.out.s HC.out five_J)
          rw [chk_perm HPm.out] at HCk
          generalize chkV ys = c at HCk ⊢
          go_wp2_with fail
          refine HCk.out.mono ?_
          rintro e w10 ⟨rfl, hd⟩
          replace HB := Lib.hid (chain2 HB.out hd); clear hd HCk
          go_wp2_with fail
          go_ret
          exact ⟨rfl, HB.out⟩
theorem postOrder_law (a0 : Option Addr) (len0 cap0 : Nat) (a1 a2 : Int) (W : World) (w0 : RowIn W [.int .i64, .int .i64] a0 len0) (y0 : len0 ≤ cap0 ∧ cap0 ≤ maxLen) (w1 : (Lit.int .u8 a1).wf = true) (w2 : (Lit.int .i64 a2).wf = true) :
    Calls Try.prog 5 #[.slice a0 len0 cap0, .int .u8 a1, .int .i64 a2] W fun e w' => e = .returned (.bool true) ∧ Below W.heap.size W w' := by
  obtain ⟨xs, rfl, hi, h⟩ := lns_of w0
  obtain ⟨t, rfl, ht⟩ := wf_u8 w1
  exact postOrder_walk a0 xs cap0 y0 hi t ht a2 W h
end Go.Proofs.Ytkmbjfgdjoanjaa
