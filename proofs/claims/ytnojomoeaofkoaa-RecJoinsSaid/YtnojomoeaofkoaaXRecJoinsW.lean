/- RecJoins: the bytes of two lists of records, one behind the other, are those of both together: the walk. No conditions beyond the form's own reach. -/
import Derived.Test.YtnojomoeaofkoaaXRecFramesW
import Derived.Deep.Upon
namespace Go.Proofs.Ytnojomoeaofkoaa
open Go.RowKit Go.Lib Go.Proofs.Ytnojomoeaofkoaa.P Go.Proofs.Ytnojomoeaofkoaa.BeS Go.Proofs.Ytnojomoeaofkoaa.PoS Go.Proofs.YtnojomoeaofkoaaW.PrintWords Go.Proofs.YtnojomoeaofkoaaW.PrintLast Go.Proofs.YtnojomoeaofkoaaW.PrintMore
set_option linter.unusedVariables false
set_option linter.unusedSimpArgs false
--@tables
theorem wpList_append_run {P : Program} {ops : Array Oper} {rest : List Oper} {o : Oper} {a : Act} {Q : Exit → Act → World → Prop} {w : World} (hgd : o.guard = none) (s x : Operand) (T : TypeId) (ho : o.op = .call { callee := .builtin .append, args := #[s, x], argTypes := #[T, T] })
    (v u : Value) (hs : a.eval s = v) (hx : a.eval x = u) {v' : Value} {w' : World} (hr : (Builtin.append_ #[T, T] o.type #[v, u]).run P w = .ok v' w') (hK : wpList P ops Q rest (a.put o.dst v') w') : wpList P ops Q (o :: rest) a w := by
  refine wpList_plain hgd fun K hK' => ?_
  unfold Oper.wp execOp
  simp only [ho, resolve, invoke, builtin, Sem.run_bind, Sem.run_pure, Result.andThen_ok, List.map_toArray, List.map_cons, List.map_nil, hs, hx, hr]
  exact hK' _ _ hK
theorem rc_one {rs : List Rc} : ∀ u ∈ rs.flatMap encR, u.oneCell' = true := by
  intro u hu
  obtain ⟨r, _, hr⟩ := List.mem_flatMap.mp hu
  exact encR_one r u hr
/-- 'append(a[:len(a):len(a)], b...)'. -/
theorem rc_join (ty : Nat) (va : Option Addr) (rs ms : List Rc) (vb : Value) (w : World) (hA : RowS encR w (.slice va rs.length rs.length) rs) (hB : RowS encR w vb ms) (h1 : rs.length ≤ 100) (h2 : ms.length ≤ 100) :
    ∃ v' w', (Builtin.append_ #[27, 27] ty #[.slice va rs.length rs.length, vb]).run Try.prog w = .ok v' w' ∧ RowS encR w' v' (rs ++ ms) ∧ Below w.heap.size w w' := by
  obtain ⟨i0, hi, hz0, hz1, hz2⟩ := info_parts info38
  by_cases hm : ms = []
  · subst hm
    rw [List.append_nil]
    have hsrc : Src Try.prog i0.size 27 vb 0 [] w := by
      rcases hB with ⟨rfl, _⟩ | ⟨g, off, cap, rfl, _⟩
      · exact Src.ofNil w Try.underlying27 0
      · exact Src.ofSlice w Try.underlying27 _ _ _ [] (by simp) (fun j u h => by simp at h) (fun u h => by simp at h)
    exact ⟨_, w, run_append_nothing w _ _ ty _ i0 Try.underlying27 hi va _ _ (Nat.le_refl _) vb hsrc, hA, Below.refl _ _⟩
  · rcases hB with ⟨_, h⟩ | ⟨g, off, cap, rfl, hb1, hb2, hb3, hb4⟩
    · exact absurd h hm
    have hnews : ∀ j u, (ms.flatMap encR)[j]? = some u → w.cell? ((⟨g, off, none⟩ : Addr).add j) = some u := fun j u h => by rw [Addr.add_lit]; exact hb4 j u h
    have hml : (ms.flatMap encR).length = ms.length * 2 := flat_len encR 2 encR_len ms
    have hpos : 0 < ms.length := List.length_pos_iff.mpr hm
    rcases hA with ⟨hv, rfl⟩ | ⟨g', off', cap', h3, h4, h5, h6, h7⟩
    · simp only [Value.slice.injEq] at hv
      obtain ⟨rfl, _⟩ := hv
      obtain ⟨v', w', hr, ho, hg, _⟩ := run_append_own w (P := Try.prog) w.heap.size 27 ty 38 i0 (.agg #[.int .u8 0, .string ByteArray.empty]) 2 24 Try.underlying27 hi hz0 hz1 hz2 rfl (by decide) (.slice none 0 0) 0 [] (World.ownsRow_nil _ _ _ _) ⟨g, off, none⟩ ms.length cap (ms.flatMap encR) hml hnews rc_one (by unfold maxLen; omega) (by omega) (Nat.le_refl _)
      refine ⟨v', w', hr, ?_, pw_below_grown (Below.refl _ _) _ (Nat.le_refl _) hg (fun k hk => by cases hk)⟩
      rw [List.nil_append]
      rw [Nat.zero_add, List.nil_append] at ho
      exact RowS.of_owns ho
    · simp only [Value.slice.injEq, true_and] at h3
      obtain ⟨rfl, rfl⟩ := h3
      obtain ⟨v', w', hr, ho, hg⟩ := run_append_arg_grows (P := Try.prog) w 27 ty 38 i0 (.agg #[.int .u8 0, .string ByteArray.empty]) 2 24 Try.underlying27 hi hz0 hz1 hz2 rfl (by decide) ⟨g', off', none⟩ rs.length rs.length (rs.flatMap encR) (flat_len encR 2 encR_len rs) (fun j u h => by rw [Addr.add_lit]; exact h7 j u h) ⟨g, off, none⟩ ms.length cap (ms.flatMap encR) hml hnews (by omega) (by unfold maxLen; omega) (by omega)
      refine ⟨v', w', hr, ?_, pw_below_grown (Below.refl _ _) _ (Nat.le_refl _) hg (fun k hk => by cases hk)⟩
      rw [← List.length_append, ← List.flatMap_append] at ho
      exact RowS.of_owns ho
theorem RowS.cut {w : World} {va : Option Addr} {rs : List Rc} {cap : Nat} (h : RowS encR w (.slice va rs.length cap) rs) : rs.length ≤ cap ∧ cap ≤ maxLen ∧ RowS encR w (.slice va rs.length rs.length) rs := by
  rcases h with ⟨h, rfl⟩ | ⟨g, off, cap', h1, h2, h3, h4⟩
  · simp only [Value.slice.injEq] at h
    obtain ⟨rfl, _, rfl⟩ := h
    exact ⟨Nat.le_refl _, Nat.zero_le _, .inl ⟨rfl, rfl⟩⟩
  · simp only [Value.slice.injEq, true_and] at h1
    obtain ⟨rfl, rfl⟩ := h1
    exact ⟨h2, h3, .inr ⟨g, off, rs.length, rfl, Nat.le_refl _, Nat.le_trans h2 h3, h4⟩⟩
theorem frameV_app (rs ms : List Rc) : ((frameV rs).2 = 0 ∧ (frameV ms).2 = 0 ∧ frameV (rs ++ ms) = ((frameV rs).1 ++ (frameV ms).1, 0)) ∨ (((frameV rs).2 = 2 ∨ (frameV rs).2 = 0 ∧ (frameV ms).2 = 2) ∧ frameV (rs ++ ms) = (⟨#[]⟩, 2)) := by
  unfold frameV
  rw [List.all_append]
  cases rs.all goodR <;> cases ms.all goodR
  · exact .inr ⟨.inl rfl, rfl⟩
  · exact .inr ⟨.inl rfl, rfl⟩
  · exact .inr ⟨.inr ⟨rfl, rfl⟩, rfl⟩
  · refine .inl ⟨rfl, rfl, ?_⟩
    show (str (frameL (rs ++ ms)), (0 : Int)) = (str (frameL rs) ++ str (frameL ms), 0)
    rw [str_append]
    unfold frameL
    rw [List.flatMap_append]
theorem frameV_size (rs : List Rc) (h1 : rs.length ≤ 100) (h2 : ∀ r ∈ rs, RcIn r) : (frameV rs).1.size ≤ 400700 := by
  have := frameL_len rs h2
  unfold frameV
  split
  · show (str (frameL rs)).size ≤ _; rw [str_size]; omega
  · exact Nat.zero_le _
set_option maxHeartbeats 8000000 in
set_option maxRecDepth 100000 in
theorem recJoins_walk (a : Option Addr) (rs0 : List Rc) (cap : Nat) (hcap : rs0.length ≤ cap ∧ cap ≤ maxLen) (b : Option Addr) (ms0 : List Rc) (capb : Nat) (hcapb : ms0.length ≤ capb ∧ capb ≤ maxLen) (w : World) (h : RsAt w a rs0) (h' : RsAt w b ms0) :
    Calls Try.prog 6 #[.slice a rs0.length cap, .slice b ms0.length capb] w fun e w' => e = .returned (.bool true) ∧ Below w.heap.size w w' := by
  have HF := Lib.hid h; clear h
  have HG := Lib.hid h'; clear h'
  have HC := Lib.hid hcap; clear hcap
  have HCb := Lib.hid hcapb; clear hcapb
  have hz := make_zero
  go_enter Try.func6, Try.ntmps6
  go_wp2_with fail
  refine (poly_Make.calls _).mono ?_
  rintro e w1 ⟨rfl, hb1⟩
  have Hb1 := Lib.hid hb1; clear hb1
  go_wp2_with (refine wpList_store_row rfl 25 _ _ rfl w1.heap.size (tabCells 256) rfl rfl 25 (tabCells 0) (heap_alloc_new w1 _) make_info (by rw [tabCells_size, tabCells_size]) (tabCells_one _) ?_)
  clear hz
  obtain ⟨hT, hB, hS⟩ := made_facts Hb1.out _ rfl
  generalize (w1.alloc (.cells (tabCells 0) 25)).setRow w1.heap.size (tabCells 256) = wx at hT hB ⊢
  have HT := Lib.hid hT; clear hT
  have HB := Lib.hid hB; clear hB
  generalize w1.heap.size = g at HT ⊢
  replace HF := Lib.hid (HF.out.below HB.out)
  replace HG := Lib.hid (HG.out.below HB.out)
  refine (records_ok a rs0 cap HC.out wx HF.out).mono ?_
  rintro e w2 ⟨va, vb, rfl, h1, h2, hd⟩
  have HA := Lib.hid (h1.s); clear h1 h2
  replace HT := Lib.hid (HT.out.below hd)
  replace HF := Lib.hid (HF.out.below hd)
  replace HG := Lib.hid (HG.out.below hd)
  replace HB := Lib.hid (chain2 HB.out hd)
  clear hd
  have HL := Lib.hid (recsR_len rs0)
  have HI := Lib.hid (recsR_in HF.out)
  clear HF HC
  generalize recsR rs0 = rs at HA HL HI
  go_wp2_with fail
  refine (records_ok b ms0 capb HCb.out w2 HG.out).mono ?_
  rintro e wx ⟨vb, vb', rfl, h1, h2, hd⟩
  have HM := Lib.hid (h1.s); clear h1 h2
  replace HT := Lib.hid (HT.out.below hd)
  replace HA := Lib.hid (HA.out.below hd)
  replace HG := Lib.hid (HG.out.below hd)
  replace HB := Lib.hid (chain2 HB.out hd)
  clear hd
  have HL2 := Lib.hid (recsR_len ms0)
  have HI2 := Lib.hid (recsR_in HG.out)
  clear HG HCb
  generalize recsR ms0 = ms at HM HL2 HI2
  go_wp2_with fail
  refine (rec_frame g rs (Nat.le_trans HL.out (by decide)) HI.out va wx HT.out HA.out).mono ?_
  rintro e wx ⟨rfl, hd⟩
  replace HA := Lib.hid (HA.out.below hd)
  replace HM := Lib.hid (HM.out.below hd)
  replace HT := Lib.hid (HT.out.below hd)
  replace HB := Lib.hid (chain2 HB.out hd)
  clear hd
  go_wp2_with fail
  refine (rec_frame g ms (Nat.le_trans HL2.out (by decide)) HI2.out vb wx HT.out HM.out).mono ?_
  rintro e wx ⟨rfl, hd⟩
  replace HA := Lib.hid (HA.out.below hd)
  replace HM := Lib.hid (HM.out.below hd)
  replace HT := Lib.hid (HT.out.below hd)
  replace HB := Lib.hid (chain2 HB.out hd)
  clear hd
  obtain ⟨va', vca, rfl, _⟩ := HA.out.len
  obtain ⟨hc1, hc2, hc3⟩ := HA.out.cut
  obtain ⟨v', w', hr, hrow, hd⟩ := rc_join 27 va' rs ms vb wx hc3 HM.out (Nat.le_trans HL.out (by decide)) (Nat.le_trans HL2.out (by decide))
  have HAll := Lib.hid hrow; clear hrow hc3
  have HD := Lib.hid hd; clear hd
  have HR := Lib.hid hr; clear hr
  have hc4 : ((rs.length : Int) ≤ (vca : Int)) = True := eq_true (by omega)
  have hc5 : (rs.length ≤ vca) = True := eq_true hc1
  clear hS
  go_wp2_with (at_builtin; refine wpList_append_run rfl _ _ 27 rfl _ _ rfl rfl HR.out ?_)
  clear HR HA HM hc1 hc2 hc4 hc5
  replace HT := Lib.hid (HT.out.below HD.out)
  replace HB := Lib.hid (chain2 HB.out HD.out)
  refine (rec_frame g (rs ++ ms) (by rw [List.length_append]; have := HL.out; have := HL2.out; omega) (fun r hr => (List.mem_append.mp hr).elim (HI.out r) (HI2.out r)) v' w' HT.out HAll.out).mono ?_
  rintro e w3 ⟨rfl, hd⟩
  replace HB := Lib.hid (chain2 HB.out hd)
  clear hd
  have HZ1 := Lib.hid (frameV_size rs (Nat.le_trans HL.out (by decide)) HI.out)
  have HZ2 := Lib.hid (frameV_size ms (Nat.le_trans HL2.out (by decide)) HI2.out)
  have hfa := frameV_app rs ms
  generalize frameV (rs ++ ms) = f3 at hfa ⊢
  generalize frameV rs = f1 at hfa HZ1 ⊢
  generalize frameV ms = f2 at hfa HZ2 ⊢
  obtain ⟨s1, e1⟩ := f1
  obtain ⟨s2, e2⟩ := f2
  simp only at hfa HZ1 HZ2
  clear HAll HD HL HL2 HI HI2 HT
  rcases hfa with ⟨rfl, rfl, rfl⟩ | ⟨h12, rfl⟩
  · have l1 : ¬ 9223372036854775807 < s1.size + s2.size := by have := HZ1.out; have := HZ2.out; omega
    have q : ((s1 ++ s2).toList == (s1 ++ s2).toList) = true := beq_self_eq_true _
    go_wp2_with fail
    refine (wakes_ok _).mono ?_
    rintro e w4 ⟨rfl, hd⟩
    replace HB := Lib.hid (chain2 HB.out hd)
    clear hd
    go_wp2
    go_ret
    exact ⟨rfl, HB.out⟩
  · rcases h12 with rfl | ⟨rfl, rfl⟩
    all_goals
      go_wp2_with fail
      refine (wakes_ok _).mono ?_
      rintro e w4 ⟨rfl, hd⟩
      replace HB := Lib.hid (chain2 HB.out hd)
      clear hd
      go_wp2
      go_ret
      exact ⟨rfl, HB.out⟩
theorem recJoins_law (a0 : Option Addr) (len0 cap0 : Nat) (a1 : Option Addr) (len1 cap1 : Nat) (W : World) (w0 : RowIn W [.int .u8, .str] a0 len0) (y0 : len0 ≤ cap0 ∧ cap0 ≤ maxLen) (w1 : RowIn W [.int .u8, .str] a1 len1) (y1 : len1 ≤ cap1 ∧ cap1 ≤ maxLen) :
    Calls Try.prog 6 #[.slice a0 len0 cap0, .slice a1 len1 cap1] W fun e w' => e = .returned (.bool true) ∧ Below W.heap.size W w' := by
  obtain ⟨rs, rfl, h⟩ := rs_of w0
  obtain ⟨ms, rfl, h'⟩ := rs_of w1
  exact recJoins_walk a0 rs cap0 y0 a1 ms cap1 y1 W h h'
end Go.Proofs.Ytnojomoeaofkoaa
