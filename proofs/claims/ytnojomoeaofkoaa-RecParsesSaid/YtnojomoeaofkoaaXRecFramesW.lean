/- RecFrames: the bytes of all records are the document's, or one may not be: the walk. No conditions beyond the form's own reach. -/
import Derived.Test.YtnojomoeaofkoaaXRecWakes
namespace Go.Proofs.Ytnojomoeaofkoaa
open Go.RowKit Go.Lib Go.Proofs.Ytnojomoeaofkoaa.P Go.Proofs.Ytnojomoeaofkoaa.BeS Go.Proofs.Ytnojomoeaofkoaa.PoS Go.Proofs.YtnojomoeaofkoaaW.PrintWords Go.Proofs.YtnojomoeaofkoaaW.PrintLast Go.Proofs.YtnojomoeaofkoaaW.PrintMore
set_option linter.unusedVariables false
set_option linter.unusedSimpArgs false
--@tables
theorem recsR_len (rs : List Rc) : (recsR rs).length ≤ 6 := by unfold recsR; rw [List.length_map, List.length_take]; omega
theorem recsR_in {w : World} {a : Option Addr} {rs : List Rc} (h : RsAt w a rs) : ∀ r ∈ recsR rs, RcIn r := by
  intro r hr
  unfold recsR at hr
  obtain ⟨x, hx, rfl⟩ := List.mem_map.mp hr
  obtain ⟨i, hi, rfl⟩ := List.mem_iff_getElem.mp (List.mem_of_mem_take hx)
  exact ofR_in (h i hi).1
theorem RowS.one {w : World} {g off cap : Nat} {rs : List Rc} (h : RowS encR w (.slice (some ⟨g, off, none⟩) rs.length cap) rs) (j : Nat) (hj : j < rs.length) : RowS encR w (.slice (some ⟨g, off + j * 2, none⟩) 1 (cap - j)) [rs[j]] := by
  rcases h with ⟨h, _⟩ | ⟨g', off', cap', h1, h2, h3, h4, h5⟩
  · cases h
  · simp only [Value.slice.injEq, Option.some.injEq, Addr.mk.injEq, true_and, and_true] at h1
    obtain ⟨⟨rfl, rfl⟩, rfl⟩ := h1
    refine .inr ⟨g, off + j * 2, cap - j, rfl, by simp only [List.length_singleton]; omega, by omega, h4, fun i u hu => ?_⟩
    rw [List.flatMap_cons, List.flatMap_nil, List.append_nil] at hu
    have hi : i < 2 := (List.getElem?_eq_some_iff.mp hu).1
    have := h5 (j * 2 + i) u (by rw [flat_get encR 2 encR_len rs j i hj hi]; exact hu)
    rwa [Nat.add_assoc]
theorem frameV_one (k : Nat) (b : ByteArray) : frameV [(k, b)] = if goodR (k, b) then (recB k b, 0) else (str [], 2) := by
  unfold frameV
  rw [List.all_cons, List.all_nil, Bool.and_true]
  cases goodR (k, b)
  · rfl
  · show (str (frameL [(k, b)]), (0 : Int)) = (recB k b, 0)
    rw [frameL_cons]
    show (recB k b ++ str [], (0 : Int)) = _
    rw [show str [] = ByteArray.empty from rfl, ByteArray.append_empty]
theorem size_bad (k : Nat) (b : ByteArray) (h : goodR (k, b) = false) : rec_Record_Size.f (k : Int) b = some 0 := by
  unfold rec_Record_Size.f
  rw [right_f, h]
  simp only [Option.bind_some]
  first | rfl | simp
set_option maxHeartbeats 8000000 in
set_option maxRecDepth 100000 in
theorem recFrames_walk (a : Option Addr) (rs : List Rc) (cap : Nat) (hcap : rs.length ≤ cap ∧ cap ≤ maxLen) (w : World) (h : RsAt w a rs) :
    Calls Try.prog 3 #[.slice a rs.length cap] w fun e w' => e = .returned (.bool true) ∧ Below w.heap.size w w' := by
  have HF := Lib.hid h; clear h
  have HC := Lib.hid hcap; clear hcap
  have hz := make_zero
  go_enter Try.func3, Try.ntmps3
  go_wp2_with fail
  refine (poly_Make.calls _).mono ?_
  rintro e w1 ⟨rfl, hb1⟩
  have Hb1 := Lib.hid hb1; clear hb1
  go_wp2_with (refine wpList_store_row rfl 25 _ _ rfl w1.heap.size (tabCells 256) rfl rfl 25 (tabCells 0) (heap_alloc_new w1 _) make_info (by rw [tabCells_size, tabCells_size]) (tabCells_one _) ?_)
  clear hz
  obtain ⟨hT, hB, hS⟩ := made_facts Hb1.out _ rfl
  generalize (w1.alloc (.cells (tabCells 0) 25)).setRow w1.heap.size (tabCells 256) = wx at hT hB ⊢
  have HT := Lib.hid hT; clear hT
  have HB := Lib.hid hB; clear hB
  generalize w1.heap.size = g at HT ⊢
  replace HF := Lib.hid (HF.out.below HB.out)
  refine (records_ok a rs cap HC.out wx HF.out).mono ?_
  rintro e w2 ⟨va, vb, rfl, h1, h2, hd⟩
  have HA := Lib.hid (h1.s); have HD := Lib.hid (h2.s); clear h1 h2
  replace HT := Lib.hid (HT.out.below hd)
  replace HB := Lib.hid (chain2 HB.out hd)
  clear hd
  have HL := Lib.hid (recsR_len rs)
  have HI := Lib.hid (recsR_in HF.out)
  clear HF HC
  generalize recsR rs = ms at HA HD HL HI
  go_wp2_with fail
  refine (rec_frame g ms (Nat.le_trans HL.out (by decide)) HI.out va w2 HT.out HA.out).mono ?_
  rintro e wx ⟨rfl, hd⟩
  replace HA := Lib.hid (HA.out.below hd)
  replace HD := Lib.hid (HD.out.below hd)
  replace HT := Lib.hid (HT.out.below hd)
  replace HB := Lib.hid (chain2 HB.out hd)
  clear hd
  go_wp2_with fail
  refine (ref_frame ms (Nat.le_trans HL.out (by decide)) HI.out vb wx HD.out).mono ?_
  rintro e wx ⟨rfl, hd⟩
  replace HA := Lib.hid (HA.out.below hd)
  replace HD := Lib.hid (HD.out.below hd)
  replace HT := Lib.hid (HT.out.below hd)
  replace HB := Lib.hid (chain2 HB.out hd)
  clear hd
  generalize frameV ms = fv
  obtain ⟨va', vca, rfl, _⟩ := HA.out.len
  go_wp2_with fail
  clear Hb1 hS
  go_loopw [34] (fun i wr => ∃ j : Nat, j ≤ ms.length ∧ i = .int .i64 (j : Int) ∧ RowS encR wr (.slice va' ms.length vca) ms ∧ RowS encR wr vb ms ∧ Below w.heap.size w wr) (fun i _ => ms.length - (RowKit.intOf i).toNat)
  case atStart => exact ⟨0, Nat.zero_le _, rfl, HA.out, HD.out, HB.out⟩
  case round =>
    clear HA HD HB HT
    obtain ⟨j, hj, rfl, h1, h2, h3⟩ := hrel
    have HA := Lib.hid h1; clear h1
    have HD := Lib.hid h2; clear h2
    have HB := Lib.hid h3; clear h3
    by_cases hlt : j < ms.length
    · obtain ⟨ga, off, cap, hv, k0, k1⟩ := row_at HA.out j hlt
      simp only [Value.slice.injEq, true_and] at hv
      obtain ⟨rfl, rfl⟩ := hv
      obtain ⟨gb, ofb, cbp, rfl, _, _⟩ := row_at HD.out j hlt
      have H1 := Lib.hid (HD.out.one j hlt)
      have e3 : wrap64 ((j : Int) + 1) = ((j + 1 : Nat) : Int) := wrap_succR j (Nat.lt_of_lt_of_le hlt (Nat.le_trans HL.out (by decide)))
      have HIn := Lib.hid (HI.out ms[j] (List.getElem_mem hlt))
      have HCb := Lib.hid (show ms.length ≤ cbp from by
        rcases HD.out with ⟨h, _⟩ | ⟨g', off', cap', h1, h2, _⟩
        · cases h
        · simp only [Value.slice.injEq] at h1; omega)
      generalize ms[j] = r at k0 k1 H1 HIn
      obtain ⟨k, b⟩ := r
      simp only at k0 k1
      have hcb : j + 1 ≤ cbp := Nat.le_trans hlt HCb.out
      have pa1 : (0 ≤ (j : Int) + 1) = True := eq_true (by omega)
      have pa2 : ((j : Int) + 1 ≤ (cbp : Int)) = True := eq_true (by omega)
      have pa3 : (j + 1 ≤ cbp) = True := eq_true (by omega)
      have pa4 : decide (j + 1 ≤ cbp) = true := decide_eq_true (by omega)
      have pa5 : ((j : Int) + 1).toNat = j + 1 := by omega
      have pb1 : ((j : Int) ≤ (j : Int) + 1) = True := eq_true (by omega)
      have pb2 : (j ≤ j + 1) = True := eq_true (by omega)
      have pb3 : ¬ cbp = j := by omega
      clear hcb
      have HX := Lib.hid (heap_alloc_new wr (.cells #[.int .u8 (k : Int), .string b] 38))
      have ha := below_alloc (Below.refl wr.heap.size wr) (.cells #[.int .u8 (k : Int), .string b] 38)
      replace HA := Lib.hid (HA.out.below ha)
      replace HD := Lib.hid (HD.out.below ha)
      replace H1 := Lib.hid (H1.out.below ha)
      replace HB := Lib.hid (chain2 HB.out ha)
      clear ha
      go_wp2_with fail
      generalize wr.heap.size = bx at HX ⊢
      generalize wr.alloc (.cells #[.int .u8 (k : Int), .string b] 38) = wx at HA HD H1 HB HX ⊢
      clear pa1 pa2 pa3 pa4 pa5 pb1 pb2 pb3
      clear k0 k1
      refine (ref_frame [(k, b)] (by simp) (fun r hr => by rw [List.mem_singleton] at hr; rw [hr]; exact HIn.out) _ wx H1.out).mono ?_
      rintro e w2 ⟨rfl, hd⟩
      replace HA := Lib.hid (HA.out.below hd)
      replace HD := Lib.hid (HD.out.below hd)
      replace HX := Lib.hid (blk_below HX.out hd)
      replace HB := Lib.hid (chain2 HB.out hd)
      clear hd
      rw [frameV_one]
      clear H1
      obtain ⟨x0, x1⟩ := rc_cells (x := (k, b)) HX.out
      simp only at x0 x1
      have HRf := Lib.hid (right_f k b)
      have HSz := Lib.hid (recB_size k b)
      have HSg := Lib.hid (size_f k b)
      have HSb := Lib.hid (size_bad k b)
      have HIz := Lib.hid HIn.out.2
      cases hg : goodR (k, b) with
      | true =>
        replace HSg := Lib.hid (HSg.out hg HIz.out)
        rw [hg] at HRf
        rw [if_pos rfl]
        generalize recB k b = rb at HSz ⊢
        have hrb := HSz.out
        clear hg HSb
        go_wp2_with fail
        refine (rec_Record_Right.calls _ _ _ _ HRf.out).mono ?_
        rintro e w3 ⟨rfl, hd⟩
        replace HA := Lib.hid (HA.out.below hd)
        replace HD := Lib.hid (HD.out.below hd)
        replace HX := Lib.hid (blk_below HX.out hd)
        replace HB := Lib.hid (chain2 HB.out hd)
        clear hd
        clear x0 x1
        obtain ⟨x0, x1⟩ := rc_cells (x := (k, b)) HX.out
        simp only at x0 x1
        go_wp2_with fail
        refine (rec_Record_Size.calls _ _ _ _ HSg.out).mono ?_
        rintro e w4 ⟨rfl, hd⟩
        replace HA := Lib.hid (HA.out.below hd)
        replace HD := Lib.hid (HD.out.below hd)
        replace HB := Lib.hid (chain2 HB.out hd)
        clear hd
        clear x0 x1 HX
        go_wp2
        go_roundw
        case rel => exact ⟨j + 1, hlt, by rw [e3], HA.out, HD.out, HB.out⟩
        case measure => rw [e3]; simp only [RowKit.intOf, Int.toNat_natCast]; exact Nat.sub_lt_sub_left hlt (Nat.lt_succ_self j)
      | false =>
        replace HSb := Lib.hid (HSb.out hg)
        rw [hg] at HRf
        rw [if_neg (by decide)]
        clear hg HSg HSz
        have hz0 : (str []).size = 0 := rfl
        generalize str [] = rb at hz0 ⊢
        go_wp2_with fail
        refine (rec_Record_Right.calls _ _ _ _ HRf.out).mono ?_
        rintro e w3 ⟨rfl, hd⟩
        replace HA := Lib.hid (HA.out.below hd)
        replace HD := Lib.hid (HD.out.below hd)
        replace HX := Lib.hid (blk_below HX.out hd)
        replace HB := Lib.hid (chain2 HB.out hd)
        clear hd
        clear x0 x1
        obtain ⟨x0, x1⟩ := rc_cells (x := (k, b)) HX.out
        simp only at x0 x1
        go_wp2_with fail
        refine (rec_Record_Size.calls _ _ _ _ HSb.out).mono ?_
        rintro e w4 ⟨rfl, hd⟩
        replace HA := Lib.hid (HA.out.below hd)
        replace HD := Lib.hid (HD.out.below hd)
        replace HB := Lib.hid (chain2 HB.out hd)
        clear hd
        clear x0 x1 HX
        go_wp2
        go_roundw
        case rel => exact ⟨j + 1, hlt, by rw [e3], HA.out, HD.out, HB.out⟩
        case measure => rw [e3]; simp only [RowKit.intOf, Int.toNat_natCast]; exact Nat.sub_lt_sub_left hlt (Nat.lt_succ_self j)
    · obtain rfl : j = ms.length := Nat.le_antisymm hj (Nat.le_of_not_lt hlt)
      obtain ⟨s, f⟩ := fv
      have q : (s.toList == s.toList) = true := beq_self_eq_true _
      go_wp2_with fail
      refine (rec_frame_nil _ wr).mono ?_
      rintro e w2 ⟨rfl, rfl⟩
      go_wp2_with fail
      refine (wakes_ok _).mono ?_
      rintro e w3 ⟨rfl, hd⟩
      replace HB := Lib.hid (chain2 HB.out hd)
      clear hd
      go_wp2
      go_ret
      exact ⟨rfl, HB.out⟩
theorem recFrames_law (a0 : Option Addr) (len0 cap0 : Nat) (W : World) (w0 : RowIn W [.int .u8, .str] a0 len0) (y0 : len0 ≤ cap0 ∧ cap0 ≤ maxLen) :
    Calls Try.prog 3 #[.slice a0 len0 cap0] W fun e w' => e = .returned (.bool true) ∧ Below W.heap.size W w' := by
  obtain ⟨rs, rfl, h⟩ := rs_of w0
  exact recFrames_walk a0 rs cap0 y0 W h
end Go.Proofs.Ytnojomoeaofkoaa
