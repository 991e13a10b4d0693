/- sale: List. No conditions beyond those that are written. -/
import Derived.Test.YtdeeakjkhcdkaaaXSaleG
namespace Go.Proofs.Ytdeeakjkhcdkaaa
open Go.RowKit Go.Lib Go.Proofs.YtdeeakjkhcdkaaaW.PrintWords Go.Proofs.YtdeeakjkhcdkaaaW.PrintLast Go.Proofs.YtdeeakjkhcdkaaaW.PrintMore
set_option linter.unusedVariables false
set_option linter.unusedSimpArgs false
--@tables
/-- A row of transactions is written: lines stay. -/
theorem LinesAt.kept {w w' : World} {base base2 : Nat} {x : TP × Value} {v : Value} {ys : List (TP × Value)} (h : LinesAt w base x) (ho : RowO encT 8 37 w base2 v ys) (hg : w.grownBy w' v.ownBlock) : LinesAt w' base x := by
  refine RowO.grown h hg ?_
  cases hx : x.2.ownBlock with
  | none => exact .inl rfl
  | some b =>
    right
    intro e
    obtain ⟨c, hc⟩ := RowO.typ ho b e.symm
    exact RowO.ne h hc (by decide) hx
theorem LinesAt.below {w w' : World} {base : Nat} {x : TP × Value} (h : LinesAt w base x) (hb : Below w.heap.size w w') : LinesAt w' base x := RowO.below h hb
theorem LinesAt.mono {w : World} {base base' : Nat} {x : TP × Value} (h : LinesAt w base x) (hb : base' ≤ base) : LinesAt w base' x := RowO.mono h hb
theorem cellsT_box {w : World} {b : Nat} {t : TP} {v : Value} (h : BoxT w b t v) (hs : isSl v = v) : ∀ j u, (encT (t, v))[j]? = some u → w.cell? ((⟨b, 0, none⟩ : Addr).add j) = some u := by
  obtain ⟨h0, h1, h2, h3, h4, h5, h6, h7⟩ := h.cells
  intro j u hu
  rw [Addr.add_lit, Nat.zero_add]
  simp only [encT, cellsT, hs] at hu
  match j, hu with
  | 0, hu => simp at hu; rw [← hu]; exact h0
  | 1, hu => simp at hu; rw [← hu]; exact h1
  | 2, hu => simp at hu; rw [← hu]; exact h2
  | 3, hu => simp at hu; rw [← hu]; exact h3
  | 4, hu => simp at hu; rw [← hu]; exact h4
  | 5, hu => simp at hu; rw [← hu]; exact h5
  | 6, hu => simp at hu; rw [← hu]; exact h6
  | 7, hu => simp at hu; rw [← hu]; exact h7
  | j + 8, hu => simp at hu
theorem wrap_succS (p : Nat) (h : p < 100000) : wrap64 ((p : Int) + 1) = ((p + 1 : Nat) : Int) := by unfold wrap64; omega
set_option maxHeartbeats 8000000 in
theorem list_ok {base g : Nat} {v : Value} {keep next : Nat} {xs : List (TP × Value)} (w : World) (h : RegV w base g v keep next xs) :
    Calls Try.prog 12 #[.pointer (some ⟨g, 0, none⟩)] w fun e w' => ∃ v' ys, e = .returned v' ∧ RowO encT 8 37 w' w.heap.size v' ys ∧ (∀ y ∈ ys, LinesAt w' w.heap.size y) ∧ ys.map Prod.fst = xs.map Prod.fst ∧ Below w.heap.size w w' := by
  have HRg := Lib.hid h
  have HLs := Lib.hid (show ∀ x ∈ xs, x.1.ls.length ≤ 1000000 from fun x hx => Nat.le_trans (h.ll x hx) (by decide))
  have HN := Lib.hid (show xs.length ≤ 512 from Nat.le_trans h.len h.k2)
  obtain ⟨ra, rc, rfl⟩ := h.sl
  obtain ⟨c0, c1, c2⟩ := h.cells
  clear h c0 c1
  go_enter Try.func12, Try.ntmps12
  go_wp2_with fail
  clear c2
  go_loopw [3, 13] (fun u i wr => ∃ (j : Nat) (ys : List (TP × Value)), j ≤ xs.length ∧ i = .int .i64 (j : Int) ∧ RowO encT 8 37 wr w.heap.size u ys ∧ (∀ y ∈ ys, LinesAt wr w.heap.size y) ∧ ys.map Prod.fst = (xs.take j).map Prod.fst ∧ Below w.heap.size w wr) (fun _ i _ => xs.length - (RowKit.intOf i).toNat)
  case atStart => exact ⟨0, [], Nat.zero_le _, rfl, RowO.nil _ _ _ _ _, by simp, rfl, Below.refl _ _⟩
  case round =>
    obtain ⟨j, ys, hj, rfl, ho, hli, hmp, hb⟩ := hrel
    have HO := Lib.hid ho; clear ho
    have HLi := Lib.hid hli; clear hli
    have HMp := Lib.hid hmp; clear hmp
    have HB := Lib.hid hb; clear hb
    by_cases hlt : j < xs.length
    · have e3 : wrap64 ((j : Int) + 1) = ((j + 1 : Nat) : Int) := wrap_succS j (by have := HN.out; omega)
      have hyl : ys.length = j := by have := congrArg List.length HMp.out; rw [List.length_map, List.length_map, List.length_take] at this; omega
      have HYl := Lib.hid hyl; clear hyl
      have hreg := HRg.out.below HB.out
      obtain ⟨gr, off, cc, hv⟩ := hreg.row.form1 (by omega)
      simp only [Value.slice.injEq, true_and] at hv
      obtain ⟨rfl, rfl⟩ := hv
      have hlin := hreg.lines _ (List.getElem_mem hlt)
      have hsl := hlin.sl
      obtain ⟨r0, r1, r2, r3, r4, r5, r6, r7⟩ := row8 hreg.row j hlt
      have hrs : RowS encL wr xs[j].2 xs[j].1.ls := RowO.rowS hlin
      have HL := Lib.hid (HLs.out _ (List.getElem_mem hlt))
      rw [hsl] at r7
      obtain ⟨la, ln, lc, hv⟩ := sl_form hsl
      have HTk := Lib.hid (show (xs.take (j + 1)).map Prod.fst = (xs.take j).map Prod.fst ++ [xs[j].1] by rw [List.take_succ_eq_append_getElem hlt, List.map_append]; rfl)
      clear hlin hsl hreg
      generalize xs[j] = x at r0 r1 r2 r3 r4 r5 r6 r7 hrs hv HL HTk
      obtain ⟨t, tv⟩ := x
      simp only at r0 r1 r2 r3 r4 r5 r6 r7 hrs hv HL HTk
      subst hv
      obtain ⟨ua, uc, hu⟩ := HO.out.form
      subst hu
      have HRs := Lib.hid hrs; clear hrs
      have hq1 : decide (j < xs.length) = true := decide_eq_true hlt
      have hq2 : decide ((j : Int) < (xs.length : Int)) = true := decide_eq_true (by omega)
      have Hlt := Lib.hid hlt; clear hlt hj
      go_wp2_with fail
      clear r0 r1 r2 r3 r4 r5 r6 r7 hq1 hq2
      have hb := below_alloc (Below.refl wr.heap.size wr) (.cells #[.int .i64 t.num, .int .u8 t.kind, .int .i64 t.shift, .int .i64 t.ref, .int .i64 t.amount, .int .i64 t.left, .bool t.void, .slice la ln lc] 37)
      have HOb := Lib.hid (HO.out.below hb)
      have HLb := Lib.hid (show ∀ y ∈ ys, LinesAt _ w.heap.size y from fun y hy => (HLi.out y hy).below hb)
      replace HRs := Lib.hid (HRs.out.below hb)
      replace HB := Lib.hid (chain2 HB.out hb)
      clear hb HO HLi
      have hcp := copied_ok t (.slice la ln lc) (wr.alloc (.cells #[.int .i64 t.num, .int .u8 t.kind, .int .i64 t.shift, .int .i64 t.ref, .int .i64 t.amount, .int .i64 t.left, .bool t.void, .slice la ln lc] 37)) HL.out HRs.out
      unfold aggT at hcp
      generalize wr.alloc (.cells #[.int .i64 t.num, .int .u8 t.kind, .int .i64 t.shift, .int .i64 t.ref, .int .i64 t.amount, .int .i64 t.left, .bool t.void, .slice la ln lc] 37) = w1 at HOb HLb HRs HB hcp ⊢
      refine hcp.mono ?_
      clear hcp
      rintro e w2 ⟨v', rfl, hol, hd⟩
      obtain ⟨a', c', rfl⟩ := hol.form
      have HNl := Lib.hid (show LinesAt w2 w.heap.size (t, .slice a' t.ls.length c') from hol.mono HB.out.size); clear hol
      replace HOb := Lib.hid (HOb.out.below hd)
      replace HLb := Lib.hid (show ∀ y ∈ ys, LinesAt w2 w.heap.size y from fun y hy => (HLb.out y hy).below hd)
      replace HB := Lib.hid (chain2 HB.out hd); clear hd
      have hb := below_alloc (Below.refl w2.heap.size w2) (.cells #[.int .i64 t.num, .int .u8 t.kind, .int .i64 t.shift, .int .i64 t.ref, .int .i64 t.amount, .int .i64 t.left, .bool t.void, .slice a' t.ls.length c'] 37)
      have HBx := Lib.hid (cellsT_box (BoxT.new w2 t (.slice a' t.ls.length c')) rfl)
      replace HNl := Lib.hid (HNl.out.below hb)
      replace HOb := Lib.hid (HOb.out.below hb)
      replace HLb := Lib.hid (show ∀ y ∈ ys, LinesAt _ w.heap.size y from fun y hy => (HLb.out y hy).below hb)
      replace HB := Lib.hid (chain2 HB.out hb); clear hb
      have HS := Lib.hid HB.out.size
      go_wp2_with (at_builtin; refine wpList_rowO rfl _ _ encT_len encT_one (by decide) Try.underlying48 tx_info rfl rfl rfl HOb.out HS.out ?qc1 ?qc2 ⟨w2.heap.size, 0, none⟩ 1 (t, .slice a' t.ls.length c') rfl HBx.out ?_)
      case qc1 => have := HYl.out; have := Hlt.out; have := HN.out; unfold maxLen; omega
      case qc2 => have := HYl.out; have := Hlt.out; have := HN.out; omega
      intro xa xc w3 ho hg hk
      have HO := Lib.hid ho
      have HLi := Lib.hid (show ∀ y ∈ ys ++ [(t, .slice a' t.ls.length c')], LinesAt w3 w.heap.size y from fun y hy => by
        rw [List.mem_append, List.mem_singleton] at hy
        rcases hy with hy | rfl
        · exact (HLb.out y hy).kept HOb.out hg
        · exact HNl.out.kept HOb.out hg)
      have HB3 := Lib.hid (pw_below_grown HB.out _ HB.out.size hg (fun k hk => (HOb.out.lt k hk).1))
      clear ho hg hk HOb HLb HNl HBx
      go_wp2_with fail
      go_roundw
      case rel => exact ⟨j + 1, _, Hlt.out, by first | rw [e3] | rfl, HO.out, HLi.out, by rw [List.map_append, HMp.out, HTk.out]; rfl, HB3.out⟩
      case measure => have hlt := Hlt.out; (first | rw [e3] | rw [show ((j : Int) + 1) = ((j + 1 : Nat) : Int) from rfl]); simp only [RowKit.intOf, Int.toNat_natCast]; exact Nat.sub_lt_sub_left hlt (Nat.lt_succ_self j)
    · obtain rfl : j = xs.length := Nat.le_antisymm hj (Nat.le_of_not_lt hlt)
      go_wp2
      go_ret
      exact ⟨_, ys, rfl, HO.out, HLi.out, by have := HMp.out; rwa [List.take_length] at this, HB.out⟩
end Go.Proofs.Ytdeeakjkhcdkaaa
