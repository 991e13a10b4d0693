/- sale: numbers, Find, Back; the law's list. No conditions beyond those that are written. -/
import Derived.Test.YtdeeakjkhcdkaaaXSaleF2
namespace Go.Proofs.Ytdeeakjkhcdkaaa
open Go.RowKit Go.Lib Go.Proofs.YtdeeakjkhcdkaaaW.PrintWords Go.Proofs.YtdeeakjkhcdkaaaW.PrintLast Go.Proofs.YtdeeakjkhcdkaaaW.PrintMore
set_option linter.unusedVariables false
set_option linter.unusedSimpArgs false
--@tables
def backF (n : Int) (t : TP) : Bool := backK t.kind && (t.ref == n)
set_option maxHeartbeats 4000000 in
theorem back1_ok (n : Int) (B : Nat) (t : TP) (tv : Value) (w : World) (hs : isSl tv = tv) (hc : w.cell? ⟨B, 0, none⟩ = some (.int .i64 n)) :
    Calls Try.prog 35 #[aggT t tv, .pointer (some ⟨B, 0, none⟩)] w fun e w' => e = .returned (.bool (backF n t)) ∧ Below w.heap.size w w' := by
  unfold aggT
  obtain ⟨va, vn, vc, rfl⟩ := sl_form hs
  clear hs
  have b2 := below_alloc (Below.refl w.heap.size w) (.cells #[.int .i64 t.num, .int .u8 t.kind, .int .i64 t.shift, .int .i64 t.ref, .int .i64 t.amount, .int .i64 t.left, .bool t.void, .slice va vn vc] 37)
  have HC := Lib.hid (pw_cell_below b2 hc)
  have HX := Lib.hid (BoxT.new w t (.slice va vn vc))
  have HB := Lib.hid b2
  clear b2 hc
  go_enter Try.func35, Try.ntmps35
  go_wp2_with fail
  generalize w.alloc (.cells #[.int .i64 t.num, .int .u8 t.kind, .int .i64 t.shift, .int .i64 t.ref, .int .i64 t.amount, .int .i64 t.left, .bool t.void, .slice va vn vc] 37) = W at HB HC HX ⊢
  generalize w.heap.size = bt at HX ⊢
  refine (back_ok t.kind W).mono ?_
  rintro e w' ⟨rfl, rfl⟩
  obtain ⟨y0, y1, y2, y3, y4, y5, y6, y7⟩ := HX.out.cells
  have hc := HC.out
  cases hb : backK t.kind with
  | true =>
    have HF := Lib.hid (show backF n t = (t.ref == n) by unfold backF; rw [hb]; rfl)
    clear hb
    go_wp2
    go_ret
    exact ⟨by rw [HF.out]; rfl, HB.out⟩
  | false =>
    have HF := Lib.hid (show backF n t = false by unfold backF; rw [hb]; rfl)
    clear hb
    go_wp2
    go_ret
    exact ⟨by rw [HF.out]; rfl, HB.out⟩
def encN (n : Int) : List Value := [.int .i64 n]
theorem encN_len (n : Int) : (encN n).length = 1 := rfl
theorem encN_one : ∀ n : Int, ∀ u ∈ encN n, u.oneCell' = true := by
  intro n u hu
  simp only [encN, List.mem_cons, List.not_mem_nil, or_false] at hu
  subst hu; rfl
theorem int_info : (Try.prog.info? 3).map (fun i => (i.zero, i.size, i.bytes)) = some (some (.int .i64 0), 1, 8) := by kernel_rfl
theorem encN_box {w : World} {b : Nat} {n : Int} (h0 : w.cell? ⟨b, 0, none⟩ = some (.int .i64 n)) : ∀ j u, (encN n)[j]? = some u → w.cell? ((⟨b, 0, none⟩ : Addr).add j) = some u := by
  intro j u hu
  rw [Addr.add_lit, Nat.zero_add]
  match j, hu with
  | 0, hu => simp [encN] at hu; rw [← hu]; exact h0
  | j + 1, hu => simp [encN] at hu
/-- The numbers of those that are wanted. -/
def numsF (p : TP → Bool) (ps : List TP) : List Int := (ps.filter p).map TP.num
theorem numsF_snoc (p : TP → Bool) (ps : List TP) (t : TP) : numsF p (ps ++ [t]) = if p t = true then numsF p ps ++ [t.num] else numsF p ps := by
  unfold numsF
  rw [List.filter_append, List.map_append]
  by_cases h : p t = true
  · rw [if_pos h]; simp [List.filter_cons, h]
  · rw [if_neg h]; simp [List.filter_cons, h]
theorem numsF_len (p : TP → Bool) (ps : List TP) : (numsF p ps).length ≤ ps.length := by unfold numsF; rw [List.length_map]; exact List.length_filter_le _ _
theorem numbers_nil (f : Value) (w : World) : Calls Try.prog 33 #[.pointer none, f] w fun e w' => e = .returned (.slice none 0 0) ∧ w = w' := by
  go_enter Try.func33, Try.ntmps33
  go_wp2
  go_ret
  exact ⟨rfl, rfl⟩
set_option maxHeartbeats 8000000 in
set_option maxRecDepth 100000 in
theorem numbers_meets (a : AK) (ka : Option Addr) (kc : Nat) {base g keep next : Nat} {ps : List TP} (w : World) (h : RegAt w base g keep next ps) (hks : RowS encU w (.slice ka a.ks.length kc) a.ks) (hkl : a.ks.length ≤ 1000) :
    Calls Try.prog 33 #[.pointer (some ⟨g, 0, none⟩), .func (.func 34) #[.agg #[.slice ka a.ks.length kc, .int .i64 a.shift, .int .i64 a.acc, .int .i64 a.least, .int .i64 a.most, .bool a.open_]] #[]] w fun e w' => ∃ v', e = .returned v' ∧ RowO encN 1 3 w' w.heap.size v' (numsF (meetsF a) ps) ∧ Below w.heap.size w w' := by
  obtain ⟨v, xs, hrv, rfl⟩ := h
  have HRg := Lib.hid hrv
  have HN := Lib.hid (show xs.length ≤ 512 from Nat.le_trans hrv.len hrv.k2)
  have HKs := Lib.hid hks; clear hks
  have HKl := Lib.hid hkl; clear hkl
  obtain ⟨ra, rc, rfl⟩ := hrv.sl
  obtain ⟨c0, c1, c2⟩ := hrv.cells
  clear hrv c0 c1
  go_enter Try.func33, Try.ntmps33
  go_wp2_with fail
  clear c2
  go_loopw [5, 15] (fun u i wr => ∃ (j : Nat), j ≤ xs.length ∧ i = .int .i64 (j : Int) ∧ RowO encN 1 3 wr w.heap.size u (numsF (meetsF a) ((xs.map Prod.fst).take j)) ∧ Below w.heap.size w wr) (fun _ i _ => xs.length - (RowKit.intOf i).toNat)
  case atStart => exact ⟨0, Nat.zero_le _, rfl, RowO.nil _ _ _ _ _, Below.refl _ _⟩
  case round =>
    obtain ⟨j, hj, rfl, ho, hb⟩ := hrel
    have HO := Lib.hid ho; clear ho
    have HB := Lib.hid hb; clear hb
    by_cases hlt : j < xs.length
    · have e3 : wrap64 ((j : Int) + 1) = ((j + 1 : Nat) : Int) := wrap_succS j (by have := HN.out; omega)
      have hyl : (numsF (meetsF a) ((xs.map Prod.fst).take j)).length ≤ 512 := Nat.le_trans (numsF_len _ _) (by rw [List.length_take, List.length_map]; have := HN.out; omega)
      have HYl := Lib.hid hyl; clear hyl
      have hreg := HRg.out.below HB.out
      obtain ⟨gr, off, cc, hv⟩ := hreg.row.form1 (by omega)
      simp only [Value.slice.injEq, true_and] at hv
      obtain ⟨rfl, rfl⟩ := hv
      have hlin := hreg.lines _ (List.getElem_mem hlt)
      have hsl := hlin.sl
      obtain ⟨r0, r1, r2, r3, r4, r5, r6, r7⟩ := row8 hreg.row j hlt
      have hrs : RowS encL wr xs[j].2 xs[j].1.ls := RowO.rowS hlin
      have HL := Lib.hid (show xs[j].1.ls.length ≤ 1000000 from Nat.le_trans (HRg.out.ll _ (List.getElem_mem hlt)) (by decide))
      rw [hsl] at r7
      obtain ⟨la, ln, lc, hv⟩ := sl_form hsl
      have HTk := Lib.hid (show numsF (meetsF a) ((xs.map Prod.fst).take (j + 1)) = if (meetsF a) xs[j].1 = true then numsF (meetsF a) ((xs.map Prod.fst).take j) ++ [xs[j].1.num] else numsF (meetsF a) ((xs.map Prod.fst).take j) by rw [List.take_succ_eq_append_getElem (by rw [List.length_map]; exact hlt), List.getElem_map]; exact numsF_snoc _ _ _)
      clear hlin hsl hreg
      generalize xs[j] = x at r0 r1 r2 r3 r4 r5 r6 r7 hrs hv HL HTk
      obtain ⟨t, tv⟩ := x
      simp only at r0 r1 r2 r3 r4 r5 r6 r7 hrs hv HL HTk
      subst hv
      generalize numsF (meetsF a) ((xs.map Prod.fst).take j) = L at HO HYl HTk
      obtain ⟨ua, uc, hu⟩ := HO.out.form
      subst hu
      have HRs := Lib.hid hrs; clear hrs
      have hq1 : decide (j < xs.length) = true := decide_eq_true hlt
      have hq2 : decide ((j : Int) < (xs.length : Int)) = true := decide_eq_true (by omega)
      have Hlt := Lib.hid hlt; clear hlt hj
      go_wp2_with fail
      clear r0 r1 r2 r3 r4 r5 r6 r7 hq1 hq2
      have hb := below_alloc (Below.refl wr.heap.size wr) (.cells #[.int .i64 t.num, .int .u8 t.kind, .int .i64 t.shift, .int .i64 t.ref, .int .i64 t.amount, .int .i64 t.left, .bool t.void, .slice la ln lc] 37)
      replace HO := Lib.hid (HO.out.below hb)
      replace HRs := Lib.hid (HRs.out.below hb)
      replace HB := Lib.hid (chain2 HB.out hb)
      have HX := Lib.hid (BoxT.new wr t (.slice la ln lc))
      clear hb
      generalize wr.alloc (.cells #[.int .i64 t.num, .int .u8 t.kind, .int .i64 t.shift, .int .i64 t.ref, .int .i64 t.amount, .int .i64 t.left, .bool t.void, .slice la ln lc] 37) = w1 at HO HRs HB HX ⊢
      generalize wr.heap.size = bx at HX ⊢
      have hcp := meets_ok a (.slice ka a.ks.length kc) t (.slice la ln lc) w1 (HKs.out.below HB.out) HKl.out HRs.out HL.out
      unfold aggT aggK at hcp
      have HCp := Lib.hid hcp; clear hcp
      cases hp : (meetsF a) t with
      | true =>
        rw [hp] at HCp
        rw [hp, if_pos rfl] at HTk
        clear hp
        refine HCp.out.mono ?_
        clear HCp
        rintro e w2 ⟨rfl, hd⟩
        replace HO := Lib.hid (HO.out.below hd)
        replace HX := Lib.hid (HX.out.below hd)
        replace HB := Lib.hid (chain2 HB.out hd); clear hd
        have hb := below_alloc (Below.refl w2.heap.size w2) (.cells #[.int .i64 t.num] 3)
        have HBx := Lib.hid (encN_box (n := t.num) (cell_of_row _ w2.heap.size 0 _ _ (0, 0) (heap_alloc_new w2 (.cells #[.int .i64 t.num] 3))))
        have y0 := HX.out.cells.1
        replace HO := Lib.hid (HO.out.below hb)
        replace HB := Lib.hid (chain2 HB.out hb); clear hb
        have HS := Lib.hid HB.out.size
        go_wp2_with (at_builtin; refine wpList_rowO rfl _ _ encN_len encN_one (by decide) Try.underlying56 int_info rfl rfl rfl HO.out HS.out ?qc1 ?qc2 ⟨w2.heap.size, 0, none⟩ 1 t.num rfl HBx.out ?_)
        case qc1 => have := HYl.out; unfold maxLen; omega
        case qc2 => have := HYl.out; omega
        intro xa xc w3 ho hg hk
        rw [← HTk.out] at ho
        have HO3 := Lib.hid ho
        have HB3 := Lib.hid (pw_below_grown HB.out _ HB.out.size hg (fun k hk => (HO.out.lt k hk).1))
        clear ho hg hk HO HBx y0
        go_wp2_with fail
        go_roundw
        case rel => exact ⟨j + 1, Hlt.out, by first | rw [e3] | rfl, HO3.out, HB3.out⟩
        case measure => have hlt := Hlt.out; (first | rw [e3] | rw [show ((j : Int) + 1) = ((j + 1 : Nat) : Int) from rfl]); simp only [RowKit.intOf, Int.toNat_natCast]; exact Nat.sub_lt_sub_left hlt (Nat.lt_succ_self j)
      | false =>
        rw [hp] at HCp
        rw [hp, if_neg (by decide)] at HTk
        clear hp
        refine HCp.out.mono ?_
        clear HCp
        rintro e w2 ⟨rfl, hd⟩
        replace HO := Lib.hid (HO.out.below hd)
        replace HB := Lib.hid (chain2 HB.out hd); clear hd HX
        go_wp2_with fail
        go_roundw
        case rel => exact ⟨j + 1, Hlt.out, by first | rw [e3] | rfl, by rw [HTk.out]; exact HO.out, HB.out⟩
        case measure => have hlt := Hlt.out; (first | rw [e3] | rw [show ((j : Int) + 1) = ((j + 1 : Nat) : Int) from rfl]); simp only [RowKit.intOf, Int.toNat_natCast]; exact Nat.sub_lt_sub_left hlt (Nat.lt_succ_self j)
    · obtain rfl : j = xs.length := Nat.le_antisymm hj (Nat.le_of_not_lt hlt)
      go_wp2
      go_ret
      exact ⟨_, rfl, by have := HO.out; rwa [List.take_of_length_le (by rw [List.length_map]; exact Nat.le_refl _)] at this, HB.out⟩
set_option maxHeartbeats 8000000 in
set_option maxRecDepth 100000 in
theorem numbers_back (n : Int) (B : Nat) {base g keep next : Nat} {ps : List TP} (w : World) (h : RegAt w base g keep next ps) (hc : w.cell? ⟨B, 0, none⟩ = some (.int .i64 n)) :
    Calls Try.prog 33 #[.pointer (some ⟨g, 0, none⟩), .func (.func 35) #[] #[.pointer (some ⟨B, 0, none⟩)]] w fun e w' => ∃ v', e = .returned v' ∧ RowO encN 1 3 w' w.heap.size v' (numsF (backF n) ps) ∧ Below w.heap.size w w' := by
  obtain ⟨v, xs, hrv, rfl⟩ := h
  have HRg := Lib.hid hrv
  have HN := Lib.hid (show xs.length ≤ 512 from Nat.le_trans hrv.len hrv.k2)
  have HC := Lib.hid hc; clear hc
  obtain ⟨ra, rc, rfl⟩ := hrv.sl
  obtain ⟨c0, c1, c2⟩ := hrv.cells
  clear hrv c0 c1
  go_enter Try.func33, Try.ntmps33
  go_wp2_with fail
  clear c2
  go_loopw [5, 15] (fun u i wr => ∃ (j : Nat), j ≤ xs.length ∧ i = .int .i64 (j : Int) ∧ RowO encN 1 3 wr w.heap.size u (numsF (backF n) ((xs.map Prod.fst).take j)) ∧ Below w.heap.size w wr) (fun _ i _ => xs.length - (RowKit.intOf i).toNat)
  case atStart => exact ⟨0, Nat.zero_le _, rfl, RowO.nil _ _ _ _ _, Below.refl _ _⟩
  case round =>
    obtain ⟨j, hj, rfl, ho, hb⟩ := hrel
    have HO := Lib.hid ho; clear ho
    have HB := Lib.hid hb; clear hb
    by_cases hlt : j < xs.length
    · have e3 : wrap64 ((j : Int) + 1) = ((j + 1 : Nat) : Int) := wrap_succS j (by have := HN.out; omega)
      have hyl : (numsF (backF n) ((xs.map Prod.fst).take j)).length ≤ 512 := Nat.le_trans (numsF_len _ _) (by rw [List.length_take, List.length_map]; have := HN.out; omega)
      have HYl := Lib.hid hyl; clear hyl
      have hreg := HRg.out.below HB.out
      obtain ⟨gr, off, cc, hv⟩ := hreg.row.form1 (by omega)
      simp only [Value.slice.injEq, true_and] at hv
      obtain ⟨rfl, rfl⟩ := hv
      have hlin := hreg.lines _ (List.getElem_mem hlt)
      have hsl := hlin.sl
      obtain ⟨r0, r1, r2, r3, r4, r5, r6, r7⟩ := row8 hreg.row j hlt
      have hrs : RowS encL wr xs[j].2 xs[j].1.ls := RowO.rowS hlin
      have HL := Lib.hid (show xs[j].1.ls.length ≤ 1000000 from Nat.le_trans (HRg.out.ll _ (List.getElem_mem hlt)) (by decide))
      rw [hsl] at r7
      obtain ⟨la, ln, lc, hv⟩ := sl_form hsl
      have HTk := Lib.hid (show numsF (backF n) ((xs.map Prod.fst).take (j + 1)) = if (backF n) xs[j].1 = true then numsF (backF n) ((xs.map Prod.fst).take j) ++ [xs[j].1.num] else numsF (backF n) ((xs.map Prod.fst).take j) by rw [List.take_succ_eq_append_getElem (by rw [List.length_map]; exact hlt), List.getElem_map]; exact numsF_snoc _ _ _)
      clear hlin hsl hreg
      generalize xs[j] = x at r0 r1 r2 r3 r4 r5 r6 r7 hrs hv HL HTk
      obtain ⟨t, tv⟩ := x
      simp only at r0 r1 r2 r3 r4 r5 r6 r7 hrs hv HL HTk
      subst hv
      generalize numsF (backF n) ((xs.map Prod.fst).take j) = L at HO HYl HTk
      obtain ⟨ua, uc, hu⟩ := HO.out.form
      subst hu
      have HRs := Lib.hid hrs; clear hrs
      have hq1 : decide (j < xs.length) = true := decide_eq_true hlt
      have hq2 : decide ((j : Int) < (xs.length : Int)) = true := decide_eq_true (by omega)
      have Hlt := Lib.hid hlt; clear hlt hj
      go_wp2_with fail
      clear r0 r1 r2 r3 r4 r5 r6 r7 hq1 hq2
      have hb := below_alloc (Below.refl wr.heap.size wr) (.cells #[.int .i64 t.num, .int .u8 t.kind, .int .i64 t.shift, .int .i64 t.ref, .int .i64 t.amount, .int .i64 t.left, .bool t.void, .slice la ln lc] 37)
      replace HO := Lib.hid (HO.out.below hb)
      replace HRs := Lib.hid (HRs.out.below hb)
      replace HB := Lib.hid (chain2 HB.out hb)
      have HX := Lib.hid (BoxT.new wr t (.slice la ln lc))
      clear hb
      generalize wr.alloc (.cells #[.int .i64 t.num, .int .u8 t.kind, .int .i64 t.shift, .int .i64 t.ref, .int .i64 t.amount, .int .i64 t.left, .bool t.void, .slice la ln lc] 37) = w1 at HO HRs HB HX ⊢
      generalize wr.heap.size = bx at HX ⊢
      have hcp := back1_ok n B t (.slice la ln lc) w1 rfl (pw_cell_below HB.out HC.out)
      unfold aggT at hcp
      have HCp := Lib.hid hcp; clear hcp
      cases hp : (backF n) t with
      | true =>
        rw [hp] at HCp
        rw [hp, if_pos rfl] at HTk
        clear hp
        refine HCp.out.mono ?_
        clear HCp
        rintro e w2 ⟨rfl, hd⟩
        replace HO := Lib.hid (HO.out.below hd)
        replace HX := Lib.hid (HX.out.below hd)
        replace HB := Lib.hid (chain2 HB.out hd); clear hd
        have hb := below_alloc (Below.refl w2.heap.size w2) (.cells #[.int .i64 t.num] 3)
        have HBx := Lib.hid (encN_box (n := t.num) (cell_of_row _ w2.heap.size 0 _ _ (0, 0) (heap_alloc_new w2 (.cells #[.int .i64 t.num] 3))))
        have y0 := HX.out.cells.1
        replace HO := Lib.hid (HO.out.below hb)
        replace HB := Lib.hid (chain2 HB.out hb); clear hb
        have HS := Lib.hid HB.out.size
        go_wp2_with (at_builtin; refine wpList_rowO rfl _ _ encN_len encN_one (by decide) Try.underlying56 int_info rfl rfl rfl HO.out HS.out ?qc1 ?qc2 ⟨w2.heap.size, 0, none⟩ 1 t.num rfl HBx.out ?_)
        case qc1 => have := HYl.out; unfold maxLen; omega
        case qc2 => have := HYl.out; omega
        intro xa xc w3 ho hg hk
        rw [← HTk.out] at ho
        have HO3 := Lib.hid ho
        have HB3 := Lib.hid (pw_below_grown HB.out _ HB.out.size hg (fun k hk => (HO.out.lt k hk).1))
        clear ho hg hk HO HBx y0
        go_wp2_with fail
        go_roundw
        case rel => exact ⟨j + 1, Hlt.out, by first | rw [e3] | rfl, HO3.out, HB3.out⟩
        case measure => have hlt := Hlt.out; (first | rw [e3] | rw [show ((j : Int) + 1) = ((j + 1 : Nat) : Int) from rfl]); simp only [RowKit.intOf, Int.toNat_natCast]; exact Nat.sub_lt_sub_left hlt (Nat.lt_succ_self j)
      | false =>
        rw [hp] at HCp
        rw [hp, if_neg (by decide)] at HTk
        clear hp
        refine HCp.out.mono ?_
        clear HCp
        rintro e w2 ⟨rfl, hd⟩
        replace HO := Lib.hid (HO.out.below hd)
        replace HB := Lib.hid (chain2 HB.out hd); clear hd HX
        go_wp2_with fail
        go_roundw
        case rel => exact ⟨j + 1, Hlt.out, by first | rw [e3] | rfl, by rw [HTk.out]; exact HO.out, HB.out⟩
        case measure => have hlt := Hlt.out; (first | rw [e3] | rw [show ((j : Int) + 1) = ((j + 1 : Nat) : Int) from rfl]); simp only [RowKit.intOf, Int.toNat_natCast]; exact Nat.sub_lt_sub_left hlt (Nat.lt_succ_self j)
    · obtain rfl : j = xs.length := Nat.le_antisymm hj (Nat.le_of_not_lt hlt)
      go_wp2
      go_ret
      exact ⟨_, rfl, by have := HO.out; rwa [List.take_of_length_le (by rw [List.length_map]; exact Nat.le_refl _)] at this, HB.out⟩
theorem find_at (a : AK) (ka : Option Addr) (kc : Nat) {base g keep next : Nat} {ps : List TP} (w : World) (h : RegAt w base g keep next ps) (hks : RowS encU w (.slice ka a.ks.length kc) a.ks) (hkl : a.ks.length ≤ 1000) :
    Calls Try.prog 15 #[.pointer (some ⟨g, 0, none⟩), aggK a (.slice ka a.ks.length kc)] w fun e w' => ∃ v', e = .returned v' ∧ RowO encN 1 3 w' w.heap.size v' (numsF (meetsF a) ps) ∧ Below w.heap.size w w' := by
  unfold aggK
  have hb := below_alloc (Below.refl w.heap.size w) (.cells #[.slice ka a.ks.length kc, .int .i64 a.shift, .int .i64 a.acc, .int .i64 a.least, .int .i64 a.most, .bool a.open_] 55)
  have HC := Lib.hid (numbers_meets a ka kc _ (h.below hb) (hks.below hb) hkl)
  have HB := Lib.hid hb
  clear h hks hkl hb
  go_enter Try.func15, Try.ntmps15
  go_wp2_with fail
  refine HC.out.mono ?_
  clear HC
  rintro e w' ⟨v', rfl, ho, hd⟩
  have HO := Lib.hid (ho.mono HB.out.size); clear ho
  have HB2 := Lib.hid (chain2 HB.out hd); clear hd
  go_wp2
  go_ret
  exact ⟨_, rfl, HO.out, HB2.out⟩
theorem back_at (n : Int) {base g keep next : Nat} {ps : List TP} (w : World) (h : RegAt w base g keep next ps) :
    Calls Try.prog 16 #[.pointer (some ⟨g, 0, none⟩), .int .i64 n] w fun e w' => ∃ v', e = .returned v' ∧ RowO encN 1 3 w' w.heap.size v' (numsF (backF n) ps) ∧ Below w.heap.size w w' := by
  have hb := below_alloc (Below.refl w.heap.size w) (.cells #[.int .i64 n] 3)
  have HC := Lib.hid (numbers_back n w.heap.size _ (h.below hb) (cell_of_row _ w.heap.size 0 _ _ (0, 0) (heap_alloc_new w (.cells #[.int .i64 n] 3))))
  have HB := Lib.hid hb
  clear h hb
  go_enter Try.func16, Try.ntmps16
  go_wp2_with fail
  refine HC.out.mono ?_
  clear HC
  rintro e w' ⟨v', rfl, ho, hd⟩
  have HO := Lib.hid (ho.mono HB.out.size); clear ho
  have HB2 := Lib.hid (chain2 HB.out hd); clear hd
  go_wp2
  go_ret
  exact ⟨_, rfl, HO.out, HB2.out⟩
theorem find_nilR (a : AK) (kv : Value) (w : World) (hk : ∃ x n c, kv = .slice x n c) : Calls Try.prog 15 #[.pointer none, aggK a kv] w fun e w' => e = .returned (.slice none 0 0) ∧ Below w.heap.size w w' := by
  obtain ⟨x, n, c, rfl⟩ := hk
  unfold aggK
  go_enter Try.func15, Try.ntmps15
  go_wp2_with fail
  refine (numbers_nil _ _).mono ?_
  rintro e w' ⟨rfl, rfl⟩
  go_wp2
  go_ret
  exact ⟨rfl, (Below.refl _ w).alloc (Nat.le_refl _) _⟩
theorem back_nilR (n : Int) (w : World) : Calls Try.prog 16 #[.pointer none, .int .i64 n] w fun e w' => e = .returned (.slice none 0 0) ∧ Below w.heap.size w w' := by
  go_enter Try.func16, Try.ntmps16
  go_wp2_with fail
  refine (numbers_nil _ _).mono ?_
  rintro e w' ⟨rfl, rfl⟩
  go_wp2
  go_ret
  exact ⟨rfl, (Below.refl _ w).alloc (Nat.le_refl _) _⟩
end Go.Proofs.Ytdeeakjkhcdkaaa
