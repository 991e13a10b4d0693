/- SaleFinds: the walk. No conditions beyond the form's own reach. -/
import Derived.Test.YtdeeakjkhcdkaaaXSaleF4
import Derived.Deep.CutRange
namespace Go.Proofs.Ytdeeakjkhcdkaaa
open Go.RowKit Go.Lib Go.Proofs.YtdeeakjkhcdkaaaW.PrintWords Go.Proofs.YtdeeakjkhcdkaaaW.PrintLast Go.Proofs.YtdeeakjkhcdkaaaW.PrintMore
set_option linter.unusedVariables false
set_option linter.unusedSimpArgs false
--@tables
theorem RegAt.facts {w : World} {base g keep next : Nat} {ps : List TP} (h : RegAt w base g keep next ps) : ∀ t ∈ ps, 0 ≤ t.left ∧ t.ls.length ≤ 8 := by
  obtain ⟨v, xs, k1, rfl⟩ := h
  intro t ht
  obtain ⟨x, hx, rfl⟩ := List.mem_map.mp ht
  exact ⟨(k1.lf x hx).1, k1.ll x hx⟩
theorem RegAt.len {w : World} {base g keep next : Nat} {ps : List TP} (h : RegAt w base g keep next ps) : ps.length ≤ keep := by
  obtain ⟨v, xs, k1, rfl⟩ := h
  rw [List.length_map]; exact k1.len
/-- The law's five numbers. -/
def BoxQ (w : World) (b : Nat) (q0 q1 q2 q3 q4 : Int) : Prop := w.heap[b]? = some (.cells #[.int .i64 q0, .int .i64 q1, .int .i64 q2, .int .i64 q3, .int .i64 q4] 52 (0, 0))
theorem BoxQ.cells {w : World} {b : Nat} {q0 q1 q2 q3 q4 : Int} (h : BoxQ w b q0 q1 q2 q3 q4) : w.cell? ⟨b, 0, none⟩ = some (.int .i64 q0) ∧ w.cell? ⟨b, 1, none⟩ = some (.int .i64 q1) :=
  ⟨cell_of_row w b 0 _ _ (0, 0) h, cell_of_row w b 1 _ _ (0, 0) h⟩
/-- What a round over the kept ones holds. -/
structure FindW (w0 w : World) (b0 bq bt : Nat) (q0 q1 q2 q3 q4 : Int) (a : AK) (kv : Value) (t : TP) (tv : Value) : Prop where
  q : BoxQ w b0 q0 q1 q2 q3 q4
  k : BoxK w bq a kv
  bx : BoxT w bt t tv
  b : Below w0.heap.size w0 w
theorem FindW.below {w0 w w' : World} {b0 bq bt : Nat} {q0 q1 q2 q3 q4 : Int} {a : AK} {kv : Value} {t : TP} {tv : Value} (h : FindW w0 w b0 bq bt q0 q1 q2 q3 q4 a kv t tv) (hb : Below w.heap.size w w') : FindW w0 w' b0 bq bt q0 q1 q2 q3 q4 a kv t tv := ⟨blk_below h.q hb, blk_below h.k hb, h.bx.below hb, chain2 h.b hb⟩
/-- Two rows of numbers, apart. -/
structure TwoN (w : World) (base : Nat) (vw vb : Value) (nw nb : List Int) : Prop where
  w1 : RowO encN 1 3 w base vw nw
  w2 : RowO encN 1 3 w base vb nb
  ne : vw.ownBlock = none ∨ vw.ownBlock ≠ vb.ownBlock
theorem TwoN.below {w w' : World} {base : Nat} {vw vb : Value} {nw nb : List Int} (h : TwoN w base vw vb nw nb) (hb : Below w.heap.size w w') : TwoN w' base vw vb nw nb := ⟨h.w1.below hb, h.w2.below hb, h.ne⟩
theorem TwoN.more1 {w w' : World} {base : Nat} {vw vb vw' : Value} {nw nb nw' : List Int} (h : TwoN w base vw vb nw nb) (hr : RowO encN 1 3 w' base vw' nw') (hg : w.grownBy w' vw.ownBlock) (hk : ∀ g, vw'.ownBlock = some g → vw.ownBlock = some g ∨ w.heap.size ≤ g) : TwoN w' base vw' vb nw' nb := by
  refine ⟨hr, h.w2.grown hg ?_, ?_⟩
  · cases hb : vb.ownBlock with
    | none => exact .inl rfl
    | some b => right; intro e; exact h.ne.elim (fun h0 => by rw [h0] at e; cases e) (fun h1 => h1 (by rw [← e, hb]))
  · cases hw : vw'.ownBlock with
    | none => exact .inl rfl
    | some b =>
      right
      intro e
      rcases hk b hw with h1 | h1
      · exact h.ne.elim (fun h0 => by rw [h0] at h1; cases h1) (fun h2 => h2 (h1.trans e))
      · have := (h.w2.lt b e.symm).2; omega
theorem TwoN.more2 {w w' : World} {base : Nat} {vw vb vb' : Value} {nw nb nb' : List Int} (h : TwoN w base vw vb nw nb) (hr : RowO encN 1 3 w' base vb' nb') (hg : w.grownBy w' vb.ownBlock) (hk : ∀ g, vb'.ownBlock = some g → vb.ownBlock = some g ∨ w.heap.size ≤ g) : TwoN w' base vw vb' nw nb' := by
  refine ⟨h.w1.grown hg ?_, hr, ?_⟩
  · cases hb : vw.ownBlock with
    | none => exact .inl rfl
    | some b => right; intro e; exact h.ne.elim (fun h0 => by rw [h0] at hb; cases hb) (fun h1 => h1 (by rw [hb, e]))
  · cases hw : vw.ownBlock with
    | none => exact .inl rfl
    | some b =>
      right
      intro e
      rcases hk b e.symm with h1 | h1
      · exact h.ne.elim (fun h0 => by rw [h0] at hw; cases hw) (fun h2 => h2 (by rw [hw, h1]))
      · have := (h.w1.lt b hw).2; omega
theorem FindW.grown {w0 w w' : World} {base b0 bq bt : Nat} {q0 q1 q2 q3 q4 : Int} {a : AK} {kv : Value} {t : TP} {tv v : Value} {ns : List Int} (h : FindW w0 w b0 bq bt q0 q1 q2 q3 q4 a kv t tv) (hr : RowO encN 1 3 w base v ns) (hb : w0.heap.size ≤ base) (hg : w.grownBy w' v.ownBlock) : FindW w0 w' b0 bq bt q0 q1 q2 q3 q4 a kv t tv :=
  ⟨(hg.block b0 (blk_lt h.q) (fun e => hr.ne h.q (by decide) e.symm)).trans h.q, (hg.block bq (blk_lt h.k) (fun e => hr.ne h.k (by decide) e.symm)).trans h.k, (hg.block bt (blk_lt h.bx) (fun e => hr.ne h.bx (by decide) e.symm)).trans h.bx, pw_below_grown h.b _ h.b.size hg (fun k hk => Nat.le_trans hb (hr.lt k hk).1)⟩
/-- A block of another type is written: the register stays. -/
theorem RegAt.setO {w : World} {base g keep next b i : Nat} {ps : List TP} {cs : Array Value} {ty : TypeId} {z : Nat × Nat} {u : Value} (h : RegAt w base g keep next ps) (hb : w.heap[b]? = some (.cells cs ty z)) (h1 : 88 ≠ ty) (h2 : 37 ≠ ty) (h3 : 58 ≠ ty) : RegAt (w.setCell ⟨b, i, none⟩ u) base g keep next ps := by
  obtain ⟨v, xs, k1, k2⟩ := h
  have hg := Lib.grownBy_setCell w b i u
  refine ⟨v, xs, { k1 with box := (hg.block g k1.lt (fun e => ?_)).trans k1.box, row := k1.row.grown hg (.inr (k1.row.ne hb h2)), lines := fun x hx => RowO.grown (k1.lines x hx) hg (.inr (RowO.ne (k1.lines x hx) hb h3)) }, k2⟩
  cases e
  have := k1.box
  rw [hb] at this
  simp only [Option.some.injEq, Obj.cells.injEq] at this
  exact h1 this.2.1.symm
theorem two_kinds {w : World} {b : Nat} {kd : Int} (h : w.heap[b]? = some (.cells #[.int .u8 kd, .int .u8 1] 32 (0, 0))) : RowS encU w (.slice (some ⟨b, 0, none⟩) 2 2) [kd, 1] := by
  refine .inr ⟨b, 0, 2, rfl, Nat.le_refl _, by decide, blk_lt h, fun j u hu => ?_⟩
  rw [Nat.zero_add]
  match j, hu with
  | 0, hu => simp [encU] at hu; rw [← hu]; exact cell_of_row w b 0 _ _ (0, 0) h
  | 1, hu => simp [encU] at hu; rw [← hu]; exact cell_of_row w b 1 _ _ (0, 0) h
  | j + 2, hu => simp [encU] at hu
set_option maxHeartbeats 16000000 in
set_option maxRecDepth 100000 in
theorem saleFinds_walk (a : Option Addr) (l : List TA) (ca : Nat) (ha : l.length ≤ ca ∧ ca ≤ maxLen) (q0 q1 q2 q3 q4 : Int) (op : Bool) (w : World) (hl : TasAt w a l) (hq4 : -9223372036854775808 ≤ q4 ∧ q4 < 9223372036854775808) :
    Calls Try.prog 5 #[.slice a l.length ca, .agg #[.int .i64 q0, .int .i64 q1, .int .i64 q2, .int .i64 q3, .int .i64 q4], .bool op] w fun e w' => e = .returned (.bool true) ∧ Below w.heap.size w w' := by
  have HLq := Lib.hid hl; clear hl
  obtain ⟨N, hN, hN1, hN2, hN3, hN4⟩ : ∃ N : Nat, (if 30 < (l.length : Int) then 30 else (l.length : Int)) = (N : Int) ∧ N ≤ l.length ∧ N ≤ 30 ∧ N ≤ ca ∧ min 30 l.length = N := ⟨min 30 l.length, by split <;> omega, by omega, by omega, by omega, rfl⟩
  have c1 : (0 ≤ (N : Int)) = True := eq_true (by omega)
  have c2 : ((N : Int) ≤ (ca : Int)) = True := eq_true (by omega)
  have c3 : (N ≤ ca) = True := eq_true hN3
  have c4 : decide (N ≤ ca) = true := decide_eq_true hN3
  have hNm : min (l.length : Int) 30 = (N : Int) := by rw [← hN]; split <;> omega
  have HCa := Lib.hid ha; clear ha
  have HN := Lib.hid (And.intro hN1 hN2); clear hN1 hN2 hN3 hN4
  have HQ4 := Lib.hid hq4; clear hq4
  have hb0 := below_alloc (Below.refl w.heap.size w) (.cells #[.int .i64 q0, .int .i64 q1, .int .i64 q2, .int .i64 q3, .int .i64 q4] 52)
  have HX0 := Lib.hid (heap_alloc_new w (.cells #[.int .i64 q0, .int .i64 q1, .int .i64 q2, .int .i64 q3, .int .i64 q4] 52))
  have HB0 := Lib.hid hb0; clear hb0
  go_enter Try.func5, Try.ntmps5
  go_upto_region 1 with (fail)
  generalize w.alloc (.cells #[.int .i64 q0, .int .i64 q1, .int .i64 q2, .int .i64 q3, .int .i64 q4] 52) = w0 at HX0 HB0 ⊢
  generalize w.heap.size = b0 at HX0 ⊢
  generalize Value.agg #[.int .i64 q0, .int .i64 q1, .int .i64 q2, .int .i64 q3, .int .i64 q4] = qv
  go_wp2_with fail
  refine (new_at 20 (by decide) (by decide) w0).mono ?_
  rintro e w1 ⟨g, rfl, hr, hb⟩
  have HR := Lib.hid hr; clear hr
  have HB := Lib.hid hb; clear hb
  have HG := Lib.hid HR.out.low
  go_wp2_with fail
  refine (wakes_ok w1).mono ?_
  rintro e w2 ⟨rfl, hd⟩
  replace HR := Lib.hid (HR.out.below hd)
  replace HB := Lib.hid (chain2 HB.out hd); clear hd
  go_wp2_with fail
  clear hN hNm c1 c2 c3 c4
  go_loopw [44] (fun i wr => ∃ (j next : Nat) (ps : List TP), j ≤ N ∧ i = .int .i64 (j : Int) ∧ RegAt wr w0.heap.size g 20 next ps ∧ Below w0.heap.size w0 wr) (fun i _ => N - (RowKit.intOf i).toNat)
  case atStart => exact ⟨0, 1, [], Nat.zero_le _, rfl, HR.out, HB.out⟩
  case round =>
    clear HR HB
    obtain ⟨j, next, ps, hj, rfl, hr, hb⟩ := hrel
    have HR := Lib.hid hr; clear hr
    have HB := Lib.hid hb; clear hb
    by_cases hlt : j < N
    · have hjl : j < l.length := Nat.lt_of_lt_of_le hlt HN.out.1
      obtain ⟨hin, g1, o1, rfl, hc⟩ := HLq.out j hjl
      obtain ⟨k0, k1, k2, k3, k4⟩ := (hc.below HB0.out).below HB.out
      have HIn := Lib.hid hin; clear hin hc
      generalize l[j] = x at k0 k1 k2 k3 k4 HIn
      obtain ⟨xk, xs, xr, xa, xc⟩ := x
      simp only at k0 k1 k2 k3 k4
      have e3 : wrap64 ((j : Int) + 1) = ((j + 1 : Nat) : Int) := wrap_succS j (by have := HN.out; omega)
      have Hlt := Lib.hid hlt
      go_wp2_with fail
      clear k0 k1 k2 k3 k4
      have hal := below_alloc (Below.refl wr.heap.size wr) (.cells #[.int .u8 xk, .int .i64 xs, .int .i64 xr, .int .i64 xa, .int .i64 xc] 31)
      replace HR := Lib.hid (HR.out.below hal)
      replace HB := Lib.hid (chain2 HB.out hal); clear hal
      have hof := of_ok ⟨xk, xs, xr, xa, xc⟩ (wr.alloc (.cells #[.int .u8 xk, .int .i64 xs, .int .i64 xr, .int .i64 xa, .int .i64 xc] 31))
      unfold aggA aggT at hof
      generalize wr.alloc (.cells #[.int .u8 xk, .int .i64 xs, .int .i64 xr, .int .i64 xa, .int .i64 xc] 31) = w4 at HR HB hof ⊢
      have htk : 0 ≤ (ofT ⟨xk, xs, xr, xa, xc⟩).kind ∧ (ofT ⟨xk, xs, xr, xa, xc⟩).kind < 256 := HIn.out.k
      have htl : (ofT ⟨xk, xs, xr, xa, xc⟩).ls.length ≤ 1 := lsA_len _
      refine hof.mono ?_
      clear hof
      rintro e w5 ⟨lv, rv, rfl, hl, hrv, hd⟩
      replace HR := Lib.hid (HR.out.below hd)
      replace HB := Lib.hid (chain2 HB.out hd); clear hd
      rw [show lsA ⟨xk, xs, xr, xa, xc⟩ = (ofT ⟨xk, xs, xr, xa, xc⟩).ls from rfl] at hl
      rw [show lsA ⟨xk, xs, xr, xa, xc⟩ = (ofR ⟨xk, xs, xr, xa, xc⟩).ls from rfl] at hrv
      generalize ofT ⟨xk, xs, xr, xa, xc⟩ = t at hl htk htl ⊢
      generalize ofR ⟨xk, xs, xr, xa, xc⟩ = r at hrv ⊢
      obtain ⟨la, lc, hv⟩ := hl.form
      subst hv
      obtain ⟨ra, rc, hv⟩ := hrv.form
      subst hv
      have HTk := Lib.hid (And.intro htk htl); clear htk htl hrv
      have HL := Lib.hid hl.rowS; clear hl
      go_wp2_with fail
      have hal := below_alloc (below_alloc (Below.refl w5.heap.size w5) (.cells #[.int .i64 t.num, .int .u8 t.kind, .int .i64 t.shift, .int .i64 t.ref, .int .i64 t.amount, .int .i64 t.left, .bool t.void, .slice la t.ls.length lc] 37)) (.cells #[.int .i64 r.num, .int .u8 r.kind, .int .i64 r.shift, .int .i64 r.ref, .int .i64 r.amount, .int .i64 r.left, .bool r.void, .slice ra r.ls.length rc] 40)
      have c1 := add_at t (.slice la t.ls.length lc) _ (HR.out.below hal) HTk.out.1 (HL.out.below hal) (by have := HTk.out.2; omega)
      unfold aggT at c1
      replace HB := Lib.hid (chain2 HB.out hal); clear hal HR HL
      generalize (w5.alloc (.cells #[.int .i64 t.num, .int .u8 t.kind, .int .i64 t.shift, .int .i64 t.ref, .int .i64 t.amount, .int .i64 t.left, .bool t.void, .slice la t.ls.length lc] 37)).alloc (.cells #[.int .i64 r.num, .int .u8 r.kind, .int .i64 r.shift, .int .i64 r.ref, .int .i64 r.amount, .int .i64 r.left, .bool r.void, .slice ra r.ls.length rc] 40) = w6 at HB c1 ⊢
      refine c1.mono ?_
      clear c1
      rintro e w7 ⟨rfl, hr, ht⟩
      have HR := Lib.hid hr; clear hr
      replace HB := Lib.hid (touch_below HB.out (Nat.le_refl _) HG.out HB.out.size ht); clear ht
      go_wp2_with fail
      exact ⟨⟨j + 1, _, _, Hlt.out, by rw [e3], HR.out, HB.out⟩, by rw [e3]; simp only [RowKit.intOf, Int.toNat_natCast]; exact Nat.sub_lt_sub_left Hlt.out (Nat.lt_succ_self j)⟩
    · obtain rfl : j = N := Nat.le_antisymm hj (Nat.le_of_not_lt hlt)
      have HX := Lib.hid (blk_below HX0.out HB.out)
      obtain ⟨M, hM, hM2⟩ : ∃ M : Nat, max 0 q4 = (M : Int) ∧ (if 0 < q4 then q4 else 0) = (M : Int) := ⟨(max 0 q4).toNat, by omega, by split <;> omega⟩
      obtain ⟨kd, hkd, hkd1, hkd2⟩ : ∃ kd : Nat, 1 + (M : Int) % 7 = (kd : Int) ∧ 1 ≤ kd ∧ kd ≤ 7 := ⟨1 + M % 7, by omega, by omega, by omega⟩
      have hk8 : IntKind.u8.wrap (kd : Int) = (kd : Int) := by rw [IntKind.wrap_u8]; omega
      have HKd := Lib.hid (And.intro hkd1 hkd2); clear hkd1 hkd2
      have x0 := cell_of_row wr b0 0 _ _ (0, 0) HX.out
      have x1 := cell_of_row wr b0 1 _ _ (0, 0) HX.out
      have x2 := cell_of_row wr b0 2 _ _ (0, 0) HX.out
      have x3 := cell_of_row wr b0 3 _ _ (0, 0) HX.out
      have x4 := cell_of_row wr b0 4 _ _ (0, 0) HX.out
      simp only [List.getElem?_toArray, List.getElem?_cons_succ, List.getElem?_cons_zero] at x0 x1 x2 x3 x4
      have hsz0 := HB.out.size
      have hsz1 := blk_lt HX.out
      go_upto_region 11 with (fail)
      clear x0 x1 x2 x3 x4
      have hal := below_alloc (Below.refl wr.heap.size wr) (.cells #[.slice none 0 0, .int .i64 q0, .int .i64 q1, .int .i64 q2, .int .i64 q3, .bool op] 55)
      have HK := Lib.hid (heap_alloc_new wr (.cells #[.slice none 0 0, .int .i64 q0, .int .i64 q1, .int .i64 q2, .int .i64 q3, .bool op] 55))
      replace HR := Lib.hid (HR.out.below hal)
      replace HX := Lib.hid (blk_below HX.out hal)
      replace HB := Lib.hid (chain2 HB.out hal)
      have HBq := Lib.hid (show w0.heap.size ≤ wr.heap.size ∧ b0 < wr.heap.size from ⟨hsz0, hsz1⟩)
      clear hal hsz0 hsz1
      generalize wr.alloc (.cells #[.slice none 0 0, .int .i64 q0, .int .i64 q1, .int .i64 q2, .int .i64 q3, .bool op] 55) = W2 at HK HR HX HB ⊢
      generalize wr.heap.size = bq at HK HBq ⊢
      have x4 := cell_of_row W2 b0 4 _ _ (0, 0) HX.out
      simp only [List.getElem?_toArray, List.getElem?_cons_succ, List.getElem?_cons_zero] at x4
      go_upto_if 74 with (fail)
      clear x4 hM hM2 hkd hk8
      go_cut [] from 75 (fun wx => ∃ (ks : List Int) (ka : Option Addr) (kc : Nat), (ks = if (kd : Int) ≤ 6 then [(kd : Int), 1] else []) ∧ ks.length ≤ 1000 ∧ RowS encU wx (.slice ka ks.length kc) ks ∧ BoxK wx bq ⟨ks, q0, q1, q2, q3, op⟩ (.slice ka ks.length kc) ∧ RegAt wx w0.heap.size g 20 next ps ∧ BoxQ wx b0 q0 q1 q2 q3 q4 ∧ Below w0.heap.size w0 wx)
      case first =>
        by_cases h6 : kd ≤ 6
        case pos =>
          have q1' : decide ((kd : Int) ≤ 6) = true := decide_eq_true (by omega)
          have q2' : decide (kd ≤ 6) = true := decide_eq_true h6
          have hal := below_alloc (Below.refl W2.heap.size W2) (.cells #[.int .u8 (kd : Int), .int .u8 1] 32)
          have HK2 := Lib.hid (blk_below HK.out hal)
          have HZ := Lib.hid (heap_alloc_new W2 (.cells #[.int .u8 (kd : Int), .int .u8 1] 32))
          have y0 := cell_of_row _ bq 0 _ _ (0, 0) HK2.out
          have f0 : (W2.alloc (.cells #[.int .u8 (kd : Int), .int .u8 1] 32)).frozen? ⟨bq, 0, none⟩ = false := by unfold World.frozen?; rw [HK2.out]; rfl
          go_wp2_with fail
          clear y0 f0 q1' q2'
          have hne : bq ≠ W2.heap.size := fun e => by have := blk_lt HK.out; omega
          have hg := Lib.grownBy_setCell (W2.alloc (.cells #[.int .u8 (kd : Int), .int .u8 1] 32)) bq 0 (.slice (some ⟨W2.heap.size, 0, none⟩) 2 2)
          have HKs := Lib.hid (two_kinds ((hg.block W2.heap.size (blk_lt HZ.out) (fun e => hne (by cases e; rfl))).trans HZ.out))
          have HKk := Lib.hid (show BoxK ((W2.alloc (.cells #[.int .u8 (kd : Int), .int .u8 1] 32)).setCell ⟨bq, 0, none⟩ (.slice (some ⟨W2.heap.size, 0, none⟩) 2 2)) bq ⟨[(kd : Int), 1], q0, q1, q2, q3, op⟩ (.slice (some ⟨W2.heap.size, 0, none⟩) 2 2) by unfold BoxK; rw [heap_setCell_same _ bq 0 _ _ _ HK2.out]; simp)
          have HKq := Lib.hid (show ([(kd : Int), 1] : List Int) = if (kd : Int) ≤ 6 then [(kd : Int), 1] else [] by rw [if_pos (by omega)])
          replace HR := Lib.hid ((HR.out.below hal).setO (i := 0) (u := .slice (some ⟨W2.heap.size, 0, none⟩) 2 2) HK2.out (by decide) (by decide) (by decide))
          have hxx := (hg.block b0 (Nat.lt_of_lt_of_le (blk_lt HX.out) hal.size) (fun e => by cases e; have := HBq.out.2; omega)).trans (blk_below HX.out hal)
          replace HX := Lib.hid hxx
          replace HB := Lib.hid (below_set w0.heap.size (chain2 HB.out hal) HBq.out.1 (i := 0) (v := .slice (some ⟨W2.heap.size, 0, none⟩) 2 2))
          clear hal HK2 HZ hne hg hxx HK h6
          go_meet
          case rel => exact ⟨_, _, 2, HKq.out, by simp, by exact HKs.out, by exact HKk.out, HR.out, HX.out, HB.out⟩
        case neg =>
          have q1' : decide ((kd : Int) ≤ 6) = false := decide_eq_false (by omega)
          have q2' : decide (kd ≤ 6) = false := decide_eq_false h6
          go_wp2_with fail
          clear q1' q2'
          have HKs := Lib.hid (show RowS encU W2 (.slice none 0 0) [] from RowS.nil _ _)
          have HKk := Lib.hid (show BoxK W2 bq ⟨[], q0, q1, q2, q3, op⟩ (.slice none 0 0) from HK.out)
          have HKq := Lib.hid (show ([] : List Int) = if (kd : Int) ≤ 6 then [(kd : Int), 1] else [] by rw [if_neg (by omega)])
          clear HK h6
          go_meet
          case rel => exact ⟨_, _, 0, HKq.out, by simp, by exact HKs.out, by exact HKk.out, HR.out, HX.out, HB.out⟩
      case rest =>
        obtain ⟨ks, ka, kc, hkq, hkl, hks, hkk, hr, hx, hb⟩ := hcut
        clear HR HX HB HK
        have HKq := Lib.hid hkq; clear hkq
        have HKl := Lib.hid hkl; clear hkl
        have HKs := Lib.hid hks; clear hks
        have HKk := Lib.hid hkk; clear hkk
        have HR := Lib.hid hr; clear hr
        have HX := Lib.hid hx; clear hx
        have HB := Lib.hid hb; clear hb
        generalize wc = W3 at HKs HKk HR HX HB ⊢
        go_wp2_with fail
        refine (list_at W3 HR.out).mono ?_
        rintro e W4 ⟨v', ys, rfl, hyr, hyl, hym, hd⟩
        have HFs := Lib.hid (show ∀ y ∈ ys, 0 ≤ y.1.left ∧ y.1.ls.length ≤ 8 from fun y hy => HR.out.facts y.1 (by rw [← hym]; exact List.mem_map.mpr ⟨y, hy, rfl⟩))
        have HYn := Lib.hid (show ys.length ≤ 20 by have := HR.out.len; rw [← hym, List.length_map] at this; exact this)
        have HYm := Lib.hid hym; clear hym
        replace HR := Lib.hid (HR.out.below hd)
        replace HB := Lib.hid (chain2 HB.out hd)
        have HKs4 := Lib.hid (HKs.out.below hd)
        have HKk4 := Lib.hid (show BoxK W4 bq _ _ from blk_below HKk.out hd)
        have HX4 := Lib.hid (show BoxQ W4 b0 q0 q1 q2 q3 q4 from blk_below HX.out hd)
        clear hd HKs HKk HX
        have HYr := Lib.hid hyr; clear hyr
        have HYl := Lib.hid hyl; clear hyl
        obtain ⟨ya, yc, hv⟩ := HYr.out.form
        subst hv
        go_wp2_with fail
        generalize hA : (⟨ks, q0, q1, q2, q3, op⟩ : AK) = A at HKk4 ⊢
        have HA := Lib.hid hA; clear hA
        go_loopw [15, 16, 81] (fun vw vb i wi => ∃ j : Nat, j ≤ ys.length ∧ i = .int .i64 (j : Int) ∧ TwoN wi W4.heap.size vw vb (numsF (wantF (kd : Int) A) ((ys.map Prod.fst).take j)) (numsF (backF q0) ((ys.map Prod.fst).take j)) ∧ Below W4.heap.size W4 wi) (fun _ _ i _ => ys.length - (RowKit.intOf i).toNat)
        case atStart => exact ⟨0, Nat.zero_le _, rfl, ⟨RowO.nil _ _ _ _ _, RowO.nil _ _ _ _ _, .inl rfl⟩, Below.refl _ _⟩
        case round =>
          obtain ⟨j, hj, rfl, h2n, hd⟩ := hrel
          have H2 := Lib.hid h2n; clear h2n
          have HD := Lib.hid hd; clear hd
          by_cases hlt : j < ys.length
          · have e3 : wrap64 ((j : Int) + 1) = ((j + 1 : Nat) : Int) := wrap_succS j (Nat.lt_of_lt_of_le hlt (Nat.le_trans HYn.out (by decide)))
            have hreg := HYr.out.below HD.out
            obtain ⟨gr, off, cc, hv⟩ := hreg.form1 (Nat.lt_of_le_of_lt (Nat.zero_le j) hlt)
            have hv2 := (Value.slice.inj hv).1
            subst hv2
            have hlin := (HYl.out _ (List.getElem_mem hlt)).below HD.out
            have hsl := hlin.sl
            obtain ⟨r0, r1, r2, r3, r4, r5, r6, r7⟩ := row8 hreg j hlt
            have hrs : RowS encL wr ys[j].2 ys[j].1.ls := RowO.rowS hlin
            have hfs := HFs.out _ (List.getElem_mem hlt)
            rw [hsl] at r7
            obtain ⟨la, ln, lc, hv3⟩ := sl_form hsl
            have hjm : j < (ys.map Prod.fst).length := by rw [List.length_map]; exact hlt
            have HT1 := Lib.hid (show numsF (wantF (kd : Int) A) ((ys.map Prod.fst).take (j + 1)) = if wantF (kd : Int) A ys[j].1 = true then numsF (wantF (kd : Int) A) ((ys.map Prod.fst).take j) ++ [ys[j].1.num] else numsF (wantF (kd : Int) A) ((ys.map Prod.fst).take j) by rw [List.take_succ_eq_append_getElem hjm, List.getElem_map]; exact numsF_snoc _ _ _)
            have HT2 := Lib.hid (show numsF (backF q0) ((ys.map Prod.fst).take (j + 1)) = if backF q0 ys[j].1 = true then numsF (backF q0) ((ys.map Prod.fst).take j) ++ [ys[j].1.num] else numsF (backF q0) ((ys.map Prod.fst).take j) by rw [List.take_succ_eq_append_getElem hjm, List.getElem_map]; exact numsF_snoc _ _ _)
            have hy1 : (numsF (wantF (kd : Int) A) ((ys.map Prod.fst).take j)).length ≤ 20 := Nat.le_trans (numsF_len _ _) (by rw [List.length_take, List.length_map]; exact Nat.le_trans (Nat.min_le_right _ _) HYn.out)
            have hy2 : (numsF (backF q0) ((ys.map Prod.fst).take j)).length ≤ 20 := Nat.le_trans (numsF_len _ _) (by rw [List.length_take, List.length_map]; exact Nat.le_trans (Nat.min_le_right _ _) HYn.out)
            clear hreg hv hlin hsl hjm
            generalize numsF (wantF (kd : Int) A) ((ys.map Prod.fst).take j) = nw at HT1 H2 hy1
            generalize numsF (backF q0) ((ys.map Prod.fst).take j) = nb at HT2 H2 hy2
            have HYw := Lib.hid (And.intro hy1 hy2); clear hy1 hy2
            generalize ys[j] = x at r0 r1 r2 r3 r4 r5 r6 r7 hrs hv3 hfs HT1 HT2
            obtain ⟨t, tv⟩ := x
            simp only at r0 r1 r2 r3 r4 r5 r6 r7 hrs hv3 hfs HT1 HT2
            subst hv3
            have HFt := Lib.hid hfs; clear hfs
            obtain ⟨ua, uc, hu⟩ := H2.out.w1.form
            subst hu
            obtain ⟨va, vc, hu⟩ := H2.out.w2.form
            subst hu
            obtain ⟨sl, hsl⟩ : ∃ n, n = t.ls.length := ⟨_, rfl⟩
            have hln : ln = sl := by obtain ⟨a, c, h, _⟩ := hrs.len; simp only [Value.slice.injEq] at h; rw [hsl]; exact h.2.1
            subst hln
            have HSl := Lib.hid hsl; clear hsl
            have HRs := Lib.hid hrs; clear hrs
            have hq1 : decide (j < ys.length) = true := decide_eq_true hlt
            have hq2 : decide ((j : Int) < (ys.length : Int)) = true := decide_eq_true (Int.ofNat_lt.mpr hlt)
            have Hlt := Lib.hid hlt; clear hlt hj
            go_upto_region 18 with (fail)
            clear r0 r1 r2 r3 r4 r5 r6 r7 hq1 hq2
            have hb := below_alloc (Below.refl wr.heap.size wr) (.cells #[.int .i64 t.num, .int .u8 t.kind, .int .i64 t.shift, .int .i64 t.ref, .int .i64 t.amount, .int .i64 t.left, .bool t.void, .slice la ln lc] 37)
            have HF := Lib.hid (FindW.mk (show BoxQ _ b0 q0 q1 q2 q3 q4 from blk_below HX4.out (chain2 HD.out hb)) (show BoxK _ bq A (.slice ka ks.length kc) from blk_below HKk4.out (chain2 HD.out hb)) (BoxT.new wr t (.slice la ln lc)) (chain2 HD.out hb))
            replace H2 := Lib.hid (H2.out.below hb)
            replace HRs := Lib.hid (HRs.out.below hb)
            clear hb
            generalize wr.alloc (.cells #[.int .i64 t.num, .int .u8 t.kind, .int .i64 t.shift, .int .i64 t.ref, .int .i64 t.amount, .int .i64 t.left, .bool t.void, .slice la ln lc] 37) = W5 at HF H2 HRs ⊢
            generalize wr.heap.size = bt at HF ⊢
            obtain ⟨z0q, z1q⟩ := HF.out.q.cells
            obtain ⟨y0, y1, y2, y3, y4, y5, y6, y7⟩ := HF.out.bx.cells
            go_wp2_with fail
            clear z0q z1q y0 y1 y2 y3 y4 y5 y6 y7
            go_loopw [19, 91] (fun hs i wi => ∃ p : Nat, p ≤ ln ∧ i = .int .i64 (p : Int) ∧ hs = .bool ((q1 == 0) || (t.ls.take p).any (onL q1)) ∧ Below W5.heap.size W5 wi) (fun _ i _ => ln - (RowKit.intOf i).toNat)
            case atStart => exact ⟨0, Nat.zero_le _, rfl, by simp, Below.refl _ _⟩
            case round =>
              obtain ⟨p, hp, rfl, hs, hd5⟩ := hrel
              subst hs
              have HD5 := Lib.hid hd5; clear hd5
              by_cases hlp : p < ln
              · have e4 : wrap64 ((p : Int) + 1) = ((p + 1 : Nat) : Int) := wrap_succS p (Nat.lt_of_lt_of_le hlp (Nat.le_trans (Nat.le_of_eq HSl.out) (Nat.le_trans HFt.out.2 (by decide))))
                have hpl : p < t.ls.length := Nat.lt_of_lt_of_eq hlp HSl.out
                rcases HRs.out with ⟨h1, h2⟩ | ⟨gg, og, cap', h1, h2, h3, h4, h5⟩
                · rw [h2] at hpl; exact absurd hpl (Nat.not_lt_zero _)
                have h6 := (Value.slice.inj h1).1
                subst h6
                obtain ⟨l1, l2⟩ := ln_cells (w := wr) (fun j u hu => pw_cell_below HD5.out (h5 j u hu)) p hpl
                have HTk := Lib.hid (show (t.ls.take (p + 1)).any (onL q1) = ((t.ls.take p).any (onL q1) || onL q1 t.ls[p]) by rw [List.take_succ_eq_append_getElem hpl, List.any_append]; simp)
                clear h1 h2 h3 h4 h5
                generalize t.ls[p] = x at l1 l2 HTk
                obtain ⟨xa, xm⟩ := x
                simp only at l1 l2
                have hq1 : ((p : Int) < (ln : Int)) = True := eq_true (Int.ofNat_lt.mpr hlp)
                have hq2 : decide ((p : Int) < (ln : Int)) = true := decide_eq_true (Int.ofNat_lt.mpr hlp)
                have hq3 : decide (p < ln) = true := decide_eq_true hlp
                have Hlp := Lib.hid hlp; clear hlp hp hpl
                go_upto_region 22 with (fail)
                clear l1 l2 hq1 hq2 hq3
                have hb := below_alloc (Below.refl wr.heap.size wr) (.cells #[.int .i64 xa, .int .i64 xm] 58)
                have hlx := heap_alloc_new wr (.cells #[.int .i64 xa, .int .i64 xm] 58)
                have z1q := ((HF.out.below HD5.out).below hb).q.cells.2
                have y0 := cell_of_row _ wr.heap.size 0 _ _ (0, 0) hlx
                have HD6 := Lib.hid (chain2 HD5.out hb)
                clear hb hlx HD5
                simp only [List.getElem?_toArray, List.getElem?_cons_zero] at y0
                generalize wr.alloc (.cells #[.int .i64 xa, .int .i64 xm] 58) = W6 at z1q y0 HD6 ⊢
                cases hbb : ((q1 == 0) || (t.ls.take p).any (onL q1)) with
                | true =>
                  have HV := Lib.hid (show ((q1 == 0) || (t.ls.take (p + 1)).any (onL q1)) = true by rw [HTk.out, ← Bool.or_assoc, hbb]; rfl)
                  clear hbb
                  go_wp2_with fail
                  exact ⟨⟨p + 1, Hlp.out, by rw [e4], by rw [HV.out], HD6.out⟩, by rw [e4]; simp only [RowKit.intOf, Int.toNat_natCast]; exact Nat.sub_lt_sub_left Hlp.out (Nat.lt_succ_self p)⟩
                | false =>
                  have HV := Lib.hid (show ((q1 == 0) || (t.ls.take (p + 1)).any (onL q1)) = (xa == q1) by rw [HTk.out, ← Bool.or_assoc, hbb]; rfl)
                  clear hbb
                  go_wp2_with fail
                  exact ⟨⟨p + 1, Hlp.out, by rw [e4], by rw [HV.out], HD6.out⟩, by rw [e4]; simp only [RowKit.intOf, Int.toNat_natCast]; exact Nat.sub_lt_sub_left Hlp.out (Nat.lt_succ_self p)⟩
              · obtain rfl : p = ln := Nat.le_antisymm hp (Nat.le_of_not_lt hlp)
                rw [show t.ls.take p = t.ls from List.take_of_length_le (Nat.le_of_eq HSl.out.symm)]
                go_upto_region 24 with (fail)
                replace HF := Lib.hid (HF.out.below HD5.out)
                replace H2 := Lib.hid (H2.out.below HD5.out)
                clear HD5 HRs hlp hp
                generalize hhb : ((q1 == 0) || t.ls.any (onL q1)) = hB
                have HhB := Lib.hid hhb; clear hhb
                go_cut [22] from 104 to 186 (fun s22 wx => s22 = .bool (decide (6 < (kd : Int)) || (t.kind == (kd : Int) || t.kind == 1)) ∧ FindW W4 wx b0 bq bt q0 q1 q2 q3 q4 A (.slice ka ks.length kc) t (.slice la p lc) ∧ TwoN wx W4.heap.size (.slice ua nw.length uc) (.slice va nb.length vc) nw nb)
                case first =>
                  have y1 := HF.out.bx.cells.2.1
                  by_cases h6 : 6 < kd
                  · have d1 : decide (6 < (kd : Int)) = true := decide_eq_true (by omega)
                    have d2 : decide (6 < kd) = true := decide_eq_true h6
                    replace h6 := Lib.hid h6
                    go_wp2_with fail
                    go_meet
                    case rel => exact ⟨by rw [d1]; rfl, HF.out, H2.out⟩
                  · have d1 : decide (6 < (kd : Int)) = false := decide_eq_false (by omega)
                    have d2 : decide (6 < kd) = false := decide_eq_false h6
                    replace h6 := Lib.hid h6
                    cases hk : (t.kind == (kd : Int)) with
                    | true =>
                      have HKe := Lib.hid hk
                      go_wp2_with fail
                      go_meet
                      case rel => exact ⟨by rw [d1, HKe.out]; rfl, HF.out, H2.out⟩
                    | false =>
                      have HKe := Lib.hid hk
                      go_wp2_with fail
                      go_meet
                      case rel => exact ⟨by rw [d1, HKe.out]; rfl, HF.out, H2.out⟩
                case rest =>
                  obtain ⟨rfl, hf, h2⟩ := hcut
                  clear HF H2
                  have HF := Lib.hid hf; clear hf
                  have H2 := Lib.hid h2; clear h2
                  generalize hkb : (decide (6 < (kd : Int)) || (t.kind == (kd : Int) || t.kind == 1)) = kB
                  have HkB := Lib.hid hkb; clear hkb
                  go_upto_region 25 with (fail)
                  have HW := Lib.hid (show wantF (kd : Int) A t = (kB && (hB && (((q0 == 0) || (t.shift == q0)) && (decide (q2 ≤ t.amount) && (decide (t.amount ≤ q3) && (!op || ((t.kind == 1) && decide (0 < t.left)))))))) by rw [← HkB.out, ← HhB.out, ← HA.out]; rfl)
                  go_cut [2, 19, 22, 160] from 161 to 186 (fun s2 s19 s22 s160 wx => s2 = .bool op ∧ s160 = .bool (wantF (kd : Int) A t) ∧ FindW W4 wx b0 bq bt q0 q1 q2 q3 q4 A (.slice ka ks.length kc) t (.slice la p lc) ∧ TwoN wx W4.heap.size (.slice ua nw.length uc) (.slice va nb.length vc) nw nb)
                  case first =>
                    --R25A
                    as_aux_lemma =>
                      obtain ⟨y0, y1, y2, y3, y4, y5, y6, y7⟩ := HF.out.bx.cells
                      have z0q := HF.out.q.cells.1
                      have x3 := HF.out.k.cells.2.2.2.1
                      have x4 := HF.out.k.cells.2.2.2.2.1
                      rw [show A.least = q2 by rw [← HA.out]] at x3
                      rw [show A.most = q3 by rw [← HA.out]] at x4
                      clear y0 y3 y6 y7
                      cases kB with
                      | false =>
                        go_wp2_with fail
                        go_meet
                        case rel => exact ⟨rfl, by rw [HW.out]; first | rfl | simp, HF.out, H2.out⟩
                      | true =>
                        cases hB with
                        | false =>
                          go_wp2_with fail
                          go_meet
                          case rel => exact ⟨rfl, by rw [HW.out]; first | rfl | simp, HF.out, H2.out⟩
                        | true =>
                          cases e0 : (q0 == 0) with
                          | true =>
                            have E0 := Lib.hid e0
                            cases e2 : decide (q2 ≤ t.amount) with
                            | false =>
                              have E2 := Lib.hid e2
                              go_wp2_with fail
                              go_meet
                              case rel => exact ⟨rfl, by rw [HW.out, E0.out, E2.out]; first | rfl | simp, HF.out, H2.out⟩
                            | true =>
                              have E2 := Lib.hid e2
                              cases e3 : decide (t.amount ≤ q3) with
                              | false =>
                                have E3 := Lib.hid e3
                                go_wp2_with fail
                                go_meet
                                case rel => exact ⟨rfl, by rw [HW.out, E0.out, E2.out, E3.out]; first | rfl | simp, HF.out, H2.out⟩
                              | true =>
                                have E3 := Lib.hid e3
                                cases op with
                                | false =>
                                  go_wp2_with fail
                                  go_meet
                                  case rel => exact ⟨rfl, by rw [HW.out, E0.out, E2.out, E3.out]; first | rfl | simp, HF.out, H2.out⟩
                                | true =>
                                  cases e5 : (t.kind == 1) with
                                  | false =>
                                    have E5 := Lib.hid e5
                                    go_wp2_with fail
                                    go_meet
                                    case rel => exact ⟨rfl, by rw [HW.out, E0.out, E2.out, E3.out, E5.out]; first | rfl | simp, HF.out, H2.out⟩
                                  | true =>
                                    have E5 := Lib.hid e5
                                    go_wp2_with fail
                                    go_meet
                                    case rel => exact ⟨rfl, by rw [HW.out, E0.out, E2.out, E3.out, E5.out]; first | rfl | simp, HF.out, H2.out⟩
                          | false =>
                            have E0 := Lib.hid e0
                            cases e1 : (t.shift == q0) with
                            | false =>
                              have E1 := Lib.hid e1
                              go_wp2_with fail
                              go_meet
                              case rel => exact ⟨rfl, by rw [HW.out, E0.out, E1.out]; first | rfl | simp, HF.out, H2.out⟩
                            | true =>
                              have E1 := Lib.hid e1
                              cases e2 : decide (q2 ≤ t.amount) with
                              | false =>
                                have E2 := Lib.hid e2
                                go_wp2_with fail
                                go_meet
                                case rel => exact ⟨rfl, by rw [HW.out, E0.out, E1.out, E2.out]; first | rfl | simp, HF.out, H2.out⟩
                              | true =>
                                have E2 := Lib.hid e2
                                cases e3 : decide (t.amount ≤ q3) with
                                | false =>
                                  have E3 := Lib.hid e3
                                  go_wp2_with fail
                                  go_meet
                                  case rel => exact ⟨rfl, by rw [HW.out, E0.out, E1.out, E2.out, E3.out]; first | rfl | simp, HF.out, H2.out⟩
                                | true =>
                                  have E3 := Lib.hid e3
                                  cases op with
                                  | false =>
                                    go_wp2_with fail
                                    go_meet
                                    case rel => exact ⟨rfl, by rw [HW.out, E0.out, E1.out, E2.out, E3.out]; first | rfl | simp, HF.out, H2.out⟩
                                  | true =>
                                    cases e5 : (t.kind == 1) with
                                    | false =>
                                      have E5 := Lib.hid e5
                                      go_wp2_with fail
                                      go_meet
                                      case rel => exact ⟨rfl, by rw [HW.out, E0.out, E1.out, E2.out, E3.out, E5.out]; first | rfl | simp, HF.out, H2.out⟩
                                    | true =>
                                      have E5 := Lib.hid e5
                                      go_wp2_with fail
                                      go_meet
                                      case rel => exact ⟨rfl, by rw [HW.out, E0.out, E1.out, E2.out, E3.out, E5.out]; first | rfl | simp, HF.out, H2.out⟩
                    --R25B
                  case rest =>
                    obtain ⟨rfl, rfl, hf, h2⟩ := hcut
                    clear HF H2
                    have HF := Lib.hid hf; clear hf
                    have H2 := Lib.hid h2; clear h2
                    go_upto_if 160 with (fail)
                    go_cut [15] from 104 to 186 (fun s15 wx => FindW W4 wx b0 bq bt q0 q1 q2 q3 q4 A (.slice ka ks.length kc) t (.slice la p lc) ∧ TwoN wx W4.heap.size s15 (.slice va nb.length vc) (numsF (wantF (kd : Int) A) ((ys.map Prod.fst).take (j + 1))) nb)
                    case first =>
                      cases hw : wantF (kd : Int) A t with
                      | true =>
                        have HE := Lib.hid (show numsF (wantF (kd : Int) A) ((ys.map Prod.fst).take (j + 1)) = nw ++ [t.num] by rw [HT1.out, if_pos hw])
                        clear hw
                        have hb := below_alloc (Below.refl wc.heap.size wc) (.cells #[.int .i64 t.num] 3)
                        have HBx := Lib.hid (encN_box (n := t.num) (cell_of_row _ wc.heap.size 0 _ _ (0, 0) (heap_alloc_new wc (.cells #[.int .i64 t.num] 3))))
                        have y0 := HF.out.bx.cells.1
                        have HF6 := Lib.hid (HF.out.below hb)
                        have H26 := Lib.hid (H2.out.below hb)
                        clear hb
                        go_wp2_with (at_builtin; refine wpList_rowO rfl _ _ encN_len encN_one (by decide) Try.underlying56 int_info rfl rfl rfl H26.out.w1 HF6.out.b.size ?qc1 ?qc2 ⟨wc.heap.size, 0, none⟩ 1 t.num rfl HBx.out ?_)
                        case qc1 => exact Nat.le_trans (Nat.succ_le_succ HYw.out.1) (by decide)
                        case qc2 => exact Nat.le_trans (Nat.mul_le_mul_right 8 (Nat.succ_le_succ HYw.out.1)) (by decide)
                        intro xa xc w3 ho hg hk
                        have HF7 := Lib.hid (HF6.out.grown H26.out.w1 (Nat.le_refl _) hg)
                        have H27 := Lib.hid (H26.out.more1 ho hg (fun g h => (hk g h).imp id (fun x => by rw [World.size_alloc]; exact x)))
                        clear ho hg hk y0
                        go_wp2_with fail
                        go_meet
                        case rel => exact ⟨HF7.out, by rw [HE.out]; exact H27.out⟩
                      | false =>
                        have HE := Lib.hid (show numsF (wantF (kd : Int) A) ((ys.map Prod.fst).take (j + 1)) = nw by rw [HT1.out, if_neg (by rw [hw]; decide)])
                        clear hw
                        go_wp2_with fail
                        go_meet
                        case rel => exact ⟨HF.out, by rw [HE.out]; exact H2.out⟩
                    case rest =>
                      obtain ⟨hf, h2⟩ := hcut
                      clear HF H2
                      have HF := Lib.hid hf; clear hf
                      have H2 := Lib.hid h2; clear h2
                      obtain ⟨ua2, uc2, hu⟩ := H2.out.w1.form
                      subst hu
                      go_upto_region 27 with (fail)
                      go_cut [180] from 181 to 186 (fun s180 wx => s180 = .bool (backF q0 t) ∧ FindW W4 wx b0 bq bt q0 q1 q2 q3 q4 A (.slice ka ks.length kc) t (.slice la p lc) ∧ TwoN wx W4.heap.size (.slice ua2 (numsF (wantF (kd : Int) A) ((ys.map Prod.fst).take (j + 1))).length uc2) (.slice va nb.length vc) (numsF (wantF (kd : Int) A) ((ys.map Prod.fst).take (j + 1))) nb)
                      case first =>
                        have y1 := HF.out.bx.cells.2.1
                        have y3 := HF.out.bx.cells.2.2.2.1
                        have z0q := HF.out.q.cells.1
                        cases hk2 : (t.kind == 2) with
                        | true =>
                          have HBk := Lib.hid (show backF q0 t = (t.ref == q0) by unfold backF backK; rw [show decide (t.kind = 2) = true from hk2]; rfl)
                          go_wp2_with fail
                          go_meet
                          case rel => exact ⟨by rw [HBk.out], HF.out, H2.out⟩
                        | false =>
                          cases hk3 : (t.kind == 3) with
                          | true =>
                            have HBk := Lib.hid (show backF q0 t = (t.ref == q0) by unfold backF backK; rw [show decide (t.kind = 2) = false from hk2, show decide (t.kind = 3) = true from hk3]; rfl)
                            go_wp2_with fail
                            go_meet
                            case rel => exact ⟨by rw [HBk.out], HF.out, H2.out⟩
                          | false =>
                            have HBk := Lib.hid (show backF q0 t = false by unfold backF backK; rw [show decide (t.kind = 2) = false from hk2, show decide (t.kind = 3) = false from hk3]; rfl)
                            go_wp2_with fail
                            go_meet
                            case rel => exact ⟨by rw [HBk.out], HF.out, H2.out⟩
                      case rest =>
                        obtain ⟨rfl, hf, h2⟩ := hcut
                        clear HF H2
                        have HF := Lib.hid hf; clear hf
                        have H2 := Lib.hid h2; clear h2
                        cases hw : backF q0 t with
                        | true =>
                          have HE := Lib.hid (show numsF (backF q0) ((ys.map Prod.fst).take (j + 1)) = nb ++ [t.num] by rw [HT2.out, if_pos hw])
                          clear hw
                          have hb := below_alloc (Below.refl wc.heap.size wc) (.cells #[.int .i64 t.num] 3)
                          have HBx := Lib.hid (encN_box (n := t.num) (cell_of_row _ wc.heap.size 0 _ _ (0, 0) (heap_alloc_new wc (.cells #[.int .i64 t.num] 3))))
                          have y0 := HF.out.bx.cells.1
                          have HF6 := Lib.hid (HF.out.below hb)
                          have H26 := Lib.hid (H2.out.below hb)
                          clear hb
                          go_wp2_with (at_builtin; refine wpList_rowO rfl _ _ encN_len encN_one (by decide) Try.underlying56 int_info rfl rfl rfl H26.out.w2 HF6.out.b.size ?qc1 ?qc2 ⟨wc.heap.size, 0, none⟩ 1 t.num rfl HBx.out ?_)
                          case qc1 => exact Nat.le_trans (Nat.succ_le_succ HYw.out.2) (by decide)
                          case qc2 => exact Nat.le_trans (Nat.mul_le_mul_right 8 (Nat.succ_le_succ HYw.out.2)) (by decide)
                          intro xa xc w3 ho hg hk
                          have HF7 := Lib.hid (HF6.out.grown H26.out.w2 (Nat.le_refl _) hg)
                          have H27 := Lib.hid (H26.out.more2 ho hg (fun g h => (hk g h).imp id (fun x => by rw [World.size_alloc]; exact x)))
                          rw [← HE.out] at H27
                          clear ho hg hk y0
                          go_wp2_with fail
                          exact ⟨⟨j + 1, Hlt.out, by rw [e3], H27.out, HF7.out.b⟩, by rw [e3]; simp only [RowKit.intOf, Int.toNat_natCast]; exact Nat.sub_lt_sub_left Hlt.out (Nat.lt_succ_self j)⟩
                        | false =>
                          have HE := Lib.hid (show numsF (backF q0) ((ys.map Prod.fst).take (j + 1)) = nb by rw [HT2.out, if_neg (by rw [hw]; decide)])
                          clear hw
                          go_wp2_with fail
                          exact ⟨⟨j + 1, Hlt.out, by rw [e3], by rw [HE.out]; exact H2.out, HF.out.b⟩, by rw [e3]; simp only [RowKit.intOf, Int.toNat_natCast]; exact Nat.sub_lt_sub_left Hlt.out (Nat.lt_succ_self j)⟩
          · obtain rfl : j = ys.length := Nat.le_antisymm hj (Nat.le_of_not_lt hlt)
            clear hlt hj
            have hpl : (ys.map Prod.fst).take ys.length = ps := by rw [HYm.out]; exact List.take_of_length_le (by rw [← HYm.out, List.length_map]; exact Nat.le_refl _)
            rw [hpl] at H2
            have hmm : numsF (wantF (kd : Int) A) ps = numsF (meetsF A) ps := nums_congr fun t ht => want_meets _ _ t (by rw [← HA.out]; exact HKq.out) (by obtain ⟨y, hy, e⟩ := List.mem_map.mp (show t ∈ ys.map Prod.fst by rw [HYm.out]; exact ht); rw [← e]; exact (HFs.out y hy).1)
            rw [hmm] at H2
            clear hpl hmm
            have hps : ps.length ≤ 20 := by rw [← HYm.out, List.length_map]; exact HYn.out
            have HL1 := Lib.hid (show (numsF (meetsF A) ps).length ≤ 1000 from Nat.le_trans (numsF_len _ _) (Nat.le_trans hps (by decide)))
            have HL2 := Lib.hid (show (numsF (backF q0) ps).length ≤ 1000 from Nat.le_trans (numsF_len _ _) (Nat.le_trans hps (by decide)))
            clear hps
            obtain ⟨ua, uc, hu⟩ := H2.out.w1.form
            subst hu
            obtain ⟨va, vc, hu⟩ := H2.out.w2.form
            subst hu
            have HA2 := HA.out
            subst HA2
            obtain ⟨k0, k1, k2, k3, k4, k5⟩ := (show BoxK wr bq _ _ from blk_below HKk4.out HD.out).cells
            simp only at k0 k1 k2 k3 k4 k5
            have hf := find_at ⟨ks, q0, q1, q2, q3, op⟩ ka kc wr (HR.out.below HD.out) (HKs4.out.below HD.out) HKl.out
            unfold aggK at hf
            simp only at hf
            generalize numsF (meetsF ⟨ks, q0, q1, q2, q3, op⟩) ps = fl at H2 HL1 hf ⊢
            generalize hbl : numsF (backF q0) ps = bl at H2 HL2 ⊢
            have HBl := Lib.hid hbl; clear hbl
            go_wp2_with fail
            refine hf.mono ?_
            rintro e w5 ⟨v5, rfl, hv5, hd5⟩
            clear hf k0 k1 k2 k3 k4 k5
            replace H2 := Lib.hid (H2.out.below hd5)
            replace HD := Lib.hid (chain2 HD.out hd5); clear hd5
            have HV5 := Lib.hid hv5; clear hv5
            obtain ⟨fa, fc, hu⟩ := HV5.out.form
            subst hu
            go_wp2_with fail
            refine (list_same fl HL1.out _ _ w5 HV5.out.rowS H2.out.w1.rowS).mono ?_
            rintro e w6 ⟨rfl, hd5⟩
            replace H2 := Lib.hid (H2.out.below hd5)
            replace HD := Lib.hid (chain2 HD.out hd5); clear hd5 HV5
            have z0q := (show BoxQ w6 b0 q0 q1 q2 q3 q4 from blk_below HX4.out HD.out).cells.1
            go_wp2_with fail
            clear z0q
            refine (back_at q0 w6 (HR.out.below HD.out)).mono ?_
            rintro e w7 ⟨v5, rfl, hv5, hd5⟩
            rw [HBl.out] at hv5
            replace H2 := Lib.hid (H2.out.below hd5)
            replace HD := Lib.hid (chain2 HD.out hd5); clear hd5
            have HV5 := Lib.hid hv5; clear hv5
            obtain ⟨fa2, fc2, hu⟩ := HV5.out.form
            subst hu
            go_wp2_with fail
            refine (list_same bl HL2.out _ _ w7 HV5.out.rowS H2.out.w2.rowS).mono ?_
            rintro e w8 ⟨rfl, hd5⟩
            replace HD := Lib.hid (chain2 HD.out hd5); clear hd5 HV5 H2
            obtain ⟨k0, k1, k2, k3, k4, k5⟩ := (show BoxK w8 bq _ _ from blk_below HKk4.out HD.out).cells
            simp only at k0 k1 k2 k3 k4 k5
            have hf := find_nilR ⟨ks, q0, q1, q2, q3, op⟩ (.slice ka ks.length kc) w8 ⟨_, _, _, rfl⟩
            unfold aggK at hf
            simp only at hf
            go_wp2_with fail
            refine hf.mono ?_
            rintro e w9 ⟨rfl, hd5⟩
            clear hf k0 k1 k2 k3 k4 k5
            replace HD := Lib.hid (chain2 HD.out hd5); clear hd5
            go_wp2_with fail
            refine (back_nilR 1 w9).mono ?_
            rintro e w10 ⟨rfl, hd5⟩
            replace HD := Lib.hid (chain2 HD.out hd5); clear hd5
            go_wp2_with fail
            go_ret
            exact ⟨by rfl, chain2 HB0.out (chain2 HB.out HD.out)⟩
theorem saleFinds_law (a0 : Option Addr) (len0 cap0 : Nat) (a10 a11 a12 a13 a14 : Int) (a2 : Bool) (W : World) (w0 : RowIn W [.int .u8, .int .i64, .int .i64, .int .i64, .int .i64] a0 len0) (y0 : len0 ≤ cap0 ∧ cap0 ≤ maxLen) (w10 : (Lit.int .i64 a10).wf = true) (w11 : (Lit.int .i64 a11).wf = true) (w12 : (Lit.int .i64 a12).wf = true) (w13 : (Lit.int .i64 a13).wf = true) (w14 : (Lit.int .i64 a14).wf = true) :
    Calls Try.prog 5 #[.slice a0 len0 cap0, .agg #[.int .i64 a10, .int .i64 a11, .int .i64 a12, .int .i64 a13, .int .i64 a14], .bool a2] W fun e w' => e = .returned (.bool true) ∧ Below W.heap.size W w' := by
  obtain ⟨xs, rfl, h1⟩ := tas_of w0
  exact saleFinds_walk a0 xs cap0 y0 a10 a11 a12 a13 a14 a2 W h1 (wf_i64T w14)
end Go.Proofs.Ytdeeakjkhcdkaaa
