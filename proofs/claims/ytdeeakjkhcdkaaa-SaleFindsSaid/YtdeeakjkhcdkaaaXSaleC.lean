/- sale: slices.Clone of lines, copied, New. No conditions beyond those that are written. -/
import Derived.Test.YtdeeakjkhcdkaaaXSaleR
namespace Go.Proofs.Ytdeeakjkhcdkaaa
open Go.RowKit Go.Lib Go.Proofs.YtdeeakjkhcdkaaaW.PrintWords Go.Proofs.YtdeeakjkhcdkaaaW.PrintLast Go.Proofs.YtdeeakjkhcdkaaaW.PrintMore
set_option linter.unusedVariables false
set_option linter.unusedSimpArgs false
--@tables
theorem encL_ones (ls : List LN) : ∀ u ∈ ls.flatMap encL, u.oneCell' = true := by
  intro u hu
  obtain ⟨l, _, hl⟩ := List.mem_flatMap.mp hu
  exact encL_one l u hl
set_option maxHeartbeats 2000000 in
set_option maxRecDepth 100000 in
theorem lines_clone (ls : List LN) (hls : ls.length ≤ 1000000) (v : Value) (w : World) (hr : RowS encL w v ls) :
    Calls Try.prog 53 #[v] w fun x w' => ∃ v', x = .returned v' ∧ RowO encL 2 58 w' w.heap.size v' ls ∧ Below w.heap.size w w' := by
  have q22 : ∀ (w : World) (a : Option Addr) (n c n' c' : Nat), (binOp .eql 35 (.slice a n c) (.slice none n' c')).run Try.prog w = .ok (.bool a.isNone) w := fun w a n c n' c' => Lib.run_eql_slice_nil w _ _ a n c n' c' Try.underlying35
  rcases hr with ⟨rfl, rfl⟩ | ⟨g, off, cap, rfl, h2, h3, h4, h5⟩
  · go_enter Try.func53, Try.ntmps53
    go_wp2
    go_ret
    exact ⟨_, rfl, RowO.nil _ _ _ _ _, Below.refl _ _⟩
  · obtain ⟨i0, hi, hz0, hz1, hz2⟩ := info_parts ln_info
    have A := Lib.hid h5
    have HE := Lib.hid hls
    clear h5 hls h2 h3 h4
    go_enter Try.func53, Try.ntmps53
    go_wp2_with (at_builtin; refine wpList_append_own _ rfl _ _ 35 rfl w.heap.size 58 i0 (.agg #[.int .i64 0, .int .i64 0]) 2 16 Try.underlying35 hi hz0 hz1 hz2 rfl (by decide) _ _ _ rfl (World.ownsRow_made w #[] 0 (Nat.le_refl _) (Nat.zero_le _) rfl) ⟨g, off, none⟩ ls.length cap (ls.flatMap encL) rfl ?qc1 ?qc2 ?qc3 ?qc4 ?qc5 ?qc6 ?_)
    case qc1 => exact flat_len encL 2 encL_len ls
    case qc2 =>
      intro j u hj
      rw [Addr.add_lit]
      exact Lib.cell?_alloc_some _ (A.out j u hj)
    case qc3 => exact encL_ones ls
    case qc4 => have := HE.out; unfold maxLen; omega
    case qc5 => have := HE.out; omega
    case qc6 => simp
    intro v' w1 hown hgrow hnil
    go_wp2
    go_ret
    refine ⟨v', rfl, RowO.of_owns encL_len (by simpa using hown), ?_⟩
    exact ((Below.refl _ w).alloc (Nat.le_refl _) _).grown hgrow (by simp) (by intro k hk; simp [Value.ownBlock] at hk; omega)
theorem BoxT.free {w : World} {b : Nat} {t : TP} {v : Value} (h : BoxT w b t v) : w.frozen? ⟨b, 0, none⟩ = false ∧ w.frozen? ⟨b, 1, none⟩ = false ∧ w.frozen? ⟨b, 2, none⟩ = false ∧ w.frozen? ⟨b, 3, none⟩ = false ∧ w.frozen? ⟨b, 4, none⟩ = false ∧ w.frozen? ⟨b, 5, none⟩ = false ∧ w.frozen? ⟨b, 6, none⟩ = false ∧ w.frozen? ⟨b, 7, none⟩ = false := by
  unfold BoxT at h
  refine ⟨?_, ?_, ?_, ?_, ?_, ?_, ?_, ?_⟩
  all_goals (unfold World.frozen?; rw [h]; rfl)
theorem tx_size : (Try.prog.info? 37).map (·.size) = some 8 := by kernel_rfl
/-- All cells of a transaction's block are written. -/
theorem BoxT.set8 {w : World} {b : Nat} {t0 : TP} {v0 : Value} (h : BoxT w b t0 v0) (t : TP) (v : Value) :
    BoxT ((((((((w.setCell ⟨b, 0, none⟩ (.int .i64 t.num)).setCell ⟨b, 1, none⟩ (.int .u8 t.kind)).setCell ⟨b, 2, none⟩ (.int .i64 t.shift)).setCell ⟨b, 3, none⟩ (.int .i64 t.ref)).setCell ⟨b, 4, none⟩ (.int .i64 t.amount)).setCell ⟨b, 5, none⟩ (.int .i64 t.left)).setCell ⟨b, 6, none⟩ (.bool t.void)).setCell ⟨b, 7, none⟩ v) b t v := by
  unfold BoxT at h
  have h0 := heap_setCell_same _ b 0 _ _ (.int .i64 t.num) h
  have h1 := heap_setCell_same _ b 1 _ _ (.int .u8 t.kind) h0
  have h2 := heap_setCell_same _ b 2 _ _ (.int .i64 t.shift) h1
  have h3 := heap_setCell_same _ b 3 _ _ (.int .i64 t.ref) h2
  have h4 := heap_setCell_same _ b 4 _ _ (.int .i64 t.amount) h3
  have h5 := heap_setCell_same _ b 5 _ _ (.int .i64 t.left) h4
  have h6 := heap_setCell_same _ b 6 _ _ (.bool t.void) h5
  have h7 := heap_setCell_same _ b 7 _ _ v h6
  unfold BoxT
  rw [h7]
  simp
def z0 : TP := ⟨0, 0, 0, 0, 0, 0, false, []⟩
theorem below_set (B : Nat) {a w : World} {b i : Nat} {v : Value} (h : Below B a w) (hb : B ≤ b) : Below B a (w.setCell ⟨b, i, none⟩ v) := h.setCell (p := ⟨b, i, none⟩) hb v
theorem below_set8 {B : Nat} {a w : World} {b : Nat} (h : Below B a w) (hb : B ≤ b) (v0 v1 v2 v3 v4 v5 v6 v7 : Value) :
    Below B a ((((((((w.setCell ⟨b, 0, none⟩ v0).setCell ⟨b, 1, none⟩ v1).setCell ⟨b, 2, none⟩ v2).setCell ⟨b, 3, none⟩ v3).setCell ⟨b, 4, none⟩ v4).setCell ⟨b, 5, none⟩ v5).setCell ⟨b, 6, none⟩ v6).setCell ⟨b, 7, none⟩ v7) :=
  below_set B (below_set B (below_set B (below_set B (below_set B (below_set B (below_set B (below_set B h hb) hb) hb) hb) hb) hb) hb) hb
set_option maxHeartbeats 4000000 in
theorem copied_ok (t : TP) (v : Value) (w : World) (hl : t.ls.length ≤ 1000000) (hr : RowS encL w v t.ls) :
    Calls Try.prog 30 #[aggT t v] w fun e w' => ∃ v', e = .returned (aggT t v') ∧ RowO encL 2 58 w' w.heap.size v' t.ls ∧ Below w.heap.size w w' := by
  unfold aggT
  obtain ⟨va, vc, rfl, _⟩ := hr.len
  have HR := Lib.hid hr; clear hr
  have HL := Lib.hid hl; clear hl
  have hb := below_alloc (Below.refl w.heap.size w) (.cells #[.int .i64 t.num, .int .u8 t.kind, .int .i64 t.shift, .int .i64 t.ref, .int .i64 t.amount, .int .i64 t.left, .bool t.void, .slice va t.ls.length vc] 37)
  have hX := BoxT.new w t (.slice va t.ls.length vc)
  go_enter Try.func30, Try.ntmps30
  go_wp2_with fail
  have hs1 : (w.alloc (.cells #[.int .i64 t.num, .int .u8 t.kind, .int .i64 t.shift, .int .i64 t.ref, .int .i64 t.amount, .int .i64 t.left, .bool t.void, .slice va t.ls.length vc] 37)).heap.size = w.heap.size + 1 := by simp
  generalize w.alloc (.cells #[.int .i64 t.num, .int .u8 t.kind, .int .i64 t.shift, .int .i64 t.ref, .int .i64 t.amount, .int .i64 t.left, .bool t.void, .slice va t.ls.length vc] 37) = w1 at hb hX hs1 ⊢
  have hb2 := below_alloc (Below.refl w1.heap.size w1) (.cells #[.int .i64 0, .int .u8 0, .int .i64 0, .int .i64 0, .int .i64 0, .int .i64 0, .bool false, .slice none 0 0] 37)
  have hZ := BoxT.new w1 z0 (.slice none 0 0)
  generalize hw2 : w1.alloc (.cells #[.int .i64 0, .int .u8 0, .int .i64 0, .int .i64 0, .int .i64 0, .int .i64 0, .bool false, .slice none 0 0] 37) = w2 at hb2 ⊢
  replace hZ : BoxT w2 w1.heap.size z0 (.slice none 0 0) := hw2 ▸ hZ
  rw [hs1] at hZ
  have HX := Lib.hid (hX.below hb2)
  have HB := Lib.hid (chain2 hb hb2)
  have HZ := Lib.hid hZ
  have Hbz := Lib.hid (Nat.le_succ w.heap.size)
  have Hbx := Lib.hid (Nat.le_refl w.heap.size)
  clear hX hb hb2 hZ hs1 hw2
  have hszs : w.heap.size ≠ w.heap.size + 1 := by omega
  replace Hbz := Lib.hid (show w.heap.size ≤ w.heap.size + 1 from Nat.le_succ _)
  generalize hbz : w.heap.size + 1 = bz at HZ Hbz hszs ⊢
  generalize hbx : w.heap.size = bx at HX hszs ⊢
  have Hle := Lib.hid (show w.heap.size ≤ bx ∧ w.heap.size ≤ bz by omega)
  have HNe := Lib.hid hszs
  clear hbz hbx hszs Hbz Hbx
  refine (lines_clone t.ls HL.out _ w2 (HR.out.below HB.out)).mono ?_
  rintro e w3 ⟨v', rfl, ho, hd⟩
  obtain ⟨a', c', rfl⟩ := ho.form
  replace HX := Lib.hid (HX.out.below hd)
  replace HZ := Lib.hid (HZ.out.below hd)
  have HO := Lib.hid (ho.mono HB.out.size); clear ho
  replace HB := Lib.hid (chain2 HB.out hd); clear hd
  obtain ⟨c0, c1, c2, c3, c4, c5, c6, c7⟩ := HX.out.cells
  obtain ⟨d0, d1, d2, d3, d4, d5, d6, d7⟩ := HZ.out.cells
  obtain ⟨_, _, _, _, _, _, _, f7⟩ := HX.out.free
  obtain ⟨g0, g1, g2, g3, g4, g5, g6, g7⟩ := HZ.out.free
  have hne := HNe.out
  have hne2 := HNe.out.symm
  go_wp2
  have hz := HZ.out
  have hzz : BoxT (w3.setCell ⟨bx, 7, none⟩ (.slice a' t.ls.length c')) bz z0 (.slice none 0 0) := ((Lib.grownBy_setCell w3 bx 7 _).block bz (blk_lt hz) (by intro e; cases e; exact hne rfl)).trans hz
  have h8 := hzz.set8 t (.slice a' t.ls.length c')
  refine bodyPost_ret (results_single rfl (.cell bz 37 _ (0, 0) _ rfl h8 Try.underlying37 rfl tx_size .nil)) rfl ?_
  refine ⟨_, rfl, ?_, below_set8 (below_set _ HB.out Hle.out.1) Hle.out.2 _ _ _ _ _ _ _ _⟩
  have n1 := HO.out.ne HX.out (by decide)
  have n2 := HO.out.ne HZ.out (by decide)
  exact (((((((((HO.out.other n1 7 _).other n2 0 _).other n2 1 _).other n2 2 _).other n2 3 _).other n2 4 _).other n2 5 _).other n2 6 _).other n2 7 _)
end Go.Proofs.Ytdeeakjkhcdkaaa
