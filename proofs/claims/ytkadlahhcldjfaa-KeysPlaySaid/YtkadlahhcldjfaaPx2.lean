-- Made by a program of this session (xprint) out of the translation. Not trusted: Lean checks it.
import Derived.Test.YtkadlahhcldjfaaPx0
import Derived.Test.YtkadlahhcldjfaaPx1
namespace Go.Proofs.Ytkadlahhcldjfaa.P
open Go.RowKit Go.Proofs.YtkadlahhcldjfaaW.PrintWords Go.Proofs.YtkadlahhcldjfaaW.PrintLast Go.Proofs.YtkadlahhcldjfaaW.PrintMore
attribute [local go_sem] max2_int min2_int max_two min_two max_three min_three max_four min_four   -- for this text's walks alone
set_option linter.unusedVariables false
set_option linter.unusedSimpArgs false

/-! ### tillrollref24_Put: function 12 -/
mutual
def tillrollref24_Put.j0 : Nat → List (S45) → Int → Bool → Int → ByteArray → Int → Option ((List (S45)) × Int)
  | 0, _, _, _, _, _, _ => none
  | k + 1, x0, x1, x24, x105000, x105001, x105002 => if x24 = true then (some (x0, 2)) else ((tillrollref24_find.f k x0 x105000).bind fun t105 => (if t105 ≥ 0 then (some (x0, 16)) else (tillrollref24_Put.l0 k x0 x1 ([] : List (S45)) 0 x105000 x105001 x105002)))
def tillrollref24_Put.l0 : Nat → List (S45) → Int → List (S45) → Int → Int → ByteArray → Int → Option ((List (S45)) × Int)
  | 0, _, _, _, _, _, _, _ => none
  | k + 1, x0, x1, x9, x10, x105000, x105001, x105002 => if x10 < (x0.length : Int) then (if x10 > 0 then (if 0 ≤ x10 then (if x9.length < 4398046511104 then (tillrollref24_Put.l0 k x0 x1 (x9 ++ [(⟨(rd_T45 x0 x10).f0, (rd_T45 x0 x10).f1, (rd_T45 x0 x10).f2⟩ : S45)]) (wrap64 (x10 + 1)) x105000 x105001 x105002) else (none)) else (none)) else (if (x0.length : Int) < x1 then (if 0 ≤ x10 then (if x9.length < 4398046511104 then (tillrollref24_Put.l0 k x0 x1 (x9 ++ [(⟨(rd_T45 x0 x10).f0, (rd_T45 x0 x10).f1, (rd_T45 x0 x10).f2⟩ : S45)]) (wrap64 (x10 + 1)) x105000 x105001 x105002) else (none)) else (none)) else (tillrollref24_Put.l0 k x0 x1 x9 (wrap64 (x10 + 1)) x105000 x105001 x105002))) else (if x9.length < 4398046511104 then (some ((x9 ++ [(⟨x105000, x105001, x105002⟩ : S45)]), 0)) else (none))
end
def tillrollref24_Put.f (k : Nat) (l0 : List (S45)) (a1 : Int) (a2_0 : Int) (a2_1 : ByteArray) (a2_2 : Int) : Option ((List (S45)) × Int) := if (a2_1.size : Int) > 255 then (tillrollref24_Put.j0 k l0 a1 true a2_0 a2_1 a2_2) else (if a2_2 < 1 then (tillrollref24_Put.j0 k l0 a1 true a2_0 a2_1 a2_2) else (tillrollref24_Put.j0 k l0 a1 (decide (a2_2 > 4294967295)) a2_0 a2_1 a2_2))
theorem tillrollref24_Put.mono_l : ∀ k, (∀ y0 y1 y2 y3 y4 y5, LeO (tillrollref24_Put.j0 k y0 y1 y2 y3 y4 y5) (tillrollref24_Put.j0 (k + 1) y0 y1 y2 y3 y4 y5)) ∧ (∀ y0 y1 y2 y3 y4 y5 y6, LeO (tillrollref24_Put.l0 k y0 y1 y2 y3 y4 y5 y6) (tillrollref24_Put.l0 (k + 1) y0 y1 y2 y3 y4 y5 y6))
  | 0 => ⟨fun _ _ _ _ _ _ r h => by simp [tillrollref24_Put.j0] at h, fun _ _ _ _ _ _ _ r h => by simp [tillrollref24_Put.l0] at h⟩
  | k + 1 => by
    obtain ⟨ih0, ih1⟩ := tillrollref24_Put.mono_l k
    refine ⟨?_, ?_⟩
    · intro y0 y1 y2 y3 y4 y5
      unfold tillrollref24_Put.j0
      repeat' first
      | (with_reducible exact ih0 _ _ _ _ _ _)
      | (with_reducible exact ih1 _ _ _ _ _ _ _)
      | (with_reducible exact tillrollref24_find.mono _ _ _)
      | (with_reducible exact LeO.refl _)
      | (with_reducible exact LeO.none _)
      | (with_reducible refine LeO.ite ?_ ?_)
      | (with_reducible refine LeO.bind ?_ (fun _ => ?_))
      | exact ih0 _ _ _ _ _ _
      | exact ih1 _ _ _ _ _ _ _
      | exact tillrollref24_find.mono _ _ _
      | exact LeO.none _
      | refine LeO.ite ?_ ?_
      | refine LeO.bind ?_ (fun _ => ?_)
    · intro y0 y1 y2 y3 y4 y5 y6
      unfold tillrollref24_Put.l0
      repeat' first
      | (with_reducible exact ih0 _ _ _ _ _ _)
      | (with_reducible exact ih1 _ _ _ _ _ _ _)
      | (with_reducible exact tillrollref24_find.mono _ _ _)
      | (with_reducible exact LeO.refl _)
      | (with_reducible exact LeO.none _)
      | (with_reducible refine LeO.ite ?_ ?_)
      | (with_reducible refine LeO.bind ?_ (fun _ => ?_))
      | exact ih0 _ _ _ _ _ _
      | exact ih1 _ _ _ _ _ _ _
      | exact tillrollref24_find.mono _ _ _
      | exact LeO.none _
      | refine LeO.ite ?_ ?_
      | refine LeO.bind ?_ (fun _ => ?_)
theorem tillrollref24_Put.mono : ∀ a0 a1 a2 a3 a4 k, LeO (tillrollref24_Put.f k a0 a1 a2 a3 a4) (tillrollref24_Put.f (k + 1) a0 a1 a2 a3 a4) := by
  intro a0 a1 a2 a3 a4 k
  obtain ⟨ih0, ih1⟩ := tillrollref24_Put.mono_l k
  unfold tillrollref24_Put.f
  repeat' first
      | (with_reducible exact ih0 _ _ _ _ _ _)
      | (with_reducible exact ih1 _ _ _ _ _ _ _)
      | (with_reducible exact tillrollref24_find.mono _ _ _)
      | (with_reducible exact LeO.refl _)
      | (with_reducible exact LeO.none _)
      | (with_reducible refine LeO.ite ?_ ?_)
      | (with_reducible refine LeO.bind ?_ (fun _ => ?_))
      | exact ih0 _ _ _ _ _ _
      | exact ih1 _ _ _ _ _ _ _
      | exact tillrollref24_find.mono _ _ _
      | exact LeO.none _
      | refine LeO.ite ?_ ?_
      | refine LeO.bind ?_ (fun _ => ?_)
set_option maxHeartbeats 8000000 in
set_option maxRecDepth 100000 in
theorem tillrollref24_Put.calls (k : Nat) (P0_ : Nat → Prop) (u9000_ : Value) (l0 : List (S45)) (a1 : Int) (a2_0 : Int) (a2_1 : ByteArray) (a2_2 : Int) (r1 : List (S45)) (r2 : Int) (w0 w : World) (hB : Below w0.heap.size w0 w) (ho0 : Kd.R k45 45 w w0.heap.size P0_ u9000_ l0) (h : tillrollref24_Put.f k l0 a1 a2_0 a2_1 a2_2 = some (r1, r2)) :
    Calls Try.prog 12 #[u9000_, .int .i64 a1, .agg #[.int .u64 a2_0, .string a2_1, .int .i64 a2_2]] w fun e w' => ∃ v0_ : Value, e = .returned (.tuple #[v0_, .int .i64 r2]) ∧ Kd.R k45 45 w' w0.heap.size (fun k_ => (P0_ k_ ∨ w.heap.size ≤ k_)) v0_ r1 ∧ Below w0.heap.size w0 w' ∧ Kept w w' (fun k_ => P0_ k_) := by
  have hu45 := Try.underlying45
  have HO0 := Aside0.mk (show Kd.R k45 45 w w0.heap.size (fun k_ => (P0_ k_ ∨ w.heap.size ≤ k_)) u9000_ l0 from Kd.R_mono ho0 (fun k_ hk => (.inl hk)))
  have HK := Aside0.mk (Kept.refl w (fun k_ => P0_ k_))
  have HW0 := Aside0.mk hB.size
  have HB := Aside0.mk hB
  clear hB
  have H : (if (a2_1.size : Int) > 255 then (tillrollref24_Put.j0 k l0 a1 true a2_0 a2_1 a2_2) else (if a2_2 < 1 then (tillrollref24_Put.j0 k l0 a1 true a2_0 a2_1 a2_2) else (tillrollref24_Put.j0 k l0 a1 (decide (a2_2 > 4294967295)) a2_0 a2_1 a2_2))) = some (r1, r2) := h
  clear h
  have HC4 := Aside0.mk H
  clear H
  go_enter Try.func12, Try.ntmps12
  go_upto_region 1 with (first | ((with_reducible refine gate_dst (N := 5) rfl ?_); (try (refine gate_guard (by rfl) ?_; dsimp only)); refine box_event ?hg (N := 5) ?hd (cs := #[.int .u64 a2_0, .string a2_1, .int .i64 a2_2]) (t := 45) ?hr ?_; (case hd => rfl); (case hg => rfl); (case hr => first | (go_simp; done) | (go_simp; rfl)); intro gb104 hg w5 hbox hb; have n0_ := Aside0.mk (Kd.R_below (Kd.R_elderB (by (with_reducible repeat (first | apply Kd.R_alloc | apply Kd.R_drewN | apply Kd.R_drew)); exact HO0.out) gb104 (Nat.le_of_eq hg.symm)) hb); have n1_ := Aside0.mk (Kept.below (S := (fun k_ => P0_ k_)) (by repeat (first | (with_reducible first | exact HK.out | apply Kept.alloc | apply Kept.drewN | apply Kept.drew) | exact HK.out)) hb); have n2_ := Aside0.mk (below_step (by repeat (first | (with_reducible first | exact HB.out | apply below_alloc | apply pw_below_drewN | apply below_drew1) | exact HB.out)) hb); have n3_ := Aside0.mk (hbox); have n4_ := Aside0.mk ((by rw [hg]; exact (by first | exact HK.out.1 | exact (show Kept w _ (fun k_ => P0_ k_) from by repeat (first | (with_reducible first | exact HK.out | apply Kept.alloc | apply Kept.drewN | apply Kept.drew) | exact HK.out)).1) : w.heap.size ≤ gb104)); have n5_ := Aside0.mk ((by rw [hg]; exact (below_size (by repeat (first | (with_reducible first | exact HB.out | apply below_alloc | apply pw_below_drewN | apply below_drew1) | exact HB.out))) : w0.heap.size ≤ gb104)); clear HO0; clear HK; clear HB; have HO0 := n0_; have HK := n1_; have HB := n2_; have BK104 := n3_; have GW104 := n4_; have GE104 := n5_; clear n0_ n1_ n2_ n3_ n4_ n5_; clear hb hbox hg))
  (try simp only [Act.put, List.setIfInBounds_toArray, List.set_cons_zero, List.set_cons_succ])
  go_cut [24] (fun v24 wc => ∃ (kq : Nat) (x24_3 : Bool), v24 = .bool x24_3 ∧ Aside0 (tillrollref24_Put.j0 kq l0 a1 x24_3 a2_0 a2_1 a2_2 = some (r1, r2)) ∧ Aside0 (kq ≤ k) ∧ Aside0 (Kd.R k45 45 wc w0.heap.size (fun k_ => (P0_ k_ ∨ w.heap.size ≤ k_) ∧ k_ ≠ gb104) u9000_ l0) ∧ Aside0 (wc.heap[gb104]? = some (.cells #[.int .u64 a2_0, .string a2_1, .int .i64 a2_2] 45 (0, 0))) ∧ Aside0 (Kept w wc (fun k_ => P0_ k_)) ∧ Aside0 (Below w0.heap.size w0 wc))
  case first =>
    have H := HC4.out
    clear HC4
    by_cases c6 : (a2_1.size : Int) > 255
    · rw [if_pos c6] at H
      have c6b0 : decide (255 < (a2_1.size : Int)) = true := decide_eq_true c6
      have c6b1 : decide (255 < a2_1.size) = true := decide_eq_true (by omega)
      clear c6
      (first | rw [c6b0] | (simp only [i64_w, i32_w]; rw [c6b0]) | skip)
      have H' := Aside0.mk H
      clear H
      have hcz7_0 : w5.cell? ⟨gb104, 0, none⟩ = some (.int .u64 a2_0) := (blk_cell BK104.out 0).trans rfl
      have hcz7_1 : w5.cell? ⟨gb104, 1, none⟩ = some (.string a2_1) := (blk_cell BK104.out 1).trans rfl
      have hcz7_2 : w5.cell? ⟨gb104, 2, none⟩ = some (.int .i64 a2_2) := (blk_cell BK104.out 2).trans rfl
      have hfz7_0 := blk_frozen BK104.out 0
      have hfz7_1 := blk_frozen BK104.out 1
      have hfz7_2 := blk_frozen BK104.out 2
      go_wp2
      go_meet
      case rel => exact ⟨_, (true), (by first | rfl | (simp; done) | (simp [*]; done)), H', ⟨by first | omega | exact Nat.le_refl _⟩, ⟨by (with_reducible repeat (first | apply Kd.R_alloc | apply Kd.R_drewN | apply Kd.R_drew)); exact HO0.out⟩, ⟨by (with_reducible repeat (first | refine blk_drewN ?_ _ | refine blk_drew ?_ | refine blk_alloc ?_ _)); exact BK104.out⟩, ⟨by repeat (first | (with_reducible first | exact HK.out | apply Kept.alloc | apply Kept.drewN | apply Kept.drew | refine Kept.setCell ?_ (.inr GW104.out) _) | exact HK.out)⟩, ⟨by repeat (first | (with_reducible first | exact HB.out | apply below_alloc | apply pw_below_drewN | apply below_drew1 | refine below_set ?_ GE104.out) | exact HB.out)⟩⟩
    · rw [if_neg c6] at H
      have c6b0 : decide (255 < (a2_1.size : Int)) = false := decide_eq_false c6
      have c6b1 : decide (255 < a2_1.size) = false := decide_eq_false (by omega)
      clear c6
      (first | rw [c6b0] | (simp only [i64_w, i32_w]; rw [c6b0]) | skip)
      by_cases c8 : a2_2 < 1
      · rw [if_pos c8] at H
        have c8b0 : decide (a2_2 < 1) = true := decide_eq_true c8
        clear c8
        have H' := Aside0.mk H
        clear H
        have hcz9_0 : w5.cell? ⟨gb104, 0, none⟩ = some (.int .u64 a2_0) := (blk_cell BK104.out 0).trans rfl
        have hcz9_1 : w5.cell? ⟨gb104, 1, none⟩ = some (.string a2_1) := (blk_cell BK104.out 1).trans rfl
        have hcz9_2 : w5.cell? ⟨gb104, 2, none⟩ = some (.int .i64 a2_2) := (blk_cell BK104.out 2).trans rfl
        have hfz9_0 := blk_frozen BK104.out 0
        have hfz9_1 := blk_frozen BK104.out 1
        have hfz9_2 := blk_frozen BK104.out 2
        go_wp2
        go_meet
        case rel => exact ⟨_, (true), (by first | rfl | (simp; done) | (simp [*]; done)), H', ⟨by first | omega | exact Nat.le_refl _⟩, ⟨by (with_reducible repeat (first | apply Kd.R_alloc | apply Kd.R_drewN | apply Kd.R_drew)); exact HO0.out⟩, ⟨by (with_reducible repeat (first | refine blk_drewN ?_ _ | refine blk_drew ?_ | refine blk_alloc ?_ _)); exact BK104.out⟩, ⟨by repeat (first | (with_reducible first | exact HK.out | apply Kept.alloc | apply Kept.drewN | apply Kept.drew | refine Kept.setCell ?_ (.inr GW104.out) _) | exact HK.out)⟩, ⟨by repeat (first | (with_reducible first | exact HB.out | apply below_alloc | apply pw_below_drewN | apply below_drew1 | refine below_set ?_ GE104.out) | exact HB.out)⟩⟩
      · rw [if_neg c8] at H
        have c8b0 : decide (a2_2 < 1) = false := decide_eq_false c8
        clear c8
        have H' := Aside0.mk H
        clear H
        have hcz10_0 : w5.cell? ⟨gb104, 0, none⟩ = some (.int .u64 a2_0) := (blk_cell BK104.out 0).trans rfl
        have hcz10_1 : w5.cell? ⟨gb104, 1, none⟩ = some (.string a2_1) := (blk_cell BK104.out 1).trans rfl
        have hcz10_2 : w5.cell? ⟨gb104, 2, none⟩ = some (.int .i64 a2_2) := (blk_cell BK104.out 2).trans rfl
        have hfz10_0 := blk_frozen BK104.out 0
        have hfz10_1 := blk_frozen BK104.out 1
        have hfz10_2 := blk_frozen BK104.out 2
        go_wp2
        go_meet
        case rel => exact ⟨_, (decide (a2_2 > 4294967295)), (by first | rfl | (simp; done) | (simp [*]; done)), H', ⟨by first | omega | exact Nat.le_refl _⟩, ⟨by (with_reducible repeat (first | apply Kd.R_alloc | apply Kd.R_drewN | apply Kd.R_drew)); exact HO0.out⟩, ⟨by (with_reducible repeat (first | refine blk_drewN ?_ _ | refine blk_drew ?_ | refine blk_alloc ?_ _)); exact BK104.out⟩, ⟨by repeat (first | (with_reducible first | exact HK.out | apply Kept.alloc | apply Kept.drewN | apply Kept.drew | refine Kept.setCell ?_ (.inr GW104.out) _) | exact HK.out)⟩, ⟨by repeat (first | (with_reducible first | exact HB.out | apply below_alloc | apply pw_below_drewN | apply below_drew1 | refine below_set ?_ GE104.out) | exact HB.out)⟩⟩
  case rest =>
    clear HC4
    try clear c1
    try clear p2
    try clear c6
    try clear c6b0
    try clear c6b1
    try clear c8
    try clear c8b0
    try clear hcz10_0
    try clear hcz10_1
    try clear hcz10_2
    try clear hcz7_0
    try clear hcz7_1
    try clear hcz7_2
    try clear hcz9_0
    try clear hcz9_1
    try clear hcz9_2
    try clear hfz10_0
    try clear hfz10_1
    try clear hfz10_2
    try clear hfz7_0
    try clear hfz7_1
    try clear hfz7_2
    try clear hfz9_0
    try clear hfz9_1
    try clear hfz9_2
    obtain ⟨kq, x24_3, rfl, HA, HJ3, HO_0, BK104, HK, HB⟩ := hcut
    cases kq with
    | zero => exact absurd HA.out (by simp [tillrollref24_Put.j0])
    | succ kj3 =>
      have H := HA.out
      clear HA
      simp only [tillrollref24_Put.j0] at H
      by_cases c11 : x24_3 = true
      · subst c11
        have H1 : (some (l0, 2)) = some (r1, r2) := by rw [if_pos rfl] at H; exact H
        clear H
        have H := H1
        clear H1
        simp only [Option.some.injEq, Prod.mk.injEq] at H
        obtain ⟨rfl, rfl⟩ := H
        go_wp2
        go_ret2
        exact ⟨_, by first | rfl | (simp [errW_none, errW_some] <;> rfl) | (simp [*, errW_none, errW_some] <;> rfl), by (with_reducible repeat (first | apply Kd.R_alloc | apply Kd.R_drewN | apply Kd.R_drew)); exact Kd.R_mono HO_0.out (fun _ hk => hk.1), by repeat (first | (with_reducible first | exact HB.out | apply below_alloc | apply pw_below_drewN | apply below_drew1 | refine below_set ?_ GE104.out) | exact HB.out), by repeat (first | (with_reducible first | exact HK.out | apply Kept.alloc | apply Kept.drewN | apply Kept.drew | refine Kept.setCell ?_ (.inr GW104.out) _) | exact HK.out)⟩
      · replace c11 := Bool.eq_false_iff.mpr c11
        subst c11
        have H1 : ((tillrollref24_find.f kj3 l0 a2_0).bind fun t105 => (if t105 ≥ 0 then (some (l0, 16)) else (tillrollref24_Put.l0 kj3 l0 a1 ([] : List (S45)) 0 a2_0 a2_1 a2_2))) = some (r1, r2) := by rw [if_neg (show ¬ (false = true) by decide)] at H; exact H
        clear H
        have H := H1
        clear H1
        replace H := Option.bind_eq_some_iff.mp H
        obtain ⟨t105, A120, H⟩ := H
        replace H : (if t105 ≥ 0 then (some (l0, 16)) else (tillrollref24_Put.l0 kj3 l0 a1 ([] : List (S45)) 0 a2_0 a2_1 a2_2)) = some (r1, r2) := H
        have A12 := Aside0.mk A120
        clear A120
        by_cases c13 : t105 ≥ 0
        · rw [if_pos c13] at H
          have c13b0 : decide (0 ≤ t105) = true := decide_eq_true c13
          clear c13
          simp only [Option.some.injEq, Prod.mk.injEq] at H
          obtain ⟨rfl, rfl⟩ := H
          have hcz14_0 : wc.cell? ⟨gb104, 0, none⟩ = some (.int .u64 a2_0) := (blk_cell BK104.out 0).trans rfl
          have hcz14_1 : wc.cell? ⟨gb104, 1, none⟩ = some (.string a2_1) := (blk_cell BK104.out 1).trans rfl
          have hcz14_2 : wc.cell? ⟨gb104, 2, none⟩ = some (.int .i64 a2_2) := (blk_cell BK104.out 2).trans rfl
          have hfz14_0 := blk_frozen BK104.out 0
          have hfz14_1 := blk_frozen BK104.out 1
          have hfz14_2 := blk_frozen BK104.out 2
          obtain ⟨Ao15, co15, eo15⟩ := Kd.R_slice HO_0.out
          subst eo15
          go_wp2_with (first | ((with_reducible refine gate_callee (f := 21) rfl ?_); refine goesL_ (some 29) rfl rfl Try.func21 (by kernel_rfl) rfl #[.slice Ao15 l0.length co15, .int .u64 a2_0] rfl (by (try simp only [List.map_toArray, List.map_cons, List.map_nil]); first | done | rfl | (simp only [List.length_drop, List.length_take]; rfl) | (simp only [ByteArray.size_append]; rfl) | (simp only [ByteArray.size_extract]; rfl)) ?_; (with_reducible refine (tillrollref24_find.calls kj3 _ _ l0 a2_0 t105 _ ?side1 ?side2 A12.out).mono ?_); (case side1 => repeat (first | exact (Kd.R_reads' HO_0.out).2.2 | (with_reducible refine Kd.C_alloc ?_ _) | (with_reducible refine Kd.C_drewN ?_ _) | (with_reducible refine Kd.C_drew ?_))); (case side2 => exact (Kd.R_reads' HO_0.out).2.1); rintro e w' ⟨rfl, ⟨nd, rfl⟩⟩; refine ⟨_, rfl, ?_⟩))
          go_ret2
          exact ⟨_, by first | rfl | (simp [errW_none, errW_some] <;> rfl) | (simp [*, errW_none, errW_some] <;> rfl), by (with_reducible repeat (first | apply Kd.R_alloc | apply Kd.R_drewN | apply Kd.R_drew)); exact Kd.R_mono HO_0.out (fun _ hk => hk.1), by repeat (first | (with_reducible first | exact HB.out | apply below_alloc | apply pw_below_drewN | apply below_drew1 | refine below_set ?_ GE104.out) | exact HB.out), by repeat (first | (with_reducible first | exact HK.out | apply Kept.alloc | apply Kept.drewN | apply Kept.drew | refine Kept.setCell ?_ (.inr GW104.out) _) | exact HK.out)⟩
        · rw [if_neg c13] at H
          have c13b0 : decide (0 ≤ t105) = false := decide_eq_false c13
          clear c13
          have H' := Aside0.mk H
          clear H
          have hcz16_0 : wc.cell? ⟨gb104, 0, none⟩ = some (.int .u64 a2_0) := (blk_cell BK104.out 0).trans rfl
          have hcz16_1 : wc.cell? ⟨gb104, 1, none⟩ = some (.string a2_1) := (blk_cell BK104.out 1).trans rfl
          have hcz16_2 : wc.cell? ⟨gb104, 2, none⟩ = some (.int .i64 a2_2) := (blk_cell BK104.out 2).trans rfl
          have hfz16_0 := blk_frozen BK104.out 0
          have hfz16_1 := blk_frozen BK104.out 1
          have hfz16_2 := blk_frozen BK104.out 2
          obtain ⟨Ao17, co17, eo17⟩ := Kd.R_slice HO_0.out
          subst eo17
          go_wp2_with (first | ((with_reducible refine gate_callee (f := 21) rfl ?_); refine goesL_ (some 29) rfl rfl Try.func21 (by kernel_rfl) rfl #[.slice Ao17 l0.length co17, .int .u64 a2_0] rfl (by (try simp only [List.map_toArray, List.map_cons, List.map_nil]); first | done | rfl | (simp only [List.length_drop, List.length_take]; rfl) | (simp only [ByteArray.size_append]; rfl) | (simp only [ByteArray.size_extract]; rfl)) ?_; (with_reducible refine (tillrollref24_find.calls kj3 _ _ l0 a2_0 t105 _ ?side1 ?side2 A12.out).mono ?_); (case side1 => repeat (first | exact (Kd.R_reads' HO_0.out).2.2 | (with_reducible refine Kd.C_alloc ?_ _) | (with_reducible refine Kd.C_drewN ?_ _) | (with_reducible refine Kd.C_drew ?_))); (case side2 => exact (Kd.R_reads' HO_0.out).2.1); rintro e w' ⟨rfl, ⟨nd, rfl⟩⟩; refine ⟨_, rfl, ?_⟩))
          go_loopg [9, 10] kj3 (fun kq v9 v10 w' => ∃ (x9_2 : List (S45)) (x10_2 : Int), v10 = .int .i64 x10_2 ∧ Aside0 (tillrollref24_Put.l0 kq l0 a1 x9_2 x10_2 a2_0 a2_1 a2_2 = some (r1, r2)) ∧ Aside0 (kq ≤ kj3) ∧ Aside0 (Kd.R k45 45 w' w0.heap.size (fun k_ => (P0_ k_ ∨ w.heap.size ≤ k_) ∧ some k_ ≠ (v9 : Value).ownBlock ∧ k_ ≠ gb104) (.slice Ao17 l0.length co17) l0) ∧ Aside0 (Kd.R k45 45 w' w0.heap.size (fun k_ => (P0_ k_ ∨ w.heap.size ≤ k_) ∧ some k_ ≠ ((.slice Ao17 l0.length co17) : Value).ownBlock ∧ k_ ≠ gb104) v9 x9_2) ∧ Aside0 (w'.heap[gb104]? = some (.cells #[.int .u64 a2_0, .string a2_1, .int .i64 a2_2] 45 (0, 0))) ∧ Aside0 (Kept w w' (fun k_ => P0_ k_)) ∧ Aside0 (Below w0.heap.size w0 w'))
          case atStart => exact ⟨(([] : List (S45))), (0), (by first | rfl | (simp; done) | (simp [*]; done)), H', ⟨Nat.le_refl _⟩, ⟨by (with_reducible repeat (first | apply Kd.R_alloc | apply Kd.R_drewN | apply Kd.R_drew)); exact Kd.R_mono HO_0.out (fun _ hk => ⟨hk.1, ⟨(by simp [Value.ownBlock]), hk.2⟩⟩)⟩, ⟨by first | exact Kd.R_nil _ _ _ _ _ | exact Kd.N_nil _ _ _ _ _ | exact Kd.V_nil _ _ _ _ _ | exact Kd.Q_nil _ _ _ _ _ | exact Kd.S_nil _ _ _ _ _⟩, ⟨by (with_reducible repeat (first | refine blk_drewN ?_ _ | refine blk_drew ?_ | refine blk_alloc ?_ _)); exact BK104.out⟩, ⟨by repeat (first | (with_reducible first | exact HK.out | apply Kept.alloc | apply Kept.drewN | apply Kept.drew | refine Kept.setCell ?_ (.inr GW104.out) _) | exact HK.out)⟩, ⟨by repeat (first | (with_reducible first | exact HB.out | apply below_alloc | apply pw_below_drewN | apply below_drew1 | refine below_set ?_ GE104.out) | exact HB.out)⟩⟩
          case round =>
            clear H'
            try clear c1
            try clear c2
            try clear p2
            try clear c6
            try clear c6b0
            try clear c6b1
            try clear c8
            try clear c8b0
            try clear c11
            try clear c12
            try clear c13
            try clear c13b0
            try clear hcz10_0
            try clear hcz10_1
            try clear hcz10_2
            try clear hcz14_0
            try clear hcz14_1
            try clear hcz14_2
            try clear hcz16_0
            try clear hcz16_1
            try clear hcz16_2
            try clear hcz7_0
            try clear hcz7_1
            try clear hcz7_2
            try clear hcz9_0
            try clear hcz9_1
            try clear hcz9_2
            try clear hfz10_0
            try clear hfz10_1
            try clear hfz10_2
            try clear hfz14_0
            try clear hfz14_1
            try clear hfz14_2
            try clear hfz16_0
            try clear hfz16_1
            try clear hfz16_2
            try clear hfz7_0
            try clear hfz7_1
            try clear hfz7_2
            try clear hfz9_0
            try clear hfz9_1
            try clear hfz9_2
            try clear p2
            obtain ⟨x9_2, x10_2, rfl, HA, HK2, HO_0, HO_9, BK104, HK, HB⟩ := hrel
            cases gk with
            | zero => exact absurd HA.out (by simp [tillrollref24_Put.l0])
            | succ k2 =>
              have H := HA.out
              clear HA
              simp only [tillrollref24_Put.l0] at H
              by_cases c18 : x10_2 < (l0.length : Int)
              · rw [if_pos c18] at H
                have c18b0 : decide (x10_2 < (l0.length : Int)) = true := decide_eq_true c18
                clear c18
                by_cases c19 : x10_2 > 0
                · rw [if_pos c19] at H
                  have c19b0 : decide (0 < x10_2) = true := decide_eq_true c19
                  clear c19
                  by_cases c20 : 0 ≤ x10_2
                  · rw [if_pos c20] at H
                    have c20b0 : decide (0 ≤ x10_2) = true := decide_eq_true c20
                    clear c20
                    by_cases c21 : x9_2.length < 4398046511104
                    · rw [if_pos c21] at H
                      have LMc21 := Aside0.mk c21
                      clear c21
                      obtain ⟨y107, hy107⟩ : ∃ y_ : List (S45), y_ = (x9_2 ++ [(⟨(rd_T45 l0 x10_2).f0, (rd_T45 l0 x10_2).f1, (rd_T45 l0 x10_2).f2⟩ : S45)]) := ⟨_, rfl⟩
                      replace H : (tillrollref24_Put.l0 k2 l0 a1 y107 (wrap64 (x10_2 + 1)) a2_0 a2_1 a2_2) = some (r1, r2) := by first | (rw [hy107]; with_reducible exact H) | (have H2_ := (Option.bind_some _ _).symm.trans H; rw [hy107]; with_reducible exact H2_) | (have H2_ := (Option.bind_some _ _).symm.trans H; with_reducible exact H2_) | with_reducible exact H | (rw [hy107]; exact H) | exact H
                      have Ny107 := Aside0.mk hy107
                      clear hy107
                      have H' := Aside0.mk H
                      clear H
                      have p106 : 0 ≤ (x10_2 : Int) := of_decide_eq_true (by first | (with_reducible assumption) | assumption)
                      have q106 : x10_2 < (l0.length : Int) := of_decide_eq_true (by first | (with_reducible assumption) | assumption)
                      obtain ⟨ad106, e106, hx106_0, hx106_1, hx106_2⟩ := at_T45 (Kd.R_reads' HO_0.out).2.2 x10_2 p106 q106
                      cases e106
                      replace p106 := eq_true p106
                      replace q106 := eq_true q106
                      go_wp2_with (first | ((with_reducible refine gate_builtin (b := .append) (xs := #[.tmp 47, .tmp 52]) rfl ?_); (try (refine gate_guard (by rfl) ?_; dsimp only)); at_builtin; refine Kd.R_append k45 (w0 := w0) w0.heap.size rfl (.tmp 47) (.tmp 52) 40 45 (.agg #[(.int .u64 0), (.string ⟨#[]⟩), (.int .i64 0)]) 32 rfl Try.underlying40 info45 rfl (by decide) (by omega) u9 x9_2 (⟨(rd_T45 l0 x10_2).f0, (rd_T45 l0 x10_2).f1, (rd_T45 l0 x10_2).f2⟩ : S45) [.int .u64 ((rd_T45 l0 x10_2).f0), .string ((rd_T45 l0 x10_2).f1), .int .i64 ((rd_T45 l0 x10_2).f2)] (fun k_ => (P0_ k_ ∨ w.heap.size ≤ k_) ∧ some k_ ≠ (.slice (some ad106) l0.length co17 : Value).ownBlock ∧ k_ ≠ gb104) (fun _ => False) rfl rfl ?aP (fun _ hk => hk.elim) ?aF ?aO ?aB ?aS ?aL ?_; (case aP => exact k45_mkM _ _ _ (⟨(rd_T45 l0 x10_2).f0, (rd_T45 l0 x10_2).f1, (rd_T45 l0 x10_2).f2⟩ : S45)); (case aB => exact (by repeat (first | (with_reducible first | exact HB.out | apply below_alloc | apply pw_below_drewN | apply below_drew1 | refine below_set ?_ GE104.out) | exact HB.out))); (case aF => exact (fun k_ hk => ⟨(.inr (Nat.le_trans (by first | exact HK.out.1 | exact (show Kept w _ (fun k_ => P0_ k_) from by repeat (first | (with_reducible first | exact HK.out | apply Kept.alloc | apply Kept.drewN | apply Kept.drew | refine Kept.setCell ?_ (.inr GW104.out) _) | exact HK.out)).1) hk)), Kd.fresh' (Kd.R_lt (by (with_reducible repeat (first | apply Kd.R_alloc | apply Kd.R_drewN | apply Kd.R_drew)); exact HO_0.out)) k_ hk, Kd.freshB (g := gb104) (o := .cells #[.int .u64 a2_0, .string a2_1, .int .i64 a2_2] 45 (0, 0)) (by (with_reducible repeat (first | refine blk_drewN ?_ _ | refine blk_drew ?_ | refine blk_alloc ?_ _)); exact BK104.out) k_ hk⟩)); (case aO => exact (by (with_reducible repeat (first | apply Kd.R_alloc | apply Kd.R_drewN | apply Kd.R_drew)); exact HO_9.out)); (case aS => exact (below_size (by repeat (first | (with_reducible first | exact HB.out | apply below_alloc | apply pw_below_drewN | apply below_drew1 | refine below_set ?_ GE104.out) | exact HB.out)))); (case aL => have := LMc21.out; omega); intro v108 w22 ho hb hg hat; rw [← Ny107.out] at ho; have n0_ := Aside0.mk (Kd.R_after (ok := (fun k_ => (P0_ k_ ∨ w.heap.size ≤ k_) ∧ k_ ≠ gb104)) (by (with_reducible repeat (first | apply Kd.R_alloc | apply Kd.R_drewN | apply Kd.R_drew)); exact Kd.R_mono HO_0.out (fun _ hk => ⟨⟨hk.1, hk.2.2⟩, hk.2.1⟩)) hg hat); have n1_ := Aside0.mk (blk_grown (g := gb104) (o := .cells #[.int .u64 a2_0, .string a2_1, .int .i64 a2_2] 45 (0, 0)) (by (with_reducible repeat (first | refine blk_drewN ?_ _ | refine blk_drew ?_ | refine blk_alloc ?_ _)); exact BK104.out) hg (Kd.R_away HO_9.out (fun _ hk => hk.2.2))); have n2_ := Aside0.mk (hb); have n3_ := Aside0.mk (Kept.of_grown (S := (fun k_ => P0_ k_)) hg (by repeat (first | (with_reducible first | exact HK.out | apply Kept.alloc | apply Kept.drewN | apply Kept.drew | refine Kept.setCell ?_ (.inr GW104.out) _) | exact HK.out)) (fun k_ e_ => (HO_9.out.1 k_ e_).1)); have n4_ := Aside0.mk (ho); clear HO_0; clear BK104; clear HB; clear HK; clear HO_9; have HO_0 := n0_; have BK104 := n1_; have HB := n2_; have HK := n3_; have HO109 := n4_; clear n0_ n1_ n2_ n3_ n4_; clear ho hb hg hat))
                      go_roundg k2
                      case measure => have := HJ3.out; have := HK2.out; omega
                      case rel => exact ⟨(y107), (wrap64 (x10_2 + 1)), (by first | rfl | (simp; done) | (simp [*]; done)), H', ⟨by have := HJ3.out; have := HK2.out; omega⟩, ⟨by (with_reducible repeat (first | apply Kd.R_alloc | apply Kd.R_drewN | apply Kd.R_drew)); exact Kd.R_mono HO_0.out (fun _ hk => ⟨hk.1.1, ⟨hk.2, hk.1.2⟩⟩)⟩, ⟨by (with_reducible repeat (first | apply Kd.R_alloc | apply Kd.R_drewN | apply Kd.R_drew)); exact HO109.out⟩, ⟨by (with_reducible repeat (first | refine blk_drewN ?_ _ | refine blk_drew ?_ | refine blk_alloc ?_ _)); exact BK104.out⟩, ⟨by repeat (first | (with_reducible first | exact HK.out | apply Kept.alloc | apply Kept.drewN | apply Kept.drew | refine Kept.setCell ?_ (.inr GW104.out) _) | exact HK.out)⟩, ⟨by repeat (first | (with_reducible first | exact HB.out | apply below_alloc | apply pw_below_drewN | apply below_drew1 | refine below_set ?_ GE104.out) | exact HB.out)⟩⟩
                    · rw [if_neg c21] at H
                      exact absurd H (by simp)
                  · rw [if_neg c20] at H
                    exact absurd H (by simp)
                · rw [if_neg c19] at H
                  have c19b0 : decide (0 < x10_2) = false := decide_eq_false c19
                  clear c19
                  by_cases c23 : (l0.length : Int) < a1
                  · rw [if_pos c23] at H
                    have c23b0 : decide ((l0.length : Int) < a1) = true := decide_eq_true c23
                    clear c23
                    by_cases c24 : 0 ≤ x10_2
                    · rw [if_pos c24] at H
                      have c24b0 : decide (0 ≤ x10_2) = true := decide_eq_true c24
                      clear c24
                      by_cases c25 : x9_2.length < 4398046511104
                      · rw [if_pos c25] at H
                        have LMc25 := Aside0.mk c25
                        clear c25
                        obtain ⟨y111, hy111⟩ : ∃ y_ : List (S45), y_ = (x9_2 ++ [(⟨(rd_T45 l0 x10_2).f0, (rd_T45 l0 x10_2).f1, (rd_T45 l0 x10_2).f2⟩ : S45)]) := ⟨_, rfl⟩
                        replace H : (tillrollref24_Put.l0 k2 l0 a1 y111 (wrap64 (x10_2 + 1)) a2_0 a2_1 a2_2) = some (r1, r2) := by first | (rw [hy111]; with_reducible exact H) | (have H2_ := (Option.bind_some _ _).symm.trans H; rw [hy111]; with_reducible exact H2_) | (have H2_ := (Option.bind_some _ _).symm.trans H; with_reducible exact H2_) | with_reducible exact H | (rw [hy111]; exact H) | exact H
                        have Ny111 := Aside0.mk hy111
                        clear hy111
                        have H' := Aside0.mk H
                        clear H
                        have p110 : 0 ≤ (x10_2 : Int) := of_decide_eq_true (by first | (with_reducible assumption) | assumption)
                        have q110 : x10_2 < (l0.length : Int) := of_decide_eq_true (by first | (with_reducible assumption) | assumption)
                        obtain ⟨ad110, e110, hx110_0, hx110_1, hx110_2⟩ := at_T45 (Kd.R_reads' HO_0.out).2.2 x10_2 p110 q110
                        cases e110
                        replace p110 := eq_true p110
                        replace q110 := eq_true q110
                        go_wp2_with (first | ((with_reducible refine gate_builtin (b := .append) (xs := #[.tmp 47, .tmp 52]) rfl ?_); (try (refine gate_guard (by rfl) ?_; dsimp only)); at_builtin; refine Kd.R_append k45 (w0 := w0) w0.heap.size rfl (.tmp 47) (.tmp 52) 40 45 (.agg #[(.int .u64 0), (.string ⟨#[]⟩), (.int .i64 0)]) 32 rfl Try.underlying40 info45 rfl (by decide) (by omega) u9 x9_2 (⟨(rd_T45 l0 x10_2).f0, (rd_T45 l0 x10_2).f1, (rd_T45 l0 x10_2).f2⟩ : S45) [.int .u64 ((rd_T45 l0 x10_2).f0), .string ((rd_T45 l0 x10_2).f1), .int .i64 ((rd_T45 l0 x10_2).f2)] (fun k_ => (P0_ k_ ∨ w.heap.size ≤ k_) ∧ some k_ ≠ (.slice (some ad110) l0.length co17 : Value).ownBlock ∧ k_ ≠ gb104) (fun _ => False) rfl rfl ?aP (fun _ hk => hk.elim) ?aF ?aO ?aB ?aS ?aL ?_; (case aP => exact k45_mkM _ _ _ (⟨(rd_T45 l0 x10_2).f0, (rd_T45 l0 x10_2).f1, (rd_T45 l0 x10_2).f2⟩ : S45)); (case aB => exact (by repeat (first | (with_reducible first | exact HB.out | apply below_alloc | apply pw_below_drewN | apply below_drew1 | refine below_set ?_ GE104.out) | exact HB.out))); (case aF => exact (fun k_ hk => ⟨(.inr (Nat.le_trans (by first | exact HK.out.1 | exact (show Kept w _ (fun k_ => P0_ k_) from by repeat (first | (with_reducible first | exact HK.out | apply Kept.alloc | apply Kept.drewN | apply Kept.drew | refine Kept.setCell ?_ (.inr GW104.out) _) | exact HK.out)).1) hk)), Kd.fresh' (Kd.R_lt (by (with_reducible repeat (first | apply Kd.R_alloc | apply Kd.R_drewN | apply Kd.R_drew)); exact HO_0.out)) k_ hk, Kd.freshB (g := gb104) (o := .cells #[.int .u64 a2_0, .string a2_1, .int .i64 a2_2] 45 (0, 0)) (by (with_reducible repeat (first | refine blk_drewN ?_ _ | refine blk_drew ?_ | refine blk_alloc ?_ _)); exact BK104.out) k_ hk⟩)); (case aO => exact (by (with_reducible repeat (first | apply Kd.R_alloc | apply Kd.R_drewN | apply Kd.R_drew)); exact HO_9.out)); (case aS => exact (below_size (by repeat (first | (with_reducible first | exact HB.out | apply below_alloc | apply pw_below_drewN | apply below_drew1 | refine below_set ?_ GE104.out) | exact HB.out)))); (case aL => have := LMc25.out; omega); intro v112 w26 ho hb hg hat; rw [← Ny111.out] at ho; have n0_ := Aside0.mk (Kd.R_after (ok := (fun k_ => (P0_ k_ ∨ w.heap.size ≤ k_) ∧ k_ ≠ gb104)) (by (with_reducible repeat (first | apply Kd.R_alloc | apply Kd.R_drewN | apply Kd.R_drew)); exact Kd.R_mono HO_0.out (fun _ hk => ⟨⟨hk.1, hk.2.2⟩, hk.2.1⟩)) hg hat); have n1_ := Aside0.mk (blk_grown (g := gb104) (o := .cells #[.int .u64 a2_0, .string a2_1, .int .i64 a2_2] 45 (0, 0)) (by (with_reducible repeat (first | refine blk_drewN ?_ _ | refine blk_drew ?_ | refine blk_alloc ?_ _)); exact BK104.out) hg (Kd.R_away HO_9.out (fun _ hk => hk.2.2))); have n2_ := Aside0.mk (hb); have n3_ := Aside0.mk (Kept.of_grown (S := (fun k_ => P0_ k_)) hg (by repeat (first | (with_reducible first | exact HK.out | apply Kept.alloc | apply Kept.drewN | apply Kept.drew | refine Kept.setCell ?_ (.inr GW104.out) _) | exact HK.out)) (fun k_ e_ => (HO_9.out.1 k_ e_).1)); have n4_ := Aside0.mk (ho); clear HO_0; clear BK104; clear HB; clear HK; clear HO_9; have HO_0 := n0_; have BK104 := n1_; have HB := n2_; have HK := n3_; have HO113 := n4_; clear n0_ n1_ n2_ n3_ n4_; clear ho hb hg hat))
                        go_roundg k2
                        case measure => have := HJ3.out; have := HK2.out; omega
                        case rel => exact ⟨(y111), (wrap64 (x10_2 + 1)), (by first | rfl | (simp; done) | (simp [*]; done)), H', ⟨by have := HJ3.out; have := HK2.out; omega⟩, ⟨by (with_reducible repeat (first | apply Kd.R_alloc | apply Kd.R_drewN | apply Kd.R_drew)); exact Kd.R_mono HO_0.out (fun _ hk => ⟨hk.1.1, ⟨hk.2, hk.1.2⟩⟩)⟩, ⟨by (with_reducible repeat (first | apply Kd.R_alloc | apply Kd.R_drewN | apply Kd.R_drew)); exact HO113.out⟩, ⟨by (with_reducible repeat (first | refine blk_drewN ?_ _ | refine blk_drew ?_ | refine blk_alloc ?_ _)); exact BK104.out⟩, ⟨by repeat (first | (with_reducible first | exact HK.out | apply Kept.alloc | apply Kept.drewN | apply Kept.drew | refine Kept.setCell ?_ (.inr GW104.out) _) | exact HK.out)⟩, ⟨by repeat (first | (with_reducible first | exact HB.out | apply below_alloc | apply pw_below_drewN | apply below_drew1 | refine below_set ?_ GE104.out) | exact HB.out)⟩⟩
                      · rw [if_neg c25] at H
                        exact absurd H (by simp)
                    · rw [if_neg c24] at H
                      exact absurd H (by simp)
                  · rw [if_neg c23] at H
                    have c23b0 : decide ((l0.length : Int) < a1) = false := decide_eq_false c23
                    clear c23
                    have H' := Aside0.mk H
                    clear H
                    go_wp2
                    go_roundg k2
                    case measure => have := HJ3.out; have := HK2.out; omega
                    case rel => exact ⟨(x9_2), (wrap64 (x10_2 + 1)), (by first | rfl | (simp; done) | (simp [*]; done)), H', ⟨by have := HJ3.out; have := HK2.out; omega⟩, ⟨by (with_reducible repeat (first | apply Kd.R_alloc | apply Kd.R_drewN | apply Kd.R_drew)); exact HO_0.out⟩, ⟨by (with_reducible repeat (first | apply Kd.R_alloc | apply Kd.R_drewN | apply Kd.R_drew)); exact HO_9.out⟩, ⟨by (with_reducible repeat (first | refine blk_drewN ?_ _ | refine blk_drew ?_ | refine blk_alloc ?_ _)); exact BK104.out⟩, ⟨by repeat (first | (with_reducible first | exact HK.out | apply Kept.alloc | apply Kept.drewN | apply Kept.drew | refine Kept.setCell ?_ (.inr GW104.out) _) | exact HK.out)⟩, ⟨by repeat (first | (with_reducible first | exact HB.out | apply below_alloc | apply pw_below_drewN | apply below_drew1 | refine below_set ?_ GE104.out) | exact HB.out)⟩⟩
              · rw [if_neg c18] at H
                have c18b0 : decide (x10_2 < (l0.length : Int)) = false := decide_eq_false c18
                clear c18
                by_cases c27 : x9_2.length < 4398046511104
                · rw [if_pos c27] at H
                  have LMc27 := Aside0.mk c27
                  clear c27
                  obtain ⟨y114, hy114⟩ : ∃ y_ : List (S45), y_ = (x9_2 ++ [(⟨a2_0, a2_1, a2_2⟩ : S45)]) := ⟨_, rfl⟩
                  replace H : (some (y114, 0)) = some (r1, r2) := by first | (rw [hy114]; with_reducible exact H) | (have H2_ := (Option.bind_some _ _).symm.trans H; rw [hy114]; with_reducible exact H2_) | (have H2_ := (Option.bind_some _ _).symm.trans H; with_reducible exact H2_) | with_reducible exact H | (rw [hy114]; exact H) | exact H
                  have Ny114 := Aside0.mk hy114
                  clear hy114
                  simp only [Option.some.injEq, Prod.mk.injEq] at H
                  obtain ⟨rfl, rfl⟩ := H
                  have hcz28_0 : wr.cell? ⟨gb104, 0, none⟩ = some (.int .u64 a2_0) := (blk_cell BK104.out 0).trans rfl
                  have hcz28_1 : wr.cell? ⟨gb104, 1, none⟩ = some (.string a2_1) := (blk_cell BK104.out 1).trans rfl
                  have hcz28_2 : wr.cell? ⟨gb104, 2, none⟩ = some (.int .i64 a2_2) := (blk_cell BK104.out 2).trans rfl
                  have hfz28_0 := blk_frozen BK104.out 0
                  have hfz28_1 := blk_frozen BK104.out 1
                  have hfz28_2 := blk_frozen BK104.out 2
                  go_wp2_with (first | ((with_reducible refine gate_builtin (b := .append) (xs := #[.tmp 54, .tmp 56]) rfl ?_); (try (refine gate_guard (by rfl) ?_; dsimp only)); at_builtin; refine Kd.R_append k45 (w0 := w0) w0.heap.size rfl (.tmp 54) (.tmp 56) 40 45 (.agg #[(.int .u64 0), (.string ⟨#[]⟩), (.int .i64 0)]) 32 rfl Try.underlying40 info45 rfl (by decide) (by omega) u9 x9_2 (⟨a2_0, a2_1, a2_2⟩ : S45) [.int .u64 a2_0, .string a2_1, .int .i64 a2_2] (fun k_ => (P0_ k_ ∨ w.heap.size ≤ k_) ∧ some k_ ≠ (.slice Ao17 l0.length co17 : Value).ownBlock ∧ k_ ≠ gb104) (fun _ => False) rfl rfl ?aP (fun _ hk => hk.elim) ?aF ?aO ?aB ?aS ?aL ?_; (case aP => exact k45_mkM _ _ _ (⟨a2_0, a2_1, a2_2⟩ : S45)); (case aB => exact (by repeat (first | (with_reducible first | exact HB.out | apply below_alloc | apply pw_below_drewN | apply below_drew1 | refine below_set ?_ GE104.out) | exact HB.out))); (case aF => exact (fun k_ hk => ⟨(.inr (Nat.le_trans (by first | exact HK.out.1 | exact (show Kept w _ (fun k_ => P0_ k_) from by repeat (first | (with_reducible first | exact HK.out | apply Kept.alloc | apply Kept.drewN | apply Kept.drew | refine Kept.setCell ?_ (.inr GW104.out) _) | exact HK.out)).1) hk)), Kd.fresh' (Kd.R_lt (by (with_reducible repeat (first | apply Kd.R_alloc | apply Kd.R_drewN | apply Kd.R_drew)); exact HO_0.out)) k_ hk, Kd.freshB (g := gb104) (o := .cells #[.int .u64 a2_0, .string a2_1, .int .i64 a2_2] 45 (0, 0)) (by (with_reducible repeat (first | refine blk_drewN ?_ _ | refine blk_drew ?_ | refine blk_alloc ?_ _)); exact BK104.out) k_ hk⟩)); (case aO => exact (by (with_reducible repeat (first | apply Kd.R_alloc | apply Kd.R_drewN | apply Kd.R_drew)); exact HO_9.out)); (case aS => exact (below_size (by repeat (first | (with_reducible first | exact HB.out | apply below_alloc | apply pw_below_drewN | apply below_drew1 | refine below_set ?_ GE104.out) | exact HB.out)))); (case aL => have := LMc27.out; omega); intro v115 w29 ho hb hg hat; rw [← Ny114.out] at ho; have n0_ := Aside0.mk (Kd.R_after (ok := (fun k_ => (P0_ k_ ∨ w.heap.size ≤ k_) ∧ k_ ≠ gb104)) (by (with_reducible repeat (first | apply Kd.R_alloc | apply Kd.R_drewN | apply Kd.R_drew)); exact Kd.R_mono HO_0.out (fun _ hk => ⟨⟨hk.1, hk.2.2⟩, hk.2.1⟩)) hg hat); have n1_ := Aside0.mk (blk_grown (g := gb104) (o := .cells #[.int .u64 a2_0, .string a2_1, .int .i64 a2_2] 45 (0, 0)) (by (with_reducible repeat (first | refine blk_drewN ?_ _ | refine blk_drew ?_ | refine blk_alloc ?_ _)); exact BK104.out) hg (Kd.R_away HO_9.out (fun _ hk => hk.2.2))); have n2_ := Aside0.mk (hb); have n3_ := Aside0.mk (Kept.of_grown (S := (fun k_ => P0_ k_)) hg (by repeat (first | (with_reducible first | exact HK.out | apply Kept.alloc | apply Kept.drewN | apply Kept.drew | refine Kept.setCell ?_ (.inr GW104.out) _) | exact HK.out)) (fun k_ e_ => (HO_9.out.1 k_ e_).1)); have n4_ := Aside0.mk (ho); clear HO_0; clear BK104; clear HB; clear HK; clear HO_9; have HO_0 := n0_; have BK104 := n1_; have HB := n2_; have HK := n3_; have HO116 := n4_; clear n0_ n1_ n2_ n3_ n4_; clear ho hb hg hat))
                  go_ret2
                  exact ⟨_, by first | rfl | (simp [errW_none, errW_some] <;> rfl) | (simp [*, errW_none, errW_some] <;> rfl), by (with_reducible repeat (first | apply Kd.R_alloc | apply Kd.R_drewN | apply Kd.R_drew)); exact Kd.R_mono HO116.out (fun _ hk => hk.1), by repeat (first | (with_reducible first | exact HB.out | apply below_alloc | apply pw_below_drewN | apply below_drew1 | refine below_set ?_ GE104.out) | exact HB.out), by repeat (first | (with_reducible first | exact HK.out | apply Kept.alloc | apply Kept.drewN | apply Kept.drew | refine Kept.setCell ?_ (.inr GW104.out) _) | exact HK.out)⟩
                · rw [if_neg c27] at H
                  exact absurd H (by simp)

end Go.Proofs.Ytkadlahhcldjfaa.P
