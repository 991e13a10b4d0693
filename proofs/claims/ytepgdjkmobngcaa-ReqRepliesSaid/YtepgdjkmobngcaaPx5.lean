-- Made by a program of this session (xprint) out of the translation. Not trusted: Lean checks it.
import Derived.Test.YtepgdjkmobngcaaPx0
import Derived.Test.YtepgdjkmobngcaaPx3
import Derived.Test.YtepgdjkmobngcaaPx4
namespace Go.Proofs.Ytepgdjkmobngcaa.P
open Go.RowKit Go.Proofs.YtepgdjkmobngcaaW.PrintWords Go.Proofs.YtepgdjkmobngcaaW.PrintLast Go.Proofs.YtepgdjkmobngcaaW.PrintMore
attribute [local go_sem] max2_int min2_int max_two min_two max_three min_three max_four min_four   -- for this text's walks alone
set_option linter.unusedVariables false
set_option linter.unusedSimpArgs false

/-! ### tillrollref04_Write: function 25 -/
mutual
def tillrollref04_Write.l0 : Nat → List (S91) → ByteArray → Int → Option (ByteArray × Bool)
  | 0, _, _, _ => none
  | k + 1, x0, x4, x5 => if x5 < (x0.length : Int) then (if 0 ≤ x5 then (if ((rd_T91 x0 x5).f0) = 1 then (tillrollref04_Write.j1 k x0 x4 x5 8 ((rd_T91 x0 x5).f0) ((rd_T91 x0 x5).f1) ((rd_T91 x0 x5).f2) ((rd_T91 x0 x5).f3)) else (tillrollref04_Write.j1 k x0 x4 x5 ((rd_T91 x0 x5).f1) ((rd_T91 x0 x5).f0) ((rd_T91 x0 x5).f1) ((rd_T91 x0 x5).f2) ((rd_T91 x0 x5).f3))) else (none)) else (some (x4, true))
def tillrollref04_Write.j1 : Nat → List (S91) → ByteArray → Int → Int → Int → Int → Int → ByteArray → Option (ByteArray × Bool)
  | 0, _, _, _, _, _, _, _, _ => none
  | k + 1, x0, x4, x5, x7, x109000, x109001, x109002, x109003 => if x109000 = 2 then (if (x109003.size : Int) > 255 then (some ((⟨#[]⟩ : ByteArray), false)) else ((some (([((x109003.size : Int)) % 256] : List Int) : List Int)).bind fun y109 => (if x4.size + (strOfNums y109).size ≤ 9223372036854775807 then (if (x4 ++ (strOfNums y109)).size + x109003.size ≤ 9223372036854775807 then (tillrollref04_Write.l0 k x0 ((x4 ++ (strOfNums y109)) ++ x109003) (wrap64 (x5 + 1))) else (none)) else (none)))) else ((tillrollref01_Fits.f k x109002 x7).bind fun t112 => (if t112 = true then ((tillrollref01_Put.f k x109002 x7).bind fun t113 => (if x4.size + t113.size ≤ 9223372036854775807 then (tillrollref04_Write.l0 k x0 (x4 ++ t113) (wrap64 (x5 + 1))) else (none))) else (some ((⟨#[]⟩ : ByteArray), false))))
end
def tillrollref04_Write.f (k : Nat) (l0 : List (S91)) : Option (ByteArray × Bool) := tillrollref04_Write.l0 k l0 (⟨#[]⟩ : ByteArray) 0
theorem tillrollref04_Write.mono_l : ∀ k, (∀ y0 y1 y2, LeO (tillrollref04_Write.l0 k y0 y1 y2) (tillrollref04_Write.l0 (k + 1) y0 y1 y2)) ∧ (∀ y0 y1 y2 y3 y4 y5 y6 y7, LeO (tillrollref04_Write.j1 k y0 y1 y2 y3 y4 y5 y6 y7) (tillrollref04_Write.j1 (k + 1) y0 y1 y2 y3 y4 y5 y6 y7))
  | 0 => ⟨fun _ _ _ r h => by simp [tillrollref04_Write.l0] at h, fun _ _ _ _ _ _ _ _ r h => by simp [tillrollref04_Write.j1] at h⟩
  | k + 1 => by
    obtain ⟨ih0, ih1⟩ := tillrollref04_Write.mono_l k
    refine ⟨?_, ?_⟩
    · intro y0 y1 y2
      unfold tillrollref04_Write.l0
      repeat' first
      | (with_reducible exact ih0 _ _ _)
      | (with_reducible exact ih1 _ _ _ _ _ _ _ _)
      | (with_reducible exact tillrollref01_Fits.mono _ _ _)
      | (with_reducible exact tillrollref01_Put.mono _ _ _)
      | (with_reducible exact LeO.refl _)
      | (with_reducible exact LeO.none _)
      | (with_reducible refine LeO.ite ?_ ?_)
      | (with_reducible refine LeO.bind ?_ (fun _ => ?_))
      | exact ih0 _ _ _
      | exact ih1 _ _ _ _ _ _ _ _
      | exact tillrollref01_Fits.mono _ _ _
      | exact tillrollref01_Put.mono _ _ _
      | exact LeO.none _
      | refine LeO.ite ?_ ?_
      | refine LeO.bind ?_ (fun _ => ?_)
    · intro y0 y1 y2 y3 y4 y5 y6 y7
      unfold tillrollref04_Write.j1
      repeat' first
      | (with_reducible exact ih0 _ _ _)
      | (with_reducible exact ih1 _ _ _ _ _ _ _ _)
      | (with_reducible exact tillrollref01_Fits.mono _ _ _)
      | (with_reducible exact tillrollref01_Put.mono _ _ _)
      | (with_reducible exact LeO.refl _)
      | (with_reducible exact LeO.none _)
      | (with_reducible refine LeO.ite ?_ ?_)
      | (with_reducible refine LeO.bind ?_ (fun _ => ?_))
      | exact ih0 _ _ _
      | exact ih1 _ _ _ _ _ _ _ _
      | exact tillrollref01_Fits.mono _ _ _
      | exact tillrollref01_Put.mono _ _ _
      | exact LeO.none _
      | refine LeO.ite ?_ ?_
      | refine LeO.bind ?_ (fun _ => ?_)
theorem tillrollref04_Write.mono : ∀ a0 k, LeO (tillrollref04_Write.f k a0) (tillrollref04_Write.f (k + 1) a0) := by
  intro a0 k
  obtain ⟨ih0, ih1⟩ := tillrollref04_Write.mono_l k
  unfold tillrollref04_Write.f
  repeat' first
      | (with_reducible exact ih0 _ _ _)
      | (with_reducible exact ih1 _ _ _ _ _ _ _ _)
      | (with_reducible exact tillrollref01_Fits.mono _ _ _)
      | (with_reducible exact tillrollref01_Put.mono _ _ _)
      | (with_reducible exact LeO.refl _)
      | (with_reducible exact LeO.none _)
      | (with_reducible refine LeO.ite ?_ ?_)
      | (with_reducible refine LeO.bind ?_ (fun _ => ?_))
      | exact ih0 _ _ _
      | exact ih1 _ _ _ _ _ _ _ _
      | exact tillrollref01_Fits.mono _ _ _
      | exact tillrollref01_Put.mono _ _ _
      | exact LeO.none _
      | refine LeO.ite ?_ ?_
      | refine LeO.bind ?_ (fun _ => ?_)
set_option maxHeartbeats 8000000 in
set_option maxRecDepth 100000 in
theorem tillrollref04_Write.calls (k : Nat) (A0 : Option Addr) (c0 : Nat) (l0 : List (S91)) (r1 : ByteArray) (r2 : Bool) (w : World) (hr0 : Kd.C k91 w A0 l0.length l0) (hc0 : l0.length ≤ c0) (h : tillrollref04_Write.f k l0 = some (r1, r2)) :
    Calls Try.prog 25 #[.slice A0 l0.length c0] w fun e w' => e = .returned (.tuple #[.string r1, .bool r2]) ∧ Below w.heap.size w w' := by
  have hu91 := Try.underlying91
  have HR0 := Aside0.mk hr0
  have HC0 := Aside0.mk hc0
  clear hr0 hc0
  have HB := Aside0.mk (Below.refl w.heap.size w)
  have H : (tillrollref04_Write.l0 k l0 (⟨#[]⟩ : ByteArray) 0) = some (r1, r2) := h
  clear h
  have H' := Aside0.mk H
  clear H
  go_enter Try.func25, Try.ntmps25
  go_wp2
  go_loopg [4, 5] k (fun kq v4 v5 w' => ∃ (x4_1 : ByteArray) (x5_1 : Int), v4 = .string x4_1 ∧ v5 = .int .i64 x5_1 ∧ Aside0 (tillrollref04_Write.l0 kq l0 x4_1 x5_1 = some (r1, r2)) ∧ Aside0 (kq ≤ k) ∧ Aside0 (Below w.heap.size w w'))
  case atStart => exact ⟨((⟨#[]⟩ : ByteArray)), (0), (by first | rfl | (simp; done) | (simp [*]; done)), (by first | rfl | (simp; done) | (simp [*]; done)), H', ⟨Nat.le_refl _⟩, ⟨by repeat (first | (with_reducible first | exact HB.out | apply below_alloc | apply pw_below_drewN | apply below_drew1) | exact HB.out)⟩⟩
  case round =>
    clear H'
    obtain ⟨x4_1, x5_1, rfl, rfl, HA, HK1, HB⟩ := hrel
    cases gk with
    | zero => exact absurd HA.out (by simp [tillrollref04_Write.l0])
    | succ k1 =>
      have H := HA.out
      clear HA
      simp only [tillrollref04_Write.l0] at H
      by_cases c2 : x5_1 < (l0.length : Int)
      · rw [if_pos c2] at H
        have c2b0 : decide (x5_1 < (l0.length : Int)) = true := decide_eq_true c2
        clear c2
        by_cases c3 : 0 ≤ x5_1
        · rw [if_pos c3] at H
          have c3b0 : decide (0 ≤ x5_1) = true := decide_eq_true c3
          clear c3
          have HC4 := Aside0.mk H
          clear H
          have p107 : 0 ≤ (x5_1 : Int) := of_decide_eq_true (by first | (with_reducible assumption) | assumption)
          have q107 : x5_1 < (l0.length : Int) := of_decide_eq_true (by first | (with_reducible assumption) | assumption)
          obtain ⟨ad107, e107, hx107_0, hx107_1, hx107_2, hx107_3⟩ := at_T91 HR0.out x5_1 p107 q107
          cases e107
          replace hx107_0 := (HB.out.cell (World.block_lt_of_cell? w _ hx107_0)).trans hx107_0
          replace hx107_1 := (HB.out.cell (World.block_lt_of_cell? w _ hx107_1)).trans hx107_1
          replace hx107_2 := (HB.out.cell (World.block_lt_of_cell? w _ hx107_2)).trans hx107_2
          replace hx107_3 := (HB.out.cell (World.block_lt_of_cell? w _ hx107_3)).trans hx107_3
          replace p107 := eq_true p107
          replace q107 := eq_true q107
          go_upto_if 24 with (first | ((with_reducible refine gate_dst (N := 6) rfl ?_); refine box_event ?hg (N := 6) ?hd (cs := #[.int .i64 0, .int .i64 0, .int .u64 0, .string (⟨#[]⟩ : ByteArray)]) (t := 91) ?hr ?_; (case hd => rfl); (case hg => rfl); (case hr => first | (go_simp; done) | (go_simp; rfl)); intro gb108 hg w5 hbox hb; have n0_ := Aside0.mk (below_step (by repeat (first | (with_reducible first | exact HB.out | apply below_alloc | apply pw_below_drewN | apply below_drew1) | exact HB.out)) hb); have n1_ := Aside0.mk (hbox); have n2_ := Aside0.mk ((by rw [hg]; exact (below_size (by repeat (first | (with_reducible first | exact HB.out | apply below_alloc | apply pw_below_drewN | apply below_drew1) | exact HB.out))) : w.heap.size ≤ gb108)); have n3_ := Aside0.mk ((by rw [hg]; exact (below_size (by repeat (first | (with_reducible first | exact HB.out | apply below_alloc | apply pw_below_drewN | apply below_drew1) | exact HB.out))) : w.heap.size ≤ gb108)); clear HB; have HB := n0_; have BK108 := n1_; have GW108 := n2_; have GE108 := n3_; clear n0_ n1_ n2_ n3_; clear hb hbox hg; have hcz6_0 : w5.cell? ⟨gb108, 0, none⟩ = some (.int .i64 0) := (blk_cell BK108.out 0).trans rfl; have hcz6_1 : w5.cell? ⟨gb108, 1, none⟩ = some (.int .i64 0) := (blk_cell BK108.out 1).trans rfl; have hcz6_2 : w5.cell? ⟨gb108, 2, none⟩ = some (.int .u64 0) := (blk_cell BK108.out 2).trans rfl; have hcz6_3 : w5.cell? ⟨gb108, 3, none⟩ = some (.string (⟨#[]⟩ : ByteArray)) := (blk_cell BK108.out 3).trans rfl; have hfz6_0 := blk_frozen BK108.out 0; have hfz6_1 := blk_frozen BK108.out 1; have hfz6_2 := blk_frozen BK108.out 2; have hfz6_3 := blk_frozen BK108.out 3))
          (try simp only [Act.put, List.setIfInBounds_toArray, List.set_cons_zero, List.set_cons_succ])
          go_cut [7] (fun v7 wc => ∃ (kq : Nat) (x7_3 : Int), v7 = .int .i64 x7_3 ∧ Aside0 (tillrollref04_Write.j1 kq l0 x4_1 x5_1 x7_3 ((rd_T91 l0 x5_1).f0) ((rd_T91 l0 x5_1).f1) ((rd_T91 l0 x5_1).f2) ((rd_T91 l0 x5_1).f3) = some (r1, r2)) ∧ Aside0 (kq ≤ k1) ∧ Aside0 (wc.heap[gb108]? = some (.cells #[.int .i64 ((rd_T91 l0 x5_1).f0), .int .i64 ((rd_T91 l0 x5_1).f1), .int .u64 ((rd_T91 l0 x5_1).f2), .string ((rd_T91 l0 x5_1).f3)] 91 (0, 0))) ∧ Aside0 (Below w.heap.size w wc))
          case first =>
            have H := HC4.out
            clear HC4
            by_cases c7 : ((rd_T91 l0 x5_1).f0) = 1
            · rw [if_pos c7] at H
              have c7b0 : (((rd_T91 l0 x5_1).f0) == 1) = true := beq_iff_eq.mpr c7
              have c7b1 : (((rd_T91 l0 x5_1).f0) != 1) = false := bne_eq_false_iff_eq.mpr c7
              clear c7
              (first | rw [c7b0] | (simp only [i64_w, i32_w]; rw [c7b0]) | skip)
              have H' := Aside0.mk H
              clear H
              go_wp2
              go_meet
              case rel => exact ⟨_, (8), (by first | rfl | (simp; done) | (simp [*]; done)), H', ⟨by have := HK1.out; first | omega | exact Nat.le_refl _⟩, ⟨by (with_reducible repeat (first | refine blk_drewN ?_ _ | refine blk_drew ?_ | refine blk_alloc ?_ _)); refine blk_put (cs := #[.int .i64 ((rd_T91 l0 x5_1).f0), .int .i64 ((rd_T91 l0 x5_1).f1), .int .u64 ((rd_T91 l0 x5_1).f2), .string (⟨#[]⟩ : ByteArray)]) ?_ 3 _ rfl; (with_reducible repeat (first | refine blk_drewN ?_ _ | refine blk_drew ?_ | refine blk_alloc ?_ _)); refine blk_put (cs := #[.int .i64 ((rd_T91 l0 x5_1).f0), .int .i64 ((rd_T91 l0 x5_1).f1), .int .u64 0, .string (⟨#[]⟩ : ByteArray)]) ?_ 2 _ rfl; (with_reducible repeat (first | refine blk_drewN ?_ _ | refine blk_drew ?_ | refine blk_alloc ?_ _)); refine blk_put (cs := #[.int .i64 ((rd_T91 l0 x5_1).f0), .int .i64 0, .int .u64 0, .string (⟨#[]⟩ : ByteArray)]) ?_ 1 _ rfl; (with_reducible repeat (first | refine blk_drewN ?_ _ | refine blk_drew ?_ | refine blk_alloc ?_ _)); refine blk_put (cs := #[.int .i64 0, .int .i64 0, .int .u64 0, .string (⟨#[]⟩ : ByteArray)]) ?_ 0 _ rfl; (with_reducible repeat (first | refine blk_drewN ?_ _ | refine blk_drew ?_ | refine blk_alloc ?_ _)); exact BK108.out⟩, ⟨by repeat (first | (with_reducible first | exact HB.out | apply below_alloc | apply pw_below_drewN | apply below_drew1 | refine below_set ?_ GE108.out) | exact HB.out)⟩⟩
            · rw [if_neg c7] at H
              have c7b0 : (((rd_T91 l0 x5_1).f0) == 1) = false := beq_eq_false_iff_ne.mpr c7
              have c7b1 : (((rd_T91 l0 x5_1).f0) != 1) = true := bne_iff_ne.mpr c7
              (first | rw [c7b0] | (simp only [i64_w, i32_w]; rw [c7b0]) | skip)
              have H' := Aside0.mk H
              clear H
              go_wp2
              go_meet
              case rel => exact ⟨_, ((rd_T91 l0 x5_1).f1), (by first | rfl | (simp; done) | (simp [*]; done)), H', ⟨by have := HK1.out; first | omega | exact Nat.le_refl _⟩, ⟨by (with_reducible repeat (first | refine blk_drewN ?_ _ | refine blk_drew ?_ | refine blk_alloc ?_ _)); refine blk_put (cs := #[.int .i64 ((rd_T91 l0 x5_1).f0), .int .i64 ((rd_T91 l0 x5_1).f1), .int .u64 ((rd_T91 l0 x5_1).f2), .string (⟨#[]⟩ : ByteArray)]) ?_ 3 _ rfl; (with_reducible repeat (first | refine blk_drewN ?_ _ | refine blk_drew ?_ | refine blk_alloc ?_ _)); refine blk_put (cs := #[.int .i64 ((rd_T91 l0 x5_1).f0), .int .i64 ((rd_T91 l0 x5_1).f1), .int .u64 0, .string (⟨#[]⟩ : ByteArray)]) ?_ 2 _ rfl; (with_reducible repeat (first | refine blk_drewN ?_ _ | refine blk_drew ?_ | refine blk_alloc ?_ _)); refine blk_put (cs := #[.int .i64 ((rd_T91 l0 x5_1).f0), .int .i64 0, .int .u64 0, .string (⟨#[]⟩ : ByteArray)]) ?_ 1 _ rfl; (with_reducible repeat (first | refine blk_drewN ?_ _ | refine blk_drew ?_ | refine blk_alloc ?_ _)); refine blk_put (cs := #[.int .i64 0, .int .i64 0, .int .u64 0, .string (⟨#[]⟩ : ByteArray)]) ?_ 0 _ rfl; (with_reducible repeat (first | refine blk_drewN ?_ _ | refine blk_drew ?_ | refine blk_alloc ?_ _)); exact BK108.out⟩, ⟨by repeat (first | (with_reducible first | exact HB.out | apply below_alloc | apply pw_below_drewN | apply below_drew1 | refine below_set ?_ GE108.out) | exact HB.out)⟩⟩
          case rest =>
            clear HC4
            try clear p1
            try clear q1
            try clear hx1
            try clear c2
            try clear c2b0
            try clear p2
            try clear c3
            try clear c3b0
            try clear c7
            try clear c7b0
            try clear c7b1
            try clear hcz6_0
            try clear hcz6_1
            try clear hcz6_2
            try clear hcz6_3
            try clear hfz6_0
            try clear hfz6_1
            try clear hfz6_2
            try clear hfz6_3
            try clear hx107_0
            try clear hx107_1
            try clear hx107_2
            try clear hx107_3
            try clear p107
            try clear q107
            obtain ⟨kq, x7_3, rfl, HA, HJ3, BK108, HB⟩ := hcut
            cases kq with
            | zero => exact absurd HA.out (by simp [tillrollref04_Write.j1])
            | succ kj3 =>
              have H := HA.out
              clear HA
              simp only [tillrollref04_Write.j1] at H
              by_cases c8 : ((rd_T91 l0 x5_1).f0) = 2
              · rw [if_pos c8] at H
                have c8b0 : (((rd_T91 l0 x5_1).f0) == 2) = true := beq_iff_eq.mpr c8
                have c8b1 : (((rd_T91 l0 x5_1).f0) != 2) = false := bne_eq_false_iff_eq.mpr c8
                clear c8
                by_cases c9 : (((rd_T91 l0 x5_1).f3).size : Int) > 255
                · rw [if_pos c9] at H
                  have c9b0 : decide (255 < (((rd_T91 l0 x5_1).f3).size : Int)) = true := decide_eq_true c9
                  have c9b1 : decide (255 < ((rd_T91 l0 x5_1).f3).size) = true := decide_eq_true (by omega)
                  clear c9
                  simp only [Option.some.injEq, Prod.mk.injEq] at H
                  obtain ⟨rfl, rfl⟩ := H
                  have hcz10_0 : wc.cell? ⟨gb108, 0, none⟩ = some (.int .i64 ((rd_T91 l0 x5_1).f0)) := (blk_cell BK108.out 0).trans rfl
                  have hcz10_1 : wc.cell? ⟨gb108, 1, none⟩ = some (.int .i64 ((rd_T91 l0 x5_1).f1)) := (blk_cell BK108.out 1).trans rfl
                  have hcz10_2 : wc.cell? ⟨gb108, 2, none⟩ = some (.int .u64 ((rd_T91 l0 x5_1).f2)) := (blk_cell BK108.out 2).trans rfl
                  have hcz10_3 : wc.cell? ⟨gb108, 3, none⟩ = some (.string ((rd_T91 l0 x5_1).f3)) := (blk_cell BK108.out 3).trans rfl
                  have hfz10_0 := blk_frozen BK108.out 0
                  have hfz10_1 := blk_frozen BK108.out 1
                  have hfz10_2 := blk_frozen BK108.out 2
                  have hfz10_3 := blk_frozen BK108.out 3
                  go_wp2
                  go_ret2
                  exact ⟨by first | rfl | (simp [errW_none, errW_some] <;> rfl) | (simp [*, errW_none, errW_some] <;> rfl), by repeat (first | (with_reducible first | exact HB.out | apply below_alloc | apply pw_below_drewN | apply below_drew1 | refine below_set ?_ GE108.out) | exact HB.out)⟩
                · rw [if_neg c9] at H
                  have c9b0 : decide (255 < (((rd_T91 l0 x5_1).f3).size : Int)) = false := decide_eq_false c9
                  have c9b1 : decide (255 < ((rd_T91 l0 x5_1).f3).size) = false := decide_eq_false (by omega)
                  clear c9
                  obtain ⟨y109, hy109⟩ : ∃ y_ : List Int, y_ = (([((((rd_T91 l0 x5_1).f3).size : Int)) % 256] : List Int)) := ⟨_, rfl⟩
                  replace H : (if x4_1.size + (strOfNums y109).size ≤ 9223372036854775807 then (if (x4_1 ++ (strOfNums y109)).size + ((rd_T91 l0 x5_1).f3).size ≤ 9223372036854775807 then (tillrollref04_Write.l0 kj3 l0 ((x4_1 ++ (strOfNums y109)) ++ ((rd_T91 l0 x5_1).f3)) (wrap64 (x5_1 + 1))) else (none)) else (none)) = some (r1, r2) := by first | (rw [hy109]; with_reducible exact H) | (have H2_ := (Option.bind_some _ _).symm.trans H; rw [hy109]; with_reducible exact H2_) | (have H2_ := (Option.bind_some _ _).symm.trans H; with_reducible exact H2_) | with_reducible exact H | (rw [hy109]; exact H) | exact H
                  have Ny109 := Aside0.mk hy109
                  clear hy109
                  by_cases c11 : x4_1.size + (strOfNums y109).size ≤ 9223372036854775807
                  · rw [if_pos c11] at H
                    have c11b0 := eq_true c11
                    have c11b1 : decide (x4_1.size + (strOfNums y109).size ≤ 9223372036854775807) = true := decide_eq_true c11
                    try have c11b2 : (9223372036854775807 < x4_1.size + (strOfNums y109).size) = False := eq_false (Nat.not_lt.2 c11)
                    by_cases c12 : (x4_1 ++ (strOfNums y109)).size + ((rd_T91 l0 x5_1).f3).size ≤ 9223372036854775807
                    · rw [if_pos c12] at H
                      have c12b0 := eq_true c12
                      have c12b1 : decide ((x4_1 ++ (strOfNums y109)).size + ((rd_T91 l0 x5_1).f3).size ≤ 9223372036854775807) = true := decide_eq_true c12
                      try have c12b2 : (9223372036854775807 < (x4_1 ++ (strOfNums y109)).size + ((rd_T91 l0 x5_1).f3).size) = False := eq_false (Nat.not_lt.2 c12)
                      have H' := Aside0.mk H
                      clear H
                      have hcz13_0 : wc.cell? ⟨gb108, 0, none⟩ = some (.int .i64 ((rd_T91 l0 x5_1).f0)) := (blk_cell BK108.out 0).trans rfl
                      have hcz13_1 : wc.cell? ⟨gb108, 1, none⟩ = some (.int .i64 ((rd_T91 l0 x5_1).f1)) := (blk_cell BK108.out 1).trans rfl
                      have hcz13_2 : wc.cell? ⟨gb108, 2, none⟩ = some (.int .u64 ((rd_T91 l0 x5_1).f2)) := (blk_cell BK108.out 2).trans rfl
                      have hcz13_3 : wc.cell? ⟨gb108, 3, none⟩ = some (.string ((rd_T91 l0 x5_1).f3)) := (blk_cell BK108.out 3).trans rfl
                      have hfz13_0 := blk_frozen BK108.out 0
                      have hfz13_1 := blk_frozen BK108.out 1
                      have hfz13_2 := blk_frozen BK108.out 2
                      have hfz13_3 := blk_frozen BK108.out 3
                      go_wp2_with (first | ((with_reducible refine gate_dst (N := 37) rfl ?_); refine Kd.R_lit (Kd.int .u8) _ 5 ?hg (N := 37) ?hd (xs := ([((((rd_T91 l0 x5_1).f3).size : Int)) % 256] : List Int)) (inner := [.int .u8 (((((rd_T91 l0 x5_1).f3).size : Int)) % 256)]) (ok := fun _ => True) (okp := fun _ => True) ?hr ?hp (fun _ hk => hk) trivial (Below.refl _ _) (Nat.le_refl _) (by simp) ?_; (case hd => rfl); (case hg => rfl); (case hr => first | (go_simp; done) | (go_simp; rfl)); (case hp => exact (Reps.one (show Kd.M (Kd.int .u8) _ _ _ (((((rd_T91 l0 x5_1).f3).size : Int)) % 256) [.int .u8 (((((rd_T91 l0 x5_1).f3).size : Int)) % 256)] from rfl) (Reps.none _ _))); intro v110 w14 ho15 hb hg_ hnew_; clear hg_ hnew_; (first | rw [← Ny109.out] at ho15 | (simp only [Int.reduceToNat] at ho15; rw [← Ny109.out] at ho15)); have n0_ := Aside0.mk (Kd.R_lower ho15 (below_size (by repeat (first | (with_reducible first | exact HB.out | apply below_alloc | apply pw_below_drewN | apply below_drew1 | refine below_set ?_ GE108.out) | exact HB.out)))); have n1_ := Aside0.mk (blk_below (g := gb108) (o := .cells #[.int .i64 ((rd_T91 l0 x5_1).f0), .int .i64 ((rd_T91 l0 x5_1).f1), .int .u64 ((rd_T91 l0 x5_1).f2), .string ((rd_T91 l0 x5_1).f3)] 91 (0, 0)) (by (with_reducible repeat (first | refine blk_drewN ?_ _ | refine blk_drew ?_ | refine blk_alloc ?_ _)); exact BK108.out) hb); have n2_ := Aside0.mk (below_step (by repeat (first | (with_reducible first | exact HB.out | apply below_alloc | apply pw_below_drewN | apply below_drew1 | refine below_set ?_ GE108.out) | exact HB.out)) hb); clear BK108; clear HB; have HO111 := n0_; have BK108 := n1_; have HB := n2_; clear n0_ n1_ n2_; clear hb ho15; have hcv16 := own_string (P := Try.prog) Try.underlying50 Try.underlying5 Try.underlying9 (Kd.own_of_R HO111.out); have hcz17_0 : w14.cell? ⟨gb108, 0, none⟩ = some (.int .i64 ((rd_T91 l0 x5_1).f0)) := (blk_cell BK108.out 0).trans rfl; have hcz17_1 : w14.cell? ⟨gb108, 1, none⟩ = some (.int .i64 ((rd_T91 l0 x5_1).f1)) := (blk_cell BK108.out 1).trans rfl; have hcz17_2 : w14.cell? ⟨gb108, 2, none⟩ = some (.int .u64 ((rd_T91 l0 x5_1).f2)) := (blk_cell BK108.out 2).trans rfl; have hcz17_3 : w14.cell? ⟨gb108, 3, none⟩ = some (.string ((rd_T91 l0 x5_1).f3)) := (blk_cell BK108.out 3).trans rfl; have hfz17_0 := blk_frozen BK108.out 0; have hfz17_1 := blk_frozen BK108.out 1; have hfz17_2 := blk_frozen BK108.out 2; have hfz17_3 := blk_frozen BK108.out 3))
                      go_roundg kj3
                      case measure => have := HK1.out; have := HJ3.out; omega
                      case rel => exact ⟨((x4_1 ++ (strOfNums y109)) ++ ((rd_T91 l0 x5_1).f3)), (wrap64 (x5_1 + 1)), (by first | rfl | (simp; done) | (simp [*]; done)), (by first | rfl | (simp; done) | (simp [*]; done)), H', ⟨by have := HK1.out; have := HJ3.out; omega⟩, ⟨by repeat (first | (with_reducible first | exact HB.out | apply below_alloc | apply pw_below_drewN | apply below_drew1 | refine below_set ?_ GE108.out) | exact HB.out)⟩⟩
                    · rw [if_neg c12] at H
                      exact absurd H (by simp)
                  · rw [if_neg c11] at H
                    exact absurd H (by simp)
              · rw [if_neg c8] at H
                have c8b0 : (((rd_T91 l0 x5_1).f0) == 2) = false := beq_eq_false_iff_ne.mpr c8
                have c8b1 : (((rd_T91 l0 x5_1).f0) != 2) = true := bne_iff_ne.mpr c8
                replace H := Option.bind_eq_some_iff.mp H
                obtain ⟨t112, A180, H⟩ := H
                replace H : (if t112 = true then ((tillrollref01_Put.f kj3 ((rd_T91 l0 x5_1).f2) x7_3).bind fun t113 => (if x4_1.size + t113.size ≤ 9223372036854775807 then (tillrollref04_Write.l0 kj3 l0 (x4_1 ++ t113) (wrap64 (x5_1 + 1))) else (none))) else (some ((⟨#[]⟩ : ByteArray), false))) = some (r1, r2) := H
                have A18 := Aside0.mk A180
                clear A180
                by_cases c19 : t112 = true
                · subst c19
                  have H1 : ((tillrollref01_Put.f kj3 ((rd_T91 l0 x5_1).f2) x7_3).bind fun t113 => (if x4_1.size + t113.size ≤ 9223372036854775807 then (tillrollref04_Write.l0 kj3 l0 (x4_1 ++ t113) (wrap64 (x5_1 + 1))) else (none))) = some (r1, r2) := by rw [if_pos rfl] at H; exact H
                  clear H
                  have H := H1
                  clear H1
                  replace H := Option.bind_eq_some_iff.mp H
                  obtain ⟨t113, A200, H⟩ := H
                  replace H : (if x4_1.size + t113.size ≤ 9223372036854775807 then (tillrollref04_Write.l0 kj3 l0 (x4_1 ++ t113) (wrap64 (x5_1 + 1))) else (none)) = some (r1, r2) := H
                  have A20 := Aside0.mk A200
                  clear A200
                  by_cases c21 : x4_1.size + t113.size ≤ 9223372036854775807
                  · rw [if_pos c21] at H
                    have c21b0 := eq_true c21
                    have c21b1 : decide (x4_1.size + t113.size ≤ 9223372036854775807) = true := decide_eq_true c21
                    try have c21b2 : (9223372036854775807 < x4_1.size + t113.size) = False := eq_false (Nat.not_lt.2 c21)
                    have H' := Aside0.mk H
                    clear H
                    have hcz22_0 : wc.cell? ⟨gb108, 0, none⟩ = some (.int .i64 ((rd_T91 l0 x5_1).f0)) := (blk_cell BK108.out 0).trans rfl
                    have hcz22_1 : wc.cell? ⟨gb108, 1, none⟩ = some (.int .i64 ((rd_T91 l0 x5_1).f1)) := (blk_cell BK108.out 1).trans rfl
                    have hcz22_2 : wc.cell? ⟨gb108, 2, none⟩ = some (.int .u64 ((rd_T91 l0 x5_1).f2)) := (blk_cell BK108.out 2).trans rfl
                    have hcz22_3 : wc.cell? ⟨gb108, 3, none⟩ = some (.string ((rd_T91 l0 x5_1).f3)) := (blk_cell BK108.out 3).trans rfl
                    have hfz22_0 := blk_frozen BK108.out 0
                    have hfz22_1 := blk_frozen BK108.out 1
                    have hfz22_2 := blk_frozen BK108.out 2
                    have hfz22_3 := blk_frozen BK108.out 3
                    go_wp2_with (first | ((with_reducible refine gate_callee (f := 39) rfl ?_); refine goesL_ (some 46) rfl rfl Try.func39 (by kernel_rfl) rfl #[.int .u64 ((rd_T91 l0 x5_1).f2), .int .i64 x7_3] rfl (by (try simp only [List.map_toArray, List.map_cons, List.map_nil]); first | done | rfl | (simp only [List.length_drop, List.length_take]; rfl) | (simp only [ByteArray.size_append]; rfl) | (simp only [ByteArray.size_extract]; rfl)) ?_; (with_reducible refine (tillrollref01_Fits.calls kj3 ((rd_T91 l0 x5_1).f2) x7_3 true _ A18.out).mono ?_); rintro e w' ⟨rfl, ⟨nd, rfl⟩⟩; refine ⟨_, rfl, ?_⟩) | ((with_reducible refine gate_callee (f := 40) rfl ?_); refine goesL_ (some 52) rfl rfl Try.func40 (by kernel_rfl) rfl #[.int .u64 ((rd_T91 l0 x5_1).f2), .int .i64 x7_3] rfl (by (try simp only [List.map_toArray, List.map_cons, List.map_nil]); first | done | rfl | (simp only [List.length_drop, List.length_take]; rfl) | (simp only [ByteArray.size_append]; rfl) | (simp only [ByteArray.size_extract]; rfl)) ?_; (with_reducible refine (tillrollref01_Put.calls kj3 ((rd_T91 l0 x5_1).f2) x7_3 t113 _ A20.out).mono ?_); rintro e w23 ⟨rfl, hb⟩; refine ⟨_, rfl, ?_⟩; have n0_ := Aside0.mk (blk_below (g := gb108) (o := .cells #[.int .i64 ((rd_T91 l0 x5_1).f0), .int .i64 ((rd_T91 l0 x5_1).f1), .int .u64 ((rd_T91 l0 x5_1).f2), .string ((rd_T91 l0 x5_1).f3)] 91 (0, 0)) (by (with_reducible repeat (first | refine blk_drewN ?_ _ | refine blk_drew ?_ | refine blk_alloc ?_ _)); exact BK108.out) hb); have n1_ := Aside0.mk (below_step (by repeat (first | (with_reducible first | exact HB.out | apply below_alloc | apply pw_below_drewN | apply below_drew1 | refine below_set ?_ GE108.out) | exact HB.out)) hb); clear BK108; clear HB; have BK108 := n0_; have HB := n1_; clear n0_ n1_; (try clear hb); (try clear hb2); (try clear hk); (try clear hi)))
                    go_roundg kj3
                    case measure => have := HK1.out; have := HJ3.out; omega
                    case rel => exact ⟨(x4_1 ++ t113), (wrap64 (x5_1 + 1)), (by first | rfl | (simp; done) | (simp [*]; done)), (by first | rfl | (simp; done) | (simp [*]; done)), H', ⟨by have := HK1.out; have := HJ3.out; omega⟩, ⟨by repeat (first | (with_reducible first | exact HB.out | apply below_alloc | apply pw_below_drewN | apply below_drew1 | refine below_set ?_ GE108.out) | exact HB.out)⟩⟩
                  · rw [if_neg c21] at H
                    exact absurd H (by simp)
                · replace c19 := Bool.eq_false_iff.mpr c19
                  subst c19
                  have H1 : (some ((⟨#[]⟩ : ByteArray), false)) = some (r1, r2) := by rw [if_neg (show ¬ (false = true) by decide)] at H; exact H
                  clear H
                  have H := H1
                  clear H1
                  simp only [Option.some.injEq, Prod.mk.injEq] at H
                  obtain ⟨rfl, rfl⟩ := H
                  have hcz24_0 : wc.cell? ⟨gb108, 0, none⟩ = some (.int .i64 ((rd_T91 l0 x5_1).f0)) := (blk_cell BK108.out 0).trans rfl
                  have hcz24_1 : wc.cell? ⟨gb108, 1, none⟩ = some (.int .i64 ((rd_T91 l0 x5_1).f1)) := (blk_cell BK108.out 1).trans rfl
                  have hcz24_2 : wc.cell? ⟨gb108, 2, none⟩ = some (.int .u64 ((rd_T91 l0 x5_1).f2)) := (blk_cell BK108.out 2).trans rfl
                  have hcz24_3 : wc.cell? ⟨gb108, 3, none⟩ = some (.string ((rd_T91 l0 x5_1).f3)) := (blk_cell BK108.out 3).trans rfl
                  have hfz24_0 := blk_frozen BK108.out 0
                  have hfz24_1 := blk_frozen BK108.out 1
                  have hfz24_2 := blk_frozen BK108.out 2
                  have hfz24_3 := blk_frozen BK108.out 3
                  go_wp2_with (first | ((with_reducible refine gate_callee (f := 39) rfl ?_); refine goesL_ (some 46) rfl rfl Try.func39 (by kernel_rfl) rfl #[.int .u64 ((rd_T91 l0 x5_1).f2), .int .i64 x7_3] rfl (by (try simp only [List.map_toArray, List.map_cons, List.map_nil]); first | done | rfl | (simp only [List.length_drop, List.length_take]; rfl) | (simp only [ByteArray.size_append]; rfl) | (simp only [ByteArray.size_extract]; rfl)) ?_; (with_reducible refine (tillrollref01_Fits.calls kj3 ((rd_T91 l0 x5_1).f2) x7_3 false _ A18.out).mono ?_); rintro e w' ⟨rfl, ⟨nd, rfl⟩⟩; refine ⟨_, rfl, ?_⟩))
                  go_ret2
                  exact ⟨by first | rfl | (simp [errW_none, errW_some] <;> rfl) | (simp [*, errW_none, errW_some] <;> rfl), by repeat (first | (with_reducible first | exact HB.out | apply below_alloc | apply pw_below_drewN | apply below_drew1 | refine below_set ?_ GE108.out) | exact HB.out)⟩
        · rw [if_neg c3] at H
          exact absurd H (by simp)
      · rw [if_neg c2] at H
        have c2b0 : decide (x5_1 < (l0.length : Int)) = false := decide_eq_false c2
        clear c2
        simp only [Option.some.injEq, Prod.mk.injEq] at H
        obtain ⟨rfl, rfl⟩ := H
        go_wp2
        go_ret2
        exact ⟨by first | rfl | (simp [errW_none, errW_some] <;> rfl) | (simp [*, errW_none, errW_some] <;> rfl), by repeat (first | (with_reducible first | exact HB.out | apply below_alloc | apply pw_below_drewN | apply below_drew1) | exact HB.out)⟩

end Go.Proofs.Ytepgdjkmobngcaa.P
