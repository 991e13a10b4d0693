-- Made by a program of this session (xprint) out of the translation. Not trusted: Lean checks it.
import Derived.Test.YtfomgljhcegjdaaPx0
import Derived.Test.YtfomgljhcegjdaaPx2
import Derived.Test.YtfomgljhcegjdaaPx4
import Derived.Test.YtfomgljhcegjdaaPx7
namespace Go.Proofs.Ytfomgljhcegjdaa.P
open Go.RowKit Go.Proofs.YtfomgljhcegjdaaW.PrintWords Go.Proofs.YtfomgljhcegjdaaW.PrintLast Go.Proofs.YtfomgljhcegjdaaW.PrintMore
attribute [local go_sem] max2_int min2_int max_two min_two max_three min_three max_four min_four   -- for this text's walks alone
set_option linter.unusedVariables false
set_option linter.unusedSimpArgs false

/-! ### tillrollref06_Frame: function 11 -/
def tillrollref06_Frame.l0 : Nat → ByteArray → ByteArray → Option (ByteArray × Int)
  | 0, _, _ => none
  | k + 1, x1, x9 => if (x9.size : Int) < 28 then (if x9.size + 1 ≤ 9223372036854775807 then (tillrollref06_Frame.l0 k x1 (x9 ++ (⟨#[0]⟩ : ByteArray))) else (none)) else (if x1.size + x9.size ≤ 9223372036854775807 then ((tillrollref02_Sum.f k (x1 ++ x9)).bind fun t125 => ((tillrollref01_Put.f k t125 4).bind fun t126 => (if x9.size + t126.size ≤ 9223372036854775807 then (some (x9 ++ t126, 0)) else (none)))) else (none))
def tillrollref06_Frame.f (k : Nat) (a0_0 : Int) (a0_1 : Int) (a0_2 : Int) (a0_3 : Int) (a0_4 : Int) (a1 : ByteArray) : Option (ByteArray × Int) := (tillrollref06_Right.f a0_0 a0_1 a0_2 a0_3 a0_4).bind fun t116 => (if t116 = true then ((tillrollref01_Put.f k (IntKind.u64.wrap (a0_1)) 2).bind fun t117 => ((tillrollref01_Put.f k a0_2 8).bind fun t118 => ((some (([a0_0] : List Int) : List Int)).bind fun y119 => (if 1 + (strOfNums y119).size ≤ 9223372036854775807 then (if ((⟨#[255]⟩ : ByteArray) ++ (strOfNums y119)).size + t117.size ≤ 9223372036854775807 then (if (((⟨#[255]⟩ : ByteArray) ++ (strOfNums y119)) ++ t117).size + t118.size ≤ 9223372036854775807 then ((some (([(a0_3) % 256, (a0_4) % 256] : List Int) : List Int)).bind fun y122 => (if ((((⟨#[255]⟩ : ByteArray) ++ (strOfNums y119)) ++ t117) ++ t118).size + (strOfNums y122).size ≤ 9223372036854775807 then (tillrollref06_Frame.l0 k a1 (((((⟨#[255]⟩ : ByteArray) ++ (strOfNums y119)) ++ t117) ++ t118) ++ (strOfNums y122))) else (none))) else (none)) else (none)) else (none))))) else (some ((⟨#[]⟩ : ByteArray), 2)))
theorem tillrollref06_Frame.mono_l : ∀ k, (∀ y0 y1, LeO (tillrollref06_Frame.l0 k y0 y1) (tillrollref06_Frame.l0 (k + 1) y0 y1))
  | 0 => fun _ _ r h => by simp [tillrollref06_Frame.l0] at h
  | k + 1 => by
    have ih0 := tillrollref06_Frame.mono_l k
    · intro y0 y1
      unfold tillrollref06_Frame.l0
      repeat' first
      | (with_reducible exact ih0 _ _)
      | (with_reducible exact tillrollref01_Put.mono _ _ _)
      | (with_reducible exact tillrollref02_Sum.mono _ _)
      | (with_reducible exact LeO.refl _)
      | (with_reducible exact LeO.none _)
      | (with_reducible refine LeO.ite ?_ ?_)
      | (with_reducible refine LeO.bind ?_ (fun _ => ?_))
      | exact ih0 _ _
      | exact tillrollref01_Put.mono _ _ _
      | exact tillrollref02_Sum.mono _ _
      | exact LeO.none _
      | refine LeO.ite ?_ ?_
      | refine LeO.bind ?_ (fun _ => ?_)
theorem tillrollref06_Frame.mono : ∀ a0 a1 a2 a3 a4 a5 k, LeO (tillrollref06_Frame.f k a0 a1 a2 a3 a4 a5) (tillrollref06_Frame.f (k + 1) a0 a1 a2 a3 a4 a5) := by
  intro a0 a1 a2 a3 a4 a5 k
  have ih0 := tillrollref06_Frame.mono_l k
  unfold tillrollref06_Frame.f
  repeat' first
      | (with_reducible exact ih0 _ _)
      | (with_reducible exact tillrollref01_Put.mono _ _ _)
      | (with_reducible exact tillrollref02_Sum.mono _ _)
      | (with_reducible exact LeO.refl _)
      | (with_reducible exact LeO.none _)
      | (with_reducible refine LeO.ite ?_ ?_)
      | (with_reducible refine LeO.bind ?_ (fun _ => ?_))
      | exact ih0 _ _
      | exact tillrollref01_Put.mono _ _ _
      | exact tillrollref02_Sum.mono _ _
      | exact LeO.none _
      | refine LeO.ite ?_ ?_
      | refine LeO.bind ?_ (fun _ => ?_)
set_option maxHeartbeats 8000000 in
set_option maxRecDepth 100000 in
theorem tillrollref06_Frame.calls (k : Nat) (a0_0 : Int) (a0_1 : Int) (a0_2 : Int) (a0_3 : Int) (a0_4 : Int) (a1 : ByteArray) (r1 : ByteArray) (r2 : Int) (w : World) (h : tillrollref06_Frame.f k a0_0 a0_1 a0_2 a0_3 a0_4 a1 = some (r1, r2)) :
    Calls Try.prog 11 #[.agg #[.int .u8 a0_0, .int .i64 a0_1, .int .u64 a0_2, .int .i64 a0_3, .int .i64 a0_4], .string a1] w fun e w' => e = .returned (.tuple #[.string r1, .int .i64 r2]) ∧ Below w.heap.size w w' := by
  have hu41 := Try.underlying41
  have HB := Aside0.mk (Below.refl w.heap.size w)
  have H : ((tillrollref06_Right.f a0_0 a0_1 a0_2 a0_3 a0_4).bind fun t116 => (if t116 = true then ((tillrollref01_Put.f k (IntKind.u64.wrap (a0_1)) 2).bind fun t117 => ((tillrollref01_Put.f k a0_2 8).bind fun t118 => ((some (([a0_0] : List Int) : List Int)).bind fun y119 => (if 1 + (strOfNums y119).size ≤ 9223372036854775807 then (if ((⟨#[255]⟩ : ByteArray) ++ (strOfNums y119)).size + t117.size ≤ 9223372036854775807 then (if (((⟨#[255]⟩ : ByteArray) ++ (strOfNums y119)) ++ t117).size + t118.size ≤ 9223372036854775807 then ((some (([(a0_3) % 256, (a0_4) % 256] : List Int) : List Int)).bind fun y122 => (if ((((⟨#[255]⟩ : ByteArray) ++ (strOfNums y119)) ++ t117) ++ t118).size + (strOfNums y122).size ≤ 9223372036854775807 then (tillrollref06_Frame.l0 k a1 (((((⟨#[255]⟩ : ByteArray) ++ (strOfNums y119)) ++ t117) ++ t118) ++ (strOfNums y122))) else (none))) else (none)) else (none)) else (none))))) else (some ((⟨#[]⟩ : ByteArray), 2)))) = some (r1, r2) := h
  clear h
  replace H := Option.bind_eq_some_iff.mp H
  obtain ⟨t116, A30, H⟩ := H
  replace H : (if t116 = true then ((tillrollref01_Put.f k (IntKind.u64.wrap (a0_1)) 2).bind fun t117 => ((tillrollref01_Put.f k a0_2 8).bind fun t118 => ((some (([a0_0] : List Int) : List Int)).bind fun y119 => (if 1 + (strOfNums y119).size ≤ 9223372036854775807 then (if ((⟨#[255]⟩ : ByteArray) ++ (strOfNums y119)).size + t117.size ≤ 9223372036854775807 then (if (((⟨#[255]⟩ : ByteArray) ++ (strOfNums y119)) ++ t117).size + t118.size ≤ 9223372036854775807 then ((some (([(a0_3) % 256, (a0_4) % 256] : List Int) : List Int)).bind fun y122 => (if ((((⟨#[255]⟩ : ByteArray) ++ (strOfNums y119)) ++ t117) ++ t118).size + (strOfNums y122).size ≤ 9223372036854775807 then (tillrollref06_Frame.l0 k a1 (((((⟨#[255]⟩ : ByteArray) ++ (strOfNums y119)) ++ t117) ++ t118) ++ (strOfNums y122))) else (none))) else (none)) else (none)) else (none))))) else (some ((⟨#[]⟩ : ByteArray), 2))) = some (r1, r2) := H
  have A3 := Aside0.mk A30
  clear A30
  by_cases c4 : t116 = true
  · subst c4
    have H1 : ((tillrollref01_Put.f k (IntKind.u64.wrap (a0_1)) 2).bind fun t117 => ((tillrollref01_Put.f k a0_2 8).bind fun t118 => ((some (([a0_0] : List Int) : List Int)).bind fun y119 => (if 1 + (strOfNums y119).size ≤ 9223372036854775807 then (if ((⟨#[255]⟩ : ByteArray) ++ (strOfNums y119)).size + t117.size ≤ 9223372036854775807 then (if (((⟨#[255]⟩ : ByteArray) ++ (strOfNums y119)) ++ t117).size + t118.size ≤ 9223372036854775807 then ((some (([(a0_3) % 256, (a0_4) % 256] : List Int) : List Int)).bind fun y122 => (if ((((⟨#[255]⟩ : ByteArray) ++ (strOfNums y119)) ++ t117) ++ t118).size + (strOfNums y122).size ≤ 9223372036854775807 then (tillrollref06_Frame.l0 k a1 (((((⟨#[255]⟩ : ByteArray) ++ (strOfNums y119)) ++ t117) ++ t118) ++ (strOfNums y122))) else (none))) else (none)) else (none)) else (none))))) = some (r1, r2) := by rw [if_pos rfl] at H; exact H
    clear H
    have H := H1
    clear H1
    replace H := Option.bind_eq_some_iff.mp H
    obtain ⟨t117, A50, H⟩ := H
    replace H : ((tillrollref01_Put.f k a0_2 8).bind fun t118 => ((some (([a0_0] : List Int) : List Int)).bind fun y119 => (if 1 + (strOfNums y119).size ≤ 9223372036854775807 then (if ((⟨#[255]⟩ : ByteArray) ++ (strOfNums y119)).size + t117.size ≤ 9223372036854775807 then (if (((⟨#[255]⟩ : ByteArray) ++ (strOfNums y119)) ++ t117).size + t118.size ≤ 9223372036854775807 then ((some (([(a0_3) % 256, (a0_4) % 256] : List Int) : List Int)).bind fun y122 => (if ((((⟨#[255]⟩ : ByteArray) ++ (strOfNums y119)) ++ t117) ++ t118).size + (strOfNums y122).size ≤ 9223372036854775807 then (tillrollref06_Frame.l0 k a1 (((((⟨#[255]⟩ : ByteArray) ++ (strOfNums y119)) ++ t117) ++ t118) ++ (strOfNums y122))) else (none))) else (none)) else (none)) else (none)))) = some (r1, r2) := H
    have A5 := Aside0.mk A50
    clear A50
    replace H := Option.bind_eq_some_iff.mp H
    obtain ⟨t118, A60, H⟩ := H
    replace H : ((some (([a0_0] : List Int) : List Int)).bind fun y119 => (if 1 + (strOfNums y119).size ≤ 9223372036854775807 then (if ((⟨#[255]⟩ : ByteArray) ++ (strOfNums y119)).size + t117.size ≤ 9223372036854775807 then (if (((⟨#[255]⟩ : ByteArray) ++ (strOfNums y119)) ++ t117).size + t118.size ≤ 9223372036854775807 then ((some (([(a0_3) % 256, (a0_4) % 256] : List Int) : List Int)).bind fun y122 => (if ((((⟨#[255]⟩ : ByteArray) ++ (strOfNums y119)) ++ t117) ++ t118).size + (strOfNums y122).size ≤ 9223372036854775807 then (tillrollref06_Frame.l0 k a1 (((((⟨#[255]⟩ : ByteArray) ++ (strOfNums y119)) ++ t117) ++ t118) ++ (strOfNums y122))) else (none))) else (none)) else (none)) else (none))) = some (r1, r2) := H
    have A6 := Aside0.mk A60
    clear A60
    obtain ⟨y119, hy119⟩ : ∃ y_ : List Int, y_ = (([a0_0] : List Int)) := ⟨_, rfl⟩
    replace H : (if 1 + (strOfNums y119).size ≤ 9223372036854775807 then (if ((⟨#[255]⟩ : ByteArray) ++ (strOfNums y119)).size + t117.size ≤ 9223372036854775807 then (if (((⟨#[255]⟩ : ByteArray) ++ (strOfNums y119)) ++ t117).size + t118.size ≤ 9223372036854775807 then ((some (([(a0_3) % 256, (a0_4) % 256] : List Int) : List Int)).bind fun y122 => (if ((((⟨#[255]⟩ : ByteArray) ++ (strOfNums y119)) ++ t117) ++ t118).size + (strOfNums y122).size ≤ 9223372036854775807 then (tillrollref06_Frame.l0 k a1 (((((⟨#[255]⟩ : ByteArray) ++ (strOfNums y119)) ++ t117) ++ t118) ++ (strOfNums y122))) else (none))) else (none)) else (none)) else (none)) = some (r1, r2) := by first | (rw [hy119]; with_reducible exact H) | (have H2_ := (Option.bind_some _ _).symm.trans H; rw [hy119]; with_reducible exact H2_) | (have H2_ := (Option.bind_some _ _).symm.trans H; with_reducible exact H2_) | with_reducible exact H | (rw [hy119]; exact H) | exact H
    have Ny119 := Aside0.mk hy119
    clear hy119
    by_cases c7 : 1 + (strOfNums y119).size ≤ 9223372036854775807
    · rw [if_pos c7] at H
      have c7b0 := eq_true c7
      have c7b1 : decide (1 + (strOfNums y119).size ≤ 9223372036854775807) = true := decide_eq_true c7
      try have c7b2 : (9223372036854775807 < 1 + (strOfNums y119).size) = False := eq_false (Nat.not_lt.2 c7)
      by_cases c8 : ((⟨#[255]⟩ : ByteArray) ++ (strOfNums y119)).size + t117.size ≤ 9223372036854775807
      · rw [if_pos c8] at H
        have c8b0 := eq_true c8
        have c8b1 : decide (((⟨#[255]⟩ : ByteArray) ++ (strOfNums y119)).size + t117.size ≤ 9223372036854775807) = true := decide_eq_true c8
        try have c8b2 : (9223372036854775807 < ((⟨#[255]⟩ : ByteArray) ++ (strOfNums y119)).size + t117.size) = False := eq_false (Nat.not_lt.2 c8)
        by_cases c9 : (((⟨#[255]⟩ : ByteArray) ++ (strOfNums y119)) ++ t117).size + t118.size ≤ 9223372036854775807
        · rw [if_pos c9] at H
          have c9b0 := eq_true c9
          have c9b1 : decide ((((⟨#[255]⟩ : ByteArray) ++ (strOfNums y119)) ++ t117).size + t118.size ≤ 9223372036854775807) = true := decide_eq_true c9
          try have c9b2 : (9223372036854775807 < (((⟨#[255]⟩ : ByteArray) ++ (strOfNums y119)) ++ t117).size + t118.size) = False := eq_false (Nat.not_lt.2 c9)
          obtain ⟨y122, hy122⟩ : ∃ y_ : List Int, y_ = (([(a0_3) % 256, (a0_4) % 256] : List Int)) := ⟨_, rfl⟩
          replace H : (if ((((⟨#[255]⟩ : ByteArray) ++ (strOfNums y119)) ++ t117) ++ t118).size + (strOfNums y122).size ≤ 9223372036854775807 then (tillrollref06_Frame.l0 k a1 (((((⟨#[255]⟩ : ByteArray) ++ (strOfNums y119)) ++ t117) ++ t118) ++ (strOfNums y122))) else (none)) = some (r1, r2) := by first | (rw [hy122]; with_reducible exact H) | (have H2_ := (Option.bind_some _ _).symm.trans H; rw [hy122]; with_reducible exact H2_) | (have H2_ := (Option.bind_some _ _).symm.trans H; with_reducible exact H2_) | with_reducible exact H | (rw [hy122]; exact H) | exact H
          have Ny122 := Aside0.mk hy122
          clear hy122
          by_cases c10 : ((((⟨#[255]⟩ : ByteArray) ++ (strOfNums y119)) ++ t117) ++ t118).size + (strOfNums y122).size ≤ 9223372036854775807
          · rw [if_pos c10] at H
            have c10b0 := eq_true c10
            have c10b1 : decide (((((⟨#[255]⟩ : ByteArray) ++ (strOfNums y119)) ++ t117) ++ t118).size + (strOfNums y122).size ≤ 9223372036854775807) = true := decide_eq_true c10
            try have c10b2 : (9223372036854775807 < ((((⟨#[255]⟩ : ByteArray) ++ (strOfNums y119)) ++ t117) ++ t118).size + (strOfNums y122).size) = False := eq_false (Nat.not_lt.2 c10)
            have H' := Aside0.mk H
            clear H
            go_enter Try.func11, Try.ntmps11
            go_wp2_with (first | ((with_reducible refine gate_dst (N := 2) rfl ?_); refine box_event ?hg (N := 2) ?hd (cs := #[.int .u8 a0_0, .int .i64 a0_1, .int .u64 a0_2, .int .i64 a0_3, .int .i64 a0_4]) (t := 41) ?hr ?_; (case hd => rfl); (case hg => rfl); (case hr => first | (go_simp; done) | (go_simp; rfl)); intro gb115 hg w11 hbox hb; have n0_ := Aside0.mk (below_step (by repeat (first | (with_reducible first | exact HB.out | apply below_alloc | apply pw_below_drewN | apply below_drew1) | exact HB.out)) hb); have n1_ := Aside0.mk (hbox); have n2_ := Aside0.mk ((by rw [hg]; exact (below_size (by repeat (first | (with_reducible first | exact HB.out | apply below_alloc | apply pw_below_drewN | apply below_drew1) | exact HB.out))) : w.heap.size ≤ gb115)); have n3_ := Aside0.mk ((by rw [hg]; exact (below_size (by repeat (first | (with_reducible first | exact HB.out | apply below_alloc | apply pw_below_drewN | apply below_drew1) | exact HB.out))) : w.heap.size ≤ gb115)); clear HB; have HB := n0_; have BK115 := n1_; have GW115 := n2_; have GE115 := n3_; clear n0_ n1_ n2_ n3_; clear hb hbox hg; have hcz12_0 : w11.cell? ⟨gb115, 0, none⟩ = some (.int .u8 a0_0) := (blk_cell BK115.out 0).trans rfl; have hcz12_1 : w11.cell? ⟨gb115, 1, none⟩ = some (.int .i64 a0_1) := (blk_cell BK115.out 1).trans rfl; have hcz12_2 : w11.cell? ⟨gb115, 2, none⟩ = some (.int .u64 a0_2) := (blk_cell BK115.out 2).trans rfl; have hcz12_3 : w11.cell? ⟨gb115, 3, none⟩ = some (.int .i64 a0_3) := (blk_cell BK115.out 3).trans rfl; have hcz12_4 : w11.cell? ⟨gb115, 4, none⟩ = some (.int .i64 a0_4) := (blk_cell BK115.out 4).trans rfl; have hfz12_0 := blk_frozen BK115.out 0; have hfz12_1 := blk_frozen BK115.out 1; have hfz12_2 := blk_frozen BK115.out 2; have hfz12_3 := blk_frozen BK115.out 3; have hfz12_4 := blk_frozen BK115.out 4) | ((with_reducible refine gate_callee (f := 13) rfl ?_); refine goesL_ (some 13) rfl rfl Try.func13 (by kernel_rfl) rfl #[.agg #[.int .u8 a0_0, .int .i64 a0_1, .int .u64 a0_2, .int .i64 a0_3, .int .i64 a0_4]] rfl (by (try simp only [List.map_toArray, List.map_cons, List.map_nil]); first | done | rfl | (simp only [List.length_drop, List.length_take]; rfl) | (simp only [ByteArray.size_append]; rfl) | (simp only [ByteArray.size_extract]; rfl)) ?_; (with_reducible refine (tillrollref06_Right.calls a0_0 a0_1 a0_2 a0_3 a0_4 true _ A3.out).mono ?_); rintro e w13 ⟨rfl, hb⟩; refine ⟨_, rfl, ?_⟩; have n0_ := Aside0.mk (blk_below (g := gb115) (o := .cells #[.int .u8 a0_0, .int .i64 a0_1, .int .u64 a0_2, .int .i64 a0_3, .int .i64 a0_4] 41 (0, 0)) (by (with_reducible repeat (first | refine blk_drewN ?_ _ | refine blk_drew ?_ | refine blk_alloc ?_ _)); exact BK115.out) hb); have n1_ := Aside0.mk (below_step (by repeat (first | (with_reducible first | exact HB.out | apply below_alloc | apply pw_below_drewN | apply below_drew1 | refine below_set ?_ GE115.out) | exact HB.out)) hb); clear BK115; clear HB; have BK115 := n0_; have HB := n1_; clear n0_ n1_; (try clear hb); (try clear hb2); (try clear hk); (try clear hi); have hcz14_0 : w13.cell? ⟨gb115, 0, none⟩ = some (.int .u8 a0_0) := (blk_cell BK115.out 0).trans rfl; have hcz14_1 : w13.cell? ⟨gb115, 1, none⟩ = some (.int .i64 a0_1) := (blk_cell BK115.out 1).trans rfl; have hcz14_2 : w13.cell? ⟨gb115, 2, none⟩ = some (.int .u64 a0_2) := (blk_cell BK115.out 2).trans rfl; have hcz14_3 : w13.cell? ⟨gb115, 3, none⟩ = some (.int .i64 a0_3) := (blk_cell BK115.out 3).trans rfl; have hcz14_4 : w13.cell? ⟨gb115, 4, none⟩ = some (.int .i64 a0_4) := (blk_cell BK115.out 4).trans rfl; have hfz14_0 := blk_frozen BK115.out 0; have hfz14_1 := blk_frozen BK115.out 1; have hfz14_2 := blk_frozen BK115.out 2; have hfz14_3 := blk_frozen BK115.out 3; have hfz14_4 := blk_frozen BK115.out 4) | ((with_reducible refine gate_callee (f := 23) rfl ?_); refine goesL_ (some 19) rfl rfl Try.func23 (by kernel_rfl) rfl #[.int .u64 (IntKind.u64.wrap (a0_1)), .int .i64 2] rfl (by (try simp only [List.map_toArray, List.map_cons, List.map_nil]); first | done | rfl | (simp only [List.length_drop, List.length_take]; rfl) | (simp only [ByteArray.size_append]; rfl) | (simp only [ByteArray.size_extract]; rfl)) ?_; (with_reducible refine (tillrollref01_Put.calls k (IntKind.u64.wrap (a0_1)) 2 t117 _ A5.out).mono ?_); rintro e w15 ⟨rfl, hb⟩; refine ⟨_, rfl, ?_⟩; have n0_ := Aside0.mk (blk_below (g := gb115) (o := .cells #[.int .u8 a0_0, .int .i64 a0_1, .int .u64 a0_2, .int .i64 a0_3, .int .i64 a0_4] 41 (0, 0)) (by (with_reducible repeat (first | refine blk_drewN ?_ _ | refine blk_drew ?_ | refine blk_alloc ?_ _)); exact BK115.out) hb); have n1_ := Aside0.mk (below_step (by repeat (first | (with_reducible first | exact HB.out | apply below_alloc | apply pw_below_drewN | apply below_drew1 | refine below_set ?_ GE115.out) | exact HB.out)) hb); clear BK115; clear HB; have BK115 := n0_; have HB := n1_; clear n0_ n1_; (try clear hb); (try clear hb2); (try clear hk); (try clear hi); have hcz16_0 : w15.cell? ⟨gb115, 0, none⟩ = some (.int .u8 a0_0) := (blk_cell BK115.out 0).trans rfl; have hcz16_1 : w15.cell? ⟨gb115, 1, none⟩ = some (.int .i64 a0_1) := (blk_cell BK115.out 1).trans rfl; have hcz16_2 : w15.cell? ⟨gb115, 2, none⟩ = some (.int .u64 a0_2) := (blk_cell BK115.out 2).trans rfl; have hcz16_3 : w15.cell? ⟨gb115, 3, none⟩ = some (.int .i64 a0_3) := (blk_cell BK115.out 3).trans rfl; have hcz16_4 : w15.cell? ⟨gb115, 4, none⟩ = some (.int .i64 a0_4) := (blk_cell BK115.out 4).trans rfl; have hfz16_0 := blk_frozen BK115.out 0; have hfz16_1 := blk_frozen BK115.out 1; have hfz16_2 := blk_frozen BK115.out 2; have hfz16_3 := blk_frozen BK115.out 3; have hfz16_4 := blk_frozen BK115.out 4) | ((with_reducible refine gate_callee (f := 23) rfl ?_); refine goesL_ (some 22) rfl rfl Try.func23 (by kernel_rfl) rfl #[.int .u64 a0_2, .int .i64 8] rfl (by (try simp only [List.map_toArray, List.map_cons, List.map_nil]); first | done | rfl | (simp only [List.length_drop, List.length_take]; rfl) | (simp only [ByteArray.size_append]; rfl) | (simp only [ByteArray.size_extract]; rfl)) ?_; (with_reducible refine (tillrollref01_Put.calls k a0_2 8 t118 _ A6.out).mono ?_); rintro e w17 ⟨rfl, hb⟩; refine ⟨_, rfl, ?_⟩; have n0_ := Aside0.mk (blk_below (g := gb115) (o := .cells #[.int .u8 a0_0, .int .i64 a0_1, .int .u64 a0_2, .int .i64 a0_3, .int .i64 a0_4] 41 (0, 0)) (by (with_reducible repeat (first | refine blk_drewN ?_ _ | refine blk_drew ?_ | refine blk_alloc ?_ _)); exact BK115.out) hb); have n1_ := Aside0.mk (below_step (by repeat (first | (with_reducible first | exact HB.out | apply below_alloc | apply pw_below_drewN | apply below_drew1 | refine below_set ?_ GE115.out) | exact HB.out)) hb); clear BK115; clear HB; have BK115 := n0_; have HB := n1_; clear n0_ n1_; (try clear hb); (try clear hb2); (try clear hk); (try clear hi); have hcz18_0 : w17.cell? ⟨gb115, 0, none⟩ = some (.int .u8 a0_0) := (blk_cell BK115.out 0).trans rfl; have hcz18_1 : w17.cell? ⟨gb115, 1, none⟩ = some (.int .i64 a0_1) := (blk_cell BK115.out 1).trans rfl; have hcz18_2 : w17.cell? ⟨gb115, 2, none⟩ = some (.int .u64 a0_2) := (blk_cell BK115.out 2).trans rfl; have hcz18_3 : w17.cell? ⟨gb115, 3, none⟩ = some (.int .i64 a0_3) := (blk_cell BK115.out 3).trans rfl; have hcz18_4 : w17.cell? ⟨gb115, 4, none⟩ = some (.int .i64 a0_4) := (blk_cell BK115.out 4).trans rfl; have hfz18_0 := blk_frozen BK115.out 0; have hfz18_1 := blk_frozen BK115.out 1; have hfz18_2 := blk_frozen BK115.out 2; have hfz18_3 := blk_frozen BK115.out 3; have hfz18_4 := blk_frozen BK115.out 4) | ((with_reducible refine gate_dst (N := 25) rfl ?_); refine Kd.R_lit (Kd.int .u8) _ 5 ?hg (N := 25) ?hd (xs := ([a0_0] : List Int)) (inner := [.int .u8 a0_0]) (ok := fun _ => True) (okp := fun _ => True) ?hr ?hp (fun _ hk => hk) trivial (Below.refl _ _) (Nat.le_refl _) (by simp) ?_; (case hd => rfl); (case hg => rfl); (case hr => first | (go_simp; done) | (go_simp; rfl)); (case hp => exact (Reps.one (show Kd.M (Kd.int .u8) _ _ _ a0_0 [.int .u8 a0_0] from rfl) (Reps.none _ _))); intro v120 w19 ho20 hb hg_ hnew_; clear hg_ hnew_; (first | rw [← Ny119.out] at ho20 | (simp only [Int.reduceToNat] at ho20; rw [← Ny119.out] at ho20)); have n0_ := Aside0.mk (Kd.R_lower ho20 (below_size (by repeat (first | (with_reducible first | exact HB.out | apply below_alloc | apply pw_below_drewN | apply below_drew1 | refine below_set ?_ GE115.out) | exact HB.out)))); have n1_ := Aside0.mk (blk_below (g := gb115) (o := .cells #[.int .u8 a0_0, .int .i64 a0_1, .int .u64 a0_2, .int .i64 a0_3, .int .i64 a0_4] 41 (0, 0)) (by (with_reducible repeat (first | refine blk_drewN ?_ _ | refine blk_drew ?_ | refine blk_alloc ?_ _)); exact BK115.out) hb); have n2_ := Aside0.mk (below_step (by repeat (first | (with_reducible first | exact HB.out | apply below_alloc | apply pw_below_drewN | apply below_drew1 | refine below_set ?_ GE115.out) | exact HB.out)) hb); clear BK115; clear HB; have HO121 := n0_; have BK115 := n1_; have HB := n2_; clear n0_ n1_ n2_; clear hb ho20; have hcv21 := own_string (P := Try.prog) Try.underlying52 Try.underlying5 Try.underlying9 (Kd.own_of_R HO121.out); have hcz22_0 : w19.cell? ⟨gb115, 0, none⟩ = some (.int .u8 a0_0) := (blk_cell BK115.out 0).trans rfl; have hcz22_1 : w19.cell? ⟨gb115, 1, none⟩ = some (.int .i64 a0_1) := (blk_cell BK115.out 1).trans rfl; have hcz22_2 : w19.cell? ⟨gb115, 2, none⟩ = some (.int .u64 a0_2) := (blk_cell BK115.out 2).trans rfl; have hcz22_3 : w19.cell? ⟨gb115, 3, none⟩ = some (.int .i64 a0_3) := (blk_cell BK115.out 3).trans rfl; have hcz22_4 : w19.cell? ⟨gb115, 4, none⟩ = some (.int .i64 a0_4) := (blk_cell BK115.out 4).trans rfl; have hfz22_0 := blk_frozen BK115.out 0; have hfz22_1 := blk_frozen BK115.out 1; have hfz22_2 := blk_frozen BK115.out 2; have hfz22_3 := blk_frozen BK115.out 3; have hfz22_4 := blk_frozen BK115.out 4) | ((with_reducible refine gate_dst (N := 38) rfl ?_); refine Kd.R_lit (Kd.int .u8) _ 5 ?hg (N := 38) ?hd (xs := ([(a0_3) % 256, (a0_4) % 256] : List Int)) (inner := [.int .u8 ((a0_3) % 256), .int .u8 ((a0_4) % 256)]) (ok := fun _ => True) (okp := fun _ => True) ?hr ?hp (fun _ hk => hk) trivial (Below.refl _ _) (Nat.le_refl _) (by simp) ?_; (case hd => rfl); (case hg => rfl); (case hr => first | (go_simp; done) | (go_simp; rfl)); (case hp => exact (Reps.one (show Kd.M (Kd.int .u8) _ _ _ ((a0_3) % 256) [.int .u8 ((a0_3) % 256)] from rfl) (Reps.one (show Kd.M (Kd.int .u8) _ _ _ ((a0_4) % 256) [.int .u8 ((a0_4) % 256)] from rfl) (Reps.none _ _)))); intro v123 w23 ho24 hb hg_ hnew_; clear hg_ hnew_; (first | rw [← Ny122.out] at ho24 | (simp only [Int.reduceToNat] at ho24; rw [← Ny122.out] at ho24)); have n0_ := Aside0.mk (Kd.R_elder' (by (with_reducible repeat (first | apply Kd.R_alloc | apply Kd.R_drewN | apply Kd.R_drew)); exact HO121.out) (Kd.R_base ho24) hb); have n1_ := Aside0.mk (Kd.R_lower (Kd.R_new' ho24 (Kd.R_lt (by (with_reducible repeat (first | apply Kd.R_alloc | apply Kd.R_drewN | apply Kd.R_drew)); exact HO121.out))) (below_size (by repeat (first | (with_reducible first | exact HB.out | apply below_alloc | apply pw_below_drewN | apply below_drew1 | refine below_set ?_ GE115.out) | exact HB.out)))); have n2_ := Aside0.mk (blk_below (g := gb115) (o := .cells #[.int .u8 a0_0, .int .i64 a0_1, .int .u64 a0_2, .int .i64 a0_3, .int .i64 a0_4] 41 (0, 0)) (by (with_reducible repeat (first | refine blk_drewN ?_ _ | refine blk_drew ?_ | refine blk_alloc ?_ _)); exact BK115.out) hb); have n3_ := Aside0.mk (below_step (by repeat (first | (with_reducible first | exact HB.out | apply below_alloc | apply pw_below_drewN | apply below_drew1 | refine below_set ?_ GE115.out) | exact HB.out)) hb); clear HO121; clear BK115; clear HB; have HO121 := n0_; have HO124 := n1_; have BK115 := n2_; have HB := n3_; clear n0_ n1_ n2_ n3_; clear hb ho24; have hcv25 := own_string (P := Try.prog) Try.underlying52 Try.underlying5 Try.underlying9 (Kd.own_of_R HO124.out)))
            go_loopg [9] k (fun kq v9 w' => ∃ (x9_1 : ByteArray), v9 = .string x9_1 ∧ Aside0 (tillrollref06_Frame.l0 kq a1 x9_1 = some (r1, r2)) ∧ Aside0 (kq ≤ k) ∧ Aside0 (w'.heap[gb115]? = some (.cells #[.int .u8 a0_0, .int .i64 a0_1, .int .u64 a0_2, .int .i64 a0_3, .int .i64 a0_4] 41 (0, 0))) ∧ Aside0 (Below w.heap.size w w'))
            case atStart => exact ⟨(((((⟨#[255]⟩ : ByteArray) ++ (strOfNums y119)) ++ t117) ++ t118) ++ (strOfNums y122)), (by first | rfl | (simp; done) | (simp [*]; done)), H', ⟨Nat.le_refl _⟩, ⟨by (with_reducible repeat (first | refine blk_drewN ?_ _ | refine blk_drew ?_ | refine blk_alloc ?_ _)); exact BK115.out⟩, ⟨by repeat (first | (with_reducible first | exact HB.out | apply below_alloc | apply pw_below_drewN | apply below_drew1 | refine below_set ?_ GE115.out) | exact HB.out)⟩⟩
            case round =>
              clear H'
              try clear c1
              try clear c2
              try clear p2
              try clear hcv2
              try clear c4
              try clear c7
              try clear c7b0
              try clear c7b1
              try clear c7b2
              try clear c8
              try clear c8b0
              try clear c8b1
              try clear c8b2
              try clear c9
              try clear c9b0
              try clear c9b1
              try clear c9b2
              try clear c10
              try clear c10b0
              try clear c10b1
              try clear c10b2
              try clear c11
              try clear c13
              try clear hcv21
              try clear c23
              try clear hcv25
              try clear hcz12_0
              try clear hcz12_1
              try clear hcz12_2
              try clear hcz12_3
              try clear hcz12_4
              try clear hcz14_0
              try clear hcz14_1
              try clear hcz14_2
              try clear hcz14_3
              try clear hcz14_4
              try clear hcz16_0
              try clear hcz16_1
              try clear hcz16_2
              try clear hcz16_3
              try clear hcz16_4
              try clear hcz18_0
              try clear hcz18_1
              try clear hcz18_2
              try clear hcz18_3
              try clear hcz18_4
              try clear hcz22_0
              try clear hcz22_1
              try clear hcz22_2
              try clear hcz22_3
              try clear hcz22_4
              try clear hfz12_0
              try clear hfz12_1
              try clear hfz12_2
              try clear hfz12_3
              try clear hfz12_4
              try clear hfz14_0
              try clear hfz14_1
              try clear hfz14_2
              try clear hfz14_3
              try clear hfz14_4
              try clear hfz16_0
              try clear hfz16_1
              try clear hfz16_2
              try clear hfz16_3
              try clear hfz16_4
              try clear hfz18_0
              try clear hfz18_1
              try clear hfz18_2
              try clear hfz18_3
              try clear hfz18_4
              try clear hfz22_0
              try clear hfz22_1
              try clear hfz22_2
              try clear hfz22_3
              try clear hfz22_4
              obtain ⟨x9_1, rfl, HA, HK1, BK115, HB⟩ := hrel
              cases gk with
              | zero => exact absurd HA.out (by simp [tillrollref06_Frame.l0])
              | succ k1 =>
                have H := HA.out
                clear HA
                simp only [tillrollref06_Frame.l0] at H
                by_cases c26 : (x9_1.size : Int) < 28
                · rw [if_pos c26] at H
                  have c26b0 : decide ((x9_1.size : Int) < 28) = true := decide_eq_true c26
                  have c26b1 : decide (x9_1.size < 28) = true := decide_eq_true (by omega)
                  clear c26
                  by_cases c27 : x9_1.size + 1 ≤ 9223372036854775807
                  · rw [if_pos c27] at H
                    have c27b0 := eq_true c27
                    have c27b1 : decide (x9_1.size + 1 ≤ 9223372036854775807) = true := decide_eq_true c27
                    try have c27b2 : (9223372036854775807 < x9_1.size + 1) = False := eq_false (Nat.not_lt.2 c27)
                    have H' := Aside0.mk H
                    clear H
                    go_wp2
                    go_roundg k1
                    case measure => have := HK1.out; omega
                    case rel => exact ⟨(x9_1 ++ (⟨#[0]⟩ : ByteArray)), (by first | rfl | (simp; done) | (simp [*]; done)), H', ⟨by have := HK1.out; omega⟩, ⟨by (with_reducible repeat (first | refine blk_drewN ?_ _ | refine blk_drew ?_ | refine blk_alloc ?_ _)); exact BK115.out⟩, ⟨by repeat (first | (with_reducible first | exact HB.out | apply below_alloc | apply pw_below_drewN | apply below_drew1 | refine below_set ?_ GE115.out) | exact HB.out)⟩⟩
                  · rw [if_neg c27] at H
                    exact absurd H (by simp)
                · rw [if_neg c26] at H
                  have c26b0 : decide ((x9_1.size : Int) < 28) = false := decide_eq_false c26
                  have c26b1 : decide (x9_1.size < 28) = false := decide_eq_false (by omega)
                  clear c26
                  by_cases c28 : a1.size + x9_1.size ≤ 9223372036854775807
                  · rw [if_pos c28] at H
                    have c28b0 := eq_true c28
                    have c28b1 : decide (a1.size + x9_1.size ≤ 9223372036854775807) = true := decide_eq_true c28
                    try have c28b2 : (9223372036854775807 < a1.size + x9_1.size) = False := eq_false (Nat.not_lt.2 c28)
                    replace H := Option.bind_eq_some_iff.mp H
                    obtain ⟨t125, A290, H⟩ := H
                    replace H : ((tillrollref01_Put.f k1 t125 4).bind fun t126 => (if x9_1.size + t126.size ≤ 9223372036854775807 then (some (x9_1 ++ t126, 0)) else (none))) = some (r1, r2) := H
                    have A29 := Aside0.mk A290
                    clear A290
                    replace H := Option.bind_eq_some_iff.mp H
                    obtain ⟨t126, A300, H⟩ := H
                    replace H : (if x9_1.size + t126.size ≤ 9223372036854775807 then (some (x9_1 ++ t126, 0)) else (none)) = some (r1, r2) := H
                    have A30 := Aside0.mk A300
                    clear A300
                    by_cases c31 : x9_1.size + t126.size ≤ 9223372036854775807
                    · rw [if_pos c31] at H
                      have c31b0 := eq_true c31
                      have c31b1 : decide (x9_1.size + t126.size ≤ 9223372036854775807) = true := decide_eq_true c31
                      try have c31b2 : (9223372036854775807 < x9_1.size + t126.size) = False := eq_false (Nat.not_lt.2 c31)
                      simp only [Option.some.injEq, Prod.mk.injEq] at H
                      obtain ⟨rfl, rfl⟩ := H
                      go_wp2_with (first | ((with_reducible refine gate_callee (f := 24) rfl ?_); refine goesL_ (some 49) rfl rfl Try.func24 (by kernel_rfl) rfl #[.string (a1 ++ x9_1)] rfl (by (try simp only [List.map_toArray, List.map_cons, List.map_nil]); first | done | rfl | (simp only [List.length_drop, List.length_take]; rfl) | (simp only [ByteArray.size_append]; rfl) | (simp only [ByteArray.size_extract]; rfl)) ?_; (with_reducible refine (tillrollref02_Sum.calls k1 (a1 ++ x9_1) t125 _ A29.out).mono ?_); rintro e w' ⟨rfl, ⟨nd, rfl⟩⟩; refine ⟨_, rfl, ?_⟩) | ((with_reducible refine gate_callee (f := 23) rfl ?_); refine goesL_ (some 51) rfl rfl Try.func23 (by kernel_rfl) rfl #[.int .u64 t125, .int .i64 4] rfl (by (try simp only [List.map_toArray, List.map_cons, List.map_nil]); first | done | rfl | (simp only [List.length_drop, List.length_take]; rfl) | (simp only [ByteArray.size_append]; rfl) | (simp only [ByteArray.size_extract]; rfl)) ?_; (with_reducible refine (tillrollref01_Put.calls k1 t125 4 t126 _ A30.out).mono ?_); rintro e w32 ⟨rfl, hb⟩; refine ⟨_, rfl, ?_⟩; have n0_ := Aside0.mk (blk_below (g := gb115) (o := .cells #[.int .u8 a0_0, .int .i64 a0_1, .int .u64 a0_2, .int .i64 a0_3, .int .i64 a0_4] 41 (0, 0)) (by (with_reducible repeat (first | refine blk_drewN ?_ _ | refine blk_drew ?_ | refine blk_alloc ?_ _)); exact BK115.out) hb); have n1_ := Aside0.mk (below_step (by repeat (first | (with_reducible first | exact HB.out | apply below_alloc | apply pw_below_drewN | apply below_drew1 | refine below_set ?_ GE115.out) | exact HB.out)) hb); clear BK115; clear HB; have BK115 := n0_; have HB := n1_; clear n0_ n1_; (try clear hb); (try clear hb2); (try clear hk); (try clear hi)))
                      go_ret2
                      exact ⟨by first | rfl | (simp [errW_none, errW_some] <;> rfl) | (simp [*, errW_none, errW_some] <;> rfl), by repeat (first | (with_reducible first | exact HB.out | apply below_alloc | apply pw_below_drewN | apply below_drew1 | refine below_set ?_ GE115.out) | exact HB.out)⟩
                    · rw [if_neg c31] at H
                      exact absurd H (by simp)
                  · rw [if_neg c28] at H
                    exact absurd H (by simp)
          · rw [if_neg c10] at H
            exact absurd H (by simp)
        · rw [if_neg c9] at H
          exact absurd H (by simp)
      · rw [if_neg c8] at H
        exact absurd H (by simp)
    · rw [if_neg c7] at H
      exact absurd H (by simp)
  · replace c4 := Bool.eq_false_iff.mpr c4
    subst c4
    have H1 : (some ((⟨#[]⟩ : ByteArray), 2)) = some (r1, r2) := by rw [if_neg (show ¬ (false = true) by decide)] at H; exact H
    clear H
    have H := H1
    clear H1
    simp only [Option.some.injEq, Prod.mk.injEq] at H
    obtain ⟨rfl, rfl⟩ := H
    go_enter Try.func11, Try.ntmps11
    go_wp2_with (first | ((with_reducible refine gate_dst (N := 2) rfl ?_); refine box_event ?hg (N := 2) ?hd (cs := #[.int .u8 a0_0, .int .i64 a0_1, .int .u64 a0_2, .int .i64 a0_3, .int .i64 a0_4]) (t := 41) ?hr ?_; (case hd => rfl); (case hg => rfl); (case hr => first | (go_simp; done) | (go_simp; rfl)); intro gb115 hg w33 hbox hb; have n0_ := Aside0.mk (below_step (by repeat (first | (with_reducible first | exact HB.out | apply below_alloc | apply pw_below_drewN | apply below_drew1) | exact HB.out)) hb); have n1_ := Aside0.mk (hbox); have n2_ := Aside0.mk ((by rw [hg]; exact (below_size (by repeat (first | (with_reducible first | exact HB.out | apply below_alloc | apply pw_below_drewN | apply below_drew1) | exact HB.out))) : w.heap.size ≤ gb115)); have n3_ := Aside0.mk ((by rw [hg]; exact (below_size (by repeat (first | (with_reducible first | exact HB.out | apply below_alloc | apply pw_below_drewN | apply below_drew1) | exact HB.out))) : w.heap.size ≤ gb115)); clear HB; have HB := n0_; have BK115 := n1_; have GW115 := n2_; have GE115 := n3_; clear n0_ n1_ n2_ n3_; clear hb hbox hg; have hcz34_0 : w33.cell? ⟨gb115, 0, none⟩ = some (.int .u8 a0_0) := (blk_cell BK115.out 0).trans rfl; have hcz34_1 : w33.cell? ⟨gb115, 1, none⟩ = some (.int .i64 a0_1) := (blk_cell BK115.out 1).trans rfl; have hcz34_2 : w33.cell? ⟨gb115, 2, none⟩ = some (.int .u64 a0_2) := (blk_cell BK115.out 2).trans rfl; have hcz34_3 : w33.cell? ⟨gb115, 3, none⟩ = some (.int .i64 a0_3) := (blk_cell BK115.out 3).trans rfl; have hcz34_4 : w33.cell? ⟨gb115, 4, none⟩ = some (.int .i64 a0_4) := (blk_cell BK115.out 4).trans rfl; have hfz34_0 := blk_frozen BK115.out 0; have hfz34_1 := blk_frozen BK115.out 1; have hfz34_2 := blk_frozen BK115.out 2; have hfz34_3 := blk_frozen BK115.out 3; have hfz34_4 := blk_frozen BK115.out 4) | ((with_reducible refine gate_callee (f := 13) rfl ?_); refine goesL_ (some 13) rfl rfl Try.func13 (by kernel_rfl) rfl #[.agg #[.int .u8 a0_0, .int .i64 a0_1, .int .u64 a0_2, .int .i64 a0_3, .int .i64 a0_4]] rfl (by (try simp only [List.map_toArray, List.map_cons, List.map_nil]); first | done | rfl | (simp only [List.length_drop, List.length_take]; rfl) | (simp only [ByteArray.size_append]; rfl) | (simp only [ByteArray.size_extract]; rfl)) ?_; (with_reducible refine (tillrollref06_Right.calls a0_0 a0_1 a0_2 a0_3 a0_4 false _ A3.out).mono ?_); rintro e w35 ⟨rfl, hb⟩; refine ⟨_, rfl, ?_⟩; have n0_ := Aside0.mk (blk_below (g := gb115) (o := .cells #[.int .u8 a0_0, .int .i64 a0_1, .int .u64 a0_2, .int .i64 a0_3, .int .i64 a0_4] 41 (0, 0)) (by (with_reducible repeat (first | refine blk_drewN ?_ _ | refine blk_drew ?_ | refine blk_alloc ?_ _)); exact BK115.out) hb); have n1_ := Aside0.mk (below_step (by repeat (first | (with_reducible first | exact HB.out | apply below_alloc | apply pw_below_drewN | apply below_drew1 | refine below_set ?_ GE115.out) | exact HB.out)) hb); clear BK115; clear HB; have BK115 := n0_; have HB := n1_; clear n0_ n1_; (try clear hb); (try clear hb2); (try clear hk); (try clear hi)))
    go_ret2
    exact ⟨by first | rfl | (simp [errW_none, errW_some] <;> rfl) | (simp [*, errW_none, errW_some] <;> rfl), by repeat (first | (with_reducible first | exact HB.out | apply below_alloc | apply pw_below_drewN | apply below_drew1 | refine below_set ?_ GE115.out) | exact HB.out)⟩

end Go.Proofs.Ytfomgljhcegjdaa.P
