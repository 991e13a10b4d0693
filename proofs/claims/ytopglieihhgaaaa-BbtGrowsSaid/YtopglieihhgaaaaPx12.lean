-- Made by a program of this session (xprint) out of the translation. Not trusted: Lean checks it.
import Derived.Test.YtopglieihhgaaaaPx0
import Derived.Test.YtopglieihhgaaaaPx11
namespace Go.Proofs.Ytopglieihhgaaaa.P
open Go.RowKit Go.Proofs.YtopglieihhgaaaaW.PrintWords Go.Proofs.YtopglieihhgaaaaW.PrintLast Go.Proofs.YtopglieihhgaaaaW.PrintMore
attribute [local go_sem] max2_int min2_int max_two min_two max_three min_three max_four min_four   -- for this text's walks alone
set_option linter.unusedVariables false
set_option linter.unusedSimpArgs false

/-! ### tillrollref09_Text: function 14 -/
mutual
def tillrollref09_Text.j0 : Nat → Int → List Bool → Int → Int → Option (ByteArray × Int)
  | 0, _, _, _, _ => none
  | k + 1, x0, x1, x2, x8 => if x8 = 0 then (tillrollref09_Text.j1 k x0 x1 x2 x8 true) else (if x2 < (wrap64 (8 + x8)) then (tillrollref09_Text.j1 k x0 x1 x2 x8 true) else (tillrollref09_Text.j1 k x0 x1 x2 x8 (decide (x2 > 1024))))
def tillrollref09_Text.j1 : Nat → Int → List Bool → Int → Int → Bool → Option (ByteArray × Int)
  | 0, _, _, _, _, _ => none
  | k + 1, x0, x1, x2, x8, x32 => if x32 = true then (some ((⟨#[]⟩ : ByteArray), 2)) else ((tillrollref01_Put.f k x0 8).bind fun t270 => (tillrollref09_Text.l0 k x1 x2 x8 t270 0 0))
def tillrollref09_Text.l0 : Nat → List Bool → Int → Int → ByteArray → Int → Int → Option (ByteArray × Int)
  | 0, _, _, _, _, _, _ => none
  | k + 1, x1, x2, x8, x9, x10, x11 => if x11 < (wrap64 (8 * x8)) then (if x11 < (x1.length : Int) then (if 0 ≤ x11 then (tillrollref09_Text.j3 k x1 x2 x8 x9 ((2 * x10) % 256) x11 (rdOf false x1 x11)) else (none)) else (tillrollref09_Text.j3 k x1 x2 x8 x9 ((2 * x10) % 256) x11 false)) else (tillrollref09_Text.l1 k x2 x9)
def tillrollref09_Text.j3 : Nat → List Bool → Int → Int → ByteArray → Int → Int → Bool → Option (ByteArray × Int)
  | 0, _, _, _, _, _, _, _ => none
  | k + 1, x1, x2, x8, x9, x10, x11, x52 => if x52 = true then (if (Int.tmod x11 8) = 7 then ((some (([(x10 + 1) % 256] : List Int) : List Int)).bind fun y272 => (if x9.size + (strOfNums y272).size ≤ 9223372036854775807 then (tillrollref09_Text.l0 k x1 x2 x8 (x9 ++ (strOfNums y272)) 0 (wrap64 (x11 + 1))) else (none))) else (tillrollref09_Text.l0 k x1 x2 x8 x9 ((x10 + 1) % 256) (wrap64 (x11 + 1)))) else (if (Int.tmod x11 8) = 7 then ((some (([x10] : List Int) : List Int)).bind fun y275 => (if x9.size + (strOfNums y275).size ≤ 9223372036854775807 then (tillrollref09_Text.l0 k x1 x2 x8 (x9 ++ (strOfNums y275)) 0 (wrap64 (x11 + 1))) else (none))) else (tillrollref09_Text.l0 k x1 x2 x8 x9 x10 (wrap64 (x11 + 1))))
def tillrollref09_Text.l1 : Nat → Int → ByteArray → Option (ByteArray × Int)
  | 0, _, _ => none
  | k + 1, x2, x9 => if (x9.size : Int) < x2 then (if x9.size + 1 ≤ 9223372036854775807 then (tillrollref09_Text.l1 k x2 (x9 ++ (⟨#[0]⟩ : ByteArray))) else (none)) else (some (x9, 0))
end
def tillrollref09_Text.f (k : Nat) (a0 : Int) (l1 : List Bool) (a2 : Int) : Option (ByteArray × Int) := if ((l1.length : Int) % 8) > 0 then (tillrollref09_Text.j0 k a0 l1 a2 (wrap64 ((wrap64 ((l1.length : Int) / 8)) + 1))) else (tillrollref09_Text.j0 k a0 l1 a2 (wrap64 ((l1.length : Int) / 8)))
theorem tillrollref09_Text.mono_l : ∀ k, (∀ y0 y1 y2 y3, LeO (tillrollref09_Text.j0 k y0 y1 y2 y3) (tillrollref09_Text.j0 (k + 1) y0 y1 y2 y3)) ∧ (∀ y0 y1 y2 y3 y4, LeO (tillrollref09_Text.j1 k y0 y1 y2 y3 y4) (tillrollref09_Text.j1 (k + 1) y0 y1 y2 y3 y4)) ∧ (∀ y0 y1 y2 y3 y4 y5, LeO (tillrollref09_Text.l0 k y0 y1 y2 y3 y4 y5) (tillrollref09_Text.l0 (k + 1) y0 y1 y2 y3 y4 y5)) ∧ (∀ y0 y1 y2 y3 y4 y5 y6, LeO (tillrollref09_Text.j3 k y0 y1 y2 y3 y4 y5 y6) (tillrollref09_Text.j3 (k + 1) y0 y1 y2 y3 y4 y5 y6)) ∧ (∀ y0 y1, LeO (tillrollref09_Text.l1 k y0 y1) (tillrollref09_Text.l1 (k + 1) y0 y1))
  | 0 => ⟨fun _ _ _ _ r h => by simp [tillrollref09_Text.j0] at h, fun _ _ _ _ _ r h => by simp [tillrollref09_Text.j1] at h, fun _ _ _ _ _ _ r h => by simp [tillrollref09_Text.l0] at h, fun _ _ _ _ _ _ _ r h => by simp [tillrollref09_Text.j3] at h, fun _ _ r h => by simp [tillrollref09_Text.l1] at h⟩
  | k + 1 => by
    obtain ⟨ih0, ih1, ih2, ih3, ih4⟩ := tillrollref09_Text.mono_l k
    refine ⟨?_, ?_, ?_, ?_, ?_⟩
    · intro y0 y1 y2 y3
      unfold tillrollref09_Text.j0
      repeat' first
      | (with_reducible exact ih0 _ _ _ _)
      | (with_reducible exact ih1 _ _ _ _ _)
      | (with_reducible exact ih2 _ _ _ _ _ _)
      | (with_reducible exact ih3 _ _ _ _ _ _ _)
      | (with_reducible exact ih4 _ _)
      | (with_reducible exact tillrollref01_Put.mono _ _ _)
      | (with_reducible exact LeO.refl _)
      | (with_reducible exact LeO.none _)
      | (with_reducible refine LeO.ite ?_ ?_)
      | (with_reducible refine LeO.bind ?_ (fun _ => ?_))
      | exact ih0 _ _ _ _
      | exact ih1 _ _ _ _ _
      | exact ih2 _ _ _ _ _ _
      | exact ih3 _ _ _ _ _ _ _
      | exact ih4 _ _
      | exact tillrollref01_Put.mono _ _ _
      | exact LeO.none _
      | refine LeO.ite ?_ ?_
      | refine LeO.bind ?_ (fun _ => ?_)
    · intro y0 y1 y2 y3 y4
      unfold tillrollref09_Text.j1
      repeat' first
      | (with_reducible exact ih0 _ _ _ _)
      | (with_reducible exact ih1 _ _ _ _ _)
      | (with_reducible exact ih2 _ _ _ _ _ _)
      | (with_reducible exact ih3 _ _ _ _ _ _ _)
      | (with_reducible exact ih4 _ _)
      | (with_reducible exact tillrollref01_Put.mono _ _ _)
      | (with_reducible exact LeO.refl _)
      | (with_reducible exact LeO.none _)
      | (with_reducible refine LeO.ite ?_ ?_)
      | (with_reducible refine LeO.bind ?_ (fun _ => ?_))
      | exact ih0 _ _ _ _
      | exact ih1 _ _ _ _ _
      | exact ih2 _ _ _ _ _ _
      | exact ih3 _ _ _ _ _ _ _
      | exact ih4 _ _
      | exact tillrollref01_Put.mono _ _ _
      | exact LeO.none _
      | refine LeO.ite ?_ ?_
      | refine LeO.bind ?_ (fun _ => ?_)
    · intro y0 y1 y2 y3 y4 y5
      unfold tillrollref09_Text.l0
      repeat' first
      | (with_reducible exact ih0 _ _ _ _)
      | (with_reducible exact ih1 _ _ _ _ _)
      | (with_reducible exact ih2 _ _ _ _ _ _)
      | (with_reducible exact ih3 _ _ _ _ _ _ _)
      | (with_reducible exact ih4 _ _)
      | (with_reducible exact tillrollref01_Put.mono _ _ _)
      | (with_reducible exact LeO.refl _)
      | (with_reducible exact LeO.none _)
      | (with_reducible refine LeO.ite ?_ ?_)
      | (with_reducible refine LeO.bind ?_ (fun _ => ?_))
      | exact ih0 _ _ _ _
      | exact ih1 _ _ _ _ _
      | exact ih2 _ _ _ _ _ _
      | exact ih3 _ _ _ _ _ _ _
      | exact ih4 _ _
      | exact tillrollref01_Put.mono _ _ _
      | exact LeO.none _
      | refine LeO.ite ?_ ?_
      | refine LeO.bind ?_ (fun _ => ?_)
    · intro y0 y1 y2 y3 y4 y5 y6
      unfold tillrollref09_Text.j3
      repeat' first
      | (with_reducible exact ih0 _ _ _ _)
      | (with_reducible exact ih1 _ _ _ _ _)
      | (with_reducible exact ih2 _ _ _ _ _ _)
      | (with_reducible exact ih3 _ _ _ _ _ _ _)
      | (with_reducible exact ih4 _ _)
      | (with_reducible exact tillrollref01_Put.mono _ _ _)
      | (with_reducible exact LeO.refl _)
      | (with_reducible exact LeO.none _)
      | (with_reducible refine LeO.ite ?_ ?_)
      | (with_reducible refine LeO.bind ?_ (fun _ => ?_))
      | exact ih0 _ _ _ _
      | exact ih1 _ _ _ _ _
      | exact ih2 _ _ _ _ _ _
      | exact ih3 _ _ _ _ _ _ _
      | exact ih4 _ _
      | exact tillrollref01_Put.mono _ _ _
      | exact LeO.none _
      | refine LeO.ite ?_ ?_
      | refine LeO.bind ?_ (fun _ => ?_)
    · intro y0 y1
      unfold tillrollref09_Text.l1
      repeat' first
      | (with_reducible exact ih0 _ _ _ _)
      | (with_reducible exact ih1 _ _ _ _ _)
      | (with_reducible exact ih2 _ _ _ _ _ _)
      | (with_reducible exact ih3 _ _ _ _ _ _ _)
      | (with_reducible exact ih4 _ _)
      | (with_reducible exact tillrollref01_Put.mono _ _ _)
      | (with_reducible exact LeO.refl _)
      | (with_reducible exact LeO.none _)
      | (with_reducible refine LeO.ite ?_ ?_)
      | (with_reducible refine LeO.bind ?_ (fun _ => ?_))
      | exact ih0 _ _ _ _
      | exact ih1 _ _ _ _ _
      | exact ih2 _ _ _ _ _ _
      | exact ih3 _ _ _ _ _ _ _
      | exact ih4 _ _
      | exact tillrollref01_Put.mono _ _ _
      | exact LeO.none _
      | refine LeO.ite ?_ ?_
      | refine LeO.bind ?_ (fun _ => ?_)
theorem tillrollref09_Text.mono : ∀ a0 a1 a2 k, LeO (tillrollref09_Text.f k a0 a1 a2) (tillrollref09_Text.f (k + 1) a0 a1 a2) := by
  intro a0 a1 a2 k
  obtain ⟨ih0, ih1, ih2, ih3, ih4⟩ := tillrollref09_Text.mono_l k
  unfold tillrollref09_Text.f
  repeat' first
      | (with_reducible exact ih0 _ _ _ _)
      | (with_reducible exact ih1 _ _ _ _ _)
      | (with_reducible exact ih2 _ _ _ _ _ _)
      | (with_reducible exact ih3 _ _ _ _ _ _ _)
      | (with_reducible exact ih4 _ _)
      | (with_reducible exact tillrollref01_Put.mono _ _ _)
      | (with_reducible exact LeO.refl _)
      | (with_reducible exact LeO.none _)
      | (with_reducible refine LeO.ite ?_ ?_)
      | (with_reducible refine LeO.bind ?_ (fun _ => ?_))
      | exact ih0 _ _ _ _
      | exact ih1 _ _ _ _ _
      | exact ih2 _ _ _ _ _ _
      | exact ih3 _ _ _ _ _ _ _
      | exact ih4 _ _
      | exact tillrollref01_Put.mono _ _ _
      | exact LeO.none _
      | refine LeO.ite ?_ ?_
      | refine LeO.bind ?_ (fun _ => ?_)
set_option maxHeartbeats 8000000 in
set_option maxRecDepth 100000 in
theorem tillrollref09_Text.calls (k : Nat) (a0 : Int) (A1 : Option Addr) (c1 : Nat) (l1 : List Bool) (a2 : Int) (r1 : ByteArray) (r2 : Int) (w : World) (hr1 : Kd.C Kd.bool w A1 l1.length l1) (hc1 : l1.length ≤ c1) (h : tillrollref09_Text.f k a0 l1 a2 = some (r1, r2)) :
    Calls Try.prog 14 #[.int .u64 a0, .slice A1 l1.length c1, .int .i64 a2] w fun e w' => e = .returned (.tuple #[.string r1, .int .i64 r2]) ∧ Below w.heap.size w w' := by
  have HR1 := Aside0.mk hr1
  have HC1 := Aside0.mk hc1
  clear hr1 hc1
  have HB := Aside0.mk (Below.refl w.heap.size w)
  have H : (if ((l1.length : Int) % 8) > 0 then (tillrollref09_Text.j0 k a0 l1 a2 (wrap64 ((wrap64 ((l1.length : Int) / 8)) + 1))) else (tillrollref09_Text.j0 k a0 l1 a2 (wrap64 ((l1.length : Int) / 8)))) = some (r1, r2) := h
  clear h
  have HC4 := Aside0.mk H
  clear H
  go_enter Try.func14, Try.ntmps14
  go_upto_if 18 with (fail)
  go_cut [8] (fun v8 wc => ∃ (kq : Nat) (x8_3 : Int), v8 = .int .i64 x8_3 ∧ Aside0 (tillrollref09_Text.j0 kq a0 l1 a2 x8_3 = some (r1, r2)) ∧ Aside0 (kq ≤ k) ∧ Aside0 (Below w.heap.size w wc))
  case first =>
    have H := HC4.out
    clear HC4
    by_cases c5 : ((l1.length : Int) % 8) > 0
    · rw [if_pos c5] at H
      have c5b0 : decide (0 < ((l1.length : Int) % 8)) = true := decide_eq_true c5
      clear c5
      (first | rw [c5b0] | (simp only [i64_w, i32_w]; rw [c5b0]) | skip)
      have H' := Aside0.mk H
      clear H
      go_wp2
      go_meet
      case rel => exact ⟨_, (wrap64 ((wrap64 ((l1.length : Int) / 8)) + 1)), (by first | rfl | (simp; done) | (simp [*]; done)), H', ⟨by first | omega | exact Nat.le_refl _⟩, ⟨by repeat (first | (with_reducible first | exact HB.out | apply below_alloc | apply pw_below_drewN | apply below_drew1) | exact HB.out)⟩⟩
    · rw [if_neg c5] at H
      have c5b0 : decide (0 < ((l1.length : Int) % 8)) = false := decide_eq_false c5
      clear c5
      (first | rw [c5b0] | (simp only [i64_w, i32_w]; rw [c5b0]) | skip)
      have H' := Aside0.mk H
      clear H
      go_wp2
      go_meet
      case rel => exact ⟨_, (wrap64 ((l1.length : Int) / 8)), (by first | rfl | (simp; done) | (simp [*]; done)), H', ⟨by first | omega | exact Nat.le_refl _⟩, ⟨by repeat (first | (with_reducible first | exact HB.out | apply below_alloc | apply pw_below_drewN | apply below_drew1) | exact HB.out)⟩⟩
  case rest =>
    clear HC4
    try clear c1
    try clear p2
    try clear c5
    try clear c5b0
    obtain ⟨kq, x8_3, rfl, HA, HJ3, HB⟩ := hcut
    cases kq with
    | zero => exact absurd HA.out (by simp [tillrollref09_Text.j0])
    | succ kj3 =>
      have H := HA.out
      clear HA
      simp only [tillrollref09_Text.j0] at H
      have HC6 := Aside0.mk H
      clear H
      go_upto_region 4 with (fail)
      go_cut [32] (fun v32 wc => ∃ (kq : Nat) (x32_5 : Bool), v32 = .bool x32_5 ∧ Aside0 (tillrollref09_Text.j1 kq a0 l1 a2 x8_3 x32_5 = some (r1, r2)) ∧ Aside0 (kq ≤ kj3) ∧ Aside0 (Below w.heap.size w wc))
      case first =>
        have H := HC6.out
        clear HC6
        by_cases c7 : x8_3 = 0
        · rw [if_pos c7] at H
          have c7b0 : (x8_3 == 0) = true := beq_iff_eq.mpr c7
          have c7b1 : (x8_3 != 0) = false := bne_eq_false_iff_eq.mpr c7
          clear c7
          (first | rw [c7b0] | (simp only [i64_w, i32_w]; rw [c7b0]) | skip)
          have H' := Aside0.mk H
          clear H
          go_wp2
          go_meet
          case rel => exact ⟨_, (true), (by first | rfl | (simp; done) | (simp [*]; done)), H', ⟨by have := HJ3.out; first | omega | exact Nat.le_refl _⟩, ⟨by repeat (first | (with_reducible first | exact HB.out | apply below_alloc | apply pw_below_drewN | apply below_drew1) | exact HB.out)⟩⟩
        · rw [if_neg c7] at H
          have c7b0 : (x8_3 == 0) = false := beq_eq_false_iff_ne.mpr c7
          have c7b1 : (x8_3 != 0) = true := bne_iff_ne.mpr c7
          (first | rw [c7b0] | (simp only [i64_w, i32_w]; rw [c7b0]) | skip)
          by_cases c8 : a2 < (wrap64 (8 + x8_3))
          · rw [if_pos c8] at H
            have c8b0 : decide (a2 < (wrap64 (8 + x8_3))) = true := decide_eq_true c8
            clear c8
            have H' := Aside0.mk H
            clear H
            go_wp2
            go_meet
            case rel => exact ⟨_, (true), (by first | rfl | (simp; done) | (simp [*]; done)), H', ⟨by have := HJ3.out; first | omega | exact Nat.le_refl _⟩, ⟨by repeat (first | (with_reducible first | exact HB.out | apply below_alloc | apply pw_below_drewN | apply below_drew1) | exact HB.out)⟩⟩
          · rw [if_neg c8] at H
            have c8b0 : decide (a2 < (wrap64 (8 + x8_3))) = false := decide_eq_false c8
            clear c8
            have H' := Aside0.mk H
            clear H
            go_wp2
            go_meet
            case rel => exact ⟨_, (decide (a2 > 1024)), (by first | rfl | (simp; done) | (simp [*]; done)), H', ⟨by have := HJ3.out; first | omega | exact Nat.le_refl _⟩, ⟨by repeat (first | (with_reducible first | exact HB.out | apply below_alloc | apply pw_below_drewN | apply below_drew1) | exact HB.out)⟩⟩
      case rest =>
        clear HC6
        try clear c1
        try clear p2
        try clear c5
        try clear c5b0
        try clear p6
        try clear c7
        try clear c7b0
        try clear c7b1
        try clear c8
        try clear c8b0
        try clear p2
        obtain ⟨kq, x32_5, rfl, HA, HJ5, HB⟩ := hcut
        cases kq with
        | zero => exact absurd HA.out (by simp [tillrollref09_Text.j1])
        | succ kj5 =>
          have H := HA.out
          clear HA
          simp only [tillrollref09_Text.j1] at H
          by_cases c9 : x32_5 = true
          · subst c9
            have H1 : (some ((⟨#[]⟩ : ByteArray), 2)) = some (r1, r2) := by rw [if_pos rfl] at H; exact H
            clear H
            have H := H1
            clear H1
            simp only [Option.some.injEq, Prod.mk.injEq] at H
            obtain ⟨rfl, rfl⟩ := H
            go_wp2
            go_ret2
            exact ⟨by first | rfl | (simp [errW_none, errW_some] <;> rfl) | (simp [*, errW_none, errW_some] <;> rfl), by repeat (first | (with_reducible first | exact HB.out | apply below_alloc | apply pw_below_drewN | apply below_drew1) | exact HB.out)⟩
          · replace c9 := Bool.eq_false_iff.mpr c9
            subst c9
            have H1 : ((tillrollref01_Put.f kj5 a0 8).bind fun t270 => (tillrollref09_Text.l0 kj5 l1 a2 x8_3 t270 0 0)) = some (r1, r2) := by rw [if_neg (show ¬ (false = true) by decide)] at H; exact H
            clear H
            have H := H1
            clear H1
            replace H := Option.bind_eq_some_iff.mp H
            obtain ⟨t270, A100, H⟩ := H
            replace H : (tillrollref09_Text.l0 kj5 l1 a2 x8_3 t270 0 0) = some (r1, r2) := H
            have A10 := Aside0.mk A100
            clear A100
            have H' := Aside0.mk H
            clear H
            go_wp2_with (first | ((with_reducible refine gate_callee (f := 21) rfl ?_); refine goesL_ (some 34) rfl rfl Try.func21 (by kernel_rfl) rfl #[.int .u64 a0, .int .i64 8] rfl (by (try simp only [List.map_toArray, List.map_cons, List.map_nil]); first | done | rfl | (simp only [List.length_drop, List.length_take]; rfl) | (simp only [ByteArray.size_append]; rfl) | (simp only [ByteArray.size_extract]; rfl)) ?_; (with_reducible refine (tillrollref01_Put.calls kj5 a0 8 t270 _ A10.out).mono ?_); rintro e w11 ⟨rfl, hb⟩; refine ⟨_, rfl, ?_⟩; have n0_ := Aside0.mk (below_step (by repeat (first | (with_reducible first | exact HB.out | apply below_alloc | apply pw_below_drewN | apply below_drew1) | exact HB.out)) hb); clear HB; have HB := n0_; clear n0_; (try clear hb); (try clear hb2); (try clear hk); (try clear hi)))
            go_loopg [9, 10, 11] kj5 (fun kq v9 v10 v11 w' => ∃ (x9_3 : ByteArray) (x10_3 : Int) (x11_3 : Int), v9 = .string x9_3 ∧ v10 = .int .u8 x10_3 ∧ v11 = .int .i64 x11_3 ∧ Aside0 (tillrollref09_Text.l0 kq l1 a2 x8_3 x9_3 x10_3 x11_3 = some (r1, r2)) ∧ Aside0 (kq ≤ kj5) ∧ Aside0 (Below w.heap.size w w'))
            case atStart => exact ⟨(t270), (0), (0), (by first | rfl | (simp; done) | (simp [*]; done)), (by first | rfl | (simp; done) | (simp [*]; done)), (by first | rfl | (simp; done) | (simp [*]; done)), H', ⟨Nat.le_refl _⟩, ⟨by repeat (first | (with_reducible first | exact HB.out | apply below_alloc | apply pw_below_drewN | apply below_drew1) | exact HB.out)⟩⟩
            case round =>
              clear H'
              try clear c1
              try clear c2
              try clear p2
              try clear c5
              try clear c5b0
              try clear p6
              try clear c7
              try clear c7b0
              try clear c7b1
              try clear c8
              try clear c8b0
              try clear c9
              try clear p2
              try clear p6
              obtain ⟨x9_3, x10_3, x11_3, rfl, rfl, rfl, HA, HK3, HB⟩ := hrel
              cases gk with
              | zero => exact absurd HA.out (by simp [tillrollref09_Text.l0])
              | succ k3 =>
                have H := HA.out
                clear HA
                simp only [tillrollref09_Text.l0] at H
                by_cases c12 : x11_3 < (wrap64 (8 * x8_3))
                · rw [if_pos c12] at H
                  have c12b0 : decide (x11_3 < (wrap64 (8 * x8_3))) = true := decide_eq_true c12
                  clear c12
                  have HC13 := Aside0.mk H
                  clear H
                  go_upto_region 12 with (fail)
                  go_cut [52] (fun v52 wc => ∃ (kq : Nat) (x52_12 : Bool), v52 = .bool x52_12 ∧ Aside0 (tillrollref09_Text.j3 kq l1 a2 x8_3 x9_3 ((2 * x10_3) % 256) x11_3 x52_12 = some (r1, r2)) ∧ Aside0 (kq ≤ k3) ∧ Aside0 (Below w.heap.size w wc))
                  case first =>
                    have H := HC13.out
                    clear HC13
                    by_cases c14 : x11_3 < (l1.length : Int)
                    · rw [if_pos c14] at H
                      have c14b0 : decide (x11_3 < (l1.length : Int)) = true := decide_eq_true c14
                      clear c14
                      (first | rw [c14b0] | (simp only [i64_w, i32_w]; rw [c14b0]) | skip)
                      by_cases c15 : 0 ≤ x11_3
                      · rw [if_pos c15] at H
                        have c15b0 : decide (0 ≤ x11_3) = true := decide_eq_true c15
                        clear c15
                        have H' := Aside0.mk H
                        clear H
                        have p271 : 0 ≤ (x11_3 : Int) := of_decide_eq_true (by first | (with_reducible assumption) | assumption)
                        have q271 : x11_3 < (l1.length : Int) := of_decide_eq_true (by first | (with_reducible assumption) | assumption)
                        obtain ⟨ad271, e271, hx271_0⟩ := Kd.at_bool HR1.out x11_3 p271 q271
                        cases e271
                        replace hx271_0 := (HB.out.cell (World.block_lt_of_cell? w _ hx271_0)).trans hx271_0
                        replace p271 := eq_true p271
                        replace q271 := eq_true q271
                        go_wp2
                        go_meet
                        case rel => exact ⟨_, (rdOf false l1 x11_3), (by first | rfl | (simp; done) | (simp [*]; done)), H', ⟨by have := HJ3.out; have := HJ5.out; have := HK3.out; first | omega | exact Nat.le_refl _⟩, ⟨by repeat (first | (with_reducible first | exact HB.out | apply below_alloc | apply pw_below_drewN | apply below_drew1) | exact HB.out)⟩⟩
                      · rw [if_neg c15] at H
                        exact absurd H (by simp)
                    · rw [if_neg c14] at H
                      have c14b0 : decide (x11_3 < (l1.length : Int)) = false := decide_eq_false c14
                      clear c14
                      (first | rw [c14b0] | (simp only [i64_w, i32_w]; rw [c14b0]) | skip)
                      have H' := Aside0.mk H
                      clear H
                      go_wp2
                      go_meet
                      case rel => exact ⟨_, (false), (by first | rfl | (simp; done) | (simp [*]; done)), H', ⟨by have := HJ3.out; have := HJ5.out; have := HK3.out; first | omega | exact Nat.le_refl _⟩, ⟨by repeat (first | (with_reducible first | exact HB.out | apply below_alloc | apply pw_below_drewN | apply below_drew1) | exact HB.out)⟩⟩
                  case rest =>
                    clear HC13
                    try clear c1
                    try clear c2
                    try clear p2
                    try clear q2
                    try clear hx2
                    try clear c5
                    try clear c5b0
                    try clear p6
                    try clear c7
                    try clear c7b0
                    try clear c7b1
                    try clear c8
                    try clear c8b0
                    try clear c9
                    try clear c12
                    try clear c12b0
                    try clear c14
                    try clear c14b0
                    try clear c15
                    try clear c15b0
                    try clear hx271_0
                    try clear p2
                    try clear p271
                    try clear p6
                    try clear q271
                    obtain ⟨kq, x52_12, rfl, HA, HJ12, HB⟩ := hcut
                    cases kq with
                    | zero => exact absurd HA.out (by simp [tillrollref09_Text.j3])
                    | succ kj12 =>
                      have H := HA.out
                      clear HA
                      simp only [tillrollref09_Text.j3] at H
                      by_cases c16 : x52_12 = true
                      · subst c16
                        have e8 : (((2 * x10_3) % 256) + 1) % 256 = ((2 * x10_3) % 256) + 1 := by omega
                        have H1 : (if (Int.tmod x11_3 8) = 7 then ((some (([(((2 * x10_3) % 256) + 1) % 256] : List Int) : List Int)).bind fun y272 => (if x9_3.size + (strOfNums y272).size ≤ 9223372036854775807 then (tillrollref09_Text.l0 kj12 l1 a2 x8_3 (x9_3 ++ (strOfNums y272)) 0 (wrap64 (x11_3 + 1))) else (none))) else (tillrollref09_Text.l0 kj12 l1 a2 x8_3 x9_3 ((((2 * x10_3) % 256) + 1) % 256) (wrap64 (x11_3 + 1)))) = some (r1, r2) := by rw [if_pos rfl] at H; exact H
                        clear H
                        have H := H1
                        rw [e8] at H
                        clear H1
                        by_cases c17 : (Int.tmod x11_3 8) = 7
                        · rw [if_pos c17] at H
                          have c17b0 : ((Int.tmod x11_3 8) == 7) = true := beq_iff_eq.mpr c17
                          have c17b1 : ((Int.tmod x11_3 8) != 7) = false := bne_eq_false_iff_eq.mpr c17
                          clear c17
                          obtain ⟨y272, hy272⟩ : ∃ y_ : List Int, y_ = (([((2 * x10_3) % 256) + 1] : List Int)) := ⟨_, rfl⟩
                          replace H : (if x9_3.size + (strOfNums y272).size ≤ 9223372036854775807 then (tillrollref09_Text.l0 kj12 l1 a2 x8_3 (x9_3 ++ (strOfNums y272)) 0 (wrap64 (x11_3 + 1))) else (none)) = some (r1, r2) := by first | (rw [hy272]; with_reducible exact H) | (have H2_ := (Option.bind_some _ _).symm.trans H; rw [hy272]; with_reducible exact H2_) | (have H2_ := (Option.bind_some _ _).symm.trans H; with_reducible exact H2_) | with_reducible exact H | (rw [hy272]; exact H) | exact H
                          have Ny272 := Aside0.mk hy272
                          clear hy272
                          by_cases c18 : x9_3.size + (strOfNums y272).size ≤ 9223372036854775807
                          · rw [if_pos c18] at H
                            have c18b0 := eq_true c18
                            have c18b1 : decide (x9_3.size + (strOfNums y272).size ≤ 9223372036854775807) = true := decide_eq_true c18
                            try have c18b2 : (9223372036854775807 < x9_3.size + (strOfNums y272).size) = False := eq_false (Nat.not_lt.2 c18)
                            have H' := Aside0.mk H
                            clear H
                            go_wp2_with (first | ((with_reducible refine gate_dst (N := 60) rfl ?_); refine Kd.R_lit (Kd.int .u8) _ 5 ?hg (N := 60) ?hd (xs := ([((2 * x10_3) % 256) + 1] : List Int)) (inner := [.int .u8 (((2 * x10_3) % 256) + 1)]) (ok := fun _ => True) (okp := fun _ => True) ?hr ?hp (fun _ hk => hk) trivial (Below.refl _ _) (Nat.le_refl _) (by simp) ?_; (case hd => rfl); (case hg => rfl); (case hr => first | (go_simp; done) | (go_simp; rfl)); (case hp => exact (Reps.one (show Kd.M (Kd.int .u8) _ _ _ (((2 * x10_3) % 256) + 1) [.int .u8 (((2 * x10_3) % 256) + 1)] from rfl) (Reps.none _ _))); intro v273 w19 ho20 hb hg_ hnew_; clear hg_ hnew_; (first | rw [← Ny272.out] at ho20 | (simp only [Int.reduceToNat] at ho20; rw [← Ny272.out] at ho20)); have n0_ := Aside0.mk (Kd.R_lower ho20 (below_size (by repeat (first | (with_reducible first | exact HB.out | apply below_alloc | apply pw_below_drewN | apply below_drew1) | exact HB.out)))); have n1_ := Aside0.mk (below_step (by repeat (first | (with_reducible first | exact HB.out | apply below_alloc | apply pw_below_drewN | apply below_drew1) | exact HB.out)) hb); clear HB; have HO274 := n0_; have HB := n1_; clear n0_ n1_; clear hb ho20; have hcv21 := own_string (P := Try.prog) Try.underlying22 Try.underlying5 Try.underlying9 (Kd.own_of_R HO274.out)))
                            go_roundg kj12
                            case measure => have := HJ3.out; have := HJ5.out; have := HK3.out; have := HJ12.out; omega
                            case rel => exact ⟨(x9_3 ++ (strOfNums y272)), (0), (wrap64 (x11_3 + 1)), (by first | rfl | (simp; done) | (simp [*]; done) | (congr 1; omega)), (by first | rfl | (simp; done) | (simp [*]; done) | (congr 1; omega)), (by first | rfl | (simp; done) | (simp [*]; done) | (congr 1; omega)), H', ⟨by have := HJ3.out; have := HJ5.out; have := HK3.out; have := HJ12.out; omega⟩, ⟨by repeat (first | (with_reducible first | exact HB.out | apply below_alloc | apply pw_below_drewN | apply below_drew1) | exact HB.out)⟩⟩
                          · rw [if_neg c18] at H
                            exact absurd H (by simp)
                        · rw [if_neg c17] at H
                          have c17b0 : ((Int.tmod x11_3 8) == 7) = false := beq_eq_false_iff_ne.mpr c17
                          have c17b1 : ((Int.tmod x11_3 8) != 7) = true := bne_iff_ne.mpr c17
                          have H' := Aside0.mk H
                          clear H
                          go_wp2
                          go_roundg kj12
                          case measure => have := HJ3.out; have := HJ5.out; have := HK3.out; have := HJ12.out; omega
                          case rel => exact ⟨(x9_3), (((2 * x10_3) % 256) + 1), (wrap64 (x11_3 + 1)), (by first | rfl | (simp; done) | (simp [*]; done) | (congr 1; omega)), (by first | rfl | (simp; done) | (simp [*]; done) | (congr 1; omega)), (by first | rfl | (simp; done) | (simp [*]; done) | (congr 1; omega)), H', ⟨by have := HJ3.out; have := HJ5.out; have := HK3.out; have := HJ12.out; omega⟩, ⟨by repeat (first | (with_reducible first | exact HB.out | apply below_alloc | apply pw_below_drewN | apply below_drew1) | exact HB.out)⟩⟩
                      · replace c16 := Bool.eq_false_iff.mpr c16
                        subst c16
                        have H1 : (if (Int.tmod x11_3 8) = 7 then ((some (([((2 * x10_3) % 256)] : List Int) : List Int)).bind fun y275 => (if x9_3.size + (strOfNums y275).size ≤ 9223372036854775807 then (tillrollref09_Text.l0 kj12 l1 a2 x8_3 (x9_3 ++ (strOfNums y275)) 0 (wrap64 (x11_3 + 1))) else (none))) else (tillrollref09_Text.l0 kj12 l1 a2 x8_3 x9_3 ((2 * x10_3) % 256) (wrap64 (x11_3 + 1)))) = some (r1, r2) := by rw [if_neg (show ¬ (false = true) by decide)] at H; exact H
                        clear H
                        have H := H1
                        clear H1
                        by_cases c22 : (Int.tmod x11_3 8) = 7
                        · rw [if_pos c22] at H
                          have c22b0 : ((Int.tmod x11_3 8) == 7) = true := beq_iff_eq.mpr c22
                          have c22b1 : ((Int.tmod x11_3 8) != 7) = false := bne_eq_false_iff_eq.mpr c22
                          clear c22
                          obtain ⟨y275, hy275⟩ : ∃ y_ : List Int, y_ = (([((2 * x10_3) % 256)] : List Int)) := ⟨_, rfl⟩
                          replace H : (if x9_3.size + (strOfNums y275).size ≤ 9223372036854775807 then (tillrollref09_Text.l0 kj12 l1 a2 x8_3 (x9_3 ++ (strOfNums y275)) 0 (wrap64 (x11_3 + 1))) else (none)) = some (r1, r2) := by first | (rw [hy275]; with_reducible exact H) | (have H2_ := (Option.bind_some _ _).symm.trans H; rw [hy275]; with_reducible exact H2_) | (have H2_ := (Option.bind_some _ _).symm.trans H; with_reducible exact H2_) | with_reducible exact H | (rw [hy275]; exact H) | exact H
                          have Ny275 := Aside0.mk hy275
                          clear hy275
                          by_cases c23 : x9_3.size + (strOfNums y275).size ≤ 9223372036854775807
                          · rw [if_pos c23] at H
                            have c23b0 := eq_true c23
                            have c23b1 : decide (x9_3.size + (strOfNums y275).size ≤ 9223372036854775807) = true := decide_eq_true c23
                            try have c23b2 : (9223372036854775807 < x9_3.size + (strOfNums y275).size) = False := eq_false (Nat.not_lt.2 c23)
                            have H' := Aside0.mk H
                            clear H
                            go_wp2_with (first | ((with_reducible refine gate_dst (N := 60) rfl ?_); refine Kd.R_lit (Kd.int .u8) _ 5 ?hg (N := 60) ?hd (xs := ([((2 * x10_3) % 256)] : List Int)) (inner := [.int .u8 ((2 * x10_3) % 256)]) (ok := fun _ => True) (okp := fun _ => True) ?hr ?hp (fun _ hk => hk) trivial (Below.refl _ _) (Nat.le_refl _) (by simp) ?_; (case hd => rfl); (case hg => rfl); (case hr => first | (go_simp; done) | (go_simp; rfl)); (case hp => exact (Reps.one (show Kd.M (Kd.int .u8) _ _ _ ((2 * x10_3) % 256) [.int .u8 ((2 * x10_3) % 256)] from rfl) (Reps.none _ _))); intro v276 w24 ho25 hb hg_ hnew_; clear hg_ hnew_; (first | rw [← Ny275.out] at ho25 | (simp only [Int.reduceToNat] at ho25; rw [← Ny275.out] at ho25)); have n0_ := Aside0.mk (Kd.R_lower ho25 (below_size (by repeat (first | (with_reducible first | exact HB.out | apply below_alloc | apply pw_below_drewN | apply below_drew1) | exact HB.out)))); have n1_ := Aside0.mk (below_step (by repeat (first | (with_reducible first | exact HB.out | apply below_alloc | apply pw_below_drewN | apply below_drew1) | exact HB.out)) hb); clear HB; have HO277 := n0_; have HB := n1_; clear n0_ n1_; clear hb ho25; have hcv26 := own_string (P := Try.prog) Try.underlying22 Try.underlying5 Try.underlying9 (Kd.own_of_R HO277.out)))
                            go_roundg kj12
                            case measure => have := HJ3.out; have := HJ5.out; have := HK3.out; have := HJ12.out; omega
                            case rel => exact ⟨(x9_3 ++ (strOfNums y275)), (0), (wrap64 (x11_3 + 1)), (by first | rfl | (simp; done) | (simp [*]; done)), (by first | rfl | (simp; done) | (simp [*]; done)), (by first | rfl | (simp; done) | (simp [*]; done)), H', ⟨by have := HJ3.out; have := HJ5.out; have := HK3.out; have := HJ12.out; omega⟩, ⟨by repeat (first | (with_reducible first | exact HB.out | apply below_alloc | apply pw_below_drewN | apply below_drew1) | exact HB.out)⟩⟩
                          · rw [if_neg c23] at H
                            exact absurd H (by simp)
                        · rw [if_neg c22] at H
                          have c22b0 : ((Int.tmod x11_3 8) == 7) = false := beq_eq_false_iff_ne.mpr c22
                          have c22b1 : ((Int.tmod x11_3 8) != 7) = true := bne_iff_ne.mpr c22
                          have H' := Aside0.mk H
                          clear H
                          go_wp2
                          go_roundg kj12
                          case measure => have := HJ3.out; have := HJ5.out; have := HK3.out; have := HJ12.out; omega
                          case rel => exact ⟨(x9_3), (((2 * x10_3) % 256)), (wrap64 (x11_3 + 1)), (by first | rfl | (simp; done) | (simp [*]; done)), (by first | rfl | (simp; done) | (simp [*]; done)), (by first | rfl | (simp; done) | (simp [*]; done)), H', ⟨by have := HJ3.out; have := HJ5.out; have := HK3.out; have := HJ12.out; omega⟩, ⟨by repeat (first | (with_reducible first | exact HB.out | apply below_alloc | apply pw_below_drewN | apply below_drew1) | exact HB.out)⟩⟩
                · rw [if_neg c12] at H
                  have c12b0 : decide (x11_3 < (wrap64 (8 * x8_3))) = false := decide_eq_false c12
                  clear c12
                  have H' := Aside0.mk H
                  clear H
                  go_wp2
                  go_loopg [9] k3 (fun kq v9 w' => ∃ (x9_4 : ByteArray), v9 = .string x9_4 ∧ Aside0 (tillrollref09_Text.l1 kq a2 x9_4 = some (r1, r2)) ∧ Aside0 (kq ≤ k3) ∧ Aside0 (Below w.heap.size w w'))
                  case atStart => exact ⟨(x9_3), (by first | rfl | (simp; done) | (simp [*]; done)), H', ⟨Nat.le_refl _⟩, ⟨by repeat (first | (with_reducible first | exact HB.out | apply below_alloc | apply pw_below_drewN | apply below_drew1) | exact HB.out)⟩⟩
                  case round =>
                    clear H'
                    try clear c1
                    try clear c2
                    try clear p2
                    try clear q2
                    try clear hx2
                    try clear hcv2
                    try clear c5
                    try clear c5b0
                    try clear p6
                    try clear c7
                    try clear c7b0
                    try clear c7b1
                    try clear c8
                    try clear c8b0
                    try clear c9
                    try clear c12
                    try clear c12b0
                    try clear c14
                    try clear c14b0
                    try clear c15
                    try clear c15b0
                    try clear c16
                    try clear c17
                    try clear c17b0
                    try clear c17b1
                    try clear c18
                    try clear c18b0
                    try clear c18b1
                    try clear c18b2
                    try clear c21
                    try clear hcv21
                    try clear c22
                    try clear c22b0
                    try clear c22b1
                    try clear c23
                    try clear c23b0
                    try clear c23b1
                    try clear c23b2
                    try clear hcv26
                    try clear hx271_0
                    try clear p2
                    try clear p271
                    try clear p6
                    try clear q2
                    try clear q271
                    obtain ⟨x9_4, rfl, HA, HK4, HB⟩ := hrel
                    cases gk with
                    | zero => exact absurd HA.out (by simp [tillrollref09_Text.l1])
                    | succ k4 =>
                      have H := HA.out
                      clear HA
                      simp only [tillrollref09_Text.l1] at H
                      by_cases c27 : (x9_4.size : Int) < a2
                      · rw [if_pos c27] at H
                        have c27b0 : decide ((x9_4.size : Int) < a2) = true := decide_eq_true c27
                        clear c27
                        by_cases c28 : x9_4.size + 1 ≤ 9223372036854775807
                        · rw [if_pos c28] at H
                          have c28b0 := eq_true c28
                          have c28b1 : decide (x9_4.size + 1 ≤ 9223372036854775807) = true := decide_eq_true c28
                          try have c28b2 : (9223372036854775807 < x9_4.size + 1) = False := eq_false (Nat.not_lt.2 c28)
                          have H' := Aside0.mk H
                          clear H
                          go_wp2
                          go_roundg k4
                          case measure => have := HJ3.out; have := HJ5.out; have := HK3.out; have := HK4.out; omega
                          case rel => exact ⟨(x9_4 ++ (⟨#[0]⟩ : ByteArray)), (by first | rfl | (simp; done) | (simp [*]; done)), H', ⟨by have := HJ3.out; have := HJ5.out; have := HK3.out; have := HK4.out; omega⟩, ⟨by repeat (first | (with_reducible first | exact HB.out | apply below_alloc | apply pw_below_drewN | apply below_drew1) | exact HB.out)⟩⟩
                        · rw [if_neg c28] at H
                          exact absurd H (by simp)
                      · rw [if_neg c27] at H
                        have c27b0 : decide ((x9_4.size : Int) < a2) = false := decide_eq_false c27
                        clear c27
                        simp only [Option.some.injEq, Prod.mk.injEq] at H
                        obtain ⟨rfl, rfl⟩ := H
                        go_wp2
                        go_ret2
                        exact ⟨by first | rfl | (simp [errW_none, errW_some] <;> rfl) | (simp [*, errW_none, errW_some] <;> rfl), by repeat (first | (with_reducible first | exact HB.out | apply below_alloc | apply pw_below_drewN | apply below_drew1) | exact HB.out)⟩

end Go.Proofs.Ytopglieihhgaaaa.P
