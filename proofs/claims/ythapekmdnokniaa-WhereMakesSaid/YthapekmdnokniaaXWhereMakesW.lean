/- WhereMakes: which maps may be is the document's answer; of a nil one nothing is told: the walk. No conditions beyond the form's own reach. -/
import Derived.Test.YthapekmdnokniaaXWhereF
import Derived.Test.YthapekmdnokniaaXOpen
namespace Go.Proofs.Ythapekmdnokniaa
open Go.RowKit Go.Lib Go.Maps Go.Proofs.YthapekmdnokniaaW.PrintWords Go.Proofs.YthapekmdnokniaaW.PrintLast Go.Proofs.YthapekmdnokniaaW.PrintMore
set_option linter.unusedVariables false
set_option linter.unusedSimpArgs false
--@tables
theorem w3_cells {w : World} {g T : Nat} {u0 u1 u2 : Value} (h : w.heap[g]? = some (.cells #[u0, u1, u2] T (0, 0))) : w.cell? ⟨g, 0, none⟩ = some u0 ∧ w.cell? ⟨g, 1, none⟩ = some u1 ∧ w.cell? ⟨g, 2, none⟩ = some u2 := by
  refine ⟨?_, ?_, ?_⟩ <;> (unfold World.cell?; rw [h]; rfl)
set_option maxHeartbeats 4000000 in
theorem new_bad (a b c : Int) (h : ¬ (1 ≤ a ∧ a ≤ 256 ∧ 1 ≤ b ∧ b ≤ 64 ∧ 1 ≤ c ∧ c ≤ 4096)) (w : World) :
    Calls Try.prog 7 #[.int .i64 a, .int .i64 b, .int .i64 c] w fun e w' => e = .returned (.tuple #[.pointer none, .int .i64 2]) ∧ w = w' := by
  by_cases h0 : 1 ≤ a
  · have d0 : decide (1 ≤ a) = true := decide_eq_true h0
    by_cases h1 : a ≤ 256
    · have d1 : decide (a ≤ 256) = true := decide_eq_true h1
      by_cases h2 : 1 ≤ b
      · have d2 : decide (1 ≤ b) = true := decide_eq_true h2
        by_cases h3 : b ≤ 64
        · have d3 : decide (b ≤ 64) = true := decide_eq_true h3
          by_cases h4 : 1 ≤ c
          · have d4 : decide (1 ≤ c) = true := decide_eq_true h4
            by_cases h5 : c ≤ 4096
            · have d5 : decide (c ≤ 4096) = true := decide_eq_true h5
              exact absurd ⟨h0, h1, h2, h3, h4, h5⟩ h
            · have d5 : decide (c ≤ 4096) = false := decide_eq_false h5
              clear h h5
              go_enter Try.func7, Try.ntmps7
              go_wp2
              go_ret2
              exact ⟨rfl, rfl⟩
          · have d4 : decide (1 ≤ c) = false := decide_eq_false h4
            clear h h4
            go_enter Try.func7, Try.ntmps7
            go_wp2
            go_ret2
            exact ⟨rfl, rfl⟩
        · have d3 : decide (b ≤ 64) = false := decide_eq_false h3
          clear h h3
          go_enter Try.func7, Try.ntmps7
          go_wp2
          go_ret2
          exact ⟨rfl, rfl⟩
      · have d2 : decide (1 ≤ b) = false := decide_eq_false h2
        clear h h2
        go_enter Try.func7, Try.ntmps7
        go_wp2
        go_ret2
        exact ⟨rfl, rfl⟩
    · have d1 : decide (a ≤ 256) = false := decide_eq_false h1
      clear h h1
      go_enter Try.func7, Try.ntmps7
      go_wp2
      go_ret2
      exact ⟨rfl, rfl⟩
  · have d0 : decide (1 ≤ a) = false := decide_eq_false h0
    clear h h0
    go_enter Try.func7, Try.ntmps7
    go_wp2
    go_ret2
    exact ⟨rfl, rfl⟩
/-- What stands behind New: nothing is told of a nil one. -/
theorem at_nil (l : Int) (w : World) : Calls Try.prog 12 #[.pointer none, .int .i64 l] w fun e w' => e = .returned (.tuple #[.agg #[.int .i64 0, .int .i64 0], .bool false]) ∧ Below w.heap.size w w' := by
  have hx := heap_alloc_new w (.cells #[.int .i64 0, .int .i64 0] 30)
  have hb := below_alloc (Below.refl w.heap.size w) (.cells #[.int .i64 0, .int .i64 0] 30)
  go_enter Try.func12, Try.ntmps12
  go_wp2
  refine bodyPost_ret (results_ct rfl _ _ w.heap.size 30 _ (0, 0) _ rfl hx Try.underlying30 rfl pl_size) rfl ?_
  exact ⟨rfl, hb⟩
set_option maxHeartbeats 16000000 in
theorem whereMakes_walk (a b c l : Int) (w : World) :
    Calls Try.prog 6 #[.agg #[.int .i64 a, .int .i64 b, .int .i64 c], .int .i64 l] w fun e w' => e = .returned (.bool true) ∧ Below w.heap.size w w' := by
  by_cases h0 : 1 ≤ a
  · have d0 : decide (1 ≤ a) = true := decide_eq_true h0
    by_cases h1 : a ≤ 256
    · have d1 : decide (a ≤ 256) = true := decide_eq_true h1
      by_cases h2 : 1 ≤ b
      · have d2 : decide (1 ≤ b) = true := decide_eq_true h2
        by_cases h3 : b ≤ 64
        · have d3 : decide (b ≤ 64) = true := decide_eq_true h3
          by_cases h4 : 1 ≤ c
          · have d4 : decide (1 ≤ c) = true := decide_eq_true h4
            by_cases h5 : c ≤ 4096
            · have d5 : decide (c ≤ 4096) = true := decide_eq_true h5
              obtain ⟨B, rfl⟩ := Int.eq_ofNat_of_zero_le (show 0 ≤ a by omega)
              obtain ⟨P, rfl⟩ := Int.eq_ofNat_of_zero_le (show 0 ≤ b by omega)
              obtain ⟨L, rfl⟩ := Int.eq_ofNat_of_zero_le (show 0 ≤ c by omega)
              have HX := Lib.hid (heap_alloc_new w (.cells #[.int .i64 (B : Int), .int .i64 (P : Int), .int .i64 (L : Int)] 42))
              have HB := Lib.hid (below_alloc (Below.refl w.heap.size w) (.cells #[.int .i64 (B : Int), .int .i64 (P : Int), .int .i64 (L : Int)] 42))
              obtain ⟨x0, x1, x2⟩ := w3_cells HX.out
              go_enter Try.func6, Try.ntmps6
              go_wp2_with fail
              generalize w.alloc (.cells #[.int .i64 (B : Int), .int .i64 (P : Int), .int .i64 (L : Int)] 42) = wx at HX HB x0 x1 x2 ⊢
              generalize w.heap.size = bx at HX x0 x1 x2 ⊢
              refine (new_ok B P L ⟨⟨by omega, by omega⟩, ⟨by omega, by omega⟩, ⟨by omega, by omega⟩⟩ wx).mono ?_
              rintro e wy ⟨g, bm, bo, bl, cap, rfl, _, hd⟩
              replace HX := Lib.hid (blk_below HX.out hd)
              replace HB := Lib.hid (chain2 HB.out hd)
              clear hd x0 x1 x2
              obtain ⟨x0, x1, x2⟩ := w3_cells HX.out
              go_wp2_with fail
              refine (at_nil l wy).mono ?_
              rintro e w3 ⟨rfl, hd⟩
              replace HB := Lib.hid (chain2 HB.out hd)
              clear hd x0 x1 x2
              have ha := below_alloc (Below.refl w3.heap.size w3) (.cells #[.int .i64 0, .int .i64 0] 30)
              replace HB := Lib.hid (chain2 HB.out ha)
              clear ha
              go_wp2_with fail
              generalize w3.alloc (.cells #[.int .i64 0, .int .i64 0] 30) = w4 at HB ⊢
              refine (wakes_ok w4).mono ?_
              rintro e w5 ⟨rfl, hd⟩
              replace HB := Lib.hid (chain2 HB.out hd)
              clear hd
              go_wp2
              go_ret
              exact ⟨rfl, by repeat (first | exact HB.out | refine below_alloc ?_ _)⟩
            · have d5 : decide (c ≤ 4096) = false := decide_eq_false h5
              have HX := Lib.hid (heap_alloc_new w (.cells #[.int .i64 a, .int .i64 b, .int .i64 c] 42))
              have HB := Lib.hid (below_alloc (Below.refl w.heap.size w) (.cells #[.int .i64 a, .int .i64 b, .int .i64 c] 42))
              obtain ⟨x0, x1, x2⟩ := w3_cells HX.out
              go_enter Try.func6, Try.ntmps6
              go_wp2_with fail
              generalize w.alloc (.cells #[.int .i64 a, .int .i64 b, .int .i64 c] 42) = wx at HX HB x0 x1 x2 ⊢
              generalize w.heap.size = bx at HX x0 x1 x2 ⊢
              refine (new_bad a b c (fun e => by omega) wx).mono ?_
              rintro e wy ⟨rfl, hwy⟩
              have hd : Below wx.heap.size wx wy := hwy ▸ Below.refl wx.heap.size wx
              clear hwy
              replace HX := Lib.hid (blk_below HX.out hd)
              replace HB := Lib.hid (chain2 HB.out hd)
              clear hd x0 x1 x2
              obtain ⟨x0, x1, x2⟩ := w3_cells HX.out
              go_wp2_with fail
              refine (at_nil l wy).mono ?_
              rintro e w3 ⟨rfl, hd⟩
              replace HB := Lib.hid (chain2 HB.out hd)
              clear hd x0 x1 x2
              have ha := below_alloc (Below.refl w3.heap.size w3) (.cells #[.int .i64 0, .int .i64 0] 30)
              replace HB := Lib.hid (chain2 HB.out ha)
              clear ha
              go_wp2_with fail
              generalize w3.alloc (.cells #[.int .i64 0, .int .i64 0] 30) = w4 at HB ⊢
              refine (wakes_ok w4).mono ?_
              rintro e w5 ⟨rfl, hd⟩
              replace HB := Lib.hid (chain2 HB.out hd)
              clear hd
              go_wp2
              go_ret
              exact ⟨rfl, by repeat (first | exact HB.out | refine below_alloc ?_ _)⟩
          · have d4 : decide (1 ≤ c) = false := decide_eq_false h4
            have HX := Lib.hid (heap_alloc_new w (.cells #[.int .i64 a, .int .i64 b, .int .i64 c] 42))
            have HB := Lib.hid (below_alloc (Below.refl w.heap.size w) (.cells #[.int .i64 a, .int .i64 b, .int .i64 c] 42))
            obtain ⟨x0, x1, x2⟩ := w3_cells HX.out
            go_enter Try.func6, Try.ntmps6
            go_wp2_with fail
            generalize w.alloc (.cells #[.int .i64 a, .int .i64 b, .int .i64 c] 42) = wx at HX HB x0 x1 x2 ⊢
            generalize w.heap.size = bx at HX x0 x1 x2 ⊢
            refine (new_bad a b c (fun e => by omega) wx).mono ?_
            rintro e wy ⟨rfl, hwy⟩
            have hd : Below wx.heap.size wx wy := hwy ▸ Below.refl wx.heap.size wx
            clear hwy
            replace HX := Lib.hid (blk_below HX.out hd)
            replace HB := Lib.hid (chain2 HB.out hd)
            clear hd x0 x1 x2
            obtain ⟨x0, x1, x2⟩ := w3_cells HX.out
            go_wp2_with fail
            refine (at_nil l wy).mono ?_
            rintro e w3 ⟨rfl, hd⟩
            replace HB := Lib.hid (chain2 HB.out hd)
            clear hd x0 x1 x2
            have ha := below_alloc (Below.refl w3.heap.size w3) (.cells #[.int .i64 0, .int .i64 0] 30)
            replace HB := Lib.hid (chain2 HB.out ha)
            clear ha
            go_wp2_with fail
            generalize w3.alloc (.cells #[.int .i64 0, .int .i64 0] 30) = w4 at HB ⊢
            refine (wakes_ok w4).mono ?_
            rintro e w5 ⟨rfl, hd⟩
            replace HB := Lib.hid (chain2 HB.out hd)
            clear hd
            go_wp2
            go_ret
            exact ⟨rfl, by repeat (first | exact HB.out | refine below_alloc ?_ _)⟩
        · have d3 : decide (b ≤ 64) = false := decide_eq_false h3
          have HX := Lib.hid (heap_alloc_new w (.cells #[.int .i64 a, .int .i64 b, .int .i64 c] 42))
          have HB := Lib.hid (below_alloc (Below.refl w.heap.size w) (.cells #[.int .i64 a, .int .i64 b, .int .i64 c] 42))
          obtain ⟨x0, x1, x2⟩ := w3_cells HX.out
          go_enter Try.func6, Try.ntmps6
          go_wp2_with fail
          generalize w.alloc (.cells #[.int .i64 a, .int .i64 b, .int .i64 c] 42) = wx at HX HB x0 x1 x2 ⊢
          generalize w.heap.size = bx at HX x0 x1 x2 ⊢
          refine (new_bad a b c (fun e => by omega) wx).mono ?_
          rintro e wy ⟨rfl, hwy⟩
          have hd : Below wx.heap.size wx wy := hwy ▸ Below.refl wx.heap.size wx
          clear hwy
          replace HX := Lib.hid (blk_below HX.out hd)
          replace HB := Lib.hid (chain2 HB.out hd)
          clear hd x0 x1 x2
          obtain ⟨x0, x1, x2⟩ := w3_cells HX.out
          go_wp2_with fail
          refine (at_nil l wy).mono ?_
          rintro e w3 ⟨rfl, hd⟩
          replace HB := Lib.hid (chain2 HB.out hd)
          clear hd x0 x1 x2
          have ha := below_alloc (Below.refl w3.heap.size w3) (.cells #[.int .i64 0, .int .i64 0] 30)
          replace HB := Lib.hid (chain2 HB.out ha)
          clear ha
          go_wp2_with fail
          generalize w3.alloc (.cells #[.int .i64 0, .int .i64 0] 30) = w4 at HB ⊢
          refine (wakes_ok w4).mono ?_
          rintro e w5 ⟨rfl, hd⟩
          replace HB := Lib.hid (chain2 HB.out hd)
          clear hd
          go_wp2
          go_ret
          exact ⟨rfl, by repeat (first | exact HB.out | refine below_alloc ?_ _)⟩
      · have d2 : decide (1 ≤ b) = false := decide_eq_false h2
        have HX := Lib.hid (heap_alloc_new w (.cells #[.int .i64 a, .int .i64 b, .int .i64 c] 42))
        have HB := Lib.hid (below_alloc (Below.refl w.heap.size w) (.cells #[.int .i64 a, .int .i64 b, .int .i64 c] 42))
        obtain ⟨x0, x1, x2⟩ := w3_cells HX.out
        go_enter Try.func6, Try.ntmps6
        go_wp2_with fail
        generalize w.alloc (.cells #[.int .i64 a, .int .i64 b, .int .i64 c] 42) = wx at HX HB x0 x1 x2 ⊢
        generalize w.heap.size = bx at HX x0 x1 x2 ⊢
        refine (new_bad a b c (fun e => by omega) wx).mono ?_
        rintro e wy ⟨rfl, hwy⟩
        have hd : Below wx.heap.size wx wy := hwy ▸ Below.refl wx.heap.size wx
        clear hwy
        replace HX := Lib.hid (blk_below HX.out hd)
        replace HB := Lib.hid (chain2 HB.out hd)
        clear hd x0 x1 x2
        obtain ⟨x0, x1, x2⟩ := w3_cells HX.out
        go_wp2_with fail
        refine (at_nil l wy).mono ?_
        rintro e w3 ⟨rfl, hd⟩
        replace HB := Lib.hid (chain2 HB.out hd)
        clear hd x0 x1 x2
        have ha := below_alloc (Below.refl w3.heap.size w3) (.cells #[.int .i64 0, .int .i64 0] 30)
        replace HB := Lib.hid (chain2 HB.out ha)
        clear ha
        go_wp2_with fail
        generalize w3.alloc (.cells #[.int .i64 0, .int .i64 0] 30) = w4 at HB ⊢
        refine (wakes_ok w4).mono ?_
        rintro e w5 ⟨rfl, hd⟩
        replace HB := Lib.hid (chain2 HB.out hd)
        clear hd
        go_wp2
        go_ret
        exact ⟨rfl, by repeat (first | exact HB.out | refine below_alloc ?_ _)⟩
    · have d1 : decide (a ≤ 256) = false := decide_eq_false h1
      have HX := Lib.hid (heap_alloc_new w (.cells #[.int .i64 a, .int .i64 b, .int .i64 c] 42))
      have HB := Lib.hid (below_alloc (Below.refl w.heap.size w) (.cells #[.int .i64 a, .int .i64 b, .int .i64 c] 42))
      obtain ⟨x0, x1, x2⟩ := w3_cells HX.out
      go_enter Try.func6, Try.ntmps6
      go_wp2_with fail
      generalize w.alloc (.cells #[.int .i64 a, .int .i64 b, .int .i64 c] 42) = wx at HX HB x0 x1 x2 ⊢
      generalize w.heap.size = bx at HX x0 x1 x2 ⊢
      refine (new_bad a b c (fun e => by omega) wx).mono ?_
      rintro e wy ⟨rfl, hwy⟩
      have hd : Below wx.heap.size wx wy := hwy ▸ Below.refl wx.heap.size wx
      clear hwy
      replace HX := Lib.hid (blk_below HX.out hd)
      replace HB := Lib.hid (chain2 HB.out hd)
      clear hd x0 x1 x2
      obtain ⟨x0, x1, x2⟩ := w3_cells HX.out
      go_wp2_with fail
      refine (at_nil l wy).mono ?_
      rintro e w3 ⟨rfl, hd⟩
      replace HB := Lib.hid (chain2 HB.out hd)
      clear hd x0 x1 x2
      have ha := below_alloc (Below.refl w3.heap.size w3) (.cells #[.int .i64 0, .int .i64 0] 30)
      replace HB := Lib.hid (chain2 HB.out ha)
      clear ha
      go_wp2_with fail
      generalize w3.alloc (.cells #[.int .i64 0, .int .i64 0] 30) = w4 at HB ⊢
      refine (wakes_ok w4).mono ?_
      rintro e w5 ⟨rfl, hd⟩
      replace HB := Lib.hid (chain2 HB.out hd)
      clear hd
      go_wp2
      go_ret
      exact ⟨rfl, by repeat (first | exact HB.out | refine below_alloc ?_ _)⟩
  · have d0 : decide (1 ≤ a) = false := decide_eq_false h0
    have HX := Lib.hid (heap_alloc_new w (.cells #[.int .i64 a, .int .i64 b, .int .i64 c] 42))
    have HB := Lib.hid (below_alloc (Below.refl w.heap.size w) (.cells #[.int .i64 a, .int .i64 b, .int .i64 c] 42))
    obtain ⟨x0, x1, x2⟩ := w3_cells HX.out
    go_enter Try.func6, Try.ntmps6
    go_wp2_with fail
    generalize w.alloc (.cells #[.int .i64 a, .int .i64 b, .int .i64 c] 42) = wx at HX HB x0 x1 x2 ⊢
    generalize w.heap.size = bx at HX x0 x1 x2 ⊢
    refine (new_bad a b c (fun e => by omega) wx).mono ?_
    rintro e wy ⟨rfl, hwy⟩
    have hd : Below wx.heap.size wx wy := hwy ▸ Below.refl wx.heap.size wx
    clear hwy
    replace HX := Lib.hid (blk_below HX.out hd)
    replace HB := Lib.hid (chain2 HB.out hd)
    clear hd x0 x1 x2
    obtain ⟨x0, x1, x2⟩ := w3_cells HX.out
    go_wp2_with fail
    refine (at_nil l wy).mono ?_
    rintro e w3 ⟨rfl, hd⟩
    replace HB := Lib.hid (chain2 HB.out hd)
    clear hd x0 x1 x2
    have ha := below_alloc (Below.refl w3.heap.size w3) (.cells #[.int .i64 0, .int .i64 0] 30)
    replace HB := Lib.hid (chain2 HB.out ha)
    clear ha
    go_wp2_with fail
    generalize w3.alloc (.cells #[.int .i64 0, .int .i64 0] 30) = w4 at HB ⊢
    refine (wakes_ok w4).mono ?_
    rintro e w5 ⟨rfl, hd⟩
    replace HB := Lib.hid (chain2 HB.out hd)
    clear hd
    go_wp2
    go_ret
    exact ⟨rfl, by repeat (first | exact HB.out | refine below_alloc ?_ _)⟩
theorem whereMakes_law (a00 a01 a02 a1 : Int) (W : World) (w00 : (Lit.int .i64 a00).wf = true) (w01 : (Lit.int .i64 a01).wf = true) (w02 : (Lit.int .i64 a02).wf = true) (w1 : (Lit.int .i64 a1).wf = true) :
    Calls Try.prog 6 #[.agg #[.int .i64 a00, .int .i64 a01, .int .i64 a02], .int .i64 a1] W fun e w' => e = .returned (.bool true) ∧ Below W.heap.size W w' := whereMakes_walk a00 a01 a02 a1 W
end Go.Proofs.Ythapekmdnokniaa
