-- Made by a program of this session (xprint) out of the translation. Not trusted: Lean checks it.
import Derived.Test.YtopglieihhgaaaaPx0
import Derived.Test.YtopglieihhgaaaaPx1
import Derived.Test.YtopglieihhgaaaaPx3
import Derived.Test.YtopglieihhgaaaaPx4
import Derived.Test.YtopglieihhgaaaaPx9
import Derived.Test.YtopglieihhgaaaaPx10
import Derived.Test.YtopglieihhgaaaaPx12
namespace Go.Proofs.Ytopglieihhgaaaa.P
open Go.RowKit Go.Proofs.YtopglieihhgaaaaW.PrintWords Go.Proofs.YtopglieihhgaaaaW.PrintLast Go.Proofs.YtopglieihhgaaaaW.PrintMore
attribute [local go_sem] max2_int min2_int max_two min_two max_three min_three max_four min_four   -- for this text's walks alone
set_option linter.unusedVariables false
set_option linter.unusedSimpArgs false

/-! ### tillrolllaw09_BbtGrows: function 4 -/
mutual
def tillrolllaw09_BbtGrows.j0 : Nat → Int → List Int → Int → Bool → Option (Bool)
  | 0, _, _, _, _ => none
  | k + 1, x0, x1, x2, x50 => if x50 = true then (some false) else ((bbt_New.f (1 + ((mx 0 x0) % 256))).bind fun bt286 => (if 0 ≤ (1 + ((mx 0 x0) % 256)) then (if (1 + ((mx 0 x0) % 256) : Int).toNat ≤ 281474976710656 then ((some (List.replicate (1 + ((mx 0 x0) % 256) : Int).toNat false : List Bool)).bind fun y292 => ((tillrolllaw09_wakes.f k).bind fun t295 => (if t295 = true then (if bt286.2.2 = 0 then ((tillrolllaw09_same.f k bt286.1 bt286.2.1 0 y292).bind fun t296 => (tillrolllaw09_BbtGrows.j1 k x1 x2 (1 + ((mx 0 x0) % 256)) y292 0 (!t296) bt286.1 bt286.2.1)) else (tillrolllaw09_BbtGrows.j1 k x1 x2 (1 + ((mx 0 x0) % 256)) y292 0 true bt286.1 bt286.2.1)) else (tillrolllaw09_BbtGrows.j1 k x1 x2 (1 + ((mx 0 x0) % 256)) y292 0 true bt286.1 bt286.2.1)))) else (none)) else (none)))
def tillrolllaw09_BbtGrows.j1 : Nat → List Int → Int → Int → List Bool → Int → Bool → Int → List Bool → Option (Bool)
  | 0, _, _, _, _, _, _, _, _ => none
  | k + 1, x1, x2, x9, x12, x13, x73, x292000, x292001 => if x73 = true then (some false) else (if 0 ≤ (mn (x1.length : Int) 30) then (if (mn (x1.length : Int) 30) ≤ (x1.length : Int) then (tillrolllaw09_BbtGrows.l0 k x2 x9 x12 x13 (x1.take ((mn (x1.length : Int) 30) : Int).toNat) ((x1.take ((mn (x1.length : Int) 30) : Int).toNat).length : Int) 0 x292000 x292001) else (none)) else (none))
def tillrolllaw09_BbtGrows.l0 : Nat → Int → Int → List Bool → Int → List Int → Int → Int → Int → List Bool → Option (Bool)
  | 0, _, _, _, _, _, _, _, _, _ => none
  | k + 1, x2, x9, x12, x13, x78, x79, x80, x292000, x292001 => if x80 < x79 then (if 0 ≤ x80 then (if x80 < (x78.length : Int) then ((bbt_Table_With.f x292000 x292001 (rd x78 x80)).bind fun bt299 => (if (rd x78 x80) < 0 then (tillrolllaw09_BbtGrows.j3 k x2 x9 x12 x13 (rd x78 x80) bt299.2.2 x78 x79 x80 true x292000 x292001 bt299.1 bt299.2.1) else (tillrolllaw09_BbtGrows.j3 k x2 x9 x12 x13 (rd x78 x80) bt299.2.2 x78 x79 x80 (decide ((rd x78 x80) ≥ x9)) x292000 x292001 bt299.1 bt299.2.1))) else (none)) else (none)) else (some true)
def tillrolllaw09_BbtGrows.j3 : Nat → Int → Int → List Bool → Int → Int → Int → List Int → Int → Int → Bool → Int → List Bool → Int → List Bool → Option (Bool)
  | 0, _, _, _, _, _, _, _, _, _, _, _, _, _, _ => none
  | k + 1, x2, x9, x12, x13, x15, x17, x78, x79, x80, x96, x292000, x292001, x305000, x305001 => if x96 = true then (if x17 = 3 then ((bbt_Table_Blocks.f x305000 x305001).bind fun t305 => (if t305 = 0 then (tillrolllaw09_BbtGrows.l0 k x2 x9 x12 x13 x78 x79 (wrap64 (x80 + 1)) x292000 x292001) else (some false))) else (some false)) else (if x17 = 0 then ((tillrolllaw09_same.f k x292000 x292001 x13 x12).bind fun t306 => (tillrolllaw09_BbtGrows.j4 k x2 x9 x12 x13 x15 x78 x79 x80 (!t306) x305000 x305001)) else (tillrolllaw09_BbtGrows.j4 k x2 x9 x12 x13 x15 x78 x79 x80 true x305000 x305001))
def tillrolllaw09_BbtGrows.j4 : Nat → Int → Int → List Bool → Int → Int → List Int → Int → Int → Bool → Int → List Bool → Option (Bool)
  | 0, _, _, _, _, _, _, _, _, _, _, _ => none
  | k + 1, x2, x9, x12, x13, x15, x78, x79, x80, x112, x305000, x305001 => if x112 = true then (some false) else (if 0 ≤ x15 then (if x15 < (x12.length : Int) then ((some (x12.set (x15 : Int).toNat true : List Bool)).bind fun y307 => ((tillrolllaw09_same.f k x305000 x305001 (IntKind.u64.wrap (x13 + 1)) y307).bind fun t308 => (if t308 = true then ((some (([x2, (mx 0 x2) % 1100] : List Int) : List Int)).bind fun y309 => (tillrolllaw09_BbtGrows.l1 k x2 x9 y307 (IntKind.u64.wrap (x13 + 1)) x78 x79 x80 y309 (y309.length : Int) 0 x305000 x305001)) else (some false)))) else (none)) else (none))
def tillrolllaw09_BbtGrows.l1 : Nat → Int → Int → List Bool → Int → List Int → Int → Int → List Int → Int → Int → Int → List Bool → Option (Bool)
  | 0, _, _, _, _, _, _, _, _, _, _, _, _ => none
  | k + 1, x2, x9, x12, x13, x78, x79, x80, x128, x129, x130, x292000, x292001 => if x130 < x129 then (if 0 ≤ x130 then (if x130 < (x128.length : Int) then ((bbt_Table_Text.f k x292000 x292001 (rd x128 x130)).bind fun bt313 => ((tillrollref09_Text.f k x13 x12 (rd x128 x130)).bind fun bt315 => (if bt313.1.toList = bt315.1.toList then (if bt313.2 = bt315.2 then (tillrolllaw09_BbtGrows.l1 k x2 x9 x12 x13 x78 x79 x80 x128 x129 (wrap64 (x130 + 1)) x292000 x292001) else (some false)) else (some false)))) else (none)) else (none)) else (tillrolllaw09_BbtGrows.l0 k x2 x9 x12 x13 x78 x79 (wrap64 (x80 + 1)) x292000 x292001)
end
def tillrolllaw09_BbtGrows.f (k : Nat) (a0 : Int) (l1 : List Int) (a2 : Int) : Option (Bool) := (bbt_New.f a0).bind fun bt278 => (if a0 ≥ 1 then (if ((decide (a0 ≤ 256)) != (bt278.2.2 == 0)) = true then (tillrolllaw09_BbtGrows.j0 k a0 l1 a2 true) else (if bt278.2.2 = 0 then (tillrolllaw09_BbtGrows.j0 k a0 l1 a2 false) else (if bt278.2.2 = 2 then ((bbt_Table_Blocks.f bt278.1 bt278.2.1).bind fun t284 => (tillrolllaw09_BbtGrows.j0 k a0 l1 a2 (t284 != 0))) else (tillrolllaw09_BbtGrows.j0 k a0 l1 a2 true)))) else (if (false != (bt278.2.2 == 0)) = true then (tillrolllaw09_BbtGrows.j0 k a0 l1 a2 true) else (if bt278.2.2 = 0 then (tillrolllaw09_BbtGrows.j0 k a0 l1 a2 false) else (if bt278.2.2 = 2 then ((bbt_Table_Blocks.f bt278.1 bt278.2.1).bind fun t285 => (tillrolllaw09_BbtGrows.j0 k a0 l1 a2 (t285 != 0))) else (tillrolllaw09_BbtGrows.j0 k a0 l1 a2 true)))))
theorem tillrolllaw09_BbtGrows.mono_l : ∀ k, (∀ y0 y1 y2 y3, LeO (tillrolllaw09_BbtGrows.j0 k y0 y1 y2 y3) (tillrolllaw09_BbtGrows.j0 (k + 1) y0 y1 y2 y3)) ∧ (∀ y0 y1 y2 y3 y4 y5 y6 y7, LeO (tillrolllaw09_BbtGrows.j1 k y0 y1 y2 y3 y4 y5 y6 y7) (tillrolllaw09_BbtGrows.j1 (k + 1) y0 y1 y2 y3 y4 y5 y6 y7)) ∧ (∀ y0 y1 y2 y3 y4 y5 y6 y7 y8, LeO (tillrolllaw09_BbtGrows.l0 k y0 y1 y2 y3 y4 y5 y6 y7 y8) (tillrolllaw09_BbtGrows.l0 (k + 1) y0 y1 y2 y3 y4 y5 y6 y7 y8)) ∧ (∀ y0 y1 y2 y3 y4 y5 y6 y7 y8 y9 y10 y11 y12 y13, LeO (tillrolllaw09_BbtGrows.j3 k y0 y1 y2 y3 y4 y5 y6 y7 y8 y9 y10 y11 y12 y13) (tillrolllaw09_BbtGrows.j3 (k + 1) y0 y1 y2 y3 y4 y5 y6 y7 y8 y9 y10 y11 y12 y13)) ∧ (∀ y0 y1 y2 y3 y4 y5 y6 y7 y8 y9 y10, LeO (tillrolllaw09_BbtGrows.j4 k y0 y1 y2 y3 y4 y5 y6 y7 y8 y9 y10) (tillrolllaw09_BbtGrows.j4 (k + 1) y0 y1 y2 y3 y4 y5 y6 y7 y8 y9 y10)) ∧ (∀ y0 y1 y2 y3 y4 y5 y6 y7 y8 y9 y10 y11, LeO (tillrolllaw09_BbtGrows.l1 k y0 y1 y2 y3 y4 y5 y6 y7 y8 y9 y10 y11) (tillrolllaw09_BbtGrows.l1 (k + 1) y0 y1 y2 y3 y4 y5 y6 y7 y8 y9 y10 y11))
  | 0 => ⟨fun _ _ _ _ r h => by simp [tillrolllaw09_BbtGrows.j0] at h, fun _ _ _ _ _ _ _ _ r h => by simp [tillrolllaw09_BbtGrows.j1] at h, fun _ _ _ _ _ _ _ _ _ r h => by simp [tillrolllaw09_BbtGrows.l0] at h, fun _ _ _ _ _ _ _ _ _ _ _ _ _ _ r h => by simp [tillrolllaw09_BbtGrows.j3] at h, fun _ _ _ _ _ _ _ _ _ _ _ r h => by simp [tillrolllaw09_BbtGrows.j4] at h, fun _ _ _ _ _ _ _ _ _ _ _ _ r h => by simp [tillrolllaw09_BbtGrows.l1] at h⟩
  | k + 1 => by
    obtain ⟨ih0, ih1, ih2, ih3, ih4, ih5⟩ := tillrolllaw09_BbtGrows.mono_l k
    refine ⟨?_, ?_, ?_, ?_, ?_, ?_⟩
    · intro y0 y1 y2 y3
      unfold tillrolllaw09_BbtGrows.j0
      repeat' first
      | (with_reducible exact ih0 _ _ _ _)
      | (with_reducible exact ih1 _ _ _ _ _ _ _ _)
      | (with_reducible exact ih2 _ _ _ _ _ _ _ _ _)
      | (with_reducible exact ih3 _ _ _ _ _ _ _ _ _ _ _ _ _ _)
      | (with_reducible exact ih4 _ _ _ _ _ _ _ _ _ _ _)
      | (with_reducible exact ih5 _ _ _ _ _ _ _ _ _ _ _ _)
      | (with_reducible exact bbt_Table_Text.mono _ _ _ _)
      | (with_reducible exact tillrolllaw09_same.mono _ _ _ _ _)
      | (with_reducible exact tillrolllaw09_wakes.mono _)
      | (with_reducible exact tillrollref09_Text.mono _ _ _ _)
      | (with_reducible exact LeO.refl _)
      | (with_reducible exact LeO.none _)
      | (with_reducible refine LeO.ite ?_ ?_)
      | (with_reducible refine LeO.bind ?_ (fun _ => ?_))
      | exact ih0 _ _ _ _
      | exact ih1 _ _ _ _ _ _ _ _
      | exact ih2 _ _ _ _ _ _ _ _ _
      | exact ih3 _ _ _ _ _ _ _ _ _ _ _ _ _ _
      | exact ih4 _ _ _ _ _ _ _ _ _ _ _
      | exact ih5 _ _ _ _ _ _ _ _ _ _ _ _
      | exact bbt_Table_Text.mono _ _ _ _
      | exact tillrolllaw09_same.mono _ _ _ _ _
      | exact tillrolllaw09_wakes.mono _
      | exact tillrollref09_Text.mono _ _ _ _
      | exact LeO.none _
      | refine LeO.ite ?_ ?_
      | refine LeO.bind ?_ (fun _ => ?_)
    · intro y0 y1 y2 y3 y4 y5 y6 y7
      unfold tillrolllaw09_BbtGrows.j1
      repeat' first
      | (with_reducible exact ih0 _ _ _ _)
      | (with_reducible exact ih1 _ _ _ _ _ _ _ _)
      | (with_reducible exact ih2 _ _ _ _ _ _ _ _ _)
      | (with_reducible exact ih3 _ _ _ _ _ _ _ _ _ _ _ _ _ _)
      | (with_reducible exact ih4 _ _ _ _ _ _ _ _ _ _ _)
      | (with_reducible exact ih5 _ _ _ _ _ _ _ _ _ _ _ _)
      | (with_reducible exact bbt_Table_Text.mono _ _ _ _)
      | (with_reducible exact tillrolllaw09_same.mono _ _ _ _ _)
      | (with_reducible exact tillrolllaw09_wakes.mono _)
      | (with_reducible exact tillrollref09_Text.mono _ _ _ _)
      | (with_reducible exact LeO.refl _)
      | (with_reducible exact LeO.none _)
      | (with_reducible refine LeO.ite ?_ ?_)
      | (with_reducible refine LeO.bind ?_ (fun _ => ?_))
      | exact ih0 _ _ _ _
      | exact ih1 _ _ _ _ _ _ _ _
      | exact ih2 _ _ _ _ _ _ _ _ _
      | exact ih3 _ _ _ _ _ _ _ _ _ _ _ _ _ _
      | exact ih4 _ _ _ _ _ _ _ _ _ _ _
      | exact ih5 _ _ _ _ _ _ _ _ _ _ _ _
      | exact bbt_Table_Text.mono _ _ _ _
      | exact tillrolllaw09_same.mono _ _ _ _ _
      | exact tillrolllaw09_wakes.mono _
      | exact tillrollref09_Text.mono _ _ _ _
      | exact LeO.none _
      | refine LeO.ite ?_ ?_
      | refine LeO.bind ?_ (fun _ => ?_)
    · intro y0 y1 y2 y3 y4 y5 y6 y7 y8
      unfold tillrolllaw09_BbtGrows.l0
      repeat' first
      | (with_reducible exact ih0 _ _ _ _)
      | (with_reducible exact ih1 _ _ _ _ _ _ _ _)
      | (with_reducible exact ih2 _ _ _ _ _ _ _ _ _)
      | (with_reducible exact ih3 _ _ _ _ _ _ _ _ _ _ _ _ _ _)
      | (with_reducible exact ih4 _ _ _ _ _ _ _ _ _ _ _)
      | (with_reducible exact ih5 _ _ _ _ _ _ _ _ _ _ _ _)
      | (with_reducible exact bbt_Table_Text.mono _ _ _ _)
      | (with_reducible exact tillrolllaw09_same.mono _ _ _ _ _)
      | (with_reducible exact tillrolllaw09_wakes.mono _)
      | (with_reducible exact tillrollref09_Text.mono _ _ _ _)
      | (with_reducible exact LeO.refl _)
      | (with_reducible exact LeO.none _)
      | (with_reducible refine LeO.ite ?_ ?_)
      | (with_reducible refine LeO.bind ?_ (fun _ => ?_))
      | exact ih0 _ _ _ _
      | exact ih1 _ _ _ _ _ _ _ _
      | exact ih2 _ _ _ _ _ _ _ _ _
      | exact ih3 _ _ _ _ _ _ _ _ _ _ _ _ _ _
      | exact ih4 _ _ _ _ _ _ _ _ _ _ _
      | exact ih5 _ _ _ _ _ _ _ _ _ _ _ _
      | exact bbt_Table_Text.mono _ _ _ _
      | exact tillrolllaw09_same.mono _ _ _ _ _
      | exact tillrolllaw09_wakes.mono _
      | exact tillrollref09_Text.mono _ _ _ _
      | exact LeO.none _
      | refine LeO.ite ?_ ?_
      | refine LeO.bind ?_ (fun _ => ?_)
    · intro y0 y1 y2 y3 y4 y5 y6 y7 y8 y9 y10 y11 y12 y13
      unfold tillrolllaw09_BbtGrows.j3
      repeat' first
      | (with_reducible exact ih0 _ _ _ _)
      | (with_reducible exact ih1 _ _ _ _ _ _ _ _)
      | (with_reducible exact ih2 _ _ _ _ _ _ _ _ _)
      | (with_reducible exact ih3 _ _ _ _ _ _ _ _ _ _ _ _ _ _)
      | (with_reducible exact ih4 _ _ _ _ _ _ _ _ _ _ _)
      | (with_reducible exact ih5 _ _ _ _ _ _ _ _ _ _ _ _)
      | (with_reducible exact bbt_Table_Text.mono _ _ _ _)
      | (with_reducible exact tillrolllaw09_same.mono _ _ _ _ _)
      | (with_reducible exact tillrolllaw09_wakes.mono _)
      | (with_reducible exact tillrollref09_Text.mono _ _ _ _)
      | (with_reducible exact LeO.refl _)
      | (with_reducible exact LeO.none _)
      | (with_reducible refine LeO.ite ?_ ?_)
      | (with_reducible refine LeO.bind ?_ (fun _ => ?_))
      | exact ih0 _ _ _ _
      | exact ih1 _ _ _ _ _ _ _ _
      | exact ih2 _ _ _ _ _ _ _ _ _
      | exact ih3 _ _ _ _ _ _ _ _ _ _ _ _ _ _
      | exact ih4 _ _ _ _ _ _ _ _ _ _ _
      | exact ih5 _ _ _ _ _ _ _ _ _ _ _ _
      | exact bbt_Table_Text.mono _ _ _ _
      | exact tillrolllaw09_same.mono _ _ _ _ _
      | exact tillrolllaw09_wakes.mono _
      | exact tillrollref09_Text.mono _ _ _ _
      | exact LeO.none _
      | refine LeO.ite ?_ ?_
      | refine LeO.bind ?_ (fun _ => ?_)
    · intro y0 y1 y2 y3 y4 y5 y6 y7 y8 y9 y10
      unfold tillrolllaw09_BbtGrows.j4
      repeat' first
      | (with_reducible exact ih0 _ _ _ _)
      | (with_reducible exact ih1 _ _ _ _ _ _ _ _)
      | (with_reducible exact ih2 _ _ _ _ _ _ _ _ _)
      | (with_reducible exact ih3 _ _ _ _ _ _ _ _ _ _ _ _ _ _)
      | (with_reducible exact ih4 _ _ _ _ _ _ _ _ _ _ _)
      | (with_reducible exact ih5 _ _ _ _ _ _ _ _ _ _ _ _)
      | (with_reducible exact bbt_Table_Text.mono _ _ _ _)
      | (with_reducible exact tillrolllaw09_same.mono _ _ _ _ _)
      | (with_reducible exact tillrolllaw09_wakes.mono _)
      | (with_reducible exact tillrollref09_Text.mono _ _ _ _)
      | (with_reducible exact LeO.refl _)
      | (with_reducible exact LeO.none _)
      | (with_reducible refine LeO.ite ?_ ?_)
      | (with_reducible refine LeO.bind ?_ (fun _ => ?_))
      | exact ih0 _ _ _ _
      | exact ih1 _ _ _ _ _ _ _ _
      | exact ih2 _ _ _ _ _ _ _ _ _
      | exact ih3 _ _ _ _ _ _ _ _ _ _ _ _ _ _
      | exact ih4 _ _ _ _ _ _ _ _ _ _ _
      | exact ih5 _ _ _ _ _ _ _ _ _ _ _ _
      | exact bbt_Table_Text.mono _ _ _ _
      | exact tillrolllaw09_same.mono _ _ _ _ _
      | exact tillrolllaw09_wakes.mono _
      | exact tillrollref09_Text.mono _ _ _ _
      | exact LeO.none _
      | refine LeO.ite ?_ ?_
      | refine LeO.bind ?_ (fun _ => ?_)
    · intro y0 y1 y2 y3 y4 y5 y6 y7 y8 y9 y10 y11
      unfold tillrolllaw09_BbtGrows.l1
      repeat' first
      | (with_reducible exact ih0 _ _ _ _)
      | (with_reducible exact ih1 _ _ _ _ _ _ _ _)
      | (with_reducible exact ih2 _ _ _ _ _ _ _ _ _)
      | (with_reducible exact ih3 _ _ _ _ _ _ _ _ _ _ _ _ _ _)
      | (with_reducible exact ih4 _ _ _ _ _ _ _ _ _ _ _)
      | (with_reducible exact ih5 _ _ _ _ _ _ _ _ _ _ _ _)
      | (with_reducible exact bbt_Table_Text.mono _ _ _ _)
      | (with_reducible exact tillrolllaw09_same.mono _ _ _ _ _)
      | (with_reducible exact tillrolllaw09_wakes.mono _)
      | (with_reducible exact tillrollref09_Text.mono _ _ _ _)
      | (with_reducible exact LeO.refl _)
      | (with_reducible exact LeO.none _)
      | (with_reducible refine LeO.ite ?_ ?_)
      | (with_reducible refine LeO.bind ?_ (fun _ => ?_))
      | exact ih0 _ _ _ _
      | exact ih1 _ _ _ _ _ _ _ _
      | exact ih2 _ _ _ _ _ _ _ _ _
      | exact ih3 _ _ _ _ _ _ _ _ _ _ _ _ _ _
      | exact ih4 _ _ _ _ _ _ _ _ _ _ _
      | exact ih5 _ _ _ _ _ _ _ _ _ _ _ _
      | exact bbt_Table_Text.mono _ _ _ _
      | exact tillrolllaw09_same.mono _ _ _ _ _
      | exact tillrolllaw09_wakes.mono _
      | exact tillrollref09_Text.mono _ _ _ _
      | exact LeO.none _
      | refine LeO.ite ?_ ?_
      | refine LeO.bind ?_ (fun _ => ?_)
theorem tillrolllaw09_BbtGrows.mono : ∀ a0 a1 a2 k, LeO (tillrolllaw09_BbtGrows.f k a0 a1 a2) (tillrolllaw09_BbtGrows.f (k + 1) a0 a1 a2) := by
  intro a0 a1 a2 k
  obtain ⟨ih0, ih1, ih2, ih3, ih4, ih5⟩ := tillrolllaw09_BbtGrows.mono_l k
  unfold tillrolllaw09_BbtGrows.f
  repeat' first
      | (with_reducible exact ih0 _ _ _ _)
      | (with_reducible exact ih1 _ _ _ _ _ _ _ _)
      | (with_reducible exact ih2 _ _ _ _ _ _ _ _ _)
      | (with_reducible exact ih3 _ _ _ _ _ _ _ _ _ _ _ _ _ _)
      | (with_reducible exact ih4 _ _ _ _ _ _ _ _ _ _ _)
      | (with_reducible exact ih5 _ _ _ _ _ _ _ _ _ _ _ _)
      | (with_reducible exact bbt_Table_Text.mono _ _ _ _)
      | (with_reducible exact tillrolllaw09_same.mono _ _ _ _ _)
      | (with_reducible exact tillrolllaw09_wakes.mono _)
      | (with_reducible exact tillrollref09_Text.mono _ _ _ _)
      | (with_reducible exact LeO.refl _)
      | (with_reducible exact LeO.none _)
      | (with_reducible refine LeO.ite ?_ ?_)
      | (with_reducible refine LeO.bind ?_ (fun _ => ?_))
      | exact ih0 _ _ _ _
      | exact ih1 _ _ _ _ _ _ _ _
      | exact ih2 _ _ _ _ _ _ _ _ _
      | exact ih3 _ _ _ _ _ _ _ _ _ _ _ _ _ _
      | exact ih4 _ _ _ _ _ _ _ _ _ _ _
      | exact ih5 _ _ _ _ _ _ _ _ _ _ _ _
      | exact bbt_Table_Text.mono _ _ _ _
      | exact tillrolllaw09_same.mono _ _ _ _ _
      | exact tillrolllaw09_wakes.mono _
      | exact tillrollref09_Text.mono _ _ _ _
      | exact LeO.none _
      | refine LeO.ite ?_ ?_
      | refine LeO.bind ?_ (fun _ => ?_)
set_option maxHeartbeats 8000000 in
set_option maxRecDepth 100000 in
theorem tillrolllaw09_BbtGrows.calls (k : Nat) (a0 : Int) (A1 : Option Addr) (c1 : Nat) (l1 : List Int) (a2 : Int) (r : Bool) (w : World) (hr1 : Kd.C (Kd.int .i64) w A1 l1.length l1) (hc1 : l1.length ≤ c1) (h : tillrolllaw09_BbtGrows.f k a0 l1 a2 = some r) :
    Calls Try.prog 4 #[.int .i64 a0, .slice A1 l1.length c1, .int .i64 a2] w fun e w' => e = .returned (.bool r) ∧ Below w.heap.size w w' := by
  have hu26 := Try.underlying26
  have HR1 := Aside0.mk hr1
  have HC1 := Aside0.mk hc1
  clear hr1 hc1
  have HB := Aside0.mk (Below.refl w.heap.size w)
  have H : ((bbt_New.f a0).bind fun bt278 => (if a0 ≥ 1 then (if ((decide (a0 ≤ 256)) != (bt278.2.2 == 0)) = true then (tillrolllaw09_BbtGrows.j0 k a0 l1 a2 true) else (if bt278.2.2 = 0 then (tillrolllaw09_BbtGrows.j0 k a0 l1 a2 false) else (if bt278.2.2 = 2 then ((bbt_Table_Blocks.f bt278.1 bt278.2.1).bind fun t284 => (tillrolllaw09_BbtGrows.j0 k a0 l1 a2 (t284 != 0))) else (tillrolllaw09_BbtGrows.j0 k a0 l1 a2 true)))) else (if (false != (bt278.2.2 == 0)) = true then (tillrolllaw09_BbtGrows.j0 k a0 l1 a2 true) else (if bt278.2.2 = 0 then (tillrolllaw09_BbtGrows.j0 k a0 l1 a2 false) else (if bt278.2.2 = 2 then ((bbt_Table_Blocks.f bt278.1 bt278.2.1).bind fun t285 => (tillrolllaw09_BbtGrows.j0 k a0 l1 a2 (t285 != 0))) else (tillrolllaw09_BbtGrows.j0 k a0 l1 a2 true)))))) = some r := h
  clear h
  replace H := Option.bind_eq_some_iff.mp H
  obtain ⟨⟨t278, t279, t282⟩, A40, H⟩ := H
  replace H : (if a0 ≥ 1 then (if ((decide (a0 ≤ 256)) != (t282 == 0)) = true then (tillrolllaw09_BbtGrows.j0 k a0 l1 a2 true) else (if t282 = 0 then (tillrolllaw09_BbtGrows.j0 k a0 l1 a2 false) else (if t282 = 2 then ((bbt_Table_Blocks.f t278 t279).bind fun t284 => (tillrolllaw09_BbtGrows.j0 k a0 l1 a2 (t284 != 0))) else (tillrolllaw09_BbtGrows.j0 k a0 l1 a2 true)))) else (if (false != (t282 == 0)) = true then (tillrolllaw09_BbtGrows.j0 k a0 l1 a2 true) else (if t282 = 0 then (tillrolllaw09_BbtGrows.j0 k a0 l1 a2 false) else (if t282 = 2 then ((bbt_Table_Blocks.f t278 t279).bind fun t285 => (tillrolllaw09_BbtGrows.j0 k a0 l1 a2 (t285 != 0))) else (tillrolllaw09_BbtGrows.j0 k a0 l1 a2 true))))) = some r := H
  have A4 := Aside0.mk A40
  clear A40
  have HC5 := Aside0.mk H
  clear H
  go_enter Try.func4, Try.ntmps4
  go_upto_region 2 with (first | ((with_reducible refine gate_callee (f := 6) rfl ?_); refine goesL_ (some 26) rfl rfl Try.func6 (by kernel_rfl) rfl #[.int .i64 a0] rfl (by (try simp only [List.map_toArray, List.map_cons, List.map_nil]); first | done | rfl | (simp only [List.length_drop, List.length_take]; rfl) | (simp only [ByteArray.size_append]; rfl) | (simp only [ByteArray.size_extract]; rfl)) ?_; (with_reducible refine (bbt_New.calls a0 t278 t279 t282 _ A4.out).mono ?_); rintro e w6 ⟨v280, rfl, ho0, hb⟩; refine ⟨_, rfl, ?_⟩; have n0_ := Aside0.mk (Kd.R_lower ho0 (below_size (by repeat (first | (with_reducible first | exact HB.out | apply below_alloc | apply pw_below_drewN | apply below_drew1) | exact HB.out)))); have n1_ := Aside0.mk (below_step (by repeat (first | (with_reducible first | exact HB.out | apply below_alloc | apply pw_below_drewN | apply below_drew1) | exact HB.out)) hb); clear HB; have HO281 := n0_; have HB := n1_; clear n0_ n1_; (try clear hb); (try clear hb2); (try clear hk); (try clear hi); (try clear ho0)) | ((with_reducible refine gate_dst (N := 7) rfl ?_); refine box_event ?hg (N := 7) ?hd (cs := #[.int .u64 0, .slice none 0 0]) (t := 26) ?hr ?_; (case hd => rfl); (case hg => rfl); (case hr => first | (go_simp; done) | (go_simp; rfl)); intro gb283 hg w7 hbox hb; have n0_ := Aside0.mk (Kd.R_below (by (with_reducible repeat (first | apply Kd.R_alloc | apply Kd.R_drewN | apply Kd.R_drew)); exact HO281.out) hb); have n1_ := Aside0.mk (below_step (by repeat (first | (with_reducible first | exact HB.out | apply below_alloc | apply pw_below_drewN | apply below_drew1) | exact HB.out)) hb); have n2_ := Aside0.mk (hbox); have n3_ := Aside0.mk ((by rw [hg]; exact (below_size (by repeat (first | (with_reducible first | exact HB.out | apply below_alloc | apply pw_below_drewN | apply below_drew1) | exact HB.out))) : w.heap.size ≤ gb283)); have n4_ := Aside0.mk ((by rw [hg]; exact (below_size (by repeat (first | (with_reducible first | exact HB.out | apply below_alloc | apply pw_below_drewN | apply below_drew1) | exact HB.out))) : w.heap.size ≤ gb283)); clear HO281; clear HB; have HO281 := n0_; have HB := n1_; have BK283 := n2_; have GW283 := n3_; have GE283 := n4_; clear n0_ n1_ n2_ n3_ n4_; clear hb hbox hg; have hcz8_0 : w7.cell? ⟨gb283, 0, none⟩ = some (.int .u64 0) := (blk_cell BK283.out 0).trans rfl; have hcz8_1 : w7.cell? ⟨gb283, 1, none⟩ = some (.slice none 0 0) := (blk_cell BK283.out 1).trans rfl; have hfz8_0 := blk_frozen BK283.out 0; have hfz8_1 := blk_frozen BK283.out 1; obtain ⟨Ao9, co9, eo9⟩ := Kd.R_slice HO281.out; subst eo9))
  (try simp only [Act.put, List.setIfInBounds_toArray, List.set_cons_zero, List.set_cons_succ])
  go_cut [50] (fun v50 wc => ∃ (kq : Nat) (x50_4 : Bool), v50 = .bool x50_4 ∧ Aside0 (tillrolllaw09_BbtGrows.j0 kq a0 l1 a2 x50_4 = some r) ∧ Aside0 (kq ≤ k) ∧ Aside0 (Kd.R Kd.bool 4 wc w.heap.size (fun _ => True) (.slice Ao9 t279.length co9) t279) ∧ Aside0 (wc.heap[gb283]? = some (.cells #[.int .u64 t278, (.slice Ao9 t279.length co9)] 26 (0, 0))) ∧ Aside0 (Below w.heap.size w wc))
  case first =>
    have H := HC5.out
    clear HC5
    by_cases c10 : a0 ≥ 1
    · rw [if_pos c10] at H
      have c10b0 : decide (1 ≤ a0) = true := decide_eq_true c10
      clear c10
      (first | rw [c10b0] | (simp only [i64_w, i32_w]; rw [c10b0]) | skip)
      by_cases c11 : ((decide (a0 ≤ 256)) != (t282 == 0)) = true
      · rw [if_pos c11] at H
        have c11b0 : ((decide (a0 ≤ 256)) != (t282 == 0)) = true := c11
        (try (have c11b1 : decide ((decide (a0 ≤ 256)) = (t282 == 0)) = false := by simpa using c11))
        (try (have c11b2 : ((decide (a0 ≤ 256)) == (t282 == 0)) = false := by simpa using c11))
        (try (have c11b3 : ¬ ((decide (a0 ≤ 256)) = (t282 == 0)) := by simpa using c11))
        clear c11
        have H' := Aside0.mk H
        clear H
        go_wp2
        go_meet
        case rel => exact ⟨_, (true), (by first | rfl | (simp; done) | (simp [*]; done)), H', ⟨by first | omega | exact Nat.le_refl _⟩, ⟨by (with_reducible repeat (first | apply Kd.R_alloc | apply Kd.R_drewN | apply Kd.R_drew)); exact Kd.R_mono (Kd.R_far (p := ⟨gb283, 1, none⟩) (Kd.R_far (p := ⟨gb283, 0, none⟩) (Kd.R_types HO281.out BK283.out (by decide)) (fun _ hk => hk.2) (.int .u64 t278)) (fun _ hk => hk.2) (.slice Ao9 t279.length co9)) (fun _ hk => trivial)⟩, ⟨by (with_reducible repeat (first | refine blk_drewN ?_ _ | refine blk_drew ?_ | refine blk_alloc ?_ _)); refine blk_put (cs := #[.int .u64 t278, .slice none 0 0]) ?_ 1 _ rfl; (with_reducible repeat (first | refine blk_drewN ?_ _ | refine blk_drew ?_ | refine blk_alloc ?_ _)); refine blk_put (cs := #[.int .u64 0, .slice none 0 0]) ?_ 0 _ rfl; (with_reducible repeat (first | refine blk_drewN ?_ _ | refine blk_drew ?_ | refine blk_alloc ?_ _)); exact BK283.out⟩, ⟨by repeat (first | (with_reducible first | exact HB.out | apply below_alloc | apply pw_below_drewN | apply below_drew1 | refine below_set ?_ GE283.out) | exact HB.out)⟩⟩
      · rw [if_neg c11] at H
        have c11b0 : ((decide (a0 ≤ 256)) != (t282 == 0)) = false := by simpa using c11
        (try (have c11b1 : decide ((decide (a0 ≤ 256)) = (t282 == 0)) = true := by simpa using c11))
        (try (have c11b2 : ((decide (a0 ≤ 256)) == (t282 == 0)) = true := by simpa using c11))
        clear c11
        by_cases c12 : t282 = 0
        · rw [if_pos c12] at H
          have c12b0 : (t282 == 0) = true := beq_iff_eq.mpr c12
          have c12b1 : (t282 != 0) = false := bne_eq_false_iff_eq.mpr c12
          have le_ : decide (a0 ≤ 256) = true := by have h1 := c11b2; rw [c12b0] at h1; simpa using h1
          have le2_ : (a0 ≤ 256) = True := eq_true (of_decide_eq_true le_)
          have le3_ : (256 < a0) = False := eq_false (by have := of_decide_eq_true le_; omega)
          clear c12
          have H' := Aside0.mk H
          clear H
          go_wp2
          go_meet
          case rel => exact ⟨_, (false), (by first | rfl | (simp; done) | (simp [*]; done)), H', ⟨by first | omega | exact Nat.le_refl _⟩, ⟨by (with_reducible repeat (first | apply Kd.R_alloc | apply Kd.R_drewN | apply Kd.R_drew)); exact Kd.R_mono (Kd.R_far (p := ⟨gb283, 1, none⟩) (Kd.R_far (p := ⟨gb283, 0, none⟩) (Kd.R_types HO281.out BK283.out (by decide)) (fun _ hk => hk.2) (.int .u64 t278)) (fun _ hk => hk.2) (.slice Ao9 t279.length co9)) (fun _ hk => trivial)⟩, ⟨by (with_reducible repeat (first | refine blk_drewN ?_ _ | refine blk_drew ?_ | refine blk_alloc ?_ _)); refine blk_put (cs := #[.int .u64 t278, .slice none 0 0]) ?_ 1 _ rfl; (with_reducible repeat (first | refine blk_drewN ?_ _ | refine blk_drew ?_ | refine blk_alloc ?_ _)); refine blk_put (cs := #[.int .u64 0, .slice none 0 0]) ?_ 0 _ rfl; (with_reducible repeat (first | refine blk_drewN ?_ _ | refine blk_drew ?_ | refine blk_alloc ?_ _)); exact BK283.out⟩, ⟨by repeat (first | (with_reducible first | exact HB.out | apply below_alloc | apply pw_below_drewN | apply below_drew1 | refine below_set ?_ GE283.out) | exact HB.out)⟩⟩
        · rw [if_neg c12] at H
          have c12b0 : (t282 == 0) = false := beq_eq_false_iff_ne.mpr c12
          have c12b1 : (t282 != 0) = true := bne_iff_ne.mpr c12
          have le_ : decide (a0 ≤ 256) = false := by have h1 := c11b2; rw [c12b0] at h1; simpa using h1
          have le2_ : (a0 ≤ 256) = False := eq_false (of_decide_eq_false le_)
          have le3_ : (256 < a0) = True := eq_true (by have := of_decide_eq_false le_; omega)
          by_cases c13 : t282 = 2
          · rw [if_pos c13] at H
            have c13b0 : (t282 == 2) = true := beq_iff_eq.mpr c13
            have c13b1 : (t282 != 2) = false := bne_eq_false_iff_eq.mpr c13
            clear c13
            replace H := Option.bind_eq_some_iff.mp H
            obtain ⟨t284, A140, H⟩ := H
            replace H : (tillrolllaw09_BbtGrows.j0 k a0 l1 a2 (t284 != 0)) = some r := H
            have A14 := Aside0.mk A140
            clear A140
            have H' := Aside0.mk H
            clear H
            have hcz15_0 : w7.cell? ⟨gb283, 0, none⟩ = some (.int .u64 0) := (blk_cell BK283.out 0).trans rfl
            have hcz15_1 : w7.cell? ⟨gb283, 1, none⟩ = some (.slice none 0 0) := (blk_cell BK283.out 1).trans rfl
            have hfz15_0 := blk_frozen BK283.out 0
            have hfz15_1 := blk_frozen BK283.out 1
            go_wp2_with (first | (go_at_call 11; (with_reducible refine (bbt_Table_Blocks.calls t278 _ _ t279 t284 _ ?side1 ?side2 A14.out).mono ?_); (case side1 => refine (Kd.R_reads' (e := 4) (base := w.heap.size) (ok := fun k_ => True) (n := t279.length) (c := co9) ?_).2.2; exact (by (with_reducible repeat (first | apply Kd.R_alloc | apply Kd.R_drewN | apply Kd.R_drew)); exact (Kd.R_mono (Kd.R_far (p := ⟨gb283, 1, none⟩) (Kd.R_far (p := ⟨gb283, 0, none⟩) (Kd.R_types HO281.out BK283.out (by decide)) (fun _ hk => hk.2) (.int .u64 t278)) (fun _ hk => hk.2) (.slice Ao9 t279.length co9)) (fun _ h_ => h_.1)))); (case side2 => exact (Kd.R_reads' HO281.out).2.1); rintro e w16 ⟨rfl, hb⟩; have n0_ := Aside0.mk (Kd.R_below (by (with_reducible repeat (first | apply Kd.R_alloc | apply Kd.R_drewN | apply Kd.R_drew)); exact (Kd.R_mono (Kd.R_far (p := ⟨gb283, 1, none⟩) (Kd.R_far (p := ⟨gb283, 0, none⟩) (Kd.R_types HO281.out BK283.out (by decide)) (fun _ hk => hk.2) (.int .u64 t278)) (fun _ hk => hk.2) (.slice Ao9 t279.length co9)) (fun _ h_ => h_.1))) hb); have n1_ := Aside0.mk (blk_below (g := gb283) (o := .cells #[.int .u64 t278, .slice Ao9 t279.length co9] 26 (0, 0)) (by (with_reducible repeat (first | refine blk_drewN ?_ _ | refine blk_drew ?_ | refine blk_alloc ?_ _)); refine blk_put (cs := #[.int .u64 t278, .slice none 0 0]) ?_ 1 _ rfl; (with_reducible repeat (first | refine blk_drewN ?_ _ | refine blk_drew ?_ | refine blk_alloc ?_ _)); refine blk_put (cs := #[.int .u64 0, .slice none 0 0]) ?_ 0 _ rfl; (with_reducible repeat (first | refine blk_drewN ?_ _ | refine blk_drew ?_ | refine blk_alloc ?_ _)); exact BK283.out) hb); have n2_ := Aside0.mk (below_step (by repeat (first | (with_reducible first | exact HB.out | apply below_alloc | apply pw_below_drewN | apply below_drew1 | refine below_set ?_ GE283.out) | exact HB.out)) hb); clear HO281; clear BK283; clear HB; have HO281 := n0_; have BK283 := n1_; have HB := n2_; clear n0_ n1_ n2_; (try clear hb); (try clear hb2); (try clear hk); (try clear hi)))
            go_meet
            case rel => exact ⟨_, ((t284 != 0)), (by first | rfl | (simp; done) | (simp [*]; done)), H', ⟨by first | omega | exact Nat.le_refl _⟩, ⟨by (with_reducible repeat (first | apply Kd.R_alloc | apply Kd.R_drewN | apply Kd.R_drew)); exact HO281.out⟩, ⟨by (with_reducible repeat (first | refine blk_drewN ?_ _ | refine blk_drew ?_ | refine blk_alloc ?_ _)); exact BK283.out⟩, ⟨by repeat (first | (with_reducible first | exact HB.out | apply below_alloc | apply pw_below_drewN | apply below_drew1 | refine below_set ?_ GE283.out) | exact HB.out)⟩⟩
          · rw [if_neg c13] at H
            have c13b0 : (t282 == 2) = false := beq_eq_false_iff_ne.mpr c13
            have c13b1 : (t282 != 2) = true := bne_iff_ne.mpr c13
            have H' := Aside0.mk H
            clear H
            go_wp2
            go_meet
            case rel => exact ⟨_, (true), (by first | rfl | (simp; done) | (simp [*]; done)), H', ⟨by first | omega | exact Nat.le_refl _⟩, ⟨by (with_reducible repeat (first | apply Kd.R_alloc | apply Kd.R_drewN | apply Kd.R_drew)); exact Kd.R_mono (Kd.R_far (p := ⟨gb283, 1, none⟩) (Kd.R_far (p := ⟨gb283, 0, none⟩) (Kd.R_types HO281.out BK283.out (by decide)) (fun _ hk => hk.2) (.int .u64 t278)) (fun _ hk => hk.2) (.slice Ao9 t279.length co9)) (fun _ hk => trivial)⟩, ⟨by (with_reducible repeat (first | refine blk_drewN ?_ _ | refine blk_drew ?_ | refine blk_alloc ?_ _)); refine blk_put (cs := #[.int .u64 t278, .slice none 0 0]) ?_ 1 _ rfl; (with_reducible repeat (first | refine blk_drewN ?_ _ | refine blk_drew ?_ | refine blk_alloc ?_ _)); refine blk_put (cs := #[.int .u64 0, .slice none 0 0]) ?_ 0 _ rfl; (with_reducible repeat (first | refine blk_drewN ?_ _ | refine blk_drew ?_ | refine blk_alloc ?_ _)); exact BK283.out⟩, ⟨by repeat (first | (with_reducible first | exact HB.out | apply below_alloc | apply pw_below_drewN | apply below_drew1 | refine below_set ?_ GE283.out) | exact HB.out)⟩⟩
    · rw [if_neg c10] at H
      have c10b0 : decide (1 ≤ a0) = false := decide_eq_false c10
      clear c10
      (first | rw [c10b0] | (simp only [i64_w, i32_w]; rw [c10b0]) | skip)
      by_cases c17 : (false != (t282 == 0)) = true
      · rw [if_pos c17] at H
        have c17b0 : (false != (t282 == 0)) = true := c17
        (try (have c17b1 : decide (false = (t282 == 0)) = false := by simpa using c17))
        (try (have c17b2 : (false == (t282 == 0)) = false := by simpa using c17))
        (try (have c17b3 : ¬ (false = (t282 == 0)) := by simpa using c17))
        clear c17
        have H' := Aside0.mk H
        clear H
        go_wp2
        go_meet
        case rel => exact ⟨_, (true), (by first | rfl | (simp; done) | (simp [*]; done)), H', ⟨by first | omega | exact Nat.le_refl _⟩, ⟨by (with_reducible repeat (first | apply Kd.R_alloc | apply Kd.R_drewN | apply Kd.R_drew)); exact Kd.R_mono (Kd.R_far (p := ⟨gb283, 1, none⟩) (Kd.R_far (p := ⟨gb283, 0, none⟩) (Kd.R_types HO281.out BK283.out (by decide)) (fun _ hk => hk.2) (.int .u64 t278)) (fun _ hk => hk.2) (.slice Ao9 t279.length co9)) (fun _ hk => trivial)⟩, ⟨by (with_reducible repeat (first | refine blk_drewN ?_ _ | refine blk_drew ?_ | refine blk_alloc ?_ _)); refine blk_put (cs := #[.int .u64 t278, .slice none 0 0]) ?_ 1 _ rfl; (with_reducible repeat (first | refine blk_drewN ?_ _ | refine blk_drew ?_ | refine blk_alloc ?_ _)); refine blk_put (cs := #[.int .u64 0, .slice none 0 0]) ?_ 0 _ rfl; (with_reducible repeat (first | refine blk_drewN ?_ _ | refine blk_drew ?_ | refine blk_alloc ?_ _)); exact BK283.out⟩, ⟨by repeat (first | (with_reducible first | exact HB.out | apply below_alloc | apply pw_below_drewN | apply below_drew1 | refine below_set ?_ GE283.out) | exact HB.out)⟩⟩
      · rw [if_neg c17] at H
        have c17b0 : (false != (t282 == 0)) = false := by simpa using c17
        (try (have c17b1 : decide (false = (t282 == 0)) = true := by simpa using c17))
        (try (have c17b2 : (false == (t282 == 0)) = true := by simpa using c17))
        clear c17
        by_cases c18 : t282 = 0
        · rw [if_pos c18] at H
          have c18b0 : (t282 == 0) = true := beq_iff_eq.mpr c18
          have c18b1 : (t282 != 0) = false := bne_eq_false_iff_eq.mpr c18
          exact absurd c17b2 (by rw [c18b0]; decide)
        · rw [if_neg c18] at H
          have c18b0 : (t282 == 0) = false := beq_eq_false_iff_ne.mpr c18
          have c18b1 : (t282 != 0) = true := bne_iff_ne.mpr c18
          by_cases c19 : t282 = 2
          · rw [if_pos c19] at H
            have c19b0 : (t282 == 2) = true := beq_iff_eq.mpr c19
            have c19b1 : (t282 != 2) = false := bne_eq_false_iff_eq.mpr c19
            clear c19
            replace H := Option.bind_eq_some_iff.mp H
            obtain ⟨t285, A200, H⟩ := H
            replace H : (tillrolllaw09_BbtGrows.j0 k a0 l1 a2 (t285 != 0)) = some r := H
            have A20 := Aside0.mk A200
            clear A200
            have H' := Aside0.mk H
            clear H
            have hcz21_0 : w7.cell? ⟨gb283, 0, none⟩ = some (.int .u64 0) := (blk_cell BK283.out 0).trans rfl
            have hcz21_1 : w7.cell? ⟨gb283, 1, none⟩ = some (.slice none 0 0) := (blk_cell BK283.out 1).trans rfl
            have hfz21_0 := blk_frozen BK283.out 0
            have hfz21_1 := blk_frozen BK283.out 1
            go_wp2_with (first | (go_at_call 11; (with_reducible refine (bbt_Table_Blocks.calls t278 _ _ t279 t285 _ ?side1 ?side2 A20.out).mono ?_); (case side1 => refine (Kd.R_reads' (e := 4) (base := w.heap.size) (ok := fun k_ => True) (n := t279.length) (c := co9) ?_).2.2; exact (by (with_reducible repeat (first | apply Kd.R_alloc | apply Kd.R_drewN | apply Kd.R_drew)); exact (Kd.R_mono (Kd.R_far (p := ⟨gb283, 1, none⟩) (Kd.R_far (p := ⟨gb283, 0, none⟩) (Kd.R_types HO281.out BK283.out (by decide)) (fun _ hk => hk.2) (.int .u64 t278)) (fun _ hk => hk.2) (.slice Ao9 t279.length co9)) (fun _ h_ => h_.1)))); (case side2 => exact (Kd.R_reads' HO281.out).2.1); rintro e w22 ⟨rfl, hb⟩; have n0_ := Aside0.mk (Kd.R_below (by (with_reducible repeat (first | apply Kd.R_alloc | apply Kd.R_drewN | apply Kd.R_drew)); exact (Kd.R_mono (Kd.R_far (p := ⟨gb283, 1, none⟩) (Kd.R_far (p := ⟨gb283, 0, none⟩) (Kd.R_types HO281.out BK283.out (by decide)) (fun _ hk => hk.2) (.int .u64 t278)) (fun _ hk => hk.2) (.slice Ao9 t279.length co9)) (fun _ h_ => h_.1))) hb); have n1_ := Aside0.mk (blk_below (g := gb283) (o := .cells #[.int .u64 t278, .slice Ao9 t279.length co9] 26 (0, 0)) (by (with_reducible repeat (first | refine blk_drewN ?_ _ | refine blk_drew ?_ | refine blk_alloc ?_ _)); refine blk_put (cs := #[.int .u64 t278, .slice none 0 0]) ?_ 1 _ rfl; (with_reducible repeat (first | refine blk_drewN ?_ _ | refine blk_drew ?_ | refine blk_alloc ?_ _)); refine blk_put (cs := #[.int .u64 0, .slice none 0 0]) ?_ 0 _ rfl; (with_reducible repeat (first | refine blk_drewN ?_ _ | refine blk_drew ?_ | refine blk_alloc ?_ _)); exact BK283.out) hb); have n2_ := Aside0.mk (below_step (by repeat (first | (with_reducible first | exact HB.out | apply below_alloc | apply pw_below_drewN | apply below_drew1 | refine below_set ?_ GE283.out) | exact HB.out)) hb); clear HO281; clear BK283; clear HB; have HO281 := n0_; have BK283 := n1_; have HB := n2_; clear n0_ n1_ n2_; (try clear hb); (try clear hb2); (try clear hk); (try clear hi)))
            go_meet
            case rel => exact ⟨_, ((t285 != 0)), (by first | rfl | (simp; done) | (simp [*]; done)), H', ⟨by first | omega | exact Nat.le_refl _⟩, ⟨by (with_reducible repeat (first | apply Kd.R_alloc | apply Kd.R_drewN | apply Kd.R_drew)); exact HO281.out⟩, ⟨by (with_reducible repeat (first | refine blk_drewN ?_ _ | refine blk_drew ?_ | refine blk_alloc ?_ _)); exact BK283.out⟩, ⟨by repeat (first | (with_reducible first | exact HB.out | apply below_alloc | apply pw_below_drewN | apply below_drew1 | refine below_set ?_ GE283.out) | exact HB.out)⟩⟩
          · rw [if_neg c19] at H
            have c19b0 : (t282 == 2) = false := beq_eq_false_iff_ne.mpr c19
            have c19b1 : (t282 != 2) = true := bne_iff_ne.mpr c19
            have H' := Aside0.mk H
            clear H
            go_wp2
            go_meet
            case rel => exact ⟨_, (true), (by first | rfl | (simp; done) | (simp [*]; done)), H', ⟨by first | omega | exact Nat.le_refl _⟩, ⟨by (with_reducible repeat (first | apply Kd.R_alloc | apply Kd.R_drewN | apply Kd.R_drew)); exact Kd.R_mono (Kd.R_far (p := ⟨gb283, 1, none⟩) (Kd.R_far (p := ⟨gb283, 0, none⟩) (Kd.R_types HO281.out BK283.out (by decide)) (fun _ hk => hk.2) (.int .u64 t278)) (fun _ hk => hk.2) (.slice Ao9 t279.length co9)) (fun _ hk => trivial)⟩, ⟨by (with_reducible repeat (first | refine blk_drewN ?_ _ | refine blk_drew ?_ | refine blk_alloc ?_ _)); refine blk_put (cs := #[.int .u64 t278, .slice none 0 0]) ?_ 1 _ rfl; (with_reducible repeat (first | refine blk_drewN ?_ _ | refine blk_drew ?_ | refine blk_alloc ?_ _)); refine blk_put (cs := #[.int .u64 0, .slice none 0 0]) ?_ 0 _ rfl; (with_reducible repeat (first | refine blk_drewN ?_ _ | refine blk_drew ?_ | refine blk_alloc ?_ _)); exact BK283.out⟩, ⟨by repeat (first | (with_reducible first | exact HB.out | apply below_alloc | apply pw_below_drewN | apply below_drew1 | refine below_set ?_ GE283.out) | exact HB.out)⟩⟩
  case rest =>
    clear HC5
    try clear c1
    try clear p2
    try clear c4
    try clear c6
    try clear c10
    try clear c10b0
    try clear c11
    try clear c11b0
    try clear c11b1
    try clear c11b2
    try clear c12
    try clear c12b0
    try clear c12b1
    try clear c13
    try clear c13b0
    try clear c13b1
    try clear c17
    try clear c17b0
    try clear c17b1
    try clear c17b2
    try clear c18
    try clear c18b0
    try clear c18b1
    try clear c19
    try clear c19b0
    try clear c19b1
    try clear hcz15_0
    try clear hcz15_1
    try clear hcz21_0
    try clear hcz21_1
    try clear hcz8_0
    try clear hcz8_1
    try clear hfz15_0
    try clear hfz15_1
    try clear hfz21_0
    try clear hfz21_1
    try clear hfz8_0
    try clear hfz8_1
    obtain ⟨kq, x50_4, rfl, HA, HJ4, HO_284001, BK283, HB⟩ := hcut
    cases kq with
    | zero => exact absurd HA.out (by simp [tillrolllaw09_BbtGrows.j0])
    | succ kj4 =>
      have H := HA.out
      clear HA
      simp only [tillrolllaw09_BbtGrows.j0] at H
      by_cases c23 : x50_4 = true
      · subst c23
        have H1 : (some false) = some r := by rw [if_pos rfl] at H; exact H
        clear H
        have H := H1
        clear H1
        obtain rfl := Option.some.inj H
        go_wp2
        go_ret
        exact ⟨by first | rfl | (simp [errW_none, errW_some] <;> rfl) | (simp [*, errW_none, errW_some] <;> rfl), by repeat (first | (with_reducible first | exact HB.out | apply below_alloc | apply pw_below_drewN | apply below_drew1 | refine below_set ?_ GE283.out) | exact HB.out)⟩
      · replace c23 := Bool.eq_false_iff.mpr c23
        subst c23
        have H1 : ((bbt_New.f (1 + ((mx 0 a0) % 256))).bind fun bt286 => (if 0 ≤ (1 + ((mx 0 a0) % 256)) then (if (1 + ((mx 0 a0) % 256) : Int).toNat ≤ 281474976710656 then ((some (List.replicate (1 + ((mx 0 a0) % 256) : Int).toNat false : List Bool)).bind fun y292 => ((tillrolllaw09_wakes.f kj4).bind fun t295 => (if t295 = true then (if bt286.2.2 = 0 then ((tillrolllaw09_same.f kj4 bt286.1 bt286.2.1 0 y292).bind fun t296 => (tillrolllaw09_BbtGrows.j1 kj4 l1 a2 (1 + ((mx 0 a0) % 256)) y292 0 (!t296) bt286.1 bt286.2.1)) else (tillrolllaw09_BbtGrows.j1 kj4 l1 a2 (1 + ((mx 0 a0) % 256)) y292 0 true bt286.1 bt286.2.1)) else (tillrolllaw09_BbtGrows.j1 kj4 l1 a2 (1 + ((mx 0 a0) % 256)) y292 0 true bt286.1 bt286.2.1)))) else (none)) else (none))) = some r := by rw [if_neg (show ¬ (false = true) by decide)] at H; exact H
        clear H
        have H := H1
        clear H1
        obtain ⟨ji24, hji24⟩ : ∃ j_ : Int, (mx 0 a0) = j_ := ⟨_, rfl⟩
        replace H : ((bbt_New.f (1 + ((ji24) % 256))).bind fun bt286 => (if 0 ≤ (1 + ((ji24) % 256)) then (if (1 + ((ji24) % 256) : Int).toNat ≤ 281474976710656 then ((some (List.replicate (1 + ((ji24) % 256) : Int).toNat false : List Bool)).bind fun y292 => ((tillrolllaw09_wakes.f kj4).bind fun t295 => (if t295 = true then (if bt286.2.2 = 0 then ((tillrolllaw09_same.f kj4 bt286.1 bt286.2.1 0 y292).bind fun t296 => (tillrolllaw09_BbtGrows.j1 kj4 l1 a2 (1 + ((ji24) % 256)) y292 0 (!t296) bt286.1 bt286.2.1)) else (tillrolllaw09_BbtGrows.j1 kj4 l1 a2 (1 + ((ji24) % 256)) y292 0 true bt286.1 bt286.2.1)) else (tillrolllaw09_BbtGrows.j1 kj4 l1 a2 (1 + ((ji24) % 256)) y292 0 true bt286.1 bt286.2.1)))) else (none)) else (none))) = some r := by first | (rw [hji24] at H; exact H) | (simp only [hji24] at H ⊢; exact H)
        have hji24_ : (if 0 < a0 then a0 else 0) = ji24 := hji24
        replace H := Option.bind_eq_some_iff.mp H
        obtain ⟨⟨t286, t287, t290⟩, A250, H⟩ := H
        replace H : (if 0 ≤ (1 + ((ji24) % 256)) then (if (1 + ((ji24) % 256) : Int).toNat ≤ 281474976710656 then ((some (List.replicate (1 + ((ji24) % 256) : Int).toNat false : List Bool)).bind fun y292 => ((tillrolllaw09_wakes.f kj4).bind fun t295 => (if t295 = true then (if t290 = 0 then ((tillrolllaw09_same.f kj4 t286 t287 0 y292).bind fun t296 => (tillrolllaw09_BbtGrows.j1 kj4 l1 a2 (1 + ((ji24) % 256)) y292 0 (!t296) t286 t287)) else (tillrolllaw09_BbtGrows.j1 kj4 l1 a2 (1 + ((ji24) % 256)) y292 0 true t286 t287)) else (tillrolllaw09_BbtGrows.j1 kj4 l1 a2 (1 + ((ji24) % 256)) y292 0 true t286 t287)))) else (none)) else (none)) = some r := H
        have A25 := Aside0.mk A250
        clear A250
        obtain ⟨ji26, hji26⟩ : ∃ j_ : Int, (1 + ((ji24) % 256)) = j_ := ⟨_, rfl⟩
        replace H : (if 0 ≤ (ji26) then (if (ji26 : Int).toNat ≤ 281474976710656 then ((some (List.replicate (ji26 : Int).toNat false : List Bool)).bind fun y292 => ((tillrolllaw09_wakes.f kj4).bind fun t295 => (if t295 = true then (if t290 = 0 then ((tillrolllaw09_same.f kj4 t286 t287 0 y292).bind fun t296 => (tillrolllaw09_BbtGrows.j1 kj4 l1 a2 ji26 y292 0 (!t296) t286 t287)) else (tillrolllaw09_BbtGrows.j1 kj4 l1 a2 ji26 y292 0 true t286 t287)) else (tillrolllaw09_BbtGrows.j1 kj4 l1 a2 ji26 y292 0 true t286 t287)))) else (none)) else (none)) = some r := by first | (rw [hji26] at H; exact H) | (simp only [hji26] at H ⊢; exact H)
        (try rw [hji26] at A25)
        by_cases c27 : 0 ≤ (ji26)
        · rw [if_pos c27] at H
          have c27b0 := eq_true c27
          have c27b1 : decide (0 ≤ (ji26)) = true := decide_eq_true c27
          clear c27
          by_cases c28 : (ji26 : Int).toNat ≤ 281474976710656
          · rw [if_pos c28] at H
            have c28b0 := eq_true c28
            have c28b1 : decide ((ji26 : Int).toNat ≤ 281474976710656) = true := decide_eq_true c28
            clear c28
            obtain ⟨y292, hy292⟩ : ∃ y_ : List Bool, y_ = (List.replicate (ji26 : Int).toNat false) := ⟨_, rfl⟩
            replace H : ((tillrolllaw09_wakes.f kj4).bind fun t295 => (if t295 = true then (if t290 = 0 then ((tillrolllaw09_same.f kj4 t286 t287 0 y292).bind fun t296 => (tillrolllaw09_BbtGrows.j1 kj4 l1 a2 ji26 y292 0 (!t296) t286 t287)) else (tillrolllaw09_BbtGrows.j1 kj4 l1 a2 ji26 y292 0 true t286 t287)) else (tillrolllaw09_BbtGrows.j1 kj4 l1 a2 ji26 y292 0 true t286 t287))) = some r := by first | (rw [hy292]; with_reducible exact H) | (have H2_ := (Option.bind_some _ _).symm.trans H; rw [hy292]; with_reducible exact H2_) | (have H2_ := (Option.bind_some _ _).symm.trans H; with_reducible exact H2_) | with_reducible exact H | (rw [hy292]; exact H) | exact H
            have Ny292 := Aside0.mk hy292
            clear hy292
            have HC29 := Aside0.mk H
            clear H
            go_upto_region 8 with (first | ((with_reducible refine gate_callee (f := 6) rfl ?_); refine goesL_ (some 57) rfl rfl Try.func6 (by kernel_rfl) rfl #[.int .i64 ji26] rfl (by (try simp only [List.map_toArray, List.map_cons, List.map_nil]); first | done | (simp only [hji26]; rfl) | rfl | (simp only [List.length_drop, List.length_take]; rfl) | (simp only [ByteArray.size_append]; rfl) | (simp only [ByteArray.size_extract]; rfl)) ?_; (with_reducible refine (bbt_New.calls ji26 t286 t287 t290 _ A25.out).mono ?_); rintro e w30 ⟨v288, rfl, ho0, hb⟩; refine ⟨_, rfl, ?_⟩; have n0_ := Aside0.mk (Kd.R_elder' (by (with_reducible repeat (first | apply Kd.R_alloc | apply Kd.R_drewN | apply Kd.R_drew)); exact HO_284001.out) (Kd.R_base ho0) hb); have n1_ := Aside0.mk (Kd.R_lower (Kd.R_new' ho0 (Kd.R_lt (by (with_reducible repeat (first | apply Kd.R_alloc | apply Kd.R_drewN | apply Kd.R_drew)); exact HO_284001.out))) (below_size (by repeat (first | (with_reducible first | exact HB.out | apply below_alloc | apply pw_below_drewN | apply below_drew1 | refine below_set ?_ GE283.out) | exact HB.out)))); have n2_ := Aside0.mk (blk_below (g := gb283) (o := .cells #[.int .u64 t278, .slice Ao9 t279.length co9] 26 (0, 0)) (by (with_reducible repeat (first | refine blk_drewN ?_ _ | refine blk_drew ?_ | refine blk_alloc ?_ _)); exact BK283.out) hb); have n3_ := Aside0.mk (below_step (by repeat (first | (with_reducible first | exact HB.out | apply below_alloc | apply pw_below_drewN | apply below_drew1 | refine below_set ?_ GE283.out) | exact HB.out)) hb); clear HO_284001; clear BK283; clear HB; have HO_284001 := n0_; have HO289 := n1_; have BK283 := n2_; have HB := n3_; clear n0_ n1_ n2_ n3_; (try clear hb); (try clear hb2); (try clear hk); (try clear hi); (try clear ho0)) | ((with_reducible refine gate_dst (N := 10) rfl ?_); refine box_event ?hg (N := 10) ?hd (cs := #[.int .u64 0, .slice none 0 0]) (t := 26) ?hr ?_; (case hd => rfl); (case hg => rfl); (case hr => first | (go_simp; done) | (go_simp; rfl)); intro gb291 hg w31 hbox hb; have n0_ := Aside0.mk (Kd.R_below (by (with_reducible repeat (first | apply Kd.R_alloc | apply Kd.R_drewN | apply Kd.R_drew)); exact HO_284001.out) hb); have n1_ := Aside0.mk (Kd.R_below (by (with_reducible repeat (first | apply Kd.R_alloc | apply Kd.R_drewN | apply Kd.R_drew)); exact HO289.out) hb); have n2_ := Aside0.mk (blk_below (g := gb283) (o := .cells #[.int .u64 t278, .slice Ao9 t279.length co9] 26 (0, 0)) (by (with_reducible repeat (first | refine blk_drewN ?_ _ | refine blk_drew ?_ | refine blk_alloc ?_ _)); exact BK283.out) hb); have n3_ := Aside0.mk (below_step (by repeat (first | (with_reducible first | exact HB.out | apply below_alloc | apply pw_below_drewN | apply below_drew1 | refine below_set ?_ GE283.out) | exact HB.out)) hb); have n4_ := Aside0.mk (hbox); have n5_ := Aside0.mk ((by rw [hg]; exact (below_size (by repeat (first | (with_reducible first | exact HB.out | apply below_alloc | apply pw_below_drewN | apply below_drew1 | refine below_set ?_ GE283.out) | exact HB.out))) : w.heap.size ≤ gb291)); have n6_ := Aside0.mk ((by rw [hg]; exact (below_size (by repeat (first | (with_reducible first | exact HB.out | apply below_alloc | apply pw_below_drewN | apply below_drew1 | refine below_set ?_ GE283.out) | exact HB.out))) : w.heap.size ≤ gb291)); have n7_ := Aside0.mk ((by rw [hg]; exact Nat.ne_of_lt (blk_lt (g := gb283) (o := .cells #[.int .u64 t278, .slice Ao9 t279.length co9] 26 (0, 0)) (by (with_reducible repeat (first | refine blk_drewN ?_ _ | refine blk_drew ?_ | refine blk_alloc ?_ _)); exact BK283.out)) : gb283 ≠ gb291)); have n8_ := Aside0.mk ((by rw [hg]; exact Nat.ne_of_gt (blk_lt (g := gb283) (o := .cells #[.int .u64 t278, .slice Ao9 t279.length co9] 26 (0, 0)) (by (with_reducible repeat (first | refine blk_drewN ?_ _ | refine blk_drew ?_ | refine blk_alloc ?_ _)); exact BK283.out)) : gb291 ≠ gb283)); clear HO_284001; clear HO289; clear BK283; clear HB; have HO_284001 := n0_; have HO289 := n1_; have BK283 := n2_; have HB := n3_; have BK291 := n4_; have GW291 := n5_; have GE291 := n6_; have NB283_291 := n7_; have NB291_283 := n8_; clear n0_ n1_ n2_ n3_ n4_ n5_ n6_ n7_ n8_; clear hb hbox hg; have hnb32 := NB291_283.out; have hnc32 := NB283_291.out; have hcz33_0 : w31.cell? ⟨gb291, 0, none⟩ = some (.int .u64 0) := (blk_cell BK291.out 0).trans rfl; have hcz33_1 : w31.cell? ⟨gb291, 1, none⟩ = some (.slice none 0 0) := (blk_cell BK291.out 1).trans rfl; have hfz33_0 := blk_frozen BK291.out 0; have hfz33_1 := blk_frozen BK291.out 1; obtain ⟨Ao34, co34, eo34⟩ := Kd.R_slice HO289.out; subst eo34) | ((with_reducible refine gate_dst (N := 61) rfl ?_); refine Kd.R_make Kd.bool _ 4 rfl (N := 61) rfl 24 _ _ rfl ji26 rfl rfl Try.underlying24 (.bool false) 1 info4 rfl (by decide) (by omega) false (ok := fun _ => True) (okp := fun _ => True) rfl (fun _ hk => hk) trivial (of_decide_eq_true (by first | (with_reducible assumption) | assumption)) (Nat.le_trans (Nat.mul_le_mul_right _ (of_decide_eq_true (by first | (with_reducible assumption) | assumption) : ji26.toNat ≤ 281474976710656)) (by omega)) (Below.refl _ _) (Nat.le_refl _) ?_; intro v293 w35 ho36 hb hg_ hnew_; clear hg_ hnew_; (first | rw [← Ny292.out] at ho36 | (simp only [Int.reduceToNat] at ho36; rw [← Ny292.out] at ho36)); have n0_ := Aside0.mk (Kd.R_elder' (by (with_reducible repeat (first | apply Kd.R_alloc | apply Kd.R_drewN | apply Kd.R_drew)); exact (Kd.R_mono (Kd.R_far (p := ⟨gb291, 1, none⟩) (Kd.R_far (p := ⟨gb291, 0, none⟩) (Kd.R_types HO_284001.out BK291.out (by decide)) (fun _ hk => hk.2) (.int .u64 t286)) (fun _ hk => hk.2) (.slice Ao34 t287.length co34)) (fun _ h_ => h_.1))) (Kd.R_base ho36) hb); have n1_ := Aside0.mk (Kd.R_elder' (by (with_reducible repeat (first | apply Kd.R_alloc | apply Kd.R_drewN | apply Kd.R_drew)); exact (Kd.R_mono (Kd.R_far (p := ⟨gb291, 1, none⟩) (Kd.R_far (p := ⟨gb291, 0, none⟩) (Kd.R_types HO289.out BK291.out (by decide)) (fun _ hk => hk.2) (.int .u64 t286)) (fun _ hk => hk.2) (.slice Ao34 t287.length co34)) (fun _ h_ => h_.1))) (Kd.R_base ho36) hb); have n2_ := Aside0.mk (Kd.R_lower (Kd.R_new' (Kd.R_new' ho36 (Kd.R_lt (by (with_reducible repeat (first | apply Kd.R_alloc | apply Kd.R_drewN | apply Kd.R_drew)); exact (Kd.R_mono (Kd.R_far (p := ⟨gb291, 1, none⟩) (Kd.R_far (p := ⟨gb291, 0, none⟩) (Kd.R_types HO_284001.out BK291.out (by decide)) (fun _ hk => hk.2) (.int .u64 t286)) (fun _ hk => hk.2) (.slice Ao34 t287.length co34)) (fun _ h_ => h_.1))))) (Kd.R_lt (by (with_reducible repeat (first | apply Kd.R_alloc | apply Kd.R_drewN | apply Kd.R_drew)); exact (Kd.R_mono (Kd.R_far (p := ⟨gb291, 1, none⟩) (Kd.R_far (p := ⟨gb291, 0, none⟩) (Kd.R_types HO289.out BK291.out (by decide)) (fun _ hk => hk.2) (.int .u64 t286)) (fun _ hk => hk.2) (.slice Ao34 t287.length co34)) (fun _ h_ => h_.1))))) (below_size (by repeat (first | (with_reducible first | exact HB.out | apply below_alloc | apply pw_below_drewN | apply below_drew1 | refine below_set ?_ GE283.out | refine below_set ?_ GE291.out) | exact HB.out)))); have n3_ := Aside0.mk (blk_below (g := gb283) (o := .cells #[.int .u64 t278, .slice Ao9 t279.length co9] 26 (0, 0)) (by (with_reducible repeat (first | refine blk_drewN ?_ _ | refine blk_drew ?_ | refine blk_alloc ?_ _)); refine blk_far ?_ NB283_291.out _; (with_reducible repeat (first | refine blk_drewN ?_ _ | refine blk_drew ?_ | refine blk_alloc ?_ _)); refine blk_far ?_ NB283_291.out _; (with_reducible repeat (first | refine blk_drewN ?_ _ | refine blk_drew ?_ | refine blk_alloc ?_ _)); exact BK283.out) hb); have n4_ := Aside0.mk (blk_below (g := gb291) (o := .cells #[.int .u64 t286, .slice Ao34 t287.length co34] 26 (0, 0)) (by (with_reducible repeat (first | refine blk_drewN ?_ _ | refine blk_drew ?_ | refine blk_alloc ?_ _)); refine blk_put (cs := #[.int .u64 t286, .slice none 0 0]) ?_ 1 _ rfl; (with_reducible repeat (first | refine blk_drewN ?_ _ | refine blk_drew ?_ | refine blk_alloc ?_ _)); refine blk_put (cs := #[.int .u64 0, .slice none 0 0]) ?_ 0 _ rfl; (with_reducible repeat (first | refine blk_drewN ?_ _ | refine blk_drew ?_ | refine blk_alloc ?_ _)); exact BK291.out) hb); have n5_ := Aside0.mk (below_step (by repeat (first | (with_reducible first | exact HB.out | apply below_alloc | apply pw_below_drewN | apply below_drew1 | refine below_set ?_ GE283.out | refine below_set ?_ GE291.out) | exact HB.out)) hb); clear HO_284001; clear HO289; clear BK283; clear BK291; clear HB; have HO_284001 := n0_; have HO289 := n1_; have HO294 := n2_; have BK283 := n3_; have BK291 := n4_; have HB := n5_; clear n0_ n1_ n2_ n3_ n4_ n5_; clear hb ho36))
            (try simp only [Act.put, List.setIfInBounds_toArray, List.set_cons_zero, List.set_cons_succ])
            go_cut [73] (fun v73 wc => ∃ (kq : Nat) (x73_28 : Bool), v73 = .bool x73_28 ∧ Aside0 (tillrolllaw09_BbtGrows.j1 kq l1 a2 ji26 y292 0 x73_28 t286 t287 = some r) ∧ Aside0 (kq ≤ kj4) ∧ Aside0 (Kd.R Kd.bool 4 wc w.heap.size (fun k_ => some k_ ≠ ((.slice Ao9 t279.length co9) : Value).ownBlock ∧ some k_ ≠ ((.slice Ao34 t287.length co34) : Value).ownBlock) v293 y292) ∧ Aside0 (Kd.R Kd.bool 4 wc w.heap.size (fun k_ => some k_ ≠ (v293 : Value).ownBlock ∧ some k_ ≠ ((.slice Ao34 t287.length co34) : Value).ownBlock) (.slice Ao9 t279.length co9) t279) ∧ Aside0 (Kd.R Kd.bool 4 wc w.heap.size (fun k_ => some k_ ≠ (v293 : Value).ownBlock ∧ some k_ ≠ ((.slice Ao9 t279.length co9) : Value).ownBlock) (.slice Ao34 t287.length co34) t287) ∧ Aside0 (wc.heap[gb283]? = some (.cells #[.int .u64 t278, (.slice Ao9 t279.length co9)] 26 (0, 0))) ∧ Aside0 (wc.heap[gb291]? = some (.cells #[.int .u64 t286, (.slice Ao34 t287.length co34)] 26 (0, 0))) ∧ Aside0 (Below w.heap.size w wc))
            case first =>
              have H := HC29.out
              clear HC29
              replace H := Option.bind_eq_some_iff.mp H
              obtain ⟨t295, A370, H⟩ := H
              replace H : (if t295 = true then (if t290 = 0 then ((tillrolllaw09_same.f kj4 t286 t287 0 y292).bind fun t296 => (tillrolllaw09_BbtGrows.j1 kj4 l1 a2 ji26 y292 0 (!t296) t286 t287)) else (tillrolllaw09_BbtGrows.j1 kj4 l1 a2 ji26 y292 0 true t286 t287)) else (tillrolllaw09_BbtGrows.j1 kj4 l1 a2 ji26 y292 0 true t286 t287)) = some r := H
              have A37 := Aside0.mk A370
              clear A370
              by_cases c38 : t295 = true
              · subst c38
                have H1 : (if t290 = 0 then ((tillrolllaw09_same.f kj4 t286 t287 0 y292).bind fun t296 => (tillrolllaw09_BbtGrows.j1 kj4 l1 a2 ji26 y292 0 (!t296) t286 t287)) else (tillrolllaw09_BbtGrows.j1 kj4 l1 a2 ji26 y292 0 true t286 t287)) = some r := by rw [if_pos rfl] at H; exact H
                clear H
                have H := H1
                clear H1
                by_cases c39 : t290 = 0
                · rw [if_pos c39] at H
                  have c39b0 : (t290 == 0) = true := beq_iff_eq.mpr c39
                  have c39b1 : (t290 != 0) = false := bne_eq_false_iff_eq.mpr c39
                  clear c39
                  (first | rw [c39b0] | (simp only [i64_w, i32_w]; rw [c39b0]) | skip)
                  replace H := Option.bind_eq_some_iff.mp H
                  obtain ⟨t296, A400, H⟩ := H
                  replace H : (tillrolllaw09_BbtGrows.j1 kj4 l1 a2 ji26 y292 0 (!t296) t286 t287) = some r := H
                  have A40 := Aside0.mk A400
                  clear A400
                  have H' := Aside0.mk H
                  clear H
                  go_wp2_with (first | ((with_reducible refine gate_callee (f := 7) rfl ?_); refine goesL_ (some 62) rfl rfl Try.func7 (by kernel_rfl) rfl #[] rfl (by (try simp only [List.map_toArray, List.map_cons, List.map_nil]); first | done | rfl | (simp only [List.length_drop, List.length_take]; rfl) | (simp only [ByteArray.size_append]; rfl) | (simp only [ByteArray.size_extract]; rfl)) ?_; (with_reducible refine (tillrolllaw09_wakes.calls kj4  true _ A37.out).mono ?_); rintro e w41 ⟨rfl, hb⟩; refine ⟨_, rfl, ?_⟩; have n0_ := Aside0.mk (Kd.R_below (by (with_reducible repeat (first | apply Kd.R_alloc | apply Kd.R_drewN | apply Kd.R_drew)); exact HO_284001.out) hb); have n1_ := Aside0.mk (Kd.R_below (by (with_reducible repeat (first | apply Kd.R_alloc | apply Kd.R_drewN | apply Kd.R_drew)); exact HO289.out) hb); have n2_ := Aside0.mk (Kd.R_below (by (with_reducible repeat (first | apply Kd.R_alloc | apply Kd.R_drewN | apply Kd.R_drew)); exact HO294.out) hb); have n3_ := Aside0.mk (blk_below (g := gb283) (o := .cells #[.int .u64 t278, .slice Ao9 t279.length co9] 26 (0, 0)) (by (with_reducible repeat (first | refine blk_drewN ?_ _ | refine blk_drew ?_ | refine blk_alloc ?_ _)); exact BK283.out) hb); have n4_ := Aside0.mk (blk_below (g := gb291) (o := .cells #[.int .u64 t286, .slice Ao34 t287.length co34] 26 (0, 0)) (by (with_reducible repeat (first | refine blk_drewN ?_ _ | refine blk_drew ?_ | refine blk_alloc ?_ _)); exact BK291.out) hb); have n5_ := Aside0.mk (below_step (by repeat (first | (with_reducible first | exact HB.out | apply below_alloc | apply pw_below_drewN | apply below_drew1 | refine below_set ?_ GE283.out | refine below_set ?_ GE291.out) | exact HB.out)) hb); clear HO_284001; clear HO289; clear HO294; clear BK283; clear BK291; clear HB; have HO_284001 := n0_; have HO289 := n1_; have HO294 := n2_; have BK283 := n3_; have BK291 := n4_; have HB := n5_; clear n0_ n1_ n2_ n3_ n4_ n5_; (try clear hb); (try clear hb2); (try clear hk); (try clear hi); have hnb42 := NB291_283.out; have hnc42 := NB283_291.out; have hcz43_0 : w41.cell? ⟨gb291, 0, none⟩ = some (.int .u64 t286) := (blk_cell BK291.out 0).trans rfl; have hcz43_1 : w41.cell? ⟨gb291, 1, none⟩ = some (.slice Ao34 t287.length co34) := (blk_cell BK291.out 1).trans rfl; have hfz43_0 := blk_frozen BK291.out 0; have hfz43_1 := blk_frozen BK291.out 1; obtain ⟨Ao44, co44, eo44⟩ := Kd.R_slice HO294.out; subst eo44) | (go_at_call 12; (with_reducible refine (tillrolllaw09_same.calls kj4 t286 _ _ t287 0 _ _ y292 t296 _ ?side1 ?side2 ?side3 ?side4 A40.out).mono ?_); (case side1 => repeat (first | exact (Kd.R_reads' HO289.out).2.2 | (with_reducible refine Kd.C_alloc ?_ _) | (with_reducible refine Kd.C_drewN ?_ _) | (with_reducible refine Kd.C_drew ?_))); (case side2 => exact (Kd.R_reads' HO289.out).2.1); (case side3 => repeat (first | exact (Kd.R_reads' HO294.out).2.2 | (with_reducible refine Kd.C_alloc ?_ _) | (with_reducible refine Kd.C_drewN ?_ _) | (with_reducible refine Kd.C_drew ?_))); (case side4 => exact (Kd.R_reads' HO294.out).2.1); rintro e w45 ⟨rfl, hb⟩; have n0_ := Aside0.mk (Kd.R_below (by (with_reducible repeat (first | apply Kd.R_alloc | apply Kd.R_drewN | apply Kd.R_drew)); exact HO_284001.out) hb); have n1_ := Aside0.mk (Kd.R_below (by (with_reducible repeat (first | apply Kd.R_alloc | apply Kd.R_drewN | apply Kd.R_drew)); exact HO289.out) hb); have n2_ := Aside0.mk (Kd.R_below (by (with_reducible repeat (first | apply Kd.R_alloc | apply Kd.R_drewN | apply Kd.R_drew)); exact HO294.out) hb); have n3_ := Aside0.mk (blk_below (g := gb283) (o := .cells #[.int .u64 t278, .slice Ao9 t279.length co9] 26 (0, 0)) (by (with_reducible repeat (first | refine blk_drewN ?_ _ | refine blk_drew ?_ | refine blk_alloc ?_ _)); exact BK283.out) hb); have n4_ := Aside0.mk (blk_below (g := gb291) (o := .cells #[.int .u64 t286, .slice Ao34 t287.length co34] 26 (0, 0)) (by (with_reducible repeat (first | refine blk_drewN ?_ _ | refine blk_drew ?_ | refine blk_alloc ?_ _)); exact BK291.out) hb); have n5_ := Aside0.mk (below_step (by repeat (first | (with_reducible first | exact HB.out | apply below_alloc | apply pw_below_drewN | apply below_drew1 | refine below_set ?_ GE283.out | refine below_set ?_ GE291.out) | exact HB.out)) hb); clear HO_284001; clear HO289; clear HO294; clear BK283; clear BK291; clear HB; have HO_284001 := n0_; have HO289 := n1_; have HO294 := n2_; have BK283 := n3_; have BK291 := n4_; have HB := n5_; clear n0_ n1_ n2_ n3_ n4_ n5_; (try clear hb); (try clear hb2); (try clear hk); (try clear hi)))
                  go_meet
                  case rel => exact ⟨_, (!t296), (by first | rfl | (simp; done) | (simp [*]; done)), H', ⟨by have := HJ4.out; first | omega | exact Nat.le_refl _⟩, ⟨by (with_reducible repeat (first | apply Kd.R_alloc | apply Kd.R_drewN | apply Kd.R_drew)); exact Kd.R_mono HO294.out (fun _ hk => ⟨hk.1.2, hk.2⟩)⟩, ⟨by (with_reducible repeat (first | apply Kd.R_alloc | apply Kd.R_drewN | apply Kd.R_drew)); exact Kd.R_mono HO_284001.out (fun _ hk => ⟨hk.2, hk.1.2⟩)⟩, ⟨by (with_reducible repeat (first | apply Kd.R_alloc | apply Kd.R_drewN | apply Kd.R_drew)); exact Kd.R_mono HO289.out (fun _ hk => ⟨hk.2, hk.1.2⟩)⟩, ⟨by (with_reducible repeat (first | refine blk_drewN ?_ _ | refine blk_drew ?_ | refine blk_alloc ?_ _)); exact BK283.out⟩, ⟨by (with_reducible repeat (first | refine blk_drewN ?_ _ | refine blk_drew ?_ | refine blk_alloc ?_ _)); exact BK291.out⟩, ⟨by repeat (first | (with_reducible first | exact HB.out | apply below_alloc | apply pw_below_drewN | apply below_drew1 | refine below_set ?_ GE283.out | refine below_set ?_ GE291.out) | exact HB.out)⟩⟩
                · rw [if_neg c39] at H
                  have c39b0 : (t290 == 0) = false := beq_eq_false_iff_ne.mpr c39
                  have c39b1 : (t290 != 0) = true := bne_iff_ne.mpr c39
                  (first | rw [c39b0] | (simp only [i64_w, i32_w]; rw [c39b0]) | skip)
                  have H' := Aside0.mk H
                  clear H
                  go_wp2_with (first | ((with_reducible refine gate_callee (f := 7) rfl ?_); refine goesL_ (some 62) rfl rfl Try.func7 (by kernel_rfl) rfl #[] rfl (by (try simp only [List.map_toArray, List.map_cons, List.map_nil]); first | done | rfl | (simp only [List.length_drop, List.length_take]; rfl) | (simp only [ByteArray.size_append]; rfl) | (simp only [ByteArray.size_extract]; rfl)) ?_; (with_reducible refine (tillrolllaw09_wakes.calls kj4  true _ A37.out).mono ?_); rintro e w46 ⟨rfl, hb⟩; refine ⟨_, rfl, ?_⟩; have n0_ := Aside0.mk (Kd.R_below (by (with_reducible repeat (first | apply Kd.R_alloc | apply Kd.R_drewN | apply Kd.R_drew)); exact HO_284001.out) hb); have n1_ := Aside0.mk (Kd.R_below (by (with_reducible repeat (first | apply Kd.R_alloc | apply Kd.R_drewN | apply Kd.R_drew)); exact HO289.out) hb); have n2_ := Aside0.mk (Kd.R_below (by (with_reducible repeat (first | apply Kd.R_alloc | apply Kd.R_drewN | apply Kd.R_drew)); exact HO294.out) hb); have n3_ := Aside0.mk (blk_below (g := gb283) (o := .cells #[.int .u64 t278, .slice Ao9 t279.length co9] 26 (0, 0)) (by (with_reducible repeat (first | refine blk_drewN ?_ _ | refine blk_drew ?_ | refine blk_alloc ?_ _)); exact BK283.out) hb); have n4_ := Aside0.mk (blk_below (g := gb291) (o := .cells #[.int .u64 t286, .slice Ao34 t287.length co34] 26 (0, 0)) (by (with_reducible repeat (first | refine blk_drewN ?_ _ | refine blk_drew ?_ | refine blk_alloc ?_ _)); exact BK291.out) hb); have n5_ := Aside0.mk (below_step (by repeat (first | (with_reducible first | exact HB.out | apply below_alloc | apply pw_below_drewN | apply below_drew1 | refine below_set ?_ GE283.out | refine below_set ?_ GE291.out) | exact HB.out)) hb); clear HO_284001; clear HO289; clear HO294; clear BK283; clear BK291; clear HB; have HO_284001 := n0_; have HO289 := n1_; have HO294 := n2_; have BK283 := n3_; have BK291 := n4_; have HB := n5_; clear n0_ n1_ n2_ n3_ n4_ n5_; (try clear hb); (try clear hb2); (try clear hk); (try clear hi)))
                  go_meet
                  case rel => exact ⟨_, (true), (by first | rfl | (simp; done) | (simp [*]; done)), H', ⟨by have := HJ4.out; first | omega | exact Nat.le_refl _⟩, ⟨by (with_reducible repeat (first | apply Kd.R_alloc | apply Kd.R_drewN | apply Kd.R_drew)); exact Kd.R_mono HO294.out (fun _ hk => ⟨hk.1.2, hk.2⟩)⟩, ⟨by (with_reducible repeat (first | apply Kd.R_alloc | apply Kd.R_drewN | apply Kd.R_drew)); exact Kd.R_mono HO_284001.out (fun _ hk => ⟨hk.2, hk.1.2⟩)⟩, ⟨by (with_reducible repeat (first | apply Kd.R_alloc | apply Kd.R_drewN | apply Kd.R_drew)); exact Kd.R_mono HO289.out (fun _ hk => ⟨hk.2, hk.1.2⟩)⟩, ⟨by (with_reducible repeat (first | refine blk_drewN ?_ _ | refine blk_drew ?_ | refine blk_alloc ?_ _)); exact BK283.out⟩, ⟨by (with_reducible repeat (first | refine blk_drewN ?_ _ | refine blk_drew ?_ | refine blk_alloc ?_ _)); exact BK291.out⟩, ⟨by repeat (first | (with_reducible first | exact HB.out | apply below_alloc | apply pw_below_drewN | apply below_drew1 | refine below_set ?_ GE283.out | refine below_set ?_ GE291.out) | exact HB.out)⟩⟩
              · replace c38 := Bool.eq_false_iff.mpr c38
                subst c38
                have H1 : (tillrolllaw09_BbtGrows.j1 kj4 l1 a2 ji26 y292 0 true t286 t287) = some r := by rw [if_neg (show ¬ (false = true) by decide)] at H; exact H
                clear H
                have H := H1
                clear H1
                have H' := Aside0.mk H
                clear H
                go_wp2_with (first | ((with_reducible refine gate_callee (f := 7) rfl ?_); refine goesL_ (some 62) rfl rfl Try.func7 (by kernel_rfl) rfl #[] rfl (by (try simp only [List.map_toArray, List.map_cons, List.map_nil]); first | done | rfl | (simp only [List.length_drop, List.length_take]; rfl) | (simp only [ByteArray.size_append]; rfl) | (simp only [ByteArray.size_extract]; rfl)) ?_; (with_reducible refine (tillrolllaw09_wakes.calls kj4  false _ A37.out).mono ?_); rintro e w47 ⟨rfl, hb⟩; refine ⟨_, rfl, ?_⟩; have n0_ := Aside0.mk (Kd.R_below (by (with_reducible repeat (first | apply Kd.R_alloc | apply Kd.R_drewN | apply Kd.R_drew)); exact HO_284001.out) hb); have n1_ := Aside0.mk (Kd.R_below (by (with_reducible repeat (first | apply Kd.R_alloc | apply Kd.R_drewN | apply Kd.R_drew)); exact HO289.out) hb); have n2_ := Aside0.mk (Kd.R_below (by (with_reducible repeat (first | apply Kd.R_alloc | apply Kd.R_drewN | apply Kd.R_drew)); exact HO294.out) hb); have n3_ := Aside0.mk (blk_below (g := gb283) (o := .cells #[.int .u64 t278, .slice Ao9 t279.length co9] 26 (0, 0)) (by (with_reducible repeat (first | refine blk_drewN ?_ _ | refine blk_drew ?_ | refine blk_alloc ?_ _)); exact BK283.out) hb); have n4_ := Aside0.mk (blk_below (g := gb291) (o := .cells #[.int .u64 t286, .slice Ao34 t287.length co34] 26 (0, 0)) (by (with_reducible repeat (first | refine blk_drewN ?_ _ | refine blk_drew ?_ | refine blk_alloc ?_ _)); exact BK291.out) hb); have n5_ := Aside0.mk (below_step (by repeat (first | (with_reducible first | exact HB.out | apply below_alloc | apply pw_below_drewN | apply below_drew1 | refine below_set ?_ GE283.out | refine below_set ?_ GE291.out) | exact HB.out)) hb); clear HO_284001; clear HO289; clear HO294; clear BK283; clear BK291; clear HB; have HO_284001 := n0_; have HO289 := n1_; have HO294 := n2_; have BK283 := n3_; have BK291 := n4_; have HB := n5_; clear n0_ n1_ n2_ n3_ n4_ n5_; (try clear hb); (try clear hb2); (try clear hk); (try clear hi)))
                go_meet
                case rel => exact ⟨_, (true), (by first | rfl | (simp; done) | (simp [*]; done)), H', ⟨by have := HJ4.out; first | omega | exact Nat.le_refl _⟩, ⟨by (with_reducible repeat (first | apply Kd.R_alloc | apply Kd.R_drewN | apply Kd.R_drew)); exact Kd.R_mono HO294.out (fun _ hk => ⟨hk.1.2, hk.2⟩)⟩, ⟨by (with_reducible repeat (first | apply Kd.R_alloc | apply Kd.R_drewN | apply Kd.R_drew)); exact Kd.R_mono HO_284001.out (fun _ hk => ⟨hk.2, hk.1.2⟩)⟩, ⟨by (with_reducible repeat (first | apply Kd.R_alloc | apply Kd.R_drewN | apply Kd.R_drew)); exact Kd.R_mono HO289.out (fun _ hk => ⟨hk.2, hk.1.2⟩)⟩, ⟨by (with_reducible repeat (first | refine blk_drewN ?_ _ | refine blk_drew ?_ | refine blk_alloc ?_ _)); exact BK283.out⟩, ⟨by (with_reducible repeat (first | refine blk_drewN ?_ _ | refine blk_drew ?_ | refine blk_alloc ?_ _)); exact BK291.out⟩, ⟨by repeat (first | (with_reducible first | exact HB.out | apply below_alloc | apply pw_below_drewN | apply below_drew1 | refine below_set ?_ GE283.out | refine below_set ?_ GE291.out) | exact HB.out)⟩⟩
            case rest =>
              clear HC29
              try clear c1
              try clear c2
              try clear p2
              try clear c3
              try clear c4
              try clear c6
              try clear c7
              try clear c10
              try clear c10b0
              try clear c11
              try clear c11b0
              try clear c11b1
              try clear c11b2
              try clear c12
              try clear c12b0
              try clear c12b1
              try clear c13
              try clear c13b0
              try clear c13b1
              try clear c17
              try clear c17b0
              try clear c17b1
              try clear c17b2
              try clear c18
              try clear c18b0
              try clear c18b1
              try clear c19
              try clear c19b0
              try clear c19b1
              try clear c23
              try clear c27
              try clear c27b0
              try clear c27b1
              try clear c28
              try clear c28b0
              try clear c28b1
              try clear c32
              try clear c38
              try clear c39
              try clear c39b0
              try clear c39b1
              try clear c42
              try clear hcz15_0
              try clear hcz15_1
              try clear hcz21_0
              try clear hcz21_1
              try clear hcz33_0
              try clear hcz33_1
              try clear hcz43_0
              try clear hcz43_1
              try clear hcz8_0
              try clear hcz8_1
              try clear hfz15_0
              try clear hfz15_1
              try clear hfz21_0
              try clear hfz21_1
              try clear hfz33_0
              try clear hfz33_1
              try clear hfz43_0
              try clear hfz43_1
              try clear hfz8_0
              try clear hfz8_1
              try clear p2
              obtain ⟨kq, x73_28, rfl, HA, HJ28, HO_12, HO_284001, HO_292001, BK283, BK291, HB⟩ := hcut
              cases kq with
              | zero => exact absurd HA.out (by simp [tillrolllaw09_BbtGrows.j1])
              | succ kj28 =>
                have H := HA.out
                clear HA
                simp only [tillrolllaw09_BbtGrows.j1] at H
                by_cases c48 : x73_28 = true
                · subst c48
                  have H1 : (some false) = some r := by rw [if_pos rfl] at H; exact H
                  clear H
                  have H := H1
                  clear H1
                  obtain rfl := Option.some.inj H
                  go_wp2
                  go_ret
                  exact ⟨by first | rfl | (simp [errW_none, errW_some] <;> rfl) | (simp only [← hji24, ← hji26]; first | rfl | (simp [errW_none, errW_some] <;> rfl)) | (simp [*, errW_none, errW_some] <;> rfl), by repeat (first | (with_reducible first | exact HB.out | apply below_alloc | apply pw_below_drewN | apply below_drew1 | refine below_set ?_ GE283.out | refine below_set ?_ GE291.out) | exact HB.out)⟩
                · replace c48 := Bool.eq_false_iff.mpr c48
                  subst c48
                  have H1 : (if 0 ≤ (mn (l1.length : Int) 30) then (if (mn (l1.length : Int) 30) ≤ (l1.length : Int) then (tillrolllaw09_BbtGrows.l0 kj28 a2 ji26 y292 0 (l1.take ((mn (l1.length : Int) 30) : Int).toNat) ((l1.take ((mn (l1.length : Int) 30) : Int).toNat).length : Int) 0 t286 t287) else (none)) else (none)) = some r := by rw [if_neg (show ¬ (false = true) by decide)] at H; exact H
                  clear H
                  have H := H1
                  clear H1
                  obtain ⟨ji49, hji49⟩ : ∃ j_ : Int, (mn (l1.length : Int) 30) = j_ := ⟨_, rfl⟩
                  replace H : (if 0 ≤ (ji49) then (if (ji49) ≤ (l1.length : Int) then (tillrolllaw09_BbtGrows.l0 kj28 a2 ji26 y292 0 (l1.take ((ji49) : Int).toNat) ((l1.take ((ji49) : Int).toNat).length : Int) 0 t286 t287) else (none)) else (none)) = some r := by first | (rw [hji49] at H; exact H) | (simp only [hji49] at H ⊢; exact H)
                  have hji49_ : (if 30 < (l1.length : Int) then 30 else (l1.length : Int)) = ji49 := hji49
                  by_cases c50 : 0 ≤ (ji49)
                  · rw [if_pos c50] at H
                    have c50b0 := eq_true c50
                    have c50b1 : decide (0 ≤ (ji49)) = true := decide_eq_true c50
                    clear c50
                    by_cases c51 : (ji49) ≤ (l1.length : Int)
                    · rw [if_pos c51] at H
                      have c51b0 := eq_true c51
                      have c51b1 : decide ((ji49) ≤ (l1.length : Int)) = true := decide_eq_true c51
                      clear c51
                      have H' := Aside0.mk H
                      clear H
                      obtain ⟨i052, hi052, _, hsz52, _⟩ := info_parts info3
                      obtain ⟨hcut52, hA52, hC52⟩ := print_take_of (P := Try.prog) (Value.int .i64) 0 31 3 .i64 Try.underlying31 hi052 hsz52 A1 c1 l1 (ji49) (of_decide_eq_true (by first | (with_reducible assumption) | assumption)) (of_decide_eq_true (by first | (with_reducible assumption) | assumption)) HC1.out
                      have HR297 := Aside0.mk (Kd.C_of_reads (h1 := fun _ => rfl) (hA52 _ (Kd.reads_of_C HR1.out)))
                      have HC297 := Aside0.mk hC52
                      clear hA52 hC52 hi052 hsz52
                      go_wp2
                      go_loopg [13, 80] kj28 (fun kq v13 v80 w' => ∃ (x12_3 : List Bool) (x13_3 : Int) (x80_3 : Int) (x292000_3 : Int) (x292001_3 : List Bool) (u292001 : Value), v13 = .int .u64 x13_3 ∧ v80 = .int .i64 x80_3 ∧ Aside0 (tillrolllaw09_BbtGrows.l0 kq a2 ji26 x12_3 x13_3 (l1.take ((ji49) : Int).toNat) ((l1.take ((ji49) : Int).toNat).length : Int) x80_3 x292000_3 x292001_3 = some r) ∧ Aside0 (kq ≤ kj28) ∧ Aside0 (Kd.R Kd.bool 4 w' w.heap.size (fun k_ => some k_ ≠ ((.slice Ao9 t279.length co9) : Value).ownBlock ∧ some k_ ≠ (u292001 : Value).ownBlock) v293 x12_3) ∧ Aside0 (Kd.R Kd.bool 4 w' w.heap.size (fun k_ => some k_ ≠ (v293 : Value).ownBlock ∧ some k_ ≠ (u292001 : Value).ownBlock) (.slice Ao9 t279.length co9) t279) ∧ Aside0 (Kd.R Kd.bool 4 w' w.heap.size (fun k_ => some k_ ≠ (v293 : Value).ownBlock ∧ some k_ ≠ ((.slice Ao9 t279.length co9) : Value).ownBlock) u292001 x292001_3) ∧ Aside0 (w'.heap[gb283]? = some (.cells #[.int .u64 t278, (.slice Ao9 t279.length co9)] 26 (0, 0))) ∧ Aside0 (w'.heap[gb291]? = some (.cells #[.int .u64 x292000_3, u292001] 26 (0, 0))) ∧ Aside0 (Below w.heap.size w w'))
                      case atStart => exact ⟨(y292), (0), (0), (t286), (t287), (.slice Ao34 t287.length co34), (by first | rfl | (simp; done) | (simp [*]; done)), (by first | rfl | (simp; done) | (simp [*]; done)), H', ⟨Nat.le_refl _⟩, ⟨by (with_reducible repeat (first | apply Kd.R_alloc | apply Kd.R_drewN | apply Kd.R_drew)); exact HO_12.out⟩, ⟨by (with_reducible repeat (first | apply Kd.R_alloc | apply Kd.R_drewN | apply Kd.R_drew)); exact HO_284001.out⟩, ⟨by (with_reducible repeat (first | apply Kd.R_alloc | apply Kd.R_drewN | apply Kd.R_drew)); exact HO_292001.out⟩, ⟨by (with_reducible repeat (first | refine blk_drewN ?_ _ | refine blk_drew ?_ | refine blk_alloc ?_ _)); exact BK283.out⟩, ⟨by (with_reducible repeat (first | refine blk_drewN ?_ _ | refine blk_drew ?_ | refine blk_alloc ?_ _)); exact BK291.out⟩, ⟨by repeat (first | (with_reducible first | exact HB.out | apply below_alloc | apply pw_below_drewN | apply below_drew1 | refine below_set ?_ GE283.out | refine below_set ?_ GE291.out) | exact HB.out)⟩⟩
                      case round =>
                        clear H'
                        try clear c1
                        try clear c2
                        try clear p2
                        try clear c3
                        try clear c4
                        try clear c5
                        try clear c6
                        try clear c7
                        try clear c10
                        try clear c10b0
                        try clear c11
                        try clear c11b0
                        try clear c11b1
                        try clear c11b2
                        try clear c12
                        try clear c12b0
                        try clear c12b1
                        try clear c13
                        try clear c13b0
                        try clear c13b1
                        try clear c17
                        try clear c17b0
                        try clear c17b1
                        try clear c17b2
                        try clear c18
                        try clear c18b0
                        try clear c18b1
                        try clear c19
                        try clear c19b0
                        try clear c19b1
                        try clear c23
                        try clear c27
                        try clear c27b0
                        try clear c27b1
                        try clear c28
                        try clear c28b0
                        try clear c28b1
                        try clear c32
                        try clear c38
                        try clear c39
                        try clear c39b0
                        try clear c39b1
                        try clear c42
                        try clear c48
                        try clear c50
                        try clear c50b0
                        try clear c50b1
                        try clear c51
                        try clear c51b0
                        try clear c51b1
                        try clear hcz15_0
                        try clear hcz15_1
                        try clear hcz21_0
                        try clear hcz21_1
                        try clear hcz33_0
                        try clear hcz33_1
                        try clear hcz43_0
                        try clear hcz43_1
                        try clear hcz8_0
                        try clear hcz8_1
                        try clear hfz15_0
                        try clear hfz15_1
                        try clear hfz21_0
                        try clear hfz21_1
                        try clear hfz33_0
                        try clear hfz33_1
                        try clear hfz43_0
                        try clear hfz43_1
                        try clear hfz8_0
                        try clear hfz8_1
                        try clear p2
                        obtain ⟨x12_3, x13_3, x80_3, x292000_3, x292001_3, u292001, rfl, rfl, HA, HK3, HO_12, HO_284001, HO_292001, BK283, BK291, HB⟩ := hrel
                        cases gk with
                        | zero => exact absurd HA.out (by simp [tillrolllaw09_BbtGrows.l0])
                        | succ k3 =>
                          have H := HA.out
                          clear HA
                          simp only [tillrolllaw09_BbtGrows.l0] at H
                          by_cases c53 : x80_3 < ((l1.take ((ji49) : Int).toNat).length : Int)
                          · rw [if_pos c53] at H
                            have mx53p : (x80_3 < max ji49 0) := (by have hh := c53; have hg := hji49_; rw [List.length_take] at hh; split at hg <;> omega)
                            have mx53pa := eq_true mx53p
                            have mx53pb : decide (x80_3 < max ji49 0) = true := decide_eq_true mx53p
                            have c53b0 : decide (x80_3 < ((l1.take ((ji49) : Int).toNat).length : Int)) = true := decide_eq_true c53
                            clear c53
                            by_cases c54 : 0 ≤ x80_3
                            · rw [if_pos c54] at H
                              have c54b0 : decide (0 ≤ x80_3) = true := decide_eq_true c54
                              clear c54
                              by_cases c55 : x80_3 < ((l1.take ((ji49) : Int).toNat).length : Int)
                              · rw [if_pos c55] at H
                                have mx55p : (x80_3 < max ji49 0) := (by have hh := c55; have hg := hji49_; rw [List.length_take] at hh; split at hg <;> omega)
                                have mx55pa := eq_true mx55p
                                have mx55pb : decide (x80_3 < max ji49 0) = true := decide_eq_true mx55p
                                have c55b0 : decide (x80_3 < ((l1.take ((ji49) : Int).toNat).length : Int)) = true := decide_eq_true c55
                                clear c55
                                replace H := Option.bind_eq_some_iff.mp H
                                obtain ⟨⟨t299, t300, t303⟩, A560, H⟩ := H
                                replace H : (if (rd (l1.take ((ji49) : Int).toNat) x80_3) < 0 then (tillrolllaw09_BbtGrows.j3 k3 a2 ji26 x12_3 x13_3 (rd (l1.take ((ji49) : Int).toNat) x80_3) t303 (l1.take ((ji49) : Int).toNat) ((l1.take ((ji49) : Int).toNat).length : Int) x80_3 true x292000_3 x292001_3 t299 t300) else (tillrolllaw09_BbtGrows.j3 k3 a2 ji26 x12_3 x13_3 (rd (l1.take ((ji49) : Int).toNat) x80_3) t303 (l1.take ((ji49) : Int).toNat) ((l1.take ((ji49) : Int).toNat).length : Int) x80_3 (decide ((rd (l1.take ((ji49) : Int).toNat) x80_3) ≥ ji26)) x292000_3 x292001_3 t299 t300)) = some r := H
                                have A56 := Aside0.mk A560
                                clear A560
                                have HC57 := Aside0.mk H
                                clear H
                                have p298 : 0 ≤ (x80_3 : Int) := of_decide_eq_true (by first | (with_reducible assumption) | assumption)
                                have q298 : x80_3 < ((l1.take ((ji49) : Int).toNat).length : Int) := of_decide_eq_true (by first | (with_reducible assumption) | assumption)
                                obtain ⟨ad298, e298, hx298_0⟩ := Kd.at_int HR297.out x80_3 p298 q298
                                cases e298
                                replace hx298_0 := (HB.out.cell (World.block_lt_of_cell? w _ hx298_0)).trans hx298_0
                                replace p298 := eq_true p298
                                replace q298 := eq_true q298
                                have hnb58 := NB291_283.out
                                have hnc58 := NB283_291.out
                                have hcz59_0 : wr.cell? ⟨gb291, 0, none⟩ = some (.int .u64 x292000_3) := (blk_cell BK291.out 0).trans rfl
                                have hcz59_1 : wr.cell? ⟨gb291, 1, none⟩ = some (u292001) := (blk_cell BK291.out 1).trans rfl
                                have hfz59_0 := blk_frozen BK291.out 0
                                have hfz59_1 := blk_frozen BK291.out 1
                                obtain ⟨Ao60, co60, eo60⟩ := Kd.R_slice HO_292001.out
                                subst eo60
                                go_upto_region 14 with (first | ((with_reducible refine gate_callee (f := 8) rfl ?_); refine goesL_ (some 87) rfl rfl Try.func8 (by kernel_rfl) rfl #[.agg #[.int .u64 x292000_3, .slice Ao60 x292001_3.length co60], .int .i64 (rd (l1.take ((ji49) : Int).toNat) x80_3)] rfl (by (try simp only [List.map_toArray, List.map_cons, List.map_nil]); first | done | (simp only [hji49]; rfl) | rfl | (simp only [List.length_drop, List.length_take]; rfl) | (simp only [ByteArray.size_append]; rfl) | (simp only [ByteArray.size_extract]; rfl)) ?_; (with_reducible refine (bbt_Table_With.calls x292000_3 _ _ x292001_3 (rd (l1.take ((ji49) : Int).toNat) x80_3) t299 t300 t303 _ ?side1 ?side2 A56.out).mono ?_); (case side1 => repeat (first | exact (Kd.R_reads' HO_292001.out).2.2 | (with_reducible refine Kd.C_alloc ?_ _) | (with_reducible refine Kd.C_drewN ?_ _) | (with_reducible refine Kd.C_drew ?_))); (case side2 => exact (Kd.R_reads' HO_292001.out).2.1); rintro e w61 ⟨v301, rfl, ho0, hb⟩; refine ⟨_, rfl, ?_⟩; have n0_ := Aside0.mk (Kd.R_elder' (by (with_reducible repeat (first | apply Kd.R_alloc | apply Kd.R_drewN | apply Kd.R_drew)); exact HO_12.out) (Kd.R_base ho0) hb); have n1_ := Aside0.mk (Kd.R_elder' (by (with_reducible repeat (first | apply Kd.R_alloc | apply Kd.R_drewN | apply Kd.R_drew)); exact HO_284001.out) (Kd.R_base ho0) hb); have n2_ := Aside0.mk (Kd.R_elder' (by (with_reducible repeat (first | apply Kd.R_alloc | apply Kd.R_drewN | apply Kd.R_drew)); exact HO_292001.out) (Kd.R_base ho0) hb); have n3_ := Aside0.mk (Kd.R_lower (Kd.R_new' (Kd.R_new' (Kd.R_new' ho0 (Kd.R_lt (by (with_reducible repeat (first | apply Kd.R_alloc | apply Kd.R_drewN | apply Kd.R_drew)); exact HO_12.out))) (Kd.R_lt (by (with_reducible repeat (first | apply Kd.R_alloc | apply Kd.R_drewN | apply Kd.R_drew)); exact HO_284001.out))) (Kd.R_lt (by (with_reducible repeat (first | apply Kd.R_alloc | apply Kd.R_drewN | apply Kd.R_drew)); exact HO_292001.out))) (below_size (by repeat (first | (with_reducible first | exact HB.out | apply below_alloc | apply pw_below_drewN | apply below_drew1 | refine below_set ?_ GE283.out | refine below_set ?_ GE291.out) | exact HB.out)))); have n4_ := Aside0.mk (blk_below (g := gb283) (o := .cells #[.int .u64 t278, .slice Ao9 t279.length co9] 26 (0, 0)) (by (with_reducible repeat (first | refine blk_drewN ?_ _ | refine blk_drew ?_ | refine blk_alloc ?_ _)); exact BK283.out) hb); have n5_ := Aside0.mk (blk_below (g := gb291) (o := .cells #[.int .u64 x292000_3, .slice Ao60 x292001_3.length co60] 26 (0, 0)) (by (with_reducible repeat (first | refine blk_drewN ?_ _ | refine blk_drew ?_ | refine blk_alloc ?_ _)); exact BK291.out) hb); have n6_ := Aside0.mk (below_step (by repeat (first | (with_reducible first | exact HB.out | apply below_alloc | apply pw_below_drewN | apply below_drew1 | refine below_set ?_ GE283.out | refine below_set ?_ GE291.out) | exact HB.out)) hb); clear HO_12; clear HO_284001; clear HO_292001; clear BK283; clear BK291; clear HB; have HO_12 := n0_; have HO_284001 := n1_; have HO_292001 := n2_; have HO302 := n3_; have BK283 := n4_; have BK291 := n5_; have HB := n6_; clear n0_ n1_ n2_ n3_ n4_ n5_ n6_; (try clear hb); (try clear hb2); (try clear hk); (try clear hi); (try clear ho0)) | ((with_reducible refine gate_dst (N := 16) rfl ?_); refine box_event ?hg (N := 16) ?hd (cs := #[.int .u64 0, .slice none 0 0]) (t := 26) ?hr ?_; (case hd => rfl); (case hg => rfl); (case hr => first | (go_simp; done) | (go_simp; rfl)); intro gb304 hg w62 hbox hb; have n0_ := Aside0.mk (Kd.R_below (by (with_reducible repeat (first | apply Kd.R_alloc | apply Kd.R_drewN | apply Kd.R_drew)); exact HO_12.out) hb); have n1_ := Aside0.mk (Kd.R_below (by (with_reducible repeat (first | apply Kd.R_alloc | apply Kd.R_drewN | apply Kd.R_drew)); exact HO_284001.out) hb); have n2_ := Aside0.mk (Kd.R_below (by (with_reducible repeat (first | apply Kd.R_alloc | apply Kd.R_drewN | apply Kd.R_drew)); exact HO_292001.out) hb); have n3_ := Aside0.mk (Kd.R_below (by (with_reducible repeat (first | apply Kd.R_alloc | apply Kd.R_drewN | apply Kd.R_drew)); exact HO302.out) hb); have n4_ := Aside0.mk (blk_below (g := gb283) (o := .cells #[.int .u64 t278, .slice Ao9 t279.length co9] 26 (0, 0)) (by (with_reducible repeat (first | refine blk_drewN ?_ _ | refine blk_drew ?_ | refine blk_alloc ?_ _)); exact BK283.out) hb); have n5_ := Aside0.mk (blk_below (g := gb291) (o := .cells #[.int .u64 x292000_3, .slice Ao60 x292001_3.length co60] 26 (0, 0)) (by (with_reducible repeat (first | refine blk_drewN ?_ _ | refine blk_drew ?_ | refine blk_alloc ?_ _)); exact BK291.out) hb); have n6_ := Aside0.mk (below_step (by repeat (first | (with_reducible first | exact HB.out | apply below_alloc | apply pw_below_drewN | apply below_drew1 | refine below_set ?_ GE283.out | refine below_set ?_ GE291.out) | exact HB.out)) hb); have n7_ := Aside0.mk (hbox); have n8_ := Aside0.mk ((by rw [hg]; exact (below_size (by repeat (first | (with_reducible first | exact HB.out | apply below_alloc | apply pw_below_drewN | apply below_drew1 | refine below_set ?_ GE283.out | refine below_set ?_ GE291.out) | exact HB.out))) : w.heap.size ≤ gb304)); have n9_ := Aside0.mk ((by rw [hg]; exact (below_size (by repeat (first | (with_reducible first | exact HB.out | apply below_alloc | apply pw_below_drewN | apply below_drew1 | refine below_set ?_ GE283.out | refine below_set ?_ GE291.out) | exact HB.out))) : w.heap.size ≤ gb304)); have n10_ := Aside0.mk ((by rw [hg]; exact Nat.ne_of_lt (blk_lt (g := gb283) (o := .cells #[.int .u64 t278, .slice Ao9 t279.length co9] 26 (0, 0)) (by (with_reducible repeat (first | refine blk_drewN ?_ _ | refine blk_drew ?_ | refine blk_alloc ?_ _)); exact BK283.out)) : gb283 ≠ gb304)); have n11_ := Aside0.mk ((by rw [hg]; exact Nat.ne_of_gt (blk_lt (g := gb283) (o := .cells #[.int .u64 t278, .slice Ao9 t279.length co9] 26 (0, 0)) (by (with_reducible repeat (first | refine blk_drewN ?_ _ | refine blk_drew ?_ | refine blk_alloc ?_ _)); exact BK283.out)) : gb304 ≠ gb283)); have n12_ := Aside0.mk ((by rw [hg]; exact Nat.ne_of_lt (blk_lt (g := gb291) (o := .cells #[.int .u64 x292000_3, .slice Ao60 x292001_3.length co60] 26 (0, 0)) (by (with_reducible repeat (first | refine blk_drewN ?_ _ | refine blk_drew ?_ | refine blk_alloc ?_ _)); exact BK291.out)) : gb291 ≠ gb304)); have n13_ := Aside0.mk ((by rw [hg]; exact Nat.ne_of_gt (blk_lt (g := gb291) (o := .cells #[.int .u64 x292000_3, .slice Ao60 x292001_3.length co60] 26 (0, 0)) (by (with_reducible repeat (first | refine blk_drewN ?_ _ | refine blk_drew ?_ | refine blk_alloc ?_ _)); exact BK291.out)) : gb304 ≠ gb291)); clear HO_12; clear HO_284001; clear HO_292001; clear HO302; clear BK283; clear BK291; clear HB; have HO_12 := n0_; have HO_284001 := n1_; have HO_292001 := n2_; have HO302 := n3_; have BK283 := n4_; have BK291 := n5_; have HB := n6_; have BK304 := n7_; have GW304 := n8_; have GE304 := n9_; have NB283_304 := n10_; have NB304_283 := n11_; have NB291_304 := n12_; have NB304_291 := n13_; clear n0_ n1_ n2_ n3_ n4_ n5_ n6_ n7_ n8_ n9_ n10_ n11_ n12_ n13_; clear hb hbox hg; have hnb63 := NB304_283.out; have hnc63 := NB283_304.out; have hnb64 := NB304_291.out; have hnc64 := NB291_304.out; have hcz65_0 : w62.cell? ⟨gb304, 0, none⟩ = some (.int .u64 0) := (blk_cell BK304.out 0).trans rfl; have hcz65_1 : w62.cell? ⟨gb304, 1, none⟩ = some (.slice none 0 0) := (blk_cell BK304.out 1).trans rfl; have hfz65_0 := blk_frozen BK304.out 0; have hfz65_1 := blk_frozen BK304.out 1; obtain ⟨Ao66, co66, eo66⟩ := Kd.R_slice HO302.out; subst eo66))
                                (try simp only [Act.put, List.setIfInBounds_toArray, List.set_cons_zero, List.set_cons_succ])
                                go_cut [96] (fun v96 wc => ∃ (kq : Nat) (x96_56 : Bool), v96 = .bool x96_56 ∧ Aside0 (tillrolllaw09_BbtGrows.j3 kq a2 ji26 x12_3 x13_3 (rd (l1.take ((ji49) : Int).toNat) x80_3) t303 (l1.take ((ji49) : Int).toNat) ((l1.take ((ji49) : Int).toNat).length : Int) x80_3 x96_56 x292000_3 x292001_3 t299 t300 = some r) ∧ Aside0 (kq ≤ k3) ∧ Aside0 (Kd.R Kd.bool 4 wc w.heap.size (fun k_ => some k_ ≠ ((.slice Ao9 t279.length co9) : Value).ownBlock ∧ some k_ ≠ ((.slice Ao60 x292001_3.length co60) : Value).ownBlock ∧ some k_ ≠ ((.slice Ao66 t300.length co66) : Value).ownBlock) v293 x12_3) ∧ Aside0 (Kd.R Kd.bool 4 wc w.heap.size (fun k_ => some k_ ≠ (v293 : Value).ownBlock ∧ some k_ ≠ ((.slice Ao60 x292001_3.length co60) : Value).ownBlock ∧ some k_ ≠ ((.slice Ao66 t300.length co66) : Value).ownBlock) (.slice Ao9 t279.length co9) t279) ∧ Aside0 (Kd.R Kd.bool 4 wc w.heap.size (fun k_ => some k_ ≠ (v293 : Value).ownBlock ∧ some k_ ≠ ((.slice Ao9 t279.length co9) : Value).ownBlock ∧ some k_ ≠ ((.slice Ao66 t300.length co66) : Value).ownBlock) (.slice Ao60 x292001_3.length co60) x292001_3) ∧ Aside0 (Kd.R Kd.bool 4 wc w.heap.size (fun k_ => some k_ ≠ (v293 : Value).ownBlock ∧ some k_ ≠ ((.slice Ao9 t279.length co9) : Value).ownBlock ∧ some k_ ≠ ((.slice Ao60 x292001_3.length co60) : Value).ownBlock) (.slice Ao66 t300.length co66) t300) ∧ Aside0 (wc.heap[gb283]? = some (.cells #[.int .u64 t278, (.slice Ao9 t279.length co9)] 26 (0, 0))) ∧ Aside0 (wc.heap[gb291]? = some (.cells #[.int .u64 x292000_3, (.slice Ao60 x292001_3.length co60)] 26 (0, 0))) ∧ Aside0 (wc.heap[gb304]? = some (.cells #[.int .u64 t299, (.slice Ao66 t300.length co66)] 26 (0, 0))) ∧ Aside0 (Below w.heap.size w wc))
                                case first =>
                                  have H := HC57.out
                                  clear HC57
                                  by_cases c67 : (rd (l1.take ((ji49) : Int).toNat) x80_3) < 0
                                  · rw [if_pos c67] at H
                                    have c67b0 : decide ((rd (l1.take ((ji49) : Int).toNat) x80_3) < 0) = true := decide_eq_true c67
                                    clear c67
                                    (first | rw [c67b0] | (simp only [i64_w, i32_w]; rw [c67b0]) | skip)
                                    have H' := Aside0.mk H
                                    clear H
                                    go_wp2
                                    go_meet
                                    case rel => exact ⟨_, (true), (by first | rfl | (simp; done) | (simp [*]; done)), H', ⟨by have := HJ4.out; have := HJ28.out; have := HK3.out; first | omega | exact Nat.le_refl _⟩, ⟨by (with_reducible repeat (first | apply Kd.R_alloc | apply Kd.R_drewN | apply Kd.R_drew)); exact Kd.R_mono (Kd.R_far (p := ⟨gb304, 1, none⟩) (Kd.R_far (p := ⟨gb304, 0, none⟩) (Kd.R_types HO_12.out BK304.out (by decide)) (fun _ hk => hk.2) (.int .u64 t299)) (fun _ hk => hk.2) (.slice Ao66 t300.length co66)) (fun _ hk => ⟨hk.1.1.1, ⟨hk.1.1.2, hk.1.2⟩⟩)⟩, ⟨by (with_reducible repeat (first | apply Kd.R_alloc | apply Kd.R_drewN | apply Kd.R_drew)); exact Kd.R_mono (Kd.R_far (p := ⟨gb304, 1, none⟩) (Kd.R_far (p := ⟨gb304, 0, none⟩) (Kd.R_types HO_284001.out BK304.out (by decide)) (fun _ hk => hk.2) (.int .u64 t299)) (fun _ hk => hk.2) (.slice Ao66 t300.length co66)) (fun _ hk => ⟨hk.1.1.1, ⟨hk.1.1.2, hk.1.2⟩⟩)⟩, ⟨by (with_reducible repeat (first | apply Kd.R_alloc | apply Kd.R_drewN | apply Kd.R_drew)); exact Kd.R_mono (Kd.R_far (p := ⟨gb304, 1, none⟩) (Kd.R_far (p := ⟨gb304, 0, none⟩) (Kd.R_types HO_292001.out BK304.out (by decide)) (fun _ hk => hk.2) (.int .u64 t299)) (fun _ hk => hk.2) (.slice Ao66 t300.length co66)) (fun _ hk => ⟨hk.1.1.1, ⟨hk.1.1.2, hk.1.2⟩⟩)⟩, ⟨by (with_reducible repeat (first | apply Kd.R_alloc | apply Kd.R_drewN | apply Kd.R_drew)); exact Kd.R_mono (Kd.R_far (p := ⟨gb304, 1, none⟩) (Kd.R_far (p := ⟨gb304, 0, none⟩) (Kd.R_types HO302.out BK304.out (by decide)) (fun _ hk => hk.2) (.int .u64 t299)) (fun _ hk => hk.2) (.slice Ao66 t300.length co66)) (fun _ hk => ⟨hk.1.1.1.2, ⟨hk.1.1.2, hk.1.2⟩⟩)⟩, ⟨by (with_reducible repeat (first | refine blk_drewN ?_ _ | refine blk_drew ?_ | refine blk_alloc ?_ _)); refine blk_far ?_ NB283_304.out _; (with_reducible repeat (first | refine blk_drewN ?_ _ | refine blk_drew ?_ | refine blk_alloc ?_ _)); refine blk_far ?_ NB283_304.out _; (with_reducible repeat (first | refine blk_drewN ?_ _ | refine blk_drew ?_ | refine blk_alloc ?_ _)); exact BK283.out⟩, ⟨by (with_reducible repeat (first | refine blk_drewN ?_ _ | refine blk_drew ?_ | refine blk_alloc ?_ _)); refine blk_far ?_ NB291_304.out _; (with_reducible repeat (first | refine blk_drewN ?_ _ | refine blk_drew ?_ | refine blk_alloc ?_ _)); refine blk_far ?_ NB291_304.out _; (with_reducible repeat (first | refine blk_drewN ?_ _ | refine blk_drew ?_ | refine blk_alloc ?_ _)); exact BK291.out⟩, ⟨by (with_reducible repeat (first | refine blk_drewN ?_ _ | refine blk_drew ?_ | refine blk_alloc ?_ _)); refine blk_put (cs := #[.int .u64 t299, .slice none 0 0]) ?_ 1 _ rfl; (with_reducible repeat (first | refine blk_drewN ?_ _ | refine blk_drew ?_ | refine blk_alloc ?_ _)); refine blk_put (cs := #[.int .u64 0, .slice none 0 0]) ?_ 0 _ rfl; (with_reducible repeat (first | refine blk_drewN ?_ _ | refine blk_drew ?_ | refine blk_alloc ?_ _)); exact BK304.out⟩, ⟨by repeat (first | (with_reducible first | exact HB.out | apply below_alloc | apply pw_below_drewN | apply below_drew1 | refine below_set ?_ GE283.out | refine below_set ?_ GE291.out | refine below_set ?_ GE304.out) | exact HB.out)⟩⟩
                                  · rw [if_neg c67] at H
                                    have c67b0 : decide ((rd (l1.take ((ji49) : Int).toNat) x80_3) < 0) = false := decide_eq_false c67
                                    clear c67
                                    (first | rw [c67b0] | (simp only [i64_w, i32_w]; rw [c67b0]) | skip)
                                    have H' := Aside0.mk H
                                    clear H
                                    go_wp2
                                    go_meet
                                    case rel => exact ⟨_, (decide ((rd (l1.take ((ji49) : Int).toNat) x80_3) ≥ ji26)), (by first | rfl | (simp; done) | (simp only [← hji26, ← hji49] <;> (first | rfl | simp)) | (simp [*]; done)), H', ⟨by have := HJ4.out; have := HJ28.out; have := HK3.out; first | omega | exact Nat.le_refl _⟩, ⟨by (with_reducible repeat (first | apply Kd.R_alloc | apply Kd.R_drewN | apply Kd.R_drew)); exact Kd.R_mono (Kd.R_far (p := ⟨gb304, 1, none⟩) (Kd.R_far (p := ⟨gb304, 0, none⟩) (Kd.R_types HO_12.out BK304.out (by decide)) (fun _ hk => hk.2) (.int .u64 t299)) (fun _ hk => hk.2) (.slice Ao66 t300.length co66)) (fun _ hk => ⟨hk.1.1.1, ⟨hk.1.1.2, hk.1.2⟩⟩)⟩, ⟨by (with_reducible repeat (first | apply Kd.R_alloc | apply Kd.R_drewN | apply Kd.R_drew)); exact Kd.R_mono (Kd.R_far (p := ⟨gb304, 1, none⟩) (Kd.R_far (p := ⟨gb304, 0, none⟩) (Kd.R_types HO_284001.out BK304.out (by decide)) (fun _ hk => hk.2) (.int .u64 t299)) (fun _ hk => hk.2) (.slice Ao66 t300.length co66)) (fun _ hk => ⟨hk.1.1.1, ⟨hk.1.1.2, hk.1.2⟩⟩)⟩, ⟨by (with_reducible repeat (first | apply Kd.R_alloc | apply Kd.R_drewN | apply Kd.R_drew)); exact Kd.R_mono (Kd.R_far (p := ⟨gb304, 1, none⟩) (Kd.R_far (p := ⟨gb304, 0, none⟩) (Kd.R_types HO_292001.out BK304.out (by decide)) (fun _ hk => hk.2) (.int .u64 t299)) (fun _ hk => hk.2) (.slice Ao66 t300.length co66)) (fun _ hk => ⟨hk.1.1.1, ⟨hk.1.1.2, hk.1.2⟩⟩)⟩, ⟨by (with_reducible repeat (first | apply Kd.R_alloc | apply Kd.R_drewN | apply Kd.R_drew)); exact Kd.R_mono (Kd.R_far (p := ⟨gb304, 1, none⟩) (Kd.R_far (p := ⟨gb304, 0, none⟩) (Kd.R_types HO302.out BK304.out (by decide)) (fun _ hk => hk.2) (.int .u64 t299)) (fun _ hk => hk.2) (.slice Ao66 t300.length co66)) (fun _ hk => ⟨hk.1.1.1.2, ⟨hk.1.1.2, hk.1.2⟩⟩)⟩, ⟨by (with_reducible repeat (first | refine blk_drewN ?_ _ | refine blk_drew ?_ | refine blk_alloc ?_ _)); refine blk_far ?_ NB283_304.out _; (with_reducible repeat (first | refine blk_drewN ?_ _ | refine blk_drew ?_ | refine blk_alloc ?_ _)); refine blk_far ?_ NB283_304.out _; (with_reducible repeat (first | refine blk_drewN ?_ _ | refine blk_drew ?_ | refine blk_alloc ?_ _)); exact BK283.out⟩, ⟨by (with_reducible repeat (first | refine blk_drewN ?_ _ | refine blk_drew ?_ | refine blk_alloc ?_ _)); refine blk_far ?_ NB291_304.out _; (with_reducible repeat (first | refine blk_drewN ?_ _ | refine blk_drew ?_ | refine blk_alloc ?_ _)); refine blk_far ?_ NB291_304.out _; (with_reducible repeat (first | refine blk_drewN ?_ _ | refine blk_drew ?_ | refine blk_alloc ?_ _)); exact BK291.out⟩, ⟨by (with_reducible repeat (first | refine blk_drewN ?_ _ | refine blk_drew ?_ | refine blk_alloc ?_ _)); refine blk_put (cs := #[.int .u64 t299, .slice none 0 0]) ?_ 1 _ rfl; (with_reducible repeat (first | refine blk_drewN ?_ _ | refine blk_drew ?_ | refine blk_alloc ?_ _)); refine blk_put (cs := #[.int .u64 0, .slice none 0 0]) ?_ 0 _ rfl; (with_reducible repeat (first | refine blk_drewN ?_ _ | refine blk_drew ?_ | refine blk_alloc ?_ _)); exact BK304.out⟩, ⟨by repeat (first | (with_reducible first | exact HB.out | apply below_alloc | apply pw_below_drewN | apply below_drew1 | refine below_set ?_ GE283.out | refine below_set ?_ GE291.out | refine below_set ?_ GE304.out) | exact HB.out)⟩⟩
                                case rest =>
                                  clear HC57
                                  try clear c1
                                  try clear c2
                                  try clear p2
                                  try clear q2
                                  try clear hx2
                                  try clear c3
                                  try clear c4
                                  try clear c5
                                  try clear c6
                                  try clear c7
                                  try clear c8
                                  try clear c10
                                  try clear c10b0
                                  try clear c11
                                  try clear c11b0
                                  try clear c11b1
                                  try clear c11b2
                                  try clear c12
                                  try clear c12b0
                                  try clear c12b1
                                  try clear c13
                                  try clear c13b0
                                  try clear c13b1
                                  try clear c17
                                  try clear c17b0
                                  try clear c17b1
                                  try clear c17b2
                                  try clear c18
                                  try clear c18b0
                                  try clear c18b1
                                  try clear c19
                                  try clear c19b0
                                  try clear c19b1
                                  try clear c23
                                  try clear c27
                                  try clear c27b0
                                  try clear c27b1
                                  try clear c28
                                  try clear c28b0
                                  try clear c28b1
                                  try clear p29
                                  try clear q29
                                  try clear hx29
                                  try clear c32
                                  try clear c38
                                  try clear c39
                                  try clear c39b0
                                  try clear c39b1
                                  try clear c42
                                  try clear c48
                                  try clear c50
                                  try clear c50b0
                                  try clear c50b1
                                  try clear c51
                                  try clear c51b0
                                  try clear c51b1
                                  try clear c53
                                  try clear c53b0
                                  try clear c54
                                  try clear c54b0
                                  try clear c55
                                  try clear c55b0
                                  try clear c58
                                  try clear c63
                                  try clear c64
                                  try clear c67
                                  try clear c67b0
                                  try clear hcz15_0
                                  try clear hcz15_1
                                  try clear hcz21_0
                                  try clear hcz21_1
                                  try clear hcz33_0
                                  try clear hcz33_1
                                  try clear hcz43_0
                                  try clear hcz43_1
                                  try clear hcz59_0
                                  try clear hcz59_1
                                  try clear hcz65_0
                                  try clear hcz65_1
                                  try clear hcz8_0
                                  try clear hcz8_1
                                  try clear hfz15_0
                                  try clear hfz15_1
                                  try clear hfz21_0
                                  try clear hfz21_1
                                  try clear hfz33_0
                                  try clear hfz33_1
                                  try clear hfz43_0
                                  try clear hfz43_1
                                  try clear hfz59_0
                                  try clear hfz59_1
                                  try clear hfz65_0
                                  try clear hfz65_1
                                  try clear hfz8_0
                                  try clear hfz8_1
                                  try clear hx298_0
                                  try clear p2
                                  try clear p298
                                  try clear q298
                                  obtain ⟨kq, x96_56, rfl, HA, HJ56, HO_12, HO_284001, HO_292001, HO_305001, BK283, BK291, BK304, HB⟩ := hcut
                                  cases kq with
                                  | zero => exact absurd HA.out (by simp [tillrolllaw09_BbtGrows.j3])
                                  | succ kj56 =>
                                    have H := HA.out
                                    clear HA
                                    simp only [tillrolllaw09_BbtGrows.j3] at H
                                    by_cases c68 : x96_56 = true
                                    · subst c68
                                      have H1 : (if t303 = 3 then ((bbt_Table_Blocks.f t299 t300).bind fun t305 => (if t305 = 0 then (tillrolllaw09_BbtGrows.l0 kj56 a2 ji26 x12_3 x13_3 (l1.take ((ji49) : Int).toNat) ((l1.take ((ji49) : Int).toNat).length : Int) (wrap64 (x80_3 + 1)) x292000_3 x292001_3) else (some false))) else (some false)) = some r := by rw [if_pos rfl] at H; exact H
                                      clear H
                                      have H := H1
                                      clear H1
                                      by_cases c69 : t303 = 3
                                      · rw [if_pos c69] at H
                                        have c69b0 : (t303 == 3) = true := beq_iff_eq.mpr c69
                                        have c69b1 : (t303 != 3) = false := bne_eq_false_iff_eq.mpr c69
                                        clear c69
                                        replace H := Option.bind_eq_some_iff.mp H
                                        obtain ⟨t305, A700, H⟩ := H
                                        replace H : (if t305 = 0 then (tillrolllaw09_BbtGrows.l0 kj56 a2 ji26 x12_3 x13_3 (l1.take ((ji49) : Int).toNat) ((l1.take ((ji49) : Int).toNat).length : Int) (wrap64 (x80_3 + 1)) x292000_3 x292001_3) else (some false)) = some r := H
                                        have A70 := Aside0.mk A700
                                        clear A700
                                        by_cases c71 : t305 = 0
                                        · rw [if_pos c71] at H
                                          have c71b0 : (t305 == 0) = true := beq_iff_eq.mpr c71
                                          have c71b1 : (t305 != 0) = false := bne_eq_false_iff_eq.mpr c71
                                          clear c71
                                          have H' := Aside0.mk H
                                          clear H
                                          have hnb72 := NB304_283.out
                                          have hnc72 := NB283_304.out
                                          have hnb73 := NB304_291.out
                                          have hnc73 := NB291_304.out
                                          have hcz74_0 : wc.cell? ⟨gb304, 0, none⟩ = some (.int .u64 t299) := (blk_cell BK304.out 0).trans rfl
                                          have hcz74_1 : wc.cell? ⟨gb304, 1, none⟩ = some (.slice Ao66 t300.length co66) := (blk_cell BK304.out 1).trans rfl
                                          have hfz74_0 := blk_frozen BK304.out 0
                                          have hfz74_1 := blk_frozen BK304.out 1
                                          go_wp2_with (first | (go_at_call 11; (with_reducible refine (bbt_Table_Blocks.calls t299 _ _ t300 t305 _ ?side1 ?side2 A70.out).mono ?_); (case side1 => repeat (first | exact (Kd.R_reads' HO_305001.out).2.2 | (with_reducible refine Kd.C_alloc ?_ _) | (with_reducible refine Kd.C_drewN ?_ _) | (with_reducible refine Kd.C_drew ?_))); (case side2 => exact (Kd.R_reads' HO_305001.out).2.1); rintro e w75 ⟨rfl, hb⟩; have n0_ := Aside0.mk (Kd.R_below (by (with_reducible repeat (first | apply Kd.R_alloc | apply Kd.R_drewN | apply Kd.R_drew)); exact HO_12.out) hb); have n1_ := Aside0.mk (Kd.R_below (by (with_reducible repeat (first | apply Kd.R_alloc | apply Kd.R_drewN | apply Kd.R_drew)); exact HO_284001.out) hb); have n2_ := Aside0.mk (Kd.R_below (by (with_reducible repeat (first | apply Kd.R_alloc | apply Kd.R_drewN | apply Kd.R_drew)); exact HO_292001.out) hb); have n3_ := Aside0.mk (Kd.R_below (by (with_reducible repeat (first | apply Kd.R_alloc | apply Kd.R_drewN | apply Kd.R_drew)); exact HO_305001.out) hb); have n4_ := Aside0.mk (blk_below (g := gb283) (o := .cells #[.int .u64 t278, .slice Ao9 t279.length co9] 26 (0, 0)) (by (with_reducible repeat (first | refine blk_drewN ?_ _ | refine blk_drew ?_ | refine blk_alloc ?_ _)); exact BK283.out) hb); have n5_ := Aside0.mk (blk_below (g := gb291) (o := .cells #[.int .u64 x292000_3, .slice Ao60 x292001_3.length co60] 26 (0, 0)) (by (with_reducible repeat (first | refine blk_drewN ?_ _ | refine blk_drew ?_ | refine blk_alloc ?_ _)); exact BK291.out) hb); have n6_ := Aside0.mk (blk_below (g := gb304) (o := .cells #[.int .u64 t299, .slice Ao66 t300.length co66] 26 (0, 0)) (by (with_reducible repeat (first | refine blk_drewN ?_ _ | refine blk_drew ?_ | refine blk_alloc ?_ _)); exact BK304.out) hb); have n7_ := Aside0.mk (below_step (by repeat (first | (with_reducible first | exact HB.out | apply below_alloc | apply pw_below_drewN | apply below_drew1 | refine below_set ?_ GE283.out | refine below_set ?_ GE291.out | refine below_set ?_ GE304.out) | exact HB.out)) hb); clear HO_12; clear HO_284001; clear HO_292001; clear HO_305001; clear BK283; clear BK291; clear BK304; clear HB; have HO_12 := n0_; have HO_284001 := n1_; have HO_292001 := n2_; have HO_305001 := n3_; have BK283 := n4_; have BK291 := n5_; have BK304 := n6_; have HB := n7_; clear n0_ n1_ n2_ n3_ n4_ n5_ n6_ n7_; (try clear hb); (try clear hb2); (try clear hk); (try clear hi)))
                                          go_roundg kj56
                                          case measure => have := HJ4.out; have := HJ28.out; have := HK3.out; have := HJ56.out; omega
                                          case rel => exact ⟨(x12_3), (x13_3), (wrap64 (x80_3 + 1)), (x292000_3), (x292001_3), (.slice Ao60 x292001_3.length co60), (by first | rfl | (simp; done) | (simp [*]; done)), (by first | rfl | (simp; done) | (simp [*]; done)), H', ⟨by have := HJ4.out; have := HJ28.out; have := HK3.out; have := HJ56.out; omega⟩, ⟨by (with_reducible repeat (first | apply Kd.R_alloc | apply Kd.R_drewN | apply Kd.R_drew)); exact Kd.R_mono HO_12.out (fun _ hk => ⟨hk.1, hk.2.1⟩)⟩, ⟨by (with_reducible repeat (first | apply Kd.R_alloc | apply Kd.R_drewN | apply Kd.R_drew)); exact Kd.R_mono HO_284001.out (fun _ hk => ⟨hk.1, hk.2.1⟩)⟩, ⟨by (with_reducible repeat (first | apply Kd.R_alloc | apply Kd.R_drewN | apply Kd.R_drew)); exact Kd.R_mono HO_292001.out (fun _ hk => ⟨hk.1, hk.2.1⟩)⟩, ⟨by (with_reducible repeat (first | refine blk_drewN ?_ _ | refine blk_drew ?_ | refine blk_alloc ?_ _)); exact BK283.out⟩, ⟨by (with_reducible repeat (first | refine blk_drewN ?_ _ | refine blk_drew ?_ | refine blk_alloc ?_ _)); exact BK291.out⟩, ⟨by repeat (first | (with_reducible first | exact HB.out | apply below_alloc | apply pw_below_drewN | apply below_drew1 | refine below_set ?_ GE283.out | refine below_set ?_ GE291.out | refine below_set ?_ GE304.out) | exact HB.out)⟩⟩
                                        · rw [if_neg c71] at H
                                          have c71b0 : (t305 == 0) = false := beq_eq_false_iff_ne.mpr c71
                                          have c71b1 : (t305 != 0) = true := bne_iff_ne.mpr c71
                                          obtain rfl := Option.some.inj H
                                          have hnb76 := NB304_283.out
                                          have hnc76 := NB283_304.out
                                          have hnb77 := NB304_291.out
                                          have hnc77 := NB291_304.out
                                          have hcz78_0 : wc.cell? ⟨gb304, 0, none⟩ = some (.int .u64 t299) := (blk_cell BK304.out 0).trans rfl
                                          have hcz78_1 : wc.cell? ⟨gb304, 1, none⟩ = some (.slice Ao66 t300.length co66) := (blk_cell BK304.out 1).trans rfl
                                          have hfz78_0 := blk_frozen BK304.out 0
                                          have hfz78_1 := blk_frozen BK304.out 1
                                          go_wp2_with (first | (go_at_call 11; (with_reducible refine (bbt_Table_Blocks.calls t299 _ _ t300 t305 _ ?side1 ?side2 A70.out).mono ?_); (case side1 => repeat (first | exact (Kd.R_reads' HO_305001.out).2.2 | (with_reducible refine Kd.C_alloc ?_ _) | (with_reducible refine Kd.C_drewN ?_ _) | (with_reducible refine Kd.C_drew ?_))); (case side2 => exact (Kd.R_reads' HO_305001.out).2.1); rintro e w79 ⟨rfl, hb⟩; have n0_ := Aside0.mk (Kd.R_below (by (with_reducible repeat (first | apply Kd.R_alloc | apply Kd.R_drewN | apply Kd.R_drew)); exact HO_12.out) hb); have n1_ := Aside0.mk (Kd.R_below (by (with_reducible repeat (first | apply Kd.R_alloc | apply Kd.R_drewN | apply Kd.R_drew)); exact HO_284001.out) hb); have n2_ := Aside0.mk (Kd.R_below (by (with_reducible repeat (first | apply Kd.R_alloc | apply Kd.R_drewN | apply Kd.R_drew)); exact HO_292001.out) hb); have n3_ := Aside0.mk (Kd.R_below (by (with_reducible repeat (first | apply Kd.R_alloc | apply Kd.R_drewN | apply Kd.R_drew)); exact HO_305001.out) hb); have n4_ := Aside0.mk (blk_below (g := gb283) (o := .cells #[.int .u64 t278, .slice Ao9 t279.length co9] 26 (0, 0)) (by (with_reducible repeat (first | refine blk_drewN ?_ _ | refine blk_drew ?_ | refine blk_alloc ?_ _)); exact BK283.out) hb); have n5_ := Aside0.mk (blk_below (g := gb291) (o := .cells #[.int .u64 x292000_3, .slice Ao60 x292001_3.length co60] 26 (0, 0)) (by (with_reducible repeat (first | refine blk_drewN ?_ _ | refine blk_drew ?_ | refine blk_alloc ?_ _)); exact BK291.out) hb); have n6_ := Aside0.mk (blk_below (g := gb304) (o := .cells #[.int .u64 t299, .slice Ao66 t300.length co66] 26 (0, 0)) (by (with_reducible repeat (first | refine blk_drewN ?_ _ | refine blk_drew ?_ | refine blk_alloc ?_ _)); exact BK304.out) hb); have n7_ := Aside0.mk (below_step (by repeat (first | (with_reducible first | exact HB.out | apply below_alloc | apply pw_below_drewN | apply below_drew1 | refine below_set ?_ GE283.out | refine below_set ?_ GE291.out | refine below_set ?_ GE304.out) | exact HB.out)) hb); clear HO_12; clear HO_284001; clear HO_292001; clear HO_305001; clear BK283; clear BK291; clear BK304; clear HB; have HO_12 := n0_; have HO_284001 := n1_; have HO_292001 := n2_; have HO_305001 := n3_; have BK283 := n4_; have BK291 := n5_; have BK304 := n6_; have HB := n7_; clear n0_ n1_ n2_ n3_ n4_ n5_ n6_ n7_; (try clear hb); (try clear hb2); (try clear hk); (try clear hi)))
                                          go_ret
                                          exact ⟨by first | rfl | (simp [errW_none, errW_some] <;> rfl) | (simp only [← hji24, ← hji26, ← hji49]; first | rfl | (simp [errW_none, errW_some] <;> rfl)) | (simp [*, errW_none, errW_some] <;> rfl), by repeat (first | (with_reducible first | exact HB.out | apply below_alloc | apply pw_below_drewN | apply below_drew1 | refine below_set ?_ GE283.out | refine below_set ?_ GE291.out | refine below_set ?_ GE304.out) | exact HB.out)⟩
                                      · rw [if_neg c69] at H
                                        have c69b0 : (t303 == 3) = false := beq_eq_false_iff_ne.mpr c69
                                        have c69b1 : (t303 != 3) = true := bne_iff_ne.mpr c69
                                        obtain rfl := Option.some.inj H
                                        go_wp2
                                        go_ret
                                        exact ⟨by first | rfl | (simp [errW_none, errW_some] <;> rfl) | (simp only [← hji24, ← hji26, ← hji49]; first | rfl | (simp [errW_none, errW_some] <;> rfl)) | (simp [*, errW_none, errW_some] <;> rfl), by repeat (first | (with_reducible first | exact HB.out | apply below_alloc | apply pw_below_drewN | apply below_drew1 | refine below_set ?_ GE283.out | refine below_set ?_ GE291.out | refine below_set ?_ GE304.out) | exact HB.out)⟩
                                    · replace c68 := Bool.eq_false_iff.mpr c68
                                      subst c68
                                      have H1 : (if t303 = 0 then ((tillrolllaw09_same.f kj56 x292000_3 x292001_3 x13_3 x12_3).bind fun t306 => (tillrolllaw09_BbtGrows.j4 kj56 a2 ji26 x12_3 x13_3 (rd (l1.take ((ji49) : Int).toNat) x80_3) (l1.take ((ji49) : Int).toNat) ((l1.take ((ji49) : Int).toNat).length : Int) x80_3 (!t306) t299 t300)) else (tillrolllaw09_BbtGrows.j4 kj56 a2 ji26 x12_3 x13_3 (rd (l1.take ((ji49) : Int).toNat) x80_3) (l1.take ((ji49) : Int).toNat) ((l1.take ((ji49) : Int).toNat).length : Int) x80_3 true t299 t300)) = some r := by rw [if_neg (show ¬ (false = true) by decide)] at H; exact H
                                      clear H
                                      have H := H1
                                      clear H1
                                      have HC80 := Aside0.mk H
                                      clear H
                                      go_upto_region 17 with (fail)
                                      go_cut [112] (fun v112 wc => ∃ (kq : Nat) (x112_79 : Bool), v112 = .bool x112_79 ∧ Aside0 (tillrolllaw09_BbtGrows.j4 kq a2 ji26 x12_3 x13_3 (rd (l1.take ((ji49) : Int).toNat) x80_3) (l1.take ((ji49) : Int).toNat) ((l1.take ((ji49) : Int).toNat).length : Int) x80_3 x112_79 t299 t300 = some r) ∧ Aside0 (kq ≤ kj56) ∧ Aside0 (Kd.R Kd.bool 4 wc w.heap.size (fun k_ => some k_ ≠ ((.slice Ao9 t279.length co9) : Value).ownBlock ∧ some k_ ≠ ((.slice Ao60 x292001_3.length co60) : Value).ownBlock ∧ some k_ ≠ ((.slice Ao66 t300.length co66) : Value).ownBlock) v293 x12_3) ∧ Aside0 (Kd.R Kd.bool 4 wc w.heap.size (fun k_ => some k_ ≠ (v293 : Value).ownBlock ∧ some k_ ≠ ((.slice Ao60 x292001_3.length co60) : Value).ownBlock ∧ some k_ ≠ ((.slice Ao66 t300.length co66) : Value).ownBlock) (.slice Ao9 t279.length co9) t279) ∧ Aside0 (Kd.R Kd.bool 4 wc w.heap.size (fun k_ => some k_ ≠ (v293 : Value).ownBlock ∧ some k_ ≠ ((.slice Ao9 t279.length co9) : Value).ownBlock ∧ some k_ ≠ ((.slice Ao66 t300.length co66) : Value).ownBlock) (.slice Ao60 x292001_3.length co60) x292001_3) ∧ Aside0 (Kd.R Kd.bool 4 wc w.heap.size (fun k_ => some k_ ≠ (v293 : Value).ownBlock ∧ some k_ ≠ ((.slice Ao9 t279.length co9) : Value).ownBlock ∧ some k_ ≠ ((.slice Ao60 x292001_3.length co60) : Value).ownBlock) (.slice Ao66 t300.length co66) t300) ∧ Aside0 (wc.heap[gb283]? = some (.cells #[.int .u64 t278, (.slice Ao9 t279.length co9)] 26 (0, 0))) ∧ Aside0 (wc.heap[gb291]? = some (.cells #[.int .u64 x292000_3, (.slice Ao60 x292001_3.length co60)] 26 (0, 0))) ∧ Aside0 (wc.heap[gb304]? = some (.cells #[.int .u64 t299, (.slice Ao66 t300.length co66)] 26 (0, 0))) ∧ Aside0 (Below w.heap.size w wc))
                                      case first =>
                                        have H := HC80.out
                                        clear HC80
                                        by_cases c81 : t303 = 0
                                        · rw [if_pos c81] at H
                                          have c81b0 : (t303 == 0) = true := beq_iff_eq.mpr c81
                                          have c81b1 : (t303 != 0) = false := bne_eq_false_iff_eq.mpr c81
                                          clear c81
                                          (first | rw [c81b0] | (simp only [i64_w, i32_w]; rw [c81b0]) | skip)
                                          replace H := Option.bind_eq_some_iff.mp H
                                          obtain ⟨t306, A820, H⟩ := H
                                          replace H : (tillrolllaw09_BbtGrows.j4 kj56 a2 ji26 x12_3 x13_3 (rd (l1.take ((ji49) : Int).toNat) x80_3) (l1.take ((ji49) : Int).toNat) ((l1.take ((ji49) : Int).toNat).length : Int) x80_3 (!t306) t299 t300) = some r := H
                                          have A82 := Aside0.mk A820
                                          clear A820
                                          have H' := Aside0.mk H
                                          clear H
                                          have hnb83 := NB291_283.out
                                          have hnc83 := NB283_291.out
                                          have hnb84 := NB291_304.out
                                          have hnc84 := NB304_291.out
                                          have hcz85_0 : wc.cell? ⟨gb291, 0, none⟩ = some (.int .u64 x292000_3) := (blk_cell BK291.out 0).trans rfl
                                          have hcz85_1 : wc.cell? ⟨gb291, 1, none⟩ = some (.slice Ao60 x292001_3.length co60) := (blk_cell BK291.out 1).trans rfl
                                          have hfz85_0 := blk_frozen BK291.out 0
                                          have hfz85_1 := blk_frozen BK291.out 1
                                          obtain ⟨Ao86, co86, eo86⟩ := Kd.R_slice HO_12.out
                                          subst eo86
                                          go_wp2_with (first | (go_at_call 12; (with_reducible refine (tillrolllaw09_same.calls kj56 x292000_3 _ _ x292001_3 x13_3 _ _ x12_3 t306 _ ?side1 ?side2 ?side3 ?side4 A82.out).mono ?_); (case side1 => repeat (first | exact (Kd.R_reads' HO_292001.out).2.2 | (with_reducible refine Kd.C_alloc ?_ _) | (with_reducible refine Kd.C_drewN ?_ _) | (with_reducible refine Kd.C_drew ?_))); (case side2 => exact (Kd.R_reads' HO_292001.out).2.1); (case side3 => repeat (first | exact (Kd.R_reads' HO_12.out).2.2 | (with_reducible refine Kd.C_alloc ?_ _) | (with_reducible refine Kd.C_drewN ?_ _) | (with_reducible refine Kd.C_drew ?_))); (case side4 => exact (Kd.R_reads' HO_12.out).2.1); rintro e w87 ⟨rfl, hb⟩; have n0_ := Aside0.mk (Kd.R_below (by (with_reducible repeat (first | apply Kd.R_alloc | apply Kd.R_drewN | apply Kd.R_drew)); exact HO_12.out) hb); have n1_ := Aside0.mk (Kd.R_below (by (with_reducible repeat (first | apply Kd.R_alloc | apply Kd.R_drewN | apply Kd.R_drew)); exact HO_284001.out) hb); have n2_ := Aside0.mk (Kd.R_below (by (with_reducible repeat (first | apply Kd.R_alloc | apply Kd.R_drewN | apply Kd.R_drew)); exact HO_292001.out) hb); have n3_ := Aside0.mk (Kd.R_below (by (with_reducible repeat (first | apply Kd.R_alloc | apply Kd.R_drewN | apply Kd.R_drew)); exact HO_305001.out) hb); have n4_ := Aside0.mk (blk_below (g := gb283) (o := .cells #[.int .u64 t278, .slice Ao9 t279.length co9] 26 (0, 0)) (by (with_reducible repeat (first | refine blk_drewN ?_ _ | refine blk_drew ?_ | refine blk_alloc ?_ _)); exact BK283.out) hb); have n5_ := Aside0.mk (blk_below (g := gb291) (o := .cells #[.int .u64 x292000_3, .slice Ao60 x292001_3.length co60] 26 (0, 0)) (by (with_reducible repeat (first | refine blk_drewN ?_ _ | refine blk_drew ?_ | refine blk_alloc ?_ _)); exact BK291.out) hb); have n6_ := Aside0.mk (blk_below (g := gb304) (o := .cells #[.int .u64 t299, .slice Ao66 t300.length co66] 26 (0, 0)) (by (with_reducible repeat (first | refine blk_drewN ?_ _ | refine blk_drew ?_ | refine blk_alloc ?_ _)); exact BK304.out) hb); have n7_ := Aside0.mk (below_step (by repeat (first | (with_reducible first | exact HB.out | apply below_alloc | apply pw_below_drewN | apply below_drew1 | refine below_set ?_ GE283.out | refine below_set ?_ GE291.out | refine below_set ?_ GE304.out) | exact HB.out)) hb); clear HO_12; clear HO_284001; clear HO_292001; clear HO_305001; clear BK283; clear BK291; clear BK304; clear HB; have HO_12 := n0_; have HO_284001 := n1_; have HO_292001 := n2_; have HO_305001 := n3_; have BK283 := n4_; have BK291 := n5_; have BK304 := n6_; have HB := n7_; clear n0_ n1_ n2_ n3_ n4_ n5_ n6_ n7_; (try clear hb); (try clear hb2); (try clear hk); (try clear hi)))
                                          go_meet
                                          case rel => exact ⟨_, (!t306), (by first | rfl | (simp; done) | (simp [*]; done)), H', ⟨by have := HJ4.out; have := HJ28.out; have := HK3.out; have := HJ56.out; first | omega | exact Nat.le_refl _⟩, ⟨by (with_reducible repeat (first | apply Kd.R_alloc | apply Kd.R_drewN | apply Kd.R_drew)); exact HO_12.out⟩, ⟨by (with_reducible repeat (first | apply Kd.R_alloc | apply Kd.R_drewN | apply Kd.R_drew)); exact HO_284001.out⟩, ⟨by (with_reducible repeat (first | apply Kd.R_alloc | apply Kd.R_drewN | apply Kd.R_drew)); exact HO_292001.out⟩, ⟨by (with_reducible repeat (first | apply Kd.R_alloc | apply Kd.R_drewN | apply Kd.R_drew)); exact HO_305001.out⟩, ⟨by (with_reducible repeat (first | refine blk_drewN ?_ _ | refine blk_drew ?_ | refine blk_alloc ?_ _)); exact BK283.out⟩, ⟨by (with_reducible repeat (first | refine blk_drewN ?_ _ | refine blk_drew ?_ | refine blk_alloc ?_ _)); exact BK291.out⟩, ⟨by (with_reducible repeat (first | refine blk_drewN ?_ _ | refine blk_drew ?_ | refine blk_alloc ?_ _)); exact BK304.out⟩, ⟨by repeat (first | (with_reducible first | exact HB.out | apply below_alloc | apply pw_below_drewN | apply below_drew1 | refine below_set ?_ GE283.out | refine below_set ?_ GE291.out | refine below_set ?_ GE304.out) | exact HB.out)⟩⟩
                                        · rw [if_neg c81] at H
                                          have c81b0 : (t303 == 0) = false := beq_eq_false_iff_ne.mpr c81
                                          have c81b1 : (t303 != 0) = true := bne_iff_ne.mpr c81
                                          (first | rw [c81b0] | (simp only [i64_w, i32_w]; rw [c81b0]) | skip)
                                          have H' := Aside0.mk H
                                          clear H
                                          go_wp2
                                          go_meet
                                          case rel => exact ⟨_, (true), (by first | rfl | (simp; done) | (simp [*]; done)), H', ⟨by have := HJ4.out; have := HJ28.out; have := HK3.out; have := HJ56.out; first | omega | exact Nat.le_refl _⟩, ⟨by (with_reducible repeat (first | apply Kd.R_alloc | apply Kd.R_drewN | apply Kd.R_drew)); exact HO_12.out⟩, ⟨by (with_reducible repeat (first | apply Kd.R_alloc | apply Kd.R_drewN | apply Kd.R_drew)); exact HO_284001.out⟩, ⟨by (with_reducible repeat (first | apply Kd.R_alloc | apply Kd.R_drewN | apply Kd.R_drew)); exact HO_292001.out⟩, ⟨by (with_reducible repeat (first | apply Kd.R_alloc | apply Kd.R_drewN | apply Kd.R_drew)); exact HO_305001.out⟩, ⟨by (with_reducible repeat (first | refine blk_drewN ?_ _ | refine blk_drew ?_ | refine blk_alloc ?_ _)); exact BK283.out⟩, ⟨by (with_reducible repeat (first | refine blk_drewN ?_ _ | refine blk_drew ?_ | refine blk_alloc ?_ _)); exact BK291.out⟩, ⟨by (with_reducible repeat (first | refine blk_drewN ?_ _ | refine blk_drew ?_ | refine blk_alloc ?_ _)); exact BK304.out⟩, ⟨by repeat (first | (with_reducible first | exact HB.out | apply below_alloc | apply pw_below_drewN | apply below_drew1 | refine below_set ?_ GE283.out | refine below_set ?_ GE291.out | refine below_set ?_ GE304.out) | exact HB.out)⟩⟩
                                      case rest =>
                                        clear HC80
                                        try clear c1
                                        try clear c2
                                        try clear p2
                                        try clear q2
                                        try clear hx2
                                        try clear c3
                                        try clear c4
                                        try clear c5
                                        try clear c6
                                        try clear p6
                                        try clear c7
                                        try clear c8
                                        try clear c10
                                        try clear c10b0
                                        try clear c11
                                        try clear c11b0
                                        try clear c11b1
                                        try clear c11b2
                                        try clear c12
                                        try clear c12b0
                                        try clear c12b1
                                        try clear c13
                                        try clear c13b0
                                        try clear c13b1
                                        try clear c17
                                        try clear c17b0
                                        try clear c17b1
                                        try clear c17b2
                                        try clear c18
                                        try clear c18b0
                                        try clear c18b1
                                        try clear c19
                                        try clear c19b0
                                        try clear c19b1
                                        try clear c23
                                        try clear c27
                                        try clear c27b0
                                        try clear c27b1
                                        try clear c28
                                        try clear c28b0
                                        try clear c28b1
                                        try clear p29
                                        try clear q29
                                        try clear hx29
                                        try clear c32
                                        try clear c38
                                        try clear c39
                                        try clear c39b0
                                        try clear c39b1
                                        try clear c42
                                        try clear c48
                                        try clear c50
                                        try clear c50b0
                                        try clear c50b1
                                        try clear c51
                                        try clear c51b0
                                        try clear c51b1
                                        try clear c53
                                        try clear c53b0
                                        try clear c54
                                        try clear c54b0
                                        try clear c55
                                        try clear c55b0
                                        try clear c58
                                        try clear c63
                                        try clear c64
                                        try clear p64
                                        try clear c67
                                        try clear c67b0
                                        try clear c68
                                        try clear c69
                                        try clear c69b0
                                        try clear c69b1
                                        try clear c71
                                        try clear c71b0
                                        try clear c71b1
                                        try clear c72
                                        try clear c73
                                        try clear c76
                                        try clear c77
                                        try clear c81
                                        try clear c81b0
                                        try clear c81b1
                                        try clear c83
                                        try clear c84
                                        try clear hcz15_0
                                        try clear hcz15_1
                                        try clear hcz21_0
                                        try clear hcz21_1
                                        try clear hcz33_0
                                        try clear hcz33_1
                                        try clear hcz43_0
                                        try clear hcz43_1
                                        try clear hcz59_0
                                        try clear hcz59_1
                                        try clear hcz65_0
                                        try clear hcz65_1
                                        try clear hcz74_0
                                        try clear hcz74_1
                                        try clear hcz78_0
                                        try clear hcz78_1
                                        try clear hcz85_0
                                        try clear hcz85_1
                                        try clear hcz8_0
                                        try clear hcz8_1
                                        try clear hfz15_0
                                        try clear hfz15_1
                                        try clear hfz21_0
                                        try clear hfz21_1
                                        try clear hfz33_0
                                        try clear hfz33_1
                                        try clear hfz43_0
                                        try clear hfz43_1
                                        try clear hfz59_0
                                        try clear hfz59_1
                                        try clear hfz65_0
                                        try clear hfz65_1
                                        try clear hfz74_0
                                        try clear hfz74_1
                                        try clear hfz78_0
                                        try clear hfz78_1
                                        try clear hfz85_0
                                        try clear hfz85_1
                                        try clear hfz8_0
                                        try clear hfz8_1
                                        try clear hx298_0
                                        try clear p2
                                        try clear p29
                                        try clear p298
                                        try clear q2
                                        try clear q29
                                        try clear q298
                                        obtain ⟨kq, x112_79, rfl, HA, HJ79, HO_12, HO_284001, HO_292001, HO_305001, BK283, BK291, BK304, HB⟩ := hcut
                                        cases kq with
                                        | zero => exact absurd HA.out (by simp [tillrolllaw09_BbtGrows.j4])
                                        | succ kj79 =>
                                          have H := HA.out
                                          clear HA
                                          simp only [tillrolllaw09_BbtGrows.j4] at H
                                          by_cases c88 : x112_79 = true
                                          · subst c88
                                            have H1 : (some false) = some r := by rw [if_pos rfl] at H; exact H
                                            clear H
                                            have H := H1
                                            clear H1
                                            obtain rfl := Option.some.inj H
                                            go_wp2
                                            go_ret
                                            exact ⟨by first | rfl | (simp [errW_none, errW_some] <;> rfl) | (simp only [← hji24, ← hji26, ← hji49]; first | rfl | (simp [errW_none, errW_some] <;> rfl)) | (simp [*, errW_none, errW_some] <;> rfl), by repeat (first | (with_reducible first | exact HB.out | apply below_alloc | apply pw_below_drewN | apply below_drew1 | refine below_set ?_ GE283.out | refine below_set ?_ GE291.out | refine below_set ?_ GE304.out) | exact HB.out)⟩
                                          · replace c88 := Bool.eq_false_iff.mpr c88
                                            subst c88
                                            have H1 : (if 0 ≤ (rd (l1.take ((ji49) : Int).toNat) x80_3) then (if (rd (l1.take ((ji49) : Int).toNat) x80_3) < (x12_3.length : Int) then ((some (x12_3.set ((rd (l1.take ((ji49) : Int).toNat) x80_3) : Int).toNat true : List Bool)).bind fun y307 => ((tillrolllaw09_same.f kj79 t299 t300 (IntKind.u64.wrap (x13_3 + 1)) y307).bind fun t308 => (if t308 = true then ((some (([a2, (mx 0 a2) % 1100] : List Int) : List Int)).bind fun y309 => (tillrolllaw09_BbtGrows.l1 kj79 a2 ji26 y307 (IntKind.u64.wrap (x13_3 + 1)) (l1.take ((ji49) : Int).toNat) ((l1.take ((ji49) : Int).toNat).length : Int) x80_3 y309 (y309.length : Int) 0 t299 t300)) else (some false)))) else (none)) else (none)) = some r := by rw [if_neg (show ¬ (false = true) by decide)] at H; exact H
                                            clear H
                                            have H := H1
                                            clear H1
                                            by_cases c89 : 0 ≤ (rd (l1.take ((ji49) : Int).toNat) x80_3)
                                            · rw [if_pos c89] at H
                                              have c89b0 : decide (0 ≤ (rd (l1.take ((ji49) : Int).toNat) x80_3)) = true := decide_eq_true c89
                                              clear c89
                                              by_cases c90 : (rd (l1.take ((ji49) : Int).toNat) x80_3) < (x12_3.length : Int)
                                              · rw [if_pos c90] at H
                                                have c90b0 : decide ((rd (l1.take ((ji49) : Int).toNat) x80_3) < (x12_3.length : Int)) = true := decide_eq_true c90
                                                clear c90
                                                obtain ⟨y307, hy307⟩ : ∃ y_ : List Bool, y_ = (x12_3.set ((rd (l1.take ((ji49) : Int).toNat) x80_3) : Int).toNat true) := ⟨_, rfl⟩
                                                replace H : ((tillrolllaw09_same.f kj79 t299 t300 (IntKind.u64.wrap (x13_3 + 1)) y307).bind fun t308 => (if t308 = true then ((some (([a2, (mx 0 a2) % 1100] : List Int) : List Int)).bind fun y309 => (tillrolllaw09_BbtGrows.l1 kj79 a2 ji26 y307 (IntKind.u64.wrap (x13_3 + 1)) (l1.take ((ji49) : Int).toNat) ((l1.take ((ji49) : Int).toNat).length : Int) x80_3 y309 (y309.length : Int) 0 t299 t300)) else (some false))) = some r := by first | (rw [hy307]; with_reducible exact H) | (have H2_ := (Option.bind_some _ _).symm.trans H; rw [hy307]; with_reducible exact H2_) | (have H2_ := (Option.bind_some _ _).symm.trans H; with_reducible exact H2_) | with_reducible exact H | (rw [hy307]; exact H) | exact H
                                                have Ny307 := Aside0.mk hy307
                                                clear hy307
                                                replace H := Option.bind_eq_some_iff.mp H
                                                obtain ⟨t308, A920, H⟩ := H
                                                replace H : (if t308 = true then ((some (([a2, (mx 0 a2) % 1100] : List Int) : List Int)).bind fun y309 => (tillrolllaw09_BbtGrows.l1 kj79 a2 ji26 y307 (IntKind.u64.wrap (x13_3 + 1)) (l1.take ((ji49) : Int).toNat) ((l1.take ((ji49) : Int).toNat).length : Int) x80_3 y309 (y309.length : Int) 0 t299 t300)) else (some false)) = some r := H
                                                have A92 := Aside0.mk A920
                                                clear A920
                                                by_cases c93 : t308 = true
                                                · subst c93
                                                  have H1 : ((some (([a2, (mx 0 a2) % 1100] : List Int) : List Int)).bind fun y309 => (tillrolllaw09_BbtGrows.l1 kj79 a2 ji26 y307 (IntKind.u64.wrap (x13_3 + 1)) (l1.take ((ji49) : Int).toNat) ((l1.take ((ji49) : Int).toNat).length : Int) x80_3 y309 (y309.length : Int) 0 t299 t300)) = some r := by rw [if_pos rfl] at H; exact H
                                                  clear H
                                                  have H := H1
                                                  clear H1
                                                  obtain ⟨ji94, hji94⟩ : ∃ j_ : Int, (mx 0 a2) = j_ := ⟨_, rfl⟩
                                                  replace H : ((some (([a2, (ji94) % 1100] : List Int) : List Int)).bind fun y309 => (tillrolllaw09_BbtGrows.l1 kj79 a2 ji26 y307 (IntKind.u64.wrap (x13_3 + 1)) (l1.take ((ji49) : Int).toNat) ((l1.take ((ji49) : Int).toNat).length : Int) x80_3 y309 (y309.length : Int) 0 t299 t300)) = some r := by first | (rw [hji94] at H; exact H) | (simp only [hji94] at H ⊢; exact H)
                                                  (try rw [hji94] at A92)
                                                  have hji94_ : (if 0 < a2 then a2 else 0) = ji94 := hji94
                                                  obtain ⟨y309, hy309⟩ : ∃ y_ : List Int, y_ = (([a2, (ji94) % 1100] : List Int)) := ⟨_, rfl⟩
                                                  replace H : (tillrolllaw09_BbtGrows.l1 kj79 a2 ji26 y307 (IntKind.u64.wrap (x13_3 + 1)) (l1.take ((ji49) : Int).toNat) ((l1.take ((ji49) : Int).toNat).length : Int) x80_3 y309 (y309.length : Int) 0 t299 t300) = some r := by first | (rw [hy309]; with_reducible exact H) | (have H2_ := (Option.bind_some _ _).symm.trans H; rw [hy309]; with_reducible exact H2_) | (have H2_ := (Option.bind_some _ _).symm.trans H; with_reducible exact H2_) | with_reducible exact H | (rw [hy309]; exact H) | exact H
                                                  have Ny309 := Aside0.mk hy309
                                                  clear hy309
                                                  have H' := Aside0.mk H
                                                  clear H
                                                  have hnb95 := NB304_283.out
                                                  have hnc95 := NB283_304.out
                                                  have hnb96 := NB304_291.out
                                                  have hnc96 := NB291_304.out
                                                  have hcz97_0 : wc.cell? ⟨gb304, 0, none⟩ = some (.int .u64 t299) := (blk_cell BK304.out 0).trans rfl
                                                  have hcz97_1 : wc.cell? ⟨gb304, 1, none⟩ = some (.slice Ao66 t300.length co66) := (blk_cell BK304.out 1).trans rfl
                                                  have hfz97_0 := blk_frozen BK304.out 0
                                                  have hfz97_1 := blk_frozen BK304.out 1
                                                  have hnb98 := NB291_283.out
                                                  have hnc98 := NB283_291.out
                                                  have hcz99_0 : wc.cell? ⟨gb291, 0, none⟩ = some (.int .u64 x292000_3) := (blk_cell BK291.out 0).trans rfl
                                                  have hcz99_1 : wc.cell? ⟨gb291, 1, none⟩ = some (.slice Ao60 x292001_3.length co60) := (blk_cell BK291.out 1).trans rfl
                                                  have hfz99_0 := blk_frozen BK291.out 0
                                                  have hfz99_1 := blk_frozen BK291.out 1
                                                  go_wp2_with (first | ((with_reducible refine gate_store (t := 26) (p := 10) rfl ?_); refine store_event (t := 26) (p := 10) (v := ?vo_w100) (w1 := ((wc.setCell ⟨gb291, 0, none⟩ (.int .u64 t299)).setCell ⟨gb291, 1, none⟩ (.slice Ao66 t300.length co66))) ?hg ?ho ?hn ?hr ?_; (case ho => rfl); (case hg => rfl); (case hn => rfl); (case hr => first | (go_simp; done) | (go_simp; rfl)); intro w100 hw; have n0_ : Aside0 (Kd.R Kd.bool 4 w100 w.heap.size (fun k_ => some k_ ≠ (.slice Ao9 t279.length co9 : Value).ownBlock ∧ some k_ ≠ (.slice Ao60 x292001_3.length co60 : Value).ownBlock ∧ some k_ ≠ (.slice Ao66 t300.length co66 : Value).ownBlock) v293 x12_3) := ⟨(by rw [hw]; exact (by (with_reducible repeat (first | apply Kd.R_alloc | apply Kd.R_drewN | apply Kd.R_drew)); exact Kd.R_mono (Kd.R_far (p := ⟨gb291, 1, none⟩) (Kd.R_far (p := ⟨gb291, 0, none⟩) (Kd.R_types HO_12.out BK291.out (by decide)) (fun _ hk => hk.2) (.int .u64 t299)) (fun _ hk => hk.2) (.slice Ao66 t300.length co66)) (fun _ hk => ⟨hk.1.1, ⟨hk.1.2.1, hk.1.2.2⟩⟩)))⟩; have n1_ : Aside0 (Kd.R Kd.bool 4 w100 w.heap.size (fun k_ => some k_ ≠ (v293 : Value).ownBlock ∧ some k_ ≠ (.slice Ao60 x292001_3.length co60 : Value).ownBlock ∧ some k_ ≠ (.slice Ao66 t300.length co66 : Value).ownBlock) (.slice Ao9 t279.length co9) t279) := ⟨(by rw [hw]; exact (by (with_reducible repeat (first | apply Kd.R_alloc | apply Kd.R_drewN | apply Kd.R_drew)); exact Kd.R_mono (Kd.R_far (p := ⟨gb291, 1, none⟩) (Kd.R_far (p := ⟨gb291, 0, none⟩) (Kd.R_types HO_284001.out BK291.out (by decide)) (fun _ hk => hk.2) (.int .u64 t299)) (fun _ hk => hk.2) (.slice Ao66 t300.length co66)) (fun _ hk => ⟨hk.1.1, ⟨hk.1.2.1, hk.1.2.2⟩⟩)))⟩; have n2_ : Aside0 (Kd.R Kd.bool 4 w100 w.heap.size (fun k_ => some k_ ≠ (v293 : Value).ownBlock ∧ some k_ ≠ (.slice Ao9 t279.length co9 : Value).ownBlock ∧ some k_ ≠ (.slice Ao66 t300.length co66 : Value).ownBlock) (.slice Ao60 x292001_3.length co60) x292001_3) := ⟨(by rw [hw]; exact (by (with_reducible repeat (first | apply Kd.R_alloc | apply Kd.R_drewN | apply Kd.R_drew)); exact Kd.R_mono (Kd.R_far (p := ⟨gb291, 1, none⟩) (Kd.R_far (p := ⟨gb291, 0, none⟩) (Kd.R_types HO_292001.out BK291.out (by decide)) (fun _ hk => hk.2) (.int .u64 t299)) (fun _ hk => hk.2) (.slice Ao66 t300.length co66)) (fun _ hk => ⟨hk.1.1, ⟨hk.1.2.1, hk.1.2.2⟩⟩)))⟩; have n3_ : Aside0 (Kd.R Kd.bool 4 w100 w.heap.size (fun k_ => some k_ ≠ (v293 : Value).ownBlock ∧ some k_ ≠ (.slice Ao9 t279.length co9 : Value).ownBlock ∧ some k_ ≠ (.slice Ao60 x292001_3.length co60 : Value).ownBlock) (.slice Ao66 t300.length co66) t300) := ⟨(by rw [hw]; exact (by (with_reducible repeat (first | apply Kd.R_alloc | apply Kd.R_drewN | apply Kd.R_drew)); exact Kd.R_mono (Kd.R_far (p := ⟨gb291, 1, none⟩) (Kd.R_far (p := ⟨gb291, 0, none⟩) (Kd.R_types HO_305001.out BK291.out (by decide)) (fun _ hk => hk.2) (.int .u64 t299)) (fun _ hk => hk.2) (.slice Ao66 t300.length co66)) (fun _ hk => ⟨hk.1.1, ⟨hk.1.2.1, hk.1.2.2⟩⟩)))⟩; have n4_ : Aside0 (w100.heap[gb283]? = some (.cells #[.int .u64 t278, .slice Ao9 t279.length co9] 26 (0, 0))) := ⟨(by rw [hw]; exact (by (with_reducible repeat (first | refine blk_drewN ?_ _ | refine blk_drew ?_ | refine blk_alloc ?_ _)); refine blk_far ?_ NB283_291.out _; (with_reducible repeat (first | refine blk_drewN ?_ _ | refine blk_drew ?_ | refine blk_alloc ?_ _)); refine blk_far ?_ NB283_291.out _; (with_reducible repeat (first | refine blk_drewN ?_ _ | refine blk_drew ?_ | refine blk_alloc ?_ _)); exact BK283.out))⟩; have n5_ : Aside0 (w100.heap[gb291]? = some (.cells #[.int .u64 t299, .slice Ao66 t300.length co66] 26 (0, 0))) := ⟨(by rw [hw]; exact (by (with_reducible repeat (first | refine blk_drewN ?_ _ | refine blk_drew ?_ | refine blk_alloc ?_ _)); refine blk_put (cs := #[.int .u64 t299, .slice Ao60 x292001_3.length co60]) ?_ 1 _ rfl; (with_reducible repeat (first | refine blk_drewN ?_ _ | refine blk_drew ?_ | refine blk_alloc ?_ _)); refine blk_put (cs := #[.int .u64 x292000_3, .slice Ao60 x292001_3.length co60]) ?_ 0 _ rfl; (with_reducible repeat (first | refine blk_drewN ?_ _ | refine blk_drew ?_ | refine blk_alloc ?_ _)); exact BK291.out))⟩; have n6_ : Aside0 (w100.heap[gb304]? = some (.cells #[.int .u64 t299, .slice Ao66 t300.length co66] 26 (0, 0))) := ⟨(by rw [hw]; exact (by (with_reducible repeat (first | refine blk_drewN ?_ _ | refine blk_drew ?_ | refine blk_alloc ?_ _)); refine blk_far ?_ NB304_291.out _; (with_reducible repeat (first | refine blk_drewN ?_ _ | refine blk_drew ?_ | refine blk_alloc ?_ _)); refine blk_far ?_ NB304_291.out _; (with_reducible repeat (first | refine blk_drewN ?_ _ | refine blk_drew ?_ | refine blk_alloc ?_ _)); exact BK304.out))⟩; have n7_ : Aside0 (Below w.heap.size w w100) := ⟨(by rw [hw]; exact (by repeat (first | (with_reducible first | exact HB.out | apply below_alloc | apply pw_below_drewN | apply below_drew1 | refine below_set ?_ GE283.out | refine below_set ?_ GE291.out | refine below_set ?_ GE304.out) | exact HB.out)))⟩; clear hw; clear HO_12; clear HO_284001; clear HO_292001; clear HO_305001; clear BK283; clear BK291; clear BK304; clear HB; have HO_12 := n0_; have HO_284001 := n1_; have HO_292001 := n2_; have HO_305001 := n3_; have BK283 := n4_; have BK291 := n5_; have BK304 := n6_; have HB := n7_; clear n0_ n1_ n2_ n3_ n4_ n5_ n6_ n7_; have p91 : 0 ≤ ((rd (l1.take ((ji49) : Int).toNat) x80_3) : Int) := of_decide_eq_true (by first | (with_reducible assumption) | assumption); have q91 : ((rd (l1.take ((ji49) : Int).toNat) x80_3) : Int) < ((x12_3.length : Int) : Int) := of_decide_eq_true (by first | (with_reducible assumption) | assumption); obtain ⟨go91, co91, eo91, gb91, gl91, cl91, HG91⟩ := Kd.R_form HO_12.out (by omega); (first | cases eo91 | (injection eo91 with ea_ en_ ec_; (first | subst ea_ | (injection ea_ with ea_; subst ea_)); subst ec_; clear en_)); have GB91 := Aside0.mk gb91; have GG91 := Aside0.mk HG91; clear gb91 gl91 HG91; obtain ⟨hx91_0, hf91_0⟩ := Kd.R_celln false HO_12.out ((rd (l1.take ((ji49) : Int).toNat) x80_3) : Int) p91 q91; replace p91 := eq_true p91; replace q91 := eq_true q91; obtain ⟨hy101_, hz101_⟩ := Kd.R_celln false HO_12.out ((rd (l1.take ((ji49) : Int).toNat) x80_3) : Int) (of_decide_eq_true (by first | (with_reducible assumption) | assumption)) (of_decide_eq_true (by first | (with_reducible assumption) | assumption)); have HP101 := Kd.R_putg HO_12.out ((rd (l1.take ((ji49) : Int).toNat) x80_3) : Int) true) | ((with_reducible refine gate_store (t := 4) (p := 118) rfl ?_); refine store_event (t := 4) (p := 118) (v := ?vo_w102) (w1 := (w100.setCell ⟨go91, ((rd (l1.take ((ji49) : Int).toNat) x80_3) : Int).toNat, none⟩ (.bool true))) ?hg ?ho ?hn ?hr ?_; (case ho => rfl); (case hg => rfl); (case hn => rfl); (case hr => first | (go_simp; done) | (go_simp; rfl)); intro w102 hw; have hg : w100.grownBy w102 (some go91) := (by rw [hw]; exact HP101.2); have hp_ : Kd.R Kd.bool 4 w102 w.heap.size (fun k_ => some k_ ≠ (.slice Ao9 t279.length co9 : Value).ownBlock ∧ some k_ ≠ (.slice Ao60 x292001_3.length co60 : Value).ownBlock ∧ some k_ ≠ (.slice Ao66 t300.length co66 : Value).ownBlock) (.slice (some ⟨go91, 0, none⟩) x12_3.length co91) y307 := (by rw [hw, Ny307.out]; exact HP101.1); clear HP101; have n0_ := Aside0.mk (hp_); have n1_ := Aside0.mk (Kd.R_after (v := (.slice (some ⟨go91, 0, none⟩) x12_3.length co91)) (v1 := (.slice (some ⟨go91, 0, none⟩) x12_3.length co91)) (ok := (fun k_ => some k_ ≠ (.slice Ao60 x292001_3.length co60 : Value).ownBlock ∧ some k_ ≠ (.slice Ao66 t300.length co66 : Value).ownBlock)) (by (with_reducible repeat (first | apply Kd.R_alloc | apply Kd.R_drewN | apply Kd.R_drew)); exact Kd.R_mono HO_284001.out (fun _ hk => ⟨⟨hk.2.1, hk.2.2⟩, hk.1⟩)) hg (.inl rfl)); have n2_ := Aside0.mk (Kd.R_after (v := (.slice (some ⟨go91, 0, none⟩) x12_3.length co91)) (v1 := (.slice (some ⟨go91, 0, none⟩) x12_3.length co91)) (ok := (fun k_ => some k_ ≠ (.slice Ao9 t279.length co9 : Value).ownBlock ∧ some k_ ≠ (.slice Ao66 t300.length co66 : Value).ownBlock)) (by (with_reducible repeat (first | apply Kd.R_alloc | apply Kd.R_drewN | apply Kd.R_drew)); exact Kd.R_mono HO_292001.out (fun _ hk => ⟨⟨hk.2.1, hk.2.2⟩, hk.1⟩)) hg (.inl rfl)); have n3_ := Aside0.mk (Kd.R_after (v := (.slice (some ⟨go91, 0, none⟩) x12_3.length co91)) (v1 := (.slice (some ⟨go91, 0, none⟩) x12_3.length co91)) (ok := (fun k_ => some k_ ≠ (.slice Ao9 t279.length co9 : Value).ownBlock ∧ some k_ ≠ (.slice Ao60 x292001_3.length co60 : Value).ownBlock)) (by (with_reducible repeat (first | apply Kd.R_alloc | apply Kd.R_drewN | apply Kd.R_drew)); exact Kd.R_mono HO_305001.out (fun _ hk => ⟨⟨hk.2.1, hk.2.2⟩, hk.1⟩)) hg (.inl rfl)); have n4_ := Aside0.mk (blk_grown (g := gb283) (o := .cells #[.int .u64 t278, .slice Ao9 t279.length co9] 26 (0, 0)) (by (with_reducible repeat (first | refine blk_drewN ?_ _ | refine blk_drew ?_ | refine blk_alloc ?_ _)); exact BK283.out) hg (Kd.R_ne HO_12.out BK283.out (by decide))); have n5_ := Aside0.mk (blk_grown (g := gb291) (o := .cells #[.int .u64 t299, .slice Ao66 t300.length co66] 26 (0, 0)) (by (with_reducible repeat (first | refine blk_drewN ?_ _ | refine blk_drew ?_ | refine blk_alloc ?_ _)); exact BK291.out) hg (Kd.R_ne HO_12.out BK291.out (by decide))); have n6_ := Aside0.mk (blk_grown (g := gb304) (o := .cells #[.int .u64 t299, .slice Ao66 t300.length co66] 26 (0, 0)) (by (with_reducible repeat (first | refine blk_drewN ?_ _ | refine blk_drew ?_ | refine blk_alloc ?_ _)); exact BK304.out) hg (Kd.R_ne HO_12.out BK304.out (by decide))); have n7_ := Aside0.mk ((by rw [hw]; exact below_set (HB.out) GB91.out : Below w.heap.size w w102)); clear HO_12; clear HO_284001; clear HO_292001; clear HO_305001; clear BK283; clear BK291; clear BK304; clear HB; have HO_12 := n0_; have HO_284001 := n1_; have HO_292001 := n2_; have HO_305001 := n3_; have BK283 := n4_; have BK291 := n5_; have BK304 := n6_; have HB := n7_; clear n0_ n1_ n2_ n3_ n4_ n5_ n6_ n7_; clear hg hw hp_; have hcz103_0 : w102.cell? ⟨gb291, 0, none⟩ = some (.int .u64 t299) := (blk_cell BK291.out 0).trans rfl; have hcz103_1 : w102.cell? ⟨gb291, 1, none⟩ = some (.slice Ao66 t300.length co66) := (blk_cell BK291.out 1).trans rfl; have hfz103_0 := blk_frozen BK291.out 0; have hfz103_1 := blk_frozen BK291.out 1) | ((with_reducible refine gate_callee (f := 12) rfl ?_); refine goesL_ (some 122) rfl rfl Try.func12 (by kernel_rfl) rfl #[.agg #[.int .u64 t299, .slice Ao66 t300.length co66], .int .u64 (IntKind.u64.wrap (x13_3 + 1)), .slice (some ⟨go91, 0, none⟩) y307.length co91] rfl (by (try simp only [List.map_toArray, List.map_cons, List.map_nil]); first | done | (rw [show y307.length = x12_3.length from (Kd.R_reads' HO_12.out).1.symm] <;> rfl) | rfl | (simp only [List.length_drop, List.length_take]; rfl) | (simp only [ByteArray.size_append]; rfl) | (simp only [ByteArray.size_extract]; rfl)) ?_; (with_reducible refine (tillrolllaw09_same.calls kj79 t299 _ _ t300 (IntKind.u64.wrap (x13_3 + 1)) _ _ y307 true _ ?side1 ?side2 ?side3 ?side4 A92.out).mono ?_); (case side1 => repeat (first | exact (Kd.R_reads' HO_305001.out).2.2 | (with_reducible refine Kd.C_alloc ?_ _) | (with_reducible refine Kd.C_drewN ?_ _) | (with_reducible refine Kd.C_drew ?_))); (case side2 => exact (Kd.R_reads' HO_305001.out).2.1); (case side3 => repeat (first | exact (Kd.R_reads' HO_12.out).2.2 | (with_reducible refine Kd.C_alloc ?_ _) | (with_reducible refine Kd.C_drewN ?_ _) | (with_reducible refine Kd.C_drew ?_))); (case side4 => rw [show y307.length = x12_3.length from (Kd.R_reads' HO_12.out).1.symm]; exact (Kd.R_reads' HO_12.out).2.1); rintro e w104 ⟨rfl, hb⟩; refine ⟨_, rfl, ?_⟩; have n0_ := Aside0.mk (Kd.R_below (by (with_reducible repeat (first | apply Kd.R_alloc | apply Kd.R_drewN | apply Kd.R_drew)); exact HO_12.out) hb); have n1_ := Aside0.mk (Kd.R_below (by (with_reducible repeat (first | apply Kd.R_alloc | apply Kd.R_drewN | apply Kd.R_drew)); exact HO_284001.out) hb); have n2_ := Aside0.mk (Kd.R_below (by (with_reducible repeat (first | apply Kd.R_alloc | apply Kd.R_drewN | apply Kd.R_drew)); exact HO_292001.out) hb); have n3_ := Aside0.mk (Kd.R_below (by (with_reducible repeat (first | apply Kd.R_alloc | apply Kd.R_drewN | apply Kd.R_drew)); exact HO_305001.out) hb); have n4_ := Aside0.mk (blk_below (g := gb283) (o := .cells #[.int .u64 t278, .slice Ao9 t279.length co9] 26 (0, 0)) (by (with_reducible repeat (first | refine blk_drewN ?_ _ | refine blk_drew ?_ | refine blk_alloc ?_ _)); exact BK283.out) hb); have n5_ := Aside0.mk (blk_below (g := gb291) (o := .cells #[.int .u64 t299, .slice Ao66 t300.length co66] 26 (0, 0)) (by (with_reducible repeat (first | refine blk_drewN ?_ _ | refine blk_drew ?_ | refine blk_alloc ?_ _)); exact BK291.out) hb); have n6_ := Aside0.mk (blk_below (g := gb304) (o := .cells #[.int .u64 t299, .slice Ao66 t300.length co66] 26 (0, 0)) (by (with_reducible repeat (first | refine blk_drewN ?_ _ | refine blk_drew ?_ | refine blk_alloc ?_ _)); exact BK304.out) hb); have n7_ := Aside0.mk (below_step (by repeat (first | (with_reducible first | exact HB.out | apply below_alloc | apply pw_below_drewN | apply below_drew1 | refine below_set ?_ GE283.out | refine below_set ?_ GE291.out | refine below_set ?_ GE304.out) | exact HB.out)) hb); clear HO_12; clear HO_284001; clear HO_292001; clear HO_305001; clear BK283; clear BK291; clear BK304; clear HB; have HO_12 := n0_; have HO_284001 := n1_; have HO_292001 := n2_; have HO_305001 := n3_; have BK283 := n4_; have BK291 := n5_; have BK304 := n6_; have HB := n7_; clear n0_ n1_ n2_ n3_ n4_ n5_ n6_ n7_; (try clear hb); (try clear hb2); (try clear hk); (try clear hi)) | ((with_reducible refine gate_dst (N := 128) rfl ?_); refine Kd.R_lit (Kd.int .i64) _ 3 ?hg (N := 128) ?hd (xs := ([a2, (ji94) % 1100] : List Int)) (inner := [.int .i64 a2, .int .i64 ((ji94) % 1100)]) (ok := fun _ => True) (okp := fun _ => True) ?hr ?hp (fun _ hk => hk) trivial (Below.refl _ _) (Nat.le_refl _) (by simp) ?_; (case hd => rfl); (case hg => rfl); (case hr => first | (go_simp; done) | (go_simp; rfl)); (case hp => exact (Reps.one (show Kd.M (Kd.int .i64) _ _ _ a2 [.int .i64 a2] from rfl) (Reps.one (show Kd.M (Kd.int .i64) _ _ _ ((ji94) % 1100) [.int .i64 ((ji94) % 1100)] from rfl) (Reps.none _ _)))); intro v310 w105 ho106 hb hg_ hnew_; clear hg_ hnew_; (first | rw [← Ny309.out] at ho106 | (simp only [Int.reduceToNat] at ho106; rw [← Ny309.out] at ho106)); have n0_ := Aside0.mk (Kd.R_below (by (with_reducible repeat (first | apply Kd.R_alloc | apply Kd.R_drewN | apply Kd.R_drew)); exact HO_12.out) hb); have n1_ := Aside0.mk (Kd.R_below (by (with_reducible repeat (first | apply Kd.R_alloc | apply Kd.R_drewN | apply Kd.R_drew)); exact HO_284001.out) hb); have n2_ := Aside0.mk (Kd.R_below (by (with_reducible repeat (first | apply Kd.R_alloc | apply Kd.R_drewN | apply Kd.R_drew)); exact HO_292001.out) hb); have n3_ := Aside0.mk (Kd.R_below (by (with_reducible repeat (first | apply Kd.R_alloc | apply Kd.R_drewN | apply Kd.R_drew)); exact HO_305001.out) hb); have n4_ := Aside0.mk (Kd.R_lower ho106 (below_size (by repeat (first | (with_reducible first | exact HB.out | apply below_alloc | apply pw_below_drewN | apply below_drew1 | refine below_set ?_ GE283.out | refine below_set ?_ GE291.out | refine below_set ?_ GE304.out) | exact HB.out)))); have n5_ := Aside0.mk (blk_below (g := gb283) (o := .cells #[.int .u64 t278, .slice Ao9 t279.length co9] 26 (0, 0)) (by (with_reducible repeat (first | refine blk_drewN ?_ _ | refine blk_drew ?_ | refine blk_alloc ?_ _)); exact BK283.out) hb); have n6_ := Aside0.mk (blk_below (g := gb291) (o := .cells #[.int .u64 t299, .slice Ao66 t300.length co66] 26 (0, 0)) (by (with_reducible repeat (first | refine blk_drewN ?_ _ | refine blk_drew ?_ | refine blk_alloc ?_ _)); exact BK291.out) hb); have n7_ := Aside0.mk (blk_below (g := gb304) (o := .cells #[.int .u64 t299, .slice Ao66 t300.length co66] 26 (0, 0)) (by (with_reducible repeat (first | refine blk_drewN ?_ _ | refine blk_drew ?_ | refine blk_alloc ?_ _)); exact BK304.out) hb); have n8_ := Aside0.mk (below_step (by repeat (first | (with_reducible first | exact HB.out | apply below_alloc | apply pw_below_drewN | apply below_drew1 | refine below_set ?_ GE283.out | refine below_set ?_ GE291.out | refine below_set ?_ GE304.out) | exact HB.out)) hb); clear HO_12; clear HO_284001; clear HO_292001; clear HO_305001; clear BK283; clear BK291; clear BK304; clear HB; have HO_12 := n0_; have HO_284001 := n1_; have HO_292001 := n2_; have HO_305001 := n3_; have HO311 := n4_; have BK283 := n5_; have BK291 := n6_; have BK304 := n7_; have HB := n8_; clear n0_ n1_ n2_ n3_ n4_ n5_ n6_ n7_ n8_; clear hb ho106; obtain ⟨Ao107, co107, eo107⟩ := Kd.R_slice HO311.out; subst eo107))
                                                  go_loopg [130] kj79 (fun kq v130 w' => ∃ (x130_6 : Int), v130 = .int .i64 x130_6 ∧ Aside0 (tillrolllaw09_BbtGrows.l1 kq a2 ji26 y307 (IntKind.u64.wrap (x13_3 + 1)) (l1.take ((ji49) : Int).toNat) ((l1.take ((ji49) : Int).toNat).length : Int) x80_3 y309 (y309.length : Int) x130_6 t299 t300 = some r) ∧ Aside0 (kq ≤ kj79) ∧ Aside0 (Kd.R Kd.bool 4 w' w.heap.size (fun k_ => some k_ ≠ ((.slice Ao9 t279.length co9) : Value).ownBlock ∧ some k_ ≠ ((.slice Ao66 t300.length co66) : Value).ownBlock ∧ some k_ ≠ ((.slice Ao66 t300.length co66) : Value).ownBlock) (.slice (some ⟨go91, 0, none⟩) x12_3.length co91) y307) ∧ Aside0 (Kd.R (Kd.int .i64) 3 w' w.heap.size (fun _ => True) (.slice Ao107 y309.length co107) y309) ∧ Aside0 (Kd.R Kd.bool 4 w' w.heap.size (fun k_ => some k_ ≠ ((.slice (some ⟨go91, 0, none⟩) x12_3.length co91) : Value).ownBlock ∧ some k_ ≠ ((.slice Ao66 t300.length co66) : Value).ownBlock ∧ some k_ ≠ ((.slice Ao66 t300.length co66) : Value).ownBlock) (.slice Ao9 t279.length co9) t279) ∧ Aside0 (Kd.R Kd.bool 4 w' w.heap.size (fun k_ => some k_ ≠ ((.slice (some ⟨go91, 0, none⟩) x12_3.length co91) : Value).ownBlock ∧ some k_ ≠ ((.slice Ao9 t279.length co9) : Value).ownBlock) (.slice Ao66 t300.length co66) t300) ∧ Aside0 (Kd.R Kd.bool 4 w' w.heap.size (fun k_ => some k_ ≠ ((.slice (some ⟨go91, 0, none⟩) x12_3.length co91) : Value).ownBlock ∧ some k_ ≠ ((.slice Ao9 t279.length co9) : Value).ownBlock) (.slice Ao66 t300.length co66) t300) ∧ Aside0 (w'.heap[gb283]? = some (.cells #[.int .u64 t278, (.slice Ao9 t279.length co9)] 26 (0, 0))) ∧ Aside0 (w'.heap[gb291]? = some (.cells #[.int .u64 t299, (.slice Ao66 t300.length co66)] 26 (0, 0))) ∧ Aside0 (w'.heap[gb304]? = some (.cells #[.int .u64 t299, (.slice Ao66 t300.length co66)] 26 (0, 0))) ∧ Aside0 (Below w.heap.size w w'))
                                                  case atStart => exact ⟨(0), (by first | rfl | (simp; done) | (simp [*]; done)), H', ⟨Nat.le_refl _⟩, ⟨by (with_reducible repeat (first | apply Kd.R_alloc | apply Kd.R_drewN | apply Kd.R_drew)); exact Kd.R_mono HO_12.out (fun _ hk => ⟨hk.1, ⟨hk.2.2, hk.2.2⟩⟩)⟩, ⟨by (with_reducible repeat (first | apply Kd.R_alloc | apply Kd.R_drewN | apply Kd.R_drew)); exact HO311.out⟩, ⟨by (with_reducible repeat (first | apply Kd.R_alloc | apply Kd.R_drewN | apply Kd.R_drew)); exact Kd.R_mono HO_284001.out (fun _ hk => ⟨hk.2, ⟨hk.1.2, hk.1.2⟩⟩)⟩, ⟨by (with_reducible repeat (first | apply Kd.R_alloc | apply Kd.R_drewN | apply Kd.R_drew)); exact Kd.R_mono HO_305001.out (fun _ hk => ⟨hk.2, hk.1.1⟩)⟩, ⟨by (with_reducible repeat (first | apply Kd.R_alloc | apply Kd.R_drewN | apply Kd.R_drew)); exact Kd.R_mono HO_305001.out (fun _ hk => ⟨hk.2, hk.1.1⟩)⟩, ⟨by (with_reducible repeat (first | refine blk_drewN ?_ _ | refine blk_drew ?_ | refine blk_alloc ?_ _)); exact BK283.out⟩, ⟨by (with_reducible repeat (first | refine blk_drewN ?_ _ | refine blk_drew ?_ | refine blk_alloc ?_ _)); exact BK291.out⟩, ⟨by (with_reducible repeat (first | refine blk_drewN ?_ _ | refine blk_drew ?_ | refine blk_alloc ?_ _)); exact BK304.out⟩, ⟨by repeat (first | (with_reducible first | exact HB.out | apply below_alloc | apply pw_below_drewN | apply below_drew1 | refine below_set ?_ GE283.out | refine below_set ?_ GE291.out | refine below_set ?_ GE304.out) | exact HB.out)⟩⟩
                                                  case round =>
                                                    clear H'
                                                    try clear c1
                                                    try clear c2
                                                    try clear p2
                                                    try clear q2
                                                    try clear hx2
                                                    try clear c3
                                                    try clear c4
                                                    try clear c5
                                                    try clear c6
                                                    try clear p6
                                                    try clear c7
                                                    try clear c8
                                                    try clear c9
                                                    try clear p9
                                                    try clear q9
                                                    try clear hx9
                                                    try clear hf9
                                                    try clear c10
                                                    try clear c10b0
                                                    try clear c11
                                                    try clear c11b0
                                                    try clear c11b1
                                                    try clear c11b2
                                                    try clear c12
                                                    try clear c12b0
                                                    try clear c12b1
                                                    try clear c13
                                                    try clear c13b0
                                                    try clear c13b1
                                                    try clear c17
                                                    try clear c17b0
                                                    try clear c17b1
                                                    try clear c17b2
                                                    try clear c18
                                                    try clear c18b0
                                                    try clear c18b1
                                                    try clear c19
                                                    try clear c19b0
                                                    try clear c19b1
                                                    try clear c23
                                                    try clear c27
                                                    try clear c27b0
                                                    try clear c27b1
                                                    try clear c28
                                                    try clear c28b0
                                                    try clear c28b1
                                                    try clear p29
                                                    try clear q29
                                                    try clear hx29
                                                    try clear c32
                                                    try clear c38
                                                    try clear c39
                                                    try clear c39b0
                                                    try clear c39b1
                                                    try clear c42
                                                    try clear c48
                                                    try clear c50
                                                    try clear c50b0
                                                    try clear c50b1
                                                    try clear c51
                                                    try clear c51b0
                                                    try clear c51b1
                                                    try clear c53
                                                    try clear c53b0
                                                    try clear c54
                                                    try clear c54b0
                                                    try clear c55
                                                    try clear c55b0
                                                    try clear c58
                                                    try clear c63
                                                    try clear c64
                                                    try clear p64
                                                    try clear c67
                                                    try clear c67b0
                                                    try clear c68
                                                    try clear c69
                                                    try clear c69b0
                                                    try clear c69b1
                                                    try clear c71
                                                    try clear c71b0
                                                    try clear c71b1
                                                    try clear c72
                                                    try clear c73
                                                    try clear c76
                                                    try clear c77
                                                    try clear c81
                                                    try clear c81b0
                                                    try clear c81b1
                                                    try clear c83
                                                    try clear c84
                                                    try clear c88
                                                    try clear c89
                                                    try clear c89b0
                                                    try clear c90
                                                    try clear c90b0
                                                    try clear p91
                                                    try clear q91
                                                    try clear hx91
                                                    try clear hf91
                                                    try clear c93
                                                    try clear c95
                                                    try clear c96
                                                    try clear c98
                                                    try clear hcz103_0
                                                    try clear hcz103_1
                                                    try clear hcz15_0
                                                    try clear hcz15_1
                                                    try clear hcz21_0
                                                    try clear hcz21_1
                                                    try clear hcz33_0
                                                    try clear hcz33_1
                                                    try clear hcz43_0
                                                    try clear hcz43_1
                                                    try clear hcz59_0
                                                    try clear hcz59_1
                                                    try clear hcz65_0
                                                    try clear hcz65_1
                                                    try clear hcz74_0
                                                    try clear hcz74_1
                                                    try clear hcz78_0
                                                    try clear hcz78_1
                                                    try clear hcz85_0
                                                    try clear hcz85_1
                                                    try clear hcz8_0
                                                    try clear hcz8_1
                                                    try clear hcz97_0
                                                    try clear hcz97_1
                                                    try clear hcz99_0
                                                    try clear hcz99_1
                                                    try clear hfz103_0
                                                    try clear hfz103_1
                                                    try clear hfz15_0
                                                    try clear hfz15_1
                                                    try clear hfz21_0
                                                    try clear hfz21_1
                                                    try clear hfz33_0
                                                    try clear hfz33_1
                                                    try clear hfz43_0
                                                    try clear hfz43_1
                                                    try clear hfz59_0
                                                    try clear hfz59_1
                                                    try clear hfz65_0
                                                    try clear hfz65_1
                                                    try clear hfz74_0
                                                    try clear hfz74_1
                                                    try clear hfz78_0
                                                    try clear hfz78_1
                                                    try clear hfz85_0
                                                    try clear hfz85_1
                                                    try clear hfz8_0
                                                    try clear hfz8_1
                                                    try clear hfz97_0
                                                    try clear hfz97_1
                                                    try clear hfz99_0
                                                    try clear hfz99_1
                                                    try clear hx298_0
                                                    try clear hx91_0
                                                    try clear p2
                                                    try clear p29
                                                    try clear p298
                                                    try clear p6
                                                    try clear p64
                                                    try clear p91
                                                    try clear q2
                                                    try clear q29
                                                    try clear q298
                                                    try clear q91
                                                    obtain ⟨x130_6, rfl, HA, HK6, HO_12, HO_128, HO_284001, HO_292001, HO_305001, BK283, BK291, BK304, HB⟩ := hrel
                                                    have hl12_6 := (Kd.R_reads' HO_12.out).1
                                                    rw [hl12_6] at HO_12
                                                    (try simp only [hl12_6])
                                                    (try simp only [hl12_6] at BK283)
                                                    (try simp only [hl12_6] at BK291)
                                                    (try simp only [hl12_6] at BK304)
                                                    (try simp only [hl12_6] at HO_128)
                                                    (try simp only [hl12_6] at HO_284001)
                                                    (try simp only [hl12_6] at HO_292001)
                                                    (try simp only [hl12_6] at HO_305001)
                                                    cases gk with
                                                    | zero => exact absurd HA.out (by simp [tillrolllaw09_BbtGrows.l1])
                                                    | succ k6 =>
                                                      have H := HA.out
                                                      clear HA
                                                      simp only [tillrolllaw09_BbtGrows.l1] at H
                                                      by_cases c108 : x130_6 < (y309.length : Int)
                                                      · rw [if_pos c108] at H
                                                        have c108b0 : decide (x130_6 < (y309.length : Int)) = true := decide_eq_true c108
                                                        clear c108
                                                        by_cases c109 : 0 ≤ x130_6
                                                        · rw [if_pos c109] at H
                                                          have c109b0 : decide (0 ≤ x130_6) = true := decide_eq_true c109
                                                          clear c109
                                                          by_cases c110 : x130_6 < (y309.length : Int)
                                                          · rw [if_pos c110] at H
                                                            have c110b0 : decide (x130_6 < (y309.length : Int)) = true := decide_eq_true c110
                                                            clear c110
                                                            replace H := Option.bind_eq_some_iff.mp H
                                                            obtain ⟨⟨t313, t314⟩, A1110, H⟩ := H
                                                            replace H : ((tillrollref09_Text.f k6 (IntKind.u64.wrap (x13_3 + 1)) y307 (rd y309 x130_6)).bind fun bt315 => (if t313.toList = bt315.1.toList then (if t314 = bt315.2 then (tillrolllaw09_BbtGrows.l1 k6 a2 ji26 y307 (IntKind.u64.wrap (x13_3 + 1)) (l1.take ((ji49) : Int).toNat) ((l1.take ((ji49) : Int).toNat).length : Int) x80_3 y309 (y309.length : Int) (wrap64 (x130_6 + 1)) t299 t300) else (some false)) else (some false))) = some r := H
                                                            have A111 := Aside0.mk A1110
                                                            clear A1110
                                                            replace H := Option.bind_eq_some_iff.mp H
                                                            obtain ⟨⟨t315, t316⟩, A1120, H⟩ := H
                                                            replace H : (if t313.toList = t315.toList then (if t314 = t316 then (tillrolllaw09_BbtGrows.l1 k6 a2 ji26 y307 (IntKind.u64.wrap (x13_3 + 1)) (l1.take ((ji49) : Int).toNat) ((l1.take ((ji49) : Int).toNat).length : Int) x80_3 y309 (y309.length : Int) (wrap64 (x130_6 + 1)) t299 t300) else (some false)) else (some false)) = some r := H
                                                            have A112 := Aside0.mk A1120
                                                            clear A1120
                                                            by_cases c113 : t313.toList = t315.toList
                                                            · rw [if_pos c113] at H
                                                              have c113b0 : (t313.toList == t315.toList) = true := beq_iff_eq.mpr c113
                                                              have c113b1 : (t313.toList != t315.toList) = false := bne_eq_false_iff_eq.mpr c113
                                                              clear c113
                                                              by_cases c114 : t314 = t316
                                                              · rw [if_pos c114] at H
                                                                have c114b0 : (t314 == t316) = true := beq_iff_eq.mpr c114
                                                                have c114b1 : (t314 != t316) = false := bne_eq_false_iff_eq.mpr c114
                                                                clear c114
                                                                have H' := Aside0.mk H
                                                                clear H
                                                                have p312 : 0 ≤ (x130_6 : Int) := of_decide_eq_true (by first | (with_reducible assumption) | assumption)
                                                                have q312 : x130_6 < (y309.length : Int) := of_decide_eq_true (by first | (with_reducible assumption) | assumption)
                                                                obtain ⟨ad312, e312, hx312_0⟩ := Kd.at_int (Kd.R_reads' HO_128.out).2.2 x130_6 p312 q312
                                                                cases e312
                                                                replace p312 := eq_true p312
                                                                replace q312 := eq_true q312
                                                                have hnb115 := NB291_283.out
                                                                have hnc115 := NB283_291.out
                                                                have hnb116 := NB291_304.out
                                                                have hnc116 := NB304_291.out
                                                                have hcz117_0 : wr.cell? ⟨gb291, 0, none⟩ = some (.int .u64 t299) := (blk_cell BK291.out 0).trans rfl
                                                                have hcz117_1 : wr.cell? ⟨gb291, 1, none⟩ = some (.slice Ao66 t300.length co66) := (blk_cell BK291.out 1).trans rfl
                                                                have hfz117_0 := blk_frozen BK291.out 0
                                                                have hfz117_1 := blk_frozen BK291.out 1
                                                                go_wp2_with (first | ((with_reducible refine gate_callee (f := 13) rfl ?_); refine goesL_ (some 137) rfl rfl Try.func13 (by kernel_rfl) rfl #[.agg #[.int .u64 t299, .slice Ao66 t300.length co66], .int .i64 (rd y309 x130_6)] rfl (by (try simp only [List.map_toArray, List.map_cons, List.map_nil]); first | done | rfl | (simp only [List.length_drop, List.length_take]; rfl) | (simp only [ByteArray.size_append]; rfl) | (simp only [ByteArray.size_extract]; rfl)) ?_; (with_reducible refine (bbt_Table_Text.calls k6 t299 _ _ t300 (rd y309 x130_6) t313 t314 _ ?side1 ?side2 A111.out).mono ?_); (case side1 => repeat (first | exact (Kd.R_reads' HO_292001.out).2.2 | (with_reducible refine Kd.C_alloc ?_ _) | (with_reducible refine Kd.C_drewN ?_ _) | (with_reducible refine Kd.C_drew ?_))); (case side2 => exact (Kd.R_reads' HO_292001.out).2.1); rintro e w118 ⟨rfl, hb⟩; refine ⟨_, rfl, ?_⟩; have n0_ := Aside0.mk (Kd.R_below (by (with_reducible repeat (first | apply Kd.R_alloc | apply Kd.R_drewN | apply Kd.R_drew)); exact HO_12.out) hb); have n1_ := Aside0.mk (Kd.R_below (by (with_reducible repeat (first | apply Kd.R_alloc | apply Kd.R_drewN | apply Kd.R_drew)); exact HO_128.out) hb); have n2_ := Aside0.mk (Kd.R_below (by (with_reducible repeat (first | apply Kd.R_alloc | apply Kd.R_drewN | apply Kd.R_drew)); exact HO_284001.out) hb); have n3_ := Aside0.mk (Kd.R_below (by (with_reducible repeat (first | apply Kd.R_alloc | apply Kd.R_drewN | apply Kd.R_drew)); exact HO_292001.out) hb); have n4_ := Aside0.mk (Kd.R_below (by (with_reducible repeat (first | apply Kd.R_alloc | apply Kd.R_drewN | apply Kd.R_drew)); exact HO_305001.out) hb); have n5_ := Aside0.mk (blk_below (g := gb283) (o := .cells #[.int .u64 t278, .slice Ao9 t279.length co9] 26 (0, 0)) (by (with_reducible repeat (first | refine blk_drewN ?_ _ | refine blk_drew ?_ | refine blk_alloc ?_ _)); exact BK283.out) hb); have n6_ := Aside0.mk (blk_below (g := gb291) (o := .cells #[.int .u64 t299, .slice Ao66 t300.length co66] 26 (0, 0)) (by (with_reducible repeat (first | refine blk_drewN ?_ _ | refine blk_drew ?_ | refine blk_alloc ?_ _)); exact BK291.out) hb); have n7_ := Aside0.mk (blk_below (g := gb304) (o := .cells #[.int .u64 t299, .slice Ao66 t300.length co66] 26 (0, 0)) (by (with_reducible repeat (first | refine blk_drewN ?_ _ | refine blk_drew ?_ | refine blk_alloc ?_ _)); exact BK304.out) hb); have n8_ := Aside0.mk (below_step (by repeat (first | (with_reducible first | exact HB.out | apply below_alloc | apply pw_below_drewN | apply below_drew1 | refine below_set ?_ GE283.out | refine below_set ?_ GE291.out | refine below_set ?_ GE304.out) | exact HB.out)) hb); clear HO_12; clear HO_128; clear HO_284001; clear HO_292001; clear HO_305001; clear BK283; clear BK291; clear BK304; clear HB; have HO_12 := n0_; have HO_128 := n1_; have HO_284001 := n2_; have HO_292001 := n3_; have HO_305001 := n4_; have BK283 := n5_; have BK291 := n6_; have BK304 := n7_; have HB := n8_; clear n0_ n1_ n2_ n3_ n4_ n5_ n6_ n7_ n8_; (try clear hb); (try clear hb2); (try clear hk); (try clear hi)) | ((with_reducible refine gate_callee (f := 14) rfl ?_); refine goesL_ (some 144) rfl rfl Try.func14 (by kernel_rfl) rfl #[.int .u64 (IntKind.u64.wrap (x13_3 + 1)), .slice (some ⟨go91, 0, none⟩) y307.length co91, .int .i64 (rd y309 x130_6)] rfl (by (try simp only [List.map_toArray, List.map_cons, List.map_nil]); first | done | rfl | (simp only [List.length_drop, List.length_take]; rfl) | (simp only [ByteArray.size_append]; rfl) | (simp only [ByteArray.size_extract]; rfl)) ?_; (with_reducible refine (tillrollref09_Text.calls k6 (IntKind.u64.wrap (x13_3 + 1)) _ _ y307 (rd y309 x130_6) t315 t316 _ ?side1 ?side2 A112.out).mono ?_); (case side1 => repeat (first | exact (Kd.R_reads' HO_12.out).2.2 | (with_reducible refine Kd.C_alloc ?_ _) | (with_reducible refine Kd.C_drewN ?_ _) | (with_reducible refine Kd.C_drew ?_))); (case side2 => exact (Kd.R_reads' HO_12.out).2.1); rintro e w119 ⟨rfl, hb⟩; refine ⟨_, rfl, ?_⟩; have n0_ := Aside0.mk (Kd.R_below (by (with_reducible repeat (first | apply Kd.R_alloc | apply Kd.R_drewN | apply Kd.R_drew)); exact HO_12.out) hb); have n1_ := Aside0.mk (Kd.R_below (by (with_reducible repeat (first | apply Kd.R_alloc | apply Kd.R_drewN | apply Kd.R_drew)); exact HO_128.out) hb); have n2_ := Aside0.mk (Kd.R_below (by (with_reducible repeat (first | apply Kd.R_alloc | apply Kd.R_drewN | apply Kd.R_drew)); exact HO_284001.out) hb); have n3_ := Aside0.mk (Kd.R_below (by (with_reducible repeat (first | apply Kd.R_alloc | apply Kd.R_drewN | apply Kd.R_drew)); exact HO_292001.out) hb); have n4_ := Aside0.mk (Kd.R_below (by (with_reducible repeat (first | apply Kd.R_alloc | apply Kd.R_drewN | apply Kd.R_drew)); exact HO_305001.out) hb); have n5_ := Aside0.mk (blk_below (g := gb283) (o := .cells #[.int .u64 t278, .slice Ao9 t279.length co9] 26 (0, 0)) (by (with_reducible repeat (first | refine blk_drewN ?_ _ | refine blk_drew ?_ | refine blk_alloc ?_ _)); exact BK283.out) hb); have n6_ := Aside0.mk (blk_below (g := gb291) (o := .cells #[.int .u64 t299, .slice Ao66 t300.length co66] 26 (0, 0)) (by (with_reducible repeat (first | refine blk_drewN ?_ _ | refine blk_drew ?_ | refine blk_alloc ?_ _)); exact BK291.out) hb); have n7_ := Aside0.mk (blk_below (g := gb304) (o := .cells #[.int .u64 t299, .slice Ao66 t300.length co66] 26 (0, 0)) (by (with_reducible repeat (first | refine blk_drewN ?_ _ | refine blk_drew ?_ | refine blk_alloc ?_ _)); exact BK304.out) hb); have n8_ := Aside0.mk (below_step (by repeat (first | (with_reducible first | exact HB.out | apply below_alloc | apply pw_below_drewN | apply below_drew1 | refine below_set ?_ GE283.out | refine below_set ?_ GE291.out | refine below_set ?_ GE304.out) | exact HB.out)) hb); clear HO_12; clear HO_128; clear HO_284001; clear HO_292001; clear HO_305001; clear BK283; clear BK291; clear BK304; clear HB; have HO_12 := n0_; have HO_128 := n1_; have HO_284001 := n2_; have HO_292001 := n3_; have HO_305001 := n4_; have BK283 := n5_; have BK291 := n6_; have BK304 := n7_; have HB := n8_; clear n0_ n1_ n2_ n3_ n4_ n5_ n6_ n7_ n8_; (try clear hb); (try clear hb2); (try clear hk); (try clear hi)))
                                                                (try simp only [← hl12_6])
                                                                go_roundg k6
                                                                case measure => have := HJ4.out; have := HJ28.out; have := HK3.out; have := HJ56.out; have := HJ79.out; have := HK6.out; omega
                                                                case rel => exact ⟨(wrap64 (x130_6 + 1)), (by first | rfl | (simp; done) | (simp [*]; done)), H', ⟨by have := HJ4.out; have := HJ28.out; have := HK3.out; have := HJ56.out; have := HJ79.out; have := HK6.out; omega⟩, ⟨by (try simp only [hl12_6]); (with_reducible repeat (first | apply Kd.R_alloc | apply Kd.R_drewN | apply Kd.R_drew)); exact HO_12.out⟩, ⟨by (try simp only [hl12_6]); (with_reducible repeat (first | apply Kd.R_alloc | apply Kd.R_drewN | apply Kd.R_drew)); exact HO_128.out⟩, ⟨by (try simp only [hl12_6]); (with_reducible repeat (first | apply Kd.R_alloc | apply Kd.R_drewN | apply Kd.R_drew)); exact HO_284001.out⟩, ⟨by (try simp only [hl12_6]); (with_reducible repeat (first | apply Kd.R_alloc | apply Kd.R_drewN | apply Kd.R_drew)); exact HO_292001.out⟩, ⟨by (try simp only [hl12_6]); (with_reducible repeat (first | apply Kd.R_alloc | apply Kd.R_drewN | apply Kd.R_drew)); exact HO_305001.out⟩, ⟨by (try simp only [hl12_6]); (with_reducible repeat (first | refine blk_drewN ?_ _ | refine blk_drew ?_ | refine blk_alloc ?_ _)); exact BK283.out⟩, ⟨by (try simp only [hl12_6]); (with_reducible repeat (first | refine blk_drewN ?_ _ | refine blk_drew ?_ | refine blk_alloc ?_ _)); exact BK291.out⟩, ⟨by (try simp only [hl12_6]); (with_reducible repeat (first | refine blk_drewN ?_ _ | refine blk_drew ?_ | refine blk_alloc ?_ _)); exact BK304.out⟩, ⟨by repeat (first | (with_reducible first | exact HB.out | apply below_alloc | apply pw_below_drewN | apply below_drew1 | refine below_set ?_ GE283.out | refine below_set ?_ GE291.out | refine below_set ?_ GE304.out) | exact HB.out)⟩⟩
                                                              · rw [if_neg c114] at H
                                                                have c114b0 : (t314 == t316) = false := beq_eq_false_iff_ne.mpr c114
                                                                have c114b1 : (t314 != t316) = true := bne_iff_ne.mpr c114
                                                                obtain rfl := Option.some.inj H
                                                                have p312 : 0 ≤ (x130_6 : Int) := of_decide_eq_true (by first | (with_reducible assumption) | assumption)
                                                                have q312 : x130_6 < (y309.length : Int) := of_decide_eq_true (by first | (with_reducible assumption) | assumption)
                                                                obtain ⟨ad312, e312, hx312_0⟩ := Kd.at_int (Kd.R_reads' HO_128.out).2.2 x130_6 p312 q312
                                                                cases e312
                                                                replace p312 := eq_true p312
                                                                replace q312 := eq_true q312
                                                                have hnb120 := NB291_283.out
                                                                have hnc120 := NB283_291.out
                                                                have hnb121 := NB291_304.out
                                                                have hnc121 := NB304_291.out
                                                                have hcz122_0 : wr.cell? ⟨gb291, 0, none⟩ = some (.int .u64 t299) := (blk_cell BK291.out 0).trans rfl
                                                                have hcz122_1 : wr.cell? ⟨gb291, 1, none⟩ = some (.slice Ao66 t300.length co66) := (blk_cell BK291.out 1).trans rfl
                                                                have hfz122_0 := blk_frozen BK291.out 0
                                                                have hfz122_1 := blk_frozen BK291.out 1
                                                                go_wp2_with (first | ((with_reducible refine gate_callee (f := 13) rfl ?_); refine goesL_ (some 137) rfl rfl Try.func13 (by kernel_rfl) rfl #[.agg #[.int .u64 t299, .slice Ao66 t300.length co66], .int .i64 (rd y309 x130_6)] rfl (by (try simp only [List.map_toArray, List.map_cons, List.map_nil]); first | done | rfl | (simp only [List.length_drop, List.length_take]; rfl) | (simp only [ByteArray.size_append]; rfl) | (simp only [ByteArray.size_extract]; rfl)) ?_; (with_reducible refine (bbt_Table_Text.calls k6 t299 _ _ t300 (rd y309 x130_6) t313 t314 _ ?side1 ?side2 A111.out).mono ?_); (case side1 => repeat (first | exact (Kd.R_reads' HO_292001.out).2.2 | (with_reducible refine Kd.C_alloc ?_ _) | (with_reducible refine Kd.C_drewN ?_ _) | (with_reducible refine Kd.C_drew ?_))); (case side2 => exact (Kd.R_reads' HO_292001.out).2.1); rintro e w123 ⟨rfl, hb⟩; refine ⟨_, rfl, ?_⟩; have n0_ := Aside0.mk (Kd.R_below (by (with_reducible repeat (first | apply Kd.R_alloc | apply Kd.R_drewN | apply Kd.R_drew)); exact HO_12.out) hb); have n1_ := Aside0.mk (Kd.R_below (by (with_reducible repeat (first | apply Kd.R_alloc | apply Kd.R_drewN | apply Kd.R_drew)); exact HO_128.out) hb); have n2_ := Aside0.mk (Kd.R_below (by (with_reducible repeat (first | apply Kd.R_alloc | apply Kd.R_drewN | apply Kd.R_drew)); exact HO_284001.out) hb); have n3_ := Aside0.mk (Kd.R_below (by (with_reducible repeat (first | apply Kd.R_alloc | apply Kd.R_drewN | apply Kd.R_drew)); exact HO_292001.out) hb); have n4_ := Aside0.mk (Kd.R_below (by (with_reducible repeat (first | apply Kd.R_alloc | apply Kd.R_drewN | apply Kd.R_drew)); exact HO_305001.out) hb); have n5_ := Aside0.mk (blk_below (g := gb283) (o := .cells #[.int .u64 t278, .slice Ao9 t279.length co9] 26 (0, 0)) (by (with_reducible repeat (first | refine blk_drewN ?_ _ | refine blk_drew ?_ | refine blk_alloc ?_ _)); exact BK283.out) hb); have n6_ := Aside0.mk (blk_below (g := gb291) (o := .cells #[.int .u64 t299, .slice Ao66 t300.length co66] 26 (0, 0)) (by (with_reducible repeat (first | refine blk_drewN ?_ _ | refine blk_drew ?_ | refine blk_alloc ?_ _)); exact BK291.out) hb); have n7_ := Aside0.mk (blk_below (g := gb304) (o := .cells #[.int .u64 t299, .slice Ao66 t300.length co66] 26 (0, 0)) (by (with_reducible repeat (first | refine blk_drewN ?_ _ | refine blk_drew ?_ | refine blk_alloc ?_ _)); exact BK304.out) hb); have n8_ := Aside0.mk (below_step (by repeat (first | (with_reducible first | exact HB.out | apply below_alloc | apply pw_below_drewN | apply below_drew1 | refine below_set ?_ GE283.out | refine below_set ?_ GE291.out | refine below_set ?_ GE304.out) | exact HB.out)) hb); clear HO_12; clear HO_128; clear HO_284001; clear HO_292001; clear HO_305001; clear BK283; clear BK291; clear BK304; clear HB; have HO_12 := n0_; have HO_128 := n1_; have HO_284001 := n2_; have HO_292001 := n3_; have HO_305001 := n4_; have BK283 := n5_; have BK291 := n6_; have BK304 := n7_; have HB := n8_; clear n0_ n1_ n2_ n3_ n4_ n5_ n6_ n7_ n8_; (try clear hb); (try clear hb2); (try clear hk); (try clear hi)) | ((with_reducible refine gate_callee (f := 14) rfl ?_); refine goesL_ (some 144) rfl rfl Try.func14 (by kernel_rfl) rfl #[.int .u64 (IntKind.u64.wrap (x13_3 + 1)), .slice (some ⟨go91, 0, none⟩) y307.length co91, .int .i64 (rd y309 x130_6)] rfl (by (try simp only [List.map_toArray, List.map_cons, List.map_nil]); first | done | rfl | (simp only [List.length_drop, List.length_take]; rfl) | (simp only [ByteArray.size_append]; rfl) | (simp only [ByteArray.size_extract]; rfl)) ?_; (with_reducible refine (tillrollref09_Text.calls k6 (IntKind.u64.wrap (x13_3 + 1)) _ _ y307 (rd y309 x130_6) t315 t316 _ ?side1 ?side2 A112.out).mono ?_); (case side1 => repeat (first | exact (Kd.R_reads' HO_12.out).2.2 | (with_reducible refine Kd.C_alloc ?_ _) | (with_reducible refine Kd.C_drewN ?_ _) | (with_reducible refine Kd.C_drew ?_))); (case side2 => exact (Kd.R_reads' HO_12.out).2.1); rintro e w124 ⟨rfl, hb⟩; refine ⟨_, rfl, ?_⟩; have n0_ := Aside0.mk (Kd.R_below (by (with_reducible repeat (first | apply Kd.R_alloc | apply Kd.R_drewN | apply Kd.R_drew)); exact HO_12.out) hb); have n1_ := Aside0.mk (Kd.R_below (by (with_reducible repeat (first | apply Kd.R_alloc | apply Kd.R_drewN | apply Kd.R_drew)); exact HO_128.out) hb); have n2_ := Aside0.mk (Kd.R_below (by (with_reducible repeat (first | apply Kd.R_alloc | apply Kd.R_drewN | apply Kd.R_drew)); exact HO_284001.out) hb); have n3_ := Aside0.mk (Kd.R_below (by (with_reducible repeat (first | apply Kd.R_alloc | apply Kd.R_drewN | apply Kd.R_drew)); exact HO_292001.out) hb); have n4_ := Aside0.mk (Kd.R_below (by (with_reducible repeat (first | apply Kd.R_alloc | apply Kd.R_drewN | apply Kd.R_drew)); exact HO_305001.out) hb); have n5_ := Aside0.mk (blk_below (g := gb283) (o := .cells #[.int .u64 t278, .slice Ao9 t279.length co9] 26 (0, 0)) (by (with_reducible repeat (first | refine blk_drewN ?_ _ | refine blk_drew ?_ | refine blk_alloc ?_ _)); exact BK283.out) hb); have n6_ := Aside0.mk (blk_below (g := gb291) (o := .cells #[.int .u64 t299, .slice Ao66 t300.length co66] 26 (0, 0)) (by (with_reducible repeat (first | refine blk_drewN ?_ _ | refine blk_drew ?_ | refine blk_alloc ?_ _)); exact BK291.out) hb); have n7_ := Aside0.mk (blk_below (g := gb304) (o := .cells #[.int .u64 t299, .slice Ao66 t300.length co66] 26 (0, 0)) (by (with_reducible repeat (first | refine blk_drewN ?_ _ | refine blk_drew ?_ | refine blk_alloc ?_ _)); exact BK304.out) hb); have n8_ := Aside0.mk (below_step (by repeat (first | (with_reducible first | exact HB.out | apply below_alloc | apply pw_below_drewN | apply below_drew1 | refine below_set ?_ GE283.out | refine below_set ?_ GE291.out | refine below_set ?_ GE304.out) | exact HB.out)) hb); clear HO_12; clear HO_128; clear HO_284001; clear HO_292001; clear HO_305001; clear BK283; clear BK291; clear BK304; clear HB; have HO_12 := n0_; have HO_128 := n1_; have HO_284001 := n2_; have HO_292001 := n3_; have HO_305001 := n4_; have BK283 := n5_; have BK291 := n6_; have BK304 := n7_; have HB := n8_; clear n0_ n1_ n2_ n3_ n4_ n5_ n6_ n7_ n8_; (try clear hb); (try clear hb2); (try clear hk); (try clear hi)))
                                                                go_ret
                                                                exact ⟨by first | rfl | (simp [errW_none, errW_some] <;> rfl) | (simp only [← hji24, ← hji26, ← hji49, ← hji94]; first | rfl | (simp [errW_none, errW_some] <;> rfl)) | (simp [*, errW_none, errW_some] <;> rfl), by repeat (first | (with_reducible first | exact HB.out | apply below_alloc | apply pw_below_drewN | apply below_drew1 | refine below_set ?_ GE283.out | refine below_set ?_ GE291.out | refine below_set ?_ GE304.out) | exact HB.out)⟩
                                                            · rw [if_neg c113] at H
                                                              have c113b0 : (t313.toList == t315.toList) = false := beq_eq_false_iff_ne.mpr c113
                                                              have c113b1 : (t313.toList != t315.toList) = true := bne_iff_ne.mpr c113
                                                              obtain rfl := Option.some.inj H
                                                              have p312 : 0 ≤ (x130_6 : Int) := of_decide_eq_true (by first | (with_reducible assumption) | assumption)
                                                              have q312 : x130_6 < (y309.length : Int) := of_decide_eq_true (by first | (with_reducible assumption) | assumption)
                                                              obtain ⟨ad312, e312, hx312_0⟩ := Kd.at_int (Kd.R_reads' HO_128.out).2.2 x130_6 p312 q312
                                                              cases e312
                                                              replace p312 := eq_true p312
                                                              replace q312 := eq_true q312
                                                              have hnb125 := NB291_283.out
                                                              have hnc125 := NB283_291.out
                                                              have hnb126 := NB291_304.out
                                                              have hnc126 := NB304_291.out
                                                              have hcz127_0 : wr.cell? ⟨gb291, 0, none⟩ = some (.int .u64 t299) := (blk_cell BK291.out 0).trans rfl
                                                              have hcz127_1 : wr.cell? ⟨gb291, 1, none⟩ = some (.slice Ao66 t300.length co66) := (blk_cell BK291.out 1).trans rfl
                                                              have hfz127_0 := blk_frozen BK291.out 0
                                                              have hfz127_1 := blk_frozen BK291.out 1
                                                              go_wp2_with (first | ((with_reducible refine gate_callee (f := 13) rfl ?_); refine goesL_ (some 137) rfl rfl Try.func13 (by kernel_rfl) rfl #[.agg #[.int .u64 t299, .slice Ao66 t300.length co66], .int .i64 (rd y309 x130_6)] rfl (by (try simp only [List.map_toArray, List.map_cons, List.map_nil]); first | done | rfl | (simp only [List.length_drop, List.length_take]; rfl) | (simp only [ByteArray.size_append]; rfl) | (simp only [ByteArray.size_extract]; rfl)) ?_; (with_reducible refine (bbt_Table_Text.calls k6 t299 _ _ t300 (rd y309 x130_6) t313 t314 _ ?side1 ?side2 A111.out).mono ?_); (case side1 => repeat (first | exact (Kd.R_reads' HO_292001.out).2.2 | (with_reducible refine Kd.C_alloc ?_ _) | (with_reducible refine Kd.C_drewN ?_ _) | (with_reducible refine Kd.C_drew ?_))); (case side2 => exact (Kd.R_reads' HO_292001.out).2.1); rintro e w128 ⟨rfl, hb⟩; refine ⟨_, rfl, ?_⟩; have n0_ := Aside0.mk (Kd.R_below (by (with_reducible repeat (first | apply Kd.R_alloc | apply Kd.R_drewN | apply Kd.R_drew)); exact HO_12.out) hb); have n1_ := Aside0.mk (Kd.R_below (by (with_reducible repeat (first | apply Kd.R_alloc | apply Kd.R_drewN | apply Kd.R_drew)); exact HO_128.out) hb); have n2_ := Aside0.mk (Kd.R_below (by (with_reducible repeat (first | apply Kd.R_alloc | apply Kd.R_drewN | apply Kd.R_drew)); exact HO_284001.out) hb); have n3_ := Aside0.mk (Kd.R_below (by (with_reducible repeat (first | apply Kd.R_alloc | apply Kd.R_drewN | apply Kd.R_drew)); exact HO_292001.out) hb); have n4_ := Aside0.mk (Kd.R_below (by (with_reducible repeat (first | apply Kd.R_alloc | apply Kd.R_drewN | apply Kd.R_drew)); exact HO_305001.out) hb); have n5_ := Aside0.mk (blk_below (g := gb283) (o := .cells #[.int .u64 t278, .slice Ao9 t279.length co9] 26 (0, 0)) (by (with_reducible repeat (first | refine blk_drewN ?_ _ | refine blk_drew ?_ | refine blk_alloc ?_ _)); exact BK283.out) hb); have n6_ := Aside0.mk (blk_below (g := gb291) (o := .cells #[.int .u64 t299, .slice Ao66 t300.length co66] 26 (0, 0)) (by (with_reducible repeat (first | refine blk_drewN ?_ _ | refine blk_drew ?_ | refine blk_alloc ?_ _)); exact BK291.out) hb); have n7_ := Aside0.mk (blk_below (g := gb304) (o := .cells #[.int .u64 t299, .slice Ao66 t300.length co66] 26 (0, 0)) (by (with_reducible repeat (first | refine blk_drewN ?_ _ | refine blk_drew ?_ | refine blk_alloc ?_ _)); exact BK304.out) hb); have n8_ := Aside0.mk (below_step (by repeat (first | (with_reducible first | exact HB.out | apply below_alloc | apply pw_below_drewN | apply below_drew1 | refine below_set ?_ GE283.out | refine below_set ?_ GE291.out | refine below_set ?_ GE304.out) | exact HB.out)) hb); clear HO_12; clear HO_128; clear HO_284001; clear HO_292001; clear HO_305001; clear BK283; clear BK291; clear BK304; clear HB; have HO_12 := n0_; have HO_128 := n1_; have HO_284001 := n2_; have HO_292001 := n3_; have HO_305001 := n4_; have BK283 := n5_; have BK291 := n6_; have BK304 := n7_; have HB := n8_; clear n0_ n1_ n2_ n3_ n4_ n5_ n6_ n7_ n8_; (try clear hb); (try clear hb2); (try clear hk); (try clear hi)) | ((with_reducible refine gate_callee (f := 14) rfl ?_); refine goesL_ (some 144) rfl rfl Try.func14 (by kernel_rfl) rfl #[.int .u64 (IntKind.u64.wrap (x13_3 + 1)), .slice (some ⟨go91, 0, none⟩) y307.length co91, .int .i64 (rd y309 x130_6)] rfl (by (try simp only [List.map_toArray, List.map_cons, List.map_nil]); first | done | rfl | (simp only [List.length_drop, List.length_take]; rfl) | (simp only [ByteArray.size_append]; rfl) | (simp only [ByteArray.size_extract]; rfl)) ?_; (with_reducible refine (tillrollref09_Text.calls k6 (IntKind.u64.wrap (x13_3 + 1)) _ _ y307 (rd y309 x130_6) t315 t316 _ ?side1 ?side2 A112.out).mono ?_); (case side1 => repeat (first | exact (Kd.R_reads' HO_12.out).2.2 | (with_reducible refine Kd.C_alloc ?_ _) | (with_reducible refine Kd.C_drewN ?_ _) | (with_reducible refine Kd.C_drew ?_))); (case side2 => exact (Kd.R_reads' HO_12.out).2.1); rintro e w129 ⟨rfl, hb⟩; refine ⟨_, rfl, ?_⟩; have n0_ := Aside0.mk (Kd.R_below (by (with_reducible repeat (first | apply Kd.R_alloc | apply Kd.R_drewN | apply Kd.R_drew)); exact HO_12.out) hb); have n1_ := Aside0.mk (Kd.R_below (by (with_reducible repeat (first | apply Kd.R_alloc | apply Kd.R_drewN | apply Kd.R_drew)); exact HO_128.out) hb); have n2_ := Aside0.mk (Kd.R_below (by (with_reducible repeat (first | apply Kd.R_alloc | apply Kd.R_drewN | apply Kd.R_drew)); exact HO_284001.out) hb); have n3_ := Aside0.mk (Kd.R_below (by (with_reducible repeat (first | apply Kd.R_alloc | apply Kd.R_drewN | apply Kd.R_drew)); exact HO_292001.out) hb); have n4_ := Aside0.mk (Kd.R_below (by (with_reducible repeat (first | apply Kd.R_alloc | apply Kd.R_drewN | apply Kd.R_drew)); exact HO_305001.out) hb); have n5_ := Aside0.mk (blk_below (g := gb283) (o := .cells #[.int .u64 t278, .slice Ao9 t279.length co9] 26 (0, 0)) (by (with_reducible repeat (first | refine blk_drewN ?_ _ | refine blk_drew ?_ | refine blk_alloc ?_ _)); exact BK283.out) hb); have n6_ := Aside0.mk (blk_below (g := gb291) (o := .cells #[.int .u64 t299, .slice Ao66 t300.length co66] 26 (0, 0)) (by (with_reducible repeat (first | refine blk_drewN ?_ _ | refine blk_drew ?_ | refine blk_alloc ?_ _)); exact BK291.out) hb); have n7_ := Aside0.mk (blk_below (g := gb304) (o := .cells #[.int .u64 t299, .slice Ao66 t300.length co66] 26 (0, 0)) (by (with_reducible repeat (first | refine blk_drewN ?_ _ | refine blk_drew ?_ | refine blk_alloc ?_ _)); exact BK304.out) hb); have n8_ := Aside0.mk (below_step (by repeat (first | (with_reducible first | exact HB.out | apply below_alloc | apply pw_below_drewN | apply below_drew1 | refine below_set ?_ GE283.out | refine below_set ?_ GE291.out | refine below_set ?_ GE304.out) | exact HB.out)) hb); clear HO_12; clear HO_128; clear HO_284001; clear HO_292001; clear HO_305001; clear BK283; clear BK291; clear BK304; clear HB; have HO_12 := n0_; have HO_128 := n1_; have HO_284001 := n2_; have HO_292001 := n3_; have HO_305001 := n4_; have BK283 := n5_; have BK291 := n6_; have BK304 := n7_; have HB := n8_; clear n0_ n1_ n2_ n3_ n4_ n5_ n6_ n7_ n8_; (try clear hb); (try clear hb2); (try clear hk); (try clear hi)))
                                                              go_ret
                                                              exact ⟨by first | rfl | (simp [errW_none, errW_some] <;> rfl) | (simp only [← hji24, ← hji26, ← hji49, ← hji94]; first | rfl | (simp [errW_none, errW_some] <;> rfl)) | (simp [*, errW_none, errW_some] <;> rfl), by repeat (first | (with_reducible first | exact HB.out | apply below_alloc | apply pw_below_drewN | apply below_drew1 | refine below_set ?_ GE283.out | refine below_set ?_ GE291.out | refine below_set ?_ GE304.out) | exact HB.out)⟩
                                                          · rw [if_neg c110] at H
                                                            exact absurd H (by simp)
                                                        · rw [if_neg c109] at H
                                                          exact absurd H (by simp)
                                                      · rw [if_neg c108] at H
                                                        have c108b0 : decide (x130_6 < (y309.length : Int)) = false := decide_eq_false c108
                                                        clear c108
                                                        have H' := Aside0.mk H
                                                        clear H
                                                        go_wp2
                                                        (try simp only [← hl12_6])
                                                        go_roundg k6
                                                        case measure => have := HJ4.out; have := HJ28.out; have := HK3.out; have := HJ56.out; have := HJ79.out; have := HK6.out; omega
                                                        case rel => exact ⟨(y307), ((IntKind.u64.wrap (x13_3 + 1))), (wrap64 (x80_3 + 1)), (t299), (t300), (.slice Ao66 t300.length co66), (by first | rfl | (simp; done) | (simp [*]; done)), (by first | rfl | (simp; done) | (simp [*]; done)), H', ⟨by have := HJ4.out; have := HJ28.out; have := HK3.out; have := HJ56.out; have := HJ79.out; have := HK6.out; omega⟩, ⟨by (try simp only [hl12_6]); (with_reducible repeat (first | apply Kd.R_alloc | apply Kd.R_drewN | apply Kd.R_drew)); exact Kd.R_mono HO_12.out (fun _ hk => ⟨hk.1, hk.2.1⟩)⟩, ⟨by (try simp only [hl12_6]); (with_reducible repeat (first | apply Kd.R_alloc | apply Kd.R_drewN | apply Kd.R_drew)); exact Kd.R_mono HO_284001.out (fun _ hk => ⟨hk.1, hk.2.1⟩)⟩, ⟨by (try simp only [hl12_6]); (with_reducible repeat (first | apply Kd.R_alloc | apply Kd.R_drewN | apply Kd.R_drew)); exact HO_292001.out⟩, ⟨by (try simp only [hl12_6]); (with_reducible repeat (first | refine blk_drewN ?_ _ | refine blk_drew ?_ | refine blk_alloc ?_ _)); exact BK283.out⟩, ⟨by (try simp only [hl12_6]); (with_reducible repeat (first | refine blk_drewN ?_ _ | refine blk_drew ?_ | refine blk_alloc ?_ _)); exact BK291.out⟩, ⟨by repeat (first | (with_reducible first | exact HB.out | apply below_alloc | apply pw_below_drewN | apply below_drew1 | refine below_set ?_ GE283.out | refine below_set ?_ GE291.out | refine below_set ?_ GE304.out) | exact HB.out)⟩⟩
                                                · replace c93 := Bool.eq_false_iff.mpr c93
                                                  subst c93
                                                  have H1 : (some false) = some r := by rw [if_neg (show ¬ (false = true) by decide)] at H; exact H
                                                  clear H
                                                  have H := H1
                                                  clear H1
                                                  obtain rfl := Option.some.inj H
                                                  have hnb130 := NB304_283.out
                                                  have hnc130 := NB283_304.out
                                                  have hnb131 := NB304_291.out
                                                  have hnc131 := NB291_304.out
                                                  have hcz132_0 : wc.cell? ⟨gb304, 0, none⟩ = some (.int .u64 t299) := (blk_cell BK304.out 0).trans rfl
                                                  have hcz132_1 : wc.cell? ⟨gb304, 1, none⟩ = some (.slice Ao66 t300.length co66) := (blk_cell BK304.out 1).trans rfl
                                                  have hfz132_0 := blk_frozen BK304.out 0
                                                  have hfz132_1 := blk_frozen BK304.out 1
                                                  have hnb133 := NB291_283.out
                                                  have hnc133 := NB283_291.out
                                                  have hcz134_0 : wc.cell? ⟨gb291, 0, none⟩ = some (.int .u64 x292000_3) := (blk_cell BK291.out 0).trans rfl
                                                  have hcz134_1 : wc.cell? ⟨gb291, 1, none⟩ = some (.slice Ao60 x292001_3.length co60) := (blk_cell BK291.out 1).trans rfl
                                                  have hfz134_0 := blk_frozen BK291.out 0
                                                  have hfz134_1 := blk_frozen BK291.out 1
                                                  go_wp2_with (first | ((with_reducible refine gate_store (t := 26) (p := 10) rfl ?_); refine store_event (t := 26) (p := 10) (v := ?vo_w135) (w1 := ((wc.setCell ⟨gb291, 0, none⟩ (.int .u64 t299)).setCell ⟨gb291, 1, none⟩ (.slice Ao66 t300.length co66))) ?hg ?ho ?hn ?hr ?_; (case ho => rfl); (case hg => rfl); (case hn => rfl); (case hr => first | (go_simp; done) | (go_simp; rfl)); intro w135 hw; have n0_ : Aside0 (Kd.R Kd.bool 4 w135 w.heap.size (fun k_ => some k_ ≠ (.slice Ao9 t279.length co9 : Value).ownBlock ∧ some k_ ≠ (.slice Ao60 x292001_3.length co60 : Value).ownBlock ∧ some k_ ≠ (.slice Ao66 t300.length co66 : Value).ownBlock) v293 x12_3) := ⟨(by rw [hw]; exact (by (with_reducible repeat (first | apply Kd.R_alloc | apply Kd.R_drewN | apply Kd.R_drew)); exact Kd.R_mono (Kd.R_far (p := ⟨gb291, 1, none⟩) (Kd.R_far (p := ⟨gb291, 0, none⟩) (Kd.R_types HO_12.out BK291.out (by decide)) (fun _ hk => hk.2) (.int .u64 t299)) (fun _ hk => hk.2) (.slice Ao66 t300.length co66)) (fun _ hk => ⟨hk.1.1, ⟨hk.1.2.1, hk.1.2.2⟩⟩)))⟩; have n1_ : Aside0 (Kd.R Kd.bool 4 w135 w.heap.size (fun k_ => some k_ ≠ (v293 : Value).ownBlock ∧ some k_ ≠ (.slice Ao60 x292001_3.length co60 : Value).ownBlock ∧ some k_ ≠ (.slice Ao66 t300.length co66 : Value).ownBlock) (.slice Ao9 t279.length co9) t279) := ⟨(by rw [hw]; exact (by (with_reducible repeat (first | apply Kd.R_alloc | apply Kd.R_drewN | apply Kd.R_drew)); exact Kd.R_mono (Kd.R_far (p := ⟨gb291, 1, none⟩) (Kd.R_far (p := ⟨gb291, 0, none⟩) (Kd.R_types HO_284001.out BK291.out (by decide)) (fun _ hk => hk.2) (.int .u64 t299)) (fun _ hk => hk.2) (.slice Ao66 t300.length co66)) (fun _ hk => ⟨hk.1.1, ⟨hk.1.2.1, hk.1.2.2⟩⟩)))⟩; have n2_ : Aside0 (Kd.R Kd.bool 4 w135 w.heap.size (fun k_ => some k_ ≠ (v293 : Value).ownBlock ∧ some k_ ≠ (.slice Ao9 t279.length co9 : Value).ownBlock ∧ some k_ ≠ (.slice Ao66 t300.length co66 : Value).ownBlock) (.slice Ao60 x292001_3.length co60) x292001_3) := ⟨(by rw [hw]; exact (by (with_reducible repeat (first | apply Kd.R_alloc | apply Kd.R_drewN | apply Kd.R_drew)); exact Kd.R_mono (Kd.R_far (p := ⟨gb291, 1, none⟩) (Kd.R_far (p := ⟨gb291, 0, none⟩) (Kd.R_types HO_292001.out BK291.out (by decide)) (fun _ hk => hk.2) (.int .u64 t299)) (fun _ hk => hk.2) (.slice Ao66 t300.length co66)) (fun _ hk => ⟨hk.1.1, ⟨hk.1.2.1, hk.1.2.2⟩⟩)))⟩; have n3_ : Aside0 (Kd.R Kd.bool 4 w135 w.heap.size (fun k_ => some k_ ≠ (v293 : Value).ownBlock ∧ some k_ ≠ (.slice Ao9 t279.length co9 : Value).ownBlock ∧ some k_ ≠ (.slice Ao60 x292001_3.length co60 : Value).ownBlock) (.slice Ao66 t300.length co66) t300) := ⟨(by rw [hw]; exact (by (with_reducible repeat (first | apply Kd.R_alloc | apply Kd.R_drewN | apply Kd.R_drew)); exact Kd.R_mono (Kd.R_far (p := ⟨gb291, 1, none⟩) (Kd.R_far (p := ⟨gb291, 0, none⟩) (Kd.R_types HO_305001.out BK291.out (by decide)) (fun _ hk => hk.2) (.int .u64 t299)) (fun _ hk => hk.2) (.slice Ao66 t300.length co66)) (fun _ hk => ⟨hk.1.1, ⟨hk.1.2.1, hk.1.2.2⟩⟩)))⟩; have n4_ : Aside0 (w135.heap[gb283]? = some (.cells #[.int .u64 t278, .slice Ao9 t279.length co9] 26 (0, 0))) := ⟨(by rw [hw]; exact (by (with_reducible repeat (first | refine blk_drewN ?_ _ | refine blk_drew ?_ | refine blk_alloc ?_ _)); refine blk_far ?_ NB283_291.out _; (with_reducible repeat (first | refine blk_drewN ?_ _ | refine blk_drew ?_ | refine blk_alloc ?_ _)); refine blk_far ?_ NB283_291.out _; (with_reducible repeat (first | refine blk_drewN ?_ _ | refine blk_drew ?_ | refine blk_alloc ?_ _)); exact BK283.out))⟩; have n5_ : Aside0 (w135.heap[gb291]? = some (.cells #[.int .u64 t299, .slice Ao66 t300.length co66] 26 (0, 0))) := ⟨(by rw [hw]; exact (by (with_reducible repeat (first | refine blk_drewN ?_ _ | refine blk_drew ?_ | refine blk_alloc ?_ _)); refine blk_put (cs := #[.int .u64 t299, .slice Ao60 x292001_3.length co60]) ?_ 1 _ rfl; (with_reducible repeat (first | refine blk_drewN ?_ _ | refine blk_drew ?_ | refine blk_alloc ?_ _)); refine blk_put (cs := #[.int .u64 x292000_3, .slice Ao60 x292001_3.length co60]) ?_ 0 _ rfl; (with_reducible repeat (first | refine blk_drewN ?_ _ | refine blk_drew ?_ | refine blk_alloc ?_ _)); exact BK291.out))⟩; have n6_ : Aside0 (w135.heap[gb304]? = some (.cells #[.int .u64 t299, .slice Ao66 t300.length co66] 26 (0, 0))) := ⟨(by rw [hw]; exact (by (with_reducible repeat (first | refine blk_drewN ?_ _ | refine blk_drew ?_ | refine blk_alloc ?_ _)); refine blk_far ?_ NB304_291.out _; (with_reducible repeat (first | refine blk_drewN ?_ _ | refine blk_drew ?_ | refine blk_alloc ?_ _)); refine blk_far ?_ NB304_291.out _; (with_reducible repeat (first | refine blk_drewN ?_ _ | refine blk_drew ?_ | refine blk_alloc ?_ _)); exact BK304.out))⟩; have n7_ : Aside0 (Below w.heap.size w w135) := ⟨(by rw [hw]; exact (by repeat (first | (with_reducible first | exact HB.out | apply below_alloc | apply pw_below_drewN | apply below_drew1 | refine below_set ?_ GE283.out | refine below_set ?_ GE291.out | refine below_set ?_ GE304.out) | exact HB.out)))⟩; clear hw; clear HO_12; clear HO_284001; clear HO_292001; clear HO_305001; clear BK283; clear BK291; clear BK304; clear HB; have HO_12 := n0_; have HO_284001 := n1_; have HO_292001 := n2_; have HO_305001 := n3_; have BK283 := n4_; have BK291 := n5_; have BK304 := n6_; have HB := n7_; clear n0_ n1_ n2_ n3_ n4_ n5_ n6_ n7_; have p91 : 0 ≤ ((rd (l1.take ((ji49) : Int).toNat) x80_3) : Int) := of_decide_eq_true (by first | (with_reducible assumption) | assumption); have q91 : ((rd (l1.take ((ji49) : Int).toNat) x80_3) : Int) < ((x12_3.length : Int) : Int) := of_decide_eq_true (by first | (with_reducible assumption) | assumption); obtain ⟨go91, co91, eo91, gb91, gl91, cl91, HG91⟩ := Kd.R_form HO_12.out (by omega); (first | cases eo91 | (injection eo91 with ea_ en_ ec_; (first | subst ea_ | (injection ea_ with ea_; subst ea_)); subst ec_; clear en_)); have GB91 := Aside0.mk gb91; have GG91 := Aside0.mk HG91; clear gb91 gl91 HG91; obtain ⟨hx91_0, hf91_0⟩ := Kd.R_celln false HO_12.out ((rd (l1.take ((ji49) : Int).toNat) x80_3) : Int) p91 q91; replace p91 := eq_true p91; replace q91 := eq_true q91; obtain ⟨hy136_, hz136_⟩ := Kd.R_celln false HO_12.out ((rd (l1.take ((ji49) : Int).toNat) x80_3) : Int) (of_decide_eq_true (by first | (with_reducible assumption) | assumption)) (of_decide_eq_true (by first | (with_reducible assumption) | assumption)); have HP136 := Kd.R_putg HO_12.out ((rd (l1.take ((ji49) : Int).toNat) x80_3) : Int) true) | ((with_reducible refine gate_store (t := 4) (p := 118) rfl ?_); refine store_event (t := 4) (p := 118) (v := ?vo_w137) (w1 := (w135.setCell ⟨go91, ((rd (l1.take ((ji49) : Int).toNat) x80_3) : Int).toNat, none⟩ (.bool true))) ?hg ?ho ?hn ?hr ?_; (case ho => rfl); (case hg => rfl); (case hn => rfl); (case hr => first | (go_simp; done) | (go_simp; rfl)); intro w137 hw; have hg : w135.grownBy w137 (some go91) := (by rw [hw]; exact HP136.2); have hp_ : Kd.R Kd.bool 4 w137 w.heap.size (fun k_ => some k_ ≠ (.slice Ao9 t279.length co9 : Value).ownBlock ∧ some k_ ≠ (.slice Ao60 x292001_3.length co60 : Value).ownBlock ∧ some k_ ≠ (.slice Ao66 t300.length co66 : Value).ownBlock) (.slice (some ⟨go91, 0, none⟩) x12_3.length co91) y307 := (by rw [hw, Ny307.out]; exact HP136.1); clear HP136; have n0_ := Aside0.mk (hp_); have n1_ := Aside0.mk (Kd.R_after (v := (.slice (some ⟨go91, 0, none⟩) x12_3.length co91)) (v1 := (.slice (some ⟨go91, 0, none⟩) x12_3.length co91)) (ok := (fun k_ => some k_ ≠ (.slice Ao60 x292001_3.length co60 : Value).ownBlock ∧ some k_ ≠ (.slice Ao66 t300.length co66 : Value).ownBlock)) (by (with_reducible repeat (first | apply Kd.R_alloc | apply Kd.R_drewN | apply Kd.R_drew)); exact Kd.R_mono HO_284001.out (fun _ hk => ⟨⟨hk.2.1, hk.2.2⟩, hk.1⟩)) hg (.inl rfl)); have n2_ := Aside0.mk (Kd.R_after (v := (.slice (some ⟨go91, 0, none⟩) x12_3.length co91)) (v1 := (.slice (some ⟨go91, 0, none⟩) x12_3.length co91)) (ok := (fun k_ => some k_ ≠ (.slice Ao9 t279.length co9 : Value).ownBlock ∧ some k_ ≠ (.slice Ao66 t300.length co66 : Value).ownBlock)) (by (with_reducible repeat (first | apply Kd.R_alloc | apply Kd.R_drewN | apply Kd.R_drew)); exact Kd.R_mono HO_292001.out (fun _ hk => ⟨⟨hk.2.1, hk.2.2⟩, hk.1⟩)) hg (.inl rfl)); have n3_ := Aside0.mk (Kd.R_after (v := (.slice (some ⟨go91, 0, none⟩) x12_3.length co91)) (v1 := (.slice (some ⟨go91, 0, none⟩) x12_3.length co91)) (ok := (fun k_ => some k_ ≠ (.slice Ao9 t279.length co9 : Value).ownBlock ∧ some k_ ≠ (.slice Ao60 x292001_3.length co60 : Value).ownBlock)) (by (with_reducible repeat (first | apply Kd.R_alloc | apply Kd.R_drewN | apply Kd.R_drew)); exact Kd.R_mono HO_305001.out (fun _ hk => ⟨⟨hk.2.1, hk.2.2⟩, hk.1⟩)) hg (.inl rfl)); have n4_ := Aside0.mk (blk_grown (g := gb283) (o := .cells #[.int .u64 t278, .slice Ao9 t279.length co9] 26 (0, 0)) (by (with_reducible repeat (first | refine blk_drewN ?_ _ | refine blk_drew ?_ | refine blk_alloc ?_ _)); exact BK283.out) hg (Kd.R_ne HO_12.out BK283.out (by decide))); have n5_ := Aside0.mk (blk_grown (g := gb291) (o := .cells #[.int .u64 t299, .slice Ao66 t300.length co66] 26 (0, 0)) (by (with_reducible repeat (first | refine blk_drewN ?_ _ | refine blk_drew ?_ | refine blk_alloc ?_ _)); exact BK291.out) hg (Kd.R_ne HO_12.out BK291.out (by decide))); have n6_ := Aside0.mk (blk_grown (g := gb304) (o := .cells #[.int .u64 t299, .slice Ao66 t300.length co66] 26 (0, 0)) (by (with_reducible repeat (first | refine blk_drewN ?_ _ | refine blk_drew ?_ | refine blk_alloc ?_ _)); exact BK304.out) hg (Kd.R_ne HO_12.out BK304.out (by decide))); have n7_ := Aside0.mk ((by rw [hw]; exact below_set (HB.out) GB91.out : Below w.heap.size w w137)); clear HO_12; clear HO_284001; clear HO_292001; clear HO_305001; clear BK283; clear BK291; clear BK304; clear HB; have HO_12 := n0_; have HO_284001 := n1_; have HO_292001 := n2_; have HO_305001 := n3_; have BK283 := n4_; have BK291 := n5_; have BK304 := n6_; have HB := n7_; clear n0_ n1_ n2_ n3_ n4_ n5_ n6_ n7_; clear hg hw hp_; have hcz138_0 : w137.cell? ⟨gb291, 0, none⟩ = some (.int .u64 t299) := (blk_cell BK291.out 0).trans rfl; have hcz138_1 : w137.cell? ⟨gb291, 1, none⟩ = some (.slice Ao66 t300.length co66) := (blk_cell BK291.out 1).trans rfl; have hfz138_0 := blk_frozen BK291.out 0; have hfz138_1 := blk_frozen BK291.out 1) | ((with_reducible refine gate_callee (f := 12) rfl ?_); refine goesL_ (some 122) rfl rfl Try.func12 (by kernel_rfl) rfl #[.agg #[.int .u64 t299, .slice Ao66 t300.length co66], .int .u64 (IntKind.u64.wrap (x13_3 + 1)), .slice (some ⟨go91, 0, none⟩) y307.length co91] rfl (by (try simp only [List.map_toArray, List.map_cons, List.map_nil]); first | done | (rw [show y307.length = x12_3.length from (Kd.R_reads' HO_12.out).1.symm] <;> rfl) | rfl | (simp only [List.length_drop, List.length_take]; rfl) | (simp only [ByteArray.size_append]; rfl) | (simp only [ByteArray.size_extract]; rfl)) ?_; (with_reducible refine (tillrolllaw09_same.calls kj79 t299 _ _ t300 (IntKind.u64.wrap (x13_3 + 1)) _ _ y307 false _ ?side1 ?side2 ?side3 ?side4 A92.out).mono ?_); (case side1 => repeat (first | exact (Kd.R_reads' HO_305001.out).2.2 | (with_reducible refine Kd.C_alloc ?_ _) | (with_reducible refine Kd.C_drewN ?_ _) | (with_reducible refine Kd.C_drew ?_))); (case side2 => exact (Kd.R_reads' HO_305001.out).2.1); (case side3 => repeat (first | exact (Kd.R_reads' HO_12.out).2.2 | (with_reducible refine Kd.C_alloc ?_ _) | (with_reducible refine Kd.C_drewN ?_ _) | (with_reducible refine Kd.C_drew ?_))); (case side4 => rw [show y307.length = x12_3.length from (Kd.R_reads' HO_12.out).1.symm]; exact (Kd.R_reads' HO_12.out).2.1); rintro e w139 ⟨rfl, hb⟩; refine ⟨_, rfl, ?_⟩; have n0_ := Aside0.mk (Kd.R_below (by (with_reducible repeat (first | apply Kd.R_alloc | apply Kd.R_drewN | apply Kd.R_drew)); exact HO_12.out) hb); have n1_ := Aside0.mk (Kd.R_below (by (with_reducible repeat (first | apply Kd.R_alloc | apply Kd.R_drewN | apply Kd.R_drew)); exact HO_284001.out) hb); have n2_ := Aside0.mk (Kd.R_below (by (with_reducible repeat (first | apply Kd.R_alloc | apply Kd.R_drewN | apply Kd.R_drew)); exact HO_292001.out) hb); have n3_ := Aside0.mk (Kd.R_below (by (with_reducible repeat (first | apply Kd.R_alloc | apply Kd.R_drewN | apply Kd.R_drew)); exact HO_305001.out) hb); have n4_ := Aside0.mk (blk_below (g := gb283) (o := .cells #[.int .u64 t278, .slice Ao9 t279.length co9] 26 (0, 0)) (by (with_reducible repeat (first | refine blk_drewN ?_ _ | refine blk_drew ?_ | refine blk_alloc ?_ _)); exact BK283.out) hb); have n5_ := Aside0.mk (blk_below (g := gb291) (o := .cells #[.int .u64 t299, .slice Ao66 t300.length co66] 26 (0, 0)) (by (with_reducible repeat (first | refine blk_drewN ?_ _ | refine blk_drew ?_ | refine blk_alloc ?_ _)); exact BK291.out) hb); have n6_ := Aside0.mk (blk_below (g := gb304) (o := .cells #[.int .u64 t299, .slice Ao66 t300.length co66] 26 (0, 0)) (by (with_reducible repeat (first | refine blk_drewN ?_ _ | refine blk_drew ?_ | refine blk_alloc ?_ _)); exact BK304.out) hb); have n7_ := Aside0.mk (below_step (by repeat (first | (with_reducible first | exact HB.out | apply below_alloc | apply pw_below_drewN | apply below_drew1 | refine below_set ?_ GE283.out | refine below_set ?_ GE291.out | refine below_set ?_ GE304.out) | exact HB.out)) hb); clear HO_12; clear HO_284001; clear HO_292001; clear HO_305001; clear BK283; clear BK291; clear BK304; clear HB; have HO_12 := n0_; have HO_284001 := n1_; have HO_292001 := n2_; have HO_305001 := n3_; have BK283 := n4_; have BK291 := n5_; have BK304 := n6_; have HB := n7_; clear n0_ n1_ n2_ n3_ n4_ n5_ n6_ n7_; (try clear hb); (try clear hb2); (try clear hk); (try clear hi)))
                                                  go_ret
                                                  exact ⟨by first | rfl | (simp [errW_none, errW_some] <;> rfl) | (simp only [← hji24, ← hji26, ← hji49]; first | rfl | (simp [errW_none, errW_some] <;> rfl)) | (simp [*, errW_none, errW_some] <;> rfl), by repeat (first | (with_reducible first | exact HB.out | apply below_alloc | apply pw_below_drewN | apply below_drew1 | refine below_set ?_ GE283.out | refine below_set ?_ GE291.out | refine below_set ?_ GE304.out) | exact HB.out)⟩
                                              · rw [if_neg c90] at H
                                                exact absurd H (by simp)
                                            · rw [if_neg c89] at H
                                              exact absurd H (by simp)
                              · rw [if_neg c55] at H
                                have mx55n : ¬ (x80_3 < max ji49 0) := (by have hh := c55; have hg := hji49_; rw [List.length_take] at hh; split at hg <;> omega)
                                have mx55na := eq_false mx55n
                                have mx55nb : decide (x80_3 < max ji49 0) = false := decide_eq_false mx55n
                                exact absurd H (by simp)
                            · rw [if_neg c54] at H
                              exact absurd H (by simp)
                          · rw [if_neg c53] at H
                            have mx53n : ¬ (x80_3 < max ji49 0) := (by have hh := c53; have hg := hji49_; rw [List.length_take] at hh; split at hg <;> omega)
                            have mx53na := eq_false mx53n
                            have mx53nb : decide (x80_3 < max ji49 0) = false := decide_eq_false mx53n
                            have c53b0 : decide (x80_3 < ((l1.take ((ji49) : Int).toNat).length : Int)) = false := decide_eq_false c53
                            clear c53
                            obtain rfl := Option.some.inj H
                            go_wp2
                            go_ret
                            exact ⟨by first | rfl | (simp [errW_none, errW_some] <;> rfl) | (simp only [← hji24, ← hji26, ← hji49]; first | rfl | (simp [errW_none, errW_some] <;> rfl)) | (simp [*, errW_none, errW_some] <;> rfl), by repeat (first | (with_reducible first | exact HB.out | apply below_alloc | apply pw_below_drewN | apply below_drew1 | refine below_set ?_ GE283.out | refine below_set ?_ GE291.out) | exact HB.out)⟩
                    · rw [if_neg c51] at H
                      exact absurd H (by simp)
                  · rw [if_neg c50] at H
                    exact absurd H (by simp)
          · rw [if_neg c28] at H
            exact absurd H (by simp)
        · rw [if_neg c27] at H
          exact absurd H (by simp)

/-- THE ONE PURE STATEMENT of tillrolllaw09_BbtGrows: yours. -/
def tillrolllaw09_BbtGrows.Pure : Prop := ∀ (a0 : Int) (l1 : List Int) (a2 : Int), (Lit.int .i64 a0).wf = true → l1.length ≤ maxLen → l1.length * 8 ≤ 140737488351232 → (∀ x ∈ l1, (Lit.int .i64 x).wf = true) → (Lit.int .i64 a2).wf = true → ∃ k, tillrolllaw09_BbtGrows.f k a0 l1 a2 = some true
theorem tillrolllaw09_BbtGrows.walk (P : tillrolllaw09_BbtGrows.Pure) (a0 : Int) (a1 : Option Addr) (len1 cap1 : Nat) (z1 : List Int) (a2 : Int) (w : World) (w0 : (Lit.int .i64 a0).wf = true) (w1 : (a1 = none ∧ len1 = 0 ∧ cap1 = 0 ∧ z1 = []) ∨ ∃ x, a1 = some x ∧ len1 ≤ cap1 ∧ cap1 ≤ maxLen ∧ z1.length = cap1 ∧ (∀ i, i < z1.length → w.cell? (x.add i) = some (.int .i64 (z1.getD i 0))) ∧ ∀ n ∈ z1, (Lit.int .i64 n).wf = true) (y1 : len1 * 8 ≤ 140737488351232) (w2 : (Lit.int .i64 a2).wf = true) :
    Calls Try.prog 4 #[.int .i64 a0, .slice a1 len1 cap1, .int .i64 a2] w fun e w' => e = .returned (.bool true) ∧ Below w.heap.size w w' := by
  obtain ⟨l1, rfl, hr1, hm1, hw1, hc1⟩ := ReadsInt.ofRowC w1
  obtain ⟨k, h⟩ := P a0 l1 a2 w0 hm1 y1 hw1 w2
  refine (tillrolllaw09_BbtGrows.calls k a0 _ _ l1 a2 true w (Kd.C_of_reads (d := (0 : Int)) (h1 := fun _ => rfl) hr1) hc1 h).mono ?_
  rintro e w' ⟨rfl, hd⟩
  exact ⟨rfl, hd⟩

end Go.Proofs.Ytopglieihhgaaaa.P
