-- Made by a program of this session (xprint) out of the translation. Not trusted: Lean checks it.
import Derived.Test.YtopglieihhgaaaaPx0
import Derived.Test.YtopglieihhgaaaaPx1
import Derived.Test.YtopglieihhgaaaaPx4
namespace Go.Proofs.Ytopglieihhgaaaa.P
open Go.RowKit Go.Proofs.YtopglieihhgaaaaW.PrintWords Go.Proofs.YtopglieihhgaaaaW.PrintLast Go.Proofs.YtopglieihhgaaaaW.PrintMore
attribute [local go_sem] max2_int min2_int max_two min_two max_three min_three max_four min_four   -- for this text's walks alone
set_option linter.unusedVariables false
set_option linter.unusedSimpArgs false

/-! ### tillrolllaw09_BbtAny: function 3 -/
universe u
theorem sS {α : Type u} (l : List α) (i : Nat) (a : α) : l.toArray.setIfInBounds i a = (l.set i a).toArray := List.setIfInBounds_toArray ..
theorem s0_ {α : Type u} (x : α) (xs : List α) (a : α) : (x :: xs).set 0 a = a :: xs := rfl
theorem s1_ {α : Type u} (x : α) (xs : List α) (n : Nat) (a : α) : (x :: xs).set (n + 1) a = x :: xs.set n a := rfl
mutual
def tillrolllaw09_BbtAny.j0 : Nat → List Int → Int → Bool → Int → List Bool → Int → List Bool → Option (Bool)
 | 0, _, _, _, _, _, _, _ => none
 | k + 1, x0, x1, x37, x222000, x222001, x228000, x228001 => if x37 = true then (some false) else (tillrolllaw09_BbtAny.l0 k x0 x1 (x0.length : Int) 0 x222000 x222001 x228000 x228001)
def tillrolllaw09_BbtAny.l0 : Nat → List Int → Int → Int → Int → Int → List Bool → Int → List Bool → Option (Bool)
 | 0, _, _, _, _, _, _, _, _ => none
 | k + 1, x0, x1, x39, x40, x222000, x222001, x228000, x228001 => if x40 < x39 then (if 0 ≤ x40 then (if x40 < (x0.length : Int) then ((bbt_Table_With.f x222000 x222001 (Int.tmod (wrap64 (rd x0 x40)) 40)).bind fun bt231 => (if (x0.length : Int) = 0 then (none) else (if 0 ≤ (Int.tmod (wrap64 (x40 + (wrap64 (x1)))) (x0.length : Int)) then (if (Int.tmod (wrap64 (x40 + (wrap64 (x1)))) (x0.length : Int)) < (x0.length : Int) then ((bbt_Table_With.f x228000 x228001 (Int.tmod (wrap64 (rd x0 (Int.tmod (wrap64 (x40 + (wrap64 (x1)))) (x0.length : Int)))) 40)).bind fun bt237 => (if bt231.2.2 = 0 then (if bt237.2.2 = 0 then (tillrolllaw09_BbtAny.l0 k x0 x1 x39 (wrap64 (x40 + 1)) bt231.1 bt231.2.1 bt237.1 bt237.2.1) else (some false)) else (some false))) else (none)) else (none)))) else (none)) else (none)) else ((bbt_Table_List.f k x222000 x222001).bind fun t242 => ((bbt_Table_List.f k x228000 x228001).bind fun t245 => (if (t242.length : Int) = (t245.length : Int) then ((bbt_Table_Version.f x222000 x222001).bind fun t248 => (if t248 = (IntKind.u64.wrap ((x0.length : Int))) then ((bbt_Table_Version.f x228000 x228001).bind fun t249 => ((bbt_Table_Version.f x222000 x222001).bind fun t250 => (tillrolllaw09_BbtAny.j2 k t242 t245 (t249 != t250)))) else (tillrolllaw09_BbtAny.j2 k t242 t245 true))) else (tillrolllaw09_BbtAny.j2 k t242 t245 true))))
def tillrolllaw09_BbtAny.j2 : Nat → List Int → List Int → Bool → Option (Bool)
 | 0, _, _, _ => none
 | k + 1, x12, x13, x101 => if x101 = true then (some false) else (tillrolllaw09_BbtAny.l1 k x12 x13 (x12.length : Int) 0)
def tillrolllaw09_BbtAny.l1 : Nat → List Int → List Int → Int → Int → Option (Bool)
 | 0, _, _, _, _ => none
 | k + 1, x12, x13, x103, x104 => if x104 < x103 then (if 0 ≤ x104 then (if x104 < (x12.length : Int) then (if x104 < (x13.length : Int) then (if (rd x12 x104) = (rd x13 x104) then (if x104 > 0 then (if 0 ≤ (wrap64 (x104 - 1)) then (if (wrap64 (x104 - 1)) < (x12.length : Int) then (if (rd x12 x104) ≤ (rd x12 (wrap64 (x104 - 1))) then (some false) else (tillrolllaw09_BbtAny.l1 k x12 x13 x103 (wrap64 (x104 + 1)))) else (none)) else (none)) else (tillrolllaw09_BbtAny.l1 k x12 x13 x103 (wrap64 (x104 + 1)))) else (some false)) else (none)) else (none)) else (none)) else (some true)
end
def tillrolllaw09_BbtAny.f (k : Nat) (l0 : List Int) (a1 : Int) : Option (Bool) := (bbt_New.f 40).bind fun bt216 => ((bbt_New.f 40).bind fun bt222 => (if 0 ≤ (mn (l0.length : Int) 30) then (if (mn (l0.length : Int) 30) ≤ (l0.length : Int) then ((tillrolllaw09_wakes.f k).bind fun t229 => (if t229 = true then (if bt216.2.2 = 0 then (tillrolllaw09_BbtAny.j0 k (l0.take ((mn (l0.length : Int) 30) : Int).toNat) a1 (bt222.2.2 != 0) bt216.1 bt216.2.1 bt222.1 bt222.2.1) else (tillrolllaw09_BbtAny.j0 k (l0.take ((mn (l0.length : Int) 30) : Int).toNat) a1 true bt216.1 bt216.2.1 bt222.1 bt222.2.1)) else (tillrolllaw09_BbtAny.j0 k (l0.take ((mn (l0.length : Int) 30) : Int).toNat) a1 true bt216.1 bt216.2.1 bt222.1 bt222.2.1))) else (none)) else (none)))
theorem tillrolllaw09_BbtAny.mono_l : ∀ k, (∀ y0 y1 y2 y3 y4 y5 y6, LeO (tillrolllaw09_BbtAny.j0 k y0 y1 y2 y3 y4 y5 y6) (tillrolllaw09_BbtAny.j0 (k + 1) y0 y1 y2 y3 y4 y5 y6)) ∧ (∀ y0 y1 y2 y3 y4 y5 y6 y7, LeO (tillrolllaw09_BbtAny.l0 k y0 y1 y2 y3 y4 y5 y6 y7) (tillrolllaw09_BbtAny.l0 (k + 1) y0 y1 y2 y3 y4 y5 y6 y7)) ∧ (∀ y0 y1 y2, LeO (tillrolllaw09_BbtAny.j2 k y0 y1 y2) (tillrolllaw09_BbtAny.j2 (k + 1) y0 y1 y2)) ∧ (∀ y0 y1 y2 y3, LeO (tillrolllaw09_BbtAny.l1 k y0 y1 y2 y3) (tillrolllaw09_BbtAny.l1 (k + 1) y0 y1 y2 y3))
 | 0 => ⟨fun _ _ _ _ _ _ _ r h => by simp [tillrolllaw09_BbtAny.j0] at h, fun _ _ _ _ _ _ _ _ r h => by simp [tillrolllaw09_BbtAny.l0] at h, fun _ _ _ r h => by simp [tillrolllaw09_BbtAny.j2] at h, fun _ _ _ _ r h => by simp [tillrolllaw09_BbtAny.l1] at h⟩
 | k + 1 => by
  obtain ⟨ih0, ih1, ih2, ih3⟩ := tillrolllaw09_BbtAny.mono_l k
  refine ⟨?_, ?_, ?_, ?_⟩
  ·
   intro y0 y1 y2 y3 y4 y5 y6
   unfold tillrolllaw09_BbtAny.j0
   repeat' first
   | (with_reducible exact ih0 _ _ _ _ _ _ _)
   | (with_reducible exact ih1 _ _ _ _ _ _ _ _)
   | (with_reducible exact ih2 _ _ _)
   | (with_reducible exact ih3 _ _ _ _)
   | (with_reducible exact bbt_Table_List.mono _ _ _)
   | (with_reducible exact tillrolllaw09_wakes.mono _)
   | (with_reducible exact LeO.refl _)
   | (with_reducible exact LeO.none _)
   | (with_reducible refine LeO.ite ?_ ?_)
   | (with_reducible refine LeO.bind ?_ (fun _ => ?_))
   | exact ih0 _ _ _ _ _ _ _
   | exact ih1 _ _ _ _ _ _ _ _
   | exact ih2 _ _ _
   | exact ih3 _ _ _ _
   | exact bbt_Table_List.mono _ _ _
   | exact tillrolllaw09_wakes.mono _
   | exact LeO.none _
   | refine LeO.ite ?_ ?_
   | refine LeO.bind ?_ (fun _ => ?_)
  ·
   intro y0 y1 y2 y3 y4 y5 y6 y7
   unfold tillrolllaw09_BbtAny.l0
   repeat' first
   | (with_reducible exact ih0 _ _ _ _ _ _ _)
   | (with_reducible exact ih1 _ _ _ _ _ _ _ _)
   | (with_reducible exact ih2 _ _ _)
   | (with_reducible exact ih3 _ _ _ _)
   | (with_reducible exact bbt_Table_List.mono _ _ _)
   | (with_reducible exact tillrolllaw09_wakes.mono _)
   | (with_reducible exact LeO.refl _)
   | (with_reducible exact LeO.none _)
   | (with_reducible refine LeO.ite ?_ ?_)
   | (with_reducible refine LeO.bind ?_ (fun _ => ?_))
   | exact ih0 _ _ _ _ _ _ _
   | exact ih1 _ _ _ _ _ _ _ _
   | exact ih2 _ _ _
   | exact ih3 _ _ _ _
   | exact bbt_Table_List.mono _ _ _
   | exact tillrolllaw09_wakes.mono _
   | exact LeO.none _
   | refine LeO.ite ?_ ?_
   | refine LeO.bind ?_ (fun _ => ?_)
  ·
   intro y0 y1 y2
   unfold tillrolllaw09_BbtAny.j2
   repeat' first
   | (with_reducible exact ih0 _ _ _ _ _ _ _)
   | (with_reducible exact ih1 _ _ _ _ _ _ _ _)
   | (with_reducible exact ih2 _ _ _)
   | (with_reducible exact ih3 _ _ _ _)
   | (with_reducible exact bbt_Table_List.mono _ _ _)
   | (with_reducible exact tillrolllaw09_wakes.mono _)
   | (with_reducible exact LeO.refl _)
   | (with_reducible exact LeO.none _)
   | (with_reducible refine LeO.ite ?_ ?_)
   | (with_reducible refine LeO.bind ?_ (fun _ => ?_))
   | exact ih0 _ _ _ _ _ _ _
   | exact ih1 _ _ _ _ _ _ _ _
   | exact ih2 _ _ _
   | exact ih3 _ _ _ _
   | exact bbt_Table_List.mono _ _ _
   | exact tillrolllaw09_wakes.mono _
   | exact LeO.none _
   | refine LeO.ite ?_ ?_
   | refine LeO.bind ?_ (fun _ => ?_)
  ·
   intro y0 y1 y2 y3
   unfold tillrolllaw09_BbtAny.l1
   repeat' first
   | (with_reducible exact ih0 _ _ _ _ _ _ _)
   | (with_reducible exact ih1 _ _ _ _ _ _ _ _)
   | (with_reducible exact ih2 _ _ _)
   | (with_reducible exact ih3 _ _ _ _)
   | (with_reducible exact bbt_Table_List.mono _ _ _)
   | (with_reducible exact tillrolllaw09_wakes.mono _)
   | (with_reducible exact LeO.refl _)
   | (with_reducible exact LeO.none _)
   | (with_reducible refine LeO.ite ?_ ?_)
   | (with_reducible refine LeO.bind ?_ (fun _ => ?_))
   | exact ih0 _ _ _ _ _ _ _
   | exact ih1 _ _ _ _ _ _ _ _
   | exact ih2 _ _ _
   | exact ih3 _ _ _ _
   | exact bbt_Table_List.mono _ _ _
   | exact tillrolllaw09_wakes.mono _
   | exact LeO.none _
   | refine LeO.ite ?_ ?_
   | refine LeO.bind ?_ (fun _ => ?_)
theorem tillrolllaw09_BbtAny.mono : ∀ a0 a1 k, LeO (tillrolllaw09_BbtAny.f k a0 a1) (tillrolllaw09_BbtAny.f (k + 1) a0 a1) := by
 intro a0 a1 k
 obtain ⟨ih0, ih1, ih2, ih3⟩ := tillrolllaw09_BbtAny.mono_l k
 unfold tillrolllaw09_BbtAny.f
 repeat' first
   | (with_reducible exact ih0 _ _ _ _ _ _ _)
   | (with_reducible exact ih1 _ _ _ _ _ _ _ _)
   | (with_reducible exact ih2 _ _ _)
   | (with_reducible exact ih3 _ _ _ _)
   | (with_reducible exact bbt_Table_List.mono _ _ _)
   | (with_reducible exact tillrolllaw09_wakes.mono _)
   | (with_reducible exact LeO.refl _)
   | (with_reducible exact LeO.none _)
   | (with_reducible refine LeO.ite ?_ ?_)
   | (with_reducible refine LeO.bind ?_ (fun _ => ?_))
   | exact ih0 _ _ _ _ _ _ _
   | exact ih1 _ _ _ _ _ _ _ _
   | exact ih2 _ _ _
   | exact ih3 _ _ _ _
   | exact bbt_Table_List.mono _ _ _
   | exact tillrolllaw09_wakes.mono _
   | exact LeO.none _
   | refine LeO.ite ?_ ?_
   | refine LeO.bind ?_ (fun _ => ?_)
def tillrolllaw09_BbtAny.T10 : Bool × List (List Nat × List Nat) := (true, [([], []), ([], []), ([], []), ([1, 2], [1, 2]), ([3], [3]), ([4], [4]), ([5], [5]), ([0, 6], [0, 6]), ([7], [7]), ([8], [8]), ([8], [8]), ([9, 7, 0, 1, 2, 3, 4, 5, 6, 7, 8, 9], [9]), ([10, 11, 0, 1, 2, 3, 4, 5, 6, 7, 8, 9, 10, 11], [10])])
def tillrolllaw09_BbtAny.B10 : List Nat := [0, 0, 0, 6, 14, 30, 62, 127, 255, 511, 511, 1023, 4095]
theorem tillrolllaw09_BbtAny.tab10 : rtab .any (opsOf Try.f3 10) = tillrolllaw09_BbtAny.T10 := by kernel_rfl
theorem tillrolllaw09_BbtAny.bits10 : waitsOk tillrolllaw09_BbtAny.T10.2 tillrolllaw09_BbtAny.B10 = true := by kernel_rfl
def tillrolllaw09_BbtAny.T11 : Bool × List (List Nat × List Nat) := (true, [([], []), ([], []), ([], []), ([], []), ([3], [3]), ([2, 4], [2, 4]), ([], []), ([6], [6]), ([5, 7], [5, 7]), ([1, 8], [1, 8]), ([9], [9]), ([10], [10]), ([11], [11]), ([0, 12], [0, 12]), ([13], [13]), ([14], [14]), ([14], [14]), ([15, 13, 0, 1, 2, 3, 4, 5, 6, 7, 8, 9, 10, 11, 12, 13, 14, 15], [15]), ([16, 17, 0, 1, 2, 3, 4, 5, 6, 7, 8, 9, 10, 11, 12, 13, 14, 15, 16, 17], [16])])
def tillrolllaw09_BbtAny.B11 : List Nat := [0, 0, 0, 0, 8, 28, 0, 64, 252, 510, 1022, 2046, 4094, 8191, 16383, 32767, 32767, 65535, 262143]
theorem tillrolllaw09_BbtAny.tab11 : rtab .any (opsOf Try.f3 11) = tillrolllaw09_BbtAny.T11 := by kernel_rfl
theorem tillrolllaw09_BbtAny.bits11 : waitsOk tillrolllaw09_BbtAny.T11.2 tillrolllaw09_BbtAny.B11 = true := by kernel_rfl
def tillrolllaw09_BbtAny.T16 : Bool × List (List Nat × List Nat) := (true, [([], []), ([0], [0]), ([], []), ([2], [2]), ([1, 3], [1, 3]), ([4], [4]), ([5], [5]), ([6, 5, 5], [5, 6]), ([5], [5]), ([8, 5], [5, 8]), ([9, 5], [5, 9]), ([7, 10, 5], [5, 7, 10]), ([5, 11], [5, 11]), ([12, 7], [12]), ([13], [13]), ([14, 13, 13], [13, 14]), ([13], [13]), ([16, 15, 13], [13, 16]), ([15, 17, 13], [13, 15, 17]), ([13, 18], [13, 18])])
def tillrolllaw09_BbtAny.B16 : List Nat := [0, 1, 0, 4, 15, 31, 63, 127, 63, 319, 831, 2047, 4095, 8191, 16383, 32767, 16383, 131071, 262143, 524287]
theorem tillrolllaw09_BbtAny.tab16 : rtab .any (opsOf Try.f3 16) = tillrolllaw09_BbtAny.T16 := by kernel_rfl
theorem tillrolllaw09_BbtAny.bits16 : waitsOk tillrolllaw09_BbtAny.T16.2 tillrolllaw09_BbtAny.B16 = true := by kernel_rfl
def tillrolllaw09_BbtAny.T21 : Bool × List (List Nat × List Nat) := (true, [([], []), ([], []), ([0, 1], [0, 1]), ([2], [2]), ([], []), ([], []), ([4, 5], [4, 5]), ([6], [6]), ([3, 7], [3, 7]), ([8], [8]), ([9], [9]), ([10, 9], [9, 10]), ([11, 9, 9], [9, 11]), ([12], [12]), ([12], [12]), ([13, 14, 12], [12, 13, 14]), ([15, 12], [12, 15]), ([12], [12]), ([12], [12]), ([18, 12], [12, 18]), ([17, 19, 12], [12, 17, 19]), ([20, 12], [12, 20]), ([16, 21, 12], [12, 16, 21]), ([12, 22, 9], [9, 12, 22]), ([9, 23], [9, 23])])
def tillrolllaw09_BbtAny.B21 : List Nat := [0, 0, 3, 7, 0, 0, 48, 112, 255, 511, 1023, 2047, 4095, 8191, 8191, 32767, 65535, 8191, 8191, 270335, 925695, 1974271, 4194303, 8388607, 16777215]
theorem tillrolllaw09_BbtAny.tab21 : rtab .any (opsOf Try.f3 21) = tillrolllaw09_BbtAny.T21 := by kernel_rfl
theorem tillrolllaw09_BbtAny.bits21 : waitsOk tillrolllaw09_BbtAny.T21.2 tillrolllaw09_BbtAny.B21 = true := by kernel_rfl
set_option maxHeartbeats 8000000 in
set_option maxRecDepth 100000 in
theorem tillrolllaw09_BbtAny.calls (k : Nat) (A0 : Option Addr) (c0 : Nat) (l0 : List Int) (a1 : Int) (r : Bool) (w : World) (hr0 : Kd.C (Kd.int .u8) w A0 l0.length l0) (hc0 : l0.length ≤ c0) (h : tillrolllaw09_BbtAny.f k l0 a1 = some r) :
  Calls Try.prog 3 #[.slice A0 l0.length c0, .int .u8 a1] w fun e w' => e = .returned (.bool r) ∧ Below w.heap.size w w' := by
 have hu26 := Try.underlying26
 have HR0 := Aside0.mk hr0
 have HC0 := Aside0.mk hc0
 clear hr0 hc0
 have HB := Aside0.mk (Below.refl w.heap.size w)
 have H : ((bbt_New.f 40).bind fun bt216 => ((bbt_New.f 40).bind fun bt222 => (if 0 ≤ (mn (l0.length : Int) 30) then (if (mn (l0.length : Int) 30) ≤ (l0.length : Int) then ((tillrolllaw09_wakes.f k).bind fun t229 => (if t229 = true then (if bt216.2.2 = 0 then (tillrolllaw09_BbtAny.j0 k (l0.take ((mn (l0.length : Int) 30) : Int).toNat) a1 (bt222.2.2 != 0) bt216.1 bt216.2.1 bt222.1 bt222.2.1) else (tillrolllaw09_BbtAny.j0 k (l0.take ((mn (l0.length : Int) 30) : Int).toNat) a1 true bt216.1 bt216.2.1 bt222.1 bt222.2.1)) else (tillrolllaw09_BbtAny.j0 k (l0.take ((mn (l0.length : Int) 30) : Int).toNat) a1 true bt216.1 bt216.2.1 bt222.1 bt222.2.1))) else (none)) else (none)))) = some r := h
 clear h
 replace H := Option.bind_eq_some_iff.mp H
 obtain ⟨⟨t216, t217, t220⟩, A30, H⟩ := H
 replace H : ((bbt_New.f 40).bind fun bt222 => (if 0 ≤ (mn (l0.length : Int) 30) then (if (mn (l0.length : Int) 30) ≤ (l0.length : Int) then ((tillrolllaw09_wakes.f k).bind fun t229 => (if t229 = true then (if t220 = 0 then (tillrolllaw09_BbtAny.j0 k (l0.take ((mn (l0.length : Int) 30) : Int).toNat) a1 (bt222.2.2 != 0) t216 t217 bt222.1 bt222.2.1) else (tillrolllaw09_BbtAny.j0 k (l0.take ((mn (l0.length : Int) 30) : Int).toNat) a1 true t216 t217 bt222.1 bt222.2.1)) else (tillrolllaw09_BbtAny.j0 k (l0.take ((mn (l0.length : Int) 30) : Int).toNat) a1 true t216 t217 bt222.1 bt222.2.1))) else (none)) else (none))) = some r := H
 have A3 := Aside0.mk A30
 clear A30
 replace H := Option.bind_eq_some_iff.mp H
 obtain ⟨⟨t222, t223, t226⟩, A40, H⟩ := H
 replace H : (if 0 ≤ (mn (l0.length : Int) 30) then (if (mn (l0.length : Int) 30) ≤ (l0.length : Int) then ((tillrolllaw09_wakes.f k).bind fun t229 => (if t229 = true then (if t220 = 0 then (tillrolllaw09_BbtAny.j0 k (l0.take ((mn (l0.length : Int) 30) : Int).toNat) a1 (t226 != 0) t216 t217 t222 t223) else (tillrolllaw09_BbtAny.j0 k (l0.take ((mn (l0.length : Int) 30) : Int).toNat) a1 true t216 t217 t222 t223)) else (tillrolllaw09_BbtAny.j0 k (l0.take ((mn (l0.length : Int) 30) : Int).toNat) a1 true t216 t217 t222 t223))) else (none)) else (none)) = some r := H
 have A4 := Aside0.mk A40
 clear A40
 obtain ⟨ji5, hji5⟩ : ∃ j_ : Int, (mn (l0.length : Int) 30) = j_ := ⟨_, rfl⟩
 replace H : (if 0 ≤ (ji5) then (if (ji5) ≤ (l0.length : Int) then ((tillrolllaw09_wakes.f k).bind fun t229 => (if t229 = true then (if t220 = 0 then (tillrolllaw09_BbtAny.j0 k (l0.take ((ji5) : Int).toNat) a1 (t226 != 0) t216 t217 t222 t223) else (tillrolllaw09_BbtAny.j0 k (l0.take ((ji5) : Int).toNat) a1 true t216 t217 t222 t223)) else (tillrolllaw09_BbtAny.j0 k (l0.take ((ji5) : Int).toNat) a1 true t216 t217 t222 t223))) else (none)) else (none)) = some r := by first | (rw [hji5] at H; exact H) | (simp only [hji5] at H ⊢; exact H)
 (try rw [hji5] at A3)
 (try rw [hji5] at A4)
 (try (have hji5h : ji5 ≤ 30 := by (rw [← hji5]; unfold mn; (repeat' split) <;> omega)))
 (try (have hji5g : ji5 ≤ 64 := by omega))
 (try (have hji5l : 0 ≤ ji5 := by (rw [← hji5]; unfold mn; (repeat' split) <;> omega)))
 (try (have hji5m : 0 ≤ ji5 := by omega))
 have hji5_ : (if 30 < (l0.length : Int) then 30 else (l0.length : Int)) = ji5 := hji5
 by_cases c6 : 0 ≤ (ji5)
 ·
  rw [if_pos c6] at H
  have c6b0 := eq_true c6
  have c6b1 : decide (0 ≤ (ji5)) = true := decide_eq_true c6
  clear c6
  by_cases c7 : (ji5) ≤ (l0.length : Int)
  ·
   rw [if_pos c7] at H
   have c7b0 := eq_true c7
   have c7b1 : decide ((ji5) ≤ (l0.length : Int)) = true := decide_eq_true c7
   clear c7
   have HC8 := Aside0.mk H
   clear H
   go_enter Try.func3, Try.ntmps3
   go_upto_region 4 with (first | ((with_reducible refine gate_callee (f := 6) rfl ?_); refine goesL_ (some 16) rfl rfl Try.func6 (by kernel_rfl) rfl #[.int .i64 40] rfl (by (try simp only [List.map_toArray, List.map_cons, List.map_nil]); first | done | rfl | (simp only [List.length_drop, List.length_take]; rfl) | (simp only [ByteArray.size_append]; rfl) | (simp only [ByteArray.size_extract]; rfl)) ?_; (with_reducible refine (bbt_New.calls 40 t216 t217 t220 _ A3.out).mono ?_); rintro e w9 ⟨v218, rfl, ho0, hb⟩; refine ⟨_, rfl, ?_⟩; have n0_ := Aside0.mk (Kd.R_lower ho0 (below_size (by repeat (first | (with_reducible first | exact HB.out | apply below_alloc | apply pw_below_drewN | apply below_drew1) | exact HB.out)))); have n1_ := Aside0.mk (below_step (by repeat (first | (with_reducible first | exact HB.out | apply below_alloc | apply pw_below_drewN | apply below_drew1) | exact HB.out)) hb); clear HB; have HO219 := n0_; have HB := n1_; clear n0_ n1_; (try clear hb); (try clear hb2); (try clear hk); (try clear hi); (try clear ho0)) | ((with_reducible refine gate_dst (N := 5) rfl ?_); (try (refine gate_guard (by rfl) ?_; dsimp only)); refine box_event ?hg (N := 5) ?hd (cs := #[.int .u64 0, .slice none 0 0]) (t := 26) ?hr ?_; (case hd => rfl); (case hg => rfl); (case hr => first | (go_simp; done) | (go_simp; rfl)); intro gb221 hg w10 hbox hb; have n0_ := Aside0.mk (Kd.R_below (by (with_reducible repeat (first | apply Kd.R_alloc | apply Kd.R_drewN | apply Kd.R_drew)); exact HO219.out) hb); have n1_ := Aside0.mk (below_step (by repeat (first | (with_reducible first | exact HB.out | apply below_alloc | apply pw_below_drewN | apply below_drew1) | exact HB.out)) hb); have n2_ := Aside0.mk (hbox); have n3_ := Aside0.mk ((by rw [hg]; exact (below_size (by repeat (first | (with_reducible first | exact HB.out | apply below_alloc | apply pw_below_drewN | apply below_drew1) | exact HB.out))) : w.heap.size ≤ gb221)); have n4_ := Aside0.mk ((by rw [hg]; exact (below_size (by repeat (first | (with_reducible first | exact HB.out | apply below_alloc | apply pw_below_drewN | apply below_drew1) | exact HB.out))) : w.heap.size ≤ gb221)); clear HO219; clear HB; have HO219 := n0_; have HB := n1_; have BK221 := n2_; have GW221 := n3_; have GE221 := n4_; clear n0_ n1_ n2_ n3_ n4_; clear hb hbox hg; have hcz11_0 : w10.cell? ⟨gb221, 0, none⟩ = some (.int .u64 0) := (blk_cell BK221.out 0).trans rfl; have hcz11_1 : w10.cell? ⟨gb221, 1, none⟩ = some (.slice none 0 0) := (blk_cell BK221.out 1).trans rfl; have hfz11_0 := blk_frozen BK221.out 0; have hfz11_1 := blk_frozen BK221.out 1; obtain ⟨Ao12, co12, eo12⟩ := Kd.R_slice HO219.out; subst eo12) | ((with_reducible refine gate_callee (f := 6) rfl ?_); refine goesL_ (some 20) rfl rfl Try.func6 (by kernel_rfl) rfl #[.int .i64 40] rfl (by (try simp only [List.map_toArray, List.map_cons, List.map_nil]); first | done | rfl | (simp only [List.length_drop, List.length_take]; rfl) | (simp only [ByteArray.size_append]; rfl) | (simp only [ByteArray.size_extract]; rfl)) ?_; (with_reducible refine (bbt_New.calls 40 t222 t223 t226 _ A4.out).mono ?_); rintro e w13 ⟨v224, rfl, ho0, hb⟩; refine ⟨_, rfl, ?_⟩; have n0_ := Aside0.mk (Kd.R_elder' (by (with_reducible repeat (first | apply Kd.R_alloc | apply Kd.R_drewN | apply Kd.R_drew)); exact (Kd.R_mono (Kd.R_far (p := ⟨gb221, 1, none⟩) (Kd.R_far (p := ⟨gb221, 0, none⟩) (Kd.R_types HO219.out BK221.out (by decide)) (fun _ hk => hk.2) (.int .u64 t216)) (fun _ hk => hk.2) (.slice Ao12 t217.length co12)) (fun _ h_ => h_.1))) (Kd.R_base ho0) hb); have n1_ := Aside0.mk (Kd.R_lower (Kd.R_new' ho0 (Kd.R_lt (by (with_reducible repeat (first | apply Kd.R_alloc | apply Kd.R_drewN | apply Kd.R_drew)); exact (Kd.R_mono (Kd.R_far (p := ⟨gb221, 1, none⟩) (Kd.R_far (p := ⟨gb221, 0, none⟩) (Kd.R_types HO219.out BK221.out (by decide)) (fun _ hk => hk.2) (.int .u64 t216)) (fun _ hk => hk.2) (.slice Ao12 t217.length co12)) (fun _ h_ => h_.1))))) (below_size (by repeat (first | (with_reducible first | exact HB.out | apply below_alloc | apply pw_below_drewN | apply below_drew1 | refine below_set ?_ GE221.out) | exact HB.out)))); have n2_ := Aside0.mk (blk_below (g := gb221) (o := .cells #[.int .u64 t216, .slice Ao12 t217.length co12] 26 (0, 0)) (by (with_reducible repeat (first | refine blk_drewN ?_ _ | refine blk_drew ?_ | refine blk_alloc ?_ _)); refine blk_put (cs := #[.int .u64 t216, .slice none 0 0]) ?_ 1 _ rfl; (with_reducible repeat (first | refine blk_drewN ?_ _ | refine blk_drew ?_ | refine blk_alloc ?_ _)); refine blk_put (cs := #[.int .u64 0, .slice none 0 0]) ?_ 0 _ rfl; (with_reducible repeat (first | refine blk_drewN ?_ _ | refine blk_drew ?_ | refine blk_alloc ?_ _)); exact BK221.out) hb); have n3_ := Aside0.mk (below_step (by repeat (first | (with_reducible first | exact HB.out | apply below_alloc | apply pw_below_drewN | apply below_drew1 | refine below_set ?_ GE221.out) | exact HB.out)) hb); clear HO219; clear BK221; clear HB; have HO219 := n0_; have HO225 := n1_; have BK221 := n2_; have HB := n3_; clear n0_ n1_ n2_ n3_; (try clear hb); (try clear hb2); (try clear hk); (try clear hi); (try clear ho0)) | ((with_reducible refine gate_dst (N := 7) rfl ?_); (try (refine gate_guard (by rfl) ?_; dsimp only)); refine box_event ?hg (N := 7) ?hd (cs := #[.int .u64 0, .slice none 0 0]) (t := 26) ?hr ?_; (case hd => rfl); (case hg => rfl); (case hr => first | (go_simp; done) | (go_simp; rfl)); intro gb227 hg w14 hbox hb; have n0_ := Aside0.mk (Kd.R_below (by (with_reducible repeat (first | apply Kd.R_alloc | apply Kd.R_drewN | apply Kd.R_drew)); exact HO219.out) hb); have n1_ := Aside0.mk (Kd.R_below (by (with_reducible repeat (first | apply Kd.R_alloc | apply Kd.R_drewN | apply Kd.R_drew)); exact HO225.out) hb); have n2_ := Aside0.mk (blk_below (g := gb221) (o := .cells #[.int .u64 t216, .slice Ao12 t217.length co12] 26 (0, 0)) (by (with_reducible repeat (first | refine blk_drewN ?_ _ | refine blk_drew ?_ | refine blk_alloc ?_ _)); exact BK221.out) hb); have n3_ := Aside0.mk (below_step (by repeat (first | (with_reducible first | exact HB.out | apply below_alloc | apply pw_below_drewN | apply below_drew1 | refine below_set ?_ GE221.out) | exact HB.out)) hb); have n4_ := Aside0.mk (hbox); have n5_ := Aside0.mk ((by rw [hg]; exact (below_size (by repeat (first | (with_reducible first | exact HB.out | apply below_alloc | apply pw_below_drewN | apply below_drew1 | refine below_set ?_ GE221.out) | exact HB.out))) : w.heap.size ≤ gb227)); have n6_ := Aside0.mk ((by rw [hg]; exact (below_size (by repeat (first | (with_reducible first | exact HB.out | apply below_alloc | apply pw_below_drewN | apply below_drew1 | refine below_set ?_ GE221.out) | exact HB.out))) : w.heap.size ≤ gb227)); have n7_ := Aside0.mk ((by rw [hg]; exact Nat.ne_of_lt (blk_lt (g := gb221) (o := .cells #[.int .u64 t216, .slice Ao12 t217.length co12] 26 (0, 0)) (by (with_reducible repeat (first | refine blk_drewN ?_ _ | refine blk_drew ?_ | refine blk_alloc ?_ _)); exact BK221.out)) : gb221 ≠ gb227)); have n8_ := Aside0.mk ((by rw [hg]; exact Nat.ne_of_gt (blk_lt (g := gb221) (o := .cells #[.int .u64 t216, .slice Ao12 t217.length co12] 26 (0, 0)) (by (with_reducible repeat (first | refine blk_drewN ?_ _ | refine blk_drew ?_ | refine blk_alloc ?_ _)); exact BK221.out)) : gb227 ≠ gb221)); clear HO219; clear HO225; clear BK221; clear HB; have HO219 := n0_; have HO225 := n1_; have BK221 := n2_; have HB := n3_; have BK227 := n4_; have GW227 := n5_; have GE227 := n6_; have NB221_227 := n7_; have NB227_221 := n8_; clear n0_ n1_ n2_ n3_ n4_ n5_ n6_ n7_ n8_; clear hb hbox hg; have hnb15 := NB227_221.out; have hnc15 := NB221_227.out; have hcz16_0 : w14.cell? ⟨gb227, 0, none⟩ = some (.int .u64 0) := (blk_cell BK227.out 0).trans rfl; have hcz16_1 : w14.cell? ⟨gb227, 1, none⟩ = some (.slice none 0 0) := (blk_cell BK227.out 1).trans rfl; have hfz16_0 := blk_frozen BK227.out 0; have hfz16_1 := blk_frozen BK227.out 1; obtain ⟨Ao17, co17, eo17⟩ := Kd.R_slice HO225.out; subst eo17; obtain ⟨i018, hi018, _, hsz18, _⟩ := info_parts info5; obtain ⟨hcut18, hA18, hC18⟩ := print_take_of (P := Try.prog) (Value.int .u8) 0 22 5 .i64 Try.underlying22 hi018 hsz18 A0 c0 l0 (ji5) (of_decide_eq_true (by first | (with_reducible assumption) | assumption)) (of_decide_eq_true (by first | (with_reducible assumption) | assumption)) HC0.out; have HR228 := Aside0.mk (Kd.C_of_reads (h1 := fun _ => rfl) (hA18 _ (Kd.reads_of_C HR0.out))); have HC228 := Aside0.mk hC18; clear hA18 hC18 hi018 hsz18))
   (try simp only [Act.put, List.setIfInBounds_toArray, List.set_cons_zero, List.set_cons_succ])
   go_cut [37] (fun v37 wc => ∃ (kq : Nat) (x37_7 : Bool), v37 = .bool x37_7 ∧ Aside0 (tillrolllaw09_BbtAny.j0 kq (l0.take ((ji5) : Int).toNat) a1 x37_7 t216 t217 t222 t223 = some r) ∧ Aside0 (kq ≤ k) ∧ Aside0 (Kd.R Kd.bool 4 wc w.heap.size (fun k_ => some k_ ≠ ((.slice Ao17 t223.length co17) : Value).ownBlock) (.slice Ao12 t217.length co12) t217) ∧ Aside0 (Kd.R Kd.bool 4 wc w.heap.size (fun k_ => some k_ ≠ ((.slice Ao12 t217.length co12) : Value).ownBlock) (.slice Ao17 t223.length co17) t223) ∧ Aside0 (wc.heap[gb221]? = some (.cells #[.int .u64 t216, (.slice Ao12 t217.length co12)] 26 (0, 0))) ∧ Aside0 (wc.heap[gb227]? = some (.cells #[.int .u64 t222, (.slice Ao17 t223.length co17)] 26 (0, 0))) ∧ Aside0 (Below w.heap.size w wc))
   case first =>
    have H := HC8.out
    clear HC8
    replace H := Option.bind_eq_some_iff.mp H
    obtain ⟨t229, A190, H⟩ := H
    replace H : (if t229 = true then (if t220 = 0 then (tillrolllaw09_BbtAny.j0 k (l0.take ((ji5) : Int).toNat) a1 (t226 != 0) t216 t217 t222 t223) else (tillrolllaw09_BbtAny.j0 k (l0.take ((ji5) : Int).toNat) a1 true t216 t217 t222 t223)) else (tillrolllaw09_BbtAny.j0 k (l0.take ((ji5) : Int).toNat) a1 true t216 t217 t222 t223)) = some r := H
    have A19 := Aside0.mk A190
    clear A190
    by_cases c20 : t229 = true
    ·
     subst c20
     have H1 : (if t220 = 0 then (tillrolllaw09_BbtAny.j0 k (l0.take ((ji5) : Int).toNat) a1 (t226 != 0) t216 t217 t222 t223) else (tillrolllaw09_BbtAny.j0 k (l0.take ((ji5) : Int).toNat) a1 true t216 t217 t222 t223)) = some r := by rw [if_pos rfl] at H; exact H
     clear H
     have H := H1
     clear H1
     by_cases c21 : t220 = 0
     ·
      rw [if_pos c21] at H
      have c21b0 : (t220 == 0) = true := beq_iff_eq.mpr c21
      have c21b1 : (t220 != 0) = false := bne_eq_false_iff_eq.mpr c21
      clear c21
      (first | rw [c21b0] | (simp only [i64_w, i32_w]; rw [c21b0]) | skip)
      have H' := Aside0.mk H
      clear H
      go_wp2_with (first | ((with_reducible refine gate_callee (f := 7) rfl ?_); refine goesL_ (some 28) rfl rfl Try.func7 (by kernel_rfl) rfl #[] rfl (by (try simp only [List.map_toArray, List.map_cons, List.map_nil]); first | done | rfl | (simp only [List.length_drop, List.length_take]; rfl) | (simp only [ByteArray.size_append]; rfl) | (simp only [ByteArray.size_extract]; rfl)) ?_; (with_reducible refine (tillrolllaw09_wakes.calls k  true _ A19.out).mono ?_); rintro e w22 ⟨rfl, hb⟩; refine ⟨_, rfl, ?_⟩; have n0_ := Aside0.mk (Kd.R_below (by (with_reducible repeat (first | apply Kd.R_alloc | apply Kd.R_drewN | apply Kd.R_drew)); exact (Kd.R_mono (Kd.R_far (p := ⟨gb227, 1, none⟩) (Kd.R_far (p := ⟨gb227, 0, none⟩) (Kd.R_types HO219.out BK227.out (by decide)) (fun _ hk => hk.2) (.int .u64 t222)) (fun _ hk => hk.2) (.slice Ao17 t223.length co17)) (fun _ h_ => h_.1))) hb); have n1_ := Aside0.mk (Kd.R_below (by (with_reducible repeat (first | apply Kd.R_alloc | apply Kd.R_drewN | apply Kd.R_drew)); exact (Kd.R_mono (Kd.R_far (p := ⟨gb227, 1, none⟩) (Kd.R_far (p := ⟨gb227, 0, none⟩) (Kd.R_types HO225.out BK227.out (by decide)) (fun _ hk => hk.2) (.int .u64 t222)) (fun _ hk => hk.2) (.slice Ao17 t223.length co17)) (fun _ h_ => h_.1))) hb); have n2_ := Aside0.mk (blk_below (g := gb221) (o := .cells #[.int .u64 t216, .slice Ao12 t217.length co12] 26 (0, 0)) (by (with_reducible repeat (first | refine blk_drewN ?_ _ | refine blk_drew ?_ | refine blk_alloc ?_ _)); refine blk_far ?_ NB221_227.out _; (with_reducible repeat (first | refine blk_drewN ?_ _ | refine blk_drew ?_ | refine blk_alloc ?_ _)); refine blk_far ?_ NB221_227.out _; (with_reducible repeat (first | refine blk_drewN ?_ _ | refine blk_drew ?_ | refine blk_alloc ?_ _)); exact BK221.out) hb); have n3_ := Aside0.mk (blk_below (g := gb227) (o := .cells #[.int .u64 t222, .slice Ao17 t223.length co17] 26 (0, 0)) (by (with_reducible repeat (first | refine blk_drewN ?_ _ | refine blk_drew ?_ | refine blk_alloc ?_ _)); refine blk_put (cs := #[.int .u64 t222, .slice none 0 0]) ?_ 1 _ rfl; (with_reducible repeat (first | refine blk_drewN ?_ _ | refine blk_drew ?_ | refine blk_alloc ?_ _)); refine blk_put (cs := #[.int .u64 0, .slice none 0 0]) ?_ 0 _ rfl; (with_reducible repeat (first | refine blk_drewN ?_ _ | refine blk_drew ?_ | refine blk_alloc ?_ _)); exact BK227.out) hb); have n4_ := Aside0.mk (below_step (by repeat (first | (with_reducible first | exact HB.out | apply below_alloc | apply pw_below_drewN | apply below_drew1 | refine below_set ?_ GE221.out | refine below_set ?_ GE227.out) | exact HB.out)) hb); clear HO219; clear HO225; clear BK221; clear BK227; clear HB; have HO219 := n0_; have HO225 := n1_; have BK221 := n2_; have BK227 := n3_; have HB := n4_; clear n0_ n1_ n2_ n3_ n4_; (try clear hb); (try clear hb2); (try clear hk); (try clear hi)))
      go_meet
      case rel => exact ⟨_, ((t226 != 0)), (by first | rfl | (simp; done) | (simp [*]; done)), H', ⟨by first | omega | exact Nat.le_refl _⟩, ⟨by (with_reducible repeat (first | apply Kd.R_alloc | apply Kd.R_drewN | apply Kd.R_drew)); exact Kd.R_mono HO219.out (fun _ hk => hk.2)⟩, ⟨by (with_reducible repeat (first | apply Kd.R_alloc | apply Kd.R_drewN | apply Kd.R_drew)); exact Kd.R_mono HO225.out (fun _ hk => hk.2)⟩, ⟨by (with_reducible repeat (first | refine blk_drewN ?_ _ | refine blk_drew ?_ | refine blk_alloc ?_ _)); exact BK221.out⟩, ⟨by (with_reducible repeat (first | refine blk_drewN ?_ _ | refine blk_drew ?_ | refine blk_alloc ?_ _)); exact BK227.out⟩, ⟨by repeat (first | (with_reducible first | exact HB.out | apply below_alloc | apply pw_below_drewN | apply below_drew1 | refine below_set ?_ GE221.out | refine below_set ?_ GE227.out) | exact HB.out)⟩⟩
     ·
      rw [if_neg c21] at H
      have c21b0 : (t220 == 0) = false := beq_eq_false_iff_ne.mpr c21
      have c21b1 : (t220 != 0) = true := bne_iff_ne.mpr c21
      (first | rw [c21b0] | (simp only [i64_w, i32_w]; rw [c21b0]) | skip)
      have H' := Aside0.mk H
      clear H
      go_wp2_with (first | ((with_reducible refine gate_callee (f := 7) rfl ?_); refine goesL_ (some 28) rfl rfl Try.func7 (by kernel_rfl) rfl #[] rfl (by (try simp only [List.map_toArray, List.map_cons, List.map_nil]); first | done | rfl | (simp only [List.length_drop, List.length_take]; rfl) | (simp only [ByteArray.size_append]; rfl) | (simp only [ByteArray.size_extract]; rfl)) ?_; (with_reducible refine (tillrolllaw09_wakes.calls k  true _ A19.out).mono ?_); rintro e w23 ⟨rfl, hb⟩; refine ⟨_, rfl, ?_⟩; have n0_ := Aside0.mk (Kd.R_below (by (with_reducible repeat (first | apply Kd.R_alloc | apply Kd.R_drewN | apply Kd.R_drew)); exact (Kd.R_mono (Kd.R_far (p := ⟨gb227, 1, none⟩) (Kd.R_far (p := ⟨gb227, 0, none⟩) (Kd.R_types HO219.out BK227.out (by decide)) (fun _ hk => hk.2) (.int .u64 t222)) (fun _ hk => hk.2) (.slice Ao17 t223.length co17)) (fun _ h_ => h_.1))) hb); have n1_ := Aside0.mk (Kd.R_below (by (with_reducible repeat (first | apply Kd.R_alloc | apply Kd.R_drewN | apply Kd.R_drew)); exact (Kd.R_mono (Kd.R_far (p := ⟨gb227, 1, none⟩) (Kd.R_far (p := ⟨gb227, 0, none⟩) (Kd.R_types HO225.out BK227.out (by decide)) (fun _ hk => hk.2) (.int .u64 t222)) (fun _ hk => hk.2) (.slice Ao17 t223.length co17)) (fun _ h_ => h_.1))) hb); have n2_ := Aside0.mk (blk_below (g := gb221) (o := .cells #[.int .u64 t216, .slice Ao12 t217.length co12] 26 (0, 0)) (by (with_reducible repeat (first | refine blk_drewN ?_ _ | refine blk_drew ?_ | refine blk_alloc ?_ _)); refine blk_far ?_ NB221_227.out _; (with_reducible repeat (first | refine blk_drewN ?_ _ | refine blk_drew ?_ | refine blk_alloc ?_ _)); refine blk_far ?_ NB221_227.out _; (with_reducible repeat (first | refine blk_drewN ?_ _ | refine blk_drew ?_ | refine blk_alloc ?_ _)); exact BK221.out) hb); have n3_ := Aside0.mk (blk_below (g := gb227) (o := .cells #[.int .u64 t222, .slice Ao17 t223.length co17] 26 (0, 0)) (by (with_reducible repeat (first | refine blk_drewN ?_ _ | refine blk_drew ?_ | refine blk_alloc ?_ _)); refine blk_put (cs := #[.int .u64 t222, .slice none 0 0]) ?_ 1 _ rfl; (with_reducible repeat (first | refine blk_drewN ?_ _ | refine blk_drew ?_ | refine blk_alloc ?_ _)); refine blk_put (cs := #[.int .u64 0, .slice none 0 0]) ?_ 0 _ rfl; (with_reducible repeat (first | refine blk_drewN ?_ _ | refine blk_drew ?_ | refine blk_alloc ?_ _)); exact BK227.out) hb); have n4_ := Aside0.mk (below_step (by repeat (first | (with_reducible first | exact HB.out | apply below_alloc | apply pw_below_drewN | apply below_drew1 | refine below_set ?_ GE221.out | refine below_set ?_ GE227.out) | exact HB.out)) hb); clear HO219; clear HO225; clear BK221; clear BK227; clear HB; have HO219 := n0_; have HO225 := n1_; have BK221 := n2_; have BK227 := n3_; have HB := n4_; clear n0_ n1_ n2_ n3_ n4_; (try clear hb); (try clear hb2); (try clear hk); (try clear hi)))
      go_meet
      case rel => exact ⟨_, (true), (by first | rfl | (simp; done) | (simp [*]; done)), H', ⟨by first | omega | exact Nat.le_refl _⟩, ⟨by (with_reducible repeat (first | apply Kd.R_alloc | apply Kd.R_drewN | apply Kd.R_drew)); exact Kd.R_mono HO219.out (fun _ hk => hk.2)⟩, ⟨by (with_reducible repeat (first | apply Kd.R_alloc | apply Kd.R_drewN | apply Kd.R_drew)); exact Kd.R_mono HO225.out (fun _ hk => hk.2)⟩, ⟨by (with_reducible repeat (first | refine blk_drewN ?_ _ | refine blk_drew ?_ | refine blk_alloc ?_ _)); exact BK221.out⟩, ⟨by (with_reducible repeat (first | refine blk_drewN ?_ _ | refine blk_drew ?_ | refine blk_alloc ?_ _)); exact BK227.out⟩, ⟨by repeat (first | (with_reducible first | exact HB.out | apply below_alloc | apply pw_below_drewN | apply below_drew1 | refine below_set ?_ GE221.out | refine below_set ?_ GE227.out) | exact HB.out)⟩⟩
    ·
     replace c20 := Bool.eq_false_iff.mpr c20
     subst c20
     have H1 : (tillrolllaw09_BbtAny.j0 k (l0.take ((ji5) : Int).toNat) a1 true t216 t217 t222 t223) = some r := by rw [if_neg (show ¬ (false = true) by decide)] at H; exact H
     clear H
     have H := H1
     clear H1
     have H' := Aside0.mk H
     clear H
     go_wp2_with (first | ((with_reducible refine gate_callee (f := 7) rfl ?_); refine goesL_ (some 28) rfl rfl Try.func7 (by kernel_rfl) rfl #[] rfl (by (try simp only [List.map_toArray, List.map_cons, List.map_nil]); first | done | rfl | (simp only [List.length_drop, List.length_take]; rfl) | (simp only [ByteArray.size_append]; rfl) | (simp only [ByteArray.size_extract]; rfl)) ?_; (with_reducible refine (tillrolllaw09_wakes.calls k  false _ A19.out).mono ?_); rintro e w24 ⟨rfl, hb⟩; refine ⟨_, rfl, ?_⟩; have n0_ := Aside0.mk (Kd.R_below (by (with_reducible repeat (first | apply Kd.R_alloc | apply Kd.R_drewN | apply Kd.R_drew)); exact (Kd.R_mono (Kd.R_far (p := ⟨gb227, 1, none⟩) (Kd.R_far (p := ⟨gb227, 0, none⟩) (Kd.R_types HO219.out BK227.out (by decide)) (fun _ hk => hk.2) (.int .u64 t222)) (fun _ hk => hk.2) (.slice Ao17 t223.length co17)) (fun _ h_ => h_.1))) hb); have n1_ := Aside0.mk (Kd.R_below (by (with_reducible repeat (first | apply Kd.R_alloc | apply Kd.R_drewN | apply Kd.R_drew)); exact (Kd.R_mono (Kd.R_far (p := ⟨gb227, 1, none⟩) (Kd.R_far (p := ⟨gb227, 0, none⟩) (Kd.R_types HO225.out BK227.out (by decide)) (fun _ hk => hk.2) (.int .u64 t222)) (fun _ hk => hk.2) (.slice Ao17 t223.length co17)) (fun _ h_ => h_.1))) hb); have n2_ := Aside0.mk (blk_below (g := gb221) (o := .cells #[.int .u64 t216, .slice Ao12 t217.length co12] 26 (0, 0)) (by (with_reducible repeat (first | refine blk_drewN ?_ _ | refine blk_drew ?_ | refine blk_alloc ?_ _)); refine blk_far ?_ NB221_227.out _; (with_reducible repeat (first | refine blk_drewN ?_ _ | refine blk_drew ?_ | refine blk_alloc ?_ _)); refine blk_far ?_ NB221_227.out _; (with_reducible repeat (first | refine blk_drewN ?_ _ | refine blk_drew ?_ | refine blk_alloc ?_ _)); exact BK221.out) hb); have n3_ := Aside0.mk (blk_below (g := gb227) (o := .cells #[.int .u64 t222, .slice Ao17 t223.length co17] 26 (0, 0)) (by (with_reducible repeat (first | refine blk_drewN ?_ _ | refine blk_drew ?_ | refine blk_alloc ?_ _)); refine blk_put (cs := #[.int .u64 t222, .slice none 0 0]) ?_ 1 _ rfl; (with_reducible repeat (first | refine blk_drewN ?_ _ | refine blk_drew ?_ | refine blk_alloc ?_ _)); refine blk_put (cs := #[.int .u64 0, .slice none 0 0]) ?_ 0 _ rfl; (with_reducible repeat (first | refine blk_drewN ?_ _ | refine blk_drew ?_ | refine blk_alloc ?_ _)); exact BK227.out) hb); have n4_ := Aside0.mk (below_step (by repeat (first | (with_reducible first | exact HB.out | apply below_alloc | apply pw_below_drewN | apply below_drew1 | refine below_set ?_ GE221.out | refine below_set ?_ GE227.out) | exact HB.out)) hb); clear HO219; clear HO225; clear BK221; clear BK227; clear HB; have HO219 := n0_; have HO225 := n1_; have BK221 := n2_; have BK227 := n3_; have HB := n4_; clear n0_ n1_ n2_ n3_ n4_; (try clear hb); (try clear hb2); (try clear hk); (try clear hi)))
     go_meet
     case rel => exact ⟨_, (true), (by first | rfl | (simp; done) | (simp [*]; done)), H', ⟨by first | omega | exact Nat.le_refl _⟩, ⟨by (with_reducible repeat (first | apply Kd.R_alloc | apply Kd.R_drewN | apply Kd.R_drew)); exact Kd.R_mono HO219.out (fun _ hk => hk.2)⟩, ⟨by (with_reducible repeat (first | apply Kd.R_alloc | apply Kd.R_drewN | apply Kd.R_drew)); exact Kd.R_mono HO225.out (fun _ hk => hk.2)⟩, ⟨by (with_reducible repeat (first | refine blk_drewN ?_ _ | refine blk_drew ?_ | refine blk_alloc ?_ _)); exact BK221.out⟩, ⟨by (with_reducible repeat (first | refine blk_drewN ?_ _ | refine blk_drew ?_ | refine blk_alloc ?_ _)); exact BK227.out⟩, ⟨by repeat (first | (with_reducible first | exact HB.out | apply below_alloc | apply pw_below_drewN | apply below_drew1 | refine below_set ?_ GE221.out | refine below_set ?_ GE227.out) | exact HB.out)⟩⟩
   case rest =>
    clear HC8
    try clear c1
    try clear c2
    try clear p2
    try clear c3
    try clear c6
    try clear c6b0
    try clear c6b1
    try clear c7
    try clear c7b0
    try clear c7b1
    try clear c15
    try clear c20
    try clear c21
    try clear c21b0
    try clear c21b1
    try clear hcz11_0
    try clear hcz11_1
    try clear hcz16_0
    try clear hcz16_1
    try clear hfz11_0
    try clear hfz11_1
    try clear hfz16_0
    try clear hfz16_1
    obtain ⟨kq, x37_7, rfl, HA, HJ7, HO_222001, HO_228001, BK221, BK227, HB⟩ := hcut
    cases kq with
    | zero => exact absurd HA.out (by simp [tillrolllaw09_BbtAny.j0])
    | succ kj7 =>
     have H := HA.out
     clear HA
     simp only [tillrolllaw09_BbtAny.j0] at H
     by_cases c25 : x37_7 = true
     ·
      subst c25
      have H1 : (some false) = some r := by rw [if_pos rfl] at H; exact H
      clear H
      have H := H1
      clear H1
      obtain rfl := Option.some.inj H
      go_wp2
      go_ret
      exact ⟨by first | rfl | (simp [errW_none, errW_some] <;> rfl) | (simp only [← hji5]; first | rfl | (simp [errW_none, errW_some] <;> rfl)) | (simp [*, errW_none, errW_some] <;> rfl), by repeat (first | (with_reducible first | exact HB.out | apply below_alloc | apply pw_below_drewN | apply below_drew1 | refine below_set ?_ GE221.out | refine below_set ?_ GE227.out) | exact HB.out)⟩
     ·
      replace c25 := Bool.eq_false_iff.mpr c25
      subst c25
      have H1 : (tillrolllaw09_BbtAny.l0 kj7 (l0.take ((ji5) : Int).toNat) a1 ((l0.take ((ji5) : Int).toNat).length : Int) 0 t216 t217 t222 t223) = some r := by rw [if_neg (show ¬ (false = true) by decide)] at H; exact H
      clear H
      have H := H1
      clear H1
      have H' := Aside0.mk H
      clear H
      go_wp2
      go_loopg [40] kj7 (fun kq v40 w' => ∃ (x40_2 : Int) (x222000_2 : Int) (x222001_2 : List Bool) (x228000_2 : Int) (x228001_2 : List Bool) (u222001 : Value) (u228001 : Value), v40 = .int .i64 x40_2 ∧ Aside0 (tillrolllaw09_BbtAny.l0 kq (l0.take ((ji5) : Int).toNat) a1 ((l0.take ((ji5) : Int).toNat).length : Int) x40_2 x222000_2 x222001_2 x228000_2 x228001_2 = some r) ∧ Aside0 (kq ≤ kj7) ∧ Aside0 (Kd.R Kd.bool 4 w' w.heap.size (fun k_ => some k_ ≠ (u228001 : Value).ownBlock) u222001 x222001_2) ∧ Aside0 (Kd.R Kd.bool 4 w' w.heap.size (fun k_ => some k_ ≠ (u222001 : Value).ownBlock) u228001 x228001_2) ∧ Aside0 (w'.heap[gb221]? = some (.cells #[.int .u64 x222000_2, u222001] 26 (0, 0))) ∧ Aside0 (w'.heap[gb227]? = some (.cells #[.int .u64 x228000_2, u228001] 26 (0, 0))) ∧ Aside0 (Below w.heap.size w w'))
      case atStart => exact ⟨(0), (t216), (t217), (t222), (t223), (.slice Ao12 t217.length co12), (.slice Ao17 t223.length co17), (by first | rfl | (simp; done) | (simp [*]; done)), H', ⟨Nat.le_refl _⟩, ⟨by (with_reducible repeat (first | apply Kd.R_alloc | apply Kd.R_drewN | apply Kd.R_drew)); exact HO_222001.out⟩, ⟨by (with_reducible repeat (first | apply Kd.R_alloc | apply Kd.R_drewN | apply Kd.R_drew)); exact HO_228001.out⟩, ⟨by (with_reducible repeat (first | refine blk_drewN ?_ _ | refine blk_drew ?_ | refine blk_alloc ?_ _)); exact BK221.out⟩, ⟨by (with_reducible repeat (first | refine blk_drewN ?_ _ | refine blk_drew ?_ | refine blk_alloc ?_ _)); exact BK227.out⟩, ⟨by repeat (first | (with_reducible first | exact HB.out | apply below_alloc | apply pw_below_drewN | apply below_drew1 | refine below_set ?_ GE221.out | refine below_set ?_ GE227.out) | exact HB.out)⟩⟩
      case round =>
       clear H'
       try clear c1
       try clear c2
       try clear p2
       try clear c3
       try clear c6
       try clear c6b0
       try clear c6b1
       try clear c7
       try clear c7b0
       try clear c7b1
       try clear c15
       try clear c20
       try clear c21
       try clear c21b0
       try clear c21b1
       try clear c25
       try clear hcz11_0
       try clear hcz11_1
       try clear hcz16_0
       try clear hcz16_1
       try clear hfz11_0
       try clear hfz11_1
       try clear hfz16_0
       try clear hfz16_1
       try clear p2
       obtain ⟨x40_2, x222000_2, x222001_2, x228000_2, x228001_2, u222001, u228001, rfl, HA, HK2, HO_222001, HO_228001, BK221, BK227, HB⟩ := hrel
       cases gk with
       | zero => exact absurd HA.out (by simp [tillrolllaw09_BbtAny.l0])
       | succ k2 =>
        have H := HA.out
        clear HA
        simp only [tillrolllaw09_BbtAny.l0] at H
        by_cases c26 : x40_2 < ((l0.take ((ji5) : Int).toNat).length : Int)
        ·
         rw [if_pos c26] at H
         have mx26p : (x40_2 < max ji5 0) := (by have hh := c26; have hg := hji5_; rw [List.length_take] at hh; split at hg <;> omega)
         have mx26pa := eq_true mx26p
         have mx26pb : decide (x40_2 < max ji5 0) = true := decide_eq_true mx26p
         have c26b0 : decide (x40_2 < ((l0.take ((ji5) : Int).toNat).length : Int)) = true := decide_eq_true c26
         clear c26
         by_cases c27 : 0 ≤ x40_2
         ·
          rw [if_pos c27] at H
          have c27b0 : decide (0 ≤ x40_2) = true := decide_eq_true c27
          clear c27
          by_cases c28 : x40_2 < ((l0.take ((ji5) : Int).toNat).length : Int)
          ·
           rw [if_pos c28] at H
           have mx28p : (x40_2 < max ji5 0) := (by have hh := c28; have hg := hji5_; rw [List.length_take] at hh; split at hg <;> omega)
           have mx28pa := eq_true mx28p
           have mx28pb : decide (x40_2 < max ji5 0) = true := decide_eq_true mx28p
           have c28b0 : decide (x40_2 < ((l0.take ((ji5) : Int).toNat).length : Int)) = true := decide_eq_true c28
           clear c28
           replace H := Option.bind_eq_some_iff.mp H
           obtain ⟨⟨t231, t232, t235⟩, A290, H⟩ := H
           replace H : (if ((l0.take ((ji5) : Int).toNat).length : Int) = 0 then (none) else (if 0 ≤ (Int.tmod (wrap64 (x40_2 + (wrap64 (a1)))) ((l0.take ((ji5) : Int).toNat).length : Int)) then (if (Int.tmod (wrap64 (x40_2 + (wrap64 (a1)))) ((l0.take ((ji5) : Int).toNat).length : Int)) < ((l0.take ((ji5) : Int).toNat).length : Int) then ((bbt_Table_With.f x228000_2 x228001_2 (Int.tmod (wrap64 (rd (l0.take ((ji5) : Int).toNat) (Int.tmod (wrap64 (x40_2 + (wrap64 (a1)))) ((l0.take ((ji5) : Int).toNat).length : Int)))) 40)).bind fun bt237 => (if t235 = 0 then (if bt237.2.2 = 0 then (tillrolllaw09_BbtAny.l0 k2 (l0.take ((ji5) : Int).toNat) a1 ((l0.take ((ji5) : Int).toNat).length : Int) (wrap64 (x40_2 + 1)) t231 t232 bt237.1 bt237.2.1) else (some false)) else (some false))) else (none)) else (none))) = some r := H
           have A29 := Aside0.mk A290
           clear A290
           by_cases c30 : ((l0.take ((ji5) : Int).toNat).length : Int) = 0
           ·
            rw [if_pos c30] at H
            have mx30p : (max ji5 0 = 0) := (by have hh := c30; have hg := hji5_; rw [List.length_take] at hh; split at hg <;> omega)
            have mx30pa := eq_true mx30p
            have mx30pb : decide (max ji5 0 = 0) = true := decide_eq_true mx30p
            exact absurd H (by simp)
           ·
            rw [if_neg c30] at H
            have mx30n : ¬ (max ji5 0 = 0) := (by have hh := c30; have hg := hji5_; rw [List.length_take] at hh; split at hg <;> omega)
            have mx30na := eq_false mx30n
            have mx30nb : decide (max ji5 0 = 0) = false := decide_eq_false mx30n
            have c30b0 : (((l0.take ((ji5) : Int).toNat).length : Int) == 0) = false := beq_eq_false_iff_ne.mpr c30
            have c30b1 : (((l0.take ((ji5) : Int).toNat).length : Int) != 0) = true := bne_iff_ne.mpr c30
            have c30b2 : ¬ ((l0.take ((ji5) : Int).toNat) = []) := fun h_ => c30 (by rw [h_]; rfl)
            obtain ⟨ji31, hji31⟩ : ∃ j_ : Int, (Int.tmod (wrap64 (x40_2 + (wrap64 (a1)))) ((l0.take ((ji5) : Int).toNat).length : Int)) = j_ := ⟨_, rfl⟩
            replace H : (if 0 ≤ (ji31) then (if (ji31) < ((l0.take ((ji5) : Int).toNat).length : Int) then ((bbt_Table_With.f x228000_2 x228001_2 (Int.tmod (wrap64 (rd (l0.take ((ji5) : Int).toNat) (ji31))) 40)).bind fun bt237 => (if t235 = 0 then (if bt237.2.2 = 0 then (tillrolllaw09_BbtAny.l0 k2 (l0.take ((ji5) : Int).toNat) a1 ((l0.take ((ji5) : Int).toNat).length : Int) (wrap64 (x40_2 + 1)) t231 t232 bt237.1 bt237.2.1) else (some false)) else (some false))) else (none)) else (none)) = some r := by first | (rw [hji31] at H; exact H) | (simp only [hji31] at H ⊢; exact H)
            (try rw [hji31] at A29)
            by_cases c32 : 0 ≤ (ji31)
            ·
             rw [if_pos c32] at H
             have c32b0 : decide (0 ≤ (ji31)) = true := decide_eq_true c32
             clear c32
             by_cases c33 : (ji31) < ((l0.take ((ji5) : Int).toNat).length : Int)
             ·
              rw [if_pos c33] at H
              have mx33p : ((ji31) < max ji5 0) := (by have hh := c33; have hg := hji5_; rw [List.length_take] at hh; split at hg <;> omega)
              have mx33pa := eq_true mx33p
              have mx33pb : decide ((ji31) < max ji5 0) = true := decide_eq_true mx33p
              have c33b0 : decide ((ji31) < ((l0.take ((ji5) : Int).toNat).length : Int)) = true := decide_eq_true c33
              have mx2 : Int.tmod (wrap64 (x40_2 + (wrap64 (a1)))) (max ji5 0) = ji31 := by rw [← hji31]; congr 1; have hg := hji5_; rw [List.length_take]; split at hg <;> omega
              clear c33
              replace H := Option.bind_eq_some_iff.mp H
              obtain ⟨⟨t237, t238, t241⟩, A340, H⟩ := H
              replace H : (if t235 = 0 then (if t241 = 0 then (tillrolllaw09_BbtAny.l0 k2 (l0.take ((ji5) : Int).toNat) a1 ((l0.take ((ji5) : Int).toNat).length : Int) (wrap64 (x40_2 + 1)) t231 t232 t237 t238) else (some false)) else (some false)) = some r := H
              have A34 := Aside0.mk A340
              clear A340
              by_cases c35 : t235 = 0
              ·
               rw [if_pos c35] at H
               have c35b0 : (t235 == 0) = true := beq_iff_eq.mpr c35
               have c35b1 : (t235 != 0) = false := bne_eq_false_iff_eq.mpr c35
               clear c35
               by_cases c36 : t241 = 0
               ·
                rw [if_pos c36] at H
                have c36b0 : (t241 == 0) = true := beq_iff_eq.mpr c36
                have c36b1 : (t241 != 0) = false := bne_eq_false_iff_eq.mpr c36
                clear c36
                have H' := Aside0.mk H
                clear H
                try go_wp2
                have n0_ := Aside0.mk (Kd.R_drew HO_222001.out)
                have n1_ := Aside0.mk (Kd.R_drew HO_228001.out)
                have n2_ := Aside0.mk (blk_drew BK221.out)
                have n3_ := Aside0.mk (blk_drew BK227.out)
                have n4_ := Aside0.mk (below_drew1 HB.out)
                clear HO_222001
                clear HO_228001
                clear BK221
                clear BK227
                clear HB
                have HO_222001 := n0_
                have HO_228001 := n1_
                have BK221 := n2_
                have BK227 := n3_
                have HB := n4_
                clear n0_ n1_ n2_ n3_ n4_
                have p230 : 0 ≤ (x40_2 : Int) := of_decide_eq_true (by first | (with_reducible assumption) | assumption)
                have q230 : x40_2 < ((l0.take ((ji5) : Int).toNat).length : Int) := of_decide_eq_true (by first | (with_reducible assumption) | assumption)
                obtain ⟨ad230, e230, hx230_0⟩ := Kd.at_int HR228.out x40_2 p230 q230
                have hw230_0 := hx230_0
                cases e230
                replace hx230_0 := (HB.out.cell (World.block_lt_of_cell? w _ hx230_0)).trans hx230_0
                replace p230 := eq_true p230
                replace q230 := eq_true q230
                obtain ⟨Ao38, co38, eo38⟩ := Kd.R_slice HO_222001.out
                (first | subst eo38 | (injection eo38 with f1_ f2_ f3_; have f4_ := f1_.symm; have f5_ := f3_.symm; clear f1_ f2_ f3_; subst f4_; subst f5_))
                refine start_ (n := 13) (S := fun w' => w'.cell? ⟨gb221, 0, none⟩ = some (.int .u64 x222000_2) ∧ w'.cell? ⟨gb221, 1, none⟩ = some (.slice Ao38 x222001_2.length co38) ∧ w'.cell? (ad230.add (x40_2).toNat) = some (.int .u8 (rd (l0.take ((ji5) : Int).toNat) x40_2))) (ds := [11]) #[false,false,false,false,false,false,false,false,false,false,false,false,false] (by kernel_rfl) rfl rfl ⟨(blk_cell BK221.out 0).trans rfl, (blk_cell BK221.out 1).trans rfl, ((HB.out.cell (World.block_lt_of_cell? w _ hw230_0)).trans hw230_0)⟩ (fun hHeld => ?_); refine with_tabW tillrolllaw09_BbtAny.tab10 tillrolllaw09_BbtAny.bits10 (fun HT_ HW_ => ?_)
                generalize wr.drew = w37 at HO_222001 HO_228001 BK221 BK227 HB hx230_0 hHeld ⊢
                refine pure_ (i := 1) (N := some 45) (v := ?_) (a' := ?_) #[false,true,false,false,false,false,false,false,false,false,false,false,false] rfl rfl (any_of HT_.out (by kernel_rfl)) (fun _ _ _ h => h) (Or.inl ⟨by rfl, ?_⟩) ?_ ?_
                rotate_left
                · intro w'; go_simp; with_reducible rfl
                rotate_left
                · simp only [Act.put, sS, s0_, s1_, i64_w, i32_w]; rfl
                refine pure_ (i := 2) (N := some 46) (v := ?_) (a' := ?_) #[false,true,true,false,false,false,false,false,false,false,false,false,false] rfl rfl (any_of HT_.out (by kernel_rfl)) (fun _ _ _ h => h) (Or.inl ⟨by rfl, ?_⟩) ?_ ?_
                rotate_left
                · intro w'; go_simp; with_reducible rfl
                rotate_left
                · simp only [Act.put, sS, s0_, s1_, i64_w, i32_w]; rfl
                refine pure_ (i := 3) (N := some 47) (v := ?_) (a' := ?_) #[false,true,true,true,false,false,false,false,false,false,false,false,false] rfl rfl (any_of HT_.out (by kernel_rfl)) (fun _ _ _ h => h) (Or.inl ⟨by rfl, ?_⟩) ?_ ?_
                rotate_left
                · intro w'; go_simp; with_reducible rfl
                rotate_left
                · simp only [Act.put, sS, s0_, s1_, i64_w, i32_w]; rfl
                refine take_ (i := 0) (N := some 44) (v := ?_) (a' := ?_) #[true,true,true,true,false,false,false,false,false,false,false,false,false] rfl rfl (take_ofW HT_.out HW_.out (by kernel_rfl)) (fun _ _ _ h => h) (Or.inl ⟨by rfl, ?_⟩) hHeld ?_ ?_
                rotate_left
                ·
                 rintro w' ⟨s0, s1, s2⟩
                 go_simp
                 with_reducible rfl
                rotate_left
                · simp only [Act.put, sS, s0_, s1_, i64_w, i32_w]; rfl
                refine take_ (i := 4) (N := some 48) (v := ?_) (a' := ?_) #[true,true,true,true,true,false,false,false,false,false,false,false,false] rfl rfl (take_ofW HT_.out HW_.out (by kernel_rfl)) (fun _ _ _ h => h) (Or.inl ⟨by rfl, ?_⟩) hHeld ?_ ?_
                rotate_left
                ·
                 rintro w' ⟨s0, s1, s2⟩
                 go_simp
                 with_reducible rfl
                rotate_left
                · simp only [Act.put, sS, s0_, s1_, i64_w, i32_w]; rfl
                refine pure_ (i := 5) (N := some 49) (v := ?_) (a' := ?_) #[true,true,true,true,true,true,false,false,false,false,false,false,false] rfl rfl (any_of HT_.out (by kernel_rfl)) (fun _ _ _ h => h) (Or.inl ⟨by rfl, ?_⟩) ?_ ?_
                rotate_left
                · intro w'; go_simp; with_reducible rfl
                rotate_left
                · simp only [Act.put, sS, s0_, s1_, i64_w, i32_w]; rfl
                refine pure_ (i := 6) (N := some 50) (v := ?_) (a' := ?_) #[true,true,true,true,true,true,true,false,false,false,false,false,false] rfl rfl (any_of HT_.out (by kernel_rfl)) (fun _ _ _ h => h) (Or.inl ⟨by rfl, ?_⟩) ?_ ?_
                rotate_left
                · intro w'; go_simp; with_reducible rfl
                rotate_left
                · simp only [Act.put, sS, s0_, s1_, i64_w, i32_w]; rfl
                refine one_ (i := 7) (N := some 51) #[true,true,true,true,true,true,true,true,false,false,false,false,false] rfl rfl (one_of HT_.out (by kernel_rfl)) (by decide) (fun K hK => ?_)
                refine goes_ Try.func8 (by kernel_rfl) rfl #[.agg #[.int .u64 x222000_2, .slice Ao38 x222001_2.length co38], .int .i64 (Int.tmod (wrap64 (rd (l0.take ((ji5) : Int).toNat) x40_2)) 40)] (by rfl) rfl rfl (by (try simp only [List.map_toArray, List.map_cons, List.map_nil]); first | done | (simp only [hji5]; rfl) | rfl | (simp only [List.length_drop, List.length_take]; rfl) | (simp only [ByteArray.size_append]; rfl) | (simp only [ByteArray.size_extract]; rfl)) ?_
                with_reducible refine (bbt_Table_With.calls x222000_2 _ _ x222001_2 (Int.tmod (wrap64 (rd (l0.take ((ji5) : Int).toNat) x40_2)) 40) t231 t232 t235 _ ?side1 ?side2 A29.out).mono ?_
                (case side1 => repeat (first | exact (Kd.R_reads' HO_222001.out).2.2 | (with_reducible refine Kd.C_alloc ?_ _) | (with_reducible refine Kd.C_drewN ?_ _) | (with_reducible refine Kd.C_drew ?_)))
                (case side2 => exact (Kd.R_reads' HO_222001.out).2.1)
                rintro e w39 ⟨v233, rfl, ho0, hb⟩
                refine ⟨_, rfl, ?_⟩
                have n0_ := Aside0.mk (Kd.R_elder' (by (with_reducible repeat (first | apply Kd.R_alloc | apply Kd.R_drewN | apply Kd.R_drew)); exact HO_222001.out) (Kd.R_base ho0) hb)
                have n1_ := Aside0.mk (Kd.R_elder' (by (with_reducible repeat (first | apply Kd.R_alloc | apply Kd.R_drewN | apply Kd.R_drew)); exact HO_228001.out) (Kd.R_base ho0) hb)
                have n2_ := Aside0.mk (Kd.R_lower (Kd.R_new' (Kd.R_new' ho0 (Kd.R_lt (by (with_reducible repeat (first | apply Kd.R_alloc | apply Kd.R_drewN | apply Kd.R_drew)); exact HO_222001.out))) (Kd.R_lt (by (with_reducible repeat (first | apply Kd.R_alloc | apply Kd.R_drewN | apply Kd.R_drew)); exact HO_228001.out))) (below_size (by repeat (first | (with_reducible first | exact HB.out | apply below_alloc | apply pw_below_drewN | apply below_drew1 | refine below_set ?_ GE221.out | refine below_set ?_ GE227.out) | exact HB.out))))
                have n3_ := Aside0.mk (blk_below (g := gb221) (o := .cells #[.int .u64 x222000_2, .slice Ao38 x222001_2.length co38] 26 (0, 0)) (by (with_reducible repeat (first | refine blk_drewN ?_ _ | refine blk_drew ?_ | refine blk_alloc ?_ _)); exact BK221.out) hb)
                have n4_ := Aside0.mk (blk_below (g := gb227) (o := .cells #[.int .u64 x228000_2, u228001] 26 (0, 0)) (by (with_reducible repeat (first | refine blk_drewN ?_ _ | refine blk_drew ?_ | refine blk_alloc ?_ _)); exact BK227.out) hb)
                have n5_ := Aside0.mk (below_step (by repeat (first | (with_reducible first | exact HB.out | apply below_alloc | apply pw_below_drewN | apply below_drew1 | refine below_set ?_ GE221.out | refine below_set ?_ GE227.out) | exact HB.out)) hb)
                clear HO_222001
                clear HO_228001
                clear BK221
                clear BK227
                clear HB
                have HO_222001 := n0_
                have HO_228001 := n1_
                have HO234 := n2_
                have BK221 := n3_
                have BK227 := n4_
                have HB := n5_
                clear n0_ n1_ n2_ n3_ n4_ n5_
                (try clear hb)
                (try clear hb2)
                (try clear hk)
                (try clear hi)
                (try clear ho0)
                obtain ⟨Ao41, co41, eo41⟩ := Kd.R_slice HO234.out
                (first | subst eo41 | (injection eo41 with f1_ f2_ f3_; have f4_ := f1_.symm; have f5_ := f3_.symm; clear f1_ f2_ f3_; subst f4_; subst f5_))
                refine hK.out _ _ ⟨(blk_cell BK221.out 0).trans rfl, (blk_cell BK221.out 1).trans rfl, ((HB.out.cell (World.block_lt_of_cell? w _ hw230_0)).trans hw230_0)⟩ (fun hHeld => ?_)
                clear hK K
                refine norm_ (a' := ?_) ?_ ?_
                rotate_left
                ·
                 show Act.put _ (some 51) _ = _
                 simp only [Act.put, sS, s0_, s1_, i64_w, i32_w]
                 rfl
                refine pure_ (i := 8) (N := some 43) (v := ?_) (a' := ?_) #[true,true,true,true,true,true,true,true,true,false,false,false,false] rfl rfl (any_of HT_.out (by kernel_rfl)) (fun _ _ _ h => h) (Or.inl ⟨by rfl, ?_⟩) ?_ ?_
                rotate_left
                · intro w'; go_simp; with_reducible rfl
                rotate_left
                · simp only [Act.put, sS, s0_, s1_, i64_w, i32_w]; rfl
                refine pure_ (i := 9) (N := some 52) (v := ?_) (a' := ?_) #[true,true,true,true,true,true,true,true,true,true,false,false,false] rfl rfl (any_of HT_.out (by kernel_rfl)) (fun _ _ _ h => h) (Or.inl ⟨by rfl, ?_⟩) ?_ ?_
                rotate_left
                · intro w'; go_simp; with_reducible rfl
                rotate_left
                · simp only [Act.put, sS, s0_, s1_, i64_w, i32_w]; rfl
                refine pure_ (i := 10) (N := some 53) (v := ?_) (a' := ?_) #[true,true,true,true,true,true,true,true,true,true,true,false,false] rfl rfl (any_of HT_.out (by kernel_rfl)) (fun _ _ _ h => h) (Or.inl ⟨by rfl, ?_⟩) ?_ ?_
                rotate_left
                · intro w'; go_simp; with_reducible rfl
                rotate_left
                · simp only [Act.put, sS, s0_, s1_, i64_w, i32_w]; rfl
                refine last_ (i := 11) (N := none) #[true,true,true,true,true,true,true,true,true,true,true,true,false] rfl rfl (one_of HT_.out (by kernel_rfl)) (by decide) (fun K hK => ?_)
                have hs40 : w39.cell? ⟨gb221, 0, none⟩ = some (.int .u64 x222000_2) := (blk_cell BK221.out 0).trans rfl
                have hfs40 := blk_frozen BK221.out 0
                have hns40_1 := NB227_221.out
                have hms40_1 := NB221_227.out
                have hs42 : w39.cell? ⟨gb221, 1, none⟩ = some (.slice Ao38 x222001_2.length co38) := (blk_cell BK221.out 1).trans rfl
                have hfs42 := blk_frozen BK221.out 1
                have hns42_1 := NB227_221.out
                have hms42_1 := NB221_227.out
                refine skip_ (w1 := ?_) (by rfl) rfl ?_ ?_
                rotate_left
                ·
                 go_simp
                 rfl
                refine hK.out _ _ ?_
                clear hK K
                refine pure_ (i := 12) (N := some 10) (v := ?_) (a' := ?_) #[true,true,true,true,true,true,true,true,true,true,true,true,true] rfl rfl (any_of HT_.out (by kernel_rfl)) (fun _ _ _ h => h) (Or.inl ⟨by rfl, ?_⟩) ?_ ?_
                rotate_left
                · intro w'; go_simp; with_reducible rfl
                rotate_left
                · simp only [Act.put, sS, s0_, s1_, i64_w, i32_w]; rfl
                refine done_ (done_of HT_.out (by kernel_rfl)) ?_
                try go_wp2
                have n0_ : Aside0 (Kd.R Kd.bool 4 ((w39.setCell ⟨gb221, 0, none⟩ (.int .u64 t231)).setCell ⟨gb221, 1, none⟩ (.slice Ao41 t232.length co41)) w.heap.size (fun k_ => some k_ ≠ (u228001 : Value).ownBlock ∧ some k_ ≠ (.slice Ao41 t232.length co41 : Value).ownBlock) (.slice Ao38 x222001_2.length co38) x222001_2) := ⟨by (with_reducible repeat (first | apply Kd.R_alloc | apply Kd.R_drewN | apply Kd.R_drew)); exact Kd.R_mono (Kd.R_far (p := ⟨gb221, 1, none⟩) (Kd.R_far (p := ⟨gb221, 0, none⟩) (Kd.R_types HO_222001.out BK221.out (by decide)) (fun _ hk => hk.2) (.int .u64 t231)) (fun _ hk => hk.2) (.slice Ao41 t232.length co41)) (fun _ hk => ⟨hk.1.1, hk.1.2⟩)⟩
                have n1_ : Aside0 (Kd.R Kd.bool 4 ((w39.setCell ⟨gb221, 0, none⟩ (.int .u64 t231)).setCell ⟨gb221, 1, none⟩ (.slice Ao41 t232.length co41)) w.heap.size (fun k_ => some k_ ≠ (.slice Ao38 x222001_2.length co38 : Value).ownBlock ∧ some k_ ≠ (.slice Ao41 t232.length co41 : Value).ownBlock) u228001 x228001_2) := ⟨by (with_reducible repeat (first | apply Kd.R_alloc | apply Kd.R_drewN | apply Kd.R_drew)); exact Kd.R_mono (Kd.R_far (p := ⟨gb221, 1, none⟩) (Kd.R_far (p := ⟨gb221, 0, none⟩) (Kd.R_types HO_228001.out BK221.out (by decide)) (fun _ hk => hk.2) (.int .u64 t231)) (fun _ hk => hk.2) (.slice Ao41 t232.length co41)) (fun _ hk => ⟨hk.1.1, hk.1.2⟩)⟩
                have n2_ : Aside0 (Kd.R Kd.bool 4 ((w39.setCell ⟨gb221, 0, none⟩ (.int .u64 t231)).setCell ⟨gb221, 1, none⟩ (.slice Ao41 t232.length co41)) w.heap.size (fun k_ => some k_ ≠ (.slice Ao38 x222001_2.length co38 : Value).ownBlock ∧ some k_ ≠ (u228001 : Value).ownBlock) (.slice Ao41 t232.length co41) t232) := ⟨by (with_reducible repeat (first | apply Kd.R_alloc | apply Kd.R_drewN | apply Kd.R_drew)); exact Kd.R_mono (Kd.R_far (p := ⟨gb221, 1, none⟩) (Kd.R_far (p := ⟨gb221, 0, none⟩) (Kd.R_types HO234.out BK221.out (by decide)) (fun _ hk => hk.2) (.int .u64 t231)) (fun _ hk => hk.2) (.slice Ao41 t232.length co41)) (fun _ hk => ⟨hk.1.1.2, hk.1.2⟩)⟩
                have n3_ : Aside0 (((w39.setCell ⟨gb221, 0, none⟩ (.int .u64 t231)).setCell ⟨gb221, 1, none⟩ (.slice Ao41 t232.length co41)).heap[gb221]? = some (.cells #[.int .u64 t231, .slice Ao41 t232.length co41] 26 (0, 0))) := ⟨by (with_reducible repeat (first | refine blk_drewN ?_ _ | refine blk_drew ?_ | refine blk_alloc ?_ _)); refine blk_put (cs := #[.int .u64 t231, .slice Ao38 x222001_2.length co38]) ?_ 1 _ rfl; (with_reducible repeat (first | refine blk_drewN ?_ _ | refine blk_drew ?_ | refine blk_alloc ?_ _)); refine blk_put (cs := #[.int .u64 x222000_2, .slice Ao38 x222001_2.length co38]) ?_ 0 _ rfl; (with_reducible repeat (first | refine blk_drewN ?_ _ | refine blk_drew ?_ | refine blk_alloc ?_ _)); exact BK221.out⟩
                have n4_ : Aside0 (((w39.setCell ⟨gb221, 0, none⟩ (.int .u64 t231)).setCell ⟨gb221, 1, none⟩ (.slice Ao41 t232.length co41)).heap[gb227]? = some (.cells #[.int .u64 x228000_2, u228001] 26 (0, 0))) := ⟨by (with_reducible repeat (first | refine blk_drewN ?_ _ | refine blk_drew ?_ | refine blk_alloc ?_ _)); refine blk_far ?_ NB227_221.out _; (with_reducible repeat (first | refine blk_drewN ?_ _ | refine blk_drew ?_ | refine blk_alloc ?_ _)); refine blk_far ?_ NB227_221.out _; (with_reducible repeat (first | refine blk_drewN ?_ _ | refine blk_drew ?_ | refine blk_alloc ?_ _)); exact BK227.out⟩
                have n5_ : Aside0 (Below w.heap.size w ((w39.setCell ⟨gb221, 0, none⟩ (.int .u64 t231)).setCell ⟨gb221, 1, none⟩ (.slice Ao41 t232.length co41))) := ⟨by repeat (first | (with_reducible first | exact HB.out | apply below_alloc | apply pw_below_drewN | apply below_drew1 | refine below_set ?_ GE221.out | refine below_set ?_ GE227.out) | exact HB.out)⟩
                (try clear HO_222001)
                (try clear HO_228001)
                (try clear HO234)
                (try clear BK221)
                (try clear BK227)
                (try clear HB)
                generalize ((w39.setCell ⟨gb221, 0, none⟩ (.int .u64 t231)).setCell ⟨gb221, 1, none⟩ (.slice Ao41 t232.length co41)) = w43 at n0_ n1_ n2_ n3_ n4_ n5_ ⊢
                have HO_222001 := n0_
                have HO_228001 := n1_
                have HO234 := n2_
                have BK221 := n3_
                have BK227 := n4_
                have HB := n5_
                clear n0_ n1_ n2_ n3_ n4_ n5_
                have n0_ := Aside0.mk (Kd.R_drew HO_222001.out)
                have n1_ := Aside0.mk (Kd.R_drew HO_228001.out)
                have n2_ := Aside0.mk (Kd.R_drew HO234.out)
                have n3_ := Aside0.mk (blk_drew BK221.out)
                have n4_ := Aside0.mk (blk_drew BK227.out)
                have n5_ := Aside0.mk (below_drew1 HB.out)
                clear HO_222001
                clear HO_228001
                clear HO234
                clear BK221
                clear BK227
                clear HB
                have HO_222001 := n0_
                have HO_228001 := n1_
                have HO234 := n2_
                have BK221 := n3_
                have BK227 := n4_
                have HB := n5_
                clear n0_ n1_ n2_ n3_ n4_ n5_
                have p236 : 0 ≤ ((ji31) : Int) := of_decide_eq_true (by first | (with_reducible assumption) | assumption)
                have q236 : (ji31) < ((l0.take ((ji5) : Int).toNat).length : Int) := of_decide_eq_true (by first | (with_reducible assumption) | assumption)
                obtain ⟨ad236, e236, hx236_0⟩ := Kd.at_int HR228.out (ji31) p236 q236
                have hw236_0 := hx236_0
                obtain rfl : ad230 = ad236 := (by injection e236)
                replace hx236_0 := (HB.out.cell (World.block_lt_of_cell? w _ hx236_0)).trans hx236_0
                replace p236 := eq_true p236
                replace q236 := eq_true q236
                obtain ⟨Ao45, co45, eo45⟩ := Kd.R_slice HO_228001.out
                (first | subst eo45 | (injection eo45 with f1_ f2_ f3_; have f4_ := f1_.symm; have f5_ := f3_.symm; clear f1_ f2_ f3_; subst f4_; subst f5_))
                refine start_ (n := 19) (S := fun w' => w'.cell? ⟨gb227, 0, none⟩ = some (.int .u64 x228000_2) ∧ w'.cell? ⟨gb227, 1, none⟩ = some (.slice Ao45 x228001_2.length co45) ∧ w'.cell? (ad230.add ((ji31)).toNat) = some (.int .u8 (rd (l0.take ((ji5) : Int).toNat) (ji31)))) (ds := [17]) #[false,false,false,false,false,false,false,false,false,false,false,false,false,false,false,false,false,false,false] (by kernel_rfl) rfl rfl ⟨(blk_cell BK227.out 0).trans rfl, (blk_cell BK227.out 1).trans rfl, ((HB.out.cell (World.block_lt_of_cell? w _ hw236_0)).trans hw236_0)⟩ (fun hHeld => ?_); refine with_tabW tillrolllaw09_BbtAny.tab11 tillrolllaw09_BbtAny.bits11 (fun HT_ HW_ => ?_)
                generalize w43.drew = w44 at HO_222001 HO_228001 HO234 BK221 BK227 HB hx236_0 hHeld ⊢
                refine pure_ (i := 1) (N := some 56) (v := ?_) (a' := ?_) #[false,true,false,false,false,false,false,false,false,false,false,false,false,false,false,false,false,false,false] rfl rfl (any_of HT_.out (by kernel_rfl)) (fun _ _ _ h => h) (Or.inl ⟨by rfl, ?_⟩) ?_ ?_
                rotate_left
                · intro w'; go_simp; with_reducible rfl
                rotate_left
                · simp only [Act.put, sS, s0_, s1_, i64_w, i32_w]; rfl
                refine pure_ (i := 2) (N := some 57) (v := ?_) (a' := ?_) #[false,true,true,false,false,false,false,false,false,false,false,false,false,false,false,false,false,false,false] rfl rfl (any_of HT_.out (by kernel_rfl)) (fun _ _ _ h => h) (Or.inl ⟨by rfl, ?_⟩) ?_ ?_
                rotate_left
                · intro w'; go_simp; with_reducible rfl
                rotate_left
                · simp only [Act.put, sS, s0_, s1_, i64_w, i32_w]; rfl
                refine pure_ (i := 3) (N := some 58) (v := ?_) (a' := ?_) #[false,true,true,true,false,false,false,false,false,false,false,false,false,false,false,false,false,false,false] rfl rfl (any_of HT_.out (by kernel_rfl)) (fun _ _ _ h => h) (Or.inl ⟨by rfl, ?_⟩) ?_ ?_
                rotate_left
                · intro w'; go_simp; with_reducible rfl
                rotate_left
                · simp only [Act.put, sS, s0_, s1_, i64_w, i32_w]; rfl
                refine pure_ (i := 4) (N := some 59) (v := ?_) (a' := ?_) #[false,true,true,true,true,false,false,false,false,false,false,false,false,false,false,false,false,false,false] rfl rfl (any_of HT_.out (by kernel_rfl)) (fun _ _ _ h => h) (Or.inl ⟨by rfl, ?_⟩) ?_ ?_
                rotate_left
                · intro w'; go_simp; with_reducible rfl
                rotate_left
                · simp only [Act.put, sS, s0_, s1_, i64_w, i32_w]; rfl
                refine pure_ (i := 5) (N := some 60) (v := ?_) (a' := ?_) #[false,true,true,true,true,true,false,false,false,false,false,false,false,false,false,false,false,false,false] rfl rfl (any_of HT_.out (by kernel_rfl)) (fun _ _ _ h => h) (Or.inl ⟨by rfl, ?_⟩) ?_ ?_
                rotate_left
                · intro w'; go_simp; with_reducible rfl
                rotate_left
                · simp only [Act.put, sS, s0_, s1_, i64_w, i32_w]; rfl
                refine pure_ (i := 6) (N := some 61) (v := ?_) (a' := ?_) #[false,true,true,true,true,true,true,false,false,false,false,false,false,false,false,false,false,false,false] rfl rfl (any_of HT_.out (by kernel_rfl)) (fun _ _ _ h => h) (Or.inl ⟨by rfl, ?_⟩) ?_ ?_
                rotate_left
                · intro w'; go_simp; with_reducible rfl
                rotate_left
                · simp only [Act.put, sS, s0_, s1_, i64_w, i32_w]; rfl
                refine pure_ (i := 7) (N := some 62) (v := ?_) (a' := ?_) #[false,true,true,true,true,true,true,true,false,false,false,false,false,false,false,false,false,false,false] rfl rfl (any_of HT_.out (by kernel_rfl)) (fun _ _ _ h => h) (Or.inl ⟨by rfl, ?_⟩) ?_ ?_
                rotate_left
                · intro w'; go_simp; with_reducible rfl
                rotate_left
                · simp only [Act.put, sS, s0_, s1_, i64_w, i32_w]; rfl
                refine pure_ (i := 8) (N := some 63) (v := ?_) (a' := ?_) #[false,true,true,true,true,true,true,true,true,false,false,false,false,false,false,false,false,false,false] rfl rfl (any_of HT_.out (by kernel_rfl)) (fun _ _ _ h => h) (Or.inl ⟨by rfl, ?_⟩) ?_ ?_
                rotate_left
                · intro w'; go_simp; with_reducible rfl
                rotate_left
                · simp only [Act.put, sS, s0_, s1_, i64_w, i32_w]; rfl
                refine pure_ (i := 9) (N := some 64) (v := ?_) (a' := ?_) #[false,true,true,true,true,true,true,true,true,true,false,false,false,false,false,false,false,false,false] rfl rfl (any_of HT_.out (by kernel_rfl)) (fun _ _ _ h => h) (Or.inl ⟨by rfl, ?_⟩) ?_ ?_
                rotate_left
                · intro w'; go_simp; with_reducible rfl
                rotate_left
                · simp only [Act.put, sS, s0_, s1_, i64_w, i32_w]; rfl
                refine take_ (i := 0) (N := some 55) (v := ?_) (a' := ?_) #[true,true,true,true,true,true,true,true,true,true,false,false,false,false,false,false,false,false,false] rfl rfl (take_ofW HT_.out HW_.out (by kernel_rfl)) (fun _ _ _ h => h) (Or.inl ⟨by rfl, ?_⟩) hHeld ?_ ?_
                rotate_left
                ·
                 rintro w' ⟨s0, s1, s2⟩
                 go_simp
                 with_reducible rfl
                rotate_left
                · simp only [Act.put, sS, s0_, s1_, i64_w, i32_w]; rfl
                refine take_ (i := 10) (N := some 65) (v := ?_) (a' := ?_) #[true,true,true,true,true,true,true,true,true,true,true,false,false,false,false,false,false,false,false] rfl rfl (take_ofW HT_.out HW_.out (by kernel_rfl)) (fun _ _ _ h => h) (Or.inl ⟨by rfl, ?_⟩) hHeld ?_ ?_
                rotate_left
                ·
                 rintro w' ⟨s0, s1, s2⟩
                 go_simp
                 with_reducible rfl
                rotate_left
                · simp only [Act.put, sS, s0_, s1_, i64_w, i32_w]; rfl
                refine pure_ (i := 11) (N := some 66) (v := ?_) (a' := ?_) #[true,true,true,true,true,true,true,true,true,true,true,true,false,false,false,false,false,false,false] rfl rfl (any_of HT_.out (by kernel_rfl)) (fun _ _ _ h => h) (Or.inl ⟨by rfl, ?_⟩) ?_ ?_
                rotate_left
                · intro w'; go_simp; with_reducible rfl
                rotate_left
                · simp only [Act.put, sS, s0_, s1_, i64_w, i32_w]; rfl
                refine pure_ (i := 12) (N := some 67) (v := ?_) (a' := ?_) #[true,true,true,true,true,true,true,true,true,true,true,true,true,false,false,false,false,false,false] rfl rfl (any_of HT_.out (by kernel_rfl)) (fun _ _ _ h => h) (Or.inl ⟨by rfl, ?_⟩) ?_ ?_
                rotate_left
                · intro w'; go_simp; with_reducible rfl
                rotate_left
                · simp only [Act.put, sS, s0_, s1_, i64_w, i32_w]; rfl
                refine one_ (i := 13) (N := some 68) #[true,true,true,true,true,true,true,true,true,true,true,true,true,true,false,false,false,false,false] rfl rfl (one_of HT_.out (by kernel_rfl)) (by decide) (fun K hK => ?_)
                refine goes_ Try.func8 (by kernel_rfl) rfl #[.agg #[.int .u64 x228000_2, .slice Ao45 x228001_2.length co45], .int .i64 (Int.tmod (wrap64 (rd (l0.take ((ji5) : Int).toNat) (ji31))) 40)] (by rfl) rfl rfl (by (try simp only [List.map_toArray, List.map_cons, List.map_nil]); first | done | (simp only [hji31, hji5]; rfl) | rfl | (simp only [List.length_drop, List.length_take]; rfl) | (simp only [ByteArray.size_append]; rfl) | (simp only [ByteArray.size_extract]; rfl)) ?_
                with_reducible refine (bbt_Table_With.calls x228000_2 _ _ x228001_2 (Int.tmod (wrap64 (rd (l0.take ((ji5) : Int).toNat) (ji31))) 40) t237 t238 t241 _ ?side1 ?side2 A34.out).mono ?_
                (case side1 => repeat (first | exact (Kd.R_reads' HO_228001.out).2.2 | (with_reducible refine Kd.C_alloc ?_ _) | (with_reducible refine Kd.C_drewN ?_ _) | (with_reducible refine Kd.C_drew ?_)))
                (case side2 => exact (Kd.R_reads' HO_228001.out).2.1)
                rintro e w46 ⟨v239, rfl, ho0, hb⟩
                refine ⟨_, rfl, ?_⟩
                have n0_ := Aside0.mk (Kd.R_elder' (by (with_reducible repeat (first | apply Kd.R_alloc | apply Kd.R_drewN | apply Kd.R_drew)); exact HO_222001.out) (Kd.R_base ho0) hb)
                have n1_ := Aside0.mk (Kd.R_elder' (by (with_reducible repeat (first | apply Kd.R_alloc | apply Kd.R_drewN | apply Kd.R_drew)); exact HO_228001.out) (Kd.R_base ho0) hb)
                have n2_ := Aside0.mk (Kd.R_elder' (by (with_reducible repeat (first | apply Kd.R_alloc | apply Kd.R_drewN | apply Kd.R_drew)); exact HO234.out) (Kd.R_base ho0) hb)
                have n3_ := Aside0.mk (Kd.R_lower (Kd.R_new' (Kd.R_new' (Kd.R_new' ho0 (Kd.R_lt (by (with_reducible repeat (first | apply Kd.R_alloc | apply Kd.R_drewN | apply Kd.R_drew)); exact HO_222001.out))) (Kd.R_lt (by (with_reducible repeat (first | apply Kd.R_alloc | apply Kd.R_drewN | apply Kd.R_drew)); exact HO_228001.out))) (Kd.R_lt (by (with_reducible repeat (first | apply Kd.R_alloc | apply Kd.R_drewN | apply Kd.R_drew)); exact HO234.out))) (below_size (by repeat (first | (with_reducible first | exact HB.out | apply below_alloc | apply pw_below_drewN | apply below_drew1 | refine below_set ?_ GE221.out | refine below_set ?_ GE227.out) | exact HB.out))))
                have n4_ := Aside0.mk (blk_below (g := gb221) (o := .cells #[.int .u64 t231, .slice Ao41 t232.length co41] 26 (0, 0)) (by (with_reducible repeat (first | refine blk_drewN ?_ _ | refine blk_drew ?_ | refine blk_alloc ?_ _)); exact BK221.out) hb)
                have n5_ := Aside0.mk (blk_below (g := gb227) (o := .cells #[.int .u64 x228000_2, .slice Ao45 x228001_2.length co45] 26 (0, 0)) (by (with_reducible repeat (first | refine blk_drewN ?_ _ | refine blk_drew ?_ | refine blk_alloc ?_ _)); exact BK227.out) hb)
                have n6_ := Aside0.mk (below_step (by repeat (first | (with_reducible first | exact HB.out | apply below_alloc | apply pw_below_drewN | apply below_drew1 | refine below_set ?_ GE221.out | refine below_set ?_ GE227.out) | exact HB.out)) hb)
                clear HO_222001
                clear HO_228001
                clear HO234
                clear BK221
                clear BK227
                clear HB
                have HO_222001 := n0_
                have HO_228001 := n1_
                have HO234 := n2_
                have HO240 := n3_
                have BK221 := n4_
                have BK227 := n5_
                have HB := n6_
                clear n0_ n1_ n2_ n3_ n4_ n5_ n6_
                (try clear hb)
                (try clear hb2)
                (try clear hk)
                (try clear hi)
                (try clear ho0)
                obtain ⟨Ao48, co48, eo48⟩ := Kd.R_slice HO240.out
                (first | subst eo48 | (injection eo48 with f1_ f2_ f3_; have f4_ := f1_.symm; have f5_ := f3_.symm; clear f1_ f2_ f3_; subst f4_; subst f5_))
                refine hK.out _ _ ⟨(blk_cell BK227.out 0).trans rfl, (blk_cell BK227.out 1).trans rfl, ((HB.out.cell (World.block_lt_of_cell? w _ hw236_0)).trans hw236_0)⟩ (fun hHeld => ?_)
                clear hK K
                refine norm_ (a' := ?_) ?_ ?_
                rotate_left
                ·
                 show Act.put _ (some 68) _ = _
                 simp only [Act.put, sS, s0_, s1_, i64_w, i32_w]
                 rfl
                refine pure_ (i := 14) (N := some 54) (v := ?_) (a' := ?_) #[true,true,true,true,true,true,true,true,true,true,true,true,true,true,true,false,false,false,false] rfl rfl (any_of HT_.out (by kernel_rfl)) (fun _ _ _ h => h) (Or.inl ⟨by rfl, ?_⟩) ?_ ?_
                rotate_left
                · intro w'; go_simp; with_reducible rfl
                rotate_left
                · simp only [Act.put, sS, s0_, s1_, i64_w, i32_w]; rfl
                refine pure_ (i := 15) (N := some 69) (v := ?_) (a' := ?_) #[true,true,true,true,true,true,true,true,true,true,true,true,true,true,true,true,false,false,false] rfl rfl (any_of HT_.out (by kernel_rfl)) (fun _ _ _ h => h) (Or.inl ⟨by rfl, ?_⟩) ?_ ?_
                rotate_left
                · intro w'; go_simp; with_reducible rfl
                rotate_left
                · simp only [Act.put, sS, s0_, s1_, i64_w, i32_w]; rfl
                refine pure_ (i := 16) (N := some 70) (v := ?_) (a' := ?_) #[true,true,true,true,true,true,true,true,true,true,true,true,true,true,true,true,true,false,false] rfl rfl (any_of HT_.out (by kernel_rfl)) (fun _ _ _ h => h) (Or.inl ⟨by rfl, ?_⟩) ?_ ?_
                rotate_left
                · intro w'; go_simp; with_reducible rfl
                rotate_left
                · simp only [Act.put, sS, s0_, s1_, i64_w, i32_w]; rfl
                refine last_ (i := 17) (N := none) #[true,true,true,true,true,true,true,true,true,true,true,true,true,true,true,true,true,true,false] rfl rfl (one_of HT_.out (by kernel_rfl)) (by decide) (fun K hK => ?_)
                have hs47 : w46.cell? ⟨gb227, 0, none⟩ = some (.int .u64 x228000_2) := (blk_cell BK227.out 0).trans rfl
                have hfs47 := blk_frozen BK227.out 0
                have hns47_0 := NB221_227.out
                have hms47_0 := NB227_221.out
                have hs49 : w46.cell? ⟨gb227, 1, none⟩ = some (.slice Ao45 x228001_2.length co45) := (blk_cell BK227.out 1).trans rfl
                have hfs49 := blk_frozen BK227.out 1
                have hns49_0 := NB221_227.out
                have hms49_0 := NB227_221.out
                refine skip_ (w1 := ?_) (by rfl) rfl ?_ ?_
                rotate_left
                ·
                 go_simp
                 rfl
                refine hK.out _ _ ?_
                clear hK K
                refine pure_ (i := 18) (N := some 11) (v := ?_) (a' := ?_) #[true,true,true,true,true,true,true,true,true,true,true,true,true,true,true,true,true,true,true] rfl rfl (any_of HT_.out (by kernel_rfl)) (fun _ _ _ h => h) (Or.inl ⟨by rfl, ?_⟩) ?_ ?_
                rotate_left
                · intro w'; go_simp; with_reducible rfl
                rotate_left
                · simp only [Act.put, sS, s0_, s1_, i64_w, i32_w]; rfl
                refine done_ (done_of HT_.out (by kernel_rfl)) ?_
                try go_wp2
                go_roundg k2
                case measure => have := HJ7.out; have := HK2.out; omega
                case rel => exact ⟨(wrap64 (x40_2 + 1)), (t231), (t232), (t237), (t238), (.slice Ao41 t232.length co41), (.slice Ao48 t238.length co48), (by first | rfl | (simp; done) | (simp [*]; done)), H', ⟨by have := HJ7.out; have := HK2.out; omega⟩, ⟨by (with_reducible repeat (first | apply Kd.R_alloc | apply Kd.R_drewN | apply Kd.R_drew)); exact Kd.R_mono (Kd.R_far (p := ⟨gb227, 1, none⟩) (Kd.R_far (p := ⟨gb227, 0, none⟩) (Kd.R_types HO234.out BK227.out (by decide)) (fun _ hk => hk.2) (.int .u64 t237)) (fun _ hk => hk.2) (.slice Ao48 t238.length co48)) (fun _ hk => hk.1.2)⟩, ⟨by (with_reducible repeat (first | apply Kd.R_alloc | apply Kd.R_drewN | apply Kd.R_drew)); exact Kd.R_mono (Kd.R_far (p := ⟨gb227, 1, none⟩) (Kd.R_far (p := ⟨gb227, 0, none⟩) (Kd.R_types HO240.out BK227.out (by decide)) (fun _ hk => hk.2) (.int .u64 t237)) (fun _ hk => hk.2) (.slice Ao48 t238.length co48)) (fun _ hk => hk.1.2)⟩, ⟨by (with_reducible repeat (first | refine blk_drewN ?_ _ | refine blk_drew ?_ | refine blk_alloc ?_ _)); refine blk_far ?_ NB221_227.out _; (with_reducible repeat (first | refine blk_drewN ?_ _ | refine blk_drew ?_ | refine blk_alloc ?_ _)); refine blk_far ?_ NB221_227.out _; (with_reducible repeat (first | refine blk_drewN ?_ _ | refine blk_drew ?_ | refine blk_alloc ?_ _)); exact BK221.out⟩, ⟨by (with_reducible repeat (first | refine blk_drewN ?_ _ | refine blk_drew ?_ | refine blk_alloc ?_ _)); refine blk_put (cs := #[.int .u64 t237, .slice Ao45 x228001_2.length co45]) ?_ 1 _ rfl; (with_reducible repeat (first | refine blk_drewN ?_ _ | refine blk_drew ?_ | refine blk_alloc ?_ _)); refine blk_put (cs := #[.int .u64 x228000_2, .slice Ao45 x228001_2.length co45]) ?_ 0 _ rfl; (with_reducible repeat (first | refine blk_drewN ?_ _ | refine blk_drew ?_ | refine blk_alloc ?_ _)); exact BK227.out⟩, ⟨by repeat (first | (with_reducible first | exact HB.out | apply below_alloc | apply pw_below_drewN | apply below_drew1 | refine below_set ?_ GE221.out | refine below_set ?_ GE227.out) | exact HB.out)⟩⟩
               ·
                rw [if_neg c36] at H
                have c36b0 : (t241 == 0) = false := beq_eq_false_iff_ne.mpr c36
                have c36b1 : (t241 != 0) = true := bne_iff_ne.mpr c36
                obtain rfl := Option.some.inj H
                try go_wp2
                have n0_ := Aside0.mk (Kd.R_drew HO_222001.out)
                have n1_ := Aside0.mk (Kd.R_drew HO_228001.out)
                have n2_ := Aside0.mk (blk_drew BK221.out)
                have n3_ := Aside0.mk (blk_drew BK227.out)
                have n4_ := Aside0.mk (below_drew1 HB.out)
                clear HO_222001
                clear HO_228001
                clear BK221
                clear BK227
                clear HB
                have HO_222001 := n0_
                have HO_228001 := n1_
                have BK221 := n2_
                have BK227 := n3_
                have HB := n4_
                clear n0_ n1_ n2_ n3_ n4_
                have p230 : 0 ≤ (x40_2 : Int) := of_decide_eq_true (by first | (with_reducible assumption) | assumption)
                have q230 : x40_2 < ((l0.take ((ji5) : Int).toNat).length : Int) := of_decide_eq_true (by first | (with_reducible assumption) | assumption)
                obtain ⟨ad230, e230, hx230_0⟩ := Kd.at_int HR228.out x40_2 p230 q230
                have hw230_0 := hx230_0
                cases e230
                replace hx230_0 := (HB.out.cell (World.block_lt_of_cell? w _ hx230_0)).trans hx230_0
                replace p230 := eq_true p230
                replace q230 := eq_true q230
                obtain ⟨Ao51, co51, eo51⟩ := Kd.R_slice HO_222001.out
                (first | subst eo51 | (injection eo51 with f1_ f2_ f3_; have f4_ := f1_.symm; have f5_ := f3_.symm; clear f1_ f2_ f3_; subst f4_; subst f5_))
                refine start_ (n := 13) (S := fun w' => w'.cell? ⟨gb221, 0, none⟩ = some (.int .u64 x222000_2) ∧ w'.cell? ⟨gb221, 1, none⟩ = some (.slice Ao51 x222001_2.length co51) ∧ w'.cell? (ad230.add (x40_2).toNat) = some (.int .u8 (rd (l0.take ((ji5) : Int).toNat) x40_2))) (ds := [11]) #[false,false,false,false,false,false,false,false,false,false,false,false,false] (by kernel_rfl) rfl rfl ⟨(blk_cell BK221.out 0).trans rfl, (blk_cell BK221.out 1).trans rfl, ((HB.out.cell (World.block_lt_of_cell? w _ hw230_0)).trans hw230_0)⟩ (fun hHeld => ?_); refine with_tabW tillrolllaw09_BbtAny.tab10 tillrolllaw09_BbtAny.bits10 (fun HT_ HW_ => ?_)
                generalize wr.drew = w50 at HO_222001 HO_228001 BK221 BK227 HB hx230_0 hHeld ⊢
                refine pure_ (i := 1) (N := some 45) (v := ?_) (a' := ?_) #[false,true,false,false,false,false,false,false,false,false,false,false,false] rfl rfl (any_of HT_.out (by kernel_rfl)) (fun _ _ _ h => h) (Or.inl ⟨by rfl, ?_⟩) ?_ ?_
                rotate_left
                · intro w'; go_simp; with_reducible rfl
                rotate_left
                · simp only [Act.put, sS, s0_, s1_, i64_w, i32_w]; rfl
                refine pure_ (i := 2) (N := some 46) (v := ?_) (a' := ?_) #[false,true,true,false,false,false,false,false,false,false,false,false,false] rfl rfl (any_of HT_.out (by kernel_rfl)) (fun _ _ _ h => h) (Or.inl ⟨by rfl, ?_⟩) ?_ ?_
                rotate_left
                · intro w'; go_simp; with_reducible rfl
                rotate_left
                · simp only [Act.put, sS, s0_, s1_, i64_w, i32_w]; rfl
                refine pure_ (i := 3) (N := some 47) (v := ?_) (a' := ?_) #[false,true,true,true,false,false,false,false,false,false,false,false,false] rfl rfl (any_of HT_.out (by kernel_rfl)) (fun _ _ _ h => h) (Or.inl ⟨by rfl, ?_⟩) ?_ ?_
                rotate_left
                · intro w'; go_simp; with_reducible rfl
                rotate_left
                · simp only [Act.put, sS, s0_, s1_, i64_w, i32_w]; rfl
                refine take_ (i := 0) (N := some 44) (v := ?_) (a' := ?_) #[true,true,true,true,false,false,false,false,false,false,false,false,false] rfl rfl (take_ofW HT_.out HW_.out (by kernel_rfl)) (fun _ _ _ h => h) (Or.inl ⟨by rfl, ?_⟩) hHeld ?_ ?_
                rotate_left
                ·
                 rintro w' ⟨s0, s1, s2⟩
                 go_simp
                 with_reducible rfl
                rotate_left
                · simp only [Act.put, sS, s0_, s1_, i64_w, i32_w]; rfl
                refine take_ (i := 4) (N := some 48) (v := ?_) (a' := ?_) #[true,true,true,true,true,false,false,false,false,false,false,false,false] rfl rfl (take_ofW HT_.out HW_.out (by kernel_rfl)) (fun _ _ _ h => h) (Or.inl ⟨by rfl, ?_⟩) hHeld ?_ ?_
                rotate_left
                ·
                 rintro w' ⟨s0, s1, s2⟩
                 go_simp
                 with_reducible rfl
                rotate_left
                · simp only [Act.put, sS, s0_, s1_, i64_w, i32_w]; rfl
                refine pure_ (i := 5) (N := some 49) (v := ?_) (a' := ?_) #[true,true,true,true,true,true,false,false,false,false,false,false,false] rfl rfl (any_of HT_.out (by kernel_rfl)) (fun _ _ _ h => h) (Or.inl ⟨by rfl, ?_⟩) ?_ ?_
                rotate_left
                · intro w'; go_simp; with_reducible rfl
                rotate_left
                · simp only [Act.put, sS, s0_, s1_, i64_w, i32_w]; rfl
                refine pure_ (i := 6) (N := some 50) (v := ?_) (a' := ?_) #[true,true,true,true,true,true,true,false,false,false,false,false,false] rfl rfl (any_of HT_.out (by kernel_rfl)) (fun _ _ _ h => h) (Or.inl ⟨by rfl, ?_⟩) ?_ ?_
                rotate_left
                · intro w'; go_simp; with_reducible rfl
                rotate_left
                · simp only [Act.put, sS, s0_, s1_, i64_w, i32_w]; rfl
                refine one_ (i := 7) (N := some 51) #[true,true,true,true,true,true,true,true,false,false,false,false,false] rfl rfl (one_of HT_.out (by kernel_rfl)) (by decide) (fun K hK => ?_)
                refine goes_ Try.func8 (by kernel_rfl) rfl #[.agg #[.int .u64 x222000_2, .slice Ao51 x222001_2.length co51], .int .i64 (Int.tmod (wrap64 (rd (l0.take ((ji5) : Int).toNat) x40_2)) 40)] (by rfl) rfl rfl (by (try simp only [List.map_toArray, List.map_cons, List.map_nil]); first | done | (simp only [hji5]; rfl) | rfl | (simp only [List.length_drop, List.length_take]; rfl) | (simp only [ByteArray.size_append]; rfl) | (simp only [ByteArray.size_extract]; rfl)) ?_
                with_reducible refine (bbt_Table_With.calls x222000_2 _ _ x222001_2 (Int.tmod (wrap64 (rd (l0.take ((ji5) : Int).toNat) x40_2)) 40) t231 t232 t235 _ ?side1 ?side2 A29.out).mono ?_
                (case side1 => repeat (first | exact (Kd.R_reads' HO_222001.out).2.2 | (with_reducible refine Kd.C_alloc ?_ _) | (with_reducible refine Kd.C_drewN ?_ _) | (with_reducible refine Kd.C_drew ?_)))
                (case side2 => exact (Kd.R_reads' HO_222001.out).2.1)
                rintro e w52 ⟨v233, rfl, ho0, hb⟩
                refine ⟨_, rfl, ?_⟩
                have n0_ := Aside0.mk (Kd.R_elder' (by (with_reducible repeat (first | apply Kd.R_alloc | apply Kd.R_drewN | apply Kd.R_drew)); exact HO_222001.out) (Kd.R_base ho0) hb)
                have n1_ := Aside0.mk (Kd.R_elder' (by (with_reducible repeat (first | apply Kd.R_alloc | apply Kd.R_drewN | apply Kd.R_drew)); exact HO_228001.out) (Kd.R_base ho0) hb)
                have n2_ := Aside0.mk (Kd.R_lower (Kd.R_new' (Kd.R_new' ho0 (Kd.R_lt (by (with_reducible repeat (first | apply Kd.R_alloc | apply Kd.R_drewN | apply Kd.R_drew)); exact HO_222001.out))) (Kd.R_lt (by (with_reducible repeat (first | apply Kd.R_alloc | apply Kd.R_drewN | apply Kd.R_drew)); exact HO_228001.out))) (below_size (by repeat (first | (with_reducible first | exact HB.out | apply below_alloc | apply pw_below_drewN | apply below_drew1 | refine below_set ?_ GE221.out | refine below_set ?_ GE227.out) | exact HB.out))))
                have n3_ := Aside0.mk (blk_below (g := gb221) (o := .cells #[.int .u64 x222000_2, .slice Ao51 x222001_2.length co51] 26 (0, 0)) (by (with_reducible repeat (first | refine blk_drewN ?_ _ | refine blk_drew ?_ | refine blk_alloc ?_ _)); exact BK221.out) hb)
                have n4_ := Aside0.mk (blk_below (g := gb227) (o := .cells #[.int .u64 x228000_2, u228001] 26 (0, 0)) (by (with_reducible repeat (first | refine blk_drewN ?_ _ | refine blk_drew ?_ | refine blk_alloc ?_ _)); exact BK227.out) hb)
                have n5_ := Aside0.mk (below_step (by repeat (first | (with_reducible first | exact HB.out | apply below_alloc | apply pw_below_drewN | apply below_drew1 | refine below_set ?_ GE221.out | refine below_set ?_ GE227.out) | exact HB.out)) hb)
                clear HO_222001
                clear HO_228001
                clear BK221
                clear BK227
                clear HB
                have HO_222001 := n0_
                have HO_228001 := n1_
                have HO234 := n2_
                have BK221 := n3_
                have BK227 := n4_
                have HB := n5_
                clear n0_ n1_ n2_ n3_ n4_ n5_
                (try clear hb)
                (try clear hb2)
                (try clear hk)
                (try clear hi)
                (try clear ho0)
                obtain ⟨Ao54, co54, eo54⟩ := Kd.R_slice HO234.out
                (first | subst eo54 | (injection eo54 with f1_ f2_ f3_; have f4_ := f1_.symm; have f5_ := f3_.symm; clear f1_ f2_ f3_; subst f4_; subst f5_))
                refine hK.out _ _ ⟨(blk_cell BK221.out 0).trans rfl, (blk_cell BK221.out 1).trans rfl, ((HB.out.cell (World.block_lt_of_cell? w _ hw230_0)).trans hw230_0)⟩ (fun hHeld => ?_)
                clear hK K
                refine norm_ (a' := ?_) ?_ ?_
                rotate_left
                ·
                 show Act.put _ (some 51) _ = _
                 simp only [Act.put, sS, s0_, s1_, i64_w, i32_w]
                 rfl
                refine pure_ (i := 8) (N := some 43) (v := ?_) (a' := ?_) #[true,true,true,true,true,true,true,true,true,false,false,false,false] rfl rfl (any_of HT_.out (by kernel_rfl)) (fun _ _ _ h => h) (Or.inl ⟨by rfl, ?_⟩) ?_ ?_
                rotate_left
                · intro w'; go_simp; with_reducible rfl
                rotate_left
                · simp only [Act.put, sS, s0_, s1_, i64_w, i32_w]; rfl
                refine pure_ (i := 9) (N := some 52) (v := ?_) (a' := ?_) #[true,true,true,true,true,true,true,true,true,true,false,false,false] rfl rfl (any_of HT_.out (by kernel_rfl)) (fun _ _ _ h => h) (Or.inl ⟨by rfl, ?_⟩) ?_ ?_
                rotate_left
                · intro w'; go_simp; with_reducible rfl
                rotate_left
                · simp only [Act.put, sS, s0_, s1_, i64_w, i32_w]; rfl
                refine pure_ (i := 10) (N := some 53) (v := ?_) (a' := ?_) #[true,true,true,true,true,true,true,true,true,true,true,false,false] rfl rfl (any_of HT_.out (by kernel_rfl)) (fun _ _ _ h => h) (Or.inl ⟨by rfl, ?_⟩) ?_ ?_
                rotate_left
                · intro w'; go_simp; with_reducible rfl
                rotate_left
                · simp only [Act.put, sS, s0_, s1_, i64_w, i32_w]; rfl
                refine last_ (i := 11) (N := none) #[true,true,true,true,true,true,true,true,true,true,true,true,false] rfl rfl (one_of HT_.out (by kernel_rfl)) (by decide) (fun K hK => ?_)
                have hs53 : w52.cell? ⟨gb221, 0, none⟩ = some (.int .u64 x222000_2) := (blk_cell BK221.out 0).trans rfl
                have hfs53 := blk_frozen BK221.out 0
                have hns53_1 := NB227_221.out
                have hms53_1 := NB221_227.out
                have hs55 : w52.cell? ⟨gb221, 1, none⟩ = some (.slice Ao51 x222001_2.length co51) := (blk_cell BK221.out 1).trans rfl
                have hfs55 := blk_frozen BK221.out 1
                have hns55_1 := NB227_221.out
                have hms55_1 := NB221_227.out
                refine skip_ (w1 := ?_) (by rfl) rfl ?_ ?_
                rotate_left
                ·
                 go_simp
                 rfl
                refine hK.out _ _ ?_
                clear hK K
                refine pure_ (i := 12) (N := some 10) (v := ?_) (a' := ?_) #[true,true,true,true,true,true,true,true,true,true,true,true,true] rfl rfl (any_of HT_.out (by kernel_rfl)) (fun _ _ _ h => h) (Or.inl ⟨by rfl, ?_⟩) ?_ ?_
                rotate_left
                · intro w'; go_simp; with_reducible rfl
                rotate_left
                · simp only [Act.put, sS, s0_, s1_, i64_w, i32_w]; rfl
                refine done_ (done_of HT_.out (by kernel_rfl)) ?_
                try go_wp2
                have n0_ : Aside0 (Kd.R Kd.bool 4 ((w52.setCell ⟨gb221, 0, none⟩ (.int .u64 t231)).setCell ⟨gb221, 1, none⟩ (.slice Ao54 t232.length co54)) w.heap.size (fun k_ => some k_ ≠ (u228001 : Value).ownBlock ∧ some k_ ≠ (.slice Ao54 t232.length co54 : Value).ownBlock) (.slice Ao51 x222001_2.length co51) x222001_2) := ⟨by (with_reducible repeat (first | apply Kd.R_alloc | apply Kd.R_drewN | apply Kd.R_drew)); exact Kd.R_mono (Kd.R_far (p := ⟨gb221, 1, none⟩) (Kd.R_far (p := ⟨gb221, 0, none⟩) (Kd.R_types HO_222001.out BK221.out (by decide)) (fun _ hk => hk.2) (.int .u64 t231)) (fun _ hk => hk.2) (.slice Ao54 t232.length co54)) (fun _ hk => ⟨hk.1.1, hk.1.2⟩)⟩
                have n1_ : Aside0 (Kd.R Kd.bool 4 ((w52.setCell ⟨gb221, 0, none⟩ (.int .u64 t231)).setCell ⟨gb221, 1, none⟩ (.slice Ao54 t232.length co54)) w.heap.size (fun k_ => some k_ ≠ (.slice Ao51 x222001_2.length co51 : Value).ownBlock ∧ some k_ ≠ (.slice Ao54 t232.length co54 : Value).ownBlock) u228001 x228001_2) := ⟨by (with_reducible repeat (first | apply Kd.R_alloc | apply Kd.R_drewN | apply Kd.R_drew)); exact Kd.R_mono (Kd.R_far (p := ⟨gb221, 1, none⟩) (Kd.R_far (p := ⟨gb221, 0, none⟩) (Kd.R_types HO_228001.out BK221.out (by decide)) (fun _ hk => hk.2) (.int .u64 t231)) (fun _ hk => hk.2) (.slice Ao54 t232.length co54)) (fun _ hk => ⟨hk.1.1, hk.1.2⟩)⟩
                have n2_ : Aside0 (Kd.R Kd.bool 4 ((w52.setCell ⟨gb221, 0, none⟩ (.int .u64 t231)).setCell ⟨gb221, 1, none⟩ (.slice Ao54 t232.length co54)) w.heap.size (fun k_ => some k_ ≠ (.slice Ao51 x222001_2.length co51 : Value).ownBlock ∧ some k_ ≠ (u228001 : Value).ownBlock) (.slice Ao54 t232.length co54) t232) := ⟨by (with_reducible repeat (first | apply Kd.R_alloc | apply Kd.R_drewN | apply Kd.R_drew)); exact Kd.R_mono (Kd.R_far (p := ⟨gb221, 1, none⟩) (Kd.R_far (p := ⟨gb221, 0, none⟩) (Kd.R_types HO234.out BK221.out (by decide)) (fun _ hk => hk.2) (.int .u64 t231)) (fun _ hk => hk.2) (.slice Ao54 t232.length co54)) (fun _ hk => ⟨hk.1.1.2, hk.1.2⟩)⟩
                have n3_ : Aside0 (((w52.setCell ⟨gb221, 0, none⟩ (.int .u64 t231)).setCell ⟨gb221, 1, none⟩ (.slice Ao54 t232.length co54)).heap[gb221]? = some (.cells #[.int .u64 t231, .slice Ao54 t232.length co54] 26 (0, 0))) := ⟨by (with_reducible repeat (first | refine blk_drewN ?_ _ | refine blk_drew ?_ | refine blk_alloc ?_ _)); refine blk_put (cs := #[.int .u64 t231, .slice Ao51 x222001_2.length co51]) ?_ 1 _ rfl; (with_reducible repeat (first | refine blk_drewN ?_ _ | refine blk_drew ?_ | refine blk_alloc ?_ _)); refine blk_put (cs := #[.int .u64 x222000_2, .slice Ao51 x222001_2.length co51]) ?_ 0 _ rfl; (with_reducible repeat (first | refine blk_drewN ?_ _ | refine blk_drew ?_ | refine blk_alloc ?_ _)); exact BK221.out⟩
                have n4_ : Aside0 (((w52.setCell ⟨gb221, 0, none⟩ (.int .u64 t231)).setCell ⟨gb221, 1, none⟩ (.slice Ao54 t232.length co54)).heap[gb227]? = some (.cells #[.int .u64 x228000_2, u228001] 26 (0, 0))) := ⟨by (with_reducible repeat (first | refine blk_drewN ?_ _ | refine blk_drew ?_ | refine blk_alloc ?_ _)); refine blk_far ?_ NB227_221.out _; (with_reducible repeat (first | refine blk_drewN ?_ _ | refine blk_drew ?_ | refine blk_alloc ?_ _)); refine blk_far ?_ NB227_221.out _; (with_reducible repeat (first | refine blk_drewN ?_ _ | refine blk_drew ?_ | refine blk_alloc ?_ _)); exact BK227.out⟩
                have n5_ : Aside0 (Below w.heap.size w ((w52.setCell ⟨gb221, 0, none⟩ (.int .u64 t231)).setCell ⟨gb221, 1, none⟩ (.slice Ao54 t232.length co54))) := ⟨by repeat (first | (with_reducible first | exact HB.out | apply below_alloc | apply pw_below_drewN | apply below_drew1 | refine below_set ?_ GE221.out | refine below_set ?_ GE227.out) | exact HB.out)⟩
                (try clear HO_222001)
                (try clear HO_228001)
                (try clear HO234)
                (try clear BK221)
                (try clear BK227)
                (try clear HB)
                generalize ((w52.setCell ⟨gb221, 0, none⟩ (.int .u64 t231)).setCell ⟨gb221, 1, none⟩ (.slice Ao54 t232.length co54)) = w56 at n0_ n1_ n2_ n3_ n4_ n5_ ⊢
                have HO_222001 := n0_
                have HO_228001 := n1_
                have HO234 := n2_
                have BK221 := n3_
                have BK227 := n4_
                have HB := n5_
                clear n0_ n1_ n2_ n3_ n4_ n5_
                have n0_ := Aside0.mk (Kd.R_drew HO_222001.out)
                have n1_ := Aside0.mk (Kd.R_drew HO_228001.out)
                have n2_ := Aside0.mk (Kd.R_drew HO234.out)
                have n3_ := Aside0.mk (blk_drew BK221.out)
                have n4_ := Aside0.mk (blk_drew BK227.out)
                have n5_ := Aside0.mk (below_drew1 HB.out)
                clear HO_222001
                clear HO_228001
                clear HO234
                clear BK221
                clear BK227
                clear HB
                have HO_222001 := n0_
                have HO_228001 := n1_
                have HO234 := n2_
                have BK221 := n3_
                have BK227 := n4_
                have HB := n5_
                clear n0_ n1_ n2_ n3_ n4_ n5_
                have p236 : 0 ≤ ((ji31) : Int) := of_decide_eq_true (by first | (with_reducible assumption) | assumption)
                have q236 : (ji31) < ((l0.take ((ji5) : Int).toNat).length : Int) := of_decide_eq_true (by first | (with_reducible assumption) | assumption)
                obtain ⟨ad236, e236, hx236_0⟩ := Kd.at_int HR228.out (ji31) p236 q236
                have hw236_0 := hx236_0
                obtain rfl : ad230 = ad236 := (by injection e236)
                replace hx236_0 := (HB.out.cell (World.block_lt_of_cell? w _ hx236_0)).trans hx236_0
                replace p236 := eq_true p236
                replace q236 := eq_true q236
                obtain ⟨Ao58, co58, eo58⟩ := Kd.R_slice HO_228001.out
                (first | subst eo58 | (injection eo58 with f1_ f2_ f3_; have f4_ := f1_.symm; have f5_ := f3_.symm; clear f1_ f2_ f3_; subst f4_; subst f5_))
                refine start_ (n := 19) (S := fun w' => w'.cell? ⟨gb227, 0, none⟩ = some (.int .u64 x228000_2) ∧ w'.cell? ⟨gb227, 1, none⟩ = some (.slice Ao58 x228001_2.length co58) ∧ w'.cell? (ad230.add ((ji31)).toNat) = some (.int .u8 (rd (l0.take ((ji5) : Int).toNat) (ji31)))) (ds := [17]) #[false,false,false,false,false,false,false,false,false,false,false,false,false,false,false,false,false,false,false] (by kernel_rfl) rfl rfl ⟨(blk_cell BK227.out 0).trans rfl, (blk_cell BK227.out 1).trans rfl, ((HB.out.cell (World.block_lt_of_cell? w _ hw236_0)).trans hw236_0)⟩ (fun hHeld => ?_); refine with_tabW tillrolllaw09_BbtAny.tab11 tillrolllaw09_BbtAny.bits11 (fun HT_ HW_ => ?_)
                generalize w56.drew = w57 at HO_222001 HO_228001 HO234 BK221 BK227 HB hx236_0 hHeld ⊢
                refine pure_ (i := 1) (N := some 56) (v := ?_) (a' := ?_) #[false,true,false,false,false,false,false,false,false,false,false,false,false,false,false,false,false,false,false] rfl rfl (any_of HT_.out (by kernel_rfl)) (fun _ _ _ h => h) (Or.inl ⟨by rfl, ?_⟩) ?_ ?_
                rotate_left
                · intro w'; go_simp; with_reducible rfl
                rotate_left
                · simp only [Act.put, sS, s0_, s1_, i64_w, i32_w]; rfl
                refine pure_ (i := 2) (N := some 57) (v := ?_) (a' := ?_) #[false,true,true,false,false,false,false,false,false,false,false,false,false,false,false,false,false,false,false] rfl rfl (any_of HT_.out (by kernel_rfl)) (fun _ _ _ h => h) (Or.inl ⟨by rfl, ?_⟩) ?_ ?_
                rotate_left
                · intro w'; go_simp; with_reducible rfl
                rotate_left
                · simp only [Act.put, sS, s0_, s1_, i64_w, i32_w]; rfl
                refine pure_ (i := 3) (N := some 58) (v := ?_) (a' := ?_) #[false,true,true,true,false,false,false,false,false,false,false,false,false,false,false,false,false,false,false] rfl rfl (any_of HT_.out (by kernel_rfl)) (fun _ _ _ h => h) (Or.inl ⟨by rfl, ?_⟩) ?_ ?_
                rotate_left
                · intro w'; go_simp; with_reducible rfl
                rotate_left
                · simp only [Act.put, sS, s0_, s1_, i64_w, i32_w]; rfl
                refine pure_ (i := 4) (N := some 59) (v := ?_) (a' := ?_) #[false,true,true,true,true,false,false,false,false,false,false,false,false,false,false,false,false,false,false] rfl rfl (any_of HT_.out (by kernel_rfl)) (fun _ _ _ h => h) (Or.inl ⟨by rfl, ?_⟩) ?_ ?_
                rotate_left
                · intro w'; go_simp; with_reducible rfl
                rotate_left
                · simp only [Act.put, sS, s0_, s1_, i64_w, i32_w]; rfl
                refine pure_ (i := 5) (N := some 60) (v := ?_) (a' := ?_) #[false,true,true,true,true,true,false,false,false,false,false,false,false,false,false,false,false,false,false] rfl rfl (any_of HT_.out (by kernel_rfl)) (fun _ _ _ h => h) (Or.inl ⟨by rfl, ?_⟩) ?_ ?_
                rotate_left
                · intro w'; go_simp; with_reducible rfl
                rotate_left
                · simp only [Act.put, sS, s0_, s1_, i64_w, i32_w]; rfl
                refine pure_ (i := 6) (N := some 61) (v := ?_) (a' := ?_) #[false,true,true,true,true,true,true,false,false,false,false,false,false,false,false,false,false,false,false] rfl rfl (any_of HT_.out (by kernel_rfl)) (fun _ _ _ h => h) (Or.inl ⟨by rfl, ?_⟩) ?_ ?_
                rotate_left
                · intro w'; go_simp; with_reducible rfl
                rotate_left
                · simp only [Act.put, sS, s0_, s1_, i64_w, i32_w]; rfl
                refine pure_ (i := 7) (N := some 62) (v := ?_) (a' := ?_) #[false,true,true,true,true,true,true,true,false,false,false,false,false,false,false,false,false,false,false] rfl rfl (any_of HT_.out (by kernel_rfl)) (fun _ _ _ h => h) (Or.inl ⟨by rfl, ?_⟩) ?_ ?_
                rotate_left
                · intro w'; go_simp; with_reducible rfl
                rotate_left
                · simp only [Act.put, sS, s0_, s1_, i64_w, i32_w]; rfl
                refine pure_ (i := 8) (N := some 63) (v := ?_) (a' := ?_) #[false,true,true,true,true,true,true,true,true,false,false,false,false,false,false,false,false,false,false] rfl rfl (any_of HT_.out (by kernel_rfl)) (fun _ _ _ h => h) (Or.inl ⟨by rfl, ?_⟩) ?_ ?_
                rotate_left
                · intro w'; go_simp; with_reducible rfl
                rotate_left
                · simp only [Act.put, sS, s0_, s1_, i64_w, i32_w]; rfl
                refine pure_ (i := 9) (N := some 64) (v := ?_) (a' := ?_) #[false,true,true,true,true,true,true,true,true,true,false,false,false,false,false,false,false,false,false] rfl rfl (any_of HT_.out (by kernel_rfl)) (fun _ _ _ h => h) (Or.inl ⟨by rfl, ?_⟩) ?_ ?_
                rotate_left
                · intro w'; go_simp; with_reducible rfl
                rotate_left
                · simp only [Act.put, sS, s0_, s1_, i64_w, i32_w]; rfl
                refine take_ (i := 0) (N := some 55) (v := ?_) (a' := ?_) #[true,true,true,true,true,true,true,true,true,true,false,false,false,false,false,false,false,false,false] rfl rfl (take_ofW HT_.out HW_.out (by kernel_rfl)) (fun _ _ _ h => h) (Or.inl ⟨by rfl, ?_⟩) hHeld ?_ ?_
                rotate_left
                ·
                 rintro w' ⟨s0, s1, s2⟩
                 go_simp
                 with_reducible rfl
                rotate_left
                · simp only [Act.put, sS, s0_, s1_, i64_w, i32_w]; rfl
                refine take_ (i := 10) (N := some 65) (v := ?_) (a' := ?_) #[true,true,true,true,true,true,true,true,true,true,true,false,false,false,false,false,false,false,false] rfl rfl (take_ofW HT_.out HW_.out (by kernel_rfl)) (fun _ _ _ h => h) (Or.inl ⟨by rfl, ?_⟩) hHeld ?_ ?_
                rotate_left
                ·
                 rintro w' ⟨s0, s1, s2⟩
                 go_simp
                 with_reducible rfl
                rotate_left
                · simp only [Act.put, sS, s0_, s1_, i64_w, i32_w]; rfl
                refine pure_ (i := 11) (N := some 66) (v := ?_) (a' := ?_) #[true,true,true,true,true,true,true,true,true,true,true,true,false,false,false,false,false,false,false] rfl rfl (any_of HT_.out (by kernel_rfl)) (fun _ _ _ h => h) (Or.inl ⟨by rfl, ?_⟩) ?_ ?_
                rotate_left
                · intro w'; go_simp; with_reducible rfl
                rotate_left
                · simp only [Act.put, sS, s0_, s1_, i64_w, i32_w]; rfl
                refine pure_ (i := 12) (N := some 67) (v := ?_) (a' := ?_) #[true,true,true,true,true,true,true,true,true,true,true,true,true,false,false,false,false,false,false] rfl rfl (any_of HT_.out (by kernel_rfl)) (fun _ _ _ h => h) (Or.inl ⟨by rfl, ?_⟩) ?_ ?_
                rotate_left
                · intro w'; go_simp; with_reducible rfl
                rotate_left
                · simp only [Act.put, sS, s0_, s1_, i64_w, i32_w]; rfl
                refine one_ (i := 13) (N := some 68) #[true,true,true,true,true,true,true,true,true,true,true,true,true,true,false,false,false,false,false] rfl rfl (one_of HT_.out (by kernel_rfl)) (by decide) (fun K hK => ?_)
                refine goes_ Try.func8 (by kernel_rfl) rfl #[.agg #[.int .u64 x228000_2, .slice Ao58 x228001_2.length co58], .int .i64 (Int.tmod (wrap64 (rd (l0.take ((ji5) : Int).toNat) (ji31))) 40)] (by rfl) rfl rfl (by (try simp only [List.map_toArray, List.map_cons, List.map_nil]); first | done | (simp only [hji31, hji5]; rfl) | rfl | (simp only [List.length_drop, List.length_take]; rfl) | (simp only [ByteArray.size_append]; rfl) | (simp only [ByteArray.size_extract]; rfl)) ?_
                with_reducible refine (bbt_Table_With.calls x228000_2 _ _ x228001_2 (Int.tmod (wrap64 (rd (l0.take ((ji5) : Int).toNat) (ji31))) 40) t237 t238 t241 _ ?side1 ?side2 A34.out).mono ?_
                (case side1 => repeat (first | exact (Kd.R_reads' HO_228001.out).2.2 | (with_reducible refine Kd.C_alloc ?_ _) | (with_reducible refine Kd.C_drewN ?_ _) | (with_reducible refine Kd.C_drew ?_)))
                (case side2 => exact (Kd.R_reads' HO_228001.out).2.1)
                rintro e w59 ⟨v239, rfl, ho0, hb⟩
                refine ⟨_, rfl, ?_⟩
                have n0_ := Aside0.mk (Kd.R_elder' (by (with_reducible repeat (first | apply Kd.R_alloc | apply Kd.R_drewN | apply Kd.R_drew)); exact HO_222001.out) (Kd.R_base ho0) hb)
                have n1_ := Aside0.mk (Kd.R_elder' (by (with_reducible repeat (first | apply Kd.R_alloc | apply Kd.R_drewN | apply Kd.R_drew)); exact HO_228001.out) (Kd.R_base ho0) hb)
                have n2_ := Aside0.mk (Kd.R_elder' (by (with_reducible repeat (first | apply Kd.R_alloc | apply Kd.R_drewN | apply Kd.R_drew)); exact HO234.out) (Kd.R_base ho0) hb)
                have n3_ := Aside0.mk (Kd.R_lower (Kd.R_new' (Kd.R_new' (Kd.R_new' ho0 (Kd.R_lt (by (with_reducible repeat (first | apply Kd.R_alloc | apply Kd.R_drewN | apply Kd.R_drew)); exact HO_222001.out))) (Kd.R_lt (by (with_reducible repeat (first | apply Kd.R_alloc | apply Kd.R_drewN | apply Kd.R_drew)); exact HO_228001.out))) (Kd.R_lt (by (with_reducible repeat (first | apply Kd.R_alloc | apply Kd.R_drewN | apply Kd.R_drew)); exact HO234.out))) (below_size (by repeat (first | (with_reducible first | exact HB.out | apply below_alloc | apply pw_below_drewN | apply below_drew1 | refine below_set ?_ GE221.out | refine below_set ?_ GE227.out) | exact HB.out))))
                have n4_ := Aside0.mk (blk_below (g := gb221) (o := .cells #[.int .u64 t231, .slice Ao54 t232.length co54] 26 (0, 0)) (by (with_reducible repeat (first | refine blk_drewN ?_ _ | refine blk_drew ?_ | refine blk_alloc ?_ _)); exact BK221.out) hb)
                have n5_ := Aside0.mk (blk_below (g := gb227) (o := .cells #[.int .u64 x228000_2, .slice Ao58 x228001_2.length co58] 26 (0, 0)) (by (with_reducible repeat (first | refine blk_drewN ?_ _ | refine blk_drew ?_ | refine blk_alloc ?_ _)); exact BK227.out) hb)
                have n6_ := Aside0.mk (below_step (by repeat (first | (with_reducible first | exact HB.out | apply below_alloc | apply pw_below_drewN | apply below_drew1 | refine below_set ?_ GE221.out | refine below_set ?_ GE227.out) | exact HB.out)) hb)
                clear HO_222001
                clear HO_228001
                clear HO234
                clear BK221
                clear BK227
                clear HB
                have HO_222001 := n0_
                have HO_228001 := n1_
                have HO234 := n2_
                have HO240 := n3_
                have BK221 := n4_
                have BK227 := n5_
                have HB := n6_
                clear n0_ n1_ n2_ n3_ n4_ n5_ n6_
                (try clear hb)
                (try clear hb2)
                (try clear hk)
                (try clear hi)
                (try clear ho0)
                obtain ⟨Ao61, co61, eo61⟩ := Kd.R_slice HO240.out
                (first | subst eo61 | (injection eo61 with f1_ f2_ f3_; have f4_ := f1_.symm; have f5_ := f3_.symm; clear f1_ f2_ f3_; subst f4_; subst f5_))
                refine hK.out _ _ ⟨(blk_cell BK227.out 0).trans rfl, (blk_cell BK227.out 1).trans rfl, ((HB.out.cell (World.block_lt_of_cell? w _ hw236_0)).trans hw236_0)⟩ (fun hHeld => ?_)
                clear hK K
                refine norm_ (a' := ?_) ?_ ?_
                rotate_left
                ·
                 show Act.put _ (some 68) _ = _
                 simp only [Act.put, sS, s0_, s1_, i64_w, i32_w]
                 rfl
                refine pure_ (i := 14) (N := some 54) (v := ?_) (a' := ?_) #[true,true,true,true,true,true,true,true,true,true,true,true,true,true,true,false,false,false,false] rfl rfl (any_of HT_.out (by kernel_rfl)) (fun _ _ _ h => h) (Or.inl ⟨by rfl, ?_⟩) ?_ ?_
                rotate_left
                · intro w'; go_simp; with_reducible rfl
                rotate_left
                · simp only [Act.put, sS, s0_, s1_, i64_w, i32_w]; rfl
                refine pure_ (i := 15) (N := some 69) (v := ?_) (a' := ?_) #[true,true,true,true,true,true,true,true,true,true,true,true,true,true,true,true,false,false,false] rfl rfl (any_of HT_.out (by kernel_rfl)) (fun _ _ _ h => h) (Or.inl ⟨by rfl, ?_⟩) ?_ ?_
                rotate_left
                · intro w'; go_simp; with_reducible rfl
                rotate_left
                · simp only [Act.put, sS, s0_, s1_, i64_w, i32_w]; rfl
                refine pure_ (i := 16) (N := some 70) (v := ?_) (a' := ?_) #[true,true,true,true,true,true,true,true,true,true,true,true,true,true,true,true,true,false,false] rfl rfl (any_of HT_.out (by kernel_rfl)) (fun _ _ _ h => h) (Or.inl ⟨by rfl, ?_⟩) ?_ ?_
                rotate_left
                · intro w'; go_simp; with_reducible rfl
                rotate_left
                · simp only [Act.put, sS, s0_, s1_, i64_w, i32_w]; rfl
                refine last_ (i := 17) (N := none) #[true,true,true,true,true,true,true,true,true,true,true,true,true,true,true,true,true,true,false] rfl rfl (one_of HT_.out (by kernel_rfl)) (by decide) (fun K hK => ?_)
                have hs60 : w59.cell? ⟨gb227, 0, none⟩ = some (.int .u64 x228000_2) := (blk_cell BK227.out 0).trans rfl
                have hfs60 := blk_frozen BK227.out 0
                have hns60_0 := NB221_227.out
                have hms60_0 := NB227_221.out
                have hs62 : w59.cell? ⟨gb227, 1, none⟩ = some (.slice Ao58 x228001_2.length co58) := (blk_cell BK227.out 1).trans rfl
                have hfs62 := blk_frozen BK227.out 1
                have hns62_0 := NB221_227.out
                have hms62_0 := NB227_221.out
                refine skip_ (w1 := ?_) (by rfl) rfl ?_ ?_
                rotate_left
                ·
                 go_simp
                 rfl
                refine hK.out _ _ ?_
                clear hK K
                refine pure_ (i := 18) (N := some 11) (v := ?_) (a' := ?_) #[true,true,true,true,true,true,true,true,true,true,true,true,true,true,true,true,true,true,true] rfl rfl (any_of HT_.out (by kernel_rfl)) (fun _ _ _ h => h) (Or.inl ⟨by rfl, ?_⟩) ?_ ?_
                rotate_left
                · intro w'; go_simp; with_reducible rfl
                rotate_left
                · simp only [Act.put, sS, s0_, s1_, i64_w, i32_w]; rfl
                refine done_ (done_of HT_.out (by kernel_rfl)) ?_
                try go_wp2
                go_ret
                exact ⟨by first | rfl | (simp [errW_none, errW_some] <;> rfl) | (simp only [← hji5, ← hji31]; first | rfl | (simp [errW_none, errW_some] <;> rfl)) | (simp [*, errW_none, errW_some] <;> rfl), by repeat (first | (with_reducible first | exact HB.out | apply below_alloc | apply pw_below_drewN | apply below_drew1 | refine below_set ?_ GE221.out | refine below_set ?_ GE227.out) | exact HB.out)⟩
              ·
               rw [if_neg c35] at H
               have c35b0 : (t235 == 0) = false := beq_eq_false_iff_ne.mpr c35
               have c35b1 : (t235 != 0) = true := bne_iff_ne.mpr c35
               obtain rfl := Option.some.inj H
               try go_wp2
               have n0_ := Aside0.mk (Kd.R_drew HO_222001.out)
               have n1_ := Aside0.mk (Kd.R_drew HO_228001.out)
               have n2_ := Aside0.mk (blk_drew BK221.out)
               have n3_ := Aside0.mk (blk_drew BK227.out)
               have n4_ := Aside0.mk (below_drew1 HB.out)
               clear HO_222001
               clear HO_228001
               clear BK221
               clear BK227
               clear HB
               have HO_222001 := n0_
               have HO_228001 := n1_
               have BK221 := n2_
               have BK227 := n3_
               have HB := n4_
               clear n0_ n1_ n2_ n3_ n4_
               have p230 : 0 ≤ (x40_2 : Int) := of_decide_eq_true (by first | (with_reducible assumption) | assumption)
               have q230 : x40_2 < ((l0.take ((ji5) : Int).toNat).length : Int) := of_decide_eq_true (by first | (with_reducible assumption) | assumption)
               obtain ⟨ad230, e230, hx230_0⟩ := Kd.at_int HR228.out x40_2 p230 q230
               have hw230_0 := hx230_0
               cases e230
               replace hx230_0 := (HB.out.cell (World.block_lt_of_cell? w _ hx230_0)).trans hx230_0
               replace p230 := eq_true p230
               replace q230 := eq_true q230
               obtain ⟨Ao64, co64, eo64⟩ := Kd.R_slice HO_222001.out
               (first | subst eo64 | (injection eo64 with f1_ f2_ f3_; have f4_ := f1_.symm; have f5_ := f3_.symm; clear f1_ f2_ f3_; subst f4_; subst f5_))
               refine start_ (n := 13) (S := fun w' => w'.cell? ⟨gb221, 0, none⟩ = some (.int .u64 x222000_2) ∧ w'.cell? ⟨gb221, 1, none⟩ = some (.slice Ao64 x222001_2.length co64) ∧ w'.cell? (ad230.add (x40_2).toNat) = some (.int .u8 (rd (l0.take ((ji5) : Int).toNat) x40_2))) (ds := [11]) #[false,false,false,false,false,false,false,false,false,false,false,false,false] (by kernel_rfl) rfl rfl ⟨(blk_cell BK221.out 0).trans rfl, (blk_cell BK221.out 1).trans rfl, ((HB.out.cell (World.block_lt_of_cell? w _ hw230_0)).trans hw230_0)⟩ (fun hHeld => ?_); refine with_tabW tillrolllaw09_BbtAny.tab10 tillrolllaw09_BbtAny.bits10 (fun HT_ HW_ => ?_)
               generalize wr.drew = w63 at HO_222001 HO_228001 BK221 BK227 HB hx230_0 hHeld ⊢
               refine pure_ (i := 1) (N := some 45) (v := ?_) (a' := ?_) #[false,true,false,false,false,false,false,false,false,false,false,false,false] rfl rfl (any_of HT_.out (by kernel_rfl)) (fun _ _ _ h => h) (Or.inl ⟨by rfl, ?_⟩) ?_ ?_
               rotate_left
               · intro w'; go_simp; with_reducible rfl
               rotate_left
               · simp only [Act.put, sS, s0_, s1_, i64_w, i32_w]; rfl
               refine pure_ (i := 2) (N := some 46) (v := ?_) (a' := ?_) #[false,true,true,false,false,false,false,false,false,false,false,false,false] rfl rfl (any_of HT_.out (by kernel_rfl)) (fun _ _ _ h => h) (Or.inl ⟨by rfl, ?_⟩) ?_ ?_
               rotate_left
               · intro w'; go_simp; with_reducible rfl
               rotate_left
               · simp only [Act.put, sS, s0_, s1_, i64_w, i32_w]; rfl
               refine pure_ (i := 3) (N := some 47) (v := ?_) (a' := ?_) #[false,true,true,true,false,false,false,false,false,false,false,false,false] rfl rfl (any_of HT_.out (by kernel_rfl)) (fun _ _ _ h => h) (Or.inl ⟨by rfl, ?_⟩) ?_ ?_
               rotate_left
               · intro w'; go_simp; with_reducible rfl
               rotate_left
               · simp only [Act.put, sS, s0_, s1_, i64_w, i32_w]; rfl
               refine take_ (i := 0) (N := some 44) (v := ?_) (a' := ?_) #[true,true,true,true,false,false,false,false,false,false,false,false,false] rfl rfl (take_ofW HT_.out HW_.out (by kernel_rfl)) (fun _ _ _ h => h) (Or.inl ⟨by rfl, ?_⟩) hHeld ?_ ?_
               rotate_left
               ·
                rintro w' ⟨s0, s1, s2⟩
                go_simp
                with_reducible rfl
               rotate_left
               · simp only [Act.put, sS, s0_, s1_, i64_w, i32_w]; rfl
               refine take_ (i := 4) (N := some 48) (v := ?_) (a' := ?_) #[true,true,true,true,true,false,false,false,false,false,false,false,false] rfl rfl (take_ofW HT_.out HW_.out (by kernel_rfl)) (fun _ _ _ h => h) (Or.inl ⟨by rfl, ?_⟩) hHeld ?_ ?_
               rotate_left
               ·
                rintro w' ⟨s0, s1, s2⟩
                go_simp
                with_reducible rfl
               rotate_left
               · simp only [Act.put, sS, s0_, s1_, i64_w, i32_w]; rfl
               refine pure_ (i := 5) (N := some 49) (v := ?_) (a' := ?_) #[true,true,true,true,true,true,false,false,false,false,false,false,false] rfl rfl (any_of HT_.out (by kernel_rfl)) (fun _ _ _ h => h) (Or.inl ⟨by rfl, ?_⟩) ?_ ?_
               rotate_left
               · intro w'; go_simp; with_reducible rfl
               rotate_left
               · simp only [Act.put, sS, s0_, s1_, i64_w, i32_w]; rfl
               refine pure_ (i := 6) (N := some 50) (v := ?_) (a' := ?_) #[true,true,true,true,true,true,true,false,false,false,false,false,false] rfl rfl (any_of HT_.out (by kernel_rfl)) (fun _ _ _ h => h) (Or.inl ⟨by rfl, ?_⟩) ?_ ?_
               rotate_left
               · intro w'; go_simp; with_reducible rfl
               rotate_left
               · simp only [Act.put, sS, s0_, s1_, i64_w, i32_w]; rfl
               refine one_ (i := 7) (N := some 51) #[true,true,true,true,true,true,true,true,false,false,false,false,false] rfl rfl (one_of HT_.out (by kernel_rfl)) (by decide) (fun K hK => ?_)
               refine goes_ Try.func8 (by kernel_rfl) rfl #[.agg #[.int .u64 x222000_2, .slice Ao64 x222001_2.length co64], .int .i64 (Int.tmod (wrap64 (rd (l0.take ((ji5) : Int).toNat) x40_2)) 40)] (by rfl) rfl rfl (by (try simp only [List.map_toArray, List.map_cons, List.map_nil]); first | done | (simp only [hji5]; rfl) | rfl | (simp only [List.length_drop, List.length_take]; rfl) | (simp only [ByteArray.size_append]; rfl) | (simp only [ByteArray.size_extract]; rfl)) ?_
               with_reducible refine (bbt_Table_With.calls x222000_2 _ _ x222001_2 (Int.tmod (wrap64 (rd (l0.take ((ji5) : Int).toNat) x40_2)) 40) t231 t232 t235 _ ?side1 ?side2 A29.out).mono ?_
               (case side1 => repeat (first | exact (Kd.R_reads' HO_222001.out).2.2 | (with_reducible refine Kd.C_alloc ?_ _) | (with_reducible refine Kd.C_drewN ?_ _) | (with_reducible refine Kd.C_drew ?_)))
               (case side2 => exact (Kd.R_reads' HO_222001.out).2.1)
               rintro e w65 ⟨v233, rfl, ho0, hb⟩
               refine ⟨_, rfl, ?_⟩
               have n0_ := Aside0.mk (Kd.R_elder' (by (with_reducible repeat (first | apply Kd.R_alloc | apply Kd.R_drewN | apply Kd.R_drew)); exact HO_222001.out) (Kd.R_base ho0) hb)
               have n1_ := Aside0.mk (Kd.R_elder' (by (with_reducible repeat (first | apply Kd.R_alloc | apply Kd.R_drewN | apply Kd.R_drew)); exact HO_228001.out) (Kd.R_base ho0) hb)
               have n2_ := Aside0.mk (Kd.R_lower (Kd.R_new' (Kd.R_new' ho0 (Kd.R_lt (by (with_reducible repeat (first | apply Kd.R_alloc | apply Kd.R_drewN | apply Kd.R_drew)); exact HO_222001.out))) (Kd.R_lt (by (with_reducible repeat (first | apply Kd.R_alloc | apply Kd.R_drewN | apply Kd.R_drew)); exact HO_228001.out))) (below_size (by repeat (first | (with_reducible first | exact HB.out | apply below_alloc | apply pw_below_drewN | apply below_drew1 | refine below_set ?_ GE221.out | refine below_set ?_ GE227.out) | exact HB.out))))
               have n3_ := Aside0.mk (blk_below (g := gb221) (o := .cells #[.int .u64 x222000_2, .slice Ao64 x222001_2.length co64] 26 (0, 0)) (by (with_reducible repeat (first | refine blk_drewN ?_ _ | refine blk_drew ?_ | refine blk_alloc ?_ _)); exact BK221.out) hb)
               have n4_ := Aside0.mk (blk_below (g := gb227) (o := .cells #[.int .u64 x228000_2, u228001] 26 (0, 0)) (by (with_reducible repeat (first | refine blk_drewN ?_ _ | refine blk_drew ?_ | refine blk_alloc ?_ _)); exact BK227.out) hb)
               have n5_ := Aside0.mk (below_step (by repeat (first | (with_reducible first | exact HB.out | apply below_alloc | apply pw_below_drewN | apply below_drew1 | refine below_set ?_ GE221.out | refine below_set ?_ GE227.out) | exact HB.out)) hb)
               clear HO_222001
               clear HO_228001
               clear BK221
               clear BK227
               clear HB
               have HO_222001 := n0_
               have HO_228001 := n1_
               have HO234 := n2_
               have BK221 := n3_
               have BK227 := n4_
               have HB := n5_
               clear n0_ n1_ n2_ n3_ n4_ n5_
               (try clear hb)
               (try clear hb2)
               (try clear hk)
               (try clear hi)
               (try clear ho0)
               obtain ⟨Ao67, co67, eo67⟩ := Kd.R_slice HO234.out
               (first | subst eo67 | (injection eo67 with f1_ f2_ f3_; have f4_ := f1_.symm; have f5_ := f3_.symm; clear f1_ f2_ f3_; subst f4_; subst f5_))
               refine hK.out _ _ ⟨(blk_cell BK221.out 0).trans rfl, (blk_cell BK221.out 1).trans rfl, ((HB.out.cell (World.block_lt_of_cell? w _ hw230_0)).trans hw230_0)⟩ (fun hHeld => ?_)
               clear hK K
               refine norm_ (a' := ?_) ?_ ?_
               rotate_left
               ·
                show Act.put _ (some 51) _ = _
                simp only [Act.put, sS, s0_, s1_, i64_w, i32_w]
                rfl
               refine pure_ (i := 8) (N := some 43) (v := ?_) (a' := ?_) #[true,true,true,true,true,true,true,true,true,false,false,false,false] rfl rfl (any_of HT_.out (by kernel_rfl)) (fun _ _ _ h => h) (Or.inl ⟨by rfl, ?_⟩) ?_ ?_
               rotate_left
               · intro w'; go_simp; with_reducible rfl
               rotate_left
               · simp only [Act.put, sS, s0_, s1_, i64_w, i32_w]; rfl
               refine pure_ (i := 9) (N := some 52) (v := ?_) (a' := ?_) #[true,true,true,true,true,true,true,true,true,true,false,false,false] rfl rfl (any_of HT_.out (by kernel_rfl)) (fun _ _ _ h => h) (Or.inl ⟨by rfl, ?_⟩) ?_ ?_
               rotate_left
               · intro w'; go_simp; with_reducible rfl
               rotate_left
               · simp only [Act.put, sS, s0_, s1_, i64_w, i32_w]; rfl
               refine pure_ (i := 10) (N := some 53) (v := ?_) (a' := ?_) #[true,true,true,true,true,true,true,true,true,true,true,false,false] rfl rfl (any_of HT_.out (by kernel_rfl)) (fun _ _ _ h => h) (Or.inl ⟨by rfl, ?_⟩) ?_ ?_
               rotate_left
               · intro w'; go_simp; with_reducible rfl
               rotate_left
               · simp only [Act.put, sS, s0_, s1_, i64_w, i32_w]; rfl
               refine last_ (i := 11) (N := none) #[true,true,true,true,true,true,true,true,true,true,true,true,false] rfl rfl (one_of HT_.out (by kernel_rfl)) (by decide) (fun K hK => ?_)
               have hs66 : w65.cell? ⟨gb221, 0, none⟩ = some (.int .u64 x222000_2) := (blk_cell BK221.out 0).trans rfl
               have hfs66 := blk_frozen BK221.out 0
               have hns66_1 := NB227_221.out
               have hms66_1 := NB221_227.out
               have hs68 : w65.cell? ⟨gb221, 1, none⟩ = some (.slice Ao64 x222001_2.length co64) := (blk_cell BK221.out 1).trans rfl
               have hfs68 := blk_frozen BK221.out 1
               have hns68_1 := NB227_221.out
               have hms68_1 := NB221_227.out
               refine skip_ (w1 := ?_) (by rfl) rfl ?_ ?_
               rotate_left
               ·
                go_simp
                rfl
               refine hK.out _ _ ?_
               clear hK K
               refine pure_ (i := 12) (N := some 10) (v := ?_) (a' := ?_) #[true,true,true,true,true,true,true,true,true,true,true,true,true] rfl rfl (any_of HT_.out (by kernel_rfl)) (fun _ _ _ h => h) (Or.inl ⟨by rfl, ?_⟩) ?_ ?_
               rotate_left
               · intro w'; go_simp; with_reducible rfl
               rotate_left
               · simp only [Act.put, sS, s0_, s1_, i64_w, i32_w]; rfl
               refine done_ (done_of HT_.out (by kernel_rfl)) ?_
               try go_wp2
               have n0_ : Aside0 (Kd.R Kd.bool 4 ((w65.setCell ⟨gb221, 0, none⟩ (.int .u64 t231)).setCell ⟨gb221, 1, none⟩ (.slice Ao67 t232.length co67)) w.heap.size (fun k_ => some k_ ≠ (u228001 : Value).ownBlock ∧ some k_ ≠ (.slice Ao67 t232.length co67 : Value).ownBlock) (.slice Ao64 x222001_2.length co64) x222001_2) := ⟨by (with_reducible repeat (first | apply Kd.R_alloc | apply Kd.R_drewN | apply Kd.R_drew)); exact Kd.R_mono (Kd.R_far (p := ⟨gb221, 1, none⟩) (Kd.R_far (p := ⟨gb221, 0, none⟩) (Kd.R_types HO_222001.out BK221.out (by decide)) (fun _ hk => hk.2) (.int .u64 t231)) (fun _ hk => hk.2) (.slice Ao67 t232.length co67)) (fun _ hk => ⟨hk.1.1, hk.1.2⟩)⟩
               have n1_ : Aside0 (Kd.R Kd.bool 4 ((w65.setCell ⟨gb221, 0, none⟩ (.int .u64 t231)).setCell ⟨gb221, 1, none⟩ (.slice Ao67 t232.length co67)) w.heap.size (fun k_ => some k_ ≠ (.slice Ao64 x222001_2.length co64 : Value).ownBlock ∧ some k_ ≠ (.slice Ao67 t232.length co67 : Value).ownBlock) u228001 x228001_2) := ⟨by (with_reducible repeat (first | apply Kd.R_alloc | apply Kd.R_drewN | apply Kd.R_drew)); exact Kd.R_mono (Kd.R_far (p := ⟨gb221, 1, none⟩) (Kd.R_far (p := ⟨gb221, 0, none⟩) (Kd.R_types HO_228001.out BK221.out (by decide)) (fun _ hk => hk.2) (.int .u64 t231)) (fun _ hk => hk.2) (.slice Ao67 t232.length co67)) (fun _ hk => ⟨hk.1.1, hk.1.2⟩)⟩
               have n2_ : Aside0 (Kd.R Kd.bool 4 ((w65.setCell ⟨gb221, 0, none⟩ (.int .u64 t231)).setCell ⟨gb221, 1, none⟩ (.slice Ao67 t232.length co67)) w.heap.size (fun k_ => some k_ ≠ (.slice Ao64 x222001_2.length co64 : Value).ownBlock ∧ some k_ ≠ (u228001 : Value).ownBlock) (.slice Ao67 t232.length co67) t232) := ⟨by (with_reducible repeat (first | apply Kd.R_alloc | apply Kd.R_drewN | apply Kd.R_drew)); exact Kd.R_mono (Kd.R_far (p := ⟨gb221, 1, none⟩) (Kd.R_far (p := ⟨gb221, 0, none⟩) (Kd.R_types HO234.out BK221.out (by decide)) (fun _ hk => hk.2) (.int .u64 t231)) (fun _ hk => hk.2) (.slice Ao67 t232.length co67)) (fun _ hk => ⟨hk.1.1.2, hk.1.2⟩)⟩
               have n3_ : Aside0 (((w65.setCell ⟨gb221, 0, none⟩ (.int .u64 t231)).setCell ⟨gb221, 1, none⟩ (.slice Ao67 t232.length co67)).heap[gb221]? = some (.cells #[.int .u64 t231, .slice Ao67 t232.length co67] 26 (0, 0))) := ⟨by (with_reducible repeat (first | refine blk_drewN ?_ _ | refine blk_drew ?_ | refine blk_alloc ?_ _)); refine blk_put (cs := #[.int .u64 t231, .slice Ao64 x222001_2.length co64]) ?_ 1 _ rfl; (with_reducible repeat (first | refine blk_drewN ?_ _ | refine blk_drew ?_ | refine blk_alloc ?_ _)); refine blk_put (cs := #[.int .u64 x222000_2, .slice Ao64 x222001_2.length co64]) ?_ 0 _ rfl; (with_reducible repeat (first | refine blk_drewN ?_ _ | refine blk_drew ?_ | refine blk_alloc ?_ _)); exact BK221.out⟩
               have n4_ : Aside0 (((w65.setCell ⟨gb221, 0, none⟩ (.int .u64 t231)).setCell ⟨gb221, 1, none⟩ (.slice Ao67 t232.length co67)).heap[gb227]? = some (.cells #[.int .u64 x228000_2, u228001] 26 (0, 0))) := ⟨by (with_reducible repeat (first | refine blk_drewN ?_ _ | refine blk_drew ?_ | refine blk_alloc ?_ _)); refine blk_far ?_ NB227_221.out _; (with_reducible repeat (first | refine blk_drewN ?_ _ | refine blk_drew ?_ | refine blk_alloc ?_ _)); refine blk_far ?_ NB227_221.out _; (with_reducible repeat (first | refine blk_drewN ?_ _ | refine blk_drew ?_ | refine blk_alloc ?_ _)); exact BK227.out⟩
               have n5_ : Aside0 (Below w.heap.size w ((w65.setCell ⟨gb221, 0, none⟩ (.int .u64 t231)).setCell ⟨gb221, 1, none⟩ (.slice Ao67 t232.length co67))) := ⟨by repeat (first | (with_reducible first | exact HB.out | apply below_alloc | apply pw_below_drewN | apply below_drew1 | refine below_set ?_ GE221.out | refine below_set ?_ GE227.out) | exact HB.out)⟩
               (try clear HO_222001)
               (try clear HO_228001)
               (try clear HO234)
               (try clear BK221)
               (try clear BK227)
               (try clear HB)
               generalize ((w65.setCell ⟨gb221, 0, none⟩ (.int .u64 t231)).setCell ⟨gb221, 1, none⟩ (.slice Ao67 t232.length co67)) = w69 at n0_ n1_ n2_ n3_ n4_ n5_ ⊢
               have HO_222001 := n0_
               have HO_228001 := n1_
               have HO234 := n2_
               have BK221 := n3_
               have BK227 := n4_
               have HB := n5_
               clear n0_ n1_ n2_ n3_ n4_ n5_
               have n0_ := Aside0.mk (Kd.R_drew HO_222001.out)
               have n1_ := Aside0.mk (Kd.R_drew HO_228001.out)
               have n2_ := Aside0.mk (Kd.R_drew HO234.out)
               have n3_ := Aside0.mk (blk_drew BK221.out)
               have n4_ := Aside0.mk (blk_drew BK227.out)
               have n5_ := Aside0.mk (below_drew1 HB.out)
               clear HO_222001
               clear HO_228001
               clear HO234
               clear BK221
               clear BK227
               clear HB
               have HO_222001 := n0_
               have HO_228001 := n1_
               have HO234 := n2_
               have BK221 := n3_
               have BK227 := n4_
               have HB := n5_
               clear n0_ n1_ n2_ n3_ n4_ n5_
               have p236 : 0 ≤ ((ji31) : Int) := of_decide_eq_true (by first | (with_reducible assumption) | assumption)
               have q236 : (ji31) < ((l0.take ((ji5) : Int).toNat).length : Int) := of_decide_eq_true (by first | (with_reducible assumption) | assumption)
               obtain ⟨ad236, e236, hx236_0⟩ := Kd.at_int HR228.out (ji31) p236 q236
               have hw236_0 := hx236_0
               obtain rfl : ad230 = ad236 := (by injection e236)
               replace hx236_0 := (HB.out.cell (World.block_lt_of_cell? w _ hx236_0)).trans hx236_0
               replace p236 := eq_true p236
               replace q236 := eq_true q236
               obtain ⟨Ao71, co71, eo71⟩ := Kd.R_slice HO_228001.out
               (first | subst eo71 | (injection eo71 with f1_ f2_ f3_; have f4_ := f1_.symm; have f5_ := f3_.symm; clear f1_ f2_ f3_; subst f4_; subst f5_))
               refine start_ (n := 19) (S := fun w' => w'.cell? ⟨gb227, 0, none⟩ = some (.int .u64 x228000_2) ∧ w'.cell? ⟨gb227, 1, none⟩ = some (.slice Ao71 x228001_2.length co71) ∧ w'.cell? (ad230.add ((ji31)).toNat) = some (.int .u8 (rd (l0.take ((ji5) : Int).toNat) (ji31)))) (ds := [17]) #[false,false,false,false,false,false,false,false,false,false,false,false,false,false,false,false,false,false,false] (by kernel_rfl) rfl rfl ⟨(blk_cell BK227.out 0).trans rfl, (blk_cell BK227.out 1).trans rfl, ((HB.out.cell (World.block_lt_of_cell? w _ hw236_0)).trans hw236_0)⟩ (fun hHeld => ?_); refine with_tabW tillrolllaw09_BbtAny.tab11 tillrolllaw09_BbtAny.bits11 (fun HT_ HW_ => ?_)
               generalize w69.drew = w70 at HO_222001 HO_228001 HO234 BK221 BK227 HB hx236_0 hHeld ⊢
               refine pure_ (i := 1) (N := some 56) (v := ?_) (a' := ?_) #[false,true,false,false,false,false,false,false,false,false,false,false,false,false,false,false,false,false,false] rfl rfl (any_of HT_.out (by kernel_rfl)) (fun _ _ _ h => h) (Or.inl ⟨by rfl, ?_⟩) ?_ ?_
               rotate_left
               · intro w'; go_simp; with_reducible rfl
               rotate_left
               · simp only [Act.put, sS, s0_, s1_, i64_w, i32_w]; rfl
               refine pure_ (i := 2) (N := some 57) (v := ?_) (a' := ?_) #[false,true,true,false,false,false,false,false,false,false,false,false,false,false,false,false,false,false,false] rfl rfl (any_of HT_.out (by kernel_rfl)) (fun _ _ _ h => h) (Or.inl ⟨by rfl, ?_⟩) ?_ ?_
               rotate_left
               · intro w'; go_simp; with_reducible rfl
               rotate_left
               · simp only [Act.put, sS, s0_, s1_, i64_w, i32_w]; rfl
               refine pure_ (i := 3) (N := some 58) (v := ?_) (a' := ?_) #[false,true,true,true,false,false,false,false,false,false,false,false,false,false,false,false,false,false,false] rfl rfl (any_of HT_.out (by kernel_rfl)) (fun _ _ _ h => h) (Or.inl ⟨by rfl, ?_⟩) ?_ ?_
               rotate_left
               · intro w'; go_simp; with_reducible rfl
               rotate_left
               · simp only [Act.put, sS, s0_, s1_, i64_w, i32_w]; rfl
               refine pure_ (i := 4) (N := some 59) (v := ?_) (a' := ?_) #[false,true,true,true,true,false,false,false,false,false,false,false,false,false,false,false,false,false,false] rfl rfl (any_of HT_.out (by kernel_rfl)) (fun _ _ _ h => h) (Or.inl ⟨by rfl, ?_⟩) ?_ ?_
               rotate_left
               · intro w'; go_simp; with_reducible rfl
               rotate_left
               · simp only [Act.put, sS, s0_, s1_, i64_w, i32_w]; rfl
               refine pure_ (i := 5) (N := some 60) (v := ?_) (a' := ?_) #[false,true,true,true,true,true,false,false,false,false,false,false,false,false,false,false,false,false,false] rfl rfl (any_of HT_.out (by kernel_rfl)) (fun _ _ _ h => h) (Or.inl ⟨by rfl, ?_⟩) ?_ ?_
               rotate_left
               · intro w'; go_simp; with_reducible rfl
               rotate_left
               · simp only [Act.put, sS, s0_, s1_, i64_w, i32_w]; rfl
               refine pure_ (i := 6) (N := some 61) (v := ?_) (a' := ?_) #[false,true,true,true,true,true,true,false,false,false,false,false,false,false,false,false,false,false,false] rfl rfl (any_of HT_.out (by kernel_rfl)) (fun _ _ _ h => h) (Or.inl ⟨by rfl, ?_⟩) ?_ ?_
               rotate_left
               · intro w'; go_simp; with_reducible rfl
               rotate_left
               · simp only [Act.put, sS, s0_, s1_, i64_w, i32_w]; rfl
               refine pure_ (i := 7) (N := some 62) (v := ?_) (a' := ?_) #[false,true,true,true,true,true,true,true,false,false,false,false,false,false,false,false,false,false,false] rfl rfl (any_of HT_.out (by kernel_rfl)) (fun _ _ _ h => h) (Or.inl ⟨by rfl, ?_⟩) ?_ ?_
               rotate_left
               · intro w'; go_simp; with_reducible rfl
               rotate_left
               · simp only [Act.put, sS, s0_, s1_, i64_w, i32_w]; rfl
               refine pure_ (i := 8) (N := some 63) (v := ?_) (a' := ?_) #[false,true,true,true,true,true,true,true,true,false,false,false,false,false,false,false,false,false,false] rfl rfl (any_of HT_.out (by kernel_rfl)) (fun _ _ _ h => h) (Or.inl ⟨by rfl, ?_⟩) ?_ ?_
               rotate_left
               · intro w'; go_simp; with_reducible rfl
               rotate_left
               · simp only [Act.put, sS, s0_, s1_, i64_w, i32_w]; rfl
               refine pure_ (i := 9) (N := some 64) (v := ?_) (a' := ?_) #[false,true,true,true,true,true,true,true,true,true,false,false,false,false,false,false,false,false,false] rfl rfl (any_of HT_.out (by kernel_rfl)) (fun _ _ _ h => h) (Or.inl ⟨by rfl, ?_⟩) ?_ ?_
               rotate_left
               · intro w'; go_simp; with_reducible rfl
               rotate_left
               · simp only [Act.put, sS, s0_, s1_, i64_w, i32_w]; rfl
               refine take_ (i := 0) (N := some 55) (v := ?_) (a' := ?_) #[true,true,true,true,true,true,true,true,true,true,false,false,false,false,false,false,false,false,false] rfl rfl (take_ofW HT_.out HW_.out (by kernel_rfl)) (fun _ _ _ h => h) (Or.inl ⟨by rfl, ?_⟩) hHeld ?_ ?_
               rotate_left
               ·
                rintro w' ⟨s0, s1, s2⟩
                go_simp
                with_reducible rfl
               rotate_left
               · simp only [Act.put, sS, s0_, s1_, i64_w, i32_w]; rfl
               refine take_ (i := 10) (N := some 65) (v := ?_) (a' := ?_) #[true,true,true,true,true,true,true,true,true,true,true,false,false,false,false,false,false,false,false] rfl rfl (take_ofW HT_.out HW_.out (by kernel_rfl)) (fun _ _ _ h => h) (Or.inl ⟨by rfl, ?_⟩) hHeld ?_ ?_
               rotate_left
               ·
                rintro w' ⟨s0, s1, s2⟩
                go_simp
                with_reducible rfl
               rotate_left
               · simp only [Act.put, sS, s0_, s1_, i64_w, i32_w]; rfl
               refine pure_ (i := 11) (N := some 66) (v := ?_) (a' := ?_) #[true,true,true,true,true,true,true,true,true,true,true,true,false,false,false,false,false,false,false] rfl rfl (any_of HT_.out (by kernel_rfl)) (fun _ _ _ h => h) (Or.inl ⟨by rfl, ?_⟩) ?_ ?_
               rotate_left
               · intro w'; go_simp; with_reducible rfl
               rotate_left
               · simp only [Act.put, sS, s0_, s1_, i64_w, i32_w]; rfl
               refine pure_ (i := 12) (N := some 67) (v := ?_) (a' := ?_) #[true,true,true,true,true,true,true,true,true,true,true,true,true,false,false,false,false,false,false] rfl rfl (any_of HT_.out (by kernel_rfl)) (fun _ _ _ h => h) (Or.inl ⟨by rfl, ?_⟩) ?_ ?_
               rotate_left
               · intro w'; go_simp; with_reducible rfl
               rotate_left
               · simp only [Act.put, sS, s0_, s1_, i64_w, i32_w]; rfl
               refine one_ (i := 13) (N := some 68) #[true,true,true,true,true,true,true,true,true,true,true,true,true,true,false,false,false,false,false] rfl rfl (one_of HT_.out (by kernel_rfl)) (by decide) (fun K hK => ?_)
               refine goes_ Try.func8 (by kernel_rfl) rfl #[.agg #[.int .u64 x228000_2, .slice Ao71 x228001_2.length co71], .int .i64 (Int.tmod (wrap64 (rd (l0.take ((ji5) : Int).toNat) (ji31))) 40)] (by rfl) rfl rfl (by (try simp only [List.map_toArray, List.map_cons, List.map_nil]); first | done | (simp only [hji31, hji5]; rfl) | rfl | (simp only [List.length_drop, List.length_take]; rfl) | (simp only [ByteArray.size_append]; rfl) | (simp only [ByteArray.size_extract]; rfl)) ?_
               with_reducible refine (bbt_Table_With.calls x228000_2 _ _ x228001_2 (Int.tmod (wrap64 (rd (l0.take ((ji5) : Int).toNat) (ji31))) 40) t237 t238 t241 _ ?side1 ?side2 A34.out).mono ?_
               (case side1 => repeat (first | exact (Kd.R_reads' HO_228001.out).2.2 | (with_reducible refine Kd.C_alloc ?_ _) | (with_reducible refine Kd.C_drewN ?_ _) | (with_reducible refine Kd.C_drew ?_)))
               (case side2 => exact (Kd.R_reads' HO_228001.out).2.1)
               rintro e w72 ⟨v239, rfl, ho0, hb⟩
               refine ⟨_, rfl, ?_⟩
               have n0_ := Aside0.mk (Kd.R_elder' (by (with_reducible repeat (first | apply Kd.R_alloc | apply Kd.R_drewN | apply Kd.R_drew)); exact HO_222001.out) (Kd.R_base ho0) hb)
               have n1_ := Aside0.mk (Kd.R_elder' (by (with_reducible repeat (first | apply Kd.R_alloc | apply Kd.R_drewN | apply Kd.R_drew)); exact HO_228001.out) (Kd.R_base ho0) hb)
               have n2_ := Aside0.mk (Kd.R_elder' (by (with_reducible repeat (first | apply Kd.R_alloc | apply Kd.R_drewN | apply Kd.R_drew)); exact HO234.out) (Kd.R_base ho0) hb)
               have n3_ := Aside0.mk (Kd.R_lower (Kd.R_new' (Kd.R_new' (Kd.R_new' ho0 (Kd.R_lt (by (with_reducible repeat (first | apply Kd.R_alloc | apply Kd.R_drewN | apply Kd.R_drew)); exact HO_222001.out))) (Kd.R_lt (by (with_reducible repeat (first | apply Kd.R_alloc | apply Kd.R_drewN | apply Kd.R_drew)); exact HO_228001.out))) (Kd.R_lt (by (with_reducible repeat (first | apply Kd.R_alloc | apply Kd.R_drewN | apply Kd.R_drew)); exact HO234.out))) (below_size (by repeat (first | (with_reducible first | exact HB.out | apply below_alloc | apply pw_below_drewN | apply below_drew1 | refine below_set ?_ GE221.out | refine below_set ?_ GE227.out) | exact HB.out))))
               have n4_ := Aside0.mk (blk_below (g := gb221) (o := .cells #[.int .u64 t231, .slice Ao67 t232.length co67] 26 (0, 0)) (by (with_reducible repeat (first | refine blk_drewN ?_ _ | refine blk_drew ?_ | refine blk_alloc ?_ _)); exact BK221.out) hb)
               have n5_ := Aside0.mk (blk_below (g := gb227) (o := .cells #[.int .u64 x228000_2, .slice Ao71 x228001_2.length co71] 26 (0, 0)) (by (with_reducible repeat (first | refine blk_drewN ?_ _ | refine blk_drew ?_ | refine blk_alloc ?_ _)); exact BK227.out) hb)
               have n6_ := Aside0.mk (below_step (by repeat (first | (with_reducible first | exact HB.out | apply below_alloc | apply pw_below_drewN | apply below_drew1 | refine below_set ?_ GE221.out | refine below_set ?_ GE227.out) | exact HB.out)) hb)
               clear HO_222001
               clear HO_228001
               clear HO234
               clear BK221
               clear BK227
               clear HB
               have HO_222001 := n0_
               have HO_228001 := n1_
               have HO234 := n2_
               have HO240 := n3_
               have BK221 := n4_
               have BK227 := n5_
               have HB := n6_
               clear n0_ n1_ n2_ n3_ n4_ n5_ n6_
               (try clear hb)
               (try clear hb2)
               (try clear hk)
               (try clear hi)
               (try clear ho0)
               obtain ⟨Ao74, co74, eo74⟩ := Kd.R_slice HO240.out
               (first | subst eo74 | (injection eo74 with f1_ f2_ f3_; have f4_ := f1_.symm; have f5_ := f3_.symm; clear f1_ f2_ f3_; subst f4_; subst f5_))
               refine hK.out _ _ ⟨(blk_cell BK227.out 0).trans rfl, (blk_cell BK227.out 1).trans rfl, ((HB.out.cell (World.block_lt_of_cell? w _ hw236_0)).trans hw236_0)⟩ (fun hHeld => ?_)
               clear hK K
               refine norm_ (a' := ?_) ?_ ?_
               rotate_left
               ·
                show Act.put _ (some 68) _ = _
                simp only [Act.put, sS, s0_, s1_, i64_w, i32_w]
                rfl
               refine pure_ (i := 14) (N := some 54) (v := ?_) (a' := ?_) #[true,true,true,true,true,true,true,true,true,true,true,true,true,true,true,false,false,false,false] rfl rfl (any_of HT_.out (by kernel_rfl)) (fun _ _ _ h => h) (Or.inl ⟨by rfl, ?_⟩) ?_ ?_
               rotate_left
               · intro w'; go_simp; with_reducible rfl
               rotate_left
               · simp only [Act.put, sS, s0_, s1_, i64_w, i32_w]; rfl
               refine pure_ (i := 15) (N := some 69) (v := ?_) (a' := ?_) #[true,true,true,true,true,true,true,true,true,true,true,true,true,true,true,true,false,false,false] rfl rfl (any_of HT_.out (by kernel_rfl)) (fun _ _ _ h => h) (Or.inl ⟨by rfl, ?_⟩) ?_ ?_
               rotate_left
               · intro w'; go_simp; with_reducible rfl
               rotate_left
               · simp only [Act.put, sS, s0_, s1_, i64_w, i32_w]; rfl
               refine pure_ (i := 16) (N := some 70) (v := ?_) (a' := ?_) #[true,true,true,true,true,true,true,true,true,true,true,true,true,true,true,true,true,false,false] rfl rfl (any_of HT_.out (by kernel_rfl)) (fun _ _ _ h => h) (Or.inl ⟨by rfl, ?_⟩) ?_ ?_
               rotate_left
               · intro w'; go_simp; with_reducible rfl
               rotate_left
               · simp only [Act.put, sS, s0_, s1_, i64_w, i32_w]; rfl
               refine last_ (i := 17) (N := none) #[true,true,true,true,true,true,true,true,true,true,true,true,true,true,true,true,true,true,false] rfl rfl (one_of HT_.out (by kernel_rfl)) (by decide) (fun K hK => ?_)
               have hs73 : w72.cell? ⟨gb227, 0, none⟩ = some (.int .u64 x228000_2) := (blk_cell BK227.out 0).trans rfl
               have hfs73 := blk_frozen BK227.out 0
               have hns73_0 := NB221_227.out
               have hms73_0 := NB227_221.out
               have hs75 : w72.cell? ⟨gb227, 1, none⟩ = some (.slice Ao71 x228001_2.length co71) := (blk_cell BK227.out 1).trans rfl
               have hfs75 := blk_frozen BK227.out 1
               have hns75_0 := NB221_227.out
               have hms75_0 := NB227_221.out
               refine skip_ (w1 := ?_) (by rfl) rfl ?_ ?_
               rotate_left
               ·
                go_simp
                rfl
               refine hK.out _ _ ?_
               clear hK K
               refine pure_ (i := 18) (N := some 11) (v := ?_) (a' := ?_) #[true,true,true,true,true,true,true,true,true,true,true,true,true,true,true,true,true,true,true] rfl rfl (any_of HT_.out (by kernel_rfl)) (fun _ _ _ h => h) (Or.inl ⟨by rfl, ?_⟩) ?_ ?_
               rotate_left
               · intro w'; go_simp; with_reducible rfl
               rotate_left
               · simp only [Act.put, sS, s0_, s1_, i64_w, i32_w]; rfl
               refine done_ (done_of HT_.out (by kernel_rfl)) ?_
               try go_wp2
               go_ret
               exact ⟨by first | rfl | (simp [errW_none, errW_some] <;> rfl) | (simp only [← hji5, ← hji31]; first | rfl | (simp [errW_none, errW_some] <;> rfl)) | (simp [*, errW_none, errW_some] <;> rfl), by repeat (first | (with_reducible first | exact HB.out | apply below_alloc | apply pw_below_drewN | apply below_drew1 | refine below_set ?_ GE221.out | refine below_set ?_ GE227.out) | exact HB.out)⟩
             ·
              rw [if_neg c33] at H
              have mx33n : ¬ ((ji31) < max ji5 0) := (by have hh := c33; have hg := hji5_; rw [List.length_take] at hh; split at hg <;> omega)
              have mx33na := eq_false mx33n
              have mx33nb : decide ((ji31) < max ji5 0) = false := decide_eq_false mx33n
              exact absurd H (by simp)
            ·
             rw [if_neg c32] at H
             exact absurd H (by simp)
          ·
           rw [if_neg c28] at H
           have mx28n : ¬ (x40_2 < max ji5 0) := (by have hh := c28; have hg := hji5_; rw [List.length_take] at hh; split at hg <;> omega)
           have mx28na := eq_false mx28n
           have mx28nb : decide (x40_2 < max ji5 0) = false := decide_eq_false mx28n
           exact absurd H (by simp)
         ·
          rw [if_neg c27] at H
          exact absurd H (by simp)
        ·
         rw [if_neg c26] at H
         have mx26n : ¬ (x40_2 < max ji5 0) := (by have hh := c26; have hg := hji5_; rw [List.length_take] at hh; split at hg <;> omega)
         have mx26na := eq_false mx26n
         have mx26nb : decide (x40_2 < max ji5 0) = false := decide_eq_false mx26n
         have c26b0 : decide (x40_2 < ((l0.take ((ji5) : Int).toNat).length : Int)) = false := decide_eq_false c26
         clear c26
         replace H := Option.bind_eq_some_iff.mp H
         obtain ⟨t242, A760, H⟩ := H
         replace H : ((bbt_Table_List.f k2 x228000_2 x228001_2).bind fun t245 => (if (t242.length : Int) = (t245.length : Int) then ((bbt_Table_Version.f x222000_2 x222001_2).bind fun t248 => (if t248 = (IntKind.u64.wrap (((l0.take ((ji5) : Int).toNat).length : Int))) then ((bbt_Table_Version.f x228000_2 x228001_2).bind fun t249 => ((bbt_Table_Version.f x222000_2 x222001_2).bind fun t250 => (tillrolllaw09_BbtAny.j2 k2 t242 t245 (t249 != t250)))) else (tillrolllaw09_BbtAny.j2 k2 t242 t245 true))) else (tillrolllaw09_BbtAny.j2 k2 t242 t245 true))) = some r := H
         have A76 := Aside0.mk A760
         clear A760
         replace H := Option.bind_eq_some_iff.mp H
         obtain ⟨t245, A770, H⟩ := H
         replace H : (if (t242.length : Int) = (t245.length : Int) then ((bbt_Table_Version.f x222000_2 x222001_2).bind fun t248 => (if t248 = (IntKind.u64.wrap (((l0.take ((ji5) : Int).toNat).length : Int))) then ((bbt_Table_Version.f x228000_2 x228001_2).bind fun t249 => ((bbt_Table_Version.f x222000_2 x222001_2).bind fun t250 => (tillrolllaw09_BbtAny.j2 k2 t242 t245 (t249 != t250)))) else (tillrolllaw09_BbtAny.j2 k2 t242 t245 true))) else (tillrolllaw09_BbtAny.j2 k2 t242 t245 true)) = some r := H
         have A77 := Aside0.mk A770
         clear A770
         have HC78 := Aside0.mk H
         clear H
         try go_wp2
         have n0_ := Aside0.mk (Kd.R_drew HO_222001.out)
         have n1_ := Aside0.mk (Kd.R_drew HO_228001.out)
         have n2_ := Aside0.mk (blk_drew BK221.out)
         have n3_ := Aside0.mk (blk_drew BK227.out)
         have n4_ := Aside0.mk (below_drew1 HB.out)
         clear HO_222001
         clear HO_228001
         clear BK221
         clear BK227
         clear HB
         have HO_222001 := n0_
         have HO_228001 := n1_
         have BK221 := n2_
         have BK227 := n3_
         have HB := n4_
         clear n0_ n1_ n2_ n3_ n4_
         obtain ⟨Ao80, co80, eo80⟩ := Kd.R_slice HO_222001.out
         (first | subst eo80 | (injection eo80 with f1_ f2_ f3_; have f4_ := f1_.symm; have f5_ := f3_.symm; clear f1_ f2_ f3_; subst f4_; subst f5_))
         refine start_ (n := 6) (S := fun w' => w'.cell? ⟨gb221, 0, none⟩ = some (.int .u64 x222000_2) ∧ w'.cell? ⟨gb221, 1, none⟩ = some (.slice Ao80 x222001_2.length co80) ∧ w'.cell? ⟨gb227, 0, none⟩ = some (.int .u64 x228000_2) ∧ w'.cell? ⟨gb227, 1, none⟩ = some (u228001)) (ds := []) #[false,false,false,false,false,false] (by kernel_rfl) rfl rfl ⟨(blk_cell BK221.out 0).trans rfl, (blk_cell BK221.out 1).trans rfl, (blk_cell BK227.out 0).trans rfl, (blk_cell BK227.out 1).trans rfl⟩ (fun hHeld => ?_)
         generalize wr.drew = w79 at HO_222001 HO_228001 BK221 BK227 HB hHeld ⊢
         refine take_ (i := 0) (N := some 78) (v := ?_) (a' := ?_) #[true,false,false,false,false,false] rfl rfl (by kernel_rfl) (fun _ _ _ h => h) (Or.inl ⟨by rfl, ?_⟩) hHeld ?_ ?_
         rotate_left
         ·
          rintro w' ⟨s0, s1, s2, s3⟩
          go_simp
          with_reducible rfl
         rotate_left
         · simp only [Act.put, sS, s0_, s1_, i64_w, i32_w]; rfl
         refine take_ (i := 2) (N := some 80) (v := ?_) (a' := ?_) #[true,false,true,false,false,false] rfl rfl (by kernel_rfl) (fun _ _ _ h => h) (Or.inl ⟨by rfl, ?_⟩) hHeld ?_ ?_
         rotate_left
         ·
          rintro w' ⟨s0, s1, s2, s3⟩
          go_simp
          with_reducible rfl
         rotate_left
         · simp only [Act.put, sS, s0_, s1_, i64_w, i32_w]; rfl
         refine one_ (i := 1) (N := some 79) #[true,true,true,false,false,false] rfl rfl (by kernel_rfl) (by decide) (fun K hK => ?_)
         refine goes_ Try.func9 (by kernel_rfl) rfl #[.agg #[.int .u64 x222000_2, .slice Ao80 x222001_2.length co80]] (by rfl) rfl rfl (by (try simp only [List.map_toArray, List.map_cons, List.map_nil]); first | done | rfl | (simp only [List.length_drop, List.length_take]; rfl) | (simp only [ByteArray.size_append]; rfl) | (simp only [ByteArray.size_extract]; rfl)) ?_
         with_reducible refine (bbt_Table_List.calls k2 x222000_2 _ _ x222001_2 t242 _ ?side1 ?side2 A76.out).mono ?_
         (case side1 => repeat (first | exact (Kd.R_reads' HO_222001.out).2.2 | (with_reducible refine Kd.C_alloc ?_ _) | (with_reducible refine Kd.C_drewN ?_ _) | (with_reducible refine Kd.C_drew ?_)))
         (case side2 => exact (Kd.R_reads' HO_222001.out).2.1)
         rintro e w81 ⟨v243, rfl, ho0, hb⟩
         refine ⟨_, rfl, ?_⟩
         have n0_ := Aside0.mk (Kd.R_below (by (with_reducible repeat (first | apply Kd.R_alloc | apply Kd.R_drewN | apply Kd.R_drew)); exact HO_222001.out) hb)
         have n1_ := Aside0.mk (Kd.R_below (by (with_reducible repeat (first | apply Kd.R_alloc | apply Kd.R_drewN | apply Kd.R_drew)); exact HO_228001.out) hb)
         have n2_ := Aside0.mk (Kd.R_lower ho0 (below_size (by repeat (first | (with_reducible first | exact HB.out | apply below_alloc | apply pw_below_drewN | apply below_drew1 | refine below_set ?_ GE221.out | refine below_set ?_ GE227.out) | exact HB.out))))
         have n3_ := Aside0.mk (blk_below (g := gb221) (o := .cells #[.int .u64 x222000_2, .slice Ao80 x222001_2.length co80] 26 (0, 0)) (by (with_reducible repeat (first | refine blk_drewN ?_ _ | refine blk_drew ?_ | refine blk_alloc ?_ _)); exact BK221.out) hb)
         have n4_ := Aside0.mk (blk_below (g := gb227) (o := .cells #[.int .u64 x228000_2, u228001] 26 (0, 0)) (by (with_reducible repeat (first | refine blk_drewN ?_ _ | refine blk_drew ?_ | refine blk_alloc ?_ _)); exact BK227.out) hb)
         have n5_ := Aside0.mk (below_step (by repeat (first | (with_reducible first | exact HB.out | apply below_alloc | apply pw_below_drewN | apply below_drew1 | refine below_set ?_ GE221.out | refine below_set ?_ GE227.out) | exact HB.out)) hb)
         clear HO_222001
         clear HO_228001
         clear BK221
         clear BK227
         clear HB
         have HO_222001 := n0_
         have HO_228001 := n1_
         have HO244 := n2_
         have BK221 := n3_
         have BK227 := n4_
         have HB := n5_
         clear n0_ n1_ n2_ n3_ n4_ n5_
         (try clear hb)
         (try clear hb2)
         (try clear hk)
         (try clear hi)
         (try clear ho0)
         obtain ⟨Ao82, co82, eo82⟩ := Kd.R_slice HO_228001.out
         (first | subst eo82 | (injection eo82 with f1_ f2_ f3_; have f4_ := f1_.symm; have f5_ := f3_.symm; clear f1_ f2_ f3_; subst f4_; subst f5_))
         refine hK.out _ _ ⟨(blk_cell BK221.out 0).trans rfl, (blk_cell BK221.out 1).trans rfl, (blk_cell BK227.out 0).trans rfl, (blk_cell BK227.out 1).trans rfl⟩ (fun hHeld => ?_)
         clear hK K
         refine norm_ (a' := ?_) ?_ ?_
         rotate_left
         ·
          show Act.put _ (some 79) _ = _
          simp only [Act.put, sS, s0_, s1_, i64_w, i32_w]
          rfl
         refine one_ (i := 3) (N := some 81) #[true,true,true,true,false,false] rfl rfl (by kernel_rfl) (by decide) (fun K hK => ?_)
         refine goes_ Try.func9 (by kernel_rfl) rfl #[.agg #[.int .u64 x228000_2, .slice Ao82 x228001_2.length co82]] (by rfl) rfl rfl (by (try simp only [List.map_toArray, List.map_cons, List.map_nil]); first | done | rfl | (simp only [List.length_drop, List.length_take]; rfl) | (simp only [ByteArray.size_append]; rfl) | (simp only [ByteArray.size_extract]; rfl)) ?_
         with_reducible refine (bbt_Table_List.calls k2 x228000_2 _ _ x228001_2 t245 _ ?side1 ?side2 A77.out).mono ?_
         (case side1 => repeat (first | exact (Kd.R_reads' HO_228001.out).2.2 | (with_reducible refine Kd.C_alloc ?_ _) | (with_reducible refine Kd.C_drewN ?_ _) | (with_reducible refine Kd.C_drew ?_)))
         (case side2 => exact (Kd.R_reads' HO_228001.out).2.1)
         rintro e w83 ⟨v246, rfl, ho0, hb⟩
         refine ⟨_, rfl, ?_⟩
         have n0_ := Aside0.mk (Kd.R_below (by (with_reducible repeat (first | apply Kd.R_alloc | apply Kd.R_drewN | apply Kd.R_drew)); exact HO_222001.out) hb)
         have n1_ := Aside0.mk (Kd.R_below (by (with_reducible repeat (first | apply Kd.R_alloc | apply Kd.R_drewN | apply Kd.R_drew)); exact HO_228001.out) hb)
         have n2_ := Aside0.mk (Kd.R_elder' (by (with_reducible repeat (first | apply Kd.R_alloc | apply Kd.R_drewN | apply Kd.R_drew)); exact HO244.out) (Kd.R_base ho0) hb)
         have n3_ := Aside0.mk (Kd.R_lower (Kd.R_new' ho0 (Kd.R_lt (by (with_reducible repeat (first | apply Kd.R_alloc | apply Kd.R_drewN | apply Kd.R_drew)); exact HO244.out))) (below_size (by repeat (first | (with_reducible first | exact HB.out | apply below_alloc | apply pw_below_drewN | apply below_drew1 | refine below_set ?_ GE221.out | refine below_set ?_ GE227.out) | exact HB.out))))
         have n4_ := Aside0.mk (blk_below (g := gb221) (o := .cells #[.int .u64 x222000_2, .slice Ao80 x222001_2.length co80] 26 (0, 0)) (by (with_reducible repeat (first | refine blk_drewN ?_ _ | refine blk_drew ?_ | refine blk_alloc ?_ _)); exact BK221.out) hb)
         have n5_ := Aside0.mk (blk_below (g := gb227) (o := .cells #[.int .u64 x228000_2, .slice Ao82 x228001_2.length co82] 26 (0, 0)) (by (with_reducible repeat (first | refine blk_drewN ?_ _ | refine blk_drew ?_ | refine blk_alloc ?_ _)); exact BK227.out) hb)
         have n6_ := Aside0.mk (below_step (by repeat (first | (with_reducible first | exact HB.out | apply below_alloc | apply pw_below_drewN | apply below_drew1 | refine below_set ?_ GE221.out | refine below_set ?_ GE227.out) | exact HB.out)) hb)
         clear HO_222001
         clear HO_228001
         clear HO244
         clear BK221
         clear BK227
         clear HB
         have HO_222001 := n0_
         have HO_228001 := n1_
         have HO244 := n2_
         have HO247 := n3_
         have BK221 := n4_
         have BK227 := n5_
         have HB := n6_
         clear n0_ n1_ n2_ n3_ n4_ n5_ n6_
         (try clear hb)
         (try clear hb2)
         (try clear hk)
         (try clear hi)
         (try clear ho0)
         refine hK.out _ _ ⟨(blk_cell BK221.out 0).trans rfl, (blk_cell BK221.out 1).trans rfl, (blk_cell BK227.out 0).trans rfl, (blk_cell BK227.out 1).trans rfl⟩ (fun hHeld => ?_)
         clear hK K
         refine norm_ (a' := ?_) ?_ ?_
         rotate_left
         ·
          show Act.put _ (some 81) _ = _
          simp only [Act.put, sS, s0_, s1_, i64_w, i32_w]
          rfl
         refine pure_ (i := 4) (N := some 12) (v := ?_) (a' := ?_) #[true,true,true,true,true,false] rfl rfl (by kernel_rfl) (fun _ _ _ h => h) (Or.inl ⟨by rfl, ?_⟩) ?_ ?_
         rotate_left
         · intro w'; go_simp; with_reducible rfl
         rotate_left
         · simp only [Act.put, sS, s0_, s1_, i64_w, i32_w]; rfl
         refine pure_ (i := 5) (N := some 13) (v := ?_) (a' := ?_) #[true,true,true,true,true,true] rfl rfl (by kernel_rfl) (fun _ _ _ h => h) (Or.inl ⟨by rfl, ?_⟩) ?_ ?_
         rotate_left
         · intro w'; go_simp; with_reducible rfl
         rotate_left
         · simp only [Act.put, sS, s0_, s1_, i64_w, i32_w]; rfl
         refine done_ (by kernel_rfl) ?_
         go_upto_region 16 with (fail)
         go_cut [101] (fun v101 wc => ∃ (kq : Nat) (x101_77 : Bool), v101 = .bool x101_77 ∧ Aside0 (tillrolllaw09_BbtAny.j2 kq t242 t245 x101_77 = some r) ∧ Aside0 (kq ≤ k2) ∧ Aside0 (Kd.R (Kd.int .i64) 3 wc w.heap.size (fun k_ => some k_ ≠ (v246 : Value).ownBlock) v243 t242) ∧ Aside0 (Kd.R (Kd.int .i64) 3 wc w.heap.size (fun k_ => some k_ ≠ (v243 : Value).ownBlock) v246 t245) ∧ Aside0 (Kd.R Kd.bool 4 wc w.heap.size (fun k_ => some k_ ≠ ((.slice Ao82 x228001_2.length co82) : Value).ownBlock) (.slice Ao80 x222001_2.length co80) x222001_2) ∧ Aside0 (Kd.R Kd.bool 4 wc w.heap.size (fun k_ => some k_ ≠ ((.slice Ao80 x222001_2.length co80) : Value).ownBlock) (.slice Ao82 x228001_2.length co82) x228001_2) ∧ Aside0 (wc.heap[gb221]? = some (.cells #[.int .u64 x222000_2, (.slice Ao80 x222001_2.length co80)] 26 (0, 0))) ∧ Aside0 (wc.heap[gb227]? = some (.cells #[.int .u64 x228000_2, (.slice Ao82 x228001_2.length co82)] 26 (0, 0))) ∧ Aside0 (Below w.heap.size w wc))
         case first =>
          have H := HC78.out
          clear HC78
          by_cases c84 : (t242.length : Int) = (t245.length : Int)
          ·
           rw [if_pos c84] at H
           have c84b0 : ((t242.length : Int) == (t245.length : Int)) = true := beq_iff_eq.mpr c84
           have c84b1 : ((t242.length : Int) != (t245.length : Int)) = false := bne_eq_false_iff_eq.mpr c84
           have c84b2 : (t242.length == t245.length) = true := by first | simpa using c84 | (simp at c84 ⊢; omega)
           clear c84
           (first | rw [c84b0] | (simp only [i64_w, i32_w]; rw [c84b0]) | skip)
           replace H := Option.bind_eq_some_iff.mp H
           obtain ⟨t248, A850, H⟩ := H
           replace H : (if t248 = (IntKind.u64.wrap (((l0.take ((ji5) : Int).toNat).length : Int))) then ((bbt_Table_Version.f x228000_2 x228001_2).bind fun t249 => ((bbt_Table_Version.f x222000_2 x222001_2).bind fun t250 => (tillrolllaw09_BbtAny.j2 k2 t242 t245 (t249 != t250)))) else (tillrolllaw09_BbtAny.j2 k2 t242 t245 true)) = some r := H
           have A85 := Aside0.mk A850
           clear A850
           by_cases c86 : t248 = (IntKind.u64.wrap (((l0.take ((ji5) : Int).toNat).length : Int)))
           ·
            rw [if_pos c86] at H
            have my86p0 : t248 = IntKind.u64.wrap (max ji5 0) := (by have hh := c86; have hg := hji5_; rw [IntKind.wrap_u64, List.length_take] at hh; rw [IntKind.wrap_u64]; split at hg <;> omega)
            have my86p0a : (t248 == IntKind.u64.wrap (max ji5 0)) = true := beq_iff_eq.mpr my86p0
            have my86p0b : (t248 != IntKind.u64.wrap (max ji5 0)) = false := bne_eq_false_iff_eq.mpr my86p0
            have my86p1 : t248 = (max ji5 0) % 18446744073709551616 := (by have hh := c86; have hg := hji5_; rw [IntKind.wrap_u64, List.length_take] at hh; skip; split at hg <;> omega)
            have my86p1a : (t248 == (max ji5 0) % 18446744073709551616) = true := beq_iff_eq.mpr my86p1
            have my86p1b : (t248 != (max ji5 0) % 18446744073709551616) = false := bne_eq_false_iff_eq.mpr my86p1
            have c86b0 : (t248 == (IntKind.u64.wrap (((l0.take ((ji5) : Int).toNat).length : Int)))) = true := beq_iff_eq.mpr c86
            have c86b1 : (t248 != (IntKind.u64.wrap (((l0.take ((ji5) : Int).toNat).length : Int)))) = false := bne_eq_false_iff_eq.mpr c86
            clear c86
            replace H := Option.bind_eq_some_iff.mp H
            obtain ⟨t249, A870, H⟩ := H
            replace H : ((bbt_Table_Version.f x222000_2 x222001_2).bind fun t250 => (tillrolllaw09_BbtAny.j2 k2 t242 t245 (t249 != t250))) = some r := H
            have A87 := Aside0.mk A870
            clear A870
            replace H := Option.bind_eq_some_iff.mp H
            obtain ⟨t250, A880, H⟩ := H
            replace H : (tillrolllaw09_BbtAny.j2 k2 t242 t245 (t249 != t250)) = some r := H
            have A88 := Aside0.mk A880
            clear A880
            have H' := Aside0.mk H
            clear H
            try go_wp2
            have n0_ := Aside0.mk (Kd.R_drew HO_222001.out)
            have n1_ := Aside0.mk (Kd.R_drew HO_228001.out)
            have n2_ := Aside0.mk (Kd.R_drew HO244.out)
            have n3_ := Aside0.mk (Kd.R_drew HO247.out)
            have n4_ := Aside0.mk (blk_drew BK221.out)
            have n5_ := Aside0.mk (blk_drew BK227.out)
            have n6_ := Aside0.mk (below_drew1 HB.out)
            clear HO_222001
            clear HO_228001
            clear HO244
            clear HO247
            clear BK221
            clear BK227
            clear HB
            have HO_222001 := n0_
            have HO_228001 := n1_
            have HO244 := n2_
            have HO247 := n3_
            have BK221 := n4_
            have BK227 := n5_
            have HB := n6_
            clear n0_ n1_ n2_ n3_ n4_ n5_ n6_
            obtain ⟨Ao90, co90, eo90⟩ := Kd.R_slice HO244.out
            (first | subst eo90 | (injection eo90 with f1_ f2_ f3_; have f4_ := f1_.symm; have f5_ := f3_.symm; clear f1_ f2_ f3_; subst f4_; subst f5_))
            obtain ⟨Ao91, co91, eo91⟩ := Kd.R_slice HO247.out
            (first | subst eo91 | (injection eo91 with f1_ f2_ f3_; have f4_ := f1_.symm; have f5_ := f3_.symm; clear f1_ f2_ f3_; subst f4_; subst f5_))
            refine start_ (n := 20) (S := fun w' => w'.cell? ⟨gb221, 0, none⟩ = some (.int .u64 x222000_2) ∧ w'.cell? ⟨gb221, 1, none⟩ = some (.slice Ao80 x222001_2.length co80) ∧ w'.cell? ⟨gb227, 0, none⟩ = some (.int .u64 x228000_2) ∧ w'.cell? ⟨gb227, 1, none⟩ = some (.slice Ao82 x228001_2.length co82)) (ds := []) #[false,false,false,false,false,false,false,false,false,false,false,false,false,false,false,false,false,false,false,false] (by kernel_rfl) rfl rfl ⟨(blk_cell BK221.out 0).trans rfl, (blk_cell BK221.out 1).trans rfl, (blk_cell BK227.out 0).trans rfl, (blk_cell BK227.out 1).trans rfl⟩ (fun hHeld => ?_); refine with_tabW tillrolllaw09_BbtAny.tab16 tillrolllaw09_BbtAny.bits16 (fun HT_ HW_ => ?_)
            generalize w83.drew = w89 at HO_222001 HO_228001 HO244 HO247 BK221 BK227 HB hHeld ⊢
            refine pure_ (i := 0) (N := some 82) (v := ?_) (a' := ?_) #[true,false,false,false,false,false,false,false,false,false,false,false,false,false,false,false,false,false,false,false] rfl rfl (any_of HT_.out (by kernel_rfl)) (fun _ _ _ h => h) (Or.inl ⟨by rfl, ?_⟩) ?_ ?_
            rotate_left
            · intro w'; go_simp; with_reducible rfl
            rotate_left
            · simp only [Act.put, sS, s0_, s1_, i64_w, i32_w]; rfl
            refine pure_ (i := 1) (N := some 83) (v := ?_) (a' := ?_) #[true,true,false,false,false,false,false,false,false,false,false,false,false,false,false,false,false,false,false,false] rfl rfl (any_of HT_.out (by kernel_rfl)) (fun _ _ _ h => h) (Or.inl ⟨by rfl, ?_⟩) ?_ ?_
            rotate_left
            · intro w'; go_simp; with_reducible rfl
            rotate_left
            · simp only [Act.put, sS, s0_, s1_, i64_w, i32_w]; rfl
            refine pure_ (i := 2) (N := some 84) (v := ?_) (a' := ?_) #[true,true,true,false,false,false,false,false,false,false,false,false,false,false,false,false,false,false,false,false] rfl rfl (any_of HT_.out (by kernel_rfl)) (fun _ _ _ h => h) (Or.inl ⟨by rfl, ?_⟩) ?_ ?_
            rotate_left
            · intro w'; go_simp; with_reducible rfl
            rotate_left
            · simp only [Act.put, sS, s0_, s1_, i64_w, i32_w]; rfl
            refine pure_ (i := 3) (N := some 85) (v := ?_) (a' := ?_) #[true,true,true,true,false,false,false,false,false,false,false,false,false,false,false,false,false,false,false,false] rfl rfl (any_of HT_.out (by kernel_rfl)) (fun _ _ _ h => h) (Or.inl ⟨by rfl, ?_⟩) ?_ ?_
            rotate_left
            · intro w'; go_simp; with_reducible rfl
            rotate_left
            · simp only [Act.put, sS, s0_, s1_, i64_w, i32_w]; rfl
            refine pure_ (i := 4) (N := some 86) (v := ?_) (a' := ?_) #[true,true,true,true,true,false,false,false,false,false,false,false,false,false,false,false,false,false,false,false] rfl rfl (any_of HT_.out (by kernel_rfl)) (fun _ _ _ h => h) (Or.inl ⟨by rfl, ?_⟩) ?_ ?_
            rotate_left
            · intro w'; go_simp; with_reducible rfl
            rotate_left
            · simp only [Act.put, sS, s0_, s1_, i64_w, i32_w]; rfl
            refine pure_ (i := 5) (N := some 87) (v := ?_) (a' := ?_) #[true,true,true,true,true,true,false,false,false,false,false,false,false,false,false,false,false,false,false,false] rfl rfl (any_of HT_.out (by kernel_rfl)) (fun _ _ _ h => h) (Or.inl ⟨by rfl, ?_⟩) ?_ ?_
            rotate_left
            · intro w'; go_simp; with_reducible rfl
            rotate_left
            · simp only [Act.put, sS, s0_, s1_, i64_w, i32_w]; rfl
            refine pure_ (i := 8) (N := some 90) (v := ?_) (a' := ?_) #[true,true,true,true,true,true,false,false,true,false,false,false,false,false,false,false,false,false,false,false] rfl rfl (any_of HT_.out (by kernel_rfl)) (fun _ _ _ h => h) (Or.inl ⟨by rfl, ?_⟩) ?_ ?_
            rotate_left
            · intro w'; go_simp; with_reducible rfl
            rotate_left
            · simp only [Act.put, sS, s0_, s1_, i64_w, i32_w]; rfl
            refine pure_ (i := 9) (N := some 91) (v := ?_) (a' := ?_) #[true,true,true,true,true,true,false,false,true,true,false,false,false,false,false,false,false,false,false,false] rfl rfl (any_of HT_.out (by kernel_rfl)) (fun _ _ _ h => h) (Or.inl ⟨by rfl, ?_⟩) ?_ ?_
            rotate_left
            · intro w'; go_simp; with_reducible rfl
            rotate_left
            · simp only [Act.put, sS, s0_, s1_, i64_w, i32_w]; rfl
            refine pure_ (i := 10) (N := some 92) (v := ?_) (a' := ?_) #[true,true,true,true,true,true,false,false,true,true,true,false,false,false,false,false,false,false,false,false] rfl rfl (any_of HT_.out (by kernel_rfl)) (fun _ _ _ h => h) (Or.inl ⟨by rfl, ?_⟩) ?_ ?_
            rotate_left
            · intro w'; go_simp; with_reducible rfl
            rotate_left
            · simp only [Act.put, sS, s0_, s1_, i64_w, i32_w]; rfl
            refine take_ (i := 6) (N := some 88) (v := ?_) (a' := ?_) #[true,true,true,true,true,true,true,false,true,true,true,false,false,false,false,false,false,false,false,false] rfl rfl (take_ofW HT_.out HW_.out (by kernel_rfl)) (fun _ _ _ h => h) (Or.inl ⟨by rfl, ?_⟩) hHeld ?_ ?_
            rotate_left
            ·
             rintro w' ⟨s0, s1, s2, s3⟩
             go_simp
             with_reducible rfl
            rotate_left
            · simp only [Act.put, sS, s0_, s1_, i64_w, i32_w]; rfl
            refine one_ (i := 7) (N := some 89) #[true,true,true,true,true,true,true,true,true,true,true,false,false,false,false,false,false,false,false,false] rfl rfl (one_of HT_.out (by kernel_rfl)) (by decide) (fun K hK => ?_)
            refine goes_ Try.func10 (by kernel_rfl) rfl #[.agg #[.int .u64 x222000_2, .slice Ao80 x222001_2.length co80]] (by rfl) rfl rfl (by (try simp only [List.map_toArray, List.map_cons, List.map_nil]); first | done | rfl | (simp only [List.length_drop, List.length_take]; rfl) | (simp only [ByteArray.size_append]; rfl) | (simp only [ByteArray.size_extract]; rfl)) ?_
            with_reducible refine (bbt_Table_Version.calls x222000_2 _ _ x222001_2 t248 _ ?side1 ?side2 A85.out).mono ?_
            (case side1 => repeat (first | exact (Kd.R_reads' HO_222001.out).2.2 | (with_reducible refine Kd.C_alloc ?_ _) | (with_reducible refine Kd.C_drewN ?_ _) | (with_reducible refine Kd.C_drew ?_)))
            (case side2 => exact (Kd.R_reads' HO_222001.out).2.1)
            rintro e w92 ⟨rfl, hb⟩
            refine ⟨_, rfl, ?_⟩
            have n0_ := Aside0.mk (Kd.R_below (by (with_reducible repeat (first | apply Kd.R_alloc | apply Kd.R_drewN | apply Kd.R_drew)); exact HO_222001.out) hb)
            have n1_ := Aside0.mk (Kd.R_below (by (with_reducible repeat (first | apply Kd.R_alloc | apply Kd.R_drewN | apply Kd.R_drew)); exact HO_228001.out) hb)
            have n2_ := Aside0.mk (Kd.R_below (by (with_reducible repeat (first | apply Kd.R_alloc | apply Kd.R_drewN | apply Kd.R_drew)); exact HO244.out) hb)
            have n3_ := Aside0.mk (Kd.R_below (by (with_reducible repeat (first | apply Kd.R_alloc | apply Kd.R_drewN | apply Kd.R_drew)); exact HO247.out) hb)
            have n4_ := Aside0.mk (blk_below (g := gb221) (o := .cells #[.int .u64 x222000_2, .slice Ao80 x222001_2.length co80] 26 (0, 0)) (by (with_reducible repeat (first | refine blk_drewN ?_ _ | refine blk_drew ?_ | refine blk_alloc ?_ _)); exact BK221.out) hb)
            have n5_ := Aside0.mk (blk_below (g := gb227) (o := .cells #[.int .u64 x228000_2, .slice Ao82 x228001_2.length co82] 26 (0, 0)) (by (with_reducible repeat (first | refine blk_drewN ?_ _ | refine blk_drew ?_ | refine blk_alloc ?_ _)); exact BK227.out) hb)
            have n6_ := Aside0.mk (below_step (by repeat (first | (with_reducible first | exact HB.out | apply below_alloc | apply pw_below_drewN | apply below_drew1 | refine below_set ?_ GE221.out | refine below_set ?_ GE227.out) | exact HB.out)) hb)
            clear HO_222001
            clear HO_228001
            clear HO244
            clear HO247
            clear BK221
            clear BK227
            clear HB
            have HO_222001 := n0_
            have HO_228001 := n1_
            have HO244 := n2_
            have HO247 := n3_
            have BK221 := n4_
            have BK227 := n5_
            have HB := n6_
            clear n0_ n1_ n2_ n3_ n4_ n5_ n6_
            (try clear hb)
            (try clear hb2)
            (try clear hk)
            (try clear hi)
            refine hK.out _ _ ⟨(blk_cell BK221.out 0).trans rfl, (blk_cell BK221.out 1).trans rfl, (blk_cell BK227.out 0).trans rfl, (blk_cell BK227.out 1).trans rfl⟩ (fun hHeld => ?_)
            clear hK K
            refine norm_ (a' := ?_) ?_ ?_
            rotate_left
            ·
             show Act.put _ (some 89) _ = _
             simp only [Act.put, sS, s0_, s1_, i64_w, i32_w]
             rfl
            refine pure_ (i := 11) (N := some 93) (v := ?_) (a' := ?_) #[true,true,true,true,true,true,true,true,true,true,true,true,false,false,false,false,false,false,false,false] rfl rfl (any_of HT_.out (by kernel_rfl)) (fun _ _ _ h => h) (Or.inl ⟨by rfl, ?_⟩) ?_ ?_
            rotate_left
            · intro w'; go_simp; with_reducible rfl
            rotate_left
            · simp only [Act.put, sS, s0_, s1_, i64_w, i32_w]; rfl
            refine pure_ (i := 12) (N := some 94) (v := ?_) (a' := ?_) #[true,true,true,true,true,true,true,true,true,true,true,true,true,false,false,false,false,false,false,false] rfl rfl (any_of HT_.out (by kernel_rfl)) (fun _ _ _ h => h) (Or.inl ⟨by rfl, ?_⟩) ?_ ?_
            rotate_left
            · intro w'; go_simp; with_reducible rfl
            rotate_left
            · simp only [Act.put, sS, s0_, s1_, i64_w, i32_w]; rfl
            refine pure_ (i := 13) (N := some 95) (v := ?_) (a' := ?_) #[true,true,true,true,true,true,true,true,true,true,true,true,true,true,false,false,false,false,false,false] rfl rfl (any_of HT_.out (by kernel_rfl)) (fun _ _ _ h => h) (Or.inl ⟨by rfl, ?_⟩) ?_ ?_
            rotate_left
            · intro w'; go_simp; with_reducible rfl
            rotate_left
            · simp only [Act.put, sS, s0_, s1_, i64_w, i32_w]; rfl
            refine take_ (i := 14) (N := some 96) (v := ?_) (a' := ?_) #[true,true,true,true,true,true,true,true,true,true,true,true,true,true,true,false,false,false,false,false] rfl rfl (take_ofW HT_.out HW_.out (by kernel_rfl)) (fun _ _ _ h => h) (Or.inl ⟨by rfl, ?_⟩) hHeld ?_ ?_
            rotate_left
            ·
             rintro w' ⟨s0, s1, s2, s3⟩
             go_simp
             with_reducible rfl
            rotate_left
            · simp only [Act.put, sS, s0_, s1_, i64_w, i32_w]; rfl
            refine take_ (i := 16) (N := some 98) (v := ?_) (a' := ?_) #[true,true,true,true,true,true,true,true,true,true,true,true,true,true,true,false,true,false,false,false] rfl rfl (take_ofW HT_.out HW_.out (by kernel_rfl)) (fun _ _ _ h => h) (Or.inl ⟨by rfl, ?_⟩) hHeld ?_ ?_
            rotate_left
            ·
             rintro w' ⟨s0, s1, s2, s3⟩
             go_simp
             with_reducible rfl
            rotate_left
            · simp only [Act.put, sS, s0_, s1_, i64_w, i32_w]; rfl
            refine one_ (i := 15) (N := some 97) #[true,true,true,true,true,true,true,true,true,true,true,true,true,true,true,true,true,false,false,false] rfl rfl (one_of HT_.out (by kernel_rfl)) (by decide) (fun K hK => ?_)
            refine goes_ Try.func10 (by kernel_rfl) rfl #[.agg #[.int .u64 x228000_2, .slice Ao82 x228001_2.length co82]] (by rfl) rfl rfl (by (try simp only [List.map_toArray, List.map_cons, List.map_nil]); first | done | rfl | (simp only [List.length_drop, List.length_take]; rfl) | (simp only [ByteArray.size_append]; rfl) | (simp only [ByteArray.size_extract]; rfl)) ?_
            with_reducible refine (bbt_Table_Version.calls x228000_2 _ _ x228001_2 t249 _ ?side1 ?side2 A87.out).mono ?_
            (case side1 => repeat (first | exact (Kd.R_reads' HO_228001.out).2.2 | (with_reducible refine Kd.C_alloc ?_ _) | (with_reducible refine Kd.C_drewN ?_ _) | (with_reducible refine Kd.C_drew ?_)))
            (case side2 => exact (Kd.R_reads' HO_228001.out).2.1)
            rintro e w93 ⟨rfl, hb⟩
            refine ⟨_, rfl, ?_⟩
            have n0_ := Aside0.mk (Kd.R_below (by (with_reducible repeat (first | apply Kd.R_alloc | apply Kd.R_drewN | apply Kd.R_drew)); exact HO_222001.out) hb)
            have n1_ := Aside0.mk (Kd.R_below (by (with_reducible repeat (first | apply Kd.R_alloc | apply Kd.R_drewN | apply Kd.R_drew)); exact HO_228001.out) hb)
            have n2_ := Aside0.mk (Kd.R_below (by (with_reducible repeat (first | apply Kd.R_alloc | apply Kd.R_drewN | apply Kd.R_drew)); exact HO244.out) hb)
            have n3_ := Aside0.mk (Kd.R_below (by (with_reducible repeat (first | apply Kd.R_alloc | apply Kd.R_drewN | apply Kd.R_drew)); exact HO247.out) hb)
            have n4_ := Aside0.mk (blk_below (g := gb221) (o := .cells #[.int .u64 x222000_2, .slice Ao80 x222001_2.length co80] 26 (0, 0)) (by (with_reducible repeat (first | refine blk_drewN ?_ _ | refine blk_drew ?_ | refine blk_alloc ?_ _)); exact BK221.out) hb)
            have n5_ := Aside0.mk (blk_below (g := gb227) (o := .cells #[.int .u64 x228000_2, .slice Ao82 x228001_2.length co82] 26 (0, 0)) (by (with_reducible repeat (first | refine blk_drewN ?_ _ | refine blk_drew ?_ | refine blk_alloc ?_ _)); exact BK227.out) hb)
            have n6_ := Aside0.mk (below_step (by repeat (first | (with_reducible first | exact HB.out | apply below_alloc | apply pw_below_drewN | apply below_drew1 | refine below_set ?_ GE221.out | refine below_set ?_ GE227.out) | exact HB.out)) hb)
            clear HO_222001
            clear HO_228001
            clear HO244
            clear HO247
            clear BK221
            clear BK227
            clear HB
            have HO_222001 := n0_
            have HO_228001 := n1_
            have HO244 := n2_
            have HO247 := n3_
            have BK221 := n4_
            have BK227 := n5_
            have HB := n6_
            clear n0_ n1_ n2_ n3_ n4_ n5_ n6_
            (try clear hb)
            (try clear hb2)
            (try clear hk)
            (try clear hi)
            refine hK.out _ _ ⟨(blk_cell BK221.out 0).trans rfl, (blk_cell BK221.out 1).trans rfl, (blk_cell BK227.out 0).trans rfl, (blk_cell BK227.out 1).trans rfl⟩ (fun hHeld => ?_)
            clear hK K
            refine norm_ (a' := ?_) ?_ ?_
            rotate_left
            ·
             show Act.put _ (some 97) _ = _
             simp only [Act.put, sS, s0_, s1_, i64_w, i32_w]
             rfl
            refine one_ (i := 17) (N := some 99) #[true,true,true,true,true,true,true,true,true,true,true,true,true,true,true,true,true,true,false,false] rfl rfl (one_of HT_.out (by kernel_rfl)) (by decide) (fun K hK => ?_)
            refine goes_ Try.func10 (by kernel_rfl) rfl #[.agg #[.int .u64 x222000_2, .slice Ao80 x222001_2.length co80]] (by rfl) rfl rfl (by (try simp only [List.map_toArray, List.map_cons, List.map_nil]); first | done | rfl | (simp only [List.length_drop, List.length_take]; rfl) | (simp only [ByteArray.size_append]; rfl) | (simp only [ByteArray.size_extract]; rfl)) ?_
            with_reducible refine (bbt_Table_Version.calls x222000_2 _ _ x222001_2 t250 _ ?side1 ?side2 A88.out).mono ?_
            (case side1 => repeat (first | exact (Kd.R_reads' HO_222001.out).2.2 | (with_reducible refine Kd.C_alloc ?_ _) | (with_reducible refine Kd.C_drewN ?_ _) | (with_reducible refine Kd.C_drew ?_)))
            (case side2 => exact (Kd.R_reads' HO_222001.out).2.1)
            rintro e w94 ⟨rfl, hb⟩
            refine ⟨_, rfl, ?_⟩
            have n0_ := Aside0.mk (Kd.R_below (by (with_reducible repeat (first | apply Kd.R_alloc | apply Kd.R_drewN | apply Kd.R_drew)); exact HO_222001.out) hb)
            have n1_ := Aside0.mk (Kd.R_below (by (with_reducible repeat (first | apply Kd.R_alloc | apply Kd.R_drewN | apply Kd.R_drew)); exact HO_228001.out) hb)
            have n2_ := Aside0.mk (Kd.R_below (by (with_reducible repeat (first | apply Kd.R_alloc | apply Kd.R_drewN | apply Kd.R_drew)); exact HO244.out) hb)
            have n3_ := Aside0.mk (Kd.R_below (by (with_reducible repeat (first | apply Kd.R_alloc | apply Kd.R_drewN | apply Kd.R_drew)); exact HO247.out) hb)
            have n4_ := Aside0.mk (blk_below (g := gb221) (o := .cells #[.int .u64 x222000_2, .slice Ao80 x222001_2.length co80] 26 (0, 0)) (by (with_reducible repeat (first | refine blk_drewN ?_ _ | refine blk_drew ?_ | refine blk_alloc ?_ _)); exact BK221.out) hb)
            have n5_ := Aside0.mk (blk_below (g := gb227) (o := .cells #[.int .u64 x228000_2, .slice Ao82 x228001_2.length co82] 26 (0, 0)) (by (with_reducible repeat (first | refine blk_drewN ?_ _ | refine blk_drew ?_ | refine blk_alloc ?_ _)); exact BK227.out) hb)
            have n6_ := Aside0.mk (below_step (by repeat (first | (with_reducible first | exact HB.out | apply below_alloc | apply pw_below_drewN | apply below_drew1 | refine below_set ?_ GE221.out | refine below_set ?_ GE227.out) | exact HB.out)) hb)
            clear HO_222001
            clear HO_228001
            clear HO244
            clear HO247
            clear BK221
            clear BK227
            clear HB
            have HO_222001 := n0_
            have HO_228001 := n1_
            have HO244 := n2_
            have HO247 := n3_
            have BK221 := n4_
            have BK227 := n5_
            have HB := n6_
            clear n0_ n1_ n2_ n3_ n4_ n5_ n6_
            (try clear hb)
            (try clear hb2)
            (try clear hk)
            (try clear hi)
            refine hK.out _ _ ⟨(blk_cell BK221.out 0).trans rfl, (blk_cell BK221.out 1).trans rfl, (blk_cell BK227.out 0).trans rfl, (blk_cell BK227.out 1).trans rfl⟩ (fun hHeld => ?_)
            clear hK K
            refine norm_ (a' := ?_) ?_ ?_
            rotate_left
            ·
             show Act.put _ (some 99) _ = _
             simp only [Act.put, sS, s0_, s1_, i64_w, i32_w]
             rfl
            refine pure_ (i := 18) (N := some 100) (v := ?_) (a' := ?_) #[true,true,true,true,true,true,true,true,true,true,true,true,true,true,true,true,true,true,true,false] rfl rfl (any_of HT_.out (by kernel_rfl)) (fun _ _ _ h => h) (Or.inl ⟨by rfl, ?_⟩) ?_ ?_
            rotate_left
            · intro w'; go_simp; with_reducible rfl
            rotate_left
            · simp only [Act.put, sS, s0_, s1_, i64_w, i32_w]; rfl
            refine pure_ (i := 19) (N := some 101) (v := ?_) (a' := ?_) #[true,true,true,true,true,true,true,true,true,true,true,true,true,true,true,true,true,true,true,true] rfl rfl (any_of HT_.out (by kernel_rfl)) (fun _ _ _ h => h) (Or.inl ⟨by rfl, ?_⟩) ?_ ?_
            rotate_left
            · intro w'; go_simp; with_reducible rfl
            rotate_left
            · simp only [Act.put, sS, s0_, s1_, i64_w, i32_w]; rfl
            refine done_ (done_of HT_.out (by kernel_rfl)) ?_
            try go_wp2
            go_meet
            case rel => exact ⟨_, ((t249 != t250)), (by first | rfl | (simp; done) | (simp [*]; done)), H', ⟨by have := HJ7.out; have := HK2.out; first | omega | exact Nat.le_refl _⟩, ⟨by (with_reducible repeat (first | apply Kd.R_alloc | apply Kd.R_drewN | apply Kd.R_drew)); exact Kd.R_mono HO244.out (fun _ hk => hk.2)⟩, ⟨by (with_reducible repeat (first | apply Kd.R_alloc | apply Kd.R_drewN | apply Kd.R_drew)); exact Kd.R_mono HO247.out (fun _ hk => hk.2)⟩, ⟨by (with_reducible repeat (first | apply Kd.R_alloc | apply Kd.R_drewN | apply Kd.R_drew)); exact HO_222001.out⟩, ⟨by (with_reducible repeat (first | apply Kd.R_alloc | apply Kd.R_drewN | apply Kd.R_drew)); exact HO_228001.out⟩, ⟨by (with_reducible repeat (first | refine blk_drewN ?_ _ | refine blk_drew ?_ | refine blk_alloc ?_ _)); exact BK221.out⟩, ⟨by (with_reducible repeat (first | refine blk_drewN ?_ _ | refine blk_drew ?_ | refine blk_alloc ?_ _)); exact BK227.out⟩, ⟨by repeat (first | (with_reducible first | exact HB.out | apply below_alloc | apply pw_below_drewN | apply below_drew1 | refine below_set ?_ GE221.out | refine below_set ?_ GE227.out) | exact HB.out)⟩⟩
           ·
            rw [if_neg c86] at H
            have my86n0 : ¬ (t248 = IntKind.u64.wrap (max ji5 0)) := (by have hh := c86; have hg := hji5_; rw [IntKind.wrap_u64, List.length_take] at hh; rw [IntKind.wrap_u64]; split at hg <;> omega)
            have my86n0a : (t248 == IntKind.u64.wrap (max ji5 0)) = false := beq_eq_false_iff_ne.mpr my86n0
            have my86n0b : (t248 != IntKind.u64.wrap (max ji5 0)) = true := bne_iff_ne.mpr my86n0
            have my86n1 : ¬ (t248 = (max ji5 0) % 18446744073709551616) := (by have hh := c86; have hg := hji5_; rw [IntKind.wrap_u64, List.length_take] at hh; skip; split at hg <;> omega)
            have my86n1a : (t248 == (max ji5 0) % 18446744073709551616) = false := beq_eq_false_iff_ne.mpr my86n1
            have my86n1b : (t248 != (max ji5 0) % 18446744073709551616) = true := bne_iff_ne.mpr my86n1
            have c86b0 : (t248 == (IntKind.u64.wrap (((l0.take ((ji5) : Int).toNat).length : Int)))) = false := beq_eq_false_iff_ne.mpr c86
            have c86b1 : (t248 != (IntKind.u64.wrap (((l0.take ((ji5) : Int).toNat).length : Int)))) = true := bne_iff_ne.mpr c86
            have H' := Aside0.mk H
            clear H
            try go_wp2
            have n0_ := Aside0.mk (Kd.R_drew HO_222001.out)
            have n1_ := Aside0.mk (Kd.R_drew HO_228001.out)
            have n2_ := Aside0.mk (Kd.R_drew HO244.out)
            have n3_ := Aside0.mk (Kd.R_drew HO247.out)
            have n4_ := Aside0.mk (blk_drew BK221.out)
            have n5_ := Aside0.mk (blk_drew BK227.out)
            have n6_ := Aside0.mk (below_drew1 HB.out)
            clear HO_222001
            clear HO_228001
            clear HO244
            clear HO247
            clear BK221
            clear BK227
            clear HB
            have HO_222001 := n0_
            have HO_228001 := n1_
            have HO244 := n2_
            have HO247 := n3_
            have BK221 := n4_
            have BK227 := n5_
            have HB := n6_
            clear n0_ n1_ n2_ n3_ n4_ n5_ n6_
            obtain ⟨Ao96, co96, eo96⟩ := Kd.R_slice HO244.out
            (first | subst eo96 | (injection eo96 with f1_ f2_ f3_; have f4_ := f1_.symm; have f5_ := f3_.symm; clear f1_ f2_ f3_; subst f4_; subst f5_))
            obtain ⟨Ao97, co97, eo97⟩ := Kd.R_slice HO247.out
            (first | subst eo97 | (injection eo97 with f1_ f2_ f3_; have f4_ := f1_.symm; have f5_ := f3_.symm; clear f1_ f2_ f3_; subst f4_; subst f5_))
            refine start_ (n := 20) (S := fun w' => w'.cell? ⟨gb221, 0, none⟩ = some (.int .u64 x222000_2) ∧ w'.cell? ⟨gb221, 1, none⟩ = some (.slice Ao80 x222001_2.length co80)) (ds := []) #[false,false,false,false,false,false,false,false,false,false,false,false,false,false,false,false,false,false,false,false] (by kernel_rfl) rfl rfl ⟨(blk_cell BK221.out 0).trans rfl, (blk_cell BK221.out 1).trans rfl⟩ (fun hHeld => ?_); refine with_tabW tillrolllaw09_BbtAny.tab16 tillrolllaw09_BbtAny.bits16 (fun HT_ HW_ => ?_)
            generalize w83.drew = w95 at HO_222001 HO_228001 HO244 HO247 BK221 BK227 HB hHeld ⊢
            refine pure_ (i := 0) (N := some 82) (v := ?_) (a' := ?_) #[true,false,false,false,false,false,false,false,false,false,false,false,false,false,false,false,false,false,false,false] rfl rfl (any_of HT_.out (by kernel_rfl)) (fun _ _ _ h => h) (Or.inl ⟨by rfl, ?_⟩) ?_ ?_
            rotate_left
            · intro w'; go_simp; with_reducible rfl
            rotate_left
            · simp only [Act.put, sS, s0_, s1_, i64_w, i32_w]; rfl
            refine pure_ (i := 1) (N := some 83) (v := ?_) (a' := ?_) #[true,true,false,false,false,false,false,false,false,false,false,false,false,false,false,false,false,false,false,false] rfl rfl (any_of HT_.out (by kernel_rfl)) (fun _ _ _ h => h) (Or.inl ⟨by rfl, ?_⟩) ?_ ?_
            rotate_left
            · intro w'; go_simp; with_reducible rfl
            rotate_left
            · simp only [Act.put, sS, s0_, s1_, i64_w, i32_w]; rfl
            refine pure_ (i := 2) (N := some 84) (v := ?_) (a' := ?_) #[true,true,true,false,false,false,false,false,false,false,false,false,false,false,false,false,false,false,false,false] rfl rfl (any_of HT_.out (by kernel_rfl)) (fun _ _ _ h => h) (Or.inl ⟨by rfl, ?_⟩) ?_ ?_
            rotate_left
            · intro w'; go_simp; with_reducible rfl
            rotate_left
            · simp only [Act.put, sS, s0_, s1_, i64_w, i32_w]; rfl
            refine pure_ (i := 3) (N := some 85) (v := ?_) (a' := ?_) #[true,true,true,true,false,false,false,false,false,false,false,false,false,false,false,false,false,false,false,false] rfl rfl (any_of HT_.out (by kernel_rfl)) (fun _ _ _ h => h) (Or.inl ⟨by rfl, ?_⟩) ?_ ?_
            rotate_left
            · intro w'; go_simp; with_reducible rfl
            rotate_left
            · simp only [Act.put, sS, s0_, s1_, i64_w, i32_w]; rfl
            refine pure_ (i := 4) (N := some 86) (v := ?_) (a' := ?_) #[true,true,true,true,true,false,false,false,false,false,false,false,false,false,false,false,false,false,false,false] rfl rfl (any_of HT_.out (by kernel_rfl)) (fun _ _ _ h => h) (Or.inl ⟨by rfl, ?_⟩) ?_ ?_
            rotate_left
            · intro w'; go_simp; with_reducible rfl
            rotate_left
            · simp only [Act.put, sS, s0_, s1_, i64_w, i32_w]; rfl
            refine pure_ (i := 5) (N := some 87) (v := ?_) (a' := ?_) #[true,true,true,true,true,true,false,false,false,false,false,false,false,false,false,false,false,false,false,false] rfl rfl (any_of HT_.out (by kernel_rfl)) (fun _ _ _ h => h) (Or.inl ⟨by rfl, ?_⟩) ?_ ?_
            rotate_left
            · intro w'; go_simp; with_reducible rfl
            rotate_left
            · simp only [Act.put, sS, s0_, s1_, i64_w, i32_w]; rfl
            refine pure_ (i := 8) (N := some 90) (v := ?_) (a' := ?_) #[true,true,true,true,true,true,false,false,true,false,false,false,false,false,false,false,false,false,false,false] rfl rfl (any_of HT_.out (by kernel_rfl)) (fun _ _ _ h => h) (Or.inl ⟨by rfl, ?_⟩) ?_ ?_
            rotate_left
            · intro w'; go_simp; with_reducible rfl
            rotate_left
            · simp only [Act.put, sS, s0_, s1_, i64_w, i32_w]; rfl
            refine pure_ (i := 9) (N := some 91) (v := ?_) (a' := ?_) #[true,true,true,true,true,true,false,false,true,true,false,false,false,false,false,false,false,false,false,false] rfl rfl (any_of HT_.out (by kernel_rfl)) (fun _ _ _ h => h) (Or.inl ⟨by rfl, ?_⟩) ?_ ?_
            rotate_left
            · intro w'; go_simp; with_reducible rfl
            rotate_left
            · simp only [Act.put, sS, s0_, s1_, i64_w, i32_w]; rfl
            refine pure_ (i := 10) (N := some 92) (v := ?_) (a' := ?_) #[true,true,true,true,true,true,false,false,true,true,true,false,false,false,false,false,false,false,false,false] rfl rfl (any_of HT_.out (by kernel_rfl)) (fun _ _ _ h => h) (Or.inl ⟨by rfl, ?_⟩) ?_ ?_
            rotate_left
            · intro w'; go_simp; with_reducible rfl
            rotate_left
            · simp only [Act.put, sS, s0_, s1_, i64_w, i32_w]; rfl
            refine take_ (i := 6) (N := some 88) (v := ?_) (a' := ?_) #[true,true,true,true,true,true,true,false,true,true,true,false,false,false,false,false,false,false,false,false] rfl rfl (take_ofW HT_.out HW_.out (by kernel_rfl)) (fun _ _ _ h => h) (Or.inl ⟨by rfl, ?_⟩) hHeld ?_ ?_
            rotate_left
            ·
             rintro w' ⟨s0, s1⟩
             go_simp
             with_reducible rfl
            rotate_left
            · simp only [Act.put, sS, s0_, s1_, i64_w, i32_w]; rfl
            refine one_ (i := 7) (N := some 89) #[true,true,true,true,true,true,true,true,true,true,true,false,false,false,false,false,false,false,false,false] rfl rfl (one_of HT_.out (by kernel_rfl)) (by decide) (fun K hK => ?_)
            refine goes_ Try.func10 (by kernel_rfl) rfl #[.agg #[.int .u64 x222000_2, .slice Ao80 x222001_2.length co80]] (by rfl) rfl rfl (by (try simp only [List.map_toArray, List.map_cons, List.map_nil]); first | done | rfl | (simp only [List.length_drop, List.length_take]; rfl) | (simp only [ByteArray.size_append]; rfl) | (simp only [ByteArray.size_extract]; rfl)) ?_
            with_reducible refine (bbt_Table_Version.calls x222000_2 _ _ x222001_2 t248 _ ?side1 ?side2 A85.out).mono ?_
            (case side1 => repeat (first | exact (Kd.R_reads' HO_222001.out).2.2 | (with_reducible refine Kd.C_alloc ?_ _) | (with_reducible refine Kd.C_drewN ?_ _) | (with_reducible refine Kd.C_drew ?_)))
            (case side2 => exact (Kd.R_reads' HO_222001.out).2.1)
            rintro e w98 ⟨rfl, hb⟩
            refine ⟨_, rfl, ?_⟩
            have n0_ := Aside0.mk (Kd.R_below (by (with_reducible repeat (first | apply Kd.R_alloc | apply Kd.R_drewN | apply Kd.R_drew)); exact HO_222001.out) hb)
            have n1_ := Aside0.mk (Kd.R_below (by (with_reducible repeat (first | apply Kd.R_alloc | apply Kd.R_drewN | apply Kd.R_drew)); exact HO_228001.out) hb)
            have n2_ := Aside0.mk (Kd.R_below (by (with_reducible repeat (first | apply Kd.R_alloc | apply Kd.R_drewN | apply Kd.R_drew)); exact HO244.out) hb)
            have n3_ := Aside0.mk (Kd.R_below (by (with_reducible repeat (first | apply Kd.R_alloc | apply Kd.R_drewN | apply Kd.R_drew)); exact HO247.out) hb)
            have n4_ := Aside0.mk (blk_below (g := gb221) (o := .cells #[.int .u64 x222000_2, .slice Ao80 x222001_2.length co80] 26 (0, 0)) (by (with_reducible repeat (first | refine blk_drewN ?_ _ | refine blk_drew ?_ | refine blk_alloc ?_ _)); exact BK221.out) hb)
            have n5_ := Aside0.mk (blk_below (g := gb227) (o := .cells #[.int .u64 x228000_2, .slice Ao82 x228001_2.length co82] 26 (0, 0)) (by (with_reducible repeat (first | refine blk_drewN ?_ _ | refine blk_drew ?_ | refine blk_alloc ?_ _)); exact BK227.out) hb)
            have n6_ := Aside0.mk (below_step (by repeat (first | (with_reducible first | exact HB.out | apply below_alloc | apply pw_below_drewN | apply below_drew1 | refine below_set ?_ GE221.out | refine below_set ?_ GE227.out) | exact HB.out)) hb)
            clear HO_222001
            clear HO_228001
            clear HO244
            clear HO247
            clear BK221
            clear BK227
            clear HB
            have HO_222001 := n0_
            have HO_228001 := n1_
            have HO244 := n2_
            have HO247 := n3_
            have BK221 := n4_
            have BK227 := n5_
            have HB := n6_
            clear n0_ n1_ n2_ n3_ n4_ n5_ n6_
            (try clear hb)
            (try clear hb2)
            (try clear hk)
            (try clear hi)
            refine hK.out _ _ ⟨(blk_cell BK221.out 0).trans rfl, (blk_cell BK221.out 1).trans rfl⟩ (fun hHeld => ?_)
            clear hK K
            refine norm_ (a' := ?_) ?_ ?_
            rotate_left
            ·
             show Act.put _ (some 89) _ = _
             simp only [Act.put, sS, s0_, s1_, i64_w, i32_w]
             rfl
            refine pure_ (i := 11) (N := some 93) (v := ?_) (a' := ?_) #[true,true,true,true,true,true,true,true,true,true,true,true,false,false,false,false,false,false,false,false] rfl rfl (any_of HT_.out (by kernel_rfl)) (fun _ _ _ h => h) (Or.inl ⟨by rfl, ?_⟩) ?_ ?_
            rotate_left
            · intro w'; go_simp; with_reducible rfl
            rotate_left
            · simp only [Act.put, sS, s0_, s1_, i64_w, i32_w]; rfl
            refine pure_ (i := 12) (N := some 94) (v := ?_) (a' := ?_) #[true,true,true,true,true,true,true,true,true,true,true,true,true,false,false,false,false,false,false,false] rfl rfl (any_of HT_.out (by kernel_rfl)) (fun _ _ _ h => h) (Or.inl ⟨by rfl, ?_⟩) ?_ ?_
            rotate_left
            · intro w'; go_simp; with_reducible rfl
            rotate_left
            · simp only [Act.put, sS, s0_, s1_, i64_w, i32_w]; rfl
            refine pure_ (i := 13) (N := some 95) (v := ?_) (a' := ?_) #[true,true,true,true,true,true,true,true,true,true,true,true,true,true,false,false,false,false,false,false] rfl rfl (any_of HT_.out (by kernel_rfl)) (fun _ _ _ h => h) (Or.inl ⟨by rfl, ?_⟩) ?_ ?_
            rotate_left
            · intro w'; go_simp; with_reducible rfl
            rotate_left
            · simp only [Act.put, sS, s0_, s1_, i64_w, i32_w]; rfl
            refine pure_ (i := 14) (N := some 96) (v := undef) (a' := ?_) #[true,true,true,true,true,true,true,true,true,true,true,true,true,true,true,false,false,false,false,false] rfl rfl (any_of HT_.out (by kernel_rfl)) (fun _ _ _ h => h) (Or.inr ⟨by rfl, rfl⟩) ?_ ?_
            rotate_left
            · simp only [Act.put, sS, s0_, s1_, i64_w, i32_w]; rfl
            refine pure_ (i := 15) (N := some 97) (v := undef) (a' := ?_) #[true,true,true,true,true,true,true,true,true,true,true,true,true,true,true,true,false,false,false,false] rfl rfl (any_of HT_.out (by kernel_rfl)) (fun _ _ _ h => h) (Or.inr ⟨by rfl, rfl⟩) ?_ ?_
            rotate_left
            · simp only [Act.put, sS, s0_, s1_, i64_w, i32_w]; rfl
            refine pure_ (i := 16) (N := some 98) (v := undef) (a' := ?_) #[true,true,true,true,true,true,true,true,true,true,true,true,true,true,true,true,true,false,false,false] rfl rfl (any_of HT_.out (by kernel_rfl)) (fun _ _ _ h => h) (Or.inr ⟨by rfl, rfl⟩) ?_ ?_
            rotate_left
            · simp only [Act.put, sS, s0_, s1_, i64_w, i32_w]; rfl
            refine pure_ (i := 17) (N := some 99) (v := undef) (a' := ?_) #[true,true,true,true,true,true,true,true,true,true,true,true,true,true,true,true,true,true,false,false] rfl rfl (any_of HT_.out (by kernel_rfl)) (fun _ _ _ h => h) (Or.inr ⟨by rfl, rfl⟩) ?_ ?_
            rotate_left
            · simp only [Act.put, sS, s0_, s1_, i64_w, i32_w]; rfl
            refine pure_ (i := 18) (N := some 100) (v := undef) (a' := ?_) #[true,true,true,true,true,true,true,true,true,true,true,true,true,true,true,true,true,true,true,false] rfl rfl (any_of HT_.out (by kernel_rfl)) (fun _ _ _ h => h) (Or.inr ⟨by rfl, rfl⟩) ?_ ?_
            rotate_left
            · simp only [Act.put, sS, s0_, s1_, i64_w, i32_w]; rfl
            refine pure_ (i := 19) (N := some 101) (v := ?_) (a' := ?_) #[true,true,true,true,true,true,true,true,true,true,true,true,true,true,true,true,true,true,true,true] rfl rfl (any_of HT_.out (by kernel_rfl)) (fun _ _ _ h => h) (Or.inl ⟨by rfl, ?_⟩) ?_ ?_
            rotate_left
            · intro w'; go_simp; with_reducible rfl
            rotate_left
            · simp only [Act.put, sS, s0_, s1_, i64_w, i32_w]; rfl
            refine done_ (done_of HT_.out (by kernel_rfl)) ?_
            try go_wp2
            go_meet
            case rel => exact ⟨_, (true), (by first | rfl | (simp; done) | (simp [*]; done)), H', ⟨by have := HJ7.out; have := HK2.out; first | omega | exact Nat.le_refl _⟩, ⟨by (with_reducible repeat (first | apply Kd.R_alloc | apply Kd.R_drewN | apply Kd.R_drew)); exact Kd.R_mono HO244.out (fun _ hk => hk.2)⟩, ⟨by (with_reducible repeat (first | apply Kd.R_alloc | apply Kd.R_drewN | apply Kd.R_drew)); exact Kd.R_mono HO247.out (fun _ hk => hk.2)⟩, ⟨by (with_reducible repeat (first | apply Kd.R_alloc | apply Kd.R_drewN | apply Kd.R_drew)); exact HO_222001.out⟩, ⟨by (with_reducible repeat (first | apply Kd.R_alloc | apply Kd.R_drewN | apply Kd.R_drew)); exact HO_228001.out⟩, ⟨by (with_reducible repeat (first | refine blk_drewN ?_ _ | refine blk_drew ?_ | refine blk_alloc ?_ _)); exact BK221.out⟩, ⟨by (with_reducible repeat (first | refine blk_drewN ?_ _ | refine blk_drew ?_ | refine blk_alloc ?_ _)); exact BK227.out⟩, ⟨by repeat (first | (with_reducible first | exact HB.out | apply below_alloc | apply pw_below_drewN | apply below_drew1 | refine below_set ?_ GE221.out | refine below_set ?_ GE227.out) | exact HB.out)⟩⟩
          ·
           rw [if_neg c84] at H
           have c84b0 : ((t242.length : Int) == (t245.length : Int)) = false := beq_eq_false_iff_ne.mpr c84
           have c84b1 : ((t242.length : Int) != (t245.length : Int)) = true := bne_iff_ne.mpr c84
           have c84b2 : (t242.length == t245.length) = false := by first | simpa using c84 | (simp at c84 ⊢; omega)
           (first | rw [c84b0] | (simp only [i64_w, i32_w]; rw [c84b0]) | skip)
           have H' := Aside0.mk H
           clear H
           try go_wp2
           have n0_ := Aside0.mk (Kd.R_drew HO_222001.out)
           have n1_ := Aside0.mk (Kd.R_drew HO_228001.out)
           have n2_ := Aside0.mk (Kd.R_drew HO244.out)
           have n3_ := Aside0.mk (Kd.R_drew HO247.out)
           have n4_ := Aside0.mk (blk_drew BK221.out)
           have n5_ := Aside0.mk (blk_drew BK227.out)
           have n6_ := Aside0.mk (below_drew1 HB.out)
           clear HO_222001
           clear HO_228001
           clear HO244
           clear HO247
           clear BK221
           clear BK227
           clear HB
           have HO_222001 := n0_
           have HO_228001 := n1_
           have HO244 := n2_
           have HO247 := n3_
           have BK221 := n4_
           have BK227 := n5_
           have HB := n6_
           clear n0_ n1_ n2_ n3_ n4_ n5_ n6_
           obtain ⟨Ao100, co100, eo100⟩ := Kd.R_slice HO244.out
           (first | subst eo100 | (injection eo100 with f1_ f2_ f3_; have f4_ := f1_.symm; have f5_ := f3_.symm; clear f1_ f2_ f3_; subst f4_; subst f5_))
           obtain ⟨Ao101, co101, eo101⟩ := Kd.R_slice HO247.out
           (first | subst eo101 | (injection eo101 with f1_ f2_ f3_; have f4_ := f1_.symm; have f5_ := f3_.symm; clear f1_ f2_ f3_; subst f4_; subst f5_))
           refine start_ (n := 20) (S := fun w' => True) (ds := []) #[false,false,false,false,false,false,false,false,false,false,false,false,false,false,false,false,false,false,false,false] (by kernel_rfl) rfl rfl trivial (fun hHeld => ?_); refine with_tabW tillrolllaw09_BbtAny.tab16 tillrolllaw09_BbtAny.bits16 (fun HT_ HW_ => ?_)
           generalize w83.drew = w99 at HO_222001 HO_228001 HO244 HO247 BK221 BK227 HB hHeld ⊢
           refine pure_ (i := 0) (N := some 82) (v := ?_) (a' := ?_) #[true,false,false,false,false,false,false,false,false,false,false,false,false,false,false,false,false,false,false,false] rfl rfl (any_of HT_.out (by kernel_rfl)) (fun _ _ _ h => h) (Or.inl ⟨by rfl, ?_⟩) ?_ ?_
           rotate_left
           · intro w'; go_simp; with_reducible rfl
           rotate_left
           · simp only [Act.put, sS, s0_, s1_, i64_w, i32_w]; rfl
           refine pure_ (i := 1) (N := some 83) (v := ?_) (a' := ?_) #[true,true,false,false,false,false,false,false,false,false,false,false,false,false,false,false,false,false,false,false] rfl rfl (any_of HT_.out (by kernel_rfl)) (fun _ _ _ h => h) (Or.inl ⟨by rfl, ?_⟩) ?_ ?_
           rotate_left
           · intro w'; go_simp; with_reducible rfl
           rotate_left
           · simp only [Act.put, sS, s0_, s1_, i64_w, i32_w]; rfl
           refine pure_ (i := 2) (N := some 84) (v := ?_) (a' := ?_) #[true,true,true,false,false,false,false,false,false,false,false,false,false,false,false,false,false,false,false,false] rfl rfl (any_of HT_.out (by kernel_rfl)) (fun _ _ _ h => h) (Or.inl ⟨by rfl, ?_⟩) ?_ ?_
           rotate_left
           · intro w'; go_simp; with_reducible rfl
           rotate_left
           · simp only [Act.put, sS, s0_, s1_, i64_w, i32_w]; rfl
           refine pure_ (i := 3) (N := some 85) (v := ?_) (a' := ?_) #[true,true,true,true,false,false,false,false,false,false,false,false,false,false,false,false,false,false,false,false] rfl rfl (any_of HT_.out (by kernel_rfl)) (fun _ _ _ h => h) (Or.inl ⟨by rfl, ?_⟩) ?_ ?_
           rotate_left
           · intro w'; go_simp; with_reducible rfl
           rotate_left
           · simp only [Act.put, sS, s0_, s1_, i64_w, i32_w]; rfl
           refine pure_ (i := 4) (N := some 86) (v := ?_) (a' := ?_) #[true,true,true,true,true,false,false,false,false,false,false,false,false,false,false,false,false,false,false,false] rfl rfl (any_of HT_.out (by kernel_rfl)) (fun _ _ _ h => h) (Or.inl ⟨by rfl, ?_⟩) ?_ ?_
           rotate_left
           · intro w'; go_simp; with_reducible rfl
           rotate_left
           · simp only [Act.put, sS, s0_, s1_, i64_w, i32_w]; rfl
           refine pure_ (i := 5) (N := some 87) (v := ?_) (a' := ?_) #[true,true,true,true,true,true,false,false,false,false,false,false,false,false,false,false,false,false,false,false] rfl rfl (any_of HT_.out (by kernel_rfl)) (fun _ _ _ h => h) (Or.inl ⟨by rfl, ?_⟩) ?_ ?_
           rotate_left
           · intro w'; go_simp; with_reducible rfl
           rotate_left
           · simp only [Act.put, sS, s0_, s1_, i64_w, i32_w]; rfl
           refine pure_ (i := 6) (N := some 88) (v := undef) (a' := ?_) #[true,true,true,true,true,true,true,false,false,false,false,false,false,false,false,false,false,false,false,false] rfl rfl (any_of HT_.out (by kernel_rfl)) (fun _ _ _ h => h) (Or.inr ⟨by rfl, rfl⟩) ?_ ?_
           rotate_left
           · simp only [Act.put, sS, s0_, s1_, i64_w, i32_w]; rfl
           refine pure_ (i := 7) (N := some 89) (v := undef) (a' := ?_) #[true,true,true,true,true,true,true,true,false,false,false,false,false,false,false,false,false,false,false,false] rfl rfl (any_of HT_.out (by kernel_rfl)) (fun _ _ _ h => h) (Or.inr ⟨by rfl, rfl⟩) ?_ ?_
           rotate_left
           · simp only [Act.put, sS, s0_, s1_, i64_w, i32_w]; rfl
           refine pure_ (i := 8) (N := some 90) (v := undef) (a' := ?_) #[true,true,true,true,true,true,true,true,true,false,false,false,false,false,false,false,false,false,false,false] rfl rfl (any_of HT_.out (by kernel_rfl)) (fun _ _ _ h => h) (Or.inr ⟨by rfl, rfl⟩) ?_ ?_
           rotate_left
           · simp only [Act.put, sS, s0_, s1_, i64_w, i32_w]; rfl
           refine pure_ (i := 9) (N := some 91) (v := undef) (a' := ?_) #[true,true,true,true,true,true,true,true,true,true,false,false,false,false,false,false,false,false,false,false] rfl rfl (any_of HT_.out (by kernel_rfl)) (fun _ _ _ h => h) (Or.inr ⟨by rfl, rfl⟩) ?_ ?_
           rotate_left
           · simp only [Act.put, sS, s0_, s1_, i64_w, i32_w]; rfl
           refine pure_ (i := 10) (N := some 92) (v := undef) (a' := ?_) #[true,true,true,true,true,true,true,true,true,true,true,false,false,false,false,false,false,false,false,false] rfl rfl (any_of HT_.out (by kernel_rfl)) (fun _ _ _ h => h) (Or.inr ⟨by rfl, rfl⟩) ?_ ?_
           rotate_left
           · simp only [Act.put, sS, s0_, s1_, i64_w, i32_w]; rfl
           refine pure_ (i := 11) (N := some 93) (v := undef) (a' := ?_) #[true,true,true,true,true,true,true,true,true,true,true,true,false,false,false,false,false,false,false,false] rfl rfl (any_of HT_.out (by kernel_rfl)) (fun _ _ _ h => h) (Or.inr ⟨by rfl, rfl⟩) ?_ ?_
           rotate_left
           · simp only [Act.put, sS, s0_, s1_, i64_w, i32_w]; rfl
           refine pure_ (i := 12) (N := some 94) (v := ?_) (a' := ?_) #[true,true,true,true,true,true,true,true,true,true,true,true,true,false,false,false,false,false,false,false] rfl rfl (any_of HT_.out (by kernel_rfl)) (fun _ _ _ h => h) (Or.inl ⟨by rfl, ?_⟩) ?_ ?_
           rotate_left
           · intro w'; go_simp; with_reducible rfl
           rotate_left
           · simp only [Act.put, sS, s0_, s1_, i64_w, i32_w]; rfl
           refine pure_ (i := 13) (N := some 95) (v := ?_) (a' := ?_) #[true,true,true,true,true,true,true,true,true,true,true,true,true,true,false,false,false,false,false,false] rfl rfl (any_of HT_.out (by kernel_rfl)) (fun _ _ _ h => h) (Or.inl ⟨by rfl, ?_⟩) ?_ ?_
           rotate_left
           · intro w'; go_simp; with_reducible rfl
           rotate_left
           · simp only [Act.put, sS, s0_, s1_, i64_w, i32_w]; rfl
           refine pure_ (i := 14) (N := some 96) (v := undef) (a' := ?_) #[true,true,true,true,true,true,true,true,true,true,true,true,true,true,true,false,false,false,false,false] rfl rfl (any_of HT_.out (by kernel_rfl)) (fun _ _ _ h => h) (Or.inr ⟨by rfl, rfl⟩) ?_ ?_
           rotate_left
           · simp only [Act.put, sS, s0_, s1_, i64_w, i32_w]; rfl
           refine pure_ (i := 15) (N := some 97) (v := undef) (a' := ?_) #[true,true,true,true,true,true,true,true,true,true,true,true,true,true,true,true,false,false,false,false] rfl rfl (any_of HT_.out (by kernel_rfl)) (fun _ _ _ h => h) (Or.inr ⟨by rfl, rfl⟩) ?_ ?_
           rotate_left
           · simp only [Act.put, sS, s0_, s1_, i64_w, i32_w]; rfl
           refine pure_ (i := 16) (N := some 98) (v := undef) (a' := ?_) #[true,true,true,true,true,true,true,true,true,true,true,true,true,true,true,true,true,false,false,false] rfl rfl (any_of HT_.out (by kernel_rfl)) (fun _ _ _ h => h) (Or.inr ⟨by rfl, rfl⟩) ?_ ?_
           rotate_left
           · simp only [Act.put, sS, s0_, s1_, i64_w, i32_w]; rfl
           refine pure_ (i := 17) (N := some 99) (v := undef) (a' := ?_) #[true,true,true,true,true,true,true,true,true,true,true,true,true,true,true,true,true,true,false,false] rfl rfl (any_of HT_.out (by kernel_rfl)) (fun _ _ _ h => h) (Or.inr ⟨by rfl, rfl⟩) ?_ ?_
           rotate_left
           · simp only [Act.put, sS, s0_, s1_, i64_w, i32_w]; rfl
           refine pure_ (i := 18) (N := some 100) (v := undef) (a' := ?_) #[true,true,true,true,true,true,true,true,true,true,true,true,true,true,true,true,true,true,true,false] rfl rfl (any_of HT_.out (by kernel_rfl)) (fun _ _ _ h => h) (Or.inr ⟨by rfl, rfl⟩) ?_ ?_
           rotate_left
           · simp only [Act.put, sS, s0_, s1_, i64_w, i32_w]; rfl
           refine pure_ (i := 19) (N := some 101) (v := ?_) (a' := ?_) #[true,true,true,true,true,true,true,true,true,true,true,true,true,true,true,true,true,true,true,true] rfl rfl (any_of HT_.out (by kernel_rfl)) (fun _ _ _ h => h) (Or.inl ⟨by rfl, ?_⟩) ?_ ?_
           rotate_left
           · intro w'; go_simp; with_reducible rfl
           rotate_left
           · simp only [Act.put, sS, s0_, s1_, i64_w, i32_w]; rfl
           refine done_ (done_of HT_.out (by kernel_rfl)) ?_
           try go_wp2
           go_meet
           case rel => exact ⟨_, (true), (by first | rfl | (simp; done) | (simp [*]; done)), H', ⟨by have := HJ7.out; have := HK2.out; first | omega | exact Nat.le_refl _⟩, ⟨by (with_reducible repeat (first | apply Kd.R_alloc | apply Kd.R_drewN | apply Kd.R_drew)); exact Kd.R_mono HO244.out (fun _ hk => hk.2)⟩, ⟨by (with_reducible repeat (first | apply Kd.R_alloc | apply Kd.R_drewN | apply Kd.R_drew)); exact Kd.R_mono HO247.out (fun _ hk => hk.2)⟩, ⟨by (with_reducible repeat (first | apply Kd.R_alloc | apply Kd.R_drewN | apply Kd.R_drew)); exact HO_222001.out⟩, ⟨by (with_reducible repeat (first | apply Kd.R_alloc | apply Kd.R_drewN | apply Kd.R_drew)); exact HO_228001.out⟩, ⟨by (with_reducible repeat (first | refine blk_drewN ?_ _ | refine blk_drew ?_ | refine blk_alloc ?_ _)); exact BK221.out⟩, ⟨by (with_reducible repeat (first | refine blk_drewN ?_ _ | refine blk_drew ?_ | refine blk_alloc ?_ _)); exact BK227.out⟩, ⟨by repeat (first | (with_reducible first | exact HB.out | apply below_alloc | apply pw_below_drewN | apply below_drew1 | refine below_set ?_ GE221.out | refine below_set ?_ GE227.out) | exact HB.out)⟩⟩
         case rest =>
          clear HC78
          try clear c1
          try clear p2
          try clear c8
          try clear c10
          try clear c84
          try clear c84b0
          try clear c84b1
          try clear c84b2
          try clear c86
          try clear c86b0
          try clear c86b1
          obtain ⟨kq, x101_77, rfl, HA, HJ77, HO_12, HO_13, HO_222001, HO_228001, BK221, BK227, HB⟩ := hcut
          cases kq with
          | zero => exact absurd HA.out (by simp [tillrolllaw09_BbtAny.j2])
          | succ kj77 =>
           have H := HA.out
           clear HA
           simp only [tillrolllaw09_BbtAny.j2] at H
           by_cases c102 : x101_77 = true
           ·
            subst c102
            have H1 : (some false) = some r := by rw [if_pos rfl] at H; exact H
            clear H
            have H := H1
            clear H1
            obtain rfl := Option.some.inj H
            go_wp2
            go_ret
            exact ⟨by first | rfl | (simp [errW_none, errW_some] <;> rfl) | (simp only [← hji5]; first | rfl | (simp [errW_none, errW_some] <;> rfl)) | (simp [*, errW_none, errW_some] <;> rfl), by repeat (first | (with_reducible first | exact HB.out | apply below_alloc | apply pw_below_drewN | apply below_drew1 | refine below_set ?_ GE221.out | refine below_set ?_ GE227.out) | exact HB.out)⟩
           ·
            replace c102 := Bool.eq_false_iff.mpr c102
            subst c102
            have H1 : (tillrolllaw09_BbtAny.l1 kj77 t242 t245 (t242.length : Int) 0) = some r := by rw [if_neg (show ¬ (false = true) by decide)] at H; exact H
            clear H
            have H := H1
            clear H1
            have H' := Aside0.mk H
            clear H
            obtain ⟨Ao103, co103, eo103⟩ := Kd.R_slice HO_12.out
            subst eo103
            go_wp2
            go_loopg [104] kj77 (fun kq v104 w' => ∃ (x104_4 : Int), v104 = .int .i64 x104_4 ∧ Aside0 (tillrolllaw09_BbtAny.l1 kq t242 t245 (t242.length : Int) x104_4 = some r) ∧ Aside0 (kq ≤ kj77) ∧ Aside0 (Kd.R (Kd.int .i64) 3 w' w.heap.size (fun k_ => some k_ ≠ (v246 : Value).ownBlock) (.slice Ao103 t242.length co103) t242) ∧ Aside0 (Kd.R (Kd.int .i64) 3 w' w.heap.size (fun k_ => some k_ ≠ ((.slice Ao103 t242.length co103) : Value).ownBlock) v246 t245) ∧ Aside0 (Kd.R Kd.bool 4 w' w.heap.size (fun k_ => some k_ ≠ ((.slice Ao82 x228001_2.length co82) : Value).ownBlock) (.slice Ao80 x222001_2.length co80) x222001_2) ∧ Aside0 (Kd.R Kd.bool 4 w' w.heap.size (fun k_ => some k_ ≠ ((.slice Ao80 x222001_2.length co80) : Value).ownBlock) (.slice Ao82 x228001_2.length co82) x228001_2) ∧ Aside0 (w'.heap[gb221]? = some (.cells #[.int .u64 x222000_2, (.slice Ao80 x222001_2.length co80)] 26 (0, 0))) ∧ Aside0 (w'.heap[gb227]? = some (.cells #[.int .u64 x228000_2, (.slice Ao82 x228001_2.length co82)] 26 (0, 0))) ∧ Aside0 (Below w.heap.size w w'))
            case atStart => exact ⟨(0), (by first | rfl | (simp; done) | (simp [*]; done)), H', ⟨Nat.le_refl _⟩, ⟨by (with_reducible repeat (first | apply Kd.R_alloc | apply Kd.R_drewN | apply Kd.R_drew)); exact HO_12.out⟩, ⟨by (with_reducible repeat (first | apply Kd.R_alloc | apply Kd.R_drewN | apply Kd.R_drew)); exact HO_13.out⟩, ⟨by (with_reducible repeat (first | apply Kd.R_alloc | apply Kd.R_drewN | apply Kd.R_drew)); exact HO_222001.out⟩, ⟨by (with_reducible repeat (first | apply Kd.R_alloc | apply Kd.R_drewN | apply Kd.R_drew)); exact HO_228001.out⟩, ⟨by (with_reducible repeat (first | refine blk_drewN ?_ _ | refine blk_drew ?_ | refine blk_alloc ?_ _)); exact BK221.out⟩, ⟨by (with_reducible repeat (first | refine blk_drewN ?_ _ | refine blk_drew ?_ | refine blk_alloc ?_ _)); exact BK227.out⟩, ⟨by repeat (first | (with_reducible first | exact HB.out | apply below_alloc | apply pw_below_drewN | apply below_drew1 | refine below_set ?_ GE221.out | refine below_set ?_ GE227.out) | exact HB.out)⟩⟩
            case round =>
             clear H'
             try clear c1
             try clear p2
             try clear c8
             try clear c10
             try clear c84
             try clear c84b0
             try clear c84b1
             try clear c84b2
             try clear c86
             try clear c86b0
             try clear c86b1
             try clear c102
             try clear p2
             obtain ⟨x104_4, rfl, HA, HK4, HO_12, HO_13, HO_222001, HO_228001, BK221, BK227, HB⟩ := hrel
             cases gk with
             | zero => exact absurd HA.out (by simp [tillrolllaw09_BbtAny.l1])
             | succ k4 =>
              have H := HA.out
              clear HA
              simp only [tillrolllaw09_BbtAny.l1] at H
              by_cases c104 : x104_4 < (t242.length : Int)
              ·
               rw [if_pos c104] at H
               have c104b0 : decide (x104_4 < (t242.length : Int)) = true := decide_eq_true c104
               clear c104
               by_cases c105 : 0 ≤ x104_4
               ·
                rw [if_pos c105] at H
                have c105b0 : decide (0 ≤ x104_4) = true := decide_eq_true c105
                clear c105
                by_cases c106 : x104_4 < (t242.length : Int)
                ·
                 rw [if_pos c106] at H
                 have c106b0 : decide (x104_4 < (t242.length : Int)) = true := decide_eq_true c106
                 clear c106
                 by_cases c107 : x104_4 < (t245.length : Int)
                 ·
                  rw [if_pos c107] at H
                  have c107b0 : decide (x104_4 < (t245.length : Int)) = true := decide_eq_true c107
                  clear c107
                  by_cases c108 : (rd t242 x104_4) = (rd t245 x104_4)
                  ·
                   rw [if_pos c108] at H
                   have c108b0 : ((rd t242 x104_4) == (rd t245 x104_4)) = true := beq_iff_eq.mpr c108
                   have c108b1 : ((rd t242 x104_4) != (rd t245 x104_4)) = false := bne_eq_false_iff_eq.mpr c108
                   clear c108
                   by_cases c109 : x104_4 > 0
                   ·
                    rw [if_pos c109] at H
                    have c109b0 : decide (0 < x104_4) = true := decide_eq_true c109
                    clear c109
                    obtain ⟨ji110, hji110⟩ : ∃ j_ : Int, (wrap64 (x104_4 - 1)) = j_ := ⟨_, rfl⟩
                    replace H : (if 0 ≤ (ji110) then (if (ji110) < (t242.length : Int) then (if (rd t242 x104_4) ≤ (rd t242 (ji110)) then (some false) else (tillrolllaw09_BbtAny.l1 k4 t242 t245 (t242.length : Int) (wrap64 (x104_4 + 1)))) else (none)) else (none)) = some r := by first | (rw [hji110] at H; exact H) | (simp only [hji110] at H ⊢; exact H)
                    have hji110w : (IntKind.i64.wrap (x104_4 - 1)) = ji110 := (i64_w _).trans hji110
                    by_cases c111 : 0 ≤ (ji110)
                    ·
                     rw [if_pos c111] at H
                     have c111b0 : decide (0 ≤ (ji110)) = true := decide_eq_true c111
                     clear c111
                     by_cases c112 : (ji110) < (t242.length : Int)
                     ·
                      rw [if_pos c112] at H
                      have c112b0 : decide ((ji110) < (t242.length : Int)) = true := decide_eq_true c112
                      clear c112
                      by_cases c113 : (rd t242 x104_4) ≤ (rd t242 (ji110))
                      ·
                       rw [if_pos c113] at H
                       have c113b0 : decide ((rd t242 x104_4) ≤ (rd t242 (ji110))) = true := decide_eq_true c113
                       clear c113
                       obtain rfl := Option.some.inj H
                       try go_wp2
                       have n0_ := Aside0.mk (Kd.R_drew HO_12.out)
                       have n1_ := Aside0.mk (Kd.R_drew HO_13.out)
                       have n2_ := Aside0.mk (Kd.R_drew HO_222001.out)
                       have n3_ := Aside0.mk (Kd.R_drew HO_228001.out)
                       have n4_ := Aside0.mk (blk_drew BK221.out)
                       have n5_ := Aside0.mk (blk_drew BK227.out)
                       have n6_ := Aside0.mk (below_drew1 HB.out)
                       clear HO_12
                       clear HO_13
                       clear HO_222001
                       clear HO_228001
                       clear BK221
                       clear BK227
                       clear HB
                       have HO_12 := n0_
                       have HO_13 := n1_
                       have HO_222001 := n2_
                       have HO_228001 := n3_
                       have BK221 := n4_
                       have BK227 := n5_
                       have HB := n6_
                       clear n0_ n1_ n2_ n3_ n4_ n5_ n6_
                       have p251 : 0 ≤ (x104_4 : Int) := of_decide_eq_true (by first | (with_reducible assumption) | assumption)
                       have q251 : x104_4 < (t242.length : Int) := of_decide_eq_true (by first | (with_reducible assumption) | assumption)
                       obtain ⟨ad251, e251, hx251_0⟩ := Kd.at_int (Kd.R_reads' HO_12.out).2.2 x104_4 p251 q251
                       cases e251
                       replace p251 := eq_true p251
                       replace q251 := eq_true q251
                       obtain ⟨Ao115, co115, eo115⟩ := Kd.R_slice HO_13.out
                       (first | subst eo115 | (injection eo115 with f1_ f2_ f3_; have f4_ := f1_.symm; have f5_ := f3_.symm; clear f1_ f2_ f3_; subst f4_; subst f5_))
                       have p252 : 0 ≤ (x104_4 : Int) := of_decide_eq_true (by first | (with_reducible assumption) | assumption)
                       have q252 : x104_4 < (t245.length : Int) := of_decide_eq_true (by first | (with_reducible assumption) | assumption)
                       obtain ⟨ad252, e252, hx252_0⟩ := Kd.at_int (Kd.R_reads' HO_13.out).2.2 x104_4 p252 q252
                       cases e252
                       replace p252 := eq_true p252
                       replace q252 := eq_true q252
                       have p253 : 0 ≤ (x104_4 : Int) := of_decide_eq_true (by first | (with_reducible assumption) | assumption)
                       have q253 : x104_4 < (t242.length : Int) := of_decide_eq_true (by first | (with_reducible assumption) | assumption)
                       obtain ⟨ad253, e253, hx253_0⟩ := Kd.at_int (Kd.R_reads' HO_12.out).2.2 x104_4 p253 q253
                       obtain rfl : ad251 = ad253 := (by injection e253)
                       replace p253 := eq_true p253
                       replace q253 := eq_true q253
                       have p254 : 0 ≤ ((ji110) : Int) := of_decide_eq_true (by first | (with_reducible assumption) | assumption)
                       have q254 : (ji110) < (t242.length : Int) := of_decide_eq_true (by first | (with_reducible assumption) | assumption)
                       obtain ⟨ad254, e254, hx254_0⟩ := Kd.at_int (Kd.R_reads' HO_12.out).2.2 (ji110) p254 q254
                       obtain rfl : ad251 = ad254 := (by injection e254)
                       replace p254 := eq_true p254
                       replace q254 := eq_true q254
                       refine start_ (n := 25) (S := fun w' => w'.cell? (ad251.add (x104_4).toNat) = some (.int .i64 (rd t242 x104_4)) ∧ w'.cell? (ad252.add (x104_4).toNat) = some (.int .i64 (rd t245 x104_4)) ∧ w'.cell? (ad251.add (x104_4).toNat) = some (.int .i64 (rd t242 x104_4)) ∧ w'.cell? (ad251.add ((ji110)).toNat) = some (.int .i64 (rd t242 (ji110)))) (ds := []) #[false,false,false,false,false,false,false,false,false,false,false,false,false,false,false,false,false,false,false,false,false,false,false,false,false] (by kernel_rfl) rfl rfl ⟨hx251_0, hx252_0, hx253_0, hx254_0⟩ (fun hHeld => ?_); refine with_tabW tillrolllaw09_BbtAny.tab21 tillrolllaw09_BbtAny.bits21 (fun HT_ HW_ => ?_)
                       generalize wr.drew = w114 at HO_12 HO_13 HO_222001 HO_228001 BK221 BK227 HB hx251_0 hx252_0 hx253_0 hx254_0 hHeld ⊢
                       refine pure_ (i := 0) (N := some 107) (v := ?_) (a' := ?_) #[true,false,false,false,false,false,false,false,false,false,false,false,false,false,false,false,false,false,false,false,false,false,false,false,false] rfl rfl (any_of HT_.out (by kernel_rfl)) (fun _ _ _ h => h) (Or.inl ⟨by rfl, ?_⟩) ?_ ?_
                       rotate_left
                       · intro w'; go_simp; with_reducible rfl
                       rotate_left
                       · simp only [Act.put, sS, s0_, s1_, i64_w, i32_w]; rfl
                       refine pure_ (i := 1) (N := some 108) (v := ?_) (a' := ?_) #[true,true,false,false,false,false,false,false,false,false,false,false,false,false,false,false,false,false,false,false,false,false,false,false,false] rfl rfl (any_of HT_.out (by kernel_rfl)) (fun _ _ _ h => h) (Or.inl ⟨by rfl, ?_⟩) ?_ ?_
                       rotate_left
                       · intro w'; go_simp; with_reducible rfl
                       rotate_left
                       · simp only [Act.put, sS, s0_, s1_, i64_w, i32_w]; rfl
                       refine pure_ (i := 2) (N := some 109) (v := ?_) (a' := ?_) #[true,true,true,false,false,false,false,false,false,false,false,false,false,false,false,false,false,false,false,false,false,false,false,false,false] rfl rfl (any_of HT_.out (by kernel_rfl)) (fun _ _ _ h => h) (Or.inl ⟨by rfl, ?_⟩) ?_ ?_
                       rotate_left
                       · intro w'; go_simp; with_reducible rfl
                       rotate_left
                       · simp only [Act.put, sS, s0_, s1_, i64_w, i32_w]; rfl
                       refine pure_ (i := 4) (N := some 111) (v := ?_) (a' := ?_) #[true,true,true,false,true,false,false,false,false,false,false,false,false,false,false,false,false,false,false,false,false,false,false,false,false] rfl rfl (any_of HT_.out (by kernel_rfl)) (fun _ _ _ h => h) (Or.inl ⟨by rfl, ?_⟩) ?_ ?_
                       rotate_left
                       · intro w'; go_simp; with_reducible rfl
                       rotate_left
                       · simp only [Act.put, sS, s0_, s1_, i64_w, i32_w]; rfl
                       refine pure_ (i := 5) (N := some 112) (v := ?_) (a' := ?_) #[true,true,true,false,true,true,false,false,false,false,false,false,false,false,false,false,false,false,false,false,false,false,false,false,false] rfl rfl (any_of HT_.out (by kernel_rfl)) (fun _ _ _ h => h) (Or.inl ⟨by rfl, ?_⟩) ?_ ?_
                       rotate_left
                       · intro w'; go_simp; with_reducible rfl
                       rotate_left
                       · simp only [Act.put, sS, s0_, s1_, i64_w, i32_w]; rfl
                       refine pure_ (i := 6) (N := some 113) (v := ?_) (a' := ?_) #[true,true,true,false,true,true,true,false,false,false,false,false,false,false,false,false,false,false,false,false,false,false,false,false,false] rfl rfl (any_of HT_.out (by kernel_rfl)) (fun _ _ _ h => h) (Or.inl ⟨by rfl, ?_⟩) ?_ ?_
                       rotate_left
                       · intro w'; go_simp; with_reducible rfl
                       rotate_left
                       · simp only [Act.put, sS, s0_, s1_, i64_w, i32_w]; rfl
                       refine take_ (i := 3) (N := some 110) (v := ?_) (a' := ?_) #[true,true,true,true,true,true,true,false,false,false,false,false,false,false,false,false,false,false,false,false,false,false,false,false,false] rfl rfl (take_ofW HT_.out HW_.out (by kernel_rfl)) (fun _ _ _ h => h) (Or.inl ⟨by rfl, ?_⟩) hHeld ?_ ?_
                       rotate_left
                       ·
                        rintro w' ⟨s0, s1, s2, s3⟩
                        go_simp
                        with_reducible rfl
                       rotate_left
                       · simp only [Act.put, sS, s0_, s1_, i64_w, i32_w]; rfl
                       refine take_ (i := 7) (N := some 114) (v := ?_) (a' := ?_) #[true,true,true,true,true,true,true,true,false,false,false,false,false,false,false,false,false,false,false,false,false,false,false,false,false] rfl rfl (take_ofW HT_.out HW_.out (by kernel_rfl)) (fun _ _ _ h => h) (Or.inl ⟨by rfl, ?_⟩) hHeld ?_ ?_
                       rotate_left
                       ·
                        rintro w' ⟨s0, s1, s2, s3⟩
                        go_simp
                        with_reducible rfl
                       rotate_left
                       · simp only [Act.put, sS, s0_, s1_, i64_w, i32_w]; rfl
                       refine pure_ (i := 8) (N := some 115) (v := ?_) (a' := ?_) #[true,true,true,true,true,true,true,true,true,false,false,false,false,false,false,false,false,false,false,false,false,false,false,false,false] rfl rfl (any_of HT_.out (by kernel_rfl)) (fun _ _ _ h => h) (Or.inl ⟨by rfl, ?_⟩) ?_ ?_
                       rotate_left
                       · intro w'; go_simp; with_reducible rfl
                       rotate_left
                       · simp only [Act.put, sS, s0_, s1_, i64_w, i32_w]; rfl
                       refine pure_ (i := 9) (N := some 116) (v := ?_) (a' := ?_) #[true,true,true,true,true,true,true,true,true,true,false,false,false,false,false,false,false,false,false,false,false,false,false,false,false] rfl rfl (any_of HT_.out (by kernel_rfl)) (fun _ _ _ h => h) (Or.inl ⟨by rfl, ?_⟩) ?_ ?_
                       rotate_left
                       · intro w'; go_simp; with_reducible rfl
                       rotate_left
                       · simp only [Act.put, sS, s0_, s1_, i64_w, i32_w]; rfl
                       refine pure_ (i := 10) (N := some 117) (v := ?_) (a' := ?_) #[true,true,true,true,true,true,true,true,true,true,true,false,false,false,false,false,false,false,false,false,false,false,false,false,false] rfl rfl (any_of HT_.out (by kernel_rfl)) (fun _ _ _ h => h) (Or.inl ⟨by rfl, ?_⟩) ?_ ?_
                       rotate_left
                       · intro w'; go_simp; with_reducible rfl
                       rotate_left
                       · simp only [Act.put, sS, s0_, s1_, i64_w, i32_w]; rfl
                       refine pure_ (i := 11) (N := some 118) (v := ?_) (a' := ?_) #[true,true,true,true,true,true,true,true,true,true,true,true,false,false,false,false,false,false,false,false,false,false,false,false,false] rfl rfl (any_of HT_.out (by kernel_rfl)) (fun _ _ _ h => h) (Or.inl ⟨by rfl, ?_⟩) ?_ ?_
                       rotate_left
                       · intro w'; go_simp; with_reducible rfl
                       rotate_left
                       · simp only [Act.put, sS, s0_, s1_, i64_w, i32_w]; rfl
                       refine pure_ (i := 12) (N := some 119) (v := ?_) (a' := ?_) #[true,true,true,true,true,true,true,true,true,true,true,true,true,false,false,false,false,false,false,false,false,false,false,false,false] rfl rfl (any_of HT_.out (by kernel_rfl)) (fun _ _ _ h => h) (Or.inl ⟨by rfl, ?_⟩) ?_ ?_
                       rotate_left
                       · intro w'; go_simp; with_reducible rfl
                       rotate_left
                       · simp only [Act.put, sS, s0_, s1_, i64_w, i32_w]; rfl
                       refine pure_ (i := 13) (N := some 120) (v := ?_) (a' := ?_) #[true,true,true,true,true,true,true,true,true,true,true,true,true,true,false,false,false,false,false,false,false,false,false,false,false] rfl rfl (any_of HT_.out (by kernel_rfl)) (fun _ _ _ h => h) (Or.inl ⟨by rfl, ?_⟩) ?_ ?_
                       rotate_left
                       · intro w'; go_simp; with_reducible rfl
                       rotate_left
                       · simp only [Act.put, sS, s0_, s1_, i64_w, i32_w]; rfl
                       refine pure_ (i := 14) (N := some 121) (v := ?_) (a' := ?_) #[true,true,true,true,true,true,true,true,true,true,true,true,true,true,true,false,false,false,false,false,false,false,false,false,false] rfl rfl (any_of HT_.out (by kernel_rfl)) (fun _ _ _ h => h) (Or.inl ⟨by rfl, ?_⟩) ?_ ?_
                       rotate_left
                       · intro w'; go_simp; with_reducible rfl
                       rotate_left
                       · simp only [Act.put, sS, s0_, s1_, i64_w, i32_w]; rfl
                       refine pure_ (i := 15) (N := some 122) (v := ?_) (a' := ?_) #[true,true,true,true,true,true,true,true,true,true,true,true,true,true,true,true,false,false,false,false,false,false,false,false,false] rfl rfl (any_of HT_.out (by kernel_rfl)) (fun _ _ _ h => h) (Or.inl ⟨by rfl, ?_⟩) ?_ ?_
                       rotate_left
                       · intro w'; go_simp; with_reducible rfl
                       rotate_left
                       · simp only [Act.put, sS, s0_, s1_, i64_w, i32_w]; rfl
                       refine pure_ (i := 17) (N := some 124) (v := ?_) (a' := ?_) #[true,true,true,true,true,true,true,true,true,true,true,true,true,true,true,true,false,true,false,false,false,false,false,false,false] rfl rfl (any_of HT_.out (by kernel_rfl)) (fun _ _ _ h => h) (Or.inl ⟨by rfl, ?_⟩) ?_ ?_
                       rotate_left
                       · intro w'; go_simp; with_reducible rfl
                       rotate_left
                       · simp only [Act.put, sS, s0_, s1_, i64_w, i32_w]; rfl
                       refine pure_ (i := 18) (N := some 125) (v := ?_) (a' := ?_) #[true,true,true,true,true,true,true,true,true,true,true,true,true,true,true,true,false,true,true,false,false,false,false,false,false] rfl rfl (any_of HT_.out (by kernel_rfl)) (fun _ _ _ h => h) (Or.inl ⟨by rfl, ?_⟩) ?_ ?_
                       rotate_left
                       · intro w'; go_simp; with_reducible rfl
                       rotate_left
                       · simp only [Act.put, sS, s0_, s1_, i64_w, i32_w]; rfl
                       refine pure_ (i := 19) (N := some 126) (v := ?_) (a' := ?_) #[true,true,true,true,true,true,true,true,true,true,true,true,true,true,true,true,false,true,true,true,false,false,false,false,false] rfl rfl (any_of HT_.out (by kernel_rfl)) (fun _ _ _ h => h) (Or.inl ⟨by rfl, ?_⟩) ?_ ?_
                       rotate_left
                       · intro w'; go_simp; with_reducible rfl
                       rotate_left
                       · simp only [Act.put, sS, s0_, s1_, i64_w, i32_w]; rfl
                       refine pure_ (i := 20) (N := some 127) (v := ?_) (a' := ?_) #[true,true,true,true,true,true,true,true,true,true,true,true,true,true,true,true,false,true,true,true,true,false,false,false,false] rfl rfl (any_of HT_.out (by kernel_rfl)) (fun _ _ _ h => h) (Or.inl ⟨by rfl, ?_⟩) ?_ ?_
                       rotate_left
                       · intro w'; go_simp; with_reducible rfl
                       rotate_left
                       · simp only [Act.put, sS, s0_, s1_, i64_w, i32_w]; rfl
                       refine take_ (i := 16) (N := some 123) (v := ?_) (a' := ?_) #[true,true,true,true,true,true,true,true,true,true,true,true,true,true,true,true,true,true,true,true,true,false,false,false,false] rfl rfl (take_ofW HT_.out HW_.out (by kernel_rfl)) (fun _ _ _ h => h) (Or.inl ⟨by rfl, ?_⟩) hHeld ?_ ?_
                       rotate_left
                       ·
                        rintro w' ⟨s0, s1, s2, s3⟩
                        go_simp
                        with_reducible rfl
                       rotate_left
                       · simp only [Act.put, sS, s0_, s1_, i64_w, i32_w]; rfl
                       refine take_ (i := 21) (N := some 128) (v := ?_) (a' := ?_) #[true,true,true,true,true,true,true,true,true,true,true,true,true,true,true,true,true,true,true,true,true,true,false,false,false] rfl rfl (take_ofW HT_.out HW_.out (by kernel_rfl)) (fun _ _ _ h => h) (Or.inl ⟨by rfl, ?_⟩) hHeld ?_ ?_
                       rotate_left
                       ·
                        rintro w' ⟨s0, s1, s2, s3⟩
                        go_simp
                        with_reducible rfl
                       rotate_left
                       · simp only [Act.put, sS, s0_, s1_, i64_w, i32_w]; rfl
                       refine pure_ (i := 22) (N := some 129) (v := ?_) (a' := ?_) #[true,true,true,true,true,true,true,true,true,true,true,true,true,true,true,true,true,true,true,true,true,true,true,false,false] rfl rfl (any_of HT_.out (by kernel_rfl)) (fun _ _ _ h => h) (Or.inl ⟨by rfl, ?_⟩) ?_ ?_
                       rotate_left
                       · intro w'; go_simp; with_reducible rfl
                       rotate_left
                       · simp only [Act.put, sS, s0_, s1_, i64_w, i32_w]; rfl
                       refine pure_ (i := 23) (N := some 130) (v := ?_) (a' := ?_) #[true,true,true,true,true,true,true,true,true,true,true,true,true,true,true,true,true,true,true,true,true,true,true,true,false] rfl rfl (any_of HT_.out (by kernel_rfl)) (fun _ _ _ h => h) (Or.inl ⟨by rfl, ?_⟩) ?_ ?_
                       rotate_left
                       · intro w'; go_simp; with_reducible rfl
                       rotate_left
                       · simp only [Act.put, sS, s0_, s1_, i64_w, i32_w]; rfl
                       refine pure_ (i := 24) (N := some 131) (v := ?_) (a' := ?_) #[true,true,true,true,true,true,true,true,true,true,true,true,true,true,true,true,true,true,true,true,true,true,true,true,true] rfl rfl (any_of HT_.out (by kernel_rfl)) (fun _ _ _ h => h) (Or.inl ⟨by rfl, ?_⟩) ?_ ?_
                       rotate_left
                       · intro w'; go_simp; with_reducible rfl
                       rotate_left
                       · simp only [Act.put, sS, s0_, s1_, i64_w, i32_w]; rfl
                       refine done_ (done_of HT_.out (by kernel_rfl)) ?_
                       try go_wp2
                       go_ret
                       exact ⟨by first | rfl | (simp [errW_none, errW_some] <;> rfl) | (simp only [← hji5, ← hji110]; first | rfl | (simp [errW_none, errW_some] <;> rfl)) | (simp [*, errW_none, errW_some] <;> rfl), by repeat (first | (with_reducible first | exact HB.out | apply below_alloc | apply pw_below_drewN | apply below_drew1 | refine below_set ?_ GE221.out | refine below_set ?_ GE227.out) | exact HB.out)⟩
                      ·
                       rw [if_neg c113] at H
                       have c113b0 : decide ((rd t242 x104_4) ≤ (rd t242 (ji110))) = false := decide_eq_false c113
                       clear c113
                       have H' := Aside0.mk H
                       clear H
                       try go_wp2
                       have n0_ := Aside0.mk (Kd.R_drew HO_12.out)
                       have n1_ := Aside0.mk (Kd.R_drew HO_13.out)
                       have n2_ := Aside0.mk (Kd.R_drew HO_222001.out)
                       have n3_ := Aside0.mk (Kd.R_drew HO_228001.out)
                       have n4_ := Aside0.mk (blk_drew BK221.out)
                       have n5_ := Aside0.mk (blk_drew BK227.out)
                       have n6_ := Aside0.mk (below_drew1 HB.out)
                       clear HO_12
                       clear HO_13
                       clear HO_222001
                       clear HO_228001
                       clear BK221
                       clear BK227
                       clear HB
                       have HO_12 := n0_
                       have HO_13 := n1_
                       have HO_222001 := n2_
                       have HO_228001 := n3_
                       have BK221 := n4_
                       have BK227 := n5_
                       have HB := n6_
                       clear n0_ n1_ n2_ n3_ n4_ n5_ n6_
                       have p251 : 0 ≤ (x104_4 : Int) := of_decide_eq_true (by first | (with_reducible assumption) | assumption)
                       have q251 : x104_4 < (t242.length : Int) := of_decide_eq_true (by first | (with_reducible assumption) | assumption)
                       obtain ⟨ad251, e251, hx251_0⟩ := Kd.at_int (Kd.R_reads' HO_12.out).2.2 x104_4 p251 q251
                       cases e251
                       replace p251 := eq_true p251
                       replace q251 := eq_true q251
                       obtain ⟨Ao117, co117, eo117⟩ := Kd.R_slice HO_13.out
                       (first | subst eo117 | (injection eo117 with f1_ f2_ f3_; have f4_ := f1_.symm; have f5_ := f3_.symm; clear f1_ f2_ f3_; subst f4_; subst f5_))
                       have p252 : 0 ≤ (x104_4 : Int) := of_decide_eq_true (by first | (with_reducible assumption) | assumption)
                       have q252 : x104_4 < (t245.length : Int) := of_decide_eq_true (by first | (with_reducible assumption) | assumption)
                       obtain ⟨ad252, e252, hx252_0⟩ := Kd.at_int (Kd.R_reads' HO_13.out).2.2 x104_4 p252 q252
                       cases e252
                       replace p252 := eq_true p252
                       replace q252 := eq_true q252
                       have p253 : 0 ≤ (x104_4 : Int) := of_decide_eq_true (by first | (with_reducible assumption) | assumption)
                       have q253 : x104_4 < (t242.length : Int) := of_decide_eq_true (by first | (with_reducible assumption) | assumption)
                       obtain ⟨ad253, e253, hx253_0⟩ := Kd.at_int (Kd.R_reads' HO_12.out).2.2 x104_4 p253 q253
                       obtain rfl : ad251 = ad253 := (by injection e253)
                       replace p253 := eq_true p253
                       replace q253 := eq_true q253
                       have p254 : 0 ≤ ((ji110) : Int) := of_decide_eq_true (by first | (with_reducible assumption) | assumption)
                       have q254 : (ji110) < (t242.length : Int) := of_decide_eq_true (by first | (with_reducible assumption) | assumption)
                       obtain ⟨ad254, e254, hx254_0⟩ := Kd.at_int (Kd.R_reads' HO_12.out).2.2 (ji110) p254 q254
                       obtain rfl : ad251 = ad254 := (by injection e254)
                       replace p254 := eq_true p254
                       replace q254 := eq_true q254
                       refine start_ (n := 25) (S := fun w' => w'.cell? (ad251.add (x104_4).toNat) = some (.int .i64 (rd t242 x104_4)) ∧ w'.cell? (ad252.add (x104_4).toNat) = some (.int .i64 (rd t245 x104_4)) ∧ w'.cell? (ad251.add (x104_4).toNat) = some (.int .i64 (rd t242 x104_4)) ∧ w'.cell? (ad251.add ((ji110)).toNat) = some (.int .i64 (rd t242 (ji110)))) (ds := []) #[false,false,false,false,false,false,false,false,false,false,false,false,false,false,false,false,false,false,false,false,false,false,false,false,false] (by kernel_rfl) rfl rfl ⟨hx251_0, hx252_0, hx253_0, hx254_0⟩ (fun hHeld => ?_); refine with_tabW tillrolllaw09_BbtAny.tab21 tillrolllaw09_BbtAny.bits21 (fun HT_ HW_ => ?_)
                       generalize wr.drew = w116 at HO_12 HO_13 HO_222001 HO_228001 BK221 BK227 HB hx251_0 hx252_0 hx253_0 hx254_0 hHeld ⊢
                       refine pure_ (i := 0) (N := some 107) (v := ?_) (a' := ?_) #[true,false,false,false,false,false,false,false,false,false,false,false,false,false,false,false,false,false,false,false,false,false,false,false,false] rfl rfl (any_of HT_.out (by kernel_rfl)) (fun _ _ _ h => h) (Or.inl ⟨by rfl, ?_⟩) ?_ ?_
                       rotate_left
                       · intro w'; go_simp; with_reducible rfl
                       rotate_left
                       · simp only [Act.put, sS, s0_, s1_, i64_w, i32_w]; rfl
                       refine pure_ (i := 1) (N := some 108) (v := ?_) (a' := ?_) #[true,true,false,false,false,false,false,false,false,false,false,false,false,false,false,false,false,false,false,false,false,false,false,false,false] rfl rfl (any_of HT_.out (by kernel_rfl)) (fun _ _ _ h => h) (Or.inl ⟨by rfl, ?_⟩) ?_ ?_
                       rotate_left
                       · intro w'; go_simp; with_reducible rfl
                       rotate_left
                       · simp only [Act.put, sS, s0_, s1_, i64_w, i32_w]; rfl
                       refine pure_ (i := 2) (N := some 109) (v := ?_) (a' := ?_) #[true,true,true,false,false,false,false,false,false,false,false,false,false,false,false,false,false,false,false,false,false,false,false,false,false] rfl rfl (any_of HT_.out (by kernel_rfl)) (fun _ _ _ h => h) (Or.inl ⟨by rfl, ?_⟩) ?_ ?_
                       rotate_left
                       · intro w'; go_simp; with_reducible rfl
                       rotate_left
                       · simp only [Act.put, sS, s0_, s1_, i64_w, i32_w]; rfl
                       refine pure_ (i := 4) (N := some 111) (v := ?_) (a' := ?_) #[true,true,true,false,true,false,false,false,false,false,false,false,false,false,false,false,false,false,false,false,false,false,false,false,false] rfl rfl (any_of HT_.out (by kernel_rfl)) (fun _ _ _ h => h) (Or.inl ⟨by rfl, ?_⟩) ?_ ?_
                       rotate_left
                       · intro w'; go_simp; with_reducible rfl
                       rotate_left
                       · simp only [Act.put, sS, s0_, s1_, i64_w, i32_w]; rfl
                       refine pure_ (i := 5) (N := some 112) (v := ?_) (a' := ?_) #[true,true,true,false,true,true,false,false,false,false,false,false,false,false,false,false,false,false,false,false,false,false,false,false,false] rfl rfl (any_of HT_.out (by kernel_rfl)) (fun _ _ _ h => h) (Or.inl ⟨by rfl, ?_⟩) ?_ ?_
                       rotate_left
                       · intro w'; go_simp; with_reducible rfl
                       rotate_left
                       · simp only [Act.put, sS, s0_, s1_, i64_w, i32_w]; rfl
                       refine pure_ (i := 6) (N := some 113) (v := ?_) (a' := ?_) #[true,true,true,false,true,true,true,false,false,false,false,false,false,false,false,false,false,false,false,false,false,false,false,false,false] rfl rfl (any_of HT_.out (by kernel_rfl)) (fun _ _ _ h => h) (Or.inl ⟨by rfl, ?_⟩) ?_ ?_
                       rotate_left
                       · intro w'; go_simp; with_reducible rfl
                       rotate_left
                       · simp only [Act.put, sS, s0_, s1_, i64_w, i32_w]; rfl
                       refine take_ (i := 3) (N := some 110) (v := ?_) (a' := ?_) #[true,true,true,true,true,true,true,false,false,false,false,false,false,false,false,false,false,false,false,false,false,false,false,false,false] rfl rfl (take_ofW HT_.out HW_.out (by kernel_rfl)) (fun _ _ _ h => h) (Or.inl ⟨by rfl, ?_⟩) hHeld ?_ ?_
                       rotate_left
                       ·
                        rintro w' ⟨s0, s1, s2, s3⟩
                        go_simp
                        with_reducible rfl
                       rotate_left
                       · simp only [Act.put, sS, s0_, s1_, i64_w, i32_w]; rfl
                       refine take_ (i := 7) (N := some 114) (v := ?_) (a' := ?_) #[true,true,true,true,true,true,true,true,false,false,false,false,false,false,false,false,false,false,false,false,false,false,false,false,false] rfl rfl (take_ofW HT_.out HW_.out (by kernel_rfl)) (fun _ _ _ h => h) (Or.inl ⟨by rfl, ?_⟩) hHeld ?_ ?_
                       rotate_left
                       ·
                        rintro w' ⟨s0, s1, s2, s3⟩
                        go_simp
                        with_reducible rfl
                       rotate_left
                       · simp only [Act.put, sS, s0_, s1_, i64_w, i32_w]; rfl
                       refine pure_ (i := 8) (N := some 115) (v := ?_) (a' := ?_) #[true,true,true,true,true,true,true,true,true,false,false,false,false,false,false,false,false,false,false,false,false,false,false,false,false] rfl rfl (any_of HT_.out (by kernel_rfl)) (fun _ _ _ h => h) (Or.inl ⟨by rfl, ?_⟩) ?_ ?_
                       rotate_left
                       · intro w'; go_simp; with_reducible rfl
                       rotate_left
                       · simp only [Act.put, sS, s0_, s1_, i64_w, i32_w]; rfl
                       refine pure_ (i := 9) (N := some 116) (v := ?_) (a' := ?_) #[true,true,true,true,true,true,true,true,true,true,false,false,false,false,false,false,false,false,false,false,false,false,false,false,false] rfl rfl (any_of HT_.out (by kernel_rfl)) (fun _ _ _ h => h) (Or.inl ⟨by rfl, ?_⟩) ?_ ?_
                       rotate_left
                       · intro w'; go_simp; with_reducible rfl
                       rotate_left
                       · simp only [Act.put, sS, s0_, s1_, i64_w, i32_w]; rfl
                       refine pure_ (i := 10) (N := some 117) (v := ?_) (a' := ?_) #[true,true,true,true,true,true,true,true,true,true,true,false,false,false,false,false,false,false,false,false,false,false,false,false,false] rfl rfl (any_of HT_.out (by kernel_rfl)) (fun _ _ _ h => h) (Or.inl ⟨by rfl, ?_⟩) ?_ ?_
                       rotate_left
                       · intro w'; go_simp; with_reducible rfl
                       rotate_left
                       · simp only [Act.put, sS, s0_, s1_, i64_w, i32_w]; rfl
                       refine pure_ (i := 11) (N := some 118) (v := ?_) (a' := ?_) #[true,true,true,true,true,true,true,true,true,true,true,true,false,false,false,false,false,false,false,false,false,false,false,false,false] rfl rfl (any_of HT_.out (by kernel_rfl)) (fun _ _ _ h => h) (Or.inl ⟨by rfl, ?_⟩) ?_ ?_
                       rotate_left
                       · intro w'; go_simp; with_reducible rfl
                       rotate_left
                       · simp only [Act.put, sS, s0_, s1_, i64_w, i32_w]; rfl
                       refine pure_ (i := 12) (N := some 119) (v := ?_) (a' := ?_) #[true,true,true,true,true,true,true,true,true,true,true,true,true,false,false,false,false,false,false,false,false,false,false,false,false] rfl rfl (any_of HT_.out (by kernel_rfl)) (fun _ _ _ h => h) (Or.inl ⟨by rfl, ?_⟩) ?_ ?_
                       rotate_left
                       · intro w'; go_simp; with_reducible rfl
                       rotate_left
                       · simp only [Act.put, sS, s0_, s1_, i64_w, i32_w]; rfl
                       refine pure_ (i := 13) (N := some 120) (v := ?_) (a' := ?_) #[true,true,true,true,true,true,true,true,true,true,true,true,true,true,false,false,false,false,false,false,false,false,false,false,false] rfl rfl (any_of HT_.out (by kernel_rfl)) (fun _ _ _ h => h) (Or.inl ⟨by rfl, ?_⟩) ?_ ?_
                       rotate_left
                       · intro w'; go_simp; with_reducible rfl
                       rotate_left
                       · simp only [Act.put, sS, s0_, s1_, i64_w, i32_w]; rfl
                       refine pure_ (i := 14) (N := some 121) (v := ?_) (a' := ?_) #[true,true,true,true,true,true,true,true,true,true,true,true,true,true,true,false,false,false,false,false,false,false,false,false,false] rfl rfl (any_of HT_.out (by kernel_rfl)) (fun _ _ _ h => h) (Or.inl ⟨by rfl, ?_⟩) ?_ ?_
                       rotate_left
                       · intro w'; go_simp; with_reducible rfl
                       rotate_left
                       · simp only [Act.put, sS, s0_, s1_, i64_w, i32_w]; rfl
                       refine pure_ (i := 15) (N := some 122) (v := ?_) (a' := ?_) #[true,true,true,true,true,true,true,true,true,true,true,true,true,true,true,true,false,false,false,false,false,false,false,false,false] rfl rfl (any_of HT_.out (by kernel_rfl)) (fun _ _ _ h => h) (Or.inl ⟨by rfl, ?_⟩) ?_ ?_
                       rotate_left
                       · intro w'; go_simp; with_reducible rfl
                       rotate_left
                       · simp only [Act.put, sS, s0_, s1_, i64_w, i32_w]; rfl
                       refine pure_ (i := 17) (N := some 124) (v := ?_) (a' := ?_) #[true,true,true,true,true,true,true,true,true,true,true,true,true,true,true,true,false,true,false,false,false,false,false,false,false] rfl rfl (any_of HT_.out (by kernel_rfl)) (fun _ _ _ h => h) (Or.inl ⟨by rfl, ?_⟩) ?_ ?_
                       rotate_left
                       · intro w'; go_simp; with_reducible rfl
                       rotate_left
                       · simp only [Act.put, sS, s0_, s1_, i64_w, i32_w]; rfl
                       refine pure_ (i := 18) (N := some 125) (v := ?_) (a' := ?_) #[true,true,true,true,true,true,true,true,true,true,true,true,true,true,true,true,false,true,true,false,false,false,false,false,false] rfl rfl (any_of HT_.out (by kernel_rfl)) (fun _ _ _ h => h) (Or.inl ⟨by rfl, ?_⟩) ?_ ?_
                       rotate_left
                       · intro w'; go_simp; with_reducible rfl
                       rotate_left
                       · simp only [Act.put, sS, s0_, s1_, i64_w, i32_w]; rfl
                       refine pure_ (i := 19) (N := some 126) (v := ?_) (a' := ?_) #[true,true,true,true,true,true,true,true,true,true,true,true,true,true,true,true,false,true,true,true,false,false,false,false,false] rfl rfl (any_of HT_.out (by kernel_rfl)) (fun _ _ _ h => h) (Or.inl ⟨by rfl, ?_⟩) ?_ ?_
                       rotate_left
                       · intro w'; go_simp; with_reducible rfl
                       rotate_left
                       · simp only [Act.put, sS, s0_, s1_, i64_w, i32_w]; rfl
                       refine pure_ (i := 20) (N := some 127) (v := ?_) (a' := ?_) #[true,true,true,true,true,true,true,true,true,true,true,true,true,true,true,true,false,true,true,true,true,false,false,false,false] rfl rfl (any_of HT_.out (by kernel_rfl)) (fun _ _ _ h => h) (Or.inl ⟨by rfl, ?_⟩) ?_ ?_
                       rotate_left
                       · intro w'; go_simp; with_reducible rfl
                       rotate_left
                       · simp only [Act.put, sS, s0_, s1_, i64_w, i32_w]; rfl
                       refine take_ (i := 16) (N := some 123) (v := ?_) (a' := ?_) #[true,true,true,true,true,true,true,true,true,true,true,true,true,true,true,true,true,true,true,true,true,false,false,false,false] rfl rfl (take_ofW HT_.out HW_.out (by kernel_rfl)) (fun _ _ _ h => h) (Or.inl ⟨by rfl, ?_⟩) hHeld ?_ ?_
                       rotate_left
                       ·
                        rintro w' ⟨s0, s1, s2, s3⟩
                        go_simp
                        with_reducible rfl
                       rotate_left
                       · simp only [Act.put, sS, s0_, s1_, i64_w, i32_w]; rfl
                       refine take_ (i := 21) (N := some 128) (v := ?_) (a' := ?_) #[true,true,true,true,true,true,true,true,true,true,true,true,true,true,true,true,true,true,true,true,true,true,false,false,false] rfl rfl (take_ofW HT_.out HW_.out (by kernel_rfl)) (fun _ _ _ h => h) (Or.inl ⟨by rfl, ?_⟩) hHeld ?_ ?_
                       rotate_left
                       ·
                        rintro w' ⟨s0, s1, s2, s3⟩
                        go_simp
                        with_reducible rfl
                       rotate_left
                       · simp only [Act.put, sS, s0_, s1_, i64_w, i32_w]; rfl
                       refine pure_ (i := 22) (N := some 129) (v := ?_) (a' := ?_) #[true,true,true,true,true,true,true,true,true,true,true,true,true,true,true,true,true,true,true,true,true,true,true,false,false] rfl rfl (any_of HT_.out (by kernel_rfl)) (fun _ _ _ h => h) (Or.inl ⟨by rfl, ?_⟩) ?_ ?_
                       rotate_left
                       · intro w'; go_simp; with_reducible rfl
                       rotate_left
                       · simp only [Act.put, sS, s0_, s1_, i64_w, i32_w]; rfl
                       refine pure_ (i := 23) (N := some 130) (v := ?_) (a' := ?_) #[true,true,true,true,true,true,true,true,true,true,true,true,true,true,true,true,true,true,true,true,true,true,true,true,false] rfl rfl (any_of HT_.out (by kernel_rfl)) (fun _ _ _ h => h) (Or.inl ⟨by rfl, ?_⟩) ?_ ?_
                       rotate_left
                       · intro w'; go_simp; with_reducible rfl
                       rotate_left
                       · simp only [Act.put, sS, s0_, s1_, i64_w, i32_w]; rfl
                       refine pure_ (i := 24) (N := some 131) (v := ?_) (a' := ?_) #[true,true,true,true,true,true,true,true,true,true,true,true,true,true,true,true,true,true,true,true,true,true,true,true,true] rfl rfl (any_of HT_.out (by kernel_rfl)) (fun _ _ _ h => h) (Or.inl ⟨by rfl, ?_⟩) ?_ ?_
                       rotate_left
                       · intro w'; go_simp; with_reducible rfl
                       rotate_left
                       · simp only [Act.put, sS, s0_, s1_, i64_w, i32_w]; rfl
                       refine done_ (done_of HT_.out (by kernel_rfl)) ?_
                       try go_wp2
                       go_roundg k4
                       case measure => have := HJ7.out; have := HK2.out; have := HJ77.out; have := HK4.out; omega
                       case rel => exact ⟨(wrap64 (x104_4 + 1)), (by first | rfl | (simp; done) | (simp [*]; done)), H', ⟨by have := HJ7.out; have := HK2.out; have := HJ77.out; have := HK4.out; omega⟩, ⟨by (with_reducible repeat (first | apply Kd.R_alloc | apply Kd.R_drewN | apply Kd.R_drew)); exact HO_12.out⟩, ⟨by (with_reducible repeat (first | apply Kd.R_alloc | apply Kd.R_drewN | apply Kd.R_drew)); exact HO_13.out⟩, ⟨by (with_reducible repeat (first | apply Kd.R_alloc | apply Kd.R_drewN | apply Kd.R_drew)); exact HO_222001.out⟩, ⟨by (with_reducible repeat (first | apply Kd.R_alloc | apply Kd.R_drewN | apply Kd.R_drew)); exact HO_228001.out⟩, ⟨by (with_reducible repeat (first | refine blk_drewN ?_ _ | refine blk_drew ?_ | refine blk_alloc ?_ _)); exact BK221.out⟩, ⟨by (with_reducible repeat (first | refine blk_drewN ?_ _ | refine blk_drew ?_ | refine blk_alloc ?_ _)); exact BK227.out⟩, ⟨by repeat (first | (with_reducible first | exact HB.out | apply below_alloc | apply pw_below_drewN | apply below_drew1 | refine below_set ?_ GE221.out | refine below_set ?_ GE227.out) | exact HB.out)⟩⟩
                     ·
                      rw [if_neg c112] at H
                      exact absurd H (by simp)
                    ·
                     rw [if_neg c111] at H
                     exact absurd H (by simp)
                   ·
                    rw [if_neg c109] at H
                    have c109b0 : decide (0 < x104_4) = false := decide_eq_false c109
                    clear c109
                    have H' := Aside0.mk H
                    clear H
                    try go_wp2
                    have n0_ := Aside0.mk (Kd.R_drew HO_12.out)
                    have n1_ := Aside0.mk (Kd.R_drew HO_13.out)
                    have n2_ := Aside0.mk (Kd.R_drew HO_222001.out)
                    have n3_ := Aside0.mk (Kd.R_drew HO_228001.out)
                    have n4_ := Aside0.mk (blk_drew BK221.out)
                    have n5_ := Aside0.mk (blk_drew BK227.out)
                    have n6_ := Aside0.mk (below_drew1 HB.out)
                    clear HO_12
                    clear HO_13
                    clear HO_222001
                    clear HO_228001
                    clear BK221
                    clear BK227
                    clear HB
                    have HO_12 := n0_
                    have HO_13 := n1_
                    have HO_222001 := n2_
                    have HO_228001 := n3_
                    have BK221 := n4_
                    have BK227 := n5_
                    have HB := n6_
                    clear n0_ n1_ n2_ n3_ n4_ n5_ n6_
                    have p251 : 0 ≤ (x104_4 : Int) := of_decide_eq_true (by first | (with_reducible assumption) | assumption)
                    have q251 : x104_4 < (t242.length : Int) := of_decide_eq_true (by first | (with_reducible assumption) | assumption)
                    obtain ⟨ad251, e251, hx251_0⟩ := Kd.at_int (Kd.R_reads' HO_12.out).2.2 x104_4 p251 q251
                    cases e251
                    replace p251 := eq_true p251
                    replace q251 := eq_true q251
                    obtain ⟨Ao119, co119, eo119⟩ := Kd.R_slice HO_13.out
                    (first | subst eo119 | (injection eo119 with f1_ f2_ f3_; have f4_ := f1_.symm; have f5_ := f3_.symm; clear f1_ f2_ f3_; subst f4_; subst f5_))
                    have p252 : 0 ≤ (x104_4 : Int) := of_decide_eq_true (by first | (with_reducible assumption) | assumption)
                    have q252 : x104_4 < (t245.length : Int) := of_decide_eq_true (by first | (with_reducible assumption) | assumption)
                    obtain ⟨ad252, e252, hx252_0⟩ := Kd.at_int (Kd.R_reads' HO_13.out).2.2 x104_4 p252 q252
                    cases e252
                    replace p252 := eq_true p252
                    replace q252 := eq_true q252
                    refine start_ (n := 25) (S := fun w' => w'.cell? (ad251.add (x104_4).toNat) = some (.int .i64 (rd t242 x104_4)) ∧ w'.cell? (ad252.add (x104_4).toNat) = some (.int .i64 (rd t245 x104_4))) (ds := []) #[false,false,false,false,false,false,false,false,false,false,false,false,false,false,false,false,false,false,false,false,false,false,false,false,false] (by kernel_rfl) rfl rfl ⟨hx251_0, hx252_0⟩ (fun hHeld => ?_); refine with_tabW tillrolllaw09_BbtAny.tab21 tillrolllaw09_BbtAny.bits21 (fun HT_ HW_ => ?_)
                    generalize wr.drew = w118 at HO_12 HO_13 HO_222001 HO_228001 BK221 BK227 HB hx251_0 hx252_0 hHeld ⊢
                    refine pure_ (i := 0) (N := some 107) (v := ?_) (a' := ?_) #[true,false,false,false,false,false,false,false,false,false,false,false,false,false,false,false,false,false,false,false,false,false,false,false,false] rfl rfl (any_of HT_.out (by kernel_rfl)) (fun _ _ _ h => h) (Or.inl ⟨by rfl, ?_⟩) ?_ ?_
                    rotate_left
                    · intro w'; go_simp; with_reducible rfl
                    rotate_left
                    · simp only [Act.put, sS, s0_, s1_, i64_w, i32_w]; rfl
                    refine pure_ (i := 1) (N := some 108) (v := ?_) (a' := ?_) #[true,true,false,false,false,false,false,false,false,false,false,false,false,false,false,false,false,false,false,false,false,false,false,false,false] rfl rfl (any_of HT_.out (by kernel_rfl)) (fun _ _ _ h => h) (Or.inl ⟨by rfl, ?_⟩) ?_ ?_
                    rotate_left
                    · intro w'; go_simp; with_reducible rfl
                    rotate_left
                    · simp only [Act.put, sS, s0_, s1_, i64_w, i32_w]; rfl
                    refine pure_ (i := 2) (N := some 109) (v := ?_) (a' := ?_) #[true,true,true,false,false,false,false,false,false,false,false,false,false,false,false,false,false,false,false,false,false,false,false,false,false] rfl rfl (any_of HT_.out (by kernel_rfl)) (fun _ _ _ h => h) (Or.inl ⟨by rfl, ?_⟩) ?_ ?_
                    rotate_left
                    · intro w'; go_simp; with_reducible rfl
                    rotate_left
                    · simp only [Act.put, sS, s0_, s1_, i64_w, i32_w]; rfl
                    refine pure_ (i := 4) (N := some 111) (v := ?_) (a' := ?_) #[true,true,true,false,true,false,false,false,false,false,false,false,false,false,false,false,false,false,false,false,false,false,false,false,false] rfl rfl (any_of HT_.out (by kernel_rfl)) (fun _ _ _ h => h) (Or.inl ⟨by rfl, ?_⟩) ?_ ?_
                    rotate_left
                    · intro w'; go_simp; with_reducible rfl
                    rotate_left
                    · simp only [Act.put, sS, s0_, s1_, i64_w, i32_w]; rfl
                    refine pure_ (i := 5) (N := some 112) (v := ?_) (a' := ?_) #[true,true,true,false,true,true,false,false,false,false,false,false,false,false,false,false,false,false,false,false,false,false,false,false,false] rfl rfl (any_of HT_.out (by kernel_rfl)) (fun _ _ _ h => h) (Or.inl ⟨by rfl, ?_⟩) ?_ ?_
                    rotate_left
                    · intro w'; go_simp; with_reducible rfl
                    rotate_left
                    · simp only [Act.put, sS, s0_, s1_, i64_w, i32_w]; rfl
                    refine pure_ (i := 6) (N := some 113) (v := ?_) (a' := ?_) #[true,true,true,false,true,true,true,false,false,false,false,false,false,false,false,false,false,false,false,false,false,false,false,false,false] rfl rfl (any_of HT_.out (by kernel_rfl)) (fun _ _ _ h => h) (Or.inl ⟨by rfl, ?_⟩) ?_ ?_
                    rotate_left
                    · intro w'; go_simp; with_reducible rfl
                    rotate_left
                    · simp only [Act.put, sS, s0_, s1_, i64_w, i32_w]; rfl
                    refine take_ (i := 3) (N := some 110) (v := ?_) (a' := ?_) #[true,true,true,true,true,true,true,false,false,false,false,false,false,false,false,false,false,false,false,false,false,false,false,false,false] rfl rfl (take_ofW HT_.out HW_.out (by kernel_rfl)) (fun _ _ _ h => h) (Or.inl ⟨by rfl, ?_⟩) hHeld ?_ ?_
                    rotate_left
                    ·
                     rintro w' ⟨s0, s1⟩
                     go_simp
                     with_reducible rfl
                    rotate_left
                    · simp only [Act.put, sS, s0_, s1_, i64_w, i32_w]; rfl
                    refine take_ (i := 7) (N := some 114) (v := ?_) (a' := ?_) #[true,true,true,true,true,true,true,true,false,false,false,false,false,false,false,false,false,false,false,false,false,false,false,false,false] rfl rfl (take_ofW HT_.out HW_.out (by kernel_rfl)) (fun _ _ _ h => h) (Or.inl ⟨by rfl, ?_⟩) hHeld ?_ ?_
                    rotate_left
                    ·
                     rintro w' ⟨s0, s1⟩
                     go_simp
                     with_reducible rfl
                    rotate_left
                    · simp only [Act.put, sS, s0_, s1_, i64_w, i32_w]; rfl
                    refine pure_ (i := 8) (N := some 115) (v := ?_) (a' := ?_) #[true,true,true,true,true,true,true,true,true,false,false,false,false,false,false,false,false,false,false,false,false,false,false,false,false] rfl rfl (any_of HT_.out (by kernel_rfl)) (fun _ _ _ h => h) (Or.inl ⟨by rfl, ?_⟩) ?_ ?_
                    rotate_left
                    · intro w'; go_simp; with_reducible rfl
                    rotate_left
                    · simp only [Act.put, sS, s0_, s1_, i64_w, i32_w]; rfl
                    refine pure_ (i := 9) (N := some 116) (v := ?_) (a' := ?_) #[true,true,true,true,true,true,true,true,true,true,false,false,false,false,false,false,false,false,false,false,false,false,false,false,false] rfl rfl (any_of HT_.out (by kernel_rfl)) (fun _ _ _ h => h) (Or.inl ⟨by rfl, ?_⟩) ?_ ?_
                    rotate_left
                    · intro w'; go_simp; with_reducible rfl
                    rotate_left
                    · simp only [Act.put, sS, s0_, s1_, i64_w, i32_w]; rfl
                    refine pure_ (i := 10) (N := some 117) (v := ?_) (a' := ?_) #[true,true,true,true,true,true,true,true,true,true,true,false,false,false,false,false,false,false,false,false,false,false,false,false,false] rfl rfl (any_of HT_.out (by kernel_rfl)) (fun _ _ _ h => h) (Or.inl ⟨by rfl, ?_⟩) ?_ ?_
                    rotate_left
                    · intro w'; go_simp; with_reducible rfl
                    rotate_left
                    · simp only [Act.put, sS, s0_, s1_, i64_w, i32_w]; rfl
                    refine pure_ (i := 11) (N := some 118) (v := ?_) (a' := ?_) #[true,true,true,true,true,true,true,true,true,true,true,true,false,false,false,false,false,false,false,false,false,false,false,false,false] rfl rfl (any_of HT_.out (by kernel_rfl)) (fun _ _ _ h => h) (Or.inl ⟨by rfl, ?_⟩) ?_ ?_
                    rotate_left
                    · intro w'; go_simp; with_reducible rfl
                    rotate_left
                    · simp only [Act.put, sS, s0_, s1_, i64_w, i32_w]; rfl
                    refine pure_ (i := 12) (N := some 119) (v := ?_) (a' := ?_) #[true,true,true,true,true,true,true,true,true,true,true,true,true,false,false,false,false,false,false,false,false,false,false,false,false] rfl rfl (any_of HT_.out (by kernel_rfl)) (fun _ _ _ h => h) (Or.inl ⟨by rfl, ?_⟩) ?_ ?_
                    rotate_left
                    · intro w'; go_simp; with_reducible rfl
                    rotate_left
                    · simp only [Act.put, sS, s0_, s1_, i64_w, i32_w]; rfl
                    refine pure_ (i := 13) (N := some 120) (v := undef) (a' := ?_) #[true,true,true,true,true,true,true,true,true,true,true,true,true,true,false,false,false,false,false,false,false,false,false,false,false] rfl rfl (any_of HT_.out (by kernel_rfl)) (fun _ _ _ h => h) (Or.inr ⟨by rfl, rfl⟩) ?_ ?_
                    rotate_left
                    · simp only [Act.put, sS, s0_, s1_, i64_w, i32_w]; rfl
                    refine pure_ (i := 14) (N := some 121) (v := undef) (a' := ?_) #[true,true,true,true,true,true,true,true,true,true,true,true,true,true,true,false,false,false,false,false,false,false,false,false,false] rfl rfl (any_of HT_.out (by kernel_rfl)) (fun _ _ _ h => h) (Or.inr ⟨by rfl, rfl⟩) ?_ ?_
                    rotate_left
                    · simp only [Act.put, sS, s0_, s1_, i64_w, i32_w]; rfl
                    refine pure_ (i := 15) (N := some 122) (v := undef) (a' := ?_) #[true,true,true,true,true,true,true,true,true,true,true,true,true,true,true,true,false,false,false,false,false,false,false,false,false] rfl rfl (any_of HT_.out (by kernel_rfl)) (fun _ _ _ h => h) (Or.inr ⟨by rfl, rfl⟩) ?_ ?_
                    rotate_left
                    · simp only [Act.put, sS, s0_, s1_, i64_w, i32_w]; rfl
                    refine pure_ (i := 16) (N := some 123) (v := undef) (a' := ?_) #[true,true,true,true,true,true,true,true,true,true,true,true,true,true,true,true,true,false,false,false,false,false,false,false,false] rfl rfl (any_of HT_.out (by kernel_rfl)) (fun _ _ _ h => h) (Or.inr ⟨by rfl, rfl⟩) ?_ ?_
                    rotate_left
                    · simp only [Act.put, sS, s0_, s1_, i64_w, i32_w]; rfl
                    refine pure_ (i := 17) (N := some 124) (v := undef) (a' := ?_) #[true,true,true,true,true,true,true,true,true,true,true,true,true,true,true,true,true,true,false,false,false,false,false,false,false] rfl rfl (any_of HT_.out (by kernel_rfl)) (fun _ _ _ h => h) (Or.inr ⟨by rfl, rfl⟩) ?_ ?_
                    rotate_left
                    · simp only [Act.put, sS, s0_, s1_, i64_w, i32_w]; rfl
                    refine pure_ (i := 18) (N := some 125) (v := undef) (a' := ?_) #[true,true,true,true,true,true,true,true,true,true,true,true,true,true,true,true,true,true,true,false,false,false,false,false,false] rfl rfl (any_of HT_.out (by kernel_rfl)) (fun _ _ _ h => h) (Or.inr ⟨by rfl, rfl⟩) ?_ ?_
                    rotate_left
                    · simp only [Act.put, sS, s0_, s1_, i64_w, i32_w]; rfl
                    refine pure_ (i := 19) (N := some 126) (v := undef) (a' := ?_) #[true,true,true,true,true,true,true,true,true,true,true,true,true,true,true,true,true,true,true,true,false,false,false,false,false] rfl rfl (any_of HT_.out (by kernel_rfl)) (fun _ _ _ h => h) (Or.inr ⟨by rfl, rfl⟩) ?_ ?_
                    rotate_left
                    · simp only [Act.put, sS, s0_, s1_, i64_w, i32_w]; rfl
                    refine pure_ (i := 20) (N := some 127) (v := undef) (a' := ?_) #[true,true,true,true,true,true,true,true,true,true,true,true,true,true,true,true,true,true,true,true,true,false,false,false,false] rfl rfl (any_of HT_.out (by kernel_rfl)) (fun _ _ _ h => h) (Or.inr ⟨by rfl, rfl⟩) ?_ ?_
                    rotate_left
                    · simp only [Act.put, sS, s0_, s1_, i64_w, i32_w]; rfl
                    refine pure_ (i := 21) (N := some 128) (v := undef) (a' := ?_) #[true,true,true,true,true,true,true,true,true,true,true,true,true,true,true,true,true,true,true,true,true,true,false,false,false] rfl rfl (any_of HT_.out (by kernel_rfl)) (fun _ _ _ h => h) (Or.inr ⟨by rfl, rfl⟩) ?_ ?_
                    rotate_left
                    · simp only [Act.put, sS, s0_, s1_, i64_w, i32_w]; rfl
                    refine pure_ (i := 22) (N := some 129) (v := undef) (a' := ?_) #[true,true,true,true,true,true,true,true,true,true,true,true,true,true,true,true,true,true,true,true,true,true,true,false,false] rfl rfl (any_of HT_.out (by kernel_rfl)) (fun _ _ _ h => h) (Or.inr ⟨by rfl, rfl⟩) ?_ ?_
                    rotate_left
                    · simp only [Act.put, sS, s0_, s1_, i64_w, i32_w]; rfl
                    refine pure_ (i := 23) (N := some 130) (v := ?_) (a' := ?_) #[true,true,true,true,true,true,true,true,true,true,true,true,true,true,true,true,true,true,true,true,true,true,true,true,false] rfl rfl (any_of HT_.out (by kernel_rfl)) (fun _ _ _ h => h) (Or.inl ⟨by rfl, ?_⟩) ?_ ?_
                    rotate_left
                    · intro w'; go_simp; with_reducible rfl
                    rotate_left
                    · simp only [Act.put, sS, s0_, s1_, i64_w, i32_w]; rfl
                    refine pure_ (i := 24) (N := some 131) (v := ?_) (a' := ?_) #[true,true,true,true,true,true,true,true,true,true,true,true,true,true,true,true,true,true,true,true,true,true,true,true,true] rfl rfl (any_of HT_.out (by kernel_rfl)) (fun _ _ _ h => h) (Or.inl ⟨by rfl, ?_⟩) ?_ ?_
                    rotate_left
                    · intro w'; go_simp; with_reducible rfl
                    rotate_left
                    · simp only [Act.put, sS, s0_, s1_, i64_w, i32_w]; rfl
                    refine done_ (done_of HT_.out (by kernel_rfl)) ?_
                    try go_wp2
                    go_roundg k4
                    case measure => have := HJ7.out; have := HK2.out; have := HJ77.out; have := HK4.out; omega
                    case rel => exact ⟨(wrap64 (x104_4 + 1)), (by first | rfl | (simp; done) | (simp [*]; done)), H', ⟨by have := HJ7.out; have := HK2.out; have := HJ77.out; have := HK4.out; omega⟩, ⟨by (with_reducible repeat (first | apply Kd.R_alloc | apply Kd.R_drewN | apply Kd.R_drew)); exact HO_12.out⟩, ⟨by (with_reducible repeat (first | apply Kd.R_alloc | apply Kd.R_drewN | apply Kd.R_drew)); exact HO_13.out⟩, ⟨by (with_reducible repeat (first | apply Kd.R_alloc | apply Kd.R_drewN | apply Kd.R_drew)); exact HO_222001.out⟩, ⟨by (with_reducible repeat (first | apply Kd.R_alloc | apply Kd.R_drewN | apply Kd.R_drew)); exact HO_228001.out⟩, ⟨by (with_reducible repeat (first | refine blk_drewN ?_ _ | refine blk_drew ?_ | refine blk_alloc ?_ _)); exact BK221.out⟩, ⟨by (with_reducible repeat (first | refine blk_drewN ?_ _ | refine blk_drew ?_ | refine blk_alloc ?_ _)); exact BK227.out⟩, ⟨by repeat (first | (with_reducible first | exact HB.out | apply below_alloc | apply pw_below_drewN | apply below_drew1 | refine below_set ?_ GE221.out | refine below_set ?_ GE227.out) | exact HB.out)⟩⟩
                  ·
                   rw [if_neg c108] at H
                   have c108b0 : ((rd t242 x104_4) == (rd t245 x104_4)) = false := beq_eq_false_iff_ne.mpr c108
                   have c108b1 : ((rd t242 x104_4) != (rd t245 x104_4)) = true := bne_iff_ne.mpr c108
                   obtain rfl := Option.some.inj H
                   try go_wp2
                   have n0_ := Aside0.mk (Kd.R_drew HO_12.out)
                   have n1_ := Aside0.mk (Kd.R_drew HO_13.out)
                   have n2_ := Aside0.mk (Kd.R_drew HO_222001.out)
                   have n3_ := Aside0.mk (Kd.R_drew HO_228001.out)
                   have n4_ := Aside0.mk (blk_drew BK221.out)
                   have n5_ := Aside0.mk (blk_drew BK227.out)
                   have n6_ := Aside0.mk (below_drew1 HB.out)
                   clear HO_12
                   clear HO_13
                   clear HO_222001
                   clear HO_228001
                   clear BK221
                   clear BK227
                   clear HB
                   have HO_12 := n0_
                   have HO_13 := n1_
                   have HO_222001 := n2_
                   have HO_228001 := n3_
                   have BK221 := n4_
                   have BK227 := n5_
                   have HB := n6_
                   clear n0_ n1_ n2_ n3_ n4_ n5_ n6_
                   have p251 : 0 ≤ (x104_4 : Int) := of_decide_eq_true (by first | (with_reducible assumption) | assumption)
                   have q251 : x104_4 < (t242.length : Int) := of_decide_eq_true (by first | (with_reducible assumption) | assumption)
                   obtain ⟨ad251, e251, hx251_0⟩ := Kd.at_int (Kd.R_reads' HO_12.out).2.2 x104_4 p251 q251
                   cases e251
                   replace p251 := eq_true p251
                   replace q251 := eq_true q251
                   obtain ⟨Ao121, co121, eo121⟩ := Kd.R_slice HO_13.out
                   (first | subst eo121 | (injection eo121 with f1_ f2_ f3_; have f4_ := f1_.symm; have f5_ := f3_.symm; clear f1_ f2_ f3_; subst f4_; subst f5_))
                   have p252 : 0 ≤ (x104_4 : Int) := of_decide_eq_true (by first | (with_reducible assumption) | assumption)
                   have q252 : x104_4 < (t245.length : Int) := of_decide_eq_true (by first | (with_reducible assumption) | assumption)
                   obtain ⟨ad252, e252, hx252_0⟩ := Kd.at_int (Kd.R_reads' HO_13.out).2.2 x104_4 p252 q252
                   cases e252
                   replace p252 := eq_true p252
                   replace q252 := eq_true q252
                   refine start_ (n := 25) (S := fun w' => w'.cell? (ad251.add (x104_4).toNat) = some (.int .i64 (rd t242 x104_4)) ∧ w'.cell? (ad252.add (x104_4).toNat) = some (.int .i64 (rd t245 x104_4))) (ds := []) #[false,false,false,false,false,false,false,false,false,false,false,false,false,false,false,false,false,false,false,false,false,false,false,false,false] (by kernel_rfl) rfl rfl ⟨hx251_0, hx252_0⟩ (fun hHeld => ?_); refine with_tabW tillrolllaw09_BbtAny.tab21 tillrolllaw09_BbtAny.bits21 (fun HT_ HW_ => ?_)
                   generalize wr.drew = w120 at HO_12 HO_13 HO_222001 HO_228001 BK221 BK227 HB hx251_0 hx252_0 hHeld ⊢
                   refine pure_ (i := 0) (N := some 107) (v := ?_) (a' := ?_) #[true,false,false,false,false,false,false,false,false,false,false,false,false,false,false,false,false,false,false,false,false,false,false,false,false] rfl rfl (any_of HT_.out (by kernel_rfl)) (fun _ _ _ h => h) (Or.inl ⟨by rfl, ?_⟩) ?_ ?_
                   rotate_left
                   · intro w'; go_simp; with_reducible rfl
                   rotate_left
                   · simp only [Act.put, sS, s0_, s1_, i64_w, i32_w]; rfl
                   refine pure_ (i := 1) (N := some 108) (v := ?_) (a' := ?_) #[true,true,false,false,false,false,false,false,false,false,false,false,false,false,false,false,false,false,false,false,false,false,false,false,false] rfl rfl (any_of HT_.out (by kernel_rfl)) (fun _ _ _ h => h) (Or.inl ⟨by rfl, ?_⟩) ?_ ?_
                   rotate_left
                   · intro w'; go_simp; with_reducible rfl
                   rotate_left
                   · simp only [Act.put, sS, s0_, s1_, i64_w, i32_w]; rfl
                   refine pure_ (i := 2) (N := some 109) (v := ?_) (a' := ?_) #[true,true,true,false,false,false,false,false,false,false,false,false,false,false,false,false,false,false,false,false,false,false,false,false,false] rfl rfl (any_of HT_.out (by kernel_rfl)) (fun _ _ _ h => h) (Or.inl ⟨by rfl, ?_⟩) ?_ ?_
                   rotate_left
                   · intro w'; go_simp; with_reducible rfl
                   rotate_left
                   · simp only [Act.put, sS, s0_, s1_, i64_w, i32_w]; rfl
                   refine pure_ (i := 4) (N := some 111) (v := ?_) (a' := ?_) #[true,true,true,false,true,false,false,false,false,false,false,false,false,false,false,false,false,false,false,false,false,false,false,false,false] rfl rfl (any_of HT_.out (by kernel_rfl)) (fun _ _ _ h => h) (Or.inl ⟨by rfl, ?_⟩) ?_ ?_
                   rotate_left
                   · intro w'; go_simp; with_reducible rfl
                   rotate_left
                   · simp only [Act.put, sS, s0_, s1_, i64_w, i32_w]; rfl
                   refine pure_ (i := 5) (N := some 112) (v := ?_) (a' := ?_) #[true,true,true,false,true,true,false,false,false,false,false,false,false,false,false,false,false,false,false,false,false,false,false,false,false] rfl rfl (any_of HT_.out (by kernel_rfl)) (fun _ _ _ h => h) (Or.inl ⟨by rfl, ?_⟩) ?_ ?_
                   rotate_left
                   · intro w'; go_simp; with_reducible rfl
                   rotate_left
                   · simp only [Act.put, sS, s0_, s1_, i64_w, i32_w]; rfl
                   refine pure_ (i := 6) (N := some 113) (v := ?_) (a' := ?_) #[true,true,true,false,true,true,true,false,false,false,false,false,false,false,false,false,false,false,false,false,false,false,false,false,false] rfl rfl (any_of HT_.out (by kernel_rfl)) (fun _ _ _ h => h) (Or.inl ⟨by rfl, ?_⟩) ?_ ?_
                   rotate_left
                   · intro w'; go_simp; with_reducible rfl
                   rotate_left
                   · simp only [Act.put, sS, s0_, s1_, i64_w, i32_w]; rfl
                   refine take_ (i := 3) (N := some 110) (v := ?_) (a' := ?_) #[true,true,true,true,true,true,true,false,false,false,false,false,false,false,false,false,false,false,false,false,false,false,false,false,false] rfl rfl (take_ofW HT_.out HW_.out (by kernel_rfl)) (fun _ _ _ h => h) (Or.inl ⟨by rfl, ?_⟩) hHeld ?_ ?_
                   rotate_left
                   ·
                    rintro w' ⟨s0, s1⟩
                    go_simp
                    with_reducible rfl
                   rotate_left
                   · simp only [Act.put, sS, s0_, s1_, i64_w, i32_w]; rfl
                   refine take_ (i := 7) (N := some 114) (v := ?_) (a' := ?_) #[true,true,true,true,true,true,true,true,false,false,false,false,false,false,false,false,false,false,false,false,false,false,false,false,false] rfl rfl (take_ofW HT_.out HW_.out (by kernel_rfl)) (fun _ _ _ h => h) (Or.inl ⟨by rfl, ?_⟩) hHeld ?_ ?_
                   rotate_left
                   ·
                    rintro w' ⟨s0, s1⟩
                    go_simp
                    with_reducible rfl
                   rotate_left
                   · simp only [Act.put, sS, s0_, s1_, i64_w, i32_w]; rfl
                   refine pure_ (i := 8) (N := some 115) (v := ?_) (a' := ?_) #[true,true,true,true,true,true,true,true,true,false,false,false,false,false,false,false,false,false,false,false,false,false,false,false,false] rfl rfl (any_of HT_.out (by kernel_rfl)) (fun _ _ _ h => h) (Or.inl ⟨by rfl, ?_⟩) ?_ ?_
                   rotate_left
                   · intro w'; go_simp; with_reducible rfl
                   rotate_left
                   · simp only [Act.put, sS, s0_, s1_, i64_w, i32_w]; rfl
                   refine pure_ (i := 9) (N := some 116) (v := ?_) (a' := ?_) #[true,true,true,true,true,true,true,true,true,true,false,false,false,false,false,false,false,false,false,false,false,false,false,false,false] rfl rfl (any_of HT_.out (by kernel_rfl)) (fun _ _ _ h => h) (Or.inl ⟨by rfl, ?_⟩) ?_ ?_
                   rotate_left
                   · intro w'; go_simp; with_reducible rfl
                   rotate_left
                   · simp only [Act.put, sS, s0_, s1_, i64_w, i32_w]; rfl
                   refine pure_ (i := 10) (N := some 117) (v := undef) (a' := ?_) #[true,true,true,true,true,true,true,true,true,true,true,false,false,false,false,false,false,false,false,false,false,false,false,false,false] rfl rfl (any_of HT_.out (by kernel_rfl)) (fun _ _ _ h => h) (Or.inr ⟨by rfl, rfl⟩) ?_ ?_
                   rotate_left
                   · simp only [Act.put, sS, s0_, s1_, i64_w, i32_w]; rfl
                   refine pure_ (i := 11) (N := some 118) (v := undef) (a' := ?_) #[true,true,true,true,true,true,true,true,true,true,true,true,false,false,false,false,false,false,false,false,false,false,false,false,false] rfl rfl (any_of HT_.out (by kernel_rfl)) (fun _ _ _ h => h) (Or.inr ⟨by rfl, rfl⟩) ?_ ?_
                   rotate_left
                   · simp only [Act.put, sS, s0_, s1_, i64_w, i32_w]; rfl
                   refine pure_ (i := 12) (N := some 119) (v := undef) (a' := ?_) #[true,true,true,true,true,true,true,true,true,true,true,true,true,false,false,false,false,false,false,false,false,false,false,false,false] rfl rfl (any_of HT_.out (by kernel_rfl)) (fun _ _ _ h => h) (Or.inr ⟨by rfl, rfl⟩) ?_ ?_
                   rotate_left
                   · simp only [Act.put, sS, s0_, s1_, i64_w, i32_w]; rfl
                   refine pure_ (i := 13) (N := some 120) (v := undef) (a' := ?_) #[true,true,true,true,true,true,true,true,true,true,true,true,true,true,false,false,false,false,false,false,false,false,false,false,false] rfl rfl (any_of HT_.out (by kernel_rfl)) (fun _ _ _ h => h) (Or.inr ⟨by rfl, rfl⟩) ?_ ?_
                   rotate_left
                   · simp only [Act.put, sS, s0_, s1_, i64_w, i32_w]; rfl
                   refine pure_ (i := 14) (N := some 121) (v := undef) (a' := ?_) #[true,true,true,true,true,true,true,true,true,true,true,true,true,true,true,false,false,false,false,false,false,false,false,false,false] rfl rfl (any_of HT_.out (by kernel_rfl)) (fun _ _ _ h => h) (Or.inr ⟨by rfl, rfl⟩) ?_ ?_
                   rotate_left
                   · simp only [Act.put, sS, s0_, s1_, i64_w, i32_w]; rfl
                   refine pure_ (i := 15) (N := some 122) (v := undef) (a' := ?_) #[true,true,true,true,true,true,true,true,true,true,true,true,true,true,true,true,false,false,false,false,false,false,false,false,false] rfl rfl (any_of HT_.out (by kernel_rfl)) (fun _ _ _ h => h) (Or.inr ⟨by rfl, rfl⟩) ?_ ?_
                   rotate_left
                   · simp only [Act.put, sS, s0_, s1_, i64_w, i32_w]; rfl
                   refine pure_ (i := 16) (N := some 123) (v := undef) (a' := ?_) #[true,true,true,true,true,true,true,true,true,true,true,true,true,true,true,true,true,false,false,false,false,false,false,false,false] rfl rfl (any_of HT_.out (by kernel_rfl)) (fun _ _ _ h => h) (Or.inr ⟨by rfl, rfl⟩) ?_ ?_
                   rotate_left
                   · simp only [Act.put, sS, s0_, s1_, i64_w, i32_w]; rfl
                   refine pure_ (i := 17) (N := some 124) (v := undef) (a' := ?_) #[true,true,true,true,true,true,true,true,true,true,true,true,true,true,true,true,true,true,false,false,false,false,false,false,false] rfl rfl (any_of HT_.out (by kernel_rfl)) (fun _ _ _ h => h) (Or.inr ⟨by rfl, rfl⟩) ?_ ?_
                   rotate_left
                   · simp only [Act.put, sS, s0_, s1_, i64_w, i32_w]; rfl
                   refine pure_ (i := 18) (N := some 125) (v := undef) (a' := ?_) #[true,true,true,true,true,true,true,true,true,true,true,true,true,true,true,true,true,true,true,false,false,false,false,false,false] rfl rfl (any_of HT_.out (by kernel_rfl)) (fun _ _ _ h => h) (Or.inr ⟨by rfl, rfl⟩) ?_ ?_
                   rotate_left
                   · simp only [Act.put, sS, s0_, s1_, i64_w, i32_w]; rfl
                   refine pure_ (i := 19) (N := some 126) (v := undef) (a' := ?_) #[true,true,true,true,true,true,true,true,true,true,true,true,true,true,true,true,true,true,true,true,false,false,false,false,false] rfl rfl (any_of HT_.out (by kernel_rfl)) (fun _ _ _ h => h) (Or.inr ⟨by rfl, rfl⟩) ?_ ?_
                   rotate_left
                   · simp only [Act.put, sS, s0_, s1_, i64_w, i32_w]; rfl
                   refine pure_ (i := 20) (N := some 127) (v := undef) (a' := ?_) #[true,true,true,true,true,true,true,true,true,true,true,true,true,true,true,true,true,true,true,true,true,false,false,false,false] rfl rfl (any_of HT_.out (by kernel_rfl)) (fun _ _ _ h => h) (Or.inr ⟨by rfl, rfl⟩) ?_ ?_
                   rotate_left
                   · simp only [Act.put, sS, s0_, s1_, i64_w, i32_w]; rfl
                   refine pure_ (i := 21) (N := some 128) (v := undef) (a' := ?_) #[true,true,true,true,true,true,true,true,true,true,true,true,true,true,true,true,true,true,true,true,true,true,false,false,false] rfl rfl (any_of HT_.out (by kernel_rfl)) (fun _ _ _ h => h) (Or.inr ⟨by rfl, rfl⟩) ?_ ?_
                   rotate_left
                   · simp only [Act.put, sS, s0_, s1_, i64_w, i32_w]; rfl
                   refine pure_ (i := 22) (N := some 129) (v := undef) (a' := ?_) #[true,true,true,true,true,true,true,true,true,true,true,true,true,true,true,true,true,true,true,true,true,true,true,false,false] rfl rfl (any_of HT_.out (by kernel_rfl)) (fun _ _ _ h => h) (Or.inr ⟨by rfl, rfl⟩) ?_ ?_
                   rotate_left
                   · simp only [Act.put, sS, s0_, s1_, i64_w, i32_w]; rfl
                   refine pure_ (i := 23) (N := some 130) (v := undef) (a' := ?_) #[true,true,true,true,true,true,true,true,true,true,true,true,true,true,true,true,true,true,true,true,true,true,true,true,false] rfl rfl (any_of HT_.out (by kernel_rfl)) (fun _ _ _ h => h) (Or.inr ⟨by rfl, rfl⟩) ?_ ?_
                   rotate_left
                   · simp only [Act.put, sS, s0_, s1_, i64_w, i32_w]; rfl
                   refine pure_ (i := 24) (N := some 131) (v := ?_) (a' := ?_) #[true,true,true,true,true,true,true,true,true,true,true,true,true,true,true,true,true,true,true,true,true,true,true,true,true] rfl rfl (any_of HT_.out (by kernel_rfl)) (fun _ _ _ h => h) (Or.inl ⟨by rfl, ?_⟩) ?_ ?_
                   rotate_left
                   · intro w'; go_simp; with_reducible rfl
                   rotate_left
                   · simp only [Act.put, sS, s0_, s1_, i64_w, i32_w]; rfl
                   refine done_ (done_of HT_.out (by kernel_rfl)) ?_
                   try go_wp2
                   go_ret
                   exact ⟨by first | rfl | (simp [errW_none, errW_some] <;> rfl) | (simp only [← hji5]; first | rfl | (simp [errW_none, errW_some] <;> rfl)) | (simp [*, errW_none, errW_some] <;> rfl), by repeat (first | (with_reducible first | exact HB.out | apply below_alloc | apply pw_below_drewN | apply below_drew1 | refine below_set ?_ GE221.out | refine below_set ?_ GE227.out) | exact HB.out)⟩
                 ·
                  rw [if_neg c107] at H
                  exact absurd H (by simp)
                ·
                 rw [if_neg c106] at H
                 exact absurd H (by simp)
               ·
                rw [if_neg c105] at H
                exact absurd H (by simp)
              ·
               rw [if_neg c104] at H
               have c104b0 : decide (x104_4 < (t242.length : Int)) = false := decide_eq_false c104
               clear c104
               obtain rfl := Option.some.inj H
               go_wp2
               go_ret
               exact ⟨by first | rfl | (simp [errW_none, errW_some] <;> rfl) | (simp only [← hji5]; first | rfl | (simp [errW_none, errW_some] <;> rfl)) | (simp [*, errW_none, errW_some] <;> rfl), by repeat (first | (with_reducible first | exact HB.out | apply below_alloc | apply pw_below_drewN | apply below_drew1 | refine below_set ?_ GE221.out | refine below_set ?_ GE227.out) | exact HB.out)⟩
  ·
   rw [if_neg c7] at H
   exact absurd H (by simp)
 ·
  rw [if_neg c6] at H
  exact absurd H (by simp)

/-- THE ONE PURE STATEMENT of tillrolllaw09_BbtAny: yours. -/
def tillrolllaw09_BbtAny.Pure : Prop := ∀ (l0 : List Int) (a1 : Int), l0.length ≤ maxLen → l0.length * 1 ≤ 140737488351232 → (∀ x ∈ l0, (Lit.int .u8 x).wf = true) → (Lit.int .u8 a1).wf = true → ∃ k, tillrolllaw09_BbtAny.f k l0 a1 = some true
theorem tillrolllaw09_BbtAny.walk (P : tillrolllaw09_BbtAny.Pure) (a0 : Option Addr) (len0 cap0 : Nat) (z0 : List Int) (a1 : Int) (w : World) (w0 : (a0 = none ∧ len0 = 0 ∧ cap0 = 0 ∧ z0 = []) ∨ ∃ x, a0 = some x ∧ len0 ≤ cap0 ∧ cap0 ≤ maxLen ∧ z0.length = cap0 ∧ (∀ i, i < z0.length → w.cell? (x.add i) = some (.int .u8 (z0.getD i 0))) ∧ ∀ n ∈ z0, (Lit.int .u8 n).wf = true) (y0 : len0 * 1 ≤ 140737488351232) (w1 : (Lit.int .u8 a1).wf = true) :
  Calls Try.prog 3 #[.slice a0 len0 cap0, .int .u8 a1] w fun e w' => e = .returned (.bool true) ∧ Below w.heap.size w w' := by
 obtain ⟨l0, rfl, hr0, hm0, hw0, hc0⟩ := ReadsInt.ofRowC w0
 obtain ⟨k, h⟩ := P l0 a1 hm0 y0 hw0 w1
 refine (tillrolllaw09_BbtAny.calls k _ _ l0 a1 true w (Kd.C_of_reads (d := (0 : Int)) (h1 := fun _ => rfl) hr0) hc0 h).mono ?_
 rintro e w' ⟨rfl, hd⟩
 exact ⟨rfl, hd⟩

end Go.Proofs.Ytopglieihhgaaaa.P
