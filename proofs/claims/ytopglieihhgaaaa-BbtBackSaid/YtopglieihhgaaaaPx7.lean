-- Made by a program of this session (xprint) out of the translation. Not trusted: Lean checks it.
import Derived.Test.YtopglieihhgaaaaPx0
import Derived.Test.YtopglieihhgaaaaPx1
import Derived.Test.YtopglieihhgaaaaPx3
import Derived.Test.YtopglieihhgaaaaPx4
import Derived.Test.YtopglieihhgaaaaPx6
namespace Go.Proofs.Ytopglieihhgaaaa.P
open Go.RowKit Go.Proofs.YtopglieihhgaaaaW.PrintWords Go.Proofs.YtopglieihhgaaaaW.PrintLast Go.Proofs.YtopglieihhgaaaaW.PrintMore
attribute [local go_sem] max2_int min2_int max_two min_two max_three min_three max_four min_four   -- for this text's walks alone
set_option linter.unusedVariables false
set_option linter.unusedSimpArgs false

/-! ### tillrolllaw09_BbtBack: function 5 -/
universe u
theorem sS {α : Type u} (l : List α) (i : Nat) (a : α) : l.toArray.setIfInBounds i a = (l.set i a).toArray := List.setIfInBounds_toArray ..
theorem s0_ {α : Type u} (x : α) (xs : List α) (a : α) : (x :: xs).set 0 a = a :: xs := rfl
theorem s1_ {α : Type u} (x : α) (xs : List α) (n : Nat) (a : α) : (x :: xs).set (n + 1) a = x :: xs.set n a := rfl
mutual
def tillrolllaw09_BbtBack.j0 : Nat → List Int → Int → Int → Bool → Int → List Bool → Option (Bool)
 | 0, _, _, _, _, _, _ => none
 | k + 1, x1, x2, x7, x34, x171000, x171001 => if x34 = true then (some false) else (if 0 ≤ (mn (x1.length : Int) 40) then (if (mn (x1.length : Int) 40) ≤ (x1.length : Int) then (tillrolllaw09_BbtBack.l0 k x2 x7 (x1.take ((mn (x1.length : Int) 40) : Int).toNat) ((x1.take ((mn (x1.length : Int) 40) : Int).toNat).length : Int) 0 x171000 x171001) else (none)) else (none))
def tillrolllaw09_BbtBack.l0 : Nat → Int → Int → List Int → Int → Int → Int → List Bool → Option (Bool)
 | 0, _, _, _, _, _, _, _ => none
 | k + 1, x2, x7, x39, x40, x41, x171000, x171001 => if x41 < x40 then (if 0 ≤ x41 then (if x41 < (x39.length : Int) then (if x7 = 0 then (none) else ((bbt_Table_With.f x171000 x171001 (Int.tmod (wrap64 (rd x39 x41)) x7)).bind fun bt174 => (if bt174.2.2 = 0 then (tillrolllaw09_BbtBack.l0 k x2 x7 x39 x40 (wrap64 (x41 + 1)) bt174.1 bt174.2.1) else (tillrolllaw09_BbtBack.l0 k x2 x7 x39 x40 (wrap64 (x41 + 1)) x171000 x171001)))) else (none)) else (none)) else ((bbt_Table_Text.f k x171000 x171001 64).bind fun bt180 => ((bbt_Parse.f k bt180.1 x7).bind fun bt182 => (if bt180.2 = 0 then (if bt182.2.2 = 0 then ((bbt_Table_Version.f bt182.1 bt182.2.1).bind fun t188 => ((bbt_Table_Version.f x171000 x171001).bind fun t189 => (if t188 = t189 then ((bbt_Table_List.f k bt182.1 bt182.2.1).bind fun t190 => ((bbt_Table_List.f k x171000 x171001).bind fun t193 => (tillrolllaw09_BbtBack.j2 k x2 bt180.1 ((t190.length : Int) != (t193.length : Int)) x171000 x171001 bt182.1 bt182.2.1))) else (tillrolllaw09_BbtBack.j2 k x2 bt180.1 true x171000 x171001 bt182.1 bt182.2.1)))) else (tillrolllaw09_BbtBack.j2 k x2 bt180.1 true x171000 x171001 bt182.1 bt182.2.1)) else (tillrolllaw09_BbtBack.j2 k x2 bt180.1 true x171000 x171001 bt182.1 bt182.2.1))))
def tillrolllaw09_BbtBack.j2 : Nat → Int → ByteArray → Bool → Int → List Bool → Int → List Bool → Option (Bool)
 | 0, _, _, _, _, _, _, _ => none
 | k + 1, x2, x14, x90, x171000, x171001, x188000, x188001 => if x90 = true then (some false) else ((bbt_Table_List.f k x171000 x171001).bind fun t196 => (tillrolllaw09_BbtBack.l1 k x2 x14 t196 (t196.length : Int) 0 x171000 x171001 x188000 x188001))
def tillrolllaw09_BbtBack.l1 : Nat → Int → ByteArray → List Int → Int → Int → Int → List Bool → Int → List Bool → Option (Bool)
 | 0, _, _, _, _, _, _, _, _, _ => none
 | k + 1, x2, x14, x92, x93, x94, x171000, x171001, x188000, x188001 => if x94 < x93 then (if 0 ≤ x94 then (if x94 < (x92.length : Int) then ((bbt_Table_List.f k x188000 x188001).bind fun t200 => (if x94 < (t200.length : Int) then (if (rd t200 x94) = (rd x92 x94) then (tillrolllaw09_BbtBack.l1 k x2 x14 x92 x93 (wrap64 (x94 + 1)) x171000 x171001 x188000 x188001) else (some false)) else (none))) else (none)) else (none)) else ((bbt_Parse.f k x14 (wrap64 (1 + (wrap64 (x2))))).bind fun bt204 => (if bt204.2.2 = 4 then (some true) else (if bt204.2.2 = 0 then ((bbt_Table_List.f k bt204.1 bt204.2.1).bind fun t210 => ((bbt_Table_List.f k x171000 x171001).bind fun t213 => (some ((t210.length : Int) == (t213.length : Int))))) else (some false))))
end
def tillrolllaw09_BbtBack.f (k : Nat) (a0 : Int) (l1 : List Int) (a2 : Int) : Option (Bool) := (bbt_New.f (wrap64 (1 + (wrap64 (a0))))).bind fun bt165 => ((tillrolllaw09_wakes.f k).bind fun t171 => (if t171 = true then (tillrolllaw09_BbtBack.j0 k l1 a2 (wrap64 (1 + (wrap64 (a0)))) (bt165.2.2 != 0) bt165.1 bt165.2.1) else (tillrolllaw09_BbtBack.j0 k l1 a2 (wrap64 (1 + (wrap64 (a0)))) true bt165.1 bt165.2.1)))
theorem tillrolllaw09_BbtBack.mono_l : ∀ k, (∀ y0 y1 y2 y3 y4 y5, LeO (tillrolllaw09_BbtBack.j0 k y0 y1 y2 y3 y4 y5) (tillrolllaw09_BbtBack.j0 (k + 1) y0 y1 y2 y3 y4 y5)) ∧ (∀ y0 y1 y2 y3 y4 y5 y6, LeO (tillrolllaw09_BbtBack.l0 k y0 y1 y2 y3 y4 y5 y6) (tillrolllaw09_BbtBack.l0 (k + 1) y0 y1 y2 y3 y4 y5 y6)) ∧ (∀ y0 y1 y2 y3 y4 y5 y6, LeO (tillrolllaw09_BbtBack.j2 k y0 y1 y2 y3 y4 y5 y6) (tillrolllaw09_BbtBack.j2 (k + 1) y0 y1 y2 y3 y4 y5 y6)) ∧ (∀ y0 y1 y2 y3 y4 y5 y6 y7 y8, LeO (tillrolllaw09_BbtBack.l1 k y0 y1 y2 y3 y4 y5 y6 y7 y8) (tillrolllaw09_BbtBack.l1 (k + 1) y0 y1 y2 y3 y4 y5 y6 y7 y8))
 | 0 => ⟨fun _ _ _ _ _ _ r h => by simp [tillrolllaw09_BbtBack.j0] at h, fun _ _ _ _ _ _ _ r h => by simp [tillrolllaw09_BbtBack.l0] at h, fun _ _ _ _ _ _ _ r h => by simp [tillrolllaw09_BbtBack.j2] at h, fun _ _ _ _ _ _ _ _ _ r h => by simp [tillrolllaw09_BbtBack.l1] at h⟩
 | k + 1 => by
  obtain ⟨ih0, ih1, ih2, ih3⟩ := tillrolllaw09_BbtBack.mono_l k
  refine ⟨?_, ?_, ?_, ?_⟩
  ·
   intro y0 y1 y2 y3 y4 y5
   unfold tillrolllaw09_BbtBack.j0
   repeat' first
   | (with_reducible exact ih0 _ _ _ _ _ _)
   | (with_reducible exact ih1 _ _ _ _ _ _ _)
   | (with_reducible exact ih2 _ _ _ _ _ _ _)
   | (with_reducible exact ih3 _ _ _ _ _ _ _ _ _)
   | (with_reducible exact bbt_Parse.mono _ _ _)
   | (with_reducible exact bbt_Table_List.mono _ _ _)
   | (with_reducible exact bbt_Table_Text.mono _ _ _ _)
   | (with_reducible exact tillrolllaw09_wakes.mono _)
   | (with_reducible exact LeO.refl _)
   | (with_reducible exact LeO.none _)
   | (with_reducible refine LeO.ite ?_ ?_)
   | (with_reducible refine LeO.bind ?_ (fun _ => ?_))
   | exact ih0 _ _ _ _ _ _
   | exact ih1 _ _ _ _ _ _ _
   | exact ih2 _ _ _ _ _ _ _
   | exact ih3 _ _ _ _ _ _ _ _ _
   | exact bbt_Parse.mono _ _ _
   | exact bbt_Table_List.mono _ _ _
   | exact bbt_Table_Text.mono _ _ _ _
   | exact tillrolllaw09_wakes.mono _
   | exact LeO.none _
   | refine LeO.ite ?_ ?_
   | refine LeO.bind ?_ (fun _ => ?_)
  ·
   intro y0 y1 y2 y3 y4 y5 y6
   unfold tillrolllaw09_BbtBack.l0
   repeat' first
   | (with_reducible exact ih0 _ _ _ _ _ _)
   | (with_reducible exact ih1 _ _ _ _ _ _ _)
   | (with_reducible exact ih2 _ _ _ _ _ _ _)
   | (with_reducible exact ih3 _ _ _ _ _ _ _ _ _)
   | (with_reducible exact bbt_Parse.mono _ _ _)
   | (with_reducible exact bbt_Table_List.mono _ _ _)
   | (with_reducible exact bbt_Table_Text.mono _ _ _ _)
   | (with_reducible exact tillrolllaw09_wakes.mono _)
   | (with_reducible exact LeO.refl _)
   | (with_reducible exact LeO.none _)
   | (with_reducible refine LeO.ite ?_ ?_)
   | (with_reducible refine LeO.bind ?_ (fun _ => ?_))
   | exact ih0 _ _ _ _ _ _
   | exact ih1 _ _ _ _ _ _ _
   | exact ih2 _ _ _ _ _ _ _
   | exact ih3 _ _ _ _ _ _ _ _ _
   | exact bbt_Parse.mono _ _ _
   | exact bbt_Table_List.mono _ _ _
   | exact bbt_Table_Text.mono _ _ _ _
   | exact tillrolllaw09_wakes.mono _
   | exact LeO.none _
   | refine LeO.ite ?_ ?_
   | refine LeO.bind ?_ (fun _ => ?_)
  ·
   intro y0 y1 y2 y3 y4 y5 y6
   unfold tillrolllaw09_BbtBack.j2
   repeat' first
   | (with_reducible exact ih0 _ _ _ _ _ _)
   | (with_reducible exact ih1 _ _ _ _ _ _ _)
   | (with_reducible exact ih2 _ _ _ _ _ _ _)
   | (with_reducible exact ih3 _ _ _ _ _ _ _ _ _)
   | (with_reducible exact bbt_Parse.mono _ _ _)
   | (with_reducible exact bbt_Table_List.mono _ _ _)
   | (with_reducible exact bbt_Table_Text.mono _ _ _ _)
   | (with_reducible exact tillrolllaw09_wakes.mono _)
   | (with_reducible exact LeO.refl _)
   | (with_reducible exact LeO.none _)
   | (with_reducible refine LeO.ite ?_ ?_)
   | (with_reducible refine LeO.bind ?_ (fun _ => ?_))
   | exact ih0 _ _ _ _ _ _
   | exact ih1 _ _ _ _ _ _ _
   | exact ih2 _ _ _ _ _ _ _
   | exact ih3 _ _ _ _ _ _ _ _ _
   | exact bbt_Parse.mono _ _ _
   | exact bbt_Table_List.mono _ _ _
   | exact bbt_Table_Text.mono _ _ _ _
   | exact tillrolllaw09_wakes.mono _
   | exact LeO.none _
   | refine LeO.ite ?_ ?_
   | refine LeO.bind ?_ (fun _ => ?_)
  ·
   intro y0 y1 y2 y3 y4 y5 y6 y7 y8
   unfold tillrolllaw09_BbtBack.l1
   repeat' first
   | (with_reducible exact ih0 _ _ _ _ _ _)
   | (with_reducible exact ih1 _ _ _ _ _ _ _)
   | (with_reducible exact ih2 _ _ _ _ _ _ _)
   | (with_reducible exact ih3 _ _ _ _ _ _ _ _ _)
   | (with_reducible exact bbt_Parse.mono _ _ _)
   | (with_reducible exact bbt_Table_List.mono _ _ _)
   | (with_reducible exact bbt_Table_Text.mono _ _ _ _)
   | (with_reducible exact tillrolllaw09_wakes.mono _)
   | (with_reducible exact LeO.refl _)
   | (with_reducible exact LeO.none _)
   | (with_reducible refine LeO.ite ?_ ?_)
   | (with_reducible refine LeO.bind ?_ (fun _ => ?_))
   | exact ih0 _ _ _ _ _ _
   | exact ih1 _ _ _ _ _ _ _
   | exact ih2 _ _ _ _ _ _ _
   | exact ih3 _ _ _ _ _ _ _ _ _
   | exact bbt_Parse.mono _ _ _
   | exact bbt_Table_List.mono _ _ _
   | exact bbt_Table_Text.mono _ _ _ _
   | exact tillrolllaw09_wakes.mono _
   | exact LeO.none _
   | refine LeO.ite ?_ ?_
   | refine LeO.bind ?_ (fun _ => ?_)
theorem tillrolllaw09_BbtBack.mono : ∀ a0 a1 a2 k, LeO (tillrolllaw09_BbtBack.f k a0 a1 a2) (tillrolllaw09_BbtBack.f (k + 1) a0 a1 a2) := by
 intro a0 a1 a2 k
 obtain ⟨ih0, ih1, ih2, ih3⟩ := tillrolllaw09_BbtBack.mono_l k
 unfold tillrolllaw09_BbtBack.f
 repeat' first
   | (with_reducible exact ih0 _ _ _ _ _ _)
   | (with_reducible exact ih1 _ _ _ _ _ _ _)
   | (with_reducible exact ih2 _ _ _ _ _ _ _)
   | (with_reducible exact ih3 _ _ _ _ _ _ _ _ _)
   | (with_reducible exact bbt_Parse.mono _ _ _)
   | (with_reducible exact bbt_Table_List.mono _ _ _)
   | (with_reducible exact bbt_Table_Text.mono _ _ _ _)
   | (with_reducible exact tillrolllaw09_wakes.mono _)
   | (with_reducible exact LeO.refl _)
   | (with_reducible exact LeO.none _)
   | (with_reducible refine LeO.ite ?_ ?_)
   | (with_reducible refine LeO.bind ?_ (fun _ => ?_))
   | exact ih0 _ _ _ _ _ _
   | exact ih1 _ _ _ _ _ _ _
   | exact ih2 _ _ _ _ _ _ _
   | exact ih3 _ _ _ _ _ _ _ _ _
   | exact bbt_Parse.mono _ _ _
   | exact bbt_Table_List.mono _ _ _
   | exact bbt_Table_Text.mono _ _ _ _
   | exact tillrolllaw09_wakes.mono _
   | exact LeO.none _
   | refine LeO.ite ?_ ?_
   | refine LeO.bind ?_ (fun _ => ?_)
def tillrolllaw09_BbtBack.T8 : Bool × List (List Nat × List Nat) := (true, [([], []), ([], []), ([1], [1]), ([], []), ([2, 3], [2, 3]), ([0, 4], [0, 4]), ([5], [5]), ([6], [6]), ([6], [6]), ([], []), ([9, 7, 5, 0, 1, 2, 3, 4, 5, 6, 7, 9], [7, 9]), ([8, 10, 0, 1, 2, 3, 4, 5, 6, 7, 8, 9, 10], [8])])
def tillrolllaw09_BbtBack.B8 : List Nat := [0, 0, 2, 0, 14, 31, 63, 127, 127, 0, 767, 2047]
theorem tillrolllaw09_BbtBack.tab8 : rtab .any (opsOf Try.f5 8) = tillrolllaw09_BbtBack.T8 := by kernel_rfl
theorem tillrolllaw09_BbtBack.bits8 : waitsOk tillrolllaw09_BbtBack.T8.2 tillrolllaw09_BbtBack.B8 = true := by kernel_rfl
def tillrolllaw09_BbtBack.T14 : Bool × List (List Nat × List Nat) := (true, [([], []), ([0], [0]), ([1], [1]), ([2], [2]), ([3, 2], [2, 3]), ([2, 4], [2, 4]), ([5, 2], [5]), ([6], [6]), ([7, 6, 6], [6, 7]), ([6], [6]), ([9, 8, 6], [6, 9]), ([8, 10, 6], [6, 8, 10]), ([6, 11], [6, 11]), ([12, 10], [12]), ([13], [13]), ([14, 13, 13], [13, 14]), ([15, 13], [13, 15]), ([13], [13]), ([17, 15, 13], [13, 17]), ([18, 13], [13, 18]), ([16, 19, 13], [13, 16, 19]), ([13, 20], [13, 20])])
def tillrolllaw09_BbtBack.B14 : List Nat := [0, 1, 3, 7, 15, 31, 63, 127, 255, 127, 1023, 2047, 4095, 8191, 16383, 32767, 65535, 16383, 196607, 458751, 1048575, 2097151]
theorem tillrolllaw09_BbtBack.tab14 : rtab .any (opsOf Try.f5 14) = tillrolllaw09_BbtBack.T14 := by kernel_rfl
theorem tillrolllaw09_BbtBack.bits14 : waitsOk tillrolllaw09_BbtBack.T14.2 tillrolllaw09_BbtBack.B14 = true := by kernel_rfl
def tillrolllaw09_BbtBack.T23 : Bool × List (List Nat × List Nat) := (true, [([], []), ([0], [0]), ([1], [1]), ([2], [2]), ([3, 2], [2, 3]), ([4, 2, 2], [2, 4]), ([5], [5]), ([6, 5, 5], [5, 6]), ([7, 5], [5, 7]), ([5], [5]), ([9, 7, 5], [5, 9]), ([10, 5], [5, 10]), ([8, 11, 5], [5, 8, 11]), ([5, 12, 2], [2, 5, 12]), ([2, 13], [2, 13]), ([14, 10, 0, 1, 2, 3, 4, 5, 6, 7, 8, 9, 10, 11, 12, 13, 14], [14])])
def tillrolllaw09_BbtBack.B23 : List Nat := [0, 1, 3, 7, 15, 31, 63, 127, 255, 63, 767, 1791, 4095, 8191, 16383, 32767]
theorem tillrolllaw09_BbtBack.tab23 : rtab .any (opsOf Try.f5 23) = tillrolllaw09_BbtBack.T23 := by kernel_rfl
theorem tillrolllaw09_BbtBack.bits23 : waitsOk tillrolllaw09_BbtBack.T23.2 tillrolllaw09_BbtBack.B23 = true := by kernel_rfl
set_option maxHeartbeats 8000000 in
set_option maxRecDepth 100000 in
theorem tillrolllaw09_BbtBack.calls (k : Nat) (a0 : Int) (A1 : Option Addr) (c1 : Nat) (l1 : List Int) (a2 : Int) (r : Bool) (w : World) (hr1 : Kd.C (Kd.int .u8) w A1 l1.length l1) (hc1 : l1.length ≤ c1) (h : tillrolllaw09_BbtBack.f k a0 l1 a2 = some r) :
  Calls Try.prog 5 #[.int .u8 a0, .slice A1 l1.length c1, .int .u8 a2] w fun e w' => e = .returned (.bool r) ∧ Below w.heap.size w w' := by
 have hu26 := Try.underlying26
 have HR1 := Aside0.mk hr1
 have HC1 := Aside0.mk hc1
 clear hr1 hc1
 have HB := Aside0.mk (Below.refl w.heap.size w)
 have H : ((bbt_New.f (wrap64 (1 + (wrap64 (a0))))).bind fun bt165 => ((tillrolllaw09_wakes.f k).bind fun t171 => (if t171 = true then (tillrolllaw09_BbtBack.j0 k l1 a2 (wrap64 (1 + (wrap64 (a0)))) (bt165.2.2 != 0) bt165.1 bt165.2.1) else (tillrolllaw09_BbtBack.j0 k l1 a2 (wrap64 (1 + (wrap64 (a0)))) true bt165.1 bt165.2.1)))) = some r := h
 clear h
 replace H := Option.bind_eq_some_iff.mp H
 obtain ⟨⟨t165, t166, t169⟩, A40, H⟩ := H
 replace H : ((tillrolllaw09_wakes.f k).bind fun t171 => (if t171 = true then (tillrolllaw09_BbtBack.j0 k l1 a2 (wrap64 (1 + (wrap64 (a0)))) (t169 != 0) t165 t166) else (tillrolllaw09_BbtBack.j0 k l1 a2 (wrap64 (1 + (wrap64 (a0)))) true t165 t166))) = some r := H
 have A4 := Aside0.mk A40
 clear A40
 have HC5 := Aside0.mk H
 clear H
 go_enter Try.func5, Try.ntmps5
 go_upto_region 3 with (first | ((with_reducible refine gate_callee (f := 6) rfl ?_); refine goesL_ (some 26) rfl rfl Try.func6 (by kernel_rfl) rfl #[.int .i64 (wrap64 (1 + (wrap64 (a0))))] rfl (by (try simp only [List.map_toArray, List.map_cons, List.map_nil]); first | done | rfl | (simp only [List.length_drop, List.length_take]; rfl) | (simp only [ByteArray.size_append]; rfl) | (simp only [ByteArray.size_extract]; rfl)) ?_; (with_reducible refine (bbt_New.calls (wrap64 (1 + (wrap64 (a0)))) t165 t166 t169 _ A4.out).mono ?_); rintro e w6 ⟨v167, rfl, ho0, hb⟩; refine ⟨_, rfl, ?_⟩; have n0_ := Aside0.mk (Kd.R_lower ho0 (below_size (by repeat (first | (with_reducible first | exact HB.out | apply below_alloc | apply pw_below_drewN | apply below_drew1) | exact HB.out)))); have n1_ := Aside0.mk (below_step (by repeat (first | (with_reducible first | exact HB.out | apply below_alloc | apply pw_below_drewN | apply below_drew1) | exact HB.out)) hb); clear HB; have HO168 := n0_; have HB := n1_; clear n0_ n1_; (try clear hb); (try clear hb2); (try clear hk); (try clear hi); (try clear ho0)) | ((with_reducible refine gate_dst (N := 8) rfl ?_); (try (refine gate_guard (by rfl) ?_; dsimp only)); refine box_event ?hg (N := 8) ?hd (cs := #[.int .u64 0, .slice none 0 0]) (t := 26) ?hr ?_; (case hd => rfl); (case hg => rfl); (case hr => first | (go_simp; done) | (go_simp; rfl)); intro gb170 hg w7 hbox hb; have n0_ := Aside0.mk (Kd.R_below (by (with_reducible repeat (first | apply Kd.R_alloc | apply Kd.R_drewN | apply Kd.R_drew)); exact HO168.out) hb); have n1_ := Aside0.mk (below_step (by repeat (first | (with_reducible first | exact HB.out | apply below_alloc | apply pw_below_drewN | apply below_drew1) | exact HB.out)) hb); have n2_ := Aside0.mk (hbox); have n3_ := Aside0.mk ((by rw [hg]; exact (below_size (by repeat (first | (with_reducible first | exact HB.out | apply below_alloc | apply pw_below_drewN | apply below_drew1) | exact HB.out))) : w.heap.size ≤ gb170)); have n4_ := Aside0.mk ((by rw [hg]; exact (below_size (by repeat (first | (with_reducible first | exact HB.out | apply below_alloc | apply pw_below_drewN | apply below_drew1) | exact HB.out))) : w.heap.size ≤ gb170)); clear HO168; clear HB; have HO168 := n0_; have HB := n1_; have BK170 := n2_; have GW170 := n3_; have GE170 := n4_; clear n0_ n1_ n2_ n3_ n4_; clear hb hbox hg; have hcz8_0 : w7.cell? ⟨gb170, 0, none⟩ = some (.int .u64 0) := (blk_cell BK170.out 0).trans rfl; have hcz8_1 : w7.cell? ⟨gb170, 1, none⟩ = some (.slice none 0 0) := (blk_cell BK170.out 1).trans rfl; have hfz8_0 := blk_frozen BK170.out 0; have hfz8_1 := blk_frozen BK170.out 1; obtain ⟨Ao9, co9, eo9⟩ := Kd.R_slice HO168.out; subst eo9))
 (try simp only [Act.put, List.setIfInBounds_toArray, List.set_cons_zero, List.set_cons_succ])
 go_cut [34] (fun v34 wc => ∃ (kq : Nat) (x34_4 : Bool), v34 = .bool x34_4 ∧ Aside0 (tillrolllaw09_BbtBack.j0 kq l1 a2 (wrap64 (1 + (wrap64 (a0)))) x34_4 t165 t166 = some r) ∧ Aside0 (kq ≤ k) ∧ Aside0 (Kd.R Kd.bool 4 wc w.heap.size (fun _ => True) (.slice Ao9 t166.length co9) t166) ∧ Aside0 (wc.heap[gb170]? = some (.cells #[.int .u64 t165, (.slice Ao9 t166.length co9)] 26 (0, 0))) ∧ Aside0 (Below w.heap.size w wc))
 case first =>
  have H := HC5.out
  clear HC5
  replace H := Option.bind_eq_some_iff.mp H
  obtain ⟨t171, A100, H⟩ := H
  replace H : (if t171 = true then (tillrolllaw09_BbtBack.j0 k l1 a2 (wrap64 (1 + (wrap64 (a0)))) (t169 != 0) t165 t166) else (tillrolllaw09_BbtBack.j0 k l1 a2 (wrap64 (1 + (wrap64 (a0)))) true t165 t166)) = some r := H
  have A10 := Aside0.mk A100
  clear A100
  by_cases c11 : t171 = true
  ·
   subst c11
   have H1 : (tillrolllaw09_BbtBack.j0 k l1 a2 (wrap64 (1 + (wrap64 (a0)))) (t169 != 0) t165 t166) = some r := by rw [if_pos rfl] at H; exact H
   clear H
   have H := H1
   clear H1
   have H' := Aside0.mk H
   clear H
   go_wp2_with (first | ((with_reducible refine gate_callee (f := 7) rfl ?_); refine goesL_ (some 29) rfl rfl Try.func7 (by kernel_rfl) rfl #[] rfl (by (try simp only [List.map_toArray, List.map_cons, List.map_nil]); first | done | rfl | (simp only [List.length_drop, List.length_take]; rfl) | (simp only [ByteArray.size_append]; rfl) | (simp only [ByteArray.size_extract]; rfl)) ?_; (with_reducible refine (tillrolllaw09_wakes.calls k  true _ A10.out).mono ?_); rintro e w12 ⟨rfl, hb⟩; refine ⟨_, rfl, ?_⟩; have n0_ := Aside0.mk (Kd.R_below (by (with_reducible repeat (first | apply Kd.R_alloc | apply Kd.R_drewN | apply Kd.R_drew)); exact (Kd.R_mono (Kd.R_far (p := ⟨gb170, 1, none⟩) (Kd.R_far (p := ⟨gb170, 0, none⟩) (Kd.R_types HO168.out BK170.out (by decide)) (fun _ hk => hk.2) (.int .u64 t165)) (fun _ hk => hk.2) (.slice Ao9 t166.length co9)) (fun _ h_ => h_.1))) hb); have n1_ := Aside0.mk (blk_below (g := gb170) (o := .cells #[.int .u64 t165, .slice Ao9 t166.length co9] 26 (0, 0)) (by (with_reducible repeat (first | refine blk_drewN ?_ _ | refine blk_drew ?_ | refine blk_alloc ?_ _)); refine blk_put (cs := #[.int .u64 t165, .slice none 0 0]) ?_ 1 _ rfl; (with_reducible repeat (first | refine blk_drewN ?_ _ | refine blk_drew ?_ | refine blk_alloc ?_ _)); refine blk_put (cs := #[.int .u64 0, .slice none 0 0]) ?_ 0 _ rfl; (with_reducible repeat (first | refine blk_drewN ?_ _ | refine blk_drew ?_ | refine blk_alloc ?_ _)); exact BK170.out) hb); have n2_ := Aside0.mk (below_step (by repeat (first | (with_reducible first | exact HB.out | apply below_alloc | apply pw_below_drewN | apply below_drew1 | refine below_set ?_ GE170.out) | exact HB.out)) hb); clear HO168; clear BK170; clear HB; have HO168 := n0_; have BK170 := n1_; have HB := n2_; clear n0_ n1_ n2_; (try clear hb); (try clear hb2); (try clear hk); (try clear hi)))
   go_meet
   case rel => exact ⟨_, ((t169 != 0)), (by first | rfl | (simp; done) | (simp [*]; done)), H', ⟨by first | omega | exact Nat.le_refl _⟩, ⟨by (with_reducible repeat (first | apply Kd.R_alloc | apply Kd.R_drewN | apply Kd.R_drew)); exact HO168.out⟩, ⟨by (with_reducible repeat (first | refine blk_drewN ?_ _ | refine blk_drew ?_ | refine blk_alloc ?_ _)); exact BK170.out⟩, ⟨by repeat (first | (with_reducible first | exact HB.out | apply below_alloc | apply pw_below_drewN | apply below_drew1 | refine below_set ?_ GE170.out) | exact HB.out)⟩⟩
  ·
   replace c11 := Bool.eq_false_iff.mpr c11
   subst c11
   have H1 : (tillrolllaw09_BbtBack.j0 k l1 a2 (wrap64 (1 + (wrap64 (a0)))) true t165 t166) = some r := by rw [if_neg (show ¬ (false = true) by decide)] at H; exact H
   clear H
   have H := H1
   clear H1
   have H' := Aside0.mk H
   clear H
   go_wp2_with (first | ((with_reducible refine gate_callee (f := 7) rfl ?_); refine goesL_ (some 29) rfl rfl Try.func7 (by kernel_rfl) rfl #[] rfl (by (try simp only [List.map_toArray, List.map_cons, List.map_nil]); first | done | rfl | (simp only [List.length_drop, List.length_take]; rfl) | (simp only [ByteArray.size_append]; rfl) | (simp only [ByteArray.size_extract]; rfl)) ?_; (with_reducible refine (tillrolllaw09_wakes.calls k  false _ A10.out).mono ?_); rintro e w13 ⟨rfl, hb⟩; refine ⟨_, rfl, ?_⟩; have n0_ := Aside0.mk (Kd.R_below (by (with_reducible repeat (first | apply Kd.R_alloc | apply Kd.R_drewN | apply Kd.R_drew)); exact (Kd.R_mono (Kd.R_far (p := ⟨gb170, 1, none⟩) (Kd.R_far (p := ⟨gb170, 0, none⟩) (Kd.R_types HO168.out BK170.out (by decide)) (fun _ hk => hk.2) (.int .u64 t165)) (fun _ hk => hk.2) (.slice Ao9 t166.length co9)) (fun _ h_ => h_.1))) hb); have n1_ := Aside0.mk (blk_below (g := gb170) (o := .cells #[.int .u64 t165, .slice Ao9 t166.length co9] 26 (0, 0)) (by (with_reducible repeat (first | refine blk_drewN ?_ _ | refine blk_drew ?_ | refine blk_alloc ?_ _)); refine blk_put (cs := #[.int .u64 t165, .slice none 0 0]) ?_ 1 _ rfl; (with_reducible repeat (first | refine blk_drewN ?_ _ | refine blk_drew ?_ | refine blk_alloc ?_ _)); refine blk_put (cs := #[.int .u64 0, .slice none 0 0]) ?_ 0 _ rfl; (with_reducible repeat (first | refine blk_drewN ?_ _ | refine blk_drew ?_ | refine blk_alloc ?_ _)); exact BK170.out) hb); have n2_ := Aside0.mk (below_step (by repeat (first | (with_reducible first | exact HB.out | apply below_alloc | apply pw_below_drewN | apply below_drew1 | refine below_set ?_ GE170.out) | exact HB.out)) hb); clear HO168; clear BK170; clear HB; have HO168 := n0_; have BK170 := n1_; have HB := n2_; clear n0_ n1_ n2_; (try clear hb); (try clear hb2); (try clear hk); (try clear hi)))
   go_meet
   case rel => exact ⟨_, (true), (by first | rfl | (simp; done) | (simp [*]; done)), H', ⟨by first | omega | exact Nat.le_refl _⟩, ⟨by (with_reducible repeat (first | apply Kd.R_alloc | apply Kd.R_drewN | apply Kd.R_drew)); exact HO168.out⟩, ⟨by (with_reducible repeat (first | refine blk_drewN ?_ _ | refine blk_drew ?_ | refine blk_alloc ?_ _)); exact BK170.out⟩, ⟨by repeat (first | (with_reducible first | exact HB.out | apply below_alloc | apply pw_below_drewN | apply below_drew1 | refine below_set ?_ GE170.out) | exact HB.out)⟩⟩
 case rest =>
  clear HC5
  try clear c1
  try clear p2
  try clear c5
  try clear c6
  try clear p6
  try clear c7
  try clear c11
  try clear hcz8_0
  try clear hcz8_1
  try clear hfz8_0
  try clear hfz8_1
  obtain ⟨kq, x34_4, rfl, HA, HJ4, HO_171001, BK170, HB⟩ := hcut
  cases kq with
  | zero => exact absurd HA.out (by simp [tillrolllaw09_BbtBack.j0])
  | succ kj4 =>
   have H := HA.out
   clear HA
   simp only [tillrolllaw09_BbtBack.j0] at H
   by_cases c14 : x34_4 = true
   ·
    subst c14
    have H1 : (some false) = some r := by rw [if_pos rfl] at H; exact H
    clear H
    have H := H1
    clear H1
    obtain rfl := Option.some.inj H
    go_wp2
    go_ret
    exact ⟨by first | rfl | (simp [errW_none, errW_some] <;> rfl) | (simp [*, errW_none, errW_some] <;> rfl), by repeat (first | (with_reducible first | exact HB.out | apply below_alloc | apply pw_below_drewN | apply below_drew1 | refine below_set ?_ GE170.out) | exact HB.out)⟩
   ·
    replace c14 := Bool.eq_false_iff.mpr c14
    subst c14
    have H1 : (if 0 ≤ (mn (l1.length : Int) 40) then (if (mn (l1.length : Int) 40) ≤ (l1.length : Int) then (tillrolllaw09_BbtBack.l0 kj4 a2 (wrap64 (1 + (wrap64 (a0)))) (l1.take ((mn (l1.length : Int) 40) : Int).toNat) ((l1.take ((mn (l1.length : Int) 40) : Int).toNat).length : Int) 0 t165 t166) else (none)) else (none)) = some r := by rw [if_neg (show ¬ (false = true) by decide)] at H; exact H
    clear H
    have H := H1
    clear H1
    obtain ⟨ji15, hji15⟩ : ∃ j_ : Int, (mn (l1.length : Int) 40) = j_ := ⟨_, rfl⟩
    replace H : (if 0 ≤ (ji15) then (if (ji15) ≤ (l1.length : Int) then (tillrolllaw09_BbtBack.l0 kj4 a2 (wrap64 (1 + (wrap64 (a0)))) (l1.take ((ji15) : Int).toNat) ((l1.take ((ji15) : Int).toNat).length : Int) 0 t165 t166) else (none)) else (none)) = some r := by first | (rw [hji15] at H; exact H) | (simp only [hji15] at H ⊢; exact H)
    have hji15_ : (if 40 < (l1.length : Int) then 40 else (l1.length : Int)) = ji15 := hji15
    by_cases c16 : 0 ≤ (ji15)
    ·
     rw [if_pos c16] at H
     have c16b0 := eq_true c16
     have c16b1 : decide (0 ≤ (ji15)) = true := decide_eq_true c16
     clear c16
     by_cases c17 : (ji15) ≤ (l1.length : Int)
     ·
      rw [if_pos c17] at H
      have c17b0 := eq_true c17
      have c17b1 : decide ((ji15) ≤ (l1.length : Int)) = true := decide_eq_true c17
      clear c17
      have H' := Aside0.mk H
      clear H
      obtain ⟨i018, hi018, _, hsz18, _⟩ := info_parts info5
      obtain ⟨hcut18, hA18, hC18⟩ := print_take_of (P := Try.prog) (Value.int .u8) 0 22 5 .i64 Try.underlying22 hi018 hsz18 A1 c1 l1 (ji15) (of_decide_eq_true (by first | (with_reducible assumption) | assumption)) (of_decide_eq_true (by first | (with_reducible assumption) | assumption)) HC1.out
      have HR172 := Aside0.mk (Kd.C_of_reads (h1 := fun _ => rfl) (hA18 _ (Kd.reads_of_C HR1.out)))
      have HC172 := Aside0.mk hC18
      clear hA18 hC18 hi018 hsz18
      go_wp2
      go_loopg [41] kj4 (fun kq v41 w' => ∃ (x41_2 : Int) (x171000_2 : Int) (x171001_2 : List Bool) (u171001 : Value), v41 = .int .i64 x41_2 ∧ Aside0 (tillrolllaw09_BbtBack.l0 kq a2 (wrap64 (1 + (wrap64 (a0)))) (l1.take ((ji15) : Int).toNat) ((l1.take ((ji15) : Int).toNat).length : Int) x41_2 x171000_2 x171001_2 = some r) ∧ Aside0 (kq ≤ kj4) ∧ Aside0 (Kd.R Kd.bool 4 w' w.heap.size (fun _ => True) u171001 x171001_2) ∧ Aside0 (w'.heap[gb170]? = some (.cells #[.int .u64 x171000_2, u171001] 26 (0, 0))) ∧ Aside0 (Below w.heap.size w w'))
      case atStart => exact ⟨(0), (t165), (t166), (.slice Ao9 t166.length co9), (by first | rfl | (simp; done) | (simp [*]; done)), H', ⟨Nat.le_refl _⟩, ⟨by (with_reducible repeat (first | apply Kd.R_alloc | apply Kd.R_drewN | apply Kd.R_drew)); exact HO_171001.out⟩, ⟨by (with_reducible repeat (first | refine blk_drewN ?_ _ | refine blk_drew ?_ | refine blk_alloc ?_ _)); exact BK170.out⟩, ⟨by repeat (first | (with_reducible first | exact HB.out | apply below_alloc | apply pw_below_drewN | apply below_drew1 | refine below_set ?_ GE170.out) | exact HB.out)⟩⟩
      case round =>
       clear H'
       try clear c1
       try clear p2
       try clear c5
       try clear c6
       try clear p6
       try clear c7
       try clear c11
       try clear c14
       try clear c16
       try clear c16b0
       try clear c16b1
       try clear c17
       try clear c17b0
       try clear c17b1
       try clear hcz8_0
       try clear hcz8_1
       try clear hfz8_0
       try clear hfz8_1
       try clear p2
       try clear p6
       obtain ⟨x41_2, x171000_2, x171001_2, u171001, rfl, HA, HK2, HO_171001, BK170, HB⟩ := hrel
       cases gk with
       | zero => exact absurd HA.out (by simp [tillrolllaw09_BbtBack.l0])
       | succ k2 =>
        have H := HA.out
        clear HA
        simp only [tillrolllaw09_BbtBack.l0] at H
        by_cases c19 : x41_2 < ((l1.take ((ji15) : Int).toNat).length : Int)
        ·
         rw [if_pos c19] at H
         have mx19p : (x41_2 < max ji15 0) := (by have hh := c19; have hg := hji15_; rw [List.length_take] at hh; split at hg <;> omega)
         have mx19pa := eq_true mx19p
         have mx19pb : decide (x41_2 < max ji15 0) = true := decide_eq_true mx19p
         have c19b0 : decide (x41_2 < ((l1.take ((ji15) : Int).toNat).length : Int)) = true := decide_eq_true c19
         clear c19
         by_cases c20 : 0 ≤ x41_2
         ·
          rw [if_pos c20] at H
          have c20b0 : decide (0 ≤ x41_2) = true := decide_eq_true c20
          clear c20
          by_cases c21 : x41_2 < ((l1.take ((ji15) : Int).toNat).length : Int)
          ·
           rw [if_pos c21] at H
           have mx21p : (x41_2 < max ji15 0) := (by have hh := c21; have hg := hji15_; rw [List.length_take] at hh; split at hg <;> omega)
           have mx21pa := eq_true mx21p
           have mx21pb : decide (x41_2 < max ji15 0) = true := decide_eq_true mx21p
           have c21b0 : decide (x41_2 < ((l1.take ((ji15) : Int).toNat).length : Int)) = true := decide_eq_true c21
           clear c21
           by_cases c22 : (wrap64 (1 + (wrap64 (a0)))) = 0
           ·
            rw [if_pos c22] at H
            exact absurd H (by simp)
           ·
            rw [if_neg c22] at H
            have c22b0 : ((wrap64 (1 + (wrap64 (a0)))) == 0) = false := beq_eq_false_iff_ne.mpr c22
            have c22b1 : ((wrap64 (1 + (wrap64 (a0)))) != 0) = true := bne_iff_ne.mpr c22
            replace H := Option.bind_eq_some_iff.mp H
            obtain ⟨⟨t174, t175, t178⟩, A230, H⟩ := H
            replace H : (if t178 = 0 then (tillrolllaw09_BbtBack.l0 k2 a2 (wrap64 (1 + (wrap64 (a0)))) (l1.take ((ji15) : Int).toNat) ((l1.take ((ji15) : Int).toNat).length : Int) (wrap64 (x41_2 + 1)) t174 t175) else (tillrolllaw09_BbtBack.l0 k2 a2 (wrap64 (1 + (wrap64 (a0)))) (l1.take ((ji15) : Int).toNat) ((l1.take ((ji15) : Int).toNat).length : Int) (wrap64 (x41_2 + 1)) x171000_2 x171001_2)) = some r := H
            have A23 := Aside0.mk A230
            clear A230
            by_cases c24 : t178 = 0
            ·
             rw [if_pos c24] at H
             have c24b0 : (t178 == 0) = true := beq_iff_eq.mpr c24
             have c24b1 : (t178 != 0) = false := bne_eq_false_iff_eq.mpr c24
             clear c24
             have H' := Aside0.mk H
             clear H
             have p173 : 0 ≤ (x41_2 : Int) := of_decide_eq_true (by first | (with_reducible assumption) | assumption)
             have q173 : x41_2 < ((l1.take ((ji15) : Int).toNat).length : Int) := of_decide_eq_true (by first | (with_reducible assumption) | assumption)
             obtain ⟨ad173, e173, hx173_0⟩ := Kd.at_int HR172.out x41_2 p173 q173
             cases e173
             replace hx173_0 := (HB.out.cell (World.block_lt_of_cell? w _ hx173_0)).trans hx173_0
             replace p173 := eq_true p173
             replace q173 := eq_true q173
             obtain ⟨Ao25, co25, eo25⟩ := Kd.R_slice HO_171001.out
             subst eo25
             try go_wp2
             have n0_ := Aside0.mk (Kd.R_drew HO_171001.out)
             have n1_ := Aside0.mk (blk_drew BK170.out)
             have n2_ := Aside0.mk (below_drew1 HB.out)
             clear HO_171001
             clear BK170
             clear HB
             have HO_171001 := n0_
             have BK170 := n1_
             have HB := n2_
             clear n0_ n1_ n2_
             refine start_ (n := 12) (S := fun w' => w'.cell? ⟨gb170, 0, none⟩ = some (.int .u64 x171000_2) ∧ w'.cell? ⟨gb170, 1, none⟩ = some (.slice Ao25 x171001_2.length co25)) (ds := []) #[false,false,false,false,false,false,false,false,false,false,false,false] (by kernel_rfl) rfl rfl ⟨(blk_cell BK170.out 0).trans rfl, (blk_cell BK170.out 1).trans rfl⟩ (fun hHeld => ?_); refine with_tabW tillrolllaw09_BbtBack.tab8 tillrolllaw09_BbtBack.bits8 (fun HT_ HW_ => ?_)
             generalize wr.drew = w26 at HO_171001 BK170 HB hHeld ⊢
             refine pure_ (i := 1) (N := some 47) (v := ?_) (a' := ?_) #[false,true,false,false,false,false,false,false,false,false,false,false] rfl rfl (any_of HT_.out (by kernel_rfl)) (fun _ _ _ h => h) (Or.inl ⟨by rfl, ?_⟩) ?_ ?_
             rotate_left
             · intro w'; go_simp; with_reducible rfl
             rotate_left
             · simp only [Act.put, sS, s0_, s1_, i64_w, i32_w]; rfl
             refine pure_ (i := 2) (N := some 48) (v := ?_) (a' := ?_) #[false,true,true,false,false,false,false,false,false,false,false,false] rfl rfl (any_of HT_.out (by kernel_rfl)) (fun _ _ _ h => h) (Or.inl ⟨by rfl, ?_⟩) ?_ ?_
             rotate_left
             · intro w'; go_simp; with_reducible rfl
             rotate_left
             · simp only [Act.put, sS, s0_, s1_, i64_w, i32_w]; rfl
             refine pure_ (i := 3) (N := some 49) (v := ?_) (a' := ?_) #[false,true,true,true,false,false,false,false,false,false,false,false] rfl rfl (any_of HT_.out (by kernel_rfl)) (fun _ _ _ h => h) (Or.inl ⟨by rfl, ?_⟩) ?_ ?_
             rotate_left
             · intro w'; go_simp; with_reducible rfl
             rotate_left
             · simp only [Act.put, sS, s0_, s1_, i64_w, i32_w]; rfl
             refine pure_ (i := 4) (N := some 50) (v := ?_) (a' := ?_) #[false,true,true,true,true,false,false,false,false,false,false,false] rfl rfl (any_of HT_.out (by kernel_rfl)) (fun _ _ _ h => h) (Or.inl ⟨by rfl, ?_⟩) ?_ ?_
             rotate_left
             · intro w'; go_simp; with_reducible rfl
             rotate_left
             · simp only [Act.put, sS, s0_, s1_, i64_w, i32_w]; rfl
             refine take_ (i := 0) (N := some 46) (v := ?_) (a' := ?_) #[true,true,true,true,true,false,false,false,false,false,false,false] rfl rfl (take_ofW HT_.out HW_.out (by kernel_rfl)) (fun _ _ _ h => h) (Or.inl ⟨by rfl, ?_⟩) hHeld ?_ ?_
             rotate_left
             ·
              rintro w' ⟨s0, s1⟩
              go_simp
              with_reducible rfl
             rotate_left
             · simp only [Act.put, sS, s0_, s1_, i64_w, i32_w]; rfl
             refine join_ (σ := Value × Nat) 2 #[true,true,true,true,true,true,true,true,true,true,false,false] (fun s_ => [(51, .tuple #[.agg #[.int .u64 t174, s_.1], .int .i64 t178]), (12, .pointer (some ⟨s_.2, 0, none⟩)), (45, .tuple #[.agg #[.int .u64 t174, s_.1], .int .i64 t178]), (52, .agg #[.int .u64 t174, s_.1]), (53, .int .i64 t178)]) (fun s_ w' => (w'.cell? ⟨gb170, 0, none⟩ = some (.int .u64 x171000_2) ∧ w'.cell? ⟨gb170, 1, none⟩ = some (.slice Ao25 x171001_2.length co25)) ∧ (Kd.R Kd.bool 4 w' w.heap.size (fun k_ => some k_ ≠ (.slice Ao25 x171001_2.length co25 : Value).ownBlock) s_.1 t175) ∧ (Kd.R Kd.bool 4 w' w.heap.size (fun k_ => some k_ ≠ (s_.1 : Value).ownBlock) (.slice Ao25 x171001_2.length co25) x171001_2) ∧ (w'.heap[gb170]? = some (.cells #[.int .u64 x171000_2, .slice Ao25 x171001_2.length co25] 26 (0, 0))) ∧ (w'.heap[s_.2]? = some (.cells #[.int .u64 0, .slice none 0 0] 26 (0, 0))) ∧ (w.heap.size ≤ s_.2) ∧ (w.heap.size ≤ s_.2) ∧ (gb170 ≠ s_.2) ∧ (s_.2 ≠ gb170) ∧ (Below w.heap.size w w')) ?_ ?_
             rotate_left
             ·
              intro hCont
              refine two_ (i := 5) (j := 9) (Ni := some 51) (Nj := some 12) #[true,true,true,true,true,true,false,false,false,false,false,false] #[true,true,true,true,true,false,false,false,false,true,false,false] rfl rfl rfl rfl (two_of HT_.out (by kernel_rfl)) (by decide) (by decide) (fun K hK => ?_) (fun K hK => ?_)
              ·
               skip
               refine goes_ Try.func8 (by kernel_rfl) rfl #[.agg #[.int .u64 x171000_2, .slice Ao25 x171001_2.length co25], .int .i64 (Int.tmod (wrap64 (rd (l1.take ((ji15) : Int).toNat) x41_2)) (wrap64 (1 + (wrap64 (a0)))))] (by rfl) rfl rfl (by (try simp only [List.map_toArray, List.map_cons, List.map_nil]); first | done | (simp only [hji15]; rfl) | rfl | (simp only [List.length_drop, List.length_take]; rfl) | (simp only [ByteArray.size_append]; rfl) | (simp only [ByteArray.size_extract]; rfl)) ?_
               with_reducible refine (bbt_Table_With.calls x171000_2 _ _ x171001_2 (Int.tmod (wrap64 (rd (l1.take ((ji15) : Int).toNat) x41_2)) (wrap64 (1 + (wrap64 (a0))))) t174 t175 t178 _ ?side1 ?side2 A23.out).mono ?_
               (case side1 => repeat (first | exact (Kd.R_reads' HO_171001.out).2.2 | (with_reducible refine Kd.C_alloc ?_ _) | (with_reducible refine Kd.C_drewN ?_ _) | (with_reducible refine Kd.C_drew ?_)))
               (case side2 => exact (Kd.R_reads' HO_171001.out).2.1)
               rintro e w27 ⟨v176, rfl, ho0, hb⟩
               refine ⟨_, rfl, ?_⟩
               have n0_ := Aside0.mk (Kd.R_elder' (by (with_reducible repeat (first | apply Kd.R_alloc | apply Kd.R_drewN | apply Kd.R_drew)); exact HO_171001.out) (Kd.R_base ho0) hb)
               have n1_ := Aside0.mk (Kd.R_lower (Kd.R_new' ho0 (Kd.R_lt (by (with_reducible repeat (first | apply Kd.R_alloc | apply Kd.R_drewN | apply Kd.R_drew)); exact HO_171001.out))) (below_size (by repeat (first | (with_reducible first | exact HB.out | apply below_alloc | apply pw_below_drewN | apply below_drew1 | refine below_set ?_ GE170.out) | exact HB.out))))
               have n2_ := Aside0.mk (blk_below (g := gb170) (o := .cells #[.int .u64 x171000_2, .slice Ao25 x171001_2.length co25] 26 (0, 0)) (by (with_reducible repeat (first | refine blk_drewN ?_ _ | refine blk_drew ?_ | refine blk_alloc ?_ _)); exact BK170.out) hb)
               have n3_ := Aside0.mk (below_step (by repeat (first | (with_reducible first | exact HB.out | apply below_alloc | apply pw_below_drewN | apply below_drew1 | refine below_set ?_ GE170.out) | exact HB.out)) hb)
               clear HO_171001
               clear BK170
               clear HB
               have HO_171001 := n0_
               have HO177 := n1_
               have BK170 := n2_
               have HB := n3_
               clear n0_ n1_ n2_ n3_
               (try clear hb)
               (try clear hb2)
               (try clear hk)
               (try clear hi)
               (try clear ho0)
               refine hK.out _ _ ⟨(blk_cell BK170.out 0).trans rfl, (blk_cell BK170.out 1).trans rfl⟩ (fun hHeld => ?_)
               clear hK K
               refine norm_ (a' := ?_) ?_ ?_
               rotate_left
               ·
                show Act.put _ (some 51) _ = _
                simp only [Act.put, sS, s0_, s1_, i64_w, i32_w]
                rfl
               refine pure_ (i := 6) (N := some 45) (v := ?_) (a' := ?_) #[true,true,true,true,true,true,true,false,false,false,false,false] rfl rfl (any_of HT_.out (by kernel_rfl)) (fun _ _ _ h => h) (Or.inl ⟨by rfl, ?_⟩) ?_ ?_
               rotate_left
               · intro w'; go_simp; with_reducible rfl
               rotate_left
               · simp only [Act.put, sS, s0_, s1_, i64_w, i32_w]; rfl
               refine pure_ (i := 7) (N := some 52) (v := ?_) (a' := ?_) #[true,true,true,true,true,true,true,true,false,false,false,false] rfl rfl (any_of HT_.out (by kernel_rfl)) (fun _ _ _ h => h) (Or.inl ⟨by rfl, ?_⟩) ?_ ?_
               rotate_left
               · intro w'; go_simp; with_reducible rfl
               rotate_left
               · simp only [Act.put, sS, s0_, s1_, i64_w, i32_w]; rfl
               refine pure_ (i := 8) (N := some 53) (v := ?_) (a' := ?_) #[true,true,true,true,true,true,true,true,true,false,false,false] rfl rfl (any_of HT_.out (by kernel_rfl)) (fun _ _ _ h => h) (Or.inl ⟨by rfl, ?_⟩) ?_ ?_
               rotate_left
               · intro w'; go_simp; with_reducible rfl
               rotate_left
               · simp only [Act.put, sS, s0_, s1_, i64_w, i32_w]; rfl
               refine one_ (i := 9) (N := some 12) #[true,true,true,true,true,true,true,true,true,true,false,false] rfl rfl (one_of HT_.out (by kernel_rfl)) (by decide) (fun K hK => ?_)
               refine box_step ?hg (N := 12) ?hd (cs := #[.int .u64 0, .slice none 0 0]) (t := 26) ?hr ?_; (case hd => rfl); (case hg => rfl); (case hr => first | (go_simp; done) | (go_simp; rfl))
               intro gb179 hg w28 hbox hb
               have n0_ := Aside0.mk (Kd.R_below (by (with_reducible repeat (first | apply Kd.R_alloc | apply Kd.R_drewN | apply Kd.R_drew)); exact HO_171001.out) hb)
               have n1_ := Aside0.mk (Kd.R_below (by (with_reducible repeat (first | apply Kd.R_alloc | apply Kd.R_drewN | apply Kd.R_drew)); exact HO177.out) hb)
               have n2_ := Aside0.mk (blk_below (g := gb170) (o := .cells #[.int .u64 x171000_2, .slice Ao25 x171001_2.length co25] 26 (0, 0)) (by (with_reducible repeat (first | refine blk_drewN ?_ _ | refine blk_drew ?_ | refine blk_alloc ?_ _)); exact BK170.out) hb)
               have n3_ := Aside0.mk (below_step (by repeat (first | (with_reducible first | exact HB.out | apply below_alloc | apply pw_below_drewN | apply below_drew1 | refine below_set ?_ GE170.out) | exact HB.out)) hb)
               have n4_ := Aside0.mk (hbox)
               have n5_ := Aside0.mk ((by rw [hg]; exact (below_size (by repeat (first | (with_reducible first | exact HB.out | apply below_alloc | apply pw_below_drewN | apply below_drew1 | refine below_set ?_ GE170.out) | exact HB.out))) : w.heap.size ≤ gb179))
               have n6_ := Aside0.mk ((by rw [hg]; exact (below_size (by repeat (first | (with_reducible first | exact HB.out | apply below_alloc | apply pw_below_drewN | apply below_drew1 | refine below_set ?_ GE170.out) | exact HB.out))) : w.heap.size ≤ gb179))
               have n7_ := Aside0.mk ((by rw [hg]; exact Nat.ne_of_lt (blk_lt (g := gb170) (o := .cells #[.int .u64 x171000_2, .slice Ao25 x171001_2.length co25] 26 (0, 0)) (by (with_reducible repeat (first | refine blk_drewN ?_ _ | refine blk_drew ?_ | refine blk_alloc ?_ _)); exact BK170.out)) : gb170 ≠ gb179))
               have n8_ := Aside0.mk ((by rw [hg]; exact Nat.ne_of_gt (blk_lt (g := gb170) (o := .cells #[.int .u64 x171000_2, .slice Ao25 x171001_2.length co25] 26 (0, 0)) (by (with_reducible repeat (first | refine blk_drewN ?_ _ | refine blk_drew ?_ | refine blk_alloc ?_ _)); exact BK170.out)) : gb179 ≠ gb170))
               clear HO_171001
               clear HO177
               clear BK170
               clear HB
               have HO_171001 := n0_
               have HO177 := n1_
               have BK170 := n2_
               have HB := n3_
               have BK179 := n4_
               have GW179 := n5_
               have GE179 := n6_
               have NB170_179 := n7_
               have NB179_170 := n8_
               clear n0_ n1_ n2_ n3_ n4_ n5_ n6_ n7_ n8_
               clear hb hbox hg
               refine hK.out _ _ ⟨(blk_cell BK170.out 0).trans rfl, (blk_cell BK170.out 1).trans rfl⟩ (fun hHeld => ?_)
               clear hK K
               refine norm_ (a' := ?_) ?_ ?_
               rotate_left
               ·
                show Act.put _ (some 12) _ = _
                simp only [Act.put, sS, s0_, s1_, i64_w, i32_w]
                rfl
               exact norm_ (by simp only [putAll, Act.put, List.setIfInBounds_toArray, List.set_cons_zero, List.set_cons_succ]) (hCont (v176, gb179) _ ⟨hHeld, (by (with_reducible repeat (first | apply Kd.R_alloc | apply Kd.R_drewN | apply Kd.R_drew)); exact Kd.R_mono HO177.out (fun _ hk => hk.2)), (by (with_reducible repeat (first | apply Kd.R_alloc | apply Kd.R_drewN | apply Kd.R_drew)); exact Kd.R_mono HO_171001.out (fun _ hk => hk.2)), (by (with_reducible repeat (first | refine blk_drewN ?_ _ | refine blk_drew ?_ | refine blk_alloc ?_ _)); exact BK170.out), (by (with_reducible repeat (first | refine blk_drewN ?_ _ | refine blk_drew ?_ | refine blk_alloc ?_ _)); exact BK179.out), GW179.out, GE179.out, NB170_179.out, NB179_170.out, (by repeat (first | (with_reducible first | exact HB.out | apply below_alloc | apply pw_below_drewN | apply below_drew1 | refine below_set ?_ GE170.out | refine below_set ?_ GE179.out) | exact HB.out))⟩)
              ·
               skip
               refine box_step ?hg (N := 12) ?hd (cs := #[.int .u64 0, .slice none 0 0]) (t := 26) ?hr ?_; (case hd => rfl); (case hg => rfl); (case hr => first | (go_simp; done) | (go_simp; rfl))
               intro gb179 hg w27 hbox hb
               have n0_ := Aside0.mk (Kd.R_below (by (with_reducible repeat (first | apply Kd.R_alloc | apply Kd.R_drewN | apply Kd.R_drew)); exact HO_171001.out) hb)
               have n1_ := Aside0.mk (blk_below (g := gb170) (o := .cells #[.int .u64 x171000_2, .slice Ao25 x171001_2.length co25] 26 (0, 0)) (by (with_reducible repeat (first | refine blk_drewN ?_ _ | refine blk_drew ?_ | refine blk_alloc ?_ _)); exact BK170.out) hb)
               have n2_ := Aside0.mk (below_step (by repeat (first | (with_reducible first | exact HB.out | apply below_alloc | apply pw_below_drewN | apply below_drew1 | refine below_set ?_ GE170.out) | exact HB.out)) hb)
               have n3_ := Aside0.mk (hbox)
               have n4_ := Aside0.mk ((by rw [hg]; exact (below_size (by repeat (first | (with_reducible first | exact HB.out | apply below_alloc | apply pw_below_drewN | apply below_drew1 | refine below_set ?_ GE170.out) | exact HB.out))) : w.heap.size ≤ gb179))
               have n5_ := Aside0.mk ((by rw [hg]; exact (below_size (by repeat (first | (with_reducible first | exact HB.out | apply below_alloc | apply pw_below_drewN | apply below_drew1 | refine below_set ?_ GE170.out) | exact HB.out))) : w.heap.size ≤ gb179))
               have n6_ := Aside0.mk ((by rw [hg]; exact Nat.ne_of_lt (blk_lt (g := gb170) (o := .cells #[.int .u64 x171000_2, .slice Ao25 x171001_2.length co25] 26 (0, 0)) (by (with_reducible repeat (first | refine blk_drewN ?_ _ | refine blk_drew ?_ | refine blk_alloc ?_ _)); exact BK170.out)) : gb170 ≠ gb179))
               have n7_ := Aside0.mk ((by rw [hg]; exact Nat.ne_of_gt (blk_lt (g := gb170) (o := .cells #[.int .u64 x171000_2, .slice Ao25 x171001_2.length co25] 26 (0, 0)) (by (with_reducible repeat (first | refine blk_drewN ?_ _ | refine blk_drew ?_ | refine blk_alloc ?_ _)); exact BK170.out)) : gb179 ≠ gb170))
               clear HO_171001
               clear BK170
               clear HB
               have HO_171001 := n0_
               have BK170 := n1_
               have HB := n2_
               have BK179 := n3_
               have GW179 := n4_
               have GE179 := n5_
               have NB170_179 := n6_
               have NB179_170 := n7_
               clear n0_ n1_ n2_ n3_ n4_ n5_ n6_ n7_
               clear hb hbox hg
               refine hK.out _ _ ⟨(blk_cell BK170.out 0).trans rfl, (blk_cell BK170.out 1).trans rfl⟩ (fun hHeld => ?_)
               clear hK K
               refine norm_ (a' := ?_) ?_ ?_
               rotate_left
               ·
                show Act.put _ (some 12) _ = _
                simp only [Act.put, sS, s0_, s1_, i64_w, i32_w]
                rfl
               refine one_ (i := 5) (N := some 51) #[true,true,true,true,true,true,false,false,false,true,false,false] rfl rfl (one_of HT_.out (by kernel_rfl)) (by decide) (fun K hK => ?_)
               refine goes_ Try.func8 (by kernel_rfl) rfl #[.agg #[.int .u64 x171000_2, .slice Ao25 x171001_2.length co25], .int .i64 (Int.tmod (wrap64 (rd (l1.take ((ji15) : Int).toNat) x41_2)) (wrap64 (1 + (wrap64 (a0)))))] (by rfl) rfl rfl (by (try simp only [List.map_toArray, List.map_cons, List.map_nil]); first | done | (simp only [hji15]; rfl) | rfl | (simp only [List.length_drop, List.length_take]; rfl) | (simp only [ByteArray.size_append]; rfl) | (simp only [ByteArray.size_extract]; rfl)) ?_
               with_reducible refine (bbt_Table_With.calls x171000_2 _ _ x171001_2 (Int.tmod (wrap64 (rd (l1.take ((ji15) : Int).toNat) x41_2)) (wrap64 (1 + (wrap64 (a0))))) t174 t175 t178 _ ?side1 ?side2 A23.out).mono ?_
               (case side1 => repeat (first | exact (Kd.R_reads' HO_171001.out).2.2 | (with_reducible refine Kd.C_alloc ?_ _) | (with_reducible refine Kd.C_drewN ?_ _) | (with_reducible refine Kd.C_drew ?_)))
               (case side2 => exact (Kd.R_reads' HO_171001.out).2.1)
               rintro e w28 ⟨v176, rfl, ho0, hb⟩
               refine ⟨_, rfl, ?_⟩
               have n0_ := Aside0.mk (Kd.R_elder' (by (with_reducible repeat (first | apply Kd.R_alloc | apply Kd.R_drewN | apply Kd.R_drew)); exact HO_171001.out) (Kd.R_base ho0) hb)
               have n1_ := Aside0.mk (Kd.R_lower (Kd.R_new' ho0 (Kd.R_lt (by (with_reducible repeat (first | apply Kd.R_alloc | apply Kd.R_drewN | apply Kd.R_drew)); exact HO_171001.out))) (below_size (by repeat (first | (with_reducible first | exact HB.out | apply below_alloc | apply pw_below_drewN | apply below_drew1 | refine below_set ?_ GE170.out | refine below_set ?_ GE179.out) | exact HB.out))))
               have n2_ := Aside0.mk (blk_below (g := gb170) (o := .cells #[.int .u64 x171000_2, .slice Ao25 x171001_2.length co25] 26 (0, 0)) (by (with_reducible repeat (first | refine blk_drewN ?_ _ | refine blk_drew ?_ | refine blk_alloc ?_ _)); exact BK170.out) hb)
               have n3_ := Aside0.mk (blk_below (g := gb179) (o := .cells #[.int .u64 0, .slice none 0 0] 26 (0, 0)) (by (with_reducible repeat (first | refine blk_drewN ?_ _ | refine blk_drew ?_ | refine blk_alloc ?_ _)); exact BK179.out) hb)
               have n4_ := Aside0.mk (below_step (by repeat (first | (with_reducible first | exact HB.out | apply below_alloc | apply pw_below_drewN | apply below_drew1 | refine below_set ?_ GE170.out | refine below_set ?_ GE179.out) | exact HB.out)) hb)
               clear HO_171001
               clear BK170
               clear BK179
               clear HB
               have HO_171001 := n0_
               have HO177 := n1_
               have BK170 := n2_
               have BK179 := n3_
               have HB := n4_
               clear n0_ n1_ n2_ n3_ n4_
               (try clear hb)
               (try clear hb2)
               (try clear hk)
               (try clear hi)
               (try clear ho0)
               refine hK.out _ _ ⟨(blk_cell BK170.out 0).trans rfl, (blk_cell BK170.out 1).trans rfl⟩ (fun hHeld => ?_)
               clear hK K
               refine norm_ (a' := ?_) ?_ ?_
               rotate_left
               ·
                show Act.put _ (some 51) _ = _
                simp only [Act.put, sS, s0_, s1_, i64_w, i32_w]
                rfl
               refine pure_ (i := 6) (N := some 45) (v := ?_) (a' := ?_) #[true,true,true,true,true,true,true,false,false,true,false,false] rfl rfl (any_of HT_.out (by kernel_rfl)) (fun _ _ _ h => h) (Or.inl ⟨by rfl, ?_⟩) ?_ ?_
               rotate_left
               · intro w'; go_simp; with_reducible rfl
               rotate_left
               · simp only [Act.put, sS, s0_, s1_, i64_w, i32_w]; rfl
               refine pure_ (i := 7) (N := some 52) (v := ?_) (a' := ?_) #[true,true,true,true,true,true,true,true,false,true,false,false] rfl rfl (any_of HT_.out (by kernel_rfl)) (fun _ _ _ h => h) (Or.inl ⟨by rfl, ?_⟩) ?_ ?_
               rotate_left
               · intro w'; go_simp; with_reducible rfl
               rotate_left
               · simp only [Act.put, sS, s0_, s1_, i64_w, i32_w]; rfl
               refine pure_ (i := 8) (N := some 53) (v := ?_) (a' := ?_) #[true,true,true,true,true,true,true,true,true,true,false,false] rfl rfl (any_of HT_.out (by kernel_rfl)) (fun _ _ _ h => h) (Or.inl ⟨by rfl, ?_⟩) ?_ ?_
               rotate_left
               · intro w'; go_simp; with_reducible rfl
               rotate_left
               · simp only [Act.put, sS, s0_, s1_, i64_w, i32_w]; rfl
               exact norm_ (by simp only [putAll, Act.put, List.setIfInBounds_toArray, List.set_cons_zero, List.set_cons_succ]) (hCont (v176, gb179) _ ⟨hHeld, (by (with_reducible repeat (first | apply Kd.R_alloc | apply Kd.R_drewN | apply Kd.R_drew)); exact Kd.R_mono HO177.out (fun _ hk => hk.2)), (by (with_reducible repeat (first | apply Kd.R_alloc | apply Kd.R_drewN | apply Kd.R_drew)); exact Kd.R_mono HO_171001.out (fun _ hk => hk.2)), (by (with_reducible repeat (first | refine blk_drewN ?_ _ | refine blk_drew ?_ | refine blk_alloc ?_ _)); exact BK170.out), (by (with_reducible repeat (first | refine blk_drewN ?_ _ | refine blk_drew ?_ | refine blk_alloc ?_ _)); exact BK179.out), GW179.out, GE179.out, NB170_179.out, NB179_170.out, (by repeat (first | (with_reducible first | exact HB.out | apply below_alloc | apply pw_below_drewN | apply below_drew1 | refine below_set ?_ GE170.out | refine below_set ?_ GE179.out) | exact HB.out))⟩)
             rintro ⟨v176, gb179⟩ w29 ⟨hS_, h0_, h1_, h2_, h3_, h4_, h5_, h6_, h7_, h8_⟩
             have n0_ : Aside0 (Kd.R Kd.bool 4 w29 w.heap.size (fun k_ => some k_ ≠ (.slice Ao25 x171001_2.length co25 : Value).ownBlock) v176 t175) := ⟨h0_⟩
             have n1_ : Aside0 (Kd.R Kd.bool 4 w29 w.heap.size (fun k_ => some k_ ≠ (v176 : Value).ownBlock) (.slice Ao25 x171001_2.length co25) x171001_2) := ⟨h1_⟩
             have n2_ : Aside0 (w29.heap[gb170]? = some (.cells #[.int .u64 x171000_2, .slice Ao25 x171001_2.length co25] 26 (0, 0))) := ⟨h2_⟩
             have n3_ : Aside0 (w29.heap[gb179]? = some (.cells #[.int .u64 0, .slice none 0 0] 26 (0, 0))) := ⟨h3_⟩
             have n4_ : Aside0 (w.heap.size ≤ gb179) := ⟨h4_⟩
             have n5_ : Aside0 (w.heap.size ≤ gb179) := ⟨h5_⟩
             have n6_ : Aside0 (gb170 ≠ gb179) := ⟨h6_⟩
             have n7_ : Aside0 (gb179 ≠ gb170) := ⟨h7_⟩
             have n8_ : Aside0 (Below w.heap.size w w29) := ⟨h8_⟩
             clear HO_171001
             clear BK170
             clear HB
             clear h0_ h1_ h2_ h3_ h4_ h5_ h6_ h7_ h8_
             have HO177 := n0_
             have HO_171001 := n1_
             have BK170 := n2_
             have BK179 := n3_
             have GW179 := n4_
             have GE179 := n5_
             have NB170_179 := n6_
             have NB179_170 := n7_
             have HB := n8_
             clear n0_ n1_ n2_ n3_ n4_ n5_ n6_ n7_ n8_
             have hHeld : w29.cell? ⟨gb170, 0, none⟩ = some (.int .u64 x171000_2) ∧ w29.cell? ⟨gb170, 1, none⟩ = some (.slice Ao25 x171001_2.length co25) := hS_
             obtain ⟨Ao31, co31, eo31⟩ := Kd.R_slice HO177.out
             (first | subst eo31 | (injection eo31 with f1_ f2_ f3_; have f4_ := f1_.symm; have f5_ := f3_.symm; clear f1_ f2_ f3_; subst f4_; subst f5_))
             refine norm_ (a' := ?_) ?_ ?_
             rotate_left
             ·
              simp only [putAll, Act.put, List.setIfInBounds_toArray, List.set_cons_zero, List.set_cons_succ]
              rfl
             refine one_ (i := 10) (N := none) #[true,true,true,true,true,true,true,true,true,true,true,false] rfl rfl (one_of HT_.out (by kernel_rfl)) (by decide) (fun K hK => ?_)
             have hs30 : w29.cell? ⟨gb179, 0, none⟩ = some (.int .u64 0) := (blk_cell BK179.out 0).trans rfl
             have hfs30 := blk_frozen BK179.out 0
             have hns30_0 := NB170_179.out
             have hms30_0 := NB179_170.out
             have hs32 : w29.cell? ⟨gb179, 1, none⟩ = some (.slice none 0 0) := (blk_cell BK179.out 1).trans rfl
             have hfs32 := blk_frozen BK179.out 1
             have hns32_0 := NB170_179.out
             have hms32_0 := NB179_170.out
             refine skip_ (w1 := ?_) (by rfl) rfl ?_ ?_
             rotate_left
             ·
              go_simp
              rfl
             refine hK.out _ _ ⟨((cell_far (p := ⟨gb179, _, none⟩) NB170_179.out _).trans (((cell_far (p := ⟨gb179, _, none⟩) NB170_179.out _).trans (hHeld.1)))), ((cell_far (p := ⟨gb179, _, none⟩) NB170_179.out _).trans (((cell_far (p := ⟨gb179, _, none⟩) NB170_179.out _).trans (hHeld.2))))⟩ (fun hHeld => ?_)
             clear hK K
             refine pure_ (i := 11) (N := some 13) (v := ?_) (a' := ?_) #[true,true,true,true,true,true,true,true,true,true,true,true] rfl rfl (any_of HT_.out (by kernel_rfl)) (fun _ _ _ h => h) (Or.inl ⟨by rfl, ?_⟩) ?_ ?_
             rotate_left
             · intro w'; go_simp; with_reducible rfl
             rotate_left
             · simp only [Act.put, sS, s0_, s1_, i64_w, i32_w]; rfl
             refine done_ (done_of HT_.out (by kernel_rfl)) ?_
             have hnb33 := NB179_170.out
             have hnc33 := NB170_179.out
             have hcz34_0 : w29.cell? ⟨gb179, 0, none⟩ = some (.int .u64 0) := (blk_cell BK179.out 0).trans rfl
             have hcz34_1 : w29.cell? ⟨gb179, 1, none⟩ = some (.slice none 0 0) := (blk_cell BK179.out 1).trans rfl
             have hfz34_0 := blk_frozen BK179.out 0
             have hfz34_1 := blk_frozen BK179.out 1
             have hcz35_0 : w29.cell? ⟨gb170, 0, none⟩ = some (.int .u64 x171000_2) := (blk_cell BK170.out 0).trans rfl
             have hcz35_1 : w29.cell? ⟨gb170, 1, none⟩ = some (.slice Ao25 x171001_2.length co25) := (blk_cell BK170.out 1).trans rfl
             have hfz35_0 := blk_frozen BK170.out 0
             have hfz35_1 := blk_frozen BK170.out 1
             try go_wp2
             go_roundg k2
             case measure => have := HJ4.out; have := HK2.out; omega
             case rel => exact ⟨(wrap64 (x41_2 + 1)), (t174), (t175), (.slice Ao31 t175.length co31), (by first | rfl | (simp; done) | (simp [*]; done)), H', ⟨by have := HJ4.out; have := HK2.out; omega⟩, ⟨by (with_reducible repeat (first | apply Kd.R_alloc | apply Kd.R_drewN | apply Kd.R_drew)); exact Kd.R_mono (Kd.R_far (p := ⟨gb170, 1, none⟩) (Kd.R_far (p := ⟨gb170, 0, none⟩) (Kd.R_far (p := ⟨gb179, 1, none⟩) (Kd.R_far (p := ⟨gb179, 0, none⟩) (Kd.R_types (Kd.R_types HO177.out BK179.out (by decide)) BK170.out (by decide)) (fun _ hk => hk.1.2) (.int .u64 t174)) (fun _ hk => hk.1.2) (.slice Ao31 t175.length co31)) (fun _ hk => hk.2) (.int .u64 t174)) (fun _ hk => hk.2) (.slice Ao31 t175.length co31)) (fun _ hk => trivial)⟩, ⟨by (with_reducible repeat (first | refine blk_drewN ?_ _ | refine blk_drew ?_ | refine blk_alloc ?_ _)); refine blk_put (cs := #[.int .u64 t174, .slice Ao25 x171001_2.length co25]) ?_ 1 _ rfl; (with_reducible repeat (first | refine blk_drewN ?_ _ | refine blk_drew ?_ | refine blk_alloc ?_ _)); refine blk_put (cs := #[.int .u64 x171000_2, .slice Ao25 x171001_2.length co25]) ?_ 0 _ rfl; (with_reducible repeat (first | refine blk_drewN ?_ _ | refine blk_drew ?_ | refine blk_alloc ?_ _)); refine blk_far ?_ NB170_179.out _; (with_reducible repeat (first | refine blk_drewN ?_ _ | refine blk_drew ?_ | refine blk_alloc ?_ _)); refine blk_far ?_ NB170_179.out _; (with_reducible repeat (first | refine blk_drewN ?_ _ | refine blk_drew ?_ | refine blk_alloc ?_ _)); exact BK170.out⟩, ⟨by repeat (first | (with_reducible first | exact HB.out | apply below_alloc | apply pw_below_drewN | apply below_drew1 | refine below_set ?_ GE170.out | refine below_set ?_ GE179.out) | exact HB.out)⟩⟩
            ·
             rw [if_neg c24] at H
             have c24b0 : (t178 == 0) = false := beq_eq_false_iff_ne.mpr c24
             have c24b1 : (t178 != 0) = true := bne_iff_ne.mpr c24
             have H' := Aside0.mk H
             clear H
             have p173 : 0 ≤ (x41_2 : Int) := of_decide_eq_true (by first | (with_reducible assumption) | assumption)
             have q173 : x41_2 < ((l1.take ((ji15) : Int).toNat).length : Int) := of_decide_eq_true (by first | (with_reducible assumption) | assumption)
             obtain ⟨ad173, e173, hx173_0⟩ := Kd.at_int HR172.out x41_2 p173 q173
             cases e173
             replace hx173_0 := (HB.out.cell (World.block_lt_of_cell? w _ hx173_0)).trans hx173_0
             replace p173 := eq_true p173
             replace q173 := eq_true q173
             obtain ⟨Ao36, co36, eo36⟩ := Kd.R_slice HO_171001.out
             subst eo36
             try go_wp2
             have n0_ := Aside0.mk (Kd.R_drew HO_171001.out)
             have n1_ := Aside0.mk (blk_drew BK170.out)
             have n2_ := Aside0.mk (below_drew1 HB.out)
             clear HO_171001
             clear BK170
             clear HB
             have HO_171001 := n0_
             have BK170 := n1_
             have HB := n2_
             clear n0_ n1_ n2_
             refine start_ (n := 12) (S := fun w' => w'.cell? ⟨gb170, 0, none⟩ = some (.int .u64 x171000_2) ∧ w'.cell? ⟨gb170, 1, none⟩ = some (.slice Ao36 x171001_2.length co36)) (ds := []) #[false,false,false,false,false,false,false,false,false,false,false,false] (by kernel_rfl) rfl rfl ⟨(blk_cell BK170.out 0).trans rfl, (blk_cell BK170.out 1).trans rfl⟩ (fun hHeld => ?_); refine with_tabW tillrolllaw09_BbtBack.tab8 tillrolllaw09_BbtBack.bits8 (fun HT_ HW_ => ?_)
             generalize wr.drew = w37 at HO_171001 BK170 HB hHeld ⊢
             refine pure_ (i := 1) (N := some 47) (v := ?_) (a' := ?_) #[false,true,false,false,false,false,false,false,false,false,false,false] rfl rfl (any_of HT_.out (by kernel_rfl)) (fun _ _ _ h => h) (Or.inl ⟨by rfl, ?_⟩) ?_ ?_
             rotate_left
             · intro w'; go_simp; with_reducible rfl
             rotate_left
             · simp only [Act.put, sS, s0_, s1_, i64_w, i32_w]; rfl
             refine pure_ (i := 2) (N := some 48) (v := ?_) (a' := ?_) #[false,true,true,false,false,false,false,false,false,false,false,false] rfl rfl (any_of HT_.out (by kernel_rfl)) (fun _ _ _ h => h) (Or.inl ⟨by rfl, ?_⟩) ?_ ?_
             rotate_left
             · intro w'; go_simp; with_reducible rfl
             rotate_left
             · simp only [Act.put, sS, s0_, s1_, i64_w, i32_w]; rfl
             refine pure_ (i := 3) (N := some 49) (v := ?_) (a' := ?_) #[false,true,true,true,false,false,false,false,false,false,false,false] rfl rfl (any_of HT_.out (by kernel_rfl)) (fun _ _ _ h => h) (Or.inl ⟨by rfl, ?_⟩) ?_ ?_
             rotate_left
             · intro w'; go_simp; with_reducible rfl
             rotate_left
             · simp only [Act.put, sS, s0_, s1_, i64_w, i32_w]; rfl
             refine pure_ (i := 4) (N := some 50) (v := ?_) (a' := ?_) #[false,true,true,true,true,false,false,false,false,false,false,false] rfl rfl (any_of HT_.out (by kernel_rfl)) (fun _ _ _ h => h) (Or.inl ⟨by rfl, ?_⟩) ?_ ?_
             rotate_left
             · intro w'; go_simp; with_reducible rfl
             rotate_left
             · simp only [Act.put, sS, s0_, s1_, i64_w, i32_w]; rfl
             refine take_ (i := 0) (N := some 46) (v := ?_) (a' := ?_) #[true,true,true,true,true,false,false,false,false,false,false,false] rfl rfl (take_ofW HT_.out HW_.out (by kernel_rfl)) (fun _ _ _ h => h) (Or.inl ⟨by rfl, ?_⟩) hHeld ?_ ?_
             rotate_left
             ·
              rintro w' ⟨s0, s1⟩
              go_simp
              with_reducible rfl
             rotate_left
             · simp only [Act.put, sS, s0_, s1_, i64_w, i32_w]; rfl
             refine join_ (σ := Value × Nat) 2 #[true,true,true,true,true,true,true,true,true,true,false,false] (fun s_ => [(51, .tuple #[.agg #[.int .u64 t174, s_.1], .int .i64 t178]), (12, .pointer (some ⟨s_.2, 0, none⟩)), (45, .tuple #[.agg #[.int .u64 t174, s_.1], .int .i64 t178]), (52, .agg #[.int .u64 t174, s_.1]), (53, .int .i64 t178)]) (fun s_ w' => (w'.cell? ⟨gb170, 0, none⟩ = some (.int .u64 x171000_2) ∧ w'.cell? ⟨gb170, 1, none⟩ = some (.slice Ao36 x171001_2.length co36)) ∧ (Kd.R Kd.bool 4 w' w.heap.size (fun k_ => some k_ ≠ (.slice Ao36 x171001_2.length co36 : Value).ownBlock) s_.1 t175) ∧ (Kd.R Kd.bool 4 w' w.heap.size (fun k_ => some k_ ≠ (s_.1 : Value).ownBlock) (.slice Ao36 x171001_2.length co36) x171001_2) ∧ (w'.heap[gb170]? = some (.cells #[.int .u64 x171000_2, .slice Ao36 x171001_2.length co36] 26 (0, 0))) ∧ (w'.heap[s_.2]? = some (.cells #[.int .u64 0, .slice none 0 0] 26 (0, 0))) ∧ (w.heap.size ≤ s_.2) ∧ (w.heap.size ≤ s_.2) ∧ (gb170 ≠ s_.2) ∧ (s_.2 ≠ gb170) ∧ (Below w.heap.size w w')) ?_ ?_
             rotate_left
             ·
              intro hCont
              refine two_ (i := 5) (j := 9) (Ni := some 51) (Nj := some 12) #[true,true,true,true,true,true,false,false,false,false,false,false] #[true,true,true,true,true,false,false,false,false,true,false,false] rfl rfl rfl rfl (two_of HT_.out (by kernel_rfl)) (by decide) (by decide) (fun K hK => ?_) (fun K hK => ?_)
              ·
               skip
               refine goes_ Try.func8 (by kernel_rfl) rfl #[.agg #[.int .u64 x171000_2, .slice Ao36 x171001_2.length co36], .int .i64 (Int.tmod (wrap64 (rd (l1.take ((ji15) : Int).toNat) x41_2)) (wrap64 (1 + (wrap64 (a0)))))] (by rfl) rfl rfl (by (try simp only [List.map_toArray, List.map_cons, List.map_nil]); first | done | (simp only [hji15]; rfl) | rfl | (simp only [List.length_drop, List.length_take]; rfl) | (simp only [ByteArray.size_append]; rfl) | (simp only [ByteArray.size_extract]; rfl)) ?_
               with_reducible refine (bbt_Table_With.calls x171000_2 _ _ x171001_2 (Int.tmod (wrap64 (rd (l1.take ((ji15) : Int).toNat) x41_2)) (wrap64 (1 + (wrap64 (a0))))) t174 t175 t178 _ ?side1 ?side2 A23.out).mono ?_
               (case side1 => repeat (first | exact (Kd.R_reads' HO_171001.out).2.2 | (with_reducible refine Kd.C_alloc ?_ _) | (with_reducible refine Kd.C_drewN ?_ _) | (with_reducible refine Kd.C_drew ?_)))
               (case side2 => exact (Kd.R_reads' HO_171001.out).2.1)
               rintro e w38 ⟨v176, rfl, ho0, hb⟩
               refine ⟨_, rfl, ?_⟩
               have n0_ := Aside0.mk (Kd.R_elder' (by (with_reducible repeat (first | apply Kd.R_alloc | apply Kd.R_drewN | apply Kd.R_drew)); exact HO_171001.out) (Kd.R_base ho0) hb)
               have n1_ := Aside0.mk (Kd.R_lower (Kd.R_new' ho0 (Kd.R_lt (by (with_reducible repeat (first | apply Kd.R_alloc | apply Kd.R_drewN | apply Kd.R_drew)); exact HO_171001.out))) (below_size (by repeat (first | (with_reducible first | exact HB.out | apply below_alloc | apply pw_below_drewN | apply below_drew1 | refine below_set ?_ GE170.out) | exact HB.out))))
               have n2_ := Aside0.mk (blk_below (g := gb170) (o := .cells #[.int .u64 x171000_2, .slice Ao36 x171001_2.length co36] 26 (0, 0)) (by (with_reducible repeat (first | refine blk_drewN ?_ _ | refine blk_drew ?_ | refine blk_alloc ?_ _)); exact BK170.out) hb)
               have n3_ := Aside0.mk (below_step (by repeat (first | (with_reducible first | exact HB.out | apply below_alloc | apply pw_below_drewN | apply below_drew1 | refine below_set ?_ GE170.out) | exact HB.out)) hb)
               clear HO_171001
               clear BK170
               clear HB
               have HO_171001 := n0_
               have HO177 := n1_
               have BK170 := n2_
               have HB := n3_
               clear n0_ n1_ n2_ n3_
               (try clear hb)
               (try clear hb2)
               (try clear hk)
               (try clear hi)
               (try clear ho0)
               refine hK.out _ _ ⟨(blk_cell BK170.out 0).trans rfl, (blk_cell BK170.out 1).trans rfl⟩ (fun hHeld => ?_)
               clear hK K
               refine norm_ (a' := ?_) ?_ ?_
               rotate_left
               ·
                show Act.put _ (some 51) _ = _
                simp only [Act.put, sS, s0_, s1_, i64_w, i32_w]
                rfl
               refine pure_ (i := 6) (N := some 45) (v := ?_) (a' := ?_) #[true,true,true,true,true,true,true,false,false,false,false,false] rfl rfl (any_of HT_.out (by kernel_rfl)) (fun _ _ _ h => h) (Or.inl ⟨by rfl, ?_⟩) ?_ ?_
               rotate_left
               · intro w'; go_simp; with_reducible rfl
               rotate_left
               · simp only [Act.put, sS, s0_, s1_, i64_w, i32_w]; rfl
               refine pure_ (i := 7) (N := some 52) (v := ?_) (a' := ?_) #[true,true,true,true,true,true,true,true,false,false,false,false] rfl rfl (any_of HT_.out (by kernel_rfl)) (fun _ _ _ h => h) (Or.inl ⟨by rfl, ?_⟩) ?_ ?_
               rotate_left
               · intro w'; go_simp; with_reducible rfl
               rotate_left
               · simp only [Act.put, sS, s0_, s1_, i64_w, i32_w]; rfl
               refine pure_ (i := 8) (N := some 53) (v := ?_) (a' := ?_) #[true,true,true,true,true,true,true,true,true,false,false,false] rfl rfl (any_of HT_.out (by kernel_rfl)) (fun _ _ _ h => h) (Or.inl ⟨by rfl, ?_⟩) ?_ ?_
               rotate_left
               · intro w'; go_simp; with_reducible rfl
               rotate_left
               · simp only [Act.put, sS, s0_, s1_, i64_w, i32_w]; rfl
               refine one_ (i := 9) (N := some 12) #[true,true,true,true,true,true,true,true,true,true,false,false] rfl rfl (one_of HT_.out (by kernel_rfl)) (by decide) (fun K hK => ?_)
               refine box_step ?hg (N := 12) ?hd (cs := #[.int .u64 0, .slice none 0 0]) (t := 26) ?hr ?_; (case hd => rfl); (case hg => rfl); (case hr => first | (go_simp; done) | (go_simp; rfl))
               intro gb179 hg w39 hbox hb
               have n0_ := Aside0.mk (Kd.R_below (by (with_reducible repeat (first | apply Kd.R_alloc | apply Kd.R_drewN | apply Kd.R_drew)); exact HO_171001.out) hb)
               have n1_ := Aside0.mk (Kd.R_below (by (with_reducible repeat (first | apply Kd.R_alloc | apply Kd.R_drewN | apply Kd.R_drew)); exact HO177.out) hb)
               have n2_ := Aside0.mk (blk_below (g := gb170) (o := .cells #[.int .u64 x171000_2, .slice Ao36 x171001_2.length co36] 26 (0, 0)) (by (with_reducible repeat (first | refine blk_drewN ?_ _ | refine blk_drew ?_ | refine blk_alloc ?_ _)); exact BK170.out) hb)
               have n3_ := Aside0.mk (below_step (by repeat (first | (with_reducible first | exact HB.out | apply below_alloc | apply pw_below_drewN | apply below_drew1 | refine below_set ?_ GE170.out) | exact HB.out)) hb)
               have n4_ := Aside0.mk (hbox)
               have n5_ := Aside0.mk ((by rw [hg]; exact (below_size (by repeat (first | (with_reducible first | exact HB.out | apply below_alloc | apply pw_below_drewN | apply below_drew1 | refine below_set ?_ GE170.out) | exact HB.out))) : w.heap.size ≤ gb179))
               have n6_ := Aside0.mk ((by rw [hg]; exact (below_size (by repeat (first | (with_reducible first | exact HB.out | apply below_alloc | apply pw_below_drewN | apply below_drew1 | refine below_set ?_ GE170.out) | exact HB.out))) : w.heap.size ≤ gb179))
               have n7_ := Aside0.mk ((by rw [hg]; exact Nat.ne_of_lt (blk_lt (g := gb170) (o := .cells #[.int .u64 x171000_2, .slice Ao36 x171001_2.length co36] 26 (0, 0)) (by (with_reducible repeat (first | refine blk_drewN ?_ _ | refine blk_drew ?_ | refine blk_alloc ?_ _)); exact BK170.out)) : gb170 ≠ gb179))
               have n8_ := Aside0.mk ((by rw [hg]; exact Nat.ne_of_gt (blk_lt (g := gb170) (o := .cells #[.int .u64 x171000_2, .slice Ao36 x171001_2.length co36] 26 (0, 0)) (by (with_reducible repeat (first | refine blk_drewN ?_ _ | refine blk_drew ?_ | refine blk_alloc ?_ _)); exact BK170.out)) : gb179 ≠ gb170))
               clear HO_171001
               clear HO177
               clear BK170
               clear HB
               have HO_171001 := n0_
               have HO177 := n1_
               have BK170 := n2_
               have HB := n3_
               have BK179 := n4_
               have GW179 := n5_
               have GE179 := n6_
               have NB170_179 := n7_
               have NB179_170 := n8_
               clear n0_ n1_ n2_ n3_ n4_ n5_ n6_ n7_ n8_
               clear hb hbox hg
               refine hK.out _ _ ⟨(blk_cell BK170.out 0).trans rfl, (blk_cell BK170.out 1).trans rfl⟩ (fun hHeld => ?_)
               clear hK K
               refine norm_ (a' := ?_) ?_ ?_
               rotate_left
               ·
                show Act.put _ (some 12) _ = _
                simp only [Act.put, sS, s0_, s1_, i64_w, i32_w]
                rfl
               exact norm_ (by simp only [putAll, Act.put, List.setIfInBounds_toArray, List.set_cons_zero, List.set_cons_succ]) (hCont (v176, gb179) _ ⟨hHeld, (by (with_reducible repeat (first | apply Kd.R_alloc | apply Kd.R_drewN | apply Kd.R_drew)); exact Kd.R_mono HO177.out (fun _ hk => hk.2)), (by (with_reducible repeat (first | apply Kd.R_alloc | apply Kd.R_drewN | apply Kd.R_drew)); exact Kd.R_mono HO_171001.out (fun _ hk => hk.2)), (by (with_reducible repeat (first | refine blk_drewN ?_ _ | refine blk_drew ?_ | refine blk_alloc ?_ _)); exact BK170.out), (by (with_reducible repeat (first | refine blk_drewN ?_ _ | refine blk_drew ?_ | refine blk_alloc ?_ _)); exact BK179.out), GW179.out, GE179.out, NB170_179.out, NB179_170.out, (by repeat (first | (with_reducible first | exact HB.out | apply below_alloc | apply pw_below_drewN | apply below_drew1 | refine below_set ?_ GE170.out | refine below_set ?_ GE179.out) | exact HB.out))⟩)
              ·
               skip
               refine box_step ?hg (N := 12) ?hd (cs := #[.int .u64 0, .slice none 0 0]) (t := 26) ?hr ?_; (case hd => rfl); (case hg => rfl); (case hr => first | (go_simp; done) | (go_simp; rfl))
               intro gb179 hg w38 hbox hb
               have n0_ := Aside0.mk (Kd.R_below (by (with_reducible repeat (first | apply Kd.R_alloc | apply Kd.R_drewN | apply Kd.R_drew)); exact HO_171001.out) hb)
               have n1_ := Aside0.mk (blk_below (g := gb170) (o := .cells #[.int .u64 x171000_2, .slice Ao36 x171001_2.length co36] 26 (0, 0)) (by (with_reducible repeat (first | refine blk_drewN ?_ _ | refine blk_drew ?_ | refine blk_alloc ?_ _)); exact BK170.out) hb)
               have n2_ := Aside0.mk (below_step (by repeat (first | (with_reducible first | exact HB.out | apply below_alloc | apply pw_below_drewN | apply below_drew1 | refine below_set ?_ GE170.out) | exact HB.out)) hb)
               have n3_ := Aside0.mk (hbox)
               have n4_ := Aside0.mk ((by rw [hg]; exact (below_size (by repeat (first | (with_reducible first | exact HB.out | apply below_alloc | apply pw_below_drewN | apply below_drew1 | refine below_set ?_ GE170.out) | exact HB.out))) : w.heap.size ≤ gb179))
               have n5_ := Aside0.mk ((by rw [hg]; exact (below_size (by repeat (first | (with_reducible first | exact HB.out | apply below_alloc | apply pw_below_drewN | apply below_drew1 | refine below_set ?_ GE170.out) | exact HB.out))) : w.heap.size ≤ gb179))
               have n6_ := Aside0.mk ((by rw [hg]; exact Nat.ne_of_lt (blk_lt (g := gb170) (o := .cells #[.int .u64 x171000_2, .slice Ao36 x171001_2.length co36] 26 (0, 0)) (by (with_reducible repeat (first | refine blk_drewN ?_ _ | refine blk_drew ?_ | refine blk_alloc ?_ _)); exact BK170.out)) : gb170 ≠ gb179))
               have n7_ := Aside0.mk ((by rw [hg]; exact Nat.ne_of_gt (blk_lt (g := gb170) (o := .cells #[.int .u64 x171000_2, .slice Ao36 x171001_2.length co36] 26 (0, 0)) (by (with_reducible repeat (first | refine blk_drewN ?_ _ | refine blk_drew ?_ | refine blk_alloc ?_ _)); exact BK170.out)) : gb179 ≠ gb170))
               clear HO_171001
               clear BK170
               clear HB
               have HO_171001 := n0_
               have BK170 := n1_
               have HB := n2_
               have BK179 := n3_
               have GW179 := n4_
               have GE179 := n5_
               have NB170_179 := n6_
               have NB179_170 := n7_
               clear n0_ n1_ n2_ n3_ n4_ n5_ n6_ n7_
               clear hb hbox hg
               refine hK.out _ _ ⟨(blk_cell BK170.out 0).trans rfl, (blk_cell BK170.out 1).trans rfl⟩ (fun hHeld => ?_)
               clear hK K
               refine norm_ (a' := ?_) ?_ ?_
               rotate_left
               ·
                show Act.put _ (some 12) _ = _
                simp only [Act.put, sS, s0_, s1_, i64_w, i32_w]
                rfl
               refine one_ (i := 5) (N := some 51) #[true,true,true,true,true,true,false,false,false,true,false,false] rfl rfl (one_of HT_.out (by kernel_rfl)) (by decide) (fun K hK => ?_)
               refine goes_ Try.func8 (by kernel_rfl) rfl #[.agg #[.int .u64 x171000_2, .slice Ao36 x171001_2.length co36], .int .i64 (Int.tmod (wrap64 (rd (l1.take ((ji15) : Int).toNat) x41_2)) (wrap64 (1 + (wrap64 (a0)))))] (by rfl) rfl rfl (by (try simp only [List.map_toArray, List.map_cons, List.map_nil]); first | done | (simp only [hji15]; rfl) | rfl | (simp only [List.length_drop, List.length_take]; rfl) | (simp only [ByteArray.size_append]; rfl) | (simp only [ByteArray.size_extract]; rfl)) ?_
               with_reducible refine (bbt_Table_With.calls x171000_2 _ _ x171001_2 (Int.tmod (wrap64 (rd (l1.take ((ji15) : Int).toNat) x41_2)) (wrap64 (1 + (wrap64 (a0))))) t174 t175 t178 _ ?side1 ?side2 A23.out).mono ?_
               (case side1 => repeat (first | exact (Kd.R_reads' HO_171001.out).2.2 | (with_reducible refine Kd.C_alloc ?_ _) | (with_reducible refine Kd.C_drewN ?_ _) | (with_reducible refine Kd.C_drew ?_)))
               (case side2 => exact (Kd.R_reads' HO_171001.out).2.1)
               rintro e w39 ⟨v176, rfl, ho0, hb⟩
               refine ⟨_, rfl, ?_⟩
               have n0_ := Aside0.mk (Kd.R_elder' (by (with_reducible repeat (first | apply Kd.R_alloc | apply Kd.R_drewN | apply Kd.R_drew)); exact HO_171001.out) (Kd.R_base ho0) hb)
               have n1_ := Aside0.mk (Kd.R_lower (Kd.R_new' ho0 (Kd.R_lt (by (with_reducible repeat (first | apply Kd.R_alloc | apply Kd.R_drewN | apply Kd.R_drew)); exact HO_171001.out))) (below_size (by repeat (first | (with_reducible first | exact HB.out | apply below_alloc | apply pw_below_drewN | apply below_drew1 | refine below_set ?_ GE170.out | refine below_set ?_ GE179.out) | exact HB.out))))
               have n2_ := Aside0.mk (blk_below (g := gb170) (o := .cells #[.int .u64 x171000_2, .slice Ao36 x171001_2.length co36] 26 (0, 0)) (by (with_reducible repeat (first | refine blk_drewN ?_ _ | refine blk_drew ?_ | refine blk_alloc ?_ _)); exact BK170.out) hb)
               have n3_ := Aside0.mk (blk_below (g := gb179) (o := .cells #[.int .u64 0, .slice none 0 0] 26 (0, 0)) (by (with_reducible repeat (first | refine blk_drewN ?_ _ | refine blk_drew ?_ | refine blk_alloc ?_ _)); exact BK179.out) hb)
               have n4_ := Aside0.mk (below_step (by repeat (first | (with_reducible first | exact HB.out | apply below_alloc | apply pw_below_drewN | apply below_drew1 | refine below_set ?_ GE170.out | refine below_set ?_ GE179.out) | exact HB.out)) hb)
               clear HO_171001
               clear BK170
               clear BK179
               clear HB
               have HO_171001 := n0_
               have HO177 := n1_
               have BK170 := n2_
               have BK179 := n3_
               have HB := n4_
               clear n0_ n1_ n2_ n3_ n4_
               (try clear hb)
               (try clear hb2)
               (try clear hk)
               (try clear hi)
               (try clear ho0)
               refine hK.out _ _ ⟨(blk_cell BK170.out 0).trans rfl, (blk_cell BK170.out 1).trans rfl⟩ (fun hHeld => ?_)
               clear hK K
               refine norm_ (a' := ?_) ?_ ?_
               rotate_left
               ·
                show Act.put _ (some 51) _ = _
                simp only [Act.put, sS, s0_, s1_, i64_w, i32_w]
                rfl
               refine pure_ (i := 6) (N := some 45) (v := ?_) (a' := ?_) #[true,true,true,true,true,true,true,false,false,true,false,false] rfl rfl (any_of HT_.out (by kernel_rfl)) (fun _ _ _ h => h) (Or.inl ⟨by rfl, ?_⟩) ?_ ?_
               rotate_left
               · intro w'; go_simp; with_reducible rfl
               rotate_left
               · simp only [Act.put, sS, s0_, s1_, i64_w, i32_w]; rfl
               refine pure_ (i := 7) (N := some 52) (v := ?_) (a' := ?_) #[true,true,true,true,true,true,true,true,false,true,false,false] rfl rfl (any_of HT_.out (by kernel_rfl)) (fun _ _ _ h => h) (Or.inl ⟨by rfl, ?_⟩) ?_ ?_
               rotate_left
               · intro w'; go_simp; with_reducible rfl
               rotate_left
               · simp only [Act.put, sS, s0_, s1_, i64_w, i32_w]; rfl
               refine pure_ (i := 8) (N := some 53) (v := ?_) (a' := ?_) #[true,true,true,true,true,true,true,true,true,true,false,false] rfl rfl (any_of HT_.out (by kernel_rfl)) (fun _ _ _ h => h) (Or.inl ⟨by rfl, ?_⟩) ?_ ?_
               rotate_left
               · intro w'; go_simp; with_reducible rfl
               rotate_left
               · simp only [Act.put, sS, s0_, s1_, i64_w, i32_w]; rfl
               exact norm_ (by simp only [putAll, Act.put, List.setIfInBounds_toArray, List.set_cons_zero, List.set_cons_succ]) (hCont (v176, gb179) _ ⟨hHeld, (by (with_reducible repeat (first | apply Kd.R_alloc | apply Kd.R_drewN | apply Kd.R_drew)); exact Kd.R_mono HO177.out (fun _ hk => hk.2)), (by (with_reducible repeat (first | apply Kd.R_alloc | apply Kd.R_drewN | apply Kd.R_drew)); exact Kd.R_mono HO_171001.out (fun _ hk => hk.2)), (by (with_reducible repeat (first | refine blk_drewN ?_ _ | refine blk_drew ?_ | refine blk_alloc ?_ _)); exact BK170.out), (by (with_reducible repeat (first | refine blk_drewN ?_ _ | refine blk_drew ?_ | refine blk_alloc ?_ _)); exact BK179.out), GW179.out, GE179.out, NB170_179.out, NB179_170.out, (by repeat (first | (with_reducible first | exact HB.out | apply below_alloc | apply pw_below_drewN | apply below_drew1 | refine below_set ?_ GE170.out | refine below_set ?_ GE179.out) | exact HB.out))⟩)
             rintro ⟨v176, gb179⟩ w40 ⟨hS_, h0_, h1_, h2_, h3_, h4_, h5_, h6_, h7_, h8_⟩
             have n0_ : Aside0 (Kd.R Kd.bool 4 w40 w.heap.size (fun k_ => some k_ ≠ (.slice Ao36 x171001_2.length co36 : Value).ownBlock) v176 t175) := ⟨h0_⟩
             have n1_ : Aside0 (Kd.R Kd.bool 4 w40 w.heap.size (fun k_ => some k_ ≠ (v176 : Value).ownBlock) (.slice Ao36 x171001_2.length co36) x171001_2) := ⟨h1_⟩
             have n2_ : Aside0 (w40.heap[gb170]? = some (.cells #[.int .u64 x171000_2, .slice Ao36 x171001_2.length co36] 26 (0, 0))) := ⟨h2_⟩
             have n3_ : Aside0 (w40.heap[gb179]? = some (.cells #[.int .u64 0, .slice none 0 0] 26 (0, 0))) := ⟨h3_⟩
             have n4_ : Aside0 (w.heap.size ≤ gb179) := ⟨h4_⟩
             have n5_ : Aside0 (w.heap.size ≤ gb179) := ⟨h5_⟩
             have n6_ : Aside0 (gb170 ≠ gb179) := ⟨h6_⟩
             have n7_ : Aside0 (gb179 ≠ gb170) := ⟨h7_⟩
             have n8_ : Aside0 (Below w.heap.size w w40) := ⟨h8_⟩
             clear HO_171001
             clear BK170
             clear HB
             clear h0_ h1_ h2_ h3_ h4_ h5_ h6_ h7_ h8_
             have HO177 := n0_
             have HO_171001 := n1_
             have BK170 := n2_
             have BK179 := n3_
             have GW179 := n4_
             have GE179 := n5_
             have NB170_179 := n6_
             have NB179_170 := n7_
             have HB := n8_
             clear n0_ n1_ n2_ n3_ n4_ n5_ n6_ n7_ n8_
             have hHeld : w40.cell? ⟨gb170, 0, none⟩ = some (.int .u64 x171000_2) ∧ w40.cell? ⟨gb170, 1, none⟩ = some (.slice Ao36 x171001_2.length co36) := hS_
             obtain ⟨Ao42, co42, eo42⟩ := Kd.R_slice HO177.out
             (first | subst eo42 | (injection eo42 with f1_ f2_ f3_; have f4_ := f1_.symm; have f5_ := f3_.symm; clear f1_ f2_ f3_; subst f4_; subst f5_))
             refine norm_ (a' := ?_) ?_ ?_
             rotate_left
             ·
              simp only [putAll, Act.put, List.setIfInBounds_toArray, List.set_cons_zero, List.set_cons_succ]
              rfl
             refine one_ (i := 10) (N := none) #[true,true,true,true,true,true,true,true,true,true,true,false] rfl rfl (one_of HT_.out (by kernel_rfl)) (by decide) (fun K hK => ?_)
             have hs41 : w40.cell? ⟨gb179, 0, none⟩ = some (.int .u64 0) := (blk_cell BK179.out 0).trans rfl
             have hfs41 := blk_frozen BK179.out 0
             have hns41_0 := NB170_179.out
             have hms41_0 := NB179_170.out
             have hs43 : w40.cell? ⟨gb179, 1, none⟩ = some (.slice none 0 0) := (blk_cell BK179.out 1).trans rfl
             have hfs43 := blk_frozen BK179.out 1
             have hns43_0 := NB170_179.out
             have hms43_0 := NB179_170.out
             refine skip_ (w1 := ?_) (by rfl) rfl ?_ ?_
             rotate_left
             ·
              go_simp
              rfl
             refine hK.out _ _ ⟨((cell_far (p := ⟨gb179, _, none⟩) NB170_179.out _).trans (((cell_far (p := ⟨gb179, _, none⟩) NB170_179.out _).trans (hHeld.1)))), ((cell_far (p := ⟨gb179, _, none⟩) NB170_179.out _).trans (((cell_far (p := ⟨gb179, _, none⟩) NB170_179.out _).trans (hHeld.2))))⟩ (fun hHeld => ?_)
             clear hK K
             refine pure_ (i := 11) (N := some 13) (v := ?_) (a' := ?_) #[true,true,true,true,true,true,true,true,true,true,true,true] rfl rfl (any_of HT_.out (by kernel_rfl)) (fun _ _ _ h => h) (Or.inl ⟨by rfl, ?_⟩) ?_ ?_
             rotate_left
             · intro w'; go_simp; with_reducible rfl
             rotate_left
             · simp only [Act.put, sS, s0_, s1_, i64_w, i32_w]; rfl
             refine done_ (done_of HT_.out (by kernel_rfl)) ?_
             try go_wp2
             go_roundg k2
             case measure => have := HJ4.out; have := HK2.out; omega
             case rel => exact ⟨(wrap64 (x41_2 + 1)), (x171000_2), (x171001_2), (.slice Ao36 x171001_2.length co36), (by first | rfl | (simp; done) | (simp [*]; done)), H', ⟨by have := HJ4.out; have := HK2.out; omega⟩, ⟨by (with_reducible repeat (first | apply Kd.R_alloc | apply Kd.R_drewN | apply Kd.R_drew)); exact Kd.R_mono (Kd.R_far (p := ⟨gb179, 1, none⟩) (Kd.R_far (p := ⟨gb179, 0, none⟩) (Kd.R_types HO_171001.out BK179.out (by decide)) (fun _ hk => hk.2) (.int .u64 t174)) (fun _ hk => hk.2) (.slice Ao42 t175.length co42)) (fun _ hk => trivial)⟩, ⟨by (with_reducible repeat (first | refine blk_drewN ?_ _ | refine blk_drew ?_ | refine blk_alloc ?_ _)); refine blk_far ?_ NB170_179.out _; (with_reducible repeat (first | refine blk_drewN ?_ _ | refine blk_drew ?_ | refine blk_alloc ?_ _)); refine blk_far ?_ NB170_179.out _; (with_reducible repeat (first | refine blk_drewN ?_ _ | refine blk_drew ?_ | refine blk_alloc ?_ _)); exact BK170.out⟩, ⟨by repeat (first | (with_reducible first | exact HB.out | apply below_alloc | apply pw_below_drewN | apply below_drew1 | refine below_set ?_ GE170.out | refine below_set ?_ GE179.out) | exact HB.out)⟩⟩
          ·
           rw [if_neg c21] at H
           have mx21n : ¬ (x41_2 < max ji15 0) := (by have hh := c21; have hg := hji15_; rw [List.length_take] at hh; split at hg <;> omega)
           have mx21na := eq_false mx21n
           have mx21nb : decide (x41_2 < max ji15 0) = false := decide_eq_false mx21n
           exact absurd H (by simp)
         ·
          rw [if_neg c20] at H
          exact absurd H (by simp)
        ·
         rw [if_neg c19] at H
         have mx19n : ¬ (x41_2 < max ji15 0) := (by have hh := c19; have hg := hji15_; rw [List.length_take] at hh; split at hg <;> omega)
         have mx19na := eq_false mx19n
         have mx19nb : decide (x41_2 < max ji15 0) = false := decide_eq_false mx19n
         have c19b0 : decide (x41_2 < ((l1.take ((ji15) : Int).toNat).length : Int)) = false := decide_eq_false c19
         clear c19
         replace H := Option.bind_eq_some_iff.mp H
         obtain ⟨⟨t180, t181⟩, A440, H⟩ := H
         replace H : ((bbt_Parse.f k2 t180 (wrap64 (1 + (wrap64 (a0))))).bind fun bt182 => (if t181 = 0 then (if bt182.2.2 = 0 then ((bbt_Table_Version.f bt182.1 bt182.2.1).bind fun t188 => ((bbt_Table_Version.f x171000_2 x171001_2).bind fun t189 => (if t188 = t189 then ((bbt_Table_List.f k2 bt182.1 bt182.2.1).bind fun t190 => ((bbt_Table_List.f k2 x171000_2 x171001_2).bind fun t193 => (tillrolllaw09_BbtBack.j2 k2 a2 t180 ((t190.length : Int) != (t193.length : Int)) x171000_2 x171001_2 bt182.1 bt182.2.1))) else (tillrolllaw09_BbtBack.j2 k2 a2 t180 true x171000_2 x171001_2 bt182.1 bt182.2.1)))) else (tillrolllaw09_BbtBack.j2 k2 a2 t180 true x171000_2 x171001_2 bt182.1 bt182.2.1)) else (tillrolllaw09_BbtBack.j2 k2 a2 t180 true x171000_2 x171001_2 bt182.1 bt182.2.1))) = some r := H
         have A44 := Aside0.mk A440
         clear A440
         replace H := Option.bind_eq_some_iff.mp H
         obtain ⟨⟨t182, t183, t186⟩, A450, H⟩ := H
         replace H : (if t181 = 0 then (if t186 = 0 then ((bbt_Table_Version.f t182 t183).bind fun t188 => ((bbt_Table_Version.f x171000_2 x171001_2).bind fun t189 => (if t188 = t189 then ((bbt_Table_List.f k2 t182 t183).bind fun t190 => ((bbt_Table_List.f k2 x171000_2 x171001_2).bind fun t193 => (tillrolllaw09_BbtBack.j2 k2 a2 t180 ((t190.length : Int) != (t193.length : Int)) x171000_2 x171001_2 t182 t183))) else (tillrolllaw09_BbtBack.j2 k2 a2 t180 true x171000_2 x171001_2 t182 t183)))) else (tillrolllaw09_BbtBack.j2 k2 a2 t180 true x171000_2 x171001_2 t182 t183)) else (tillrolllaw09_BbtBack.j2 k2 a2 t180 true x171000_2 x171001_2 t182 t183)) = some r := H
         have A45 := Aside0.mk A450
         clear A450
         have HC46 := Aside0.mk H
         clear H
         have hcz47_0 : wr.cell? ⟨gb170, 0, none⟩ = some (.int .u64 x171000_2) := (blk_cell BK170.out 0).trans rfl
         have hcz47_1 : wr.cell? ⟨gb170, 1, none⟩ = some (u171001) := (blk_cell BK170.out 1).trans rfl
         have hfz47_0 := blk_frozen BK170.out 0
         have hfz47_1 := blk_frozen BK170.out 1
         obtain ⟨Ao48, co48, eo48⟩ := Kd.R_slice HO_171001.out
         subst eo48
         go_upto_region 14 with (first | ((with_reducible refine gate_callee (f := 13) rfl ?_); refine goesL_ (some 60) rfl rfl Try.func13 (by kernel_rfl) rfl #[.agg #[.int .u64 x171000_2, .slice Ao48 x171001_2.length co48], .int .i64 64] rfl (by (try simp only [List.map_toArray, List.map_cons, List.map_nil]); first | done | rfl | (simp only [List.length_drop, List.length_take]; rfl) | (simp only [ByteArray.size_append]; rfl) | (simp only [ByteArray.size_extract]; rfl)) ?_; (with_reducible refine (bbt_Table_Text.calls k2 x171000_2 _ _ x171001_2 64 t180 t181 _ ?side1 ?side2 A44.out).mono ?_); (case side1 => repeat (first | exact (Kd.R_reads' HO_171001.out).2.2 | (with_reducible refine Kd.C_alloc ?_ _) | (with_reducible refine Kd.C_drewN ?_ _) | (with_reducible refine Kd.C_drew ?_))); (case side2 => exact (Kd.R_reads' HO_171001.out).2.1); rintro e w49 ⟨rfl, hb⟩; refine ⟨_, rfl, ?_⟩; have n0_ := Aside0.mk (Kd.R_below (by (with_reducible repeat (first | apply Kd.R_alloc | apply Kd.R_drewN | apply Kd.R_drew)); exact HO_171001.out) hb); have n1_ := Aside0.mk (blk_below (g := gb170) (o := .cells #[.int .u64 x171000_2, .slice Ao48 x171001_2.length co48] 26 (0, 0)) (by (with_reducible repeat (first | refine blk_drewN ?_ _ | refine blk_drew ?_ | refine blk_alloc ?_ _)); exact BK170.out) hb); have n2_ := Aside0.mk (below_step (by repeat (first | (with_reducible first | exact HB.out | apply below_alloc | apply pw_below_drewN | apply below_drew1 | refine below_set ?_ GE170.out) | exact HB.out)) hb); clear HO_171001; clear BK170; clear HB; have HO_171001 := n0_; have BK170 := n1_; have HB := n2_; clear n0_ n1_ n2_; (try clear hb); (try clear hb2); (try clear hk); (try clear hi)) | ((with_reducible refine gate_callee (f := 15) rfl ?_); refine goesL_ (some 66) rfl rfl Try.func15 (by kernel_rfl) rfl #[.string t180, .int .i64 (wrap64 (1 + (wrap64 (a0))))] rfl (by (try simp only [List.map_toArray, List.map_cons, List.map_nil]); first | done | rfl | (simp only [List.length_drop, List.length_take]; rfl) | (simp only [ByteArray.size_append]; rfl) | (simp only [ByteArray.size_extract]; rfl)) ?_; (with_reducible refine (bbt_Parse.calls k2 t180 (wrap64 (1 + (wrap64 (a0)))) t182 t183 t186 _ A45.out).mono ?_); rintro e w50 ⟨v184, rfl, ho0, hb⟩; refine ⟨_, rfl, ?_⟩; have n0_ := Aside0.mk (Kd.R_elder' (by (with_reducible repeat (first | apply Kd.R_alloc | apply Kd.R_drewN | apply Kd.R_drew)); exact HO_171001.out) (Kd.R_base ho0) hb); have n1_ := Aside0.mk (Kd.R_lower (Kd.R_new' ho0 (Kd.R_lt (by (with_reducible repeat (first | apply Kd.R_alloc | apply Kd.R_drewN | apply Kd.R_drew)); exact HO_171001.out))) (below_size (by repeat (first | (with_reducible first | exact HB.out | apply below_alloc | apply pw_below_drewN | apply below_drew1 | refine below_set ?_ GE170.out) | exact HB.out)))); have n2_ := Aside0.mk (blk_below (g := gb170) (o := .cells #[.int .u64 x171000_2, .slice Ao48 x171001_2.length co48] 26 (0, 0)) (by (with_reducible repeat (first | refine blk_drewN ?_ _ | refine blk_drew ?_ | refine blk_alloc ?_ _)); exact BK170.out) hb); have n3_ := Aside0.mk (below_step (by repeat (first | (with_reducible first | exact HB.out | apply below_alloc | apply pw_below_drewN | apply below_drew1 | refine below_set ?_ GE170.out) | exact HB.out)) hb); clear HO_171001; clear BK170; clear HB; have HO_171001 := n0_; have HO185 := n1_; have BK170 := n2_; have HB := n3_; clear n0_ n1_ n2_ n3_; (try clear hb); (try clear hb2); (try clear hk); (try clear hi); (try clear ho0)) | ((with_reducible refine gate_dst (N := 15) rfl ?_); (try (refine gate_guard (by rfl) ?_; dsimp only)); refine box_event ?hg (N := 15) ?hd (cs := #[.int .u64 0, .slice none 0 0]) (t := 26) ?hr ?_; (case hd => rfl); (case hg => rfl); (case hr => first | (go_simp; done) | (go_simp; rfl)); intro gb187 hg w51 hbox hb; have n0_ := Aside0.mk (Kd.R_below (by (with_reducible repeat (first | apply Kd.R_alloc | apply Kd.R_drewN | apply Kd.R_drew)); exact HO_171001.out) hb); have n1_ := Aside0.mk (Kd.R_below (by (with_reducible repeat (first | apply Kd.R_alloc | apply Kd.R_drewN | apply Kd.R_drew)); exact HO185.out) hb); have n2_ := Aside0.mk (blk_below (g := gb170) (o := .cells #[.int .u64 x171000_2, .slice Ao48 x171001_2.length co48] 26 (0, 0)) (by (with_reducible repeat (first | refine blk_drewN ?_ _ | refine blk_drew ?_ | refine blk_alloc ?_ _)); exact BK170.out) hb); have n3_ := Aside0.mk (below_step (by repeat (first | (with_reducible first | exact HB.out | apply below_alloc | apply pw_below_drewN | apply below_drew1 | refine below_set ?_ GE170.out) | exact HB.out)) hb); have n4_ := Aside0.mk (hbox); have n5_ := Aside0.mk ((by rw [hg]; exact (below_size (by repeat (first | (with_reducible first | exact HB.out | apply below_alloc | apply pw_below_drewN | apply below_drew1 | refine below_set ?_ GE170.out) | exact HB.out))) : w.heap.size ≤ gb187)); have n6_ := Aside0.mk ((by rw [hg]; exact (below_size (by repeat (first | (with_reducible first | exact HB.out | apply below_alloc | apply pw_below_drewN | apply below_drew1 | refine below_set ?_ GE170.out) | exact HB.out))) : w.heap.size ≤ gb187)); have n7_ := Aside0.mk ((by rw [hg]; exact Nat.ne_of_lt (blk_lt (g := gb170) (o := .cells #[.int .u64 x171000_2, .slice Ao48 x171001_2.length co48] 26 (0, 0)) (by (with_reducible repeat (first | refine blk_drewN ?_ _ | refine blk_drew ?_ | refine blk_alloc ?_ _)); exact BK170.out)) : gb170 ≠ gb187)); have n8_ := Aside0.mk ((by rw [hg]; exact Nat.ne_of_gt (blk_lt (g := gb170) (o := .cells #[.int .u64 x171000_2, .slice Ao48 x171001_2.length co48] 26 (0, 0)) (by (with_reducible repeat (first | refine blk_drewN ?_ _ | refine blk_drew ?_ | refine blk_alloc ?_ _)); exact BK170.out)) : gb187 ≠ gb170)); clear HO_171001; clear HO185; clear BK170; clear HB; have HO_171001 := n0_; have HO185 := n1_; have BK170 := n2_; have HB := n3_; have BK187 := n4_; have GW187 := n5_; have GE187 := n6_; have NB170_187 := n7_; have NB187_170 := n8_; clear n0_ n1_ n2_ n3_ n4_ n5_ n6_ n7_ n8_; clear hb hbox hg; have hnb52 := NB187_170.out; have hnc52 := NB170_187.out; have hcz53_0 : w51.cell? ⟨gb187, 0, none⟩ = some (.int .u64 0) := (blk_cell BK187.out 0).trans rfl; have hcz53_1 : w51.cell? ⟨gb187, 1, none⟩ = some (.slice none 0 0) := (blk_cell BK187.out 1).trans rfl; have hfz53_0 := blk_frozen BK187.out 0; have hfz53_1 := blk_frozen BK187.out 1; obtain ⟨Ao54, co54, eo54⟩ := Kd.R_slice HO185.out; subst eo54))
         (try simp only [Act.put, List.setIfInBounds_toArray, List.set_cons_zero, List.set_cons_succ])
         go_cut [90] (fun v90 wc => ∃ (kq : Nat) (x90_45 : Bool), v90 = .bool x90_45 ∧ Aside0 (tillrolllaw09_BbtBack.j2 kq a2 t180 x90_45 x171000_2 x171001_2 t182 t183 = some r) ∧ Aside0 (kq ≤ k2) ∧ Aside0 (Kd.R Kd.bool 4 wc w.heap.size (fun k_ => some k_ ≠ ((.slice Ao54 t183.length co54) : Value).ownBlock) (.slice Ao48 x171001_2.length co48) x171001_2) ∧ Aside0 (Kd.R Kd.bool 4 wc w.heap.size (fun k_ => some k_ ≠ ((.slice Ao48 x171001_2.length co48) : Value).ownBlock) (.slice Ao54 t183.length co54) t183) ∧ Aside0 (wc.heap[gb170]? = some (.cells #[.int .u64 x171000_2, (.slice Ao48 x171001_2.length co48)] 26 (0, 0))) ∧ Aside0 (wc.heap[gb187]? = some (.cells #[.int .u64 t182, (.slice Ao54 t183.length co54)] 26 (0, 0))) ∧ Aside0 (Below w.heap.size w wc))
         case first =>
          have H := HC46.out
          clear HC46
          by_cases c55 : t181 = 0
          ·
           rw [if_pos c55] at H
           have c55b0 : (t181 == 0) = true := beq_iff_eq.mpr c55
           have c55b1 : (t181 != 0) = false := bne_eq_false_iff_eq.mpr c55
           clear c55
           (first | rw [c55b0] | (simp only [i64_w, i32_w]; rw [c55b0]) | skip)
           by_cases c56 : t186 = 0
           ·
            rw [if_pos c56] at H
            have c56b0 : (t186 == 0) = true := beq_iff_eq.mpr c56
            have c56b1 : (t186 != 0) = false := bne_eq_false_iff_eq.mpr c56
            clear c56
            replace H := Option.bind_eq_some_iff.mp H
            obtain ⟨t188, A570, H⟩ := H
            replace H : ((bbt_Table_Version.f x171000_2 x171001_2).bind fun t189 => (if t188 = t189 then ((bbt_Table_List.f k2 t182 t183).bind fun t190 => ((bbt_Table_List.f k2 x171000_2 x171001_2).bind fun t193 => (tillrolllaw09_BbtBack.j2 k2 a2 t180 ((t190.length : Int) != (t193.length : Int)) x171000_2 x171001_2 t182 t183))) else (tillrolllaw09_BbtBack.j2 k2 a2 t180 true x171000_2 x171001_2 t182 t183))) = some r := H
            have A57 := Aside0.mk A570
            clear A570
            replace H := Option.bind_eq_some_iff.mp H
            obtain ⟨t189, A580, H⟩ := H
            replace H : (if t188 = t189 then ((bbt_Table_List.f k2 t182 t183).bind fun t190 => ((bbt_Table_List.f k2 x171000_2 x171001_2).bind fun t193 => (tillrolllaw09_BbtBack.j2 k2 a2 t180 ((t190.length : Int) != (t193.length : Int)) x171000_2 x171001_2 t182 t183))) else (tillrolllaw09_BbtBack.j2 k2 a2 t180 true x171000_2 x171001_2 t182 t183)) = some r := H
            have A58 := Aside0.mk A580
            clear A580
            by_cases c59 : t188 = t189
            ·
             rw [if_pos c59] at H
             have c59b0 : (t188 == t189) = true := beq_iff_eq.mpr c59
             have c59b1 : (t188 != t189) = false := bne_eq_false_iff_eq.mpr c59
             clear c59
             replace H := Option.bind_eq_some_iff.mp H
             obtain ⟨t190, A600, H⟩ := H
             replace H : ((bbt_Table_List.f k2 x171000_2 x171001_2).bind fun t193 => (tillrolllaw09_BbtBack.j2 k2 a2 t180 ((t190.length : Int) != (t193.length : Int)) x171000_2 x171001_2 t182 t183)) = some r := H
             have A60 := Aside0.mk A600
             clear A600
             replace H := Option.bind_eq_some_iff.mp H
             obtain ⟨t193, A610, H⟩ := H
             replace H : (tillrolllaw09_BbtBack.j2 k2 a2 t180 ((t190.length : Int) != (t193.length : Int)) x171000_2 x171001_2 t182 t183) = some r := H
             have A61 := Aside0.mk A610
             clear A610
             have H' := Aside0.mk H
             clear H
             try go_wp2
             have n0_ : Aside0 (Kd.R Kd.bool 4 ((w51.setCell ⟨gb187, 0, none⟩ (.int .u64 t182)).setCell ⟨gb187, 1, none⟩ (.slice Ao54 t183.length co54)) w.heap.size (fun k_ => some k_ ≠ (.slice Ao54 t183.length co54 : Value).ownBlock) (.slice Ao48 x171001_2.length co48) x171001_2) := ⟨by (with_reducible repeat (first | apply Kd.R_alloc | apply Kd.R_drewN | apply Kd.R_drew)); exact Kd.R_mono (Kd.R_far (p := ⟨gb187, 1, none⟩) (Kd.R_far (p := ⟨gb187, 0, none⟩) (Kd.R_types HO_171001.out BK187.out (by decide)) (fun _ hk => hk.2) (.int .u64 t182)) (fun _ hk => hk.2) (.slice Ao54 t183.length co54)) (fun _ hk => hk.1.2)⟩
             have n1_ : Aside0 (Kd.R Kd.bool 4 ((w51.setCell ⟨gb187, 0, none⟩ (.int .u64 t182)).setCell ⟨gb187, 1, none⟩ (.slice Ao54 t183.length co54)) w.heap.size (fun k_ => some k_ ≠ (.slice Ao48 x171001_2.length co48 : Value).ownBlock) (.slice Ao54 t183.length co54) t183) := ⟨by (with_reducible repeat (first | apply Kd.R_alloc | apply Kd.R_drewN | apply Kd.R_drew)); exact Kd.R_mono (Kd.R_far (p := ⟨gb187, 1, none⟩) (Kd.R_far (p := ⟨gb187, 0, none⟩) (Kd.R_types HO185.out BK187.out (by decide)) (fun _ hk => hk.2) (.int .u64 t182)) (fun _ hk => hk.2) (.slice Ao54 t183.length co54)) (fun _ hk => hk.1.2)⟩
             have n2_ : Aside0 (((w51.setCell ⟨gb187, 0, none⟩ (.int .u64 t182)).setCell ⟨gb187, 1, none⟩ (.slice Ao54 t183.length co54)).heap[gb170]? = some (.cells #[.int .u64 x171000_2, .slice Ao48 x171001_2.length co48] 26 (0, 0))) := ⟨by (with_reducible repeat (first | refine blk_drewN ?_ _ | refine blk_drew ?_ | refine blk_alloc ?_ _)); refine blk_far ?_ NB170_187.out _; (with_reducible repeat (first | refine blk_drewN ?_ _ | refine blk_drew ?_ | refine blk_alloc ?_ _)); refine blk_far ?_ NB170_187.out _; (with_reducible repeat (first | refine blk_drewN ?_ _ | refine blk_drew ?_ | refine blk_alloc ?_ _)); exact BK170.out⟩
             have n3_ : Aside0 (((w51.setCell ⟨gb187, 0, none⟩ (.int .u64 t182)).setCell ⟨gb187, 1, none⟩ (.slice Ao54 t183.length co54)).heap[gb187]? = some (.cells #[.int .u64 t182, .slice Ao54 t183.length co54] 26 (0, 0))) := ⟨by (with_reducible repeat (first | refine blk_drewN ?_ _ | refine blk_drew ?_ | refine blk_alloc ?_ _)); refine blk_put (cs := #[.int .u64 t182, .slice none 0 0]) ?_ 1 _ rfl; (with_reducible repeat (first | refine blk_drewN ?_ _ | refine blk_drew ?_ | refine blk_alloc ?_ _)); refine blk_put (cs := #[.int .u64 0, .slice none 0 0]) ?_ 0 _ rfl; (with_reducible repeat (first | refine blk_drewN ?_ _ | refine blk_drew ?_ | refine blk_alloc ?_ _)); exact BK187.out⟩
             have n4_ : Aside0 (Below w.heap.size w ((w51.setCell ⟨gb187, 0, none⟩ (.int .u64 t182)).setCell ⟨gb187, 1, none⟩ (.slice Ao54 t183.length co54))) := ⟨by repeat (first | (with_reducible first | exact HB.out | apply below_alloc | apply pw_below_drewN | apply below_drew1 | refine below_set ?_ GE170.out | refine below_set ?_ GE187.out) | exact HB.out)⟩
             (try clear HO_171001)
             (try clear HO185)
             (try clear BK170)
             (try clear BK187)
             (try clear HB)
             generalize ((w51.setCell ⟨gb187, 0, none⟩ (.int .u64 t182)).setCell ⟨gb187, 1, none⟩ (.slice Ao54 t183.length co54)) = w62 at n0_ n1_ n2_ n3_ n4_ ⊢
             have HO_171001 := n0_
             have HO185 := n1_
             have BK170 := n2_
             have BK187 := n3_
             have HB := n4_
             clear n0_ n1_ n2_ n3_ n4_
             have n0_ := Aside0.mk (Kd.R_drew HO_171001.out)
             have n1_ := Aside0.mk (Kd.R_drew HO185.out)
             have n2_ := Aside0.mk (blk_drew BK170.out)
             have n3_ := Aside0.mk (blk_drew BK187.out)
             have n4_ := Aside0.mk (below_drew1 HB.out)
             clear HO_171001
             clear HO185
             clear BK170
             clear BK187
             clear HB
             have HO_171001 := n0_
             have HO185 := n1_
             have BK170 := n2_
             have BK187 := n3_
             have HB := n4_
             clear n0_ n1_ n2_ n3_ n4_
             refine start_ (n := 22) (S := fun w' => w'.cell? ⟨gb187, 0, none⟩ = some (.int .u64 t182) ∧ w'.cell? ⟨gb187, 1, none⟩ = some (.slice Ao54 t183.length co54) ∧ w'.cell? ⟨gb170, 0, none⟩ = some (.int .u64 x171000_2) ∧ w'.cell? ⟨gb170, 1, none⟩ = some (.slice Ao48 x171001_2.length co48)) (ds := []) #[false,false,false,false,false,false,false,false,false,false,false,false,false,false,false,false,false,false,false,false,false,false] (by kernel_rfl) rfl rfl ⟨(blk_cell BK187.out 0).trans rfl, (blk_cell BK187.out 1).trans rfl, (blk_cell BK170.out 0).trans rfl, (blk_cell BK170.out 1).trans rfl⟩ (fun hHeld => ?_); refine with_tabW tillrolllaw09_BbtBack.tab14 tillrolllaw09_BbtBack.bits14 (fun HT_ HW_ => ?_)
             generalize w62.drew = w63 at HO_171001 HO185 BK170 BK187 HB hHeld ⊢
             refine pure_ (i := 0) (N := some 69) (v := ?_) (a' := ?_) #[true,false,false,false,false,false,false,false,false,false,false,false,false,false,false,false,false,false,false,false,false,false] rfl rfl (any_of HT_.out (by kernel_rfl)) (fun _ _ _ h => h) (Or.inl ⟨by rfl, ?_⟩) ?_ ?_
             rotate_left
             · intro w'; go_simp; with_reducible rfl
             rotate_left
             · simp only [Act.put, sS, s0_, s1_, i64_w, i32_w]; rfl
             refine pure_ (i := 1) (N := some 70) (v := ?_) (a' := ?_) #[true,true,false,false,false,false,false,false,false,false,false,false,false,false,false,false,false,false,false,false,false,false] rfl rfl (any_of HT_.out (by kernel_rfl)) (fun _ _ _ h => h) (Or.inl ⟨by rfl, ?_⟩) ?_ ?_
             rotate_left
             · intro w'; go_simp; with_reducible rfl
             rotate_left
             · simp only [Act.put, sS, s0_, s1_, i64_w, i32_w]; rfl
             refine pure_ (i := 2) (N := some 71) (v := ?_) (a' := ?_) #[true,true,true,false,false,false,false,false,false,false,false,false,false,false,false,false,false,false,false,false,false,false] rfl rfl (any_of HT_.out (by kernel_rfl)) (fun _ _ _ h => h) (Or.inl ⟨by rfl, ?_⟩) ?_ ?_
             rotate_left
             · intro w'; go_simp; with_reducible rfl
             rotate_left
             · simp only [Act.put, sS, s0_, s1_, i64_w, i32_w]; rfl
             refine pure_ (i := 3) (N := some 72) (v := ?_) (a' := ?_) #[true,true,true,true,false,false,false,false,false,false,false,false,false,false,false,false,false,false,false,false,false,false] rfl rfl (any_of HT_.out (by kernel_rfl)) (fun _ _ _ h => h) (Or.inl ⟨by rfl, ?_⟩) ?_ ?_
             rotate_left
             · intro w'; go_simp; with_reducible rfl
             rotate_left
             · simp only [Act.put, sS, s0_, s1_, i64_w, i32_w]; rfl
             refine pure_ (i := 4) (N := some 73) (v := ?_) (a' := ?_) #[true,true,true,true,true,false,false,false,false,false,false,false,false,false,false,false,false,false,false,false,false,false] rfl rfl (any_of HT_.out (by kernel_rfl)) (fun _ _ _ h => h) (Or.inl ⟨by rfl, ?_⟩) ?_ ?_
             rotate_left
             · intro w'; go_simp; with_reducible rfl
             rotate_left
             · simp only [Act.put, sS, s0_, s1_, i64_w, i32_w]; rfl
             refine pure_ (i := 5) (N := some 74) (v := ?_) (a' := ?_) #[true,true,true,true,true,true,false,false,false,false,false,false,false,false,false,false,false,false,false,false,false,false] rfl rfl (any_of HT_.out (by kernel_rfl)) (fun _ _ _ h => h) (Or.inl ⟨by rfl, ?_⟩) ?_ ?_
             rotate_left
             · intro w'; go_simp; with_reducible rfl
             rotate_left
             · simp only [Act.put, sS, s0_, s1_, i64_w, i32_w]; rfl
             refine pure_ (i := 6) (N := some 75) (v := ?_) (a' := ?_) #[true,true,true,true,true,true,true,false,false,false,false,false,false,false,false,false,false,false,false,false,false,false] rfl rfl (any_of HT_.out (by kernel_rfl)) (fun _ _ _ h => h) (Or.inl ⟨by rfl, ?_⟩) ?_ ?_
             rotate_left
             · intro w'; go_simp; with_reducible rfl
             rotate_left
             · simp only [Act.put, sS, s0_, s1_, i64_w, i32_w]; rfl
             refine take_ (i := 7) (N := some 76) (v := ?_) (a' := ?_) #[true,true,true,true,true,true,true,true,false,false,false,false,false,false,false,false,false,false,false,false,false,false] rfl rfl (take_ofW HT_.out HW_.out (by kernel_rfl)) (fun _ _ _ h => h) (Or.inl ⟨by rfl, ?_⟩) hHeld ?_ ?_
             rotate_left
             ·
              rintro w' ⟨s0, s1, s2, s3⟩
              go_simp
              with_reducible rfl
             rotate_left
             · simp only [Act.put, sS, s0_, s1_, i64_w, i32_w]; rfl
             refine take_ (i := 9) (N := some 78) (v := ?_) (a' := ?_) #[true,true,true,true,true,true,true,true,false,true,false,false,false,false,false,false,false,false,false,false,false,false] rfl rfl (take_ofW HT_.out HW_.out (by kernel_rfl)) (fun _ _ _ h => h) (Or.inl ⟨by rfl, ?_⟩) hHeld ?_ ?_
             rotate_left
             ·
              rintro w' ⟨s0, s1, s2, s3⟩
              go_simp
              with_reducible rfl
             rotate_left
             · simp only [Act.put, sS, s0_, s1_, i64_w, i32_w]; rfl
             refine one_ (i := 8) (N := some 77) #[true,true,true,true,true,true,true,true,true,true,false,false,false,false,false,false,false,false,false,false,false,false] rfl rfl (one_of HT_.out (by kernel_rfl)) (by decide) (fun K hK => ?_)
             refine goes_ Try.func10 (by kernel_rfl) rfl #[.agg #[.int .u64 t182, .slice Ao54 t183.length co54]] (by rfl) rfl rfl (by (try simp only [List.map_toArray, List.map_cons, List.map_nil]); first | done | rfl | (simp only [List.length_drop, List.length_take]; rfl) | (simp only [ByteArray.size_append]; rfl) | (simp only [ByteArray.size_extract]; rfl)) ?_
             with_reducible refine (bbt_Table_Version.calls t182 _ _ t183 t188 _ ?side1 ?side2 A57.out).mono ?_
             (case side1 => repeat (first | exact (Kd.R_reads' HO185.out).2.2 | (with_reducible refine Kd.C_alloc ?_ _) | (with_reducible refine Kd.C_drewN ?_ _) | (with_reducible refine Kd.C_drew ?_)))
             (case side2 => exact (Kd.R_reads' HO185.out).2.1)
             rintro e w64 ⟨rfl, hb⟩
             refine ⟨_, rfl, ?_⟩
             have n0_ := Aside0.mk (Kd.R_below (by (with_reducible repeat (first | apply Kd.R_alloc | apply Kd.R_drewN | apply Kd.R_drew)); exact HO_171001.out) hb)
             have n1_ := Aside0.mk (Kd.R_below (by (with_reducible repeat (first | apply Kd.R_alloc | apply Kd.R_drewN | apply Kd.R_drew)); exact HO185.out) hb)
             have n2_ := Aside0.mk (blk_below (g := gb170) (o := .cells #[.int .u64 x171000_2, .slice Ao48 x171001_2.length co48] 26 (0, 0)) (by (with_reducible repeat (first | refine blk_drewN ?_ _ | refine blk_drew ?_ | refine blk_alloc ?_ _)); exact BK170.out) hb)
             have n3_ := Aside0.mk (blk_below (g := gb187) (o := .cells #[.int .u64 t182, .slice Ao54 t183.length co54] 26 (0, 0)) (by (with_reducible repeat (first | refine blk_drewN ?_ _ | refine blk_drew ?_ | refine blk_alloc ?_ _)); exact BK187.out) hb)
             have n4_ := Aside0.mk (below_step (by repeat (first | (with_reducible first | exact HB.out | apply below_alloc | apply pw_below_drewN | apply below_drew1 | refine below_set ?_ GE170.out | refine below_set ?_ GE187.out) | exact HB.out)) hb)
             clear HO_171001
             clear HO185
             clear BK170
             clear BK187
             clear HB
             have HO_171001 := n0_
             have HO185 := n1_
             have BK170 := n2_
             have BK187 := n3_
             have HB := n4_
             clear n0_ n1_ n2_ n3_ n4_
             (try clear hb)
             (try clear hb2)
             (try clear hk)
             (try clear hi)
             refine hK.out _ _ ⟨(blk_cell BK187.out 0).trans rfl, (blk_cell BK187.out 1).trans rfl, (blk_cell BK170.out 0).trans rfl, (blk_cell BK170.out 1).trans rfl⟩ (fun hHeld => ?_)
             clear hK K
             refine norm_ (a' := ?_) ?_ ?_
             rotate_left
             ·
              show Act.put _ (some 77) _ = _
              simp only [Act.put, sS, s0_, s1_, i64_w, i32_w]
              rfl
             refine one_ (i := 10) (N := some 79) #[true,true,true,true,true,true,true,true,true,true,true,false,false,false,false,false,false,false,false,false,false,false] rfl rfl (one_of HT_.out (by kernel_rfl)) (by decide) (fun K hK => ?_)
             refine goes_ Try.func10 (by kernel_rfl) rfl #[.agg #[.int .u64 x171000_2, .slice Ao48 x171001_2.length co48]] (by rfl) rfl rfl (by (try simp only [List.map_toArray, List.map_cons, List.map_nil]); first | done | rfl | (simp only [List.length_drop, List.length_take]; rfl) | (simp only [ByteArray.size_append]; rfl) | (simp only [ByteArray.size_extract]; rfl)) ?_
             with_reducible refine (bbt_Table_Version.calls x171000_2 _ _ x171001_2 t189 _ ?side1 ?side2 A58.out).mono ?_
             (case side1 => repeat (first | exact (Kd.R_reads' HO_171001.out).2.2 | (with_reducible refine Kd.C_alloc ?_ _) | (with_reducible refine Kd.C_drewN ?_ _) | (with_reducible refine Kd.C_drew ?_)))
             (case side2 => exact (Kd.R_reads' HO_171001.out).2.1)
             rintro e w65 ⟨rfl, hb⟩
             refine ⟨_, rfl, ?_⟩
             have n0_ := Aside0.mk (Kd.R_below (by (with_reducible repeat (first | apply Kd.R_alloc | apply Kd.R_drewN | apply Kd.R_drew)); exact HO_171001.out) hb)
             have n1_ := Aside0.mk (Kd.R_below (by (with_reducible repeat (first | apply Kd.R_alloc | apply Kd.R_drewN | apply Kd.R_drew)); exact HO185.out) hb)
             have n2_ := Aside0.mk (blk_below (g := gb170) (o := .cells #[.int .u64 x171000_2, .slice Ao48 x171001_2.length co48] 26 (0, 0)) (by (with_reducible repeat (first | refine blk_drewN ?_ _ | refine blk_drew ?_ | refine blk_alloc ?_ _)); exact BK170.out) hb)
             have n3_ := Aside0.mk (blk_below (g := gb187) (o := .cells #[.int .u64 t182, .slice Ao54 t183.length co54] 26 (0, 0)) (by (with_reducible repeat (first | refine blk_drewN ?_ _ | refine blk_drew ?_ | refine blk_alloc ?_ _)); exact BK187.out) hb)
             have n4_ := Aside0.mk (below_step (by repeat (first | (with_reducible first | exact HB.out | apply below_alloc | apply pw_below_drewN | apply below_drew1 | refine below_set ?_ GE170.out | refine below_set ?_ GE187.out) | exact HB.out)) hb)
             clear HO_171001
             clear HO185
             clear BK170
             clear BK187
             clear HB
             have HO_171001 := n0_
             have HO185 := n1_
             have BK170 := n2_
             have BK187 := n3_
             have HB := n4_
             clear n0_ n1_ n2_ n3_ n4_
             (try clear hb)
             (try clear hb2)
             (try clear hk)
             (try clear hi)
             refine hK.out _ _ ⟨(blk_cell BK187.out 0).trans rfl, (blk_cell BK187.out 1).trans rfl, (blk_cell BK170.out 0).trans rfl, (blk_cell BK170.out 1).trans rfl⟩ (fun hHeld => ?_)
             clear hK K
             refine norm_ (a' := ?_) ?_ ?_
             rotate_left
             ·
              show Act.put _ (some 79) _ = _
              simp only [Act.put, sS, s0_, s1_, i64_w, i32_w]
              rfl
             refine pure_ (i := 11) (N := some 80) (v := ?_) (a' := ?_) #[true,true,true,true,true,true,true,true,true,true,true,true,false,false,false,false,false,false,false,false,false,false] rfl rfl (any_of HT_.out (by kernel_rfl)) (fun _ _ _ h => h) (Or.inl ⟨by rfl, ?_⟩) ?_ ?_
             rotate_left
             · intro w'; go_simp; with_reducible rfl
             rotate_left
             · simp only [Act.put, sS, s0_, s1_, i64_w, i32_w]; rfl
             refine pure_ (i := 12) (N := some 81) (v := ?_) (a' := ?_) #[true,true,true,true,true,true,true,true,true,true,true,true,true,false,false,false,false,false,false,false,false,false] rfl rfl (any_of HT_.out (by kernel_rfl)) (fun _ _ _ h => h) (Or.inl ⟨by rfl, ?_⟩) ?_ ?_
             rotate_left
             · intro w'; go_simp; with_reducible rfl
             rotate_left
             · simp only [Act.put, sS, s0_, s1_, i64_w, i32_w]; rfl
             refine pure_ (i := 13) (N := some 82) (v := ?_) (a' := ?_) #[true,true,true,true,true,true,true,true,true,true,true,true,true,true,false,false,false,false,false,false,false,false] rfl rfl (any_of HT_.out (by kernel_rfl)) (fun _ _ _ h => h) (Or.inl ⟨by rfl, ?_⟩) ?_ ?_
             rotate_left
             · intro w'; go_simp; with_reducible rfl
             rotate_left
             · simp only [Act.put, sS, s0_, s1_, i64_w, i32_w]; rfl
             refine take_ (i := 14) (N := some 83) (v := ?_) (a' := ?_) #[true,true,true,true,true,true,true,true,true,true,true,true,true,true,true,false,false,false,false,false,false,false] rfl rfl (take_ofW HT_.out HW_.out (by kernel_rfl)) (fun _ _ _ h => h) (Or.inl ⟨by rfl, ?_⟩) hHeld ?_ ?_
             rotate_left
             ·
              rintro w' ⟨s0, s1, s2, s3⟩
              go_simp
              with_reducible rfl
             rotate_left
             · simp only [Act.put, sS, s0_, s1_, i64_w, i32_w]; rfl
             refine take_ (i := 17) (N := some 86) (v := ?_) (a' := ?_) #[true,true,true,true,true,true,true,true,true,true,true,true,true,true,true,false,false,true,false,false,false,false] rfl rfl (take_ofW HT_.out HW_.out (by kernel_rfl)) (fun _ _ _ h => h) (Or.inl ⟨by rfl, ?_⟩) hHeld ?_ ?_
             rotate_left
             ·
              rintro w' ⟨s0, s1, s2, s3⟩
              go_simp
              with_reducible rfl
             rotate_left
             · simp only [Act.put, sS, s0_, s1_, i64_w, i32_w]; rfl
             refine one_ (i := 15) (N := some 84) #[true,true,true,true,true,true,true,true,true,true,true,true,true,true,true,true,false,true,false,false,false,false] rfl rfl (one_of HT_.out (by kernel_rfl)) (by decide) (fun K hK => ?_)
             refine goes_ Try.func9 (by kernel_rfl) rfl #[.agg #[.int .u64 t182, .slice Ao54 t183.length co54]] (by rfl) rfl rfl (by (try simp only [List.map_toArray, List.map_cons, List.map_nil]); first | done | rfl | (simp only [List.length_drop, List.length_take]; rfl) | (simp only [ByteArray.size_append]; rfl) | (simp only [ByteArray.size_extract]; rfl)) ?_
             with_reducible refine (bbt_Table_List.calls k2 t182 _ _ t183 t190 _ ?side1 ?side2 A60.out).mono ?_
             (case side1 => repeat (first | exact (Kd.R_reads' HO185.out).2.2 | (with_reducible refine Kd.C_alloc ?_ _) | (with_reducible refine Kd.C_drewN ?_ _) | (with_reducible refine Kd.C_drew ?_)))
             (case side2 => exact (Kd.R_reads' HO185.out).2.1)
             rintro e w66 ⟨v191, rfl, ho0, hb⟩
             refine ⟨_, rfl, ?_⟩
             have n0_ := Aside0.mk (Kd.R_below (by (with_reducible repeat (first | apply Kd.R_alloc | apply Kd.R_drewN | apply Kd.R_drew)); exact HO_171001.out) hb)
             have n1_ := Aside0.mk (Kd.R_below (by (with_reducible repeat (first | apply Kd.R_alloc | apply Kd.R_drewN | apply Kd.R_drew)); exact HO185.out) hb)
             have n2_ := Aside0.mk (Kd.R_lower ho0 (below_size (by repeat (first | (with_reducible first | exact HB.out | apply below_alloc | apply pw_below_drewN | apply below_drew1 | refine below_set ?_ GE170.out | refine below_set ?_ GE187.out) | exact HB.out))))
             have n3_ := Aside0.mk (blk_below (g := gb170) (o := .cells #[.int .u64 x171000_2, .slice Ao48 x171001_2.length co48] 26 (0, 0)) (by (with_reducible repeat (first | refine blk_drewN ?_ _ | refine blk_drew ?_ | refine blk_alloc ?_ _)); exact BK170.out) hb)
             have n4_ := Aside0.mk (blk_below (g := gb187) (o := .cells #[.int .u64 t182, .slice Ao54 t183.length co54] 26 (0, 0)) (by (with_reducible repeat (first | refine blk_drewN ?_ _ | refine blk_drew ?_ | refine blk_alloc ?_ _)); exact BK187.out) hb)
             have n5_ := Aside0.mk (below_step (by repeat (first | (with_reducible first | exact HB.out | apply below_alloc | apply pw_below_drewN | apply below_drew1 | refine below_set ?_ GE170.out | refine below_set ?_ GE187.out) | exact HB.out)) hb)
             clear HO_171001
             clear HO185
             clear BK170
             clear BK187
             clear HB
             have HO_171001 := n0_
             have HO185 := n1_
             have HO192 := n2_
             have BK170 := n3_
             have BK187 := n4_
             have HB := n5_
             clear n0_ n1_ n2_ n3_ n4_ n5_
             (try clear hb)
             (try clear hb2)
             (try clear hk)
             (try clear hi)
             (try clear ho0)
             obtain ⟨Ao67, co67, eo67⟩ := Kd.R_slice HO192.out
             (first | subst eo67 | (injection eo67 with f1_ f2_ f3_; have f4_ := f1_.symm; have f5_ := f3_.symm; clear f1_ f2_ f3_; subst f4_; subst f5_))
             refine hK.out _ _ ⟨(blk_cell BK187.out 0).trans rfl, (blk_cell BK187.out 1).trans rfl, (blk_cell BK170.out 0).trans rfl, (blk_cell BK170.out 1).trans rfl⟩ (fun hHeld => ?_)
             clear hK K
             refine norm_ (a' := ?_) ?_ ?_
             rotate_left
             ·
              show Act.put _ (some 84) _ = _
              simp only [Act.put, sS, s0_, s1_, i64_w, i32_w]
              rfl
             refine pure_ (i := 16) (N := some 85) (v := ?_) (a' := ?_) #[true,true,true,true,true,true,true,true,true,true,true,true,true,true,true,true,true,true,false,false,false,false] rfl rfl (any_of HT_.out (by kernel_rfl)) (fun _ _ _ h => h) (Or.inl ⟨by rfl, ?_⟩) ?_ ?_
             rotate_left
             · intro w'; go_simp; with_reducible rfl
             rotate_left
             · simp only [Act.put, sS, s0_, s1_, i64_w, i32_w]; rfl
             refine one_ (i := 18) (N := some 87) #[true,true,true,true,true,true,true,true,true,true,true,true,true,true,true,true,true,true,true,false,false,false] rfl rfl (one_of HT_.out (by kernel_rfl)) (by decide) (fun K hK => ?_)
             refine goes_ Try.func9 (by kernel_rfl) rfl #[.agg #[.int .u64 x171000_2, .slice Ao48 x171001_2.length co48]] (by rfl) rfl rfl (by (try simp only [List.map_toArray, List.map_cons, List.map_nil]); first | done | rfl | (simp only [List.length_drop, List.length_take]; rfl) | (simp only [ByteArray.size_append]; rfl) | (simp only [ByteArray.size_extract]; rfl)) ?_
             with_reducible refine (bbt_Table_List.calls k2 x171000_2 _ _ x171001_2 t193 _ ?side1 ?side2 A61.out).mono ?_
             (case side1 => repeat (first | exact (Kd.R_reads' HO_171001.out).2.2 | (with_reducible refine Kd.C_alloc ?_ _) | (with_reducible refine Kd.C_drewN ?_ _) | (with_reducible refine Kd.C_drew ?_)))
             (case side2 => exact (Kd.R_reads' HO_171001.out).2.1)
             rintro e w68 ⟨v194, rfl, ho0, hb⟩
             refine ⟨_, rfl, ?_⟩
             have n0_ := Aside0.mk (Kd.R_below (by (with_reducible repeat (first | apply Kd.R_alloc | apply Kd.R_drewN | apply Kd.R_drew)); exact HO_171001.out) hb)
             have n1_ := Aside0.mk (Kd.R_below (by (with_reducible repeat (first | apply Kd.R_alloc | apply Kd.R_drewN | apply Kd.R_drew)); exact HO185.out) hb)
             have n2_ := Aside0.mk (Kd.R_elder' (by (with_reducible repeat (first | apply Kd.R_alloc | apply Kd.R_drewN | apply Kd.R_drew)); exact HO192.out) (Kd.R_base ho0) hb)
             have n3_ := Aside0.mk (Kd.R_lower (Kd.R_new' ho0 (Kd.R_lt (by (with_reducible repeat (first | apply Kd.R_alloc | apply Kd.R_drewN | apply Kd.R_drew)); exact HO192.out))) (below_size (by repeat (first | (with_reducible first | exact HB.out | apply below_alloc | apply pw_below_drewN | apply below_drew1 | refine below_set ?_ GE170.out | refine below_set ?_ GE187.out) | exact HB.out))))
             have n4_ := Aside0.mk (blk_below (g := gb170) (o := .cells #[.int .u64 x171000_2, .slice Ao48 x171001_2.length co48] 26 (0, 0)) (by (with_reducible repeat (first | refine blk_drewN ?_ _ | refine blk_drew ?_ | refine blk_alloc ?_ _)); exact BK170.out) hb)
             have n5_ := Aside0.mk (blk_below (g := gb187) (o := .cells #[.int .u64 t182, .slice Ao54 t183.length co54] 26 (0, 0)) (by (with_reducible repeat (first | refine blk_drewN ?_ _ | refine blk_drew ?_ | refine blk_alloc ?_ _)); exact BK187.out) hb)
             have n6_ := Aside0.mk (below_step (by repeat (first | (with_reducible first | exact HB.out | apply below_alloc | apply pw_below_drewN | apply below_drew1 | refine below_set ?_ GE170.out | refine below_set ?_ GE187.out) | exact HB.out)) hb)
             clear HO_171001
             clear HO185
             clear HO192
             clear BK170
             clear BK187
             clear HB
             have HO_171001 := n0_
             have HO185 := n1_
             have HO192 := n2_
             have HO195 := n3_
             have BK170 := n4_
             have BK187 := n5_
             have HB := n6_
             clear n0_ n1_ n2_ n3_ n4_ n5_ n6_
             (try clear hb)
             (try clear hb2)
             (try clear hk)
             (try clear hi)
             (try clear ho0)
             obtain ⟨Ao69, co69, eo69⟩ := Kd.R_slice HO195.out
             (first | subst eo69 | (injection eo69 with f1_ f2_ f3_; have f4_ := f1_.symm; have f5_ := f3_.symm; clear f1_ f2_ f3_; subst f4_; subst f5_))
             refine hK.out _ _ ⟨(blk_cell BK187.out 0).trans rfl, (blk_cell BK187.out 1).trans rfl, (blk_cell BK170.out 0).trans rfl, (blk_cell BK170.out 1).trans rfl⟩ (fun hHeld => ?_)
             clear hK K
             refine norm_ (a' := ?_) ?_ ?_
             rotate_left
             ·
              show Act.put _ (some 87) _ = _
              simp only [Act.put, sS, s0_, s1_, i64_w, i32_w]
              rfl
             refine pure_ (i := 19) (N := some 88) (v := ?_) (a' := ?_) #[true,true,true,true,true,true,true,true,true,true,true,true,true,true,true,true,true,true,true,true,false,false] rfl rfl (any_of HT_.out (by kernel_rfl)) (fun _ _ _ h => h) (Or.inl ⟨by rfl, ?_⟩) ?_ ?_
             rotate_left
             · intro w'; go_simp; with_reducible rfl
             rotate_left
             · simp only [Act.put, sS, s0_, s1_, i64_w, i32_w]; rfl
             refine pure_ (i := 20) (N := some 89) (v := ?_) (a' := ?_) #[true,true,true,true,true,true,true,true,true,true,true,true,true,true,true,true,true,true,true,true,true,false] rfl rfl (any_of HT_.out (by kernel_rfl)) (fun _ _ _ h => h) (Or.inl ⟨by rfl, ?_⟩) ?_ ?_
             rotate_left
             · intro w'; go_simp; with_reducible rfl
             rotate_left
             · simp only [Act.put, sS, s0_, s1_, i64_w, i32_w]; rfl
             refine pure_ (i := 21) (N := some 90) (v := ?_) (a' := ?_) #[true,true,true,true,true,true,true,true,true,true,true,true,true,true,true,true,true,true,true,true,true,true] rfl rfl (any_of HT_.out (by kernel_rfl)) (fun _ _ _ h => h) (Or.inl ⟨by rfl, ?_⟩) ?_ ?_
             rotate_left
             · intro w'; go_simp; with_reducible rfl
             rotate_left
             · simp only [Act.put, sS, s0_, s1_, i64_w, i32_w]; rfl
             refine done_ (done_of HT_.out (by kernel_rfl)) ?_
             try go_wp2
             go_meet
             case rel => exact ⟨_, (((t190.length : Int) != (t193.length : Int))), (by first | rfl | (simp; done) | (simp [*]; done)), H', ⟨by have := HJ4.out; have := HK2.out; first | omega | exact Nat.le_refl _⟩, ⟨by (with_reducible repeat (first | apply Kd.R_alloc | apply Kd.R_drewN | apply Kd.R_drew)); exact HO_171001.out⟩, ⟨by (with_reducible repeat (first | apply Kd.R_alloc | apply Kd.R_drewN | apply Kd.R_drew)); exact HO185.out⟩, ⟨by (with_reducible repeat (first | refine blk_drewN ?_ _ | refine blk_drew ?_ | refine blk_alloc ?_ _)); exact BK170.out⟩, ⟨by (with_reducible repeat (first | refine blk_drewN ?_ _ | refine blk_drew ?_ | refine blk_alloc ?_ _)); exact BK187.out⟩, ⟨by repeat (first | (with_reducible first | exact HB.out | apply below_alloc | apply pw_below_drewN | apply below_drew1 | refine below_set ?_ GE170.out | refine below_set ?_ GE187.out) | exact HB.out)⟩⟩
            ·
             rw [if_neg c59] at H
             have c59b0 : (t188 == t189) = false := beq_eq_false_iff_ne.mpr c59
             have c59b1 : (t188 != t189) = true := bne_iff_ne.mpr c59
             have H' := Aside0.mk H
             clear H
             try go_wp2
             have n0_ : Aside0 (Kd.R Kd.bool 4 ((w51.setCell ⟨gb187, 0, none⟩ (.int .u64 t182)).setCell ⟨gb187, 1, none⟩ (.slice Ao54 t183.length co54)) w.heap.size (fun k_ => some k_ ≠ (.slice Ao54 t183.length co54 : Value).ownBlock) (.slice Ao48 x171001_2.length co48) x171001_2) := ⟨by (with_reducible repeat (first | apply Kd.R_alloc | apply Kd.R_drewN | apply Kd.R_drew)); exact Kd.R_mono (Kd.R_far (p := ⟨gb187, 1, none⟩) (Kd.R_far (p := ⟨gb187, 0, none⟩) (Kd.R_types HO_171001.out BK187.out (by decide)) (fun _ hk => hk.2) (.int .u64 t182)) (fun _ hk => hk.2) (.slice Ao54 t183.length co54)) (fun _ hk => hk.1.2)⟩
             have n1_ : Aside0 (Kd.R Kd.bool 4 ((w51.setCell ⟨gb187, 0, none⟩ (.int .u64 t182)).setCell ⟨gb187, 1, none⟩ (.slice Ao54 t183.length co54)) w.heap.size (fun k_ => some k_ ≠ (.slice Ao48 x171001_2.length co48 : Value).ownBlock) (.slice Ao54 t183.length co54) t183) := ⟨by (with_reducible repeat (first | apply Kd.R_alloc | apply Kd.R_drewN | apply Kd.R_drew)); exact Kd.R_mono (Kd.R_far (p := ⟨gb187, 1, none⟩) (Kd.R_far (p := ⟨gb187, 0, none⟩) (Kd.R_types HO185.out BK187.out (by decide)) (fun _ hk => hk.2) (.int .u64 t182)) (fun _ hk => hk.2) (.slice Ao54 t183.length co54)) (fun _ hk => hk.1.2)⟩
             have n2_ : Aside0 (((w51.setCell ⟨gb187, 0, none⟩ (.int .u64 t182)).setCell ⟨gb187, 1, none⟩ (.slice Ao54 t183.length co54)).heap[gb170]? = some (.cells #[.int .u64 x171000_2, .slice Ao48 x171001_2.length co48] 26 (0, 0))) := ⟨by (with_reducible repeat (first | refine blk_drewN ?_ _ | refine blk_drew ?_ | refine blk_alloc ?_ _)); refine blk_far ?_ NB170_187.out _; (with_reducible repeat (first | refine blk_drewN ?_ _ | refine blk_drew ?_ | refine blk_alloc ?_ _)); refine blk_far ?_ NB170_187.out _; (with_reducible repeat (first | refine blk_drewN ?_ _ | refine blk_drew ?_ | refine blk_alloc ?_ _)); exact BK170.out⟩
             have n3_ : Aside0 (((w51.setCell ⟨gb187, 0, none⟩ (.int .u64 t182)).setCell ⟨gb187, 1, none⟩ (.slice Ao54 t183.length co54)).heap[gb187]? = some (.cells #[.int .u64 t182, .slice Ao54 t183.length co54] 26 (0, 0))) := ⟨by (with_reducible repeat (first | refine blk_drewN ?_ _ | refine blk_drew ?_ | refine blk_alloc ?_ _)); refine blk_put (cs := #[.int .u64 t182, .slice none 0 0]) ?_ 1 _ rfl; (with_reducible repeat (first | refine blk_drewN ?_ _ | refine blk_drew ?_ | refine blk_alloc ?_ _)); refine blk_put (cs := #[.int .u64 0, .slice none 0 0]) ?_ 0 _ rfl; (with_reducible repeat (first | refine blk_drewN ?_ _ | refine blk_drew ?_ | refine blk_alloc ?_ _)); exact BK187.out⟩
             have n4_ : Aside0 (Below w.heap.size w ((w51.setCell ⟨gb187, 0, none⟩ (.int .u64 t182)).setCell ⟨gb187, 1, none⟩ (.slice Ao54 t183.length co54))) := ⟨by repeat (first | (with_reducible first | exact HB.out | apply below_alloc | apply pw_below_drewN | apply below_drew1 | refine below_set ?_ GE170.out | refine below_set ?_ GE187.out) | exact HB.out)⟩
             (try clear HO_171001)
             (try clear HO185)
             (try clear BK170)
             (try clear BK187)
             (try clear HB)
             generalize ((w51.setCell ⟨gb187, 0, none⟩ (.int .u64 t182)).setCell ⟨gb187, 1, none⟩ (.slice Ao54 t183.length co54)) = w70 at n0_ n1_ n2_ n3_ n4_ ⊢
             have HO_171001 := n0_
             have HO185 := n1_
             have BK170 := n2_
             have BK187 := n3_
             have HB := n4_
             clear n0_ n1_ n2_ n3_ n4_
             have n0_ := Aside0.mk (Kd.R_drew HO_171001.out)
             have n1_ := Aside0.mk (Kd.R_drew HO185.out)
             have n2_ := Aside0.mk (blk_drew BK170.out)
             have n3_ := Aside0.mk (blk_drew BK187.out)
             have n4_ := Aside0.mk (below_drew1 HB.out)
             clear HO_171001
             clear HO185
             clear BK170
             clear BK187
             clear HB
             have HO_171001 := n0_
             have HO185 := n1_
             have BK170 := n2_
             have BK187 := n3_
             have HB := n4_
             clear n0_ n1_ n2_ n3_ n4_
             refine start_ (n := 22) (S := fun w' => w'.cell? ⟨gb187, 0, none⟩ = some (.int .u64 t182) ∧ w'.cell? ⟨gb187, 1, none⟩ = some (.slice Ao54 t183.length co54) ∧ w'.cell? ⟨gb170, 0, none⟩ = some (.int .u64 x171000_2) ∧ w'.cell? ⟨gb170, 1, none⟩ = some (.slice Ao48 x171001_2.length co48)) (ds := []) #[false,false,false,false,false,false,false,false,false,false,false,false,false,false,false,false,false,false,false,false,false,false] (by kernel_rfl) rfl rfl ⟨(blk_cell BK187.out 0).trans rfl, (blk_cell BK187.out 1).trans rfl, (blk_cell BK170.out 0).trans rfl, (blk_cell BK170.out 1).trans rfl⟩ (fun hHeld => ?_); refine with_tabW tillrolllaw09_BbtBack.tab14 tillrolllaw09_BbtBack.bits14 (fun HT_ HW_ => ?_)
             generalize w70.drew = w71 at HO_171001 HO185 BK170 BK187 HB hHeld ⊢
             refine pure_ (i := 0) (N := some 69) (v := ?_) (a' := ?_) #[true,false,false,false,false,false,false,false,false,false,false,false,false,false,false,false,false,false,false,false,false,false] rfl rfl (any_of HT_.out (by kernel_rfl)) (fun _ _ _ h => h) (Or.inl ⟨by rfl, ?_⟩) ?_ ?_
             rotate_left
             · intro w'; go_simp; with_reducible rfl
             rotate_left
             · simp only [Act.put, sS, s0_, s1_, i64_w, i32_w]; rfl
             refine pure_ (i := 1) (N := some 70) (v := ?_) (a' := ?_) #[true,true,false,false,false,false,false,false,false,false,false,false,false,false,false,false,false,false,false,false,false,false] rfl rfl (any_of HT_.out (by kernel_rfl)) (fun _ _ _ h => h) (Or.inl ⟨by rfl, ?_⟩) ?_ ?_
             rotate_left
             · intro w'; go_simp; with_reducible rfl
             rotate_left
             · simp only [Act.put, sS, s0_, s1_, i64_w, i32_w]; rfl
             refine pure_ (i := 2) (N := some 71) (v := ?_) (a' := ?_) #[true,true,true,false,false,false,false,false,false,false,false,false,false,false,false,false,false,false,false,false,false,false] rfl rfl (any_of HT_.out (by kernel_rfl)) (fun _ _ _ h => h) (Or.inl ⟨by rfl, ?_⟩) ?_ ?_
             rotate_left
             · intro w'; go_simp; with_reducible rfl
             rotate_left
             · simp only [Act.put, sS, s0_, s1_, i64_w, i32_w]; rfl
             refine pure_ (i := 3) (N := some 72) (v := ?_) (a' := ?_) #[true,true,true,true,false,false,false,false,false,false,false,false,false,false,false,false,false,false,false,false,false,false] rfl rfl (any_of HT_.out (by kernel_rfl)) (fun _ _ _ h => h) (Or.inl ⟨by rfl, ?_⟩) ?_ ?_
             rotate_left
             · intro w'; go_simp; with_reducible rfl
             rotate_left
             · simp only [Act.put, sS, s0_, s1_, i64_w, i32_w]; rfl
             refine pure_ (i := 4) (N := some 73) (v := ?_) (a' := ?_) #[true,true,true,true,true,false,false,false,false,false,false,false,false,false,false,false,false,false,false,false,false,false] rfl rfl (any_of HT_.out (by kernel_rfl)) (fun _ _ _ h => h) (Or.inl ⟨by rfl, ?_⟩) ?_ ?_
             rotate_left
             · intro w'; go_simp; with_reducible rfl
             rotate_left
             · simp only [Act.put, sS, s0_, s1_, i64_w, i32_w]; rfl
             refine pure_ (i := 5) (N := some 74) (v := ?_) (a' := ?_) #[true,true,true,true,true,true,false,false,false,false,false,false,false,false,false,false,false,false,false,false,false,false] rfl rfl (any_of HT_.out (by kernel_rfl)) (fun _ _ _ h => h) (Or.inl ⟨by rfl, ?_⟩) ?_ ?_
             rotate_left
             · intro w'; go_simp; with_reducible rfl
             rotate_left
             · simp only [Act.put, sS, s0_, s1_, i64_w, i32_w]; rfl
             refine pure_ (i := 6) (N := some 75) (v := ?_) (a' := ?_) #[true,true,true,true,true,true,true,false,false,false,false,false,false,false,false,false,false,false,false,false,false,false] rfl rfl (any_of HT_.out (by kernel_rfl)) (fun _ _ _ h => h) (Or.inl ⟨by rfl, ?_⟩) ?_ ?_
             rotate_left
             · intro w'; go_simp; with_reducible rfl
             rotate_left
             · simp only [Act.put, sS, s0_, s1_, i64_w, i32_w]; rfl
             refine take_ (i := 7) (N := some 76) (v := ?_) (a' := ?_) #[true,true,true,true,true,true,true,true,false,false,false,false,false,false,false,false,false,false,false,false,false,false] rfl rfl (take_ofW HT_.out HW_.out (by kernel_rfl)) (fun _ _ _ h => h) (Or.inl ⟨by rfl, ?_⟩) hHeld ?_ ?_
             rotate_left
             ·
              rintro w' ⟨s0, s1, s2, s3⟩
              go_simp
              with_reducible rfl
             rotate_left
             · simp only [Act.put, sS, s0_, s1_, i64_w, i32_w]; rfl
             refine take_ (i := 9) (N := some 78) (v := ?_) (a' := ?_) #[true,true,true,true,true,true,true,true,false,true,false,false,false,false,false,false,false,false,false,false,false,false] rfl rfl (take_ofW HT_.out HW_.out (by kernel_rfl)) (fun _ _ _ h => h) (Or.inl ⟨by rfl, ?_⟩) hHeld ?_ ?_
             rotate_left
             ·
              rintro w' ⟨s0, s1, s2, s3⟩
              go_simp
              with_reducible rfl
             rotate_left
             · simp only [Act.put, sS, s0_, s1_, i64_w, i32_w]; rfl
             refine one_ (i := 8) (N := some 77) #[true,true,true,true,true,true,true,true,true,true,false,false,false,false,false,false,false,false,false,false,false,false] rfl rfl (one_of HT_.out (by kernel_rfl)) (by decide) (fun K hK => ?_)
             refine goes_ Try.func10 (by kernel_rfl) rfl #[.agg #[.int .u64 t182, .slice Ao54 t183.length co54]] (by rfl) rfl rfl (by (try simp only [List.map_toArray, List.map_cons, List.map_nil]); first | done | rfl | (simp only [List.length_drop, List.length_take]; rfl) | (simp only [ByteArray.size_append]; rfl) | (simp only [ByteArray.size_extract]; rfl)) ?_
             with_reducible refine (bbt_Table_Version.calls t182 _ _ t183 t188 _ ?side1 ?side2 A57.out).mono ?_
             (case side1 => repeat (first | exact (Kd.R_reads' HO185.out).2.2 | (with_reducible refine Kd.C_alloc ?_ _) | (with_reducible refine Kd.C_drewN ?_ _) | (with_reducible refine Kd.C_drew ?_)))
             (case side2 => exact (Kd.R_reads' HO185.out).2.1)
             rintro e w72 ⟨rfl, hb⟩
             refine ⟨_, rfl, ?_⟩
             have n0_ := Aside0.mk (Kd.R_below (by (with_reducible repeat (first | apply Kd.R_alloc | apply Kd.R_drewN | apply Kd.R_drew)); exact HO_171001.out) hb)
             have n1_ := Aside0.mk (Kd.R_below (by (with_reducible repeat (first | apply Kd.R_alloc | apply Kd.R_drewN | apply Kd.R_drew)); exact HO185.out) hb)
             have n2_ := Aside0.mk (blk_below (g := gb170) (o := .cells #[.int .u64 x171000_2, .slice Ao48 x171001_2.length co48] 26 (0, 0)) (by (with_reducible repeat (first | refine blk_drewN ?_ _ | refine blk_drew ?_ | refine blk_alloc ?_ _)); exact BK170.out) hb)
             have n3_ := Aside0.mk (blk_below (g := gb187) (o := .cells #[.int .u64 t182, .slice Ao54 t183.length co54] 26 (0, 0)) (by (with_reducible repeat (first | refine blk_drewN ?_ _ | refine blk_drew ?_ | refine blk_alloc ?_ _)); exact BK187.out) hb)
             have n4_ := Aside0.mk (below_step (by repeat (first | (with_reducible first | exact HB.out | apply below_alloc | apply pw_below_drewN | apply below_drew1 | refine below_set ?_ GE170.out | refine below_set ?_ GE187.out) | exact HB.out)) hb)
             clear HO_171001
             clear HO185
             clear BK170
             clear BK187
             clear HB
             have HO_171001 := n0_
             have HO185 := n1_
             have BK170 := n2_
             have BK187 := n3_
             have HB := n4_
             clear n0_ n1_ n2_ n3_ n4_
             (try clear hb)
             (try clear hb2)
             (try clear hk)
             (try clear hi)
             refine hK.out _ _ ⟨(blk_cell BK187.out 0).trans rfl, (blk_cell BK187.out 1).trans rfl, (blk_cell BK170.out 0).trans rfl, (blk_cell BK170.out 1).trans rfl⟩ (fun hHeld => ?_)
             clear hK K
             refine norm_ (a' := ?_) ?_ ?_
             rotate_left
             ·
              show Act.put _ (some 77) _ = _
              simp only [Act.put, sS, s0_, s1_, i64_w, i32_w]
              rfl
             refine one_ (i := 10) (N := some 79) #[true,true,true,true,true,true,true,true,true,true,true,false,false,false,false,false,false,false,false,false,false,false] rfl rfl (one_of HT_.out (by kernel_rfl)) (by decide) (fun K hK => ?_)
             refine goes_ Try.func10 (by kernel_rfl) rfl #[.agg #[.int .u64 x171000_2, .slice Ao48 x171001_2.length co48]] (by rfl) rfl rfl (by (try simp only [List.map_toArray, List.map_cons, List.map_nil]); first | done | rfl | (simp only [List.length_drop, List.length_take]; rfl) | (simp only [ByteArray.size_append]; rfl) | (simp only [ByteArray.size_extract]; rfl)) ?_
             with_reducible refine (bbt_Table_Version.calls x171000_2 _ _ x171001_2 t189 _ ?side1 ?side2 A58.out).mono ?_
             (case side1 => repeat (first | exact (Kd.R_reads' HO_171001.out).2.2 | (with_reducible refine Kd.C_alloc ?_ _) | (with_reducible refine Kd.C_drewN ?_ _) | (with_reducible refine Kd.C_drew ?_)))
             (case side2 => exact (Kd.R_reads' HO_171001.out).2.1)
             rintro e w73 ⟨rfl, hb⟩
             refine ⟨_, rfl, ?_⟩
             have n0_ := Aside0.mk (Kd.R_below (by (with_reducible repeat (first | apply Kd.R_alloc | apply Kd.R_drewN | apply Kd.R_drew)); exact HO_171001.out) hb)
             have n1_ := Aside0.mk (Kd.R_below (by (with_reducible repeat (first | apply Kd.R_alloc | apply Kd.R_drewN | apply Kd.R_drew)); exact HO185.out) hb)
             have n2_ := Aside0.mk (blk_below (g := gb170) (o := .cells #[.int .u64 x171000_2, .slice Ao48 x171001_2.length co48] 26 (0, 0)) (by (with_reducible repeat (first | refine blk_drewN ?_ _ | refine blk_drew ?_ | refine blk_alloc ?_ _)); exact BK170.out) hb)
             have n3_ := Aside0.mk (blk_below (g := gb187) (o := .cells #[.int .u64 t182, .slice Ao54 t183.length co54] 26 (0, 0)) (by (with_reducible repeat (first | refine blk_drewN ?_ _ | refine blk_drew ?_ | refine blk_alloc ?_ _)); exact BK187.out) hb)
             have n4_ := Aside0.mk (below_step (by repeat (first | (with_reducible first | exact HB.out | apply below_alloc | apply pw_below_drewN | apply below_drew1 | refine below_set ?_ GE170.out | refine below_set ?_ GE187.out) | exact HB.out)) hb)
             clear HO_171001
             clear HO185
             clear BK170
             clear BK187
             clear HB
             have HO_171001 := n0_
             have HO185 := n1_
             have BK170 := n2_
             have BK187 := n3_
             have HB := n4_
             clear n0_ n1_ n2_ n3_ n4_
             (try clear hb)
             (try clear hb2)
             (try clear hk)
             (try clear hi)
             refine hK.out _ _ ⟨(blk_cell BK187.out 0).trans rfl, (blk_cell BK187.out 1).trans rfl, (blk_cell BK170.out 0).trans rfl, (blk_cell BK170.out 1).trans rfl⟩ (fun hHeld => ?_)
             clear hK K
             refine norm_ (a' := ?_) ?_ ?_
             rotate_left
             ·
              show Act.put _ (some 79) _ = _
              simp only [Act.put, sS, s0_, s1_, i64_w, i32_w]
              rfl
             refine pure_ (i := 11) (N := some 80) (v := ?_) (a' := ?_) #[true,true,true,true,true,true,true,true,true,true,true,true,false,false,false,false,false,false,false,false,false,false] rfl rfl (any_of HT_.out (by kernel_rfl)) (fun _ _ _ h => h) (Or.inl ⟨by rfl, ?_⟩) ?_ ?_
             rotate_left
             · intro w'; go_simp; with_reducible rfl
             rotate_left
             · simp only [Act.put, sS, s0_, s1_, i64_w, i32_w]; rfl
             refine pure_ (i := 12) (N := some 81) (v := ?_) (a' := ?_) #[true,true,true,true,true,true,true,true,true,true,true,true,true,false,false,false,false,false,false,false,false,false] rfl rfl (any_of HT_.out (by kernel_rfl)) (fun _ _ _ h => h) (Or.inl ⟨by rfl, ?_⟩) ?_ ?_
             rotate_left
             · intro w'; go_simp; with_reducible rfl
             rotate_left
             · simp only [Act.put, sS, s0_, s1_, i64_w, i32_w]; rfl
             refine pure_ (i := 13) (N := some 82) (v := ?_) (a' := ?_) #[true,true,true,true,true,true,true,true,true,true,true,true,true,true,false,false,false,false,false,false,false,false] rfl rfl (any_of HT_.out (by kernel_rfl)) (fun _ _ _ h => h) (Or.inl ⟨by rfl, ?_⟩) ?_ ?_
             rotate_left
             · intro w'; go_simp; with_reducible rfl
             rotate_left
             · simp only [Act.put, sS, s0_, s1_, i64_w, i32_w]; rfl
             refine pure_ (i := 14) (N := some 83) (v := undef) (a' := ?_) #[true,true,true,true,true,true,true,true,true,true,true,true,true,true,true,false,false,false,false,false,false,false] rfl rfl (any_of HT_.out (by kernel_rfl)) (fun _ _ _ h => h) (Or.inr ⟨by rfl, rfl⟩) ?_ ?_
             rotate_left
             · simp only [Act.put, sS, s0_, s1_, i64_w, i32_w]; rfl
             refine pure_ (i := 15) (N := some 84) (v := undef) (a' := ?_) #[true,true,true,true,true,true,true,true,true,true,true,true,true,true,true,true,false,false,false,false,false,false] rfl rfl (any_of HT_.out (by kernel_rfl)) (fun _ _ _ h => h) (Or.inr ⟨by rfl, rfl⟩) ?_ ?_
             rotate_left
             · simp only [Act.put, sS, s0_, s1_, i64_w, i32_w]; rfl
             refine pure_ (i := 16) (N := some 85) (v := undef) (a' := ?_) #[true,true,true,true,true,true,true,true,true,true,true,true,true,true,true,true,true,false,false,false,false,false] rfl rfl (any_of HT_.out (by kernel_rfl)) (fun _ _ _ h => h) (Or.inr ⟨by rfl, rfl⟩) ?_ ?_
             rotate_left
             · simp only [Act.put, sS, s0_, s1_, i64_w, i32_w]; rfl
             refine pure_ (i := 17) (N := some 86) (v := undef) (a' := ?_) #[true,true,true,true,true,true,true,true,true,true,true,true,true,true,true,true,true,true,false,false,false,false] rfl rfl (any_of HT_.out (by kernel_rfl)) (fun _ _ _ h => h) (Or.inr ⟨by rfl, rfl⟩) ?_ ?_
             rotate_left
             · simp only [Act.put, sS, s0_, s1_, i64_w, i32_w]; rfl
             refine pure_ (i := 18) (N := some 87) (v := undef) (a' := ?_) #[true,true,true,true,true,true,true,true,true,true,true,true,true,true,true,true,true,true,true,false,false,false] rfl rfl (any_of HT_.out (by kernel_rfl)) (fun _ _ _ h => h) (Or.inr ⟨by rfl, rfl⟩) ?_ ?_
             rotate_left
             · simp only [Act.put, sS, s0_, s1_, i64_w, i32_w]; rfl
             refine pure_ (i := 19) (N := some 88) (v := undef) (a' := ?_) #[true,true,true,true,true,true,true,true,true,true,true,true,true,true,true,true,true,true,true,true,false,false] rfl rfl (any_of HT_.out (by kernel_rfl)) (fun _ _ _ h => h) (Or.inr ⟨by rfl, rfl⟩) ?_ ?_
             rotate_left
             · simp only [Act.put, sS, s0_, s1_, i64_w, i32_w]; rfl
             refine pure_ (i := 20) (N := some 89) (v := undef) (a' := ?_) #[true,true,true,true,true,true,true,true,true,true,true,true,true,true,true,true,true,true,true,true,true,false] rfl rfl (any_of HT_.out (by kernel_rfl)) (fun _ _ _ h => h) (Or.inr ⟨by rfl, rfl⟩) ?_ ?_
             rotate_left
             · simp only [Act.put, sS, s0_, s1_, i64_w, i32_w]; rfl
             refine pure_ (i := 21) (N := some 90) (v := ?_) (a' := ?_) #[true,true,true,true,true,true,true,true,true,true,true,true,true,true,true,true,true,true,true,true,true,true] rfl rfl (any_of HT_.out (by kernel_rfl)) (fun _ _ _ h => h) (Or.inl ⟨by rfl, ?_⟩) ?_ ?_
             rotate_left
             · intro w'; go_simp; with_reducible rfl
             rotate_left
             · simp only [Act.put, sS, s0_, s1_, i64_w, i32_w]; rfl
             refine done_ (done_of HT_.out (by kernel_rfl)) ?_
             try go_wp2
             go_meet
             case rel => exact ⟨_, (true), (by first | rfl | (simp; done) | (simp [*]; done)), H', ⟨by have := HJ4.out; have := HK2.out; first | omega | exact Nat.le_refl _⟩, ⟨by (with_reducible repeat (first | apply Kd.R_alloc | apply Kd.R_drewN | apply Kd.R_drew)); exact HO_171001.out⟩, ⟨by (with_reducible repeat (first | apply Kd.R_alloc | apply Kd.R_drewN | apply Kd.R_drew)); exact HO185.out⟩, ⟨by (with_reducible repeat (first | refine blk_drewN ?_ _ | refine blk_drew ?_ | refine blk_alloc ?_ _)); exact BK170.out⟩, ⟨by (with_reducible repeat (first | refine blk_drewN ?_ _ | refine blk_drew ?_ | refine blk_alloc ?_ _)); exact BK187.out⟩, ⟨by repeat (first | (with_reducible first | exact HB.out | apply below_alloc | apply pw_below_drewN | apply below_drew1 | refine below_set ?_ GE170.out | refine below_set ?_ GE187.out) | exact HB.out)⟩⟩
           ·
            rw [if_neg c56] at H
            have c56b0 : (t186 == 0) = false := beq_eq_false_iff_ne.mpr c56
            have c56b1 : (t186 != 0) = true := bne_iff_ne.mpr c56
            have H' := Aside0.mk H
            clear H
            try go_wp2
            have n0_ : Aside0 (Kd.R Kd.bool 4 ((w51.setCell ⟨gb187, 0, none⟩ (.int .u64 t182)).setCell ⟨gb187, 1, none⟩ (.slice Ao54 t183.length co54)) w.heap.size (fun k_ => some k_ ≠ (.slice Ao54 t183.length co54 : Value).ownBlock) (.slice Ao48 x171001_2.length co48) x171001_2) := ⟨by (with_reducible repeat (first | apply Kd.R_alloc | apply Kd.R_drewN | apply Kd.R_drew)); exact Kd.R_mono (Kd.R_far (p := ⟨gb187, 1, none⟩) (Kd.R_far (p := ⟨gb187, 0, none⟩) (Kd.R_types HO_171001.out BK187.out (by decide)) (fun _ hk => hk.2) (.int .u64 t182)) (fun _ hk => hk.2) (.slice Ao54 t183.length co54)) (fun _ hk => hk.1.2)⟩
            have n1_ : Aside0 (Kd.R Kd.bool 4 ((w51.setCell ⟨gb187, 0, none⟩ (.int .u64 t182)).setCell ⟨gb187, 1, none⟩ (.slice Ao54 t183.length co54)) w.heap.size (fun k_ => some k_ ≠ (.slice Ao48 x171001_2.length co48 : Value).ownBlock) (.slice Ao54 t183.length co54) t183) := ⟨by (with_reducible repeat (first | apply Kd.R_alloc | apply Kd.R_drewN | apply Kd.R_drew)); exact Kd.R_mono (Kd.R_far (p := ⟨gb187, 1, none⟩) (Kd.R_far (p := ⟨gb187, 0, none⟩) (Kd.R_types HO185.out BK187.out (by decide)) (fun _ hk => hk.2) (.int .u64 t182)) (fun _ hk => hk.2) (.slice Ao54 t183.length co54)) (fun _ hk => hk.1.2)⟩
            have n2_ : Aside0 (((w51.setCell ⟨gb187, 0, none⟩ (.int .u64 t182)).setCell ⟨gb187, 1, none⟩ (.slice Ao54 t183.length co54)).heap[gb170]? = some (.cells #[.int .u64 x171000_2, .slice Ao48 x171001_2.length co48] 26 (0, 0))) := ⟨by (with_reducible repeat (first | refine blk_drewN ?_ _ | refine blk_drew ?_ | refine blk_alloc ?_ _)); refine blk_far ?_ NB170_187.out _; (with_reducible repeat (first | refine blk_drewN ?_ _ | refine blk_drew ?_ | refine blk_alloc ?_ _)); refine blk_far ?_ NB170_187.out _; (with_reducible repeat (first | refine blk_drewN ?_ _ | refine blk_drew ?_ | refine blk_alloc ?_ _)); exact BK170.out⟩
            have n3_ : Aside0 (((w51.setCell ⟨gb187, 0, none⟩ (.int .u64 t182)).setCell ⟨gb187, 1, none⟩ (.slice Ao54 t183.length co54)).heap[gb187]? = some (.cells #[.int .u64 t182, .slice Ao54 t183.length co54] 26 (0, 0))) := ⟨by (with_reducible repeat (first | refine blk_drewN ?_ _ | refine blk_drew ?_ | refine blk_alloc ?_ _)); refine blk_put (cs := #[.int .u64 t182, .slice none 0 0]) ?_ 1 _ rfl; (with_reducible repeat (first | refine blk_drewN ?_ _ | refine blk_drew ?_ | refine blk_alloc ?_ _)); refine blk_put (cs := #[.int .u64 0, .slice none 0 0]) ?_ 0 _ rfl; (with_reducible repeat (first | refine blk_drewN ?_ _ | refine blk_drew ?_ | refine blk_alloc ?_ _)); exact BK187.out⟩
            have n4_ : Aside0 (Below w.heap.size w ((w51.setCell ⟨gb187, 0, none⟩ (.int .u64 t182)).setCell ⟨gb187, 1, none⟩ (.slice Ao54 t183.length co54))) := ⟨by repeat (first | (with_reducible first | exact HB.out | apply below_alloc | apply pw_below_drewN | apply below_drew1 | refine below_set ?_ GE170.out | refine below_set ?_ GE187.out) | exact HB.out)⟩
            (try clear HO_171001)
            (try clear HO185)
            (try clear BK170)
            (try clear BK187)
            (try clear HB)
            generalize ((w51.setCell ⟨gb187, 0, none⟩ (.int .u64 t182)).setCell ⟨gb187, 1, none⟩ (.slice Ao54 t183.length co54)) = w74 at n0_ n1_ n2_ n3_ n4_ ⊢
            have HO_171001 := n0_
            have HO185 := n1_
            have BK170 := n2_
            have BK187 := n3_
            have HB := n4_
            clear n0_ n1_ n2_ n3_ n4_
            have n0_ := Aside0.mk (Kd.R_drew HO_171001.out)
            have n1_ := Aside0.mk (Kd.R_drew HO185.out)
            have n2_ := Aside0.mk (blk_drew BK170.out)
            have n3_ := Aside0.mk (blk_drew BK187.out)
            have n4_ := Aside0.mk (below_drew1 HB.out)
            clear HO_171001
            clear HO185
            clear BK170
            clear BK187
            clear HB
            have HO_171001 := n0_
            have HO185 := n1_
            have BK170 := n2_
            have BK187 := n3_
            have HB := n4_
            clear n0_ n1_ n2_ n3_ n4_
            refine start_ (n := 22) (S := fun w' => True) (ds := []) #[false,false,false,false,false,false,false,false,false,false,false,false,false,false,false,false,false,false,false,false,false,false] (by kernel_rfl) rfl rfl trivial (fun hHeld => ?_); refine with_tabW tillrolllaw09_BbtBack.tab14 tillrolllaw09_BbtBack.bits14 (fun HT_ HW_ => ?_)
            generalize w74.drew = w75 at HO_171001 HO185 BK170 BK187 HB hHeld ⊢
            refine pure_ (i := 0) (N := some 69) (v := ?_) (a' := ?_) #[true,false,false,false,false,false,false,false,false,false,false,false,false,false,false,false,false,false,false,false,false,false] rfl rfl (any_of HT_.out (by kernel_rfl)) (fun _ _ _ h => h) (Or.inl ⟨by rfl, ?_⟩) ?_ ?_
            rotate_left
            · intro w'; go_simp; with_reducible rfl
            rotate_left
            · simp only [Act.put, sS, s0_, s1_, i64_w, i32_w]; rfl
            refine pure_ (i := 1) (N := some 70) (v := ?_) (a' := ?_) #[true,true,false,false,false,false,false,false,false,false,false,false,false,false,false,false,false,false,false,false,false,false] rfl rfl (any_of HT_.out (by kernel_rfl)) (fun _ _ _ h => h) (Or.inl ⟨by rfl, ?_⟩) ?_ ?_
            rotate_left
            · intro w'; go_simp; with_reducible rfl
            rotate_left
            · simp only [Act.put, sS, s0_, s1_, i64_w, i32_w]; rfl
            refine pure_ (i := 2) (N := some 71) (v := ?_) (a' := ?_) #[true,true,true,false,false,false,false,false,false,false,false,false,false,false,false,false,false,false,false,false,false,false] rfl rfl (any_of HT_.out (by kernel_rfl)) (fun _ _ _ h => h) (Or.inl ⟨by rfl, ?_⟩) ?_ ?_
            rotate_left
            · intro w'; go_simp; with_reducible rfl
            rotate_left
            · simp only [Act.put, sS, s0_, s1_, i64_w, i32_w]; rfl
            refine pure_ (i := 3) (N := some 72) (v := ?_) (a' := ?_) #[true,true,true,true,false,false,false,false,false,false,false,false,false,false,false,false,false,false,false,false,false,false] rfl rfl (any_of HT_.out (by kernel_rfl)) (fun _ _ _ h => h) (Or.inl ⟨by rfl, ?_⟩) ?_ ?_
            rotate_left
            · intro w'; go_simp; with_reducible rfl
            rotate_left
            · simp only [Act.put, sS, s0_, s1_, i64_w, i32_w]; rfl
            refine pure_ (i := 4) (N := some 73) (v := ?_) (a' := ?_) #[true,true,true,true,true,false,false,false,false,false,false,false,false,false,false,false,false,false,false,false,false,false] rfl rfl (any_of HT_.out (by kernel_rfl)) (fun _ _ _ h => h) (Or.inl ⟨by rfl, ?_⟩) ?_ ?_
            rotate_left
            · intro w'; go_simp; with_reducible rfl
            rotate_left
            · simp only [Act.put, sS, s0_, s1_, i64_w, i32_w]; rfl
            refine pure_ (i := 5) (N := some 74) (v := ?_) (a' := ?_) #[true,true,true,true,true,true,false,false,false,false,false,false,false,false,false,false,false,false,false,false,false,false] rfl rfl (any_of HT_.out (by kernel_rfl)) (fun _ _ _ h => h) (Or.inl ⟨by rfl, ?_⟩) ?_ ?_
            rotate_left
            · intro w'; go_simp; with_reducible rfl
            rotate_left
            · simp only [Act.put, sS, s0_, s1_, i64_w, i32_w]; rfl
            refine pure_ (i := 6) (N := some 75) (v := ?_) (a' := ?_) #[true,true,true,true,true,true,true,false,false,false,false,false,false,false,false,false,false,false,false,false,false,false] rfl rfl (any_of HT_.out (by kernel_rfl)) (fun _ _ _ h => h) (Or.inl ⟨by rfl, ?_⟩) ?_ ?_
            rotate_left
            · intro w'; go_simp; with_reducible rfl
            rotate_left
            · simp only [Act.put, sS, s0_, s1_, i64_w, i32_w]; rfl
            refine pure_ (i := 7) (N := some 76) (v := undef) (a' := ?_) #[true,true,true,true,true,true,true,true,false,false,false,false,false,false,false,false,false,false,false,false,false,false] rfl rfl (any_of HT_.out (by kernel_rfl)) (fun _ _ _ h => h) (Or.inr ⟨by rfl, rfl⟩) ?_ ?_
            rotate_left
            · simp only [Act.put, sS, s0_, s1_, i64_w, i32_w]; rfl
            refine pure_ (i := 8) (N := some 77) (v := undef) (a' := ?_) #[true,true,true,true,true,true,true,true,true,false,false,false,false,false,false,false,false,false,false,false,false,false] rfl rfl (any_of HT_.out (by kernel_rfl)) (fun _ _ _ h => h) (Or.inr ⟨by rfl, rfl⟩) ?_ ?_
            rotate_left
            · simp only [Act.put, sS, s0_, s1_, i64_w, i32_w]; rfl
            refine pure_ (i := 9) (N := some 78) (v := undef) (a' := ?_) #[true,true,true,true,true,true,true,true,true,true,false,false,false,false,false,false,false,false,false,false,false,false] rfl rfl (any_of HT_.out (by kernel_rfl)) (fun _ _ _ h => h) (Or.inr ⟨by rfl, rfl⟩) ?_ ?_
            rotate_left
            · simp only [Act.put, sS, s0_, s1_, i64_w, i32_w]; rfl
            refine pure_ (i := 10) (N := some 79) (v := undef) (a' := ?_) #[true,true,true,true,true,true,true,true,true,true,true,false,false,false,false,false,false,false,false,false,false,false] rfl rfl (any_of HT_.out (by kernel_rfl)) (fun _ _ _ h => h) (Or.inr ⟨by rfl, rfl⟩) ?_ ?_
            rotate_left
            · simp only [Act.put, sS, s0_, s1_, i64_w, i32_w]; rfl
            refine pure_ (i := 11) (N := some 80) (v := undef) (a' := ?_) #[true,true,true,true,true,true,true,true,true,true,true,true,false,false,false,false,false,false,false,false,false,false] rfl rfl (any_of HT_.out (by kernel_rfl)) (fun _ _ _ h => h) (Or.inr ⟨by rfl, rfl⟩) ?_ ?_
            rotate_left
            · simp only [Act.put, sS, s0_, s1_, i64_w, i32_w]; rfl
            refine pure_ (i := 12) (N := some 81) (v := ?_) (a' := ?_) #[true,true,true,true,true,true,true,true,true,true,true,true,true,false,false,false,false,false,false,false,false,false] rfl rfl (any_of HT_.out (by kernel_rfl)) (fun _ _ _ h => h) (Or.inl ⟨by rfl, ?_⟩) ?_ ?_
            rotate_left
            · intro w'; go_simp; with_reducible rfl
            rotate_left
            · simp only [Act.put, sS, s0_, s1_, i64_w, i32_w]; rfl
            refine pure_ (i := 13) (N := some 82) (v := ?_) (a' := ?_) #[true,true,true,true,true,true,true,true,true,true,true,true,true,true,false,false,false,false,false,false,false,false] rfl rfl (any_of HT_.out (by kernel_rfl)) (fun _ _ _ h => h) (Or.inl ⟨by rfl, ?_⟩) ?_ ?_
            rotate_left
            · intro w'; go_simp; with_reducible rfl
            rotate_left
            · simp only [Act.put, sS, s0_, s1_, i64_w, i32_w]; rfl
            refine pure_ (i := 14) (N := some 83) (v := undef) (a' := ?_) #[true,true,true,true,true,true,true,true,true,true,true,true,true,true,true,false,false,false,false,false,false,false] rfl rfl (any_of HT_.out (by kernel_rfl)) (fun _ _ _ h => h) (Or.inr ⟨by rfl, rfl⟩) ?_ ?_
            rotate_left
            · simp only [Act.put, sS, s0_, s1_, i64_w, i32_w]; rfl
            refine pure_ (i := 15) (N := some 84) (v := undef) (a' := ?_) #[true,true,true,true,true,true,true,true,true,true,true,true,true,true,true,true,false,false,false,false,false,false] rfl rfl (any_of HT_.out (by kernel_rfl)) (fun _ _ _ h => h) (Or.inr ⟨by rfl, rfl⟩) ?_ ?_
            rotate_left
            · simp only [Act.put, sS, s0_, s1_, i64_w, i32_w]; rfl
            refine pure_ (i := 16) (N := some 85) (v := undef) (a' := ?_) #[true,true,true,true,true,true,true,true,true,true,true,true,true,true,true,true,true,false,false,false,false,false] rfl rfl (any_of HT_.out (by kernel_rfl)) (fun _ _ _ h => h) (Or.inr ⟨by rfl, rfl⟩) ?_ ?_
            rotate_left
            · simp only [Act.put, sS, s0_, s1_, i64_w, i32_w]; rfl
            refine pure_ (i := 17) (N := some 86) (v := undef) (a' := ?_) #[true,true,true,true,true,true,true,true,true,true,true,true,true,true,true,true,true,true,false,false,false,false] rfl rfl (any_of HT_.out (by kernel_rfl)) (fun _ _ _ h => h) (Or.inr ⟨by rfl, rfl⟩) ?_ ?_
            rotate_left
            · simp only [Act.put, sS, s0_, s1_, i64_w, i32_w]; rfl
            refine pure_ (i := 18) (N := some 87) (v := undef) (a' := ?_) #[true,true,true,true,true,true,true,true,true,true,true,true,true,true,true,true,true,true,true,false,false,false] rfl rfl (any_of HT_.out (by kernel_rfl)) (fun _ _ _ h => h) (Or.inr ⟨by rfl, rfl⟩) ?_ ?_
            rotate_left
            · simp only [Act.put, sS, s0_, s1_, i64_w, i32_w]; rfl
            refine pure_ (i := 19) (N := some 88) (v := undef) (a' := ?_) #[true,true,true,true,true,true,true,true,true,true,true,true,true,true,true,true,true,true,true,true,false,false] rfl rfl (any_of HT_.out (by kernel_rfl)) (fun _ _ _ h => h) (Or.inr ⟨by rfl, rfl⟩) ?_ ?_
            rotate_left
            · simp only [Act.put, sS, s0_, s1_, i64_w, i32_w]; rfl
            refine pure_ (i := 20) (N := some 89) (v := undef) (a' := ?_) #[true,true,true,true,true,true,true,true,true,true,true,true,true,true,true,true,true,true,true,true,true,false] rfl rfl (any_of HT_.out (by kernel_rfl)) (fun _ _ _ h => h) (Or.inr ⟨by rfl, rfl⟩) ?_ ?_
            rotate_left
            · simp only [Act.put, sS, s0_, s1_, i64_w, i32_w]; rfl
            refine pure_ (i := 21) (N := some 90) (v := ?_) (a' := ?_) #[true,true,true,true,true,true,true,true,true,true,true,true,true,true,true,true,true,true,true,true,true,true] rfl rfl (any_of HT_.out (by kernel_rfl)) (fun _ _ _ h => h) (Or.inl ⟨by rfl, ?_⟩) ?_ ?_
            rotate_left
            · intro w'; go_simp; with_reducible rfl
            rotate_left
            · simp only [Act.put, sS, s0_, s1_, i64_w, i32_w]; rfl
            refine done_ (done_of HT_.out (by kernel_rfl)) ?_
            try go_wp2
            go_meet
            case rel => exact ⟨_, (true), (by first | rfl | (simp; done) | (simp [*]; done)), H', ⟨by have := HJ4.out; have := HK2.out; first | omega | exact Nat.le_refl _⟩, ⟨by (with_reducible repeat (first | apply Kd.R_alloc | apply Kd.R_drewN | apply Kd.R_drew)); exact HO_171001.out⟩, ⟨by (with_reducible repeat (first | apply Kd.R_alloc | apply Kd.R_drewN | apply Kd.R_drew)); exact HO185.out⟩, ⟨by (with_reducible repeat (first | refine blk_drewN ?_ _ | refine blk_drew ?_ | refine blk_alloc ?_ _)); exact BK170.out⟩, ⟨by (with_reducible repeat (first | refine blk_drewN ?_ _ | refine blk_drew ?_ | refine blk_alloc ?_ _)); exact BK187.out⟩, ⟨by repeat (first | (with_reducible first | exact HB.out | apply below_alloc | apply pw_below_drewN | apply below_drew1 | refine below_set ?_ GE170.out | refine below_set ?_ GE187.out) | exact HB.out)⟩⟩
          ·
           rw [if_neg c55] at H
           have c55b0 : (t181 == 0) = false := beq_eq_false_iff_ne.mpr c55
           have c55b1 : (t181 != 0) = true := bne_iff_ne.mpr c55
           (first | rw [c55b0] | (simp only [i64_w, i32_w]; rw [c55b0]) | skip)
           have H' := Aside0.mk H
           clear H
           try go_wp2
           have n0_ : Aside0 (Kd.R Kd.bool 4 ((w51.setCell ⟨gb187, 0, none⟩ (.int .u64 t182)).setCell ⟨gb187, 1, none⟩ (.slice Ao54 t183.length co54)) w.heap.size (fun k_ => some k_ ≠ (.slice Ao54 t183.length co54 : Value).ownBlock) (.slice Ao48 x171001_2.length co48) x171001_2) := ⟨by (with_reducible repeat (first | apply Kd.R_alloc | apply Kd.R_drewN | apply Kd.R_drew)); exact Kd.R_mono (Kd.R_far (p := ⟨gb187, 1, none⟩) (Kd.R_far (p := ⟨gb187, 0, none⟩) (Kd.R_types HO_171001.out BK187.out (by decide)) (fun _ hk => hk.2) (.int .u64 t182)) (fun _ hk => hk.2) (.slice Ao54 t183.length co54)) (fun _ hk => hk.1.2)⟩
           have n1_ : Aside0 (Kd.R Kd.bool 4 ((w51.setCell ⟨gb187, 0, none⟩ (.int .u64 t182)).setCell ⟨gb187, 1, none⟩ (.slice Ao54 t183.length co54)) w.heap.size (fun k_ => some k_ ≠ (.slice Ao48 x171001_2.length co48 : Value).ownBlock) (.slice Ao54 t183.length co54) t183) := ⟨by (with_reducible repeat (first | apply Kd.R_alloc | apply Kd.R_drewN | apply Kd.R_drew)); exact Kd.R_mono (Kd.R_far (p := ⟨gb187, 1, none⟩) (Kd.R_far (p := ⟨gb187, 0, none⟩) (Kd.R_types HO185.out BK187.out (by decide)) (fun _ hk => hk.2) (.int .u64 t182)) (fun _ hk => hk.2) (.slice Ao54 t183.length co54)) (fun _ hk => hk.1.2)⟩
           have n2_ : Aside0 (((w51.setCell ⟨gb187, 0, none⟩ (.int .u64 t182)).setCell ⟨gb187, 1, none⟩ (.slice Ao54 t183.length co54)).heap[gb170]? = some (.cells #[.int .u64 x171000_2, .slice Ao48 x171001_2.length co48] 26 (0, 0))) := ⟨by (with_reducible repeat (first | refine blk_drewN ?_ _ | refine blk_drew ?_ | refine blk_alloc ?_ _)); refine blk_far ?_ NB170_187.out _; (with_reducible repeat (first | refine blk_drewN ?_ _ | refine blk_drew ?_ | refine blk_alloc ?_ _)); refine blk_far ?_ NB170_187.out _; (with_reducible repeat (first | refine blk_drewN ?_ _ | refine blk_drew ?_ | refine blk_alloc ?_ _)); exact BK170.out⟩
           have n3_ : Aside0 (((w51.setCell ⟨gb187, 0, none⟩ (.int .u64 t182)).setCell ⟨gb187, 1, none⟩ (.slice Ao54 t183.length co54)).heap[gb187]? = some (.cells #[.int .u64 t182, .slice Ao54 t183.length co54] 26 (0, 0))) := ⟨by (with_reducible repeat (first | refine blk_drewN ?_ _ | refine blk_drew ?_ | refine blk_alloc ?_ _)); refine blk_put (cs := #[.int .u64 t182, .slice none 0 0]) ?_ 1 _ rfl; (with_reducible repeat (first | refine blk_drewN ?_ _ | refine blk_drew ?_ | refine blk_alloc ?_ _)); refine blk_put (cs := #[.int .u64 0, .slice none 0 0]) ?_ 0 _ rfl; (with_reducible repeat (first | refine blk_drewN ?_ _ | refine blk_drew ?_ | refine blk_alloc ?_ _)); exact BK187.out⟩
           have n4_ : Aside0 (Below w.heap.size w ((w51.setCell ⟨gb187, 0, none⟩ (.int .u64 t182)).setCell ⟨gb187, 1, none⟩ (.slice Ao54 t183.length co54))) := ⟨by repeat (first | (with_reducible first | exact HB.out | apply below_alloc | apply pw_below_drewN | apply below_drew1 | refine below_set ?_ GE170.out | refine below_set ?_ GE187.out) | exact HB.out)⟩
           (try clear HO_171001)
           (try clear HO185)
           (try clear BK170)
           (try clear BK187)
           (try clear HB)
           generalize ((w51.setCell ⟨gb187, 0, none⟩ (.int .u64 t182)).setCell ⟨gb187, 1, none⟩ (.slice Ao54 t183.length co54)) = w76 at n0_ n1_ n2_ n3_ n4_ ⊢
           have HO_171001 := n0_
           have HO185 := n1_
           have BK170 := n2_
           have BK187 := n3_
           have HB := n4_
           clear n0_ n1_ n2_ n3_ n4_
           have n0_ := Aside0.mk (Kd.R_drew HO_171001.out)
           have n1_ := Aside0.mk (Kd.R_drew HO185.out)
           have n2_ := Aside0.mk (blk_drew BK170.out)
           have n3_ := Aside0.mk (blk_drew BK187.out)
           have n4_ := Aside0.mk (below_drew1 HB.out)
           clear HO_171001
           clear HO185
           clear BK170
           clear BK187
           clear HB
           have HO_171001 := n0_
           have HO185 := n1_
           have BK170 := n2_
           have BK187 := n3_
           have HB := n4_
           clear n0_ n1_ n2_ n3_ n4_
           refine start_ (n := 22) (S := fun w' => True) (ds := []) #[false,false,false,false,false,false,false,false,false,false,false,false,false,false,false,false,false,false,false,false,false,false] (by kernel_rfl) rfl rfl trivial (fun hHeld => ?_); refine with_tabW tillrolllaw09_BbtBack.tab14 tillrolllaw09_BbtBack.bits14 (fun HT_ HW_ => ?_)
           generalize w76.drew = w77 at HO_171001 HO185 BK170 BK187 HB hHeld ⊢
           refine pure_ (i := 0) (N := some 69) (v := ?_) (a' := ?_) #[true,false,false,false,false,false,false,false,false,false,false,false,false,false,false,false,false,false,false,false,false,false] rfl rfl (any_of HT_.out (by kernel_rfl)) (fun _ _ _ h => h) (Or.inl ⟨by rfl, ?_⟩) ?_ ?_
           rotate_left
           · intro w'; go_simp; with_reducible rfl
           rotate_left
           · simp only [Act.put, sS, s0_, s1_, i64_w, i32_w]; rfl
           refine pure_ (i := 1) (N := some 70) (v := ?_) (a' := ?_) #[true,true,false,false,false,false,false,false,false,false,false,false,false,false,false,false,false,false,false,false,false,false] rfl rfl (any_of HT_.out (by kernel_rfl)) (fun _ _ _ h => h) (Or.inl ⟨by rfl, ?_⟩) ?_ ?_
           rotate_left
           · intro w'; go_simp; with_reducible rfl
           rotate_left
           · simp only [Act.put, sS, s0_, s1_, i64_w, i32_w]; rfl
           refine pure_ (i := 2) (N := some 71) (v := ?_) (a' := ?_) #[true,true,true,false,false,false,false,false,false,false,false,false,false,false,false,false,false,false,false,false,false,false] rfl rfl (any_of HT_.out (by kernel_rfl)) (fun _ _ _ h => h) (Or.inl ⟨by rfl, ?_⟩) ?_ ?_
           rotate_left
           · intro w'; go_simp; with_reducible rfl
           rotate_left
           · simp only [Act.put, sS, s0_, s1_, i64_w, i32_w]; rfl
           refine pure_ (i := 3) (N := some 72) (v := undef) (a' := ?_) #[true,true,true,true,false,false,false,false,false,false,false,false,false,false,false,false,false,false,false,false,false,false] rfl rfl (any_of HT_.out (by kernel_rfl)) (fun _ _ _ h => h) (Or.inr ⟨by rfl, rfl⟩) ?_ ?_
           rotate_left
           · simp only [Act.put, sS, s0_, s1_, i64_w, i32_w]; rfl
           refine pure_ (i := 4) (N := some 73) (v := undef) (a' := ?_) #[true,true,true,true,true,false,false,false,false,false,false,false,false,false,false,false,false,false,false,false,false,false] rfl rfl (any_of HT_.out (by kernel_rfl)) (fun _ _ _ h => h) (Or.inr ⟨by rfl, rfl⟩) ?_ ?_
           rotate_left
           · simp only [Act.put, sS, s0_, s1_, i64_w, i32_w]; rfl
           refine pure_ (i := 5) (N := some 74) (v := ?_) (a' := ?_) #[true,true,true,true,true,true,false,false,false,false,false,false,false,false,false,false,false,false,false,false,false,false] rfl rfl (any_of HT_.out (by kernel_rfl)) (fun _ _ _ h => h) (Or.inl ⟨by rfl, ?_⟩) ?_ ?_
           rotate_left
           · intro w'; go_simp; with_reducible rfl
           rotate_left
           · simp only [Act.put, sS, s0_, s1_, i64_w, i32_w]; rfl
           refine pure_ (i := 6) (N := some 75) (v := ?_) (a' := ?_) #[true,true,true,true,true,true,true,false,false,false,false,false,false,false,false,false,false,false,false,false,false,false] rfl rfl (any_of HT_.out (by kernel_rfl)) (fun _ _ _ h => h) (Or.inl ⟨by rfl, ?_⟩) ?_ ?_
           rotate_left
           · intro w'; go_simp; with_reducible rfl
           rotate_left
           · simp only [Act.put, sS, s0_, s1_, i64_w, i32_w]; rfl
           refine pure_ (i := 7) (N := some 76) (v := undef) (a' := ?_) #[true,true,true,true,true,true,true,true,false,false,false,false,false,false,false,false,false,false,false,false,false,false] rfl rfl (any_of HT_.out (by kernel_rfl)) (fun _ _ _ h => h) (Or.inr ⟨by rfl, rfl⟩) ?_ ?_
           rotate_left
           · simp only [Act.put, sS, s0_, s1_, i64_w, i32_w]; rfl
           refine pure_ (i := 8) (N := some 77) (v := undef) (a' := ?_) #[true,true,true,true,true,true,true,true,true,false,false,false,false,false,false,false,false,false,false,false,false,false] rfl rfl (any_of HT_.out (by kernel_rfl)) (fun _ _ _ h => h) (Or.inr ⟨by rfl, rfl⟩) ?_ ?_
           rotate_left
           · simp only [Act.put, sS, s0_, s1_, i64_w, i32_w]; rfl
           refine pure_ (i := 9) (N := some 78) (v := undef) (a' := ?_) #[true,true,true,true,true,true,true,true,true,true,false,false,false,false,false,false,false,false,false,false,false,false] rfl rfl (any_of HT_.out (by kernel_rfl)) (fun _ _ _ h => h) (Or.inr ⟨by rfl, rfl⟩) ?_ ?_
           rotate_left
           · simp only [Act.put, sS, s0_, s1_, i64_w, i32_w]; rfl
           refine pure_ (i := 10) (N := some 79) (v := undef) (a' := ?_) #[true,true,true,true,true,true,true,true,true,true,true,false,false,false,false,false,false,false,false,false,false,false] rfl rfl (any_of HT_.out (by kernel_rfl)) (fun _ _ _ h => h) (Or.inr ⟨by rfl, rfl⟩) ?_ ?_
           rotate_left
           · simp only [Act.put, sS, s0_, s1_, i64_w, i32_w]; rfl
           refine pure_ (i := 11) (N := some 80) (v := undef) (a' := ?_) #[true,true,true,true,true,true,true,true,true,true,true,true,false,false,false,false,false,false,false,false,false,false] rfl rfl (any_of HT_.out (by kernel_rfl)) (fun _ _ _ h => h) (Or.inr ⟨by rfl, rfl⟩) ?_ ?_
           rotate_left
           · simp only [Act.put, sS, s0_, s1_, i64_w, i32_w]; rfl
           refine pure_ (i := 12) (N := some 81) (v := ?_) (a' := ?_) #[true,true,true,true,true,true,true,true,true,true,true,true,true,false,false,false,false,false,false,false,false,false] rfl rfl (any_of HT_.out (by kernel_rfl)) (fun _ _ _ h => h) (Or.inl ⟨by rfl, ?_⟩) ?_ ?_
           rotate_left
           · intro w'; go_simp; with_reducible rfl
           rotate_left
           · simp only [Act.put, sS, s0_, s1_, i64_w, i32_w]; rfl
           refine pure_ (i := 13) (N := some 82) (v := ?_) (a' := ?_) #[true,true,true,true,true,true,true,true,true,true,true,true,true,true,false,false,false,false,false,false,false,false] rfl rfl (any_of HT_.out (by kernel_rfl)) (fun _ _ _ h => h) (Or.inl ⟨by rfl, ?_⟩) ?_ ?_
           rotate_left
           · intro w'; go_simp; with_reducible rfl
           rotate_left
           · simp only [Act.put, sS, s0_, s1_, i64_w, i32_w]; rfl
           refine pure_ (i := 14) (N := some 83) (v := undef) (a' := ?_) #[true,true,true,true,true,true,true,true,true,true,true,true,true,true,true,false,false,false,false,false,false,false] rfl rfl (any_of HT_.out (by kernel_rfl)) (fun _ _ _ h => h) (Or.inr ⟨by rfl, rfl⟩) ?_ ?_
           rotate_left
           · simp only [Act.put, sS, s0_, s1_, i64_w, i32_w]; rfl
           refine pure_ (i := 15) (N := some 84) (v := undef) (a' := ?_) #[true,true,true,true,true,true,true,true,true,true,true,true,true,true,true,true,false,false,false,false,false,false] rfl rfl (any_of HT_.out (by kernel_rfl)) (fun _ _ _ h => h) (Or.inr ⟨by rfl, rfl⟩) ?_ ?_
           rotate_left
           · simp only [Act.put, sS, s0_, s1_, i64_w, i32_w]; rfl
           refine pure_ (i := 16) (N := some 85) (v := undef) (a' := ?_) #[true,true,true,true,true,true,true,true,true,true,true,true,true,true,true,true,true,false,false,false,false,false] rfl rfl (any_of HT_.out (by kernel_rfl)) (fun _ _ _ h => h) (Or.inr ⟨by rfl, rfl⟩) ?_ ?_
           rotate_left
           · simp only [Act.put, sS, s0_, s1_, i64_w, i32_w]; rfl
           refine pure_ (i := 17) (N := some 86) (v := undef) (a' := ?_) #[true,true,true,true,true,true,true,true,true,true,true,true,true,true,true,true,true,true,false,false,false,false] rfl rfl (any_of HT_.out (by kernel_rfl)) (fun _ _ _ h => h) (Or.inr ⟨by rfl, rfl⟩) ?_ ?_
           rotate_left
           · simp only [Act.put, sS, s0_, s1_, i64_w, i32_w]; rfl
           refine pure_ (i := 18) (N := some 87) (v := undef) (a' := ?_) #[true,true,true,true,true,true,true,true,true,true,true,true,true,true,true,true,true,true,true,false,false,false] rfl rfl (any_of HT_.out (by kernel_rfl)) (fun _ _ _ h => h) (Or.inr ⟨by rfl, rfl⟩) ?_ ?_
           rotate_left
           · simp only [Act.put, sS, s0_, s1_, i64_w, i32_w]; rfl
           refine pure_ (i := 19) (N := some 88) (v := undef) (a' := ?_) #[true,true,true,true,true,true,true,true,true,true,true,true,true,true,true,true,true,true,true,true,false,false] rfl rfl (any_of HT_.out (by kernel_rfl)) (fun _ _ _ h => h) (Or.inr ⟨by rfl, rfl⟩) ?_ ?_
           rotate_left
           · simp only [Act.put, sS, s0_, s1_, i64_w, i32_w]; rfl
           refine pure_ (i := 20) (N := some 89) (v := undef) (a' := ?_) #[true,true,true,true,true,true,true,true,true,true,true,true,true,true,true,true,true,true,true,true,true,false] rfl rfl (any_of HT_.out (by kernel_rfl)) (fun _ _ _ h => h) (Or.inr ⟨by rfl, rfl⟩) ?_ ?_
           rotate_left
           · simp only [Act.put, sS, s0_, s1_, i64_w, i32_w]; rfl
           refine pure_ (i := 21) (N := some 90) (v := ?_) (a' := ?_) #[true,true,true,true,true,true,true,true,true,true,true,true,true,true,true,true,true,true,true,true,true,true] rfl rfl (any_of HT_.out (by kernel_rfl)) (fun _ _ _ h => h) (Or.inl ⟨by rfl, ?_⟩) ?_ ?_
           rotate_left
           · intro w'; go_simp; with_reducible rfl
           rotate_left
           · simp only [Act.put, sS, s0_, s1_, i64_w, i32_w]; rfl
           refine done_ (done_of HT_.out (by kernel_rfl)) ?_
           try go_wp2
           go_meet
           case rel => exact ⟨_, (true), (by first | rfl | (simp; done) | (simp [*]; done)), H', ⟨by have := HJ4.out; have := HK2.out; first | omega | exact Nat.le_refl _⟩, ⟨by (with_reducible repeat (first | apply Kd.R_alloc | apply Kd.R_drewN | apply Kd.R_drew)); exact HO_171001.out⟩, ⟨by (with_reducible repeat (first | apply Kd.R_alloc | apply Kd.R_drewN | apply Kd.R_drew)); exact HO185.out⟩, ⟨by (with_reducible repeat (first | refine blk_drewN ?_ _ | refine blk_drew ?_ | refine blk_alloc ?_ _)); exact BK170.out⟩, ⟨by (with_reducible repeat (first | refine blk_drewN ?_ _ | refine blk_drew ?_ | refine blk_alloc ?_ _)); exact BK187.out⟩, ⟨by repeat (first | (with_reducible first | exact HB.out | apply below_alloc | apply pw_below_drewN | apply below_drew1 | refine below_set ?_ GE170.out | refine below_set ?_ GE187.out) | exact HB.out)⟩⟩
         case rest =>
          clear HC46
          try clear c1
          try clear p2
          try clear c5
          try clear c10
          try clear c55
          try clear c55b0
          try clear c55b1
          try clear c56
          try clear c56b0
          try clear c56b1
          try clear c59
          try clear c59b0
          try clear c59b1
          obtain ⟨kq, x90_45, rfl, HA, HJ45, HO_171001, HO_188001, BK170, BK187, HB⟩ := hcut
          cases kq with
          | zero => exact absurd HA.out (by simp [tillrolllaw09_BbtBack.j2])
          | succ kj45 =>
           have H := HA.out
           clear HA
           simp only [tillrolllaw09_BbtBack.j2] at H
           by_cases c78 : x90_45 = true
           ·
            subst c78
            have H1 : (some false) = some r := by rw [if_pos rfl] at H; exact H
            clear H
            have H := H1
            clear H1
            obtain rfl := Option.some.inj H
            go_wp2
            go_ret
            exact ⟨by first | rfl | (simp [errW_none, errW_some] <;> rfl) | (simp only [← hji15]; first | rfl | (simp [errW_none, errW_some] <;> rfl)) | (simp [*, errW_none, errW_some] <;> rfl), by repeat (first | (with_reducible first | exact HB.out | apply below_alloc | apply pw_below_drewN | apply below_drew1 | refine below_set ?_ GE170.out | refine below_set ?_ GE187.out) | exact HB.out)⟩
           ·
            replace c78 := Bool.eq_false_iff.mpr c78
            subst c78
            have H1 : ((bbt_Table_List.f kj45 x171000_2 x171001_2).bind fun t196 => (tillrolllaw09_BbtBack.l1 kj45 a2 t180 t196 (t196.length : Int) 0 x171000_2 x171001_2 t182 t183)) = some r := by rw [if_neg (show ¬ (false = true) by decide)] at H; exact H
            clear H
            have H := H1
            clear H1
            replace H := Option.bind_eq_some_iff.mp H
            obtain ⟨t196, A790, H⟩ := H
            replace H : (tillrolllaw09_BbtBack.l1 kj45 a2 t180 t196 (t196.length : Int) 0 x171000_2 x171001_2 t182 t183) = some r := H
            have A79 := Aside0.mk A790
            clear A790
            have H' := Aside0.mk H
            clear H
            have hnb80 := NB170_187.out
            have hnc80 := NB187_170.out
            have hcz81_0 : wc.cell? ⟨gb170, 0, none⟩ = some (.int .u64 x171000_2) := (blk_cell BK170.out 0).trans rfl
            have hcz81_1 : wc.cell? ⟨gb170, 1, none⟩ = some (.slice Ao48 x171001_2.length co48) := (blk_cell BK170.out 1).trans rfl
            have hfz81_0 := blk_frozen BK170.out 0
            have hfz81_1 := blk_frozen BK170.out 1
            go_wp2_with (first | ((with_reducible refine gate_callee (f := 9) rfl ?_); refine goesL_ (some 92) rfl rfl Try.func9 (by kernel_rfl) rfl #[.agg #[.int .u64 x171000_2, .slice Ao48 x171001_2.length co48]] rfl (by (try simp only [List.map_toArray, List.map_cons, List.map_nil]); first | done | rfl | (simp only [List.length_drop, List.length_take]; rfl) | (simp only [ByteArray.size_append]; rfl) | (simp only [ByteArray.size_extract]; rfl)) ?_; (with_reducible refine (bbt_Table_List.calls kj45 x171000_2 _ _ x171001_2 t196 _ ?side1 ?side2 A79.out).mono ?_); (case side1 => repeat (first | exact (Kd.R_reads' HO_171001.out).2.2 | (with_reducible refine Kd.C_alloc ?_ _) | (with_reducible refine Kd.C_drewN ?_ _) | (with_reducible refine Kd.C_drew ?_))); (case side2 => exact (Kd.R_reads' HO_171001.out).2.1); rintro e w82 ⟨v197, rfl, ho0, hb⟩; refine ⟨_, rfl, ?_⟩; have n0_ := Aside0.mk (Kd.R_below (by (with_reducible repeat (first | apply Kd.R_alloc | apply Kd.R_drewN | apply Kd.R_drew)); exact HO_171001.out) hb); have n1_ := Aside0.mk (Kd.R_below (by (with_reducible repeat (first | apply Kd.R_alloc | apply Kd.R_drewN | apply Kd.R_drew)); exact HO_188001.out) hb); have n2_ := Aside0.mk (Kd.R_lower ho0 (below_size (by repeat (first | (with_reducible first | exact HB.out | apply below_alloc | apply pw_below_drewN | apply below_drew1 | refine below_set ?_ GE170.out | refine below_set ?_ GE187.out) | exact HB.out)))); have n3_ := Aside0.mk (blk_below (g := gb170) (o := .cells #[.int .u64 x171000_2, .slice Ao48 x171001_2.length co48] 26 (0, 0)) (by (with_reducible repeat (first | refine blk_drewN ?_ _ | refine blk_drew ?_ | refine blk_alloc ?_ _)); exact BK170.out) hb); have n4_ := Aside0.mk (blk_below (g := gb187) (o := .cells #[.int .u64 t182, .slice Ao54 t183.length co54] 26 (0, 0)) (by (with_reducible repeat (first | refine blk_drewN ?_ _ | refine blk_drew ?_ | refine blk_alloc ?_ _)); exact BK187.out) hb); have n5_ := Aside0.mk (below_step (by repeat (first | (with_reducible first | exact HB.out | apply below_alloc | apply pw_below_drewN | apply below_drew1 | refine below_set ?_ GE170.out | refine below_set ?_ GE187.out) | exact HB.out)) hb); clear HO_171001; clear HO_188001; clear BK170; clear BK187; clear HB; have HO_171001 := n0_; have HO_188001 := n1_; have HO198 := n2_; have BK170 := n3_; have BK187 := n4_; have HB := n5_; clear n0_ n1_ n2_ n3_ n4_ n5_; (try clear hb); (try clear hb2); (try clear hk); (try clear hi); (try clear ho0); obtain ⟨Ao83, co83, eo83⟩ := Kd.R_slice HO198.out; subst eo83))
            go_loopg [94] kj45 (fun kq v94 w' => ∃ (x94_4 : Int), v94 = .int .i64 x94_4 ∧ Aside0 (tillrolllaw09_BbtBack.l1 kq a2 t180 t196 (t196.length : Int) x94_4 x171000_2 x171001_2 t182 t183 = some r) ∧ Aside0 (kq ≤ kj45) ∧ Aside0 (Kd.R (Kd.int .i64) 3 w' w.heap.size (fun _ => True) (.slice Ao83 t196.length co83) t196) ∧ Aside0 (Kd.R Kd.bool 4 w' w.heap.size (fun k_ => some k_ ≠ ((.slice Ao54 t183.length co54) : Value).ownBlock) (.slice Ao48 x171001_2.length co48) x171001_2) ∧ Aside0 (Kd.R Kd.bool 4 w' w.heap.size (fun k_ => some k_ ≠ ((.slice Ao48 x171001_2.length co48) : Value).ownBlock) (.slice Ao54 t183.length co54) t183) ∧ Aside0 (w'.heap[gb170]? = some (.cells #[.int .u64 x171000_2, (.slice Ao48 x171001_2.length co48)] 26 (0, 0))) ∧ Aside0 (w'.heap[gb187]? = some (.cells #[.int .u64 t182, (.slice Ao54 t183.length co54)] 26 (0, 0))) ∧ Aside0 (Below w.heap.size w w'))
            case atStart => exact ⟨(0), (by first | rfl | (simp; done) | (simp [*]; done)), H', ⟨Nat.le_refl _⟩, ⟨by (with_reducible repeat (first | apply Kd.R_alloc | apply Kd.R_drewN | apply Kd.R_drew)); exact HO198.out⟩, ⟨by (with_reducible repeat (first | apply Kd.R_alloc | apply Kd.R_drewN | apply Kd.R_drew)); exact HO_171001.out⟩, ⟨by (with_reducible repeat (first | apply Kd.R_alloc | apply Kd.R_drewN | apply Kd.R_drew)); exact HO_188001.out⟩, ⟨by (with_reducible repeat (first | refine blk_drewN ?_ _ | refine blk_drew ?_ | refine blk_alloc ?_ _)); exact BK170.out⟩, ⟨by (with_reducible repeat (first | refine blk_drewN ?_ _ | refine blk_drew ?_ | refine blk_alloc ?_ _)); exact BK187.out⟩, ⟨by repeat (first | (with_reducible first | exact HB.out | apply below_alloc | apply pw_below_drewN | apply below_drew1 | refine below_set ?_ GE170.out | refine below_set ?_ GE187.out) | exact HB.out)⟩⟩
            case round =>
             clear H'
             try clear c1
             try clear p2
             try clear c5
             try clear c7
             try clear c8
             try clear c9
             try clear c10
             try clear c55
             try clear c55b0
             try clear c55b1
             try clear c56
             try clear c56b0
             try clear c56b1
             try clear c59
             try clear c59b0
             try clear c59b1
             try clear c78
             try clear c80
             try clear hcz81_0
             try clear hcz81_1
             try clear hfz81_0
             try clear hfz81_1
             try clear p2
             obtain ⟨x94_4, rfl, HA, HK4, HO_92, HO_171001, HO_188001, BK170, BK187, HB⟩ := hrel
             cases gk with
             | zero => exact absurd HA.out (by simp [tillrolllaw09_BbtBack.l1])
             | succ k4 =>
              have H := HA.out
              clear HA
              simp only [tillrolllaw09_BbtBack.l1] at H
              by_cases c84 : x94_4 < (t196.length : Int)
              ·
               rw [if_pos c84] at H
               have c84b0 : decide (x94_4 < (t196.length : Int)) = true := decide_eq_true c84
               clear c84
               by_cases c85 : 0 ≤ x94_4
               ·
                rw [if_pos c85] at H
                have c85b0 : decide (0 ≤ x94_4) = true := decide_eq_true c85
                clear c85
                by_cases c86 : x94_4 < (t196.length : Int)
                ·
                 rw [if_pos c86] at H
                 have c86b0 : decide (x94_4 < (t196.length : Int)) = true := decide_eq_true c86
                 clear c86
                 replace H := Option.bind_eq_some_iff.mp H
                 obtain ⟨t200, A870, H⟩ := H
                 replace H : (if x94_4 < (t200.length : Int) then (if (rd t200 x94_4) = (rd t196 x94_4) then (tillrolllaw09_BbtBack.l1 k4 a2 t180 t196 (t196.length : Int) (wrap64 (x94_4 + 1)) x171000_2 x171001_2 t182 t183) else (some false)) else (none)) = some r := H
                 have A87 := Aside0.mk A870
                 clear A870
                 by_cases c88 : x94_4 < (t200.length : Int)
                 ·
                  rw [if_pos c88] at H
                  have c88b0 : decide (x94_4 < (t200.length : Int)) = true := decide_eq_true c88
                  clear c88
                  by_cases c89 : (rd t200 x94_4) = (rd t196 x94_4)
                  ·
                   rw [if_pos c89] at H
                   have c89b0 : ((rd t200 x94_4) == (rd t196 x94_4)) = true := beq_iff_eq.mpr c89
                   have c89b1 : ((rd t200 x94_4) != (rd t196 x94_4)) = false := bne_eq_false_iff_eq.mpr c89
                   clear c89
                   have H' := Aside0.mk H
                   clear H
                   have p199 : 0 ≤ (x94_4 : Int) := of_decide_eq_true (by first | (with_reducible assumption) | assumption)
                   have q199 : x94_4 < (t196.length : Int) := of_decide_eq_true (by first | (with_reducible assumption) | assumption)
                   obtain ⟨ad199, e199, hx199_0⟩ := Kd.at_int (Kd.R_reads' HO_92.out).2.2 x94_4 p199 q199
                   cases e199
                   replace p199 := eq_true p199
                   replace q199 := eq_true q199
                   have hnb90 := NB187_170.out
                   have hnc90 := NB170_187.out
                   have hcz91_0 : wr.cell? ⟨gb187, 0, none⟩ = some (.int .u64 t182) := (blk_cell BK187.out 0).trans rfl
                   have hcz91_1 : wr.cell? ⟨gb187, 1, none⟩ = some (.slice Ao54 t183.length co54) := (blk_cell BK187.out 1).trans rfl
                   have hfz91_0 := blk_frozen BK187.out 0
                   have hfz91_1 := blk_frozen BK187.out 1
                   go_wp2_with (first | ((with_reducible refine gate_callee (f := 9) rfl ?_); refine goesL_ (some 100) rfl rfl Try.func9 (by kernel_rfl) rfl #[.agg #[.int .u64 t182, .slice Ao54 t183.length co54]] rfl (by (try simp only [List.map_toArray, List.map_cons, List.map_nil]); first | done | rfl | (simp only [List.length_drop, List.length_take]; rfl) | (simp only [ByteArray.size_append]; rfl) | (simp only [ByteArray.size_extract]; rfl)) ?_; (with_reducible refine (bbt_Table_List.calls k4 t182 _ _ t183 t200 _ ?side1 ?side2 A87.out).mono ?_); (case side1 => repeat (first | exact (Kd.R_reads' HO_188001.out).2.2 | (with_reducible refine Kd.C_alloc ?_ _) | (with_reducible refine Kd.C_drewN ?_ _) | (with_reducible refine Kd.C_drew ?_))); (case side2 => exact (Kd.R_reads' HO_188001.out).2.1); rintro e w92 ⟨v201, rfl, ho0, hb⟩; refine ⟨_, rfl, ?_⟩; have n0_ := Aside0.mk (Kd.R_elder' (by (with_reducible repeat (first | apply Kd.R_alloc | apply Kd.R_drewN | apply Kd.R_drew)); exact HO_92.out) (Kd.R_base ho0) hb); have n1_ := Aside0.mk (Kd.R_below (by (with_reducible repeat (first | apply Kd.R_alloc | apply Kd.R_drewN | apply Kd.R_drew)); exact HO_171001.out) hb); have n2_ := Aside0.mk (Kd.R_below (by (with_reducible repeat (first | apply Kd.R_alloc | apply Kd.R_drewN | apply Kd.R_drew)); exact HO_188001.out) hb); have n3_ := Aside0.mk (Kd.R_lower (Kd.R_new' ho0 (Kd.R_lt (by (with_reducible repeat (first | apply Kd.R_alloc | apply Kd.R_drewN | apply Kd.R_drew)); exact HO_92.out))) (below_size (by repeat (first | (with_reducible first | exact HB.out | apply below_alloc | apply pw_below_drewN | apply below_drew1 | refine below_set ?_ GE170.out | refine below_set ?_ GE187.out) | exact HB.out)))); have n4_ := Aside0.mk (blk_below (g := gb170) (o := .cells #[.int .u64 x171000_2, .slice Ao48 x171001_2.length co48] 26 (0, 0)) (by (with_reducible repeat (first | refine blk_drewN ?_ _ | refine blk_drew ?_ | refine blk_alloc ?_ _)); exact BK170.out) hb); have n5_ := Aside0.mk (blk_below (g := gb187) (o := .cells #[.int .u64 t182, .slice Ao54 t183.length co54] 26 (0, 0)) (by (with_reducible repeat (first | refine blk_drewN ?_ _ | refine blk_drew ?_ | refine blk_alloc ?_ _)); exact BK187.out) hb); have n6_ := Aside0.mk (below_step (by repeat (first | (with_reducible first | exact HB.out | apply below_alloc | apply pw_below_drewN | apply below_drew1 | refine below_set ?_ GE170.out | refine below_set ?_ GE187.out) | exact HB.out)) hb); clear HO_92; clear HO_171001; clear HO_188001; clear BK170; clear BK187; clear HB; have HO_92 := n0_; have HO_171001 := n1_; have HO_188001 := n2_; have HO202 := n3_; have BK170 := n4_; have BK187 := n5_; have HB := n6_; clear n0_ n1_ n2_ n3_ n4_ n5_ n6_; (try clear hb); (try clear hb2); (try clear hk); (try clear hi); (try clear ho0); obtain ⟨Ao93, co93, eo93⟩ := Kd.R_slice HO202.out; subst eo93; have p203 : 0 ≤ (x94_4 : Int) := of_decide_eq_true (by first | (with_reducible assumption) | assumption); have q203 : x94_4 < (t200.length : Int) := of_decide_eq_true (by first | (with_reducible assumption) | assumption); obtain ⟨ad203, e203, hx203_0⟩ := Kd.at_int (Kd.R_reads' HO202.out).2.2 x94_4 p203 q203; cases e203; replace p203 := eq_true p203; replace q203 := eq_true q203))
                   go_roundg k4
                   case measure => have := HJ4.out; have := HK2.out; have := HJ45.out; have := HK4.out; omega
                   case rel => exact ⟨(wrap64 (x94_4 + 1)), (by first | rfl | (simp; done) | (simp [*]; done)), H', ⟨by have := HJ4.out; have := HK2.out; have := HJ45.out; have := HK4.out; omega⟩, ⟨by (with_reducible repeat (first | apply Kd.R_alloc | apply Kd.R_drewN | apply Kd.R_drew)); exact Kd.R_mono HO_92.out (fun _ hk => trivial)⟩, ⟨by (with_reducible repeat (first | apply Kd.R_alloc | apply Kd.R_drewN | apply Kd.R_drew)); exact HO_171001.out⟩, ⟨by (with_reducible repeat (first | apply Kd.R_alloc | apply Kd.R_drewN | apply Kd.R_drew)); exact HO_188001.out⟩, ⟨by (with_reducible repeat (first | refine blk_drewN ?_ _ | refine blk_drew ?_ | refine blk_alloc ?_ _)); exact BK170.out⟩, ⟨by (with_reducible repeat (first | refine blk_drewN ?_ _ | refine blk_drew ?_ | refine blk_alloc ?_ _)); exact BK187.out⟩, ⟨by repeat (first | (with_reducible first | exact HB.out | apply below_alloc | apply pw_below_drewN | apply below_drew1 | refine below_set ?_ GE170.out | refine below_set ?_ GE187.out) | exact HB.out)⟩⟩
                  ·
                   rw [if_neg c89] at H
                   have c89b0 : ((rd t200 x94_4) == (rd t196 x94_4)) = false := beq_eq_false_iff_ne.mpr c89
                   have c89b1 : ((rd t200 x94_4) != (rd t196 x94_4)) = true := bne_iff_ne.mpr c89
                   obtain rfl := Option.some.inj H
                   have p199 : 0 ≤ (x94_4 : Int) := of_decide_eq_true (by first | (with_reducible assumption) | assumption)
                   have q199 : x94_4 < (t196.length : Int) := of_decide_eq_true (by first | (with_reducible assumption) | assumption)
                   obtain ⟨ad199, e199, hx199_0⟩ := Kd.at_int (Kd.R_reads' HO_92.out).2.2 x94_4 p199 q199
                   cases e199
                   replace p199 := eq_true p199
                   replace q199 := eq_true q199
                   have hnb94 := NB187_170.out
                   have hnc94 := NB170_187.out
                   have hcz95_0 : wr.cell? ⟨gb187, 0, none⟩ = some (.int .u64 t182) := (blk_cell BK187.out 0).trans rfl
                   have hcz95_1 : wr.cell? ⟨gb187, 1, none⟩ = some (.slice Ao54 t183.length co54) := (blk_cell BK187.out 1).trans rfl
                   have hfz95_0 := blk_frozen BK187.out 0
                   have hfz95_1 := blk_frozen BK187.out 1
                   go_wp2_with (first | ((with_reducible refine gate_callee (f := 9) rfl ?_); refine goesL_ (some 100) rfl rfl Try.func9 (by kernel_rfl) rfl #[.agg #[.int .u64 t182, .slice Ao54 t183.length co54]] rfl (by (try simp only [List.map_toArray, List.map_cons, List.map_nil]); first | done | rfl | (simp only [List.length_drop, List.length_take]; rfl) | (simp only [ByteArray.size_append]; rfl) | (simp only [ByteArray.size_extract]; rfl)) ?_; (with_reducible refine (bbt_Table_List.calls k4 t182 _ _ t183 t200 _ ?side1 ?side2 A87.out).mono ?_); (case side1 => repeat (first | exact (Kd.R_reads' HO_188001.out).2.2 | (with_reducible refine Kd.C_alloc ?_ _) | (with_reducible refine Kd.C_drewN ?_ _) | (with_reducible refine Kd.C_drew ?_))); (case side2 => exact (Kd.R_reads' HO_188001.out).2.1); rintro e w96 ⟨v201, rfl, ho0, hb⟩; refine ⟨_, rfl, ?_⟩; have n0_ := Aside0.mk (Kd.R_elder' (by (with_reducible repeat (first | apply Kd.R_alloc | apply Kd.R_drewN | apply Kd.R_drew)); exact HO_92.out) (Kd.R_base ho0) hb); have n1_ := Aside0.mk (Kd.R_below (by (with_reducible repeat (first | apply Kd.R_alloc | apply Kd.R_drewN | apply Kd.R_drew)); exact HO_171001.out) hb); have n2_ := Aside0.mk (Kd.R_below (by (with_reducible repeat (first | apply Kd.R_alloc | apply Kd.R_drewN | apply Kd.R_drew)); exact HO_188001.out) hb); have n3_ := Aside0.mk (Kd.R_lower (Kd.R_new' ho0 (Kd.R_lt (by (with_reducible repeat (first | apply Kd.R_alloc | apply Kd.R_drewN | apply Kd.R_drew)); exact HO_92.out))) (below_size (by repeat (first | (with_reducible first | exact HB.out | apply below_alloc | apply pw_below_drewN | apply below_drew1 | refine below_set ?_ GE170.out | refine below_set ?_ GE187.out) | exact HB.out)))); have n4_ := Aside0.mk (blk_below (g := gb170) (o := .cells #[.int .u64 x171000_2, .slice Ao48 x171001_2.length co48] 26 (0, 0)) (by (with_reducible repeat (first | refine blk_drewN ?_ _ | refine blk_drew ?_ | refine blk_alloc ?_ _)); exact BK170.out) hb); have n5_ := Aside0.mk (blk_below (g := gb187) (o := .cells #[.int .u64 t182, .slice Ao54 t183.length co54] 26 (0, 0)) (by (with_reducible repeat (first | refine blk_drewN ?_ _ | refine blk_drew ?_ | refine blk_alloc ?_ _)); exact BK187.out) hb); have n6_ := Aside0.mk (below_step (by repeat (first | (with_reducible first | exact HB.out | apply below_alloc | apply pw_below_drewN | apply below_drew1 | refine below_set ?_ GE170.out | refine below_set ?_ GE187.out) | exact HB.out)) hb); clear HO_92; clear HO_171001; clear HO_188001; clear BK170; clear BK187; clear HB; have HO_92 := n0_; have HO_171001 := n1_; have HO_188001 := n2_; have HO202 := n3_; have BK170 := n4_; have BK187 := n5_; have HB := n6_; clear n0_ n1_ n2_ n3_ n4_ n5_ n6_; (try clear hb); (try clear hb2); (try clear hk); (try clear hi); (try clear ho0); obtain ⟨Ao97, co97, eo97⟩ := Kd.R_slice HO202.out; subst eo97; have p203 : 0 ≤ (x94_4 : Int) := of_decide_eq_true (by first | (with_reducible assumption) | assumption); have q203 : x94_4 < (t200.length : Int) := of_decide_eq_true (by first | (with_reducible assumption) | assumption); obtain ⟨ad203, e203, hx203_0⟩ := Kd.at_int (Kd.R_reads' HO202.out).2.2 x94_4 p203 q203; cases e203; replace p203 := eq_true p203; replace q203 := eq_true q203))
                   go_ret
                   exact ⟨by first | rfl | (simp [errW_none, errW_some] <;> rfl) | (simp only [← hji15]; first | rfl | (simp [errW_none, errW_some] <;> rfl)) | (simp [*, errW_none, errW_some] <;> rfl), by repeat (first | (with_reducible first | exact HB.out | apply below_alloc | apply pw_below_drewN | apply below_drew1 | refine below_set ?_ GE170.out | refine below_set ?_ GE187.out) | exact HB.out)⟩
                 ·
                  rw [if_neg c88] at H
                  exact absurd H (by simp)
                ·
                 rw [if_neg c86] at H
                 exact absurd H (by simp)
               ·
                rw [if_neg c85] at H
                exact absurd H (by simp)
              ·
               rw [if_neg c84] at H
               have c84b0 : decide (x94_4 < (t196.length : Int)) = false := decide_eq_false c84
               clear c84
               replace H := Option.bind_eq_some_iff.mp H
               obtain ⟨⟨t204, t205, t208⟩, A980, H⟩ := H
               replace H : (if t208 = 4 then (some true) else (if t208 = 0 then ((bbt_Table_List.f k4 t204 t205).bind fun t210 => ((bbt_Table_List.f k4 x171000_2 x171001_2).bind fun t213 => (some ((t210.length : Int) == (t213.length : Int))))) else (some false))) = some r := H
               have A98 := Aside0.mk A980
               clear A980
               by_cases c99 : t208 = 4
               ·
                rw [if_pos c99] at H
                have c99b0 : (t208 == 4) = true := beq_iff_eq.mpr c99
                have c99b1 : (t208 != 4) = false := bne_eq_false_iff_eq.mpr c99
                clear c99
                obtain rfl := Option.some.inj H
                try go_wp2_with (first | ((with_reducible refine gate_callee (f := 15) rfl ?_); refine goesL_ (some 112) rfl rfl Try.func15 (by kernel_rfl) rfl #[.string t180, .int .i64 (wrap64 (1 + (wrap64 (a2))))] rfl (by (try simp only [List.map_toArray, List.map_cons, List.map_nil]); first | done | rfl | (simp only [List.length_drop, List.length_take]; rfl) | (simp only [ByteArray.size_append]; rfl) | (simp only [ByteArray.size_extract]; rfl)) ?_; (with_reducible refine (bbt_Parse.calls k4 t180 (wrap64 (1 + (wrap64 (a2)))) t204 t205 t208 _ A98.out).mono ?_); rintro e w100 ⟨v206, rfl, ho0, hb⟩; refine ⟨_, rfl, ?_⟩; have n0_ := Aside0.mk (Kd.R_below (by (with_reducible repeat (first | apply Kd.R_alloc | apply Kd.R_drewN | apply Kd.R_drew)); exact HO_92.out) hb); have n1_ := Aside0.mk (Kd.R_elder' (by (with_reducible repeat (first | apply Kd.R_alloc | apply Kd.R_drewN | apply Kd.R_drew)); exact HO_171001.out) (Kd.R_base ho0) hb); have n2_ := Aside0.mk (Kd.R_elder' (by (with_reducible repeat (first | apply Kd.R_alloc | apply Kd.R_drewN | apply Kd.R_drew)); exact HO_188001.out) (Kd.R_base ho0) hb); have n3_ := Aside0.mk (Kd.R_lower (Kd.R_new' (Kd.R_new' ho0 (Kd.R_lt (by (with_reducible repeat (first | apply Kd.R_alloc | apply Kd.R_drewN | apply Kd.R_drew)); exact HO_171001.out))) (Kd.R_lt (by (with_reducible repeat (first | apply Kd.R_alloc | apply Kd.R_drewN | apply Kd.R_drew)); exact HO_188001.out))) (below_size (by repeat (first | (with_reducible first | exact HB.out | apply below_alloc | apply pw_below_drewN | apply below_drew1 | refine below_set ?_ GE170.out | refine below_set ?_ GE187.out) | exact HB.out)))); have n4_ := Aside0.mk (blk_below (g := gb170) (o := .cells #[.int .u64 x171000_2, .slice Ao48 x171001_2.length co48] 26 (0, 0)) (by (with_reducible repeat (first | refine blk_drewN ?_ _ | refine blk_drew ?_ | refine blk_alloc ?_ _)); exact BK170.out) hb); have n5_ := Aside0.mk (blk_below (g := gb187) (o := .cells #[.int .u64 t182, .slice Ao54 t183.length co54] 26 (0, 0)) (by (with_reducible repeat (first | refine blk_drewN ?_ _ | refine blk_drew ?_ | refine blk_alloc ?_ _)); exact BK187.out) hb); have n6_ := Aside0.mk (below_step (by repeat (first | (with_reducible first | exact HB.out | apply below_alloc | apply pw_below_drewN | apply below_drew1 | refine below_set ?_ GE170.out | refine below_set ?_ GE187.out) | exact HB.out)) hb); clear HO_92; clear HO_171001; clear HO_188001; clear BK170; clear BK187; clear HB; have HO_92 := n0_; have HO_171001 := n1_; have HO_188001 := n2_; have HO207 := n3_; have BK170 := n4_; have BK187 := n5_; have HB := n6_; clear n0_ n1_ n2_ n3_ n4_ n5_ n6_; (try clear hb); (try clear hb2); (try clear hk); (try clear hi); (try clear ho0)) | ((with_reducible refine gate_dst (N := 19) rfl ?_); (try (refine gate_guard (by rfl) ?_; dsimp only)); refine box_event ?hg (N := 19) ?hd (cs := #[.int .u64 0, .slice none 0 0]) (t := 26) ?hr ?_; (case hd => rfl); (case hg => rfl); (case hr => first | (go_simp; done) | (go_simp; rfl)); intro gb209 hg w101 hbox hb; have n0_ := Aside0.mk (Kd.R_below (by (with_reducible repeat (first | apply Kd.R_alloc | apply Kd.R_drewN | apply Kd.R_drew)); exact HO_92.out) hb); have n1_ := Aside0.mk (Kd.R_below (by (with_reducible repeat (first | apply Kd.R_alloc | apply Kd.R_drewN | apply Kd.R_drew)); exact HO_171001.out) hb); have n2_ := Aside0.mk (Kd.R_below (by (with_reducible repeat (first | apply Kd.R_alloc | apply Kd.R_drewN | apply Kd.R_drew)); exact HO_188001.out) hb); have n3_ := Aside0.mk (Kd.R_below (by (with_reducible repeat (first | apply Kd.R_alloc | apply Kd.R_drewN | apply Kd.R_drew)); exact HO207.out) hb); have n4_ := Aside0.mk (blk_below (g := gb170) (o := .cells #[.int .u64 x171000_2, .slice Ao48 x171001_2.length co48] 26 (0, 0)) (by (with_reducible repeat (first | refine blk_drewN ?_ _ | refine blk_drew ?_ | refine blk_alloc ?_ _)); exact BK170.out) hb); have n5_ := Aside0.mk (blk_below (g := gb187) (o := .cells #[.int .u64 t182, .slice Ao54 t183.length co54] 26 (0, 0)) (by (with_reducible repeat (first | refine blk_drewN ?_ _ | refine blk_drew ?_ | refine blk_alloc ?_ _)); exact BK187.out) hb); have n6_ := Aside0.mk (below_step (by repeat (first | (with_reducible first | exact HB.out | apply below_alloc | apply pw_below_drewN | apply below_drew1 | refine below_set ?_ GE170.out | refine below_set ?_ GE187.out) | exact HB.out)) hb); have n7_ := Aside0.mk (hbox); have n8_ := Aside0.mk ((by rw [hg]; exact (below_size (by repeat (first | (with_reducible first | exact HB.out | apply below_alloc | apply pw_below_drewN | apply below_drew1 | refine below_set ?_ GE170.out | refine below_set ?_ GE187.out) | exact HB.out))) : w.heap.size ≤ gb209)); have n9_ := Aside0.mk ((by rw [hg]; exact (below_size (by repeat (first | (with_reducible first | exact HB.out | apply below_alloc | apply pw_below_drewN | apply below_drew1 | refine below_set ?_ GE170.out | refine below_set ?_ GE187.out) | exact HB.out))) : w.heap.size ≤ gb209)); have n10_ := Aside0.mk ((by rw [hg]; exact Nat.ne_of_lt (blk_lt (g := gb170) (o := .cells #[.int .u64 x171000_2, .slice Ao48 x171001_2.length co48] 26 (0, 0)) (by (with_reducible repeat (first | refine blk_drewN ?_ _ | refine blk_drew ?_ | refine blk_alloc ?_ _)); exact BK170.out)) : gb170 ≠ gb209)); have n11_ := Aside0.mk ((by rw [hg]; exact Nat.ne_of_gt (blk_lt (g := gb170) (o := .cells #[.int .u64 x171000_2, .slice Ao48 x171001_2.length co48] 26 (0, 0)) (by (with_reducible repeat (first | refine blk_drewN ?_ _ | refine blk_drew ?_ | refine blk_alloc ?_ _)); exact BK170.out)) : gb209 ≠ gb170)); have n12_ := Aside0.mk ((by rw [hg]; exact Nat.ne_of_lt (blk_lt (g := gb187) (o := .cells #[.int .u64 t182, .slice Ao54 t183.length co54] 26 (0, 0)) (by (with_reducible repeat (first | refine blk_drewN ?_ _ | refine blk_drew ?_ | refine blk_alloc ?_ _)); exact BK187.out)) : gb187 ≠ gb209)); have n13_ := Aside0.mk ((by rw [hg]; exact Nat.ne_of_gt (blk_lt (g := gb187) (o := .cells #[.int .u64 t182, .slice Ao54 t183.length co54] 26 (0, 0)) (by (with_reducible repeat (first | refine blk_drewN ?_ _ | refine blk_drew ?_ | refine blk_alloc ?_ _)); exact BK187.out)) : gb209 ≠ gb187)); clear HO_92; clear HO_171001; clear HO_188001; clear HO207; clear BK170; clear BK187; clear HB; have HO_92 := n0_; have HO_171001 := n1_; have HO_188001 := n2_; have HO207 := n3_; have BK170 := n4_; have BK187 := n5_; have HB := n6_; have BK209 := n7_; have GW209 := n8_; have GE209 := n9_; have NB170_209 := n10_; have NB209_170 := n11_; have NB187_209 := n12_; have NB209_187 := n13_; clear n0_ n1_ n2_ n3_ n4_ n5_ n6_ n7_ n8_ n9_ n10_ n11_ n12_ n13_; clear hb hbox hg; have hnb102 := NB209_170.out; have hnc102 := NB170_209.out; have hnb103 := NB209_187.out; have hnc103 := NB187_209.out; have hcz104_0 : w101.cell? ⟨gb209, 0, none⟩ = some (.int .u64 0) := (blk_cell BK209.out 0).trans rfl; have hcz104_1 : w101.cell? ⟨gb209, 1, none⟩ = some (.slice none 0 0) := (blk_cell BK209.out 1).trans rfl; have hfz104_0 := blk_frozen BK209.out 0; have hfz104_1 := blk_frozen BK209.out 1; obtain ⟨Ao105, co105, eo105⟩ := Kd.R_slice HO207.out; subst eo105))
                have n0_ : Aside0 (Kd.R (Kd.int .i64) 3 ((w101.setCell ⟨gb209, 0, none⟩ (.int .u64 t204)).setCell ⟨gb209, 1, none⟩ (.slice Ao105 t205.length co105)) w.heap.size (fun _ => True) (.slice Ao83 t196.length co83) t196) := ⟨by (with_reducible repeat (first | apply Kd.R_alloc | apply Kd.R_drewN | apply Kd.R_drew)); exact Kd.R_mono (Kd.R_far (p := ⟨gb209, 1, none⟩) (Kd.R_far (p := ⟨gb209, 0, none⟩) (Kd.R_types HO_92.out BK209.out (by decide)) (fun _ hk => hk.2) (.int .u64 t204)) (fun _ hk => hk.2) (.slice Ao105 t205.length co105)) (fun _ hk => trivial)⟩
                have n1_ : Aside0 (Kd.R Kd.bool 4 ((w101.setCell ⟨gb209, 0, none⟩ (.int .u64 t204)).setCell ⟨gb209, 1, none⟩ (.slice Ao105 t205.length co105)) w.heap.size (fun k_ => some k_ ≠ (.slice Ao54 t183.length co54 : Value).ownBlock ∧ some k_ ≠ (.slice Ao105 t205.length co105 : Value).ownBlock) (.slice Ao48 x171001_2.length co48) x171001_2) := ⟨by (with_reducible repeat (first | apply Kd.R_alloc | apply Kd.R_drewN | apply Kd.R_drew)); exact Kd.R_mono (Kd.R_far (p := ⟨gb209, 1, none⟩) (Kd.R_far (p := ⟨gb209, 0, none⟩) (Kd.R_types HO_171001.out BK209.out (by decide)) (fun _ hk => hk.2) (.int .u64 t204)) (fun _ hk => hk.2) (.slice Ao105 t205.length co105)) (fun _ hk => ⟨hk.1.1, hk.1.2⟩)⟩
                have n2_ : Aside0 (Kd.R Kd.bool 4 ((w101.setCell ⟨gb209, 0, none⟩ (.int .u64 t204)).setCell ⟨gb209, 1, none⟩ (.slice Ao105 t205.length co105)) w.heap.size (fun k_ => some k_ ≠ (.slice Ao48 x171001_2.length co48 : Value).ownBlock ∧ some k_ ≠ (.slice Ao105 t205.length co105 : Value).ownBlock) (.slice Ao54 t183.length co54) t183) := ⟨by (with_reducible repeat (first | apply Kd.R_alloc | apply Kd.R_drewN | apply Kd.R_drew)); exact Kd.R_mono (Kd.R_far (p := ⟨gb209, 1, none⟩) (Kd.R_far (p := ⟨gb209, 0, none⟩) (Kd.R_types HO_188001.out BK209.out (by decide)) (fun _ hk => hk.2) (.int .u64 t204)) (fun _ hk => hk.2) (.slice Ao105 t205.length co105)) (fun _ hk => ⟨hk.1.1, hk.1.2⟩)⟩
                have n3_ : Aside0 (Kd.R Kd.bool 4 ((w101.setCell ⟨gb209, 0, none⟩ (.int .u64 t204)).setCell ⟨gb209, 1, none⟩ (.slice Ao105 t205.length co105)) w.heap.size (fun k_ => some k_ ≠ (.slice Ao48 x171001_2.length co48 : Value).ownBlock ∧ some k_ ≠ (.slice Ao54 t183.length co54 : Value).ownBlock) (.slice Ao105 t205.length co105) t205) := ⟨by (with_reducible repeat (first | apply Kd.R_alloc | apply Kd.R_drewN | apply Kd.R_drew)); exact Kd.R_mono (Kd.R_far (p := ⟨gb209, 1, none⟩) (Kd.R_far (p := ⟨gb209, 0, none⟩) (Kd.R_types HO207.out BK209.out (by decide)) (fun _ hk => hk.2) (.int .u64 t204)) (fun _ hk => hk.2) (.slice Ao105 t205.length co105)) (fun _ hk => ⟨hk.1.1.2, hk.1.2⟩)⟩
                have n4_ : Aside0 (((w101.setCell ⟨gb209, 0, none⟩ (.int .u64 t204)).setCell ⟨gb209, 1, none⟩ (.slice Ao105 t205.length co105)).heap[gb170]? = some (.cells #[.int .u64 x171000_2, .slice Ao48 x171001_2.length co48] 26 (0, 0))) := ⟨by (with_reducible repeat (first | refine blk_drewN ?_ _ | refine blk_drew ?_ | refine blk_alloc ?_ _)); refine blk_far ?_ NB170_209.out _; (with_reducible repeat (first | refine blk_drewN ?_ _ | refine blk_drew ?_ | refine blk_alloc ?_ _)); refine blk_far ?_ NB170_209.out _; (with_reducible repeat (first | refine blk_drewN ?_ _ | refine blk_drew ?_ | refine blk_alloc ?_ _)); exact BK170.out⟩
                have n5_ : Aside0 (((w101.setCell ⟨gb209, 0, none⟩ (.int .u64 t204)).setCell ⟨gb209, 1, none⟩ (.slice Ao105 t205.length co105)).heap[gb187]? = some (.cells #[.int .u64 t182, .slice Ao54 t183.length co54] 26 (0, 0))) := ⟨by (with_reducible repeat (first | refine blk_drewN ?_ _ | refine blk_drew ?_ | refine blk_alloc ?_ _)); refine blk_far ?_ NB187_209.out _; (with_reducible repeat (first | refine blk_drewN ?_ _ | refine blk_drew ?_ | refine blk_alloc ?_ _)); refine blk_far ?_ NB187_209.out _; (with_reducible repeat (first | refine blk_drewN ?_ _ | refine blk_drew ?_ | refine blk_alloc ?_ _)); exact BK187.out⟩
                have n6_ : Aside0 (((w101.setCell ⟨gb209, 0, none⟩ (.int .u64 t204)).setCell ⟨gb209, 1, none⟩ (.slice Ao105 t205.length co105)).heap[gb209]? = some (.cells #[.int .u64 t204, .slice Ao105 t205.length co105] 26 (0, 0))) := ⟨by (with_reducible repeat (first | refine blk_drewN ?_ _ | refine blk_drew ?_ | refine blk_alloc ?_ _)); refine blk_put (cs := #[.int .u64 t204, .slice none 0 0]) ?_ 1 _ rfl; (with_reducible repeat (first | refine blk_drewN ?_ _ | refine blk_drew ?_ | refine blk_alloc ?_ _)); refine blk_put (cs := #[.int .u64 0, .slice none 0 0]) ?_ 0 _ rfl; (with_reducible repeat (first | refine blk_drewN ?_ _ | refine blk_drew ?_ | refine blk_alloc ?_ _)); exact BK209.out⟩
                have n7_ : Aside0 (Below w.heap.size w ((w101.setCell ⟨gb209, 0, none⟩ (.int .u64 t204)).setCell ⟨gb209, 1, none⟩ (.slice Ao105 t205.length co105))) := ⟨by repeat (first | (with_reducible first | exact HB.out | apply below_alloc | apply pw_below_drewN | apply below_drew1 | refine below_set ?_ GE170.out | refine below_set ?_ GE187.out | refine below_set ?_ GE209.out) | exact HB.out)⟩
                (try clear HO_92)
                (try clear HO_171001)
                (try clear HO_188001)
                (try clear HO207)
                (try clear BK170)
                (try clear BK187)
                (try clear BK209)
                (try clear HB)
                generalize ((w101.setCell ⟨gb209, 0, none⟩ (.int .u64 t204)).setCell ⟨gb209, 1, none⟩ (.slice Ao105 t205.length co105)) = w106 at n0_ n1_ n2_ n3_ n4_ n5_ n6_ n7_ ⊢
                have HO_92 := n0_
                have HO_171001 := n1_
                have HO_188001 := n2_
                have HO207 := n3_
                have BK170 := n4_
                have BK187 := n5_
                have BK209 := n6_
                have HB := n7_
                clear n0_ n1_ n2_ n3_ n4_ n5_ n6_ n7_
                have n0_ := Aside0.mk (Kd.R_drew HO_92.out)
                have n1_ := Aside0.mk (Kd.R_drew HO_171001.out)
                have n2_ := Aside0.mk (Kd.R_drew HO_188001.out)
                have n3_ := Aside0.mk (Kd.R_drew HO207.out)
                have n4_ := Aside0.mk (blk_drew BK170.out)
                have n5_ := Aside0.mk (blk_drew BK187.out)
                have n6_ := Aside0.mk (blk_drew BK209.out)
                have n7_ := Aside0.mk (below_drew1 HB.out)
                clear HO_92
                clear HO_171001
                clear HO_188001
                clear HO207
                clear BK170
                clear BK187
                clear BK209
                clear HB
                have HO_92 := n0_
                have HO_171001 := n1_
                have HO_188001 := n2_
                have HO207 := n3_
                have BK170 := n4_
                have BK187 := n5_
                have BK209 := n6_
                have HB := n7_
                clear n0_ n1_ n2_ n3_ n4_ n5_ n6_ n7_
                refine start_ (n := 16) (S := fun w' => True) (ds := []) #[false,false,false,false,false,false,false,false,false,false,false,false,false,false,false,false] (by kernel_rfl) rfl rfl trivial (fun hHeld => ?_); refine with_tabW tillrolllaw09_BbtBack.tab23 tillrolllaw09_BbtBack.bits23 (fun HT_ HW_ => ?_)
                generalize w106.drew = w107 at HO_92 HO_171001 HO_188001 HO207 BK170 BK187 BK209 HB hHeld ⊢
                refine pure_ (i := 0) (N := some 115) (v := ?_) (a' := ?_) #[true,false,false,false,false,false,false,false,false,false,false,false,false,false,false,false] rfl rfl (any_of HT_.out (by kernel_rfl)) (fun _ _ _ h => h) (Or.inl ⟨by rfl, ?_⟩) ?_ ?_
                rotate_left
                · intro w'; go_simp; with_reducible rfl
                rotate_left
                · simp only [Act.put, sS, s0_, s1_, i64_w, i32_w]; rfl
                refine pure_ (i := 1) (N := some 116) (v := ?_) (a' := ?_) #[true,true,false,false,false,false,false,false,false,false,false,false,false,false,false,false] rfl rfl (any_of HT_.out (by kernel_rfl)) (fun _ _ _ h => h) (Or.inl ⟨by rfl, ?_⟩) ?_ ?_
                rotate_left
                · intro w'; go_simp; with_reducible rfl
                rotate_left
                · simp only [Act.put, sS, s0_, s1_, i64_w, i32_w]; rfl
                refine pure_ (i := 2) (N := some 117) (v := ?_) (a' := ?_) #[true,true,true,false,false,false,false,false,false,false,false,false,false,false,false,false] rfl rfl (any_of HT_.out (by kernel_rfl)) (fun _ _ _ h => h) (Or.inl ⟨by rfl, ?_⟩) ?_ ?_
                rotate_left
                · intro w'; go_simp; with_reducible rfl
                rotate_left
                · simp only [Act.put, sS, s0_, s1_, i64_w, i32_w]; rfl
                refine pure_ (i := 3) (N := some 118) (v := undef) (a' := ?_) #[true,true,true,true,false,false,false,false,false,false,false,false,false,false,false,false] rfl rfl (any_of HT_.out (by kernel_rfl)) (fun _ _ _ h => h) (Or.inr ⟨by rfl, rfl⟩) ?_ ?_
                rotate_left
                · simp only [Act.put, sS, s0_, s1_, i64_w, i32_w]; rfl
                refine pure_ (i := 4) (N := some 119) (v := undef) (a' := ?_) #[true,true,true,true,true,false,false,false,false,false,false,false,false,false,false,false] rfl rfl (any_of HT_.out (by kernel_rfl)) (fun _ _ _ h => h) (Or.inr ⟨by rfl, rfl⟩) ?_ ?_
                rotate_left
                · simp only [Act.put, sS, s0_, s1_, i64_w, i32_w]; rfl
                refine pure_ (i := 5) (N := some 120) (v := undef) (a' := ?_) #[true,true,true,true,true,true,false,false,false,false,false,false,false,false,false,false] rfl rfl (any_of HT_.out (by kernel_rfl)) (fun _ _ _ h => h) (Or.inr ⟨by rfl, rfl⟩) ?_ ?_
                rotate_left
                · simp only [Act.put, sS, s0_, s1_, i64_w, i32_w]; rfl
                refine pure_ (i := 6) (N := some 121) (v := undef) (a' := ?_) #[true,true,true,true,true,true,true,false,false,false,false,false,false,false,false,false] rfl rfl (any_of HT_.out (by kernel_rfl)) (fun _ _ _ h => h) (Or.inr ⟨by rfl, rfl⟩) ?_ ?_
                rotate_left
                · simp only [Act.put, sS, s0_, s1_, i64_w, i32_w]; rfl
                refine pure_ (i := 7) (N := some 122) (v := undef) (a' := ?_) #[true,true,true,true,true,true,true,true,false,false,false,false,false,false,false,false] rfl rfl (any_of HT_.out (by kernel_rfl)) (fun _ _ _ h => h) (Or.inr ⟨by rfl, rfl⟩) ?_ ?_
                rotate_left
                · simp only [Act.put, sS, s0_, s1_, i64_w, i32_w]; rfl
                refine pure_ (i := 8) (N := some 123) (v := undef) (a' := ?_) #[true,true,true,true,true,true,true,true,true,false,false,false,false,false,false,false] rfl rfl (any_of HT_.out (by kernel_rfl)) (fun _ _ _ h => h) (Or.inr ⟨by rfl, rfl⟩) ?_ ?_
                rotate_left
                · simp only [Act.put, sS, s0_, s1_, i64_w, i32_w]; rfl
                refine pure_ (i := 9) (N := some 124) (v := undef) (a' := ?_) #[true,true,true,true,true,true,true,true,true,true,false,false,false,false,false,false] rfl rfl (any_of HT_.out (by kernel_rfl)) (fun _ _ _ h => h) (Or.inr ⟨by rfl, rfl⟩) ?_ ?_
                rotate_left
                · simp only [Act.put, sS, s0_, s1_, i64_w, i32_w]; rfl
                refine pure_ (i := 10) (N := some 125) (v := undef) (a' := ?_) #[true,true,true,true,true,true,true,true,true,true,true,false,false,false,false,false] rfl rfl (any_of HT_.out (by kernel_rfl)) (fun _ _ _ h => h) (Or.inr ⟨by rfl, rfl⟩) ?_ ?_
                rotate_left
                · simp only [Act.put, sS, s0_, s1_, i64_w, i32_w]; rfl
                refine pure_ (i := 11) (N := some 126) (v := undef) (a' := ?_) #[true,true,true,true,true,true,true,true,true,true,true,true,false,false,false,false] rfl rfl (any_of HT_.out (by kernel_rfl)) (fun _ _ _ h => h) (Or.inr ⟨by rfl, rfl⟩) ?_ ?_
                rotate_left
                · simp only [Act.put, sS, s0_, s1_, i64_w, i32_w]; rfl
                refine pure_ (i := 12) (N := some 127) (v := undef) (a' := ?_) #[true,true,true,true,true,true,true,true,true,true,true,true,true,false,false,false] rfl rfl (any_of HT_.out (by kernel_rfl)) (fun _ _ _ h => h) (Or.inr ⟨by rfl, rfl⟩) ?_ ?_
                rotate_left
                · simp only [Act.put, sS, s0_, s1_, i64_w, i32_w]; rfl
                refine pure_ (i := 13) (N := some 128) (v := undef) (a' := ?_) #[true,true,true,true,true,true,true,true,true,true,true,true,true,true,false,false] rfl rfl (any_of HT_.out (by kernel_rfl)) (fun _ _ _ h => h) (Or.inr ⟨by rfl, rfl⟩) ?_ ?_
                rotate_left
                · simp only [Act.put, sS, s0_, s1_, i64_w, i32_w]; rfl
                refine pure_ (i := 14) (N := some 129) (v := ?_) (a' := ?_) #[true,true,true,true,true,true,true,true,true,true,true,true,true,true,true,false] rfl rfl (any_of HT_.out (by kernel_rfl)) (fun _ _ _ h => h) (Or.inl ⟨by rfl, ?_⟩) ?_ ?_
                rotate_left
                · intro w'; go_simp; with_reducible rfl
                rotate_left
                · simp only [Act.put, sS, s0_, s1_, i64_w, i32_w]; rfl
                refine pure_ (i := 15) (N := some 6) (v := ?_) (a' := ?_) #[true,true,true,true,true,true,true,true,true,true,true,true,true,true,true,true] rfl rfl (any_of HT_.out (by kernel_rfl)) (fun _ _ _ h => h) (Or.inl ⟨by rfl, ?_⟩) ?_ ?_
                rotate_left
                · intro w'; go_simp; with_reducible rfl
                rotate_left
                · simp only [Act.put, sS, s0_, s1_, i64_w, i32_w]; rfl
                refine done_ (done_of HT_.out (by kernel_rfl)) ?_
                try go_wp2
                go_ret
                exact ⟨by first | rfl | (simp [errW_none, errW_some] <;> rfl) | (simp only [← hji15]; first | rfl | (simp [errW_none, errW_some] <;> rfl)) | (simp [*, errW_none, errW_some] <;> rfl), by repeat (first | (with_reducible first | exact HB.out | apply below_alloc | apply pw_below_drewN | apply below_drew1 | refine below_set ?_ GE170.out | refine below_set ?_ GE187.out | refine below_set ?_ GE209.out) | exact HB.out)⟩
               ·
                rw [if_neg c99] at H
                have c99b0 : (t208 == 4) = false := beq_eq_false_iff_ne.mpr c99
                have c99b1 : (t208 != 4) = true := bne_iff_ne.mpr c99
                by_cases c108 : t208 = 0
                ·
                 rw [if_pos c108] at H
                 have c108b0 : (t208 == 0) = true := beq_iff_eq.mpr c108
                 have c108b1 : (t208 != 0) = false := bne_eq_false_iff_eq.mpr c108
                 clear c108
                 replace H := Option.bind_eq_some_iff.mp H
                 obtain ⟨t210, A1090, H⟩ := H
                 replace H : ((bbt_Table_List.f k4 x171000_2 x171001_2).bind fun t213 => (some ((t210.length : Int) == (t213.length : Int)))) = some r := H
                 have A109 := Aside0.mk A1090
                 clear A1090
                 replace H := Option.bind_eq_some_iff.mp H
                 obtain ⟨t213, A1100, H⟩ := H
                 replace H : (some ((t210.length : Int) == (t213.length : Int))) = some r := H
                 have A110 := Aside0.mk A1100
                 clear A1100
                 obtain rfl := Option.some.inj H
                 try go_wp2_with (first | ((with_reducible refine gate_callee (f := 15) rfl ?_); refine goesL_ (some 112) rfl rfl Try.func15 (by kernel_rfl) rfl #[.string t180, .int .i64 (wrap64 (1 + (wrap64 (a2))))] rfl (by (try simp only [List.map_toArray, List.map_cons, List.map_nil]); first | done | rfl | (simp only [List.length_drop, List.length_take]; rfl) | (simp only [ByteArray.size_append]; rfl) | (simp only [ByteArray.size_extract]; rfl)) ?_; (with_reducible refine (bbt_Parse.calls k4 t180 (wrap64 (1 + (wrap64 (a2)))) t204 t205 t208 _ A98.out).mono ?_); rintro e w111 ⟨v206, rfl, ho0, hb⟩; refine ⟨_, rfl, ?_⟩; have n0_ := Aside0.mk (Kd.R_below (by (with_reducible repeat (first | apply Kd.R_alloc | apply Kd.R_drewN | apply Kd.R_drew)); exact HO_92.out) hb); have n1_ := Aside0.mk (Kd.R_elder' (by (with_reducible repeat (first | apply Kd.R_alloc | apply Kd.R_drewN | apply Kd.R_drew)); exact HO_171001.out) (Kd.R_base ho0) hb); have n2_ := Aside0.mk (Kd.R_elder' (by (with_reducible repeat (first | apply Kd.R_alloc | apply Kd.R_drewN | apply Kd.R_drew)); exact HO_188001.out) (Kd.R_base ho0) hb); have n3_ := Aside0.mk (Kd.R_lower (Kd.R_new' (Kd.R_new' ho0 (Kd.R_lt (by (with_reducible repeat (first | apply Kd.R_alloc | apply Kd.R_drewN | apply Kd.R_drew)); exact HO_171001.out))) (Kd.R_lt (by (with_reducible repeat (first | apply Kd.R_alloc | apply Kd.R_drewN | apply Kd.R_drew)); exact HO_188001.out))) (below_size (by repeat (first | (with_reducible first | exact HB.out | apply below_alloc | apply pw_below_drewN | apply below_drew1 | refine below_set ?_ GE170.out | refine below_set ?_ GE187.out) | exact HB.out)))); have n4_ := Aside0.mk (blk_below (g := gb170) (o := .cells #[.int .u64 x171000_2, .slice Ao48 x171001_2.length co48] 26 (0, 0)) (by (with_reducible repeat (first | refine blk_drewN ?_ _ | refine blk_drew ?_ | refine blk_alloc ?_ _)); exact BK170.out) hb); have n5_ := Aside0.mk (blk_below (g := gb187) (o := .cells #[.int .u64 t182, .slice Ao54 t183.length co54] 26 (0, 0)) (by (with_reducible repeat (first | refine blk_drewN ?_ _ | refine blk_drew ?_ | refine blk_alloc ?_ _)); exact BK187.out) hb); have n6_ := Aside0.mk (below_step (by repeat (first | (with_reducible first | exact HB.out | apply below_alloc | apply pw_below_drewN | apply below_drew1 | refine below_set ?_ GE170.out | refine below_set ?_ GE187.out) | exact HB.out)) hb); clear HO_92; clear HO_171001; clear HO_188001; clear BK170; clear BK187; clear HB; have HO_92 := n0_; have HO_171001 := n1_; have HO_188001 := n2_; have HO207 := n3_; have BK170 := n4_; have BK187 := n5_; have HB := n6_; clear n0_ n1_ n2_ n3_ n4_ n5_ n6_; (try clear hb); (try clear hb2); (try clear hk); (try clear hi); (try clear ho0)) | ((with_reducible refine gate_dst (N := 19) rfl ?_); (try (refine gate_guard (by rfl) ?_; dsimp only)); refine box_event ?hg (N := 19) ?hd (cs := #[.int .u64 0, .slice none 0 0]) (t := 26) ?hr ?_; (case hd => rfl); (case hg => rfl); (case hr => first | (go_simp; done) | (go_simp; rfl)); intro gb209 hg w112 hbox hb; have n0_ := Aside0.mk (Kd.R_below (by (with_reducible repeat (first | apply Kd.R_alloc | apply Kd.R_drewN | apply Kd.R_drew)); exact HO_92.out) hb); have n1_ := Aside0.mk (Kd.R_below (by (with_reducible repeat (first | apply Kd.R_alloc | apply Kd.R_drewN | apply Kd.R_drew)); exact HO_171001.out) hb); have n2_ := Aside0.mk (Kd.R_below (by (with_reducible repeat (first | apply Kd.R_alloc | apply Kd.R_drewN | apply Kd.R_drew)); exact HO_188001.out) hb); have n3_ := Aside0.mk (Kd.R_below (by (with_reducible repeat (first | apply Kd.R_alloc | apply Kd.R_drewN | apply Kd.R_drew)); exact HO207.out) hb); have n4_ := Aside0.mk (blk_below (g := gb170) (o := .cells #[.int .u64 x171000_2, .slice Ao48 x171001_2.length co48] 26 (0, 0)) (by (with_reducible repeat (first | refine blk_drewN ?_ _ | refine blk_drew ?_ | refine blk_alloc ?_ _)); exact BK170.out) hb); have n5_ := Aside0.mk (blk_below (g := gb187) (o := .cells #[.int .u64 t182, .slice Ao54 t183.length co54] 26 (0, 0)) (by (with_reducible repeat (first | refine blk_drewN ?_ _ | refine blk_drew ?_ | refine blk_alloc ?_ _)); exact BK187.out) hb); have n6_ := Aside0.mk (below_step (by repeat (first | (with_reducible first | exact HB.out | apply below_alloc | apply pw_below_drewN | apply below_drew1 | refine below_set ?_ GE170.out | refine below_set ?_ GE187.out) | exact HB.out)) hb); have n7_ := Aside0.mk (hbox); have n8_ := Aside0.mk ((by rw [hg]; exact (below_size (by repeat (first | (with_reducible first | exact HB.out | apply below_alloc | apply pw_below_drewN | apply below_drew1 | refine below_set ?_ GE170.out | refine below_set ?_ GE187.out) | exact HB.out))) : w.heap.size ≤ gb209)); have n9_ := Aside0.mk ((by rw [hg]; exact (below_size (by repeat (first | (with_reducible first | exact HB.out | apply below_alloc | apply pw_below_drewN | apply below_drew1 | refine below_set ?_ GE170.out | refine below_set ?_ GE187.out) | exact HB.out))) : w.heap.size ≤ gb209)); have n10_ := Aside0.mk ((by rw [hg]; exact Nat.ne_of_lt (blk_lt (g := gb170) (o := .cells #[.int .u64 x171000_2, .slice Ao48 x171001_2.length co48] 26 (0, 0)) (by (with_reducible repeat (first | refine blk_drewN ?_ _ | refine blk_drew ?_ | refine blk_alloc ?_ _)); exact BK170.out)) : gb170 ≠ gb209)); have n11_ := Aside0.mk ((by rw [hg]; exact Nat.ne_of_gt (blk_lt (g := gb170) (o := .cells #[.int .u64 x171000_2, .slice Ao48 x171001_2.length co48] 26 (0, 0)) (by (with_reducible repeat (first | refine blk_drewN ?_ _ | refine blk_drew ?_ | refine blk_alloc ?_ _)); exact BK170.out)) : gb209 ≠ gb170)); have n12_ := Aside0.mk ((by rw [hg]; exact Nat.ne_of_lt (blk_lt (g := gb187) (o := .cells #[.int .u64 t182, .slice Ao54 t183.length co54] 26 (0, 0)) (by (with_reducible repeat (first | refine blk_drewN ?_ _ | refine blk_drew ?_ | refine blk_alloc ?_ _)); exact BK187.out)) : gb187 ≠ gb209)); have n13_ := Aside0.mk ((by rw [hg]; exact Nat.ne_of_gt (blk_lt (g := gb187) (o := .cells #[.int .u64 t182, .slice Ao54 t183.length co54] 26 (0, 0)) (by (with_reducible repeat (first | refine blk_drewN ?_ _ | refine blk_drew ?_ | refine blk_alloc ?_ _)); exact BK187.out)) : gb209 ≠ gb187)); clear HO_92; clear HO_171001; clear HO_188001; clear HO207; clear BK170; clear BK187; clear HB; have HO_92 := n0_; have HO_171001 := n1_; have HO_188001 := n2_; have HO207 := n3_; have BK170 := n4_; have BK187 := n5_; have HB := n6_; have BK209 := n7_; have GW209 := n8_; have GE209 := n9_; have NB170_209 := n10_; have NB209_170 := n11_; have NB187_209 := n12_; have NB209_187 := n13_; clear n0_ n1_ n2_ n3_ n4_ n5_ n6_ n7_ n8_ n9_ n10_ n11_ n12_ n13_; clear hb hbox hg; have hnb113 := NB209_170.out; have hnc113 := NB170_209.out; have hnb114 := NB209_187.out; have hnc114 := NB187_209.out; have hcz115_0 : w112.cell? ⟨gb209, 0, none⟩ = some (.int .u64 0) := (blk_cell BK209.out 0).trans rfl; have hcz115_1 : w112.cell? ⟨gb209, 1, none⟩ = some (.slice none 0 0) := (blk_cell BK209.out 1).trans rfl; have hfz115_0 := blk_frozen BK209.out 0; have hfz115_1 := blk_frozen BK209.out 1; obtain ⟨Ao116, co116, eo116⟩ := Kd.R_slice HO207.out; subst eo116))
                 have n0_ : Aside0 (Kd.R (Kd.int .i64) 3 ((w112.setCell ⟨gb209, 0, none⟩ (.int .u64 t204)).setCell ⟨gb209, 1, none⟩ (.slice Ao116 t205.length co116)) w.heap.size (fun _ => True) (.slice Ao83 t196.length co83) t196) := ⟨by (with_reducible repeat (first | apply Kd.R_alloc | apply Kd.R_drewN | apply Kd.R_drew)); exact Kd.R_mono (Kd.R_far (p := ⟨gb209, 1, none⟩) (Kd.R_far (p := ⟨gb209, 0, none⟩) (Kd.R_types HO_92.out BK209.out (by decide)) (fun _ hk => hk.2) (.int .u64 t204)) (fun _ hk => hk.2) (.slice Ao116 t205.length co116)) (fun _ hk => trivial)⟩
                 have n1_ : Aside0 (Kd.R Kd.bool 4 ((w112.setCell ⟨gb209, 0, none⟩ (.int .u64 t204)).setCell ⟨gb209, 1, none⟩ (.slice Ao116 t205.length co116)) w.heap.size (fun k_ => some k_ ≠ (.slice Ao54 t183.length co54 : Value).ownBlock ∧ some k_ ≠ (.slice Ao116 t205.length co116 : Value).ownBlock) (.slice Ao48 x171001_2.length co48) x171001_2) := ⟨by (with_reducible repeat (first | apply Kd.R_alloc | apply Kd.R_drewN | apply Kd.R_drew)); exact Kd.R_mono (Kd.R_far (p := ⟨gb209, 1, none⟩) (Kd.R_far (p := ⟨gb209, 0, none⟩) (Kd.R_types HO_171001.out BK209.out (by decide)) (fun _ hk => hk.2) (.int .u64 t204)) (fun _ hk => hk.2) (.slice Ao116 t205.length co116)) (fun _ hk => ⟨hk.1.1, hk.1.2⟩)⟩
                 have n2_ : Aside0 (Kd.R Kd.bool 4 ((w112.setCell ⟨gb209, 0, none⟩ (.int .u64 t204)).setCell ⟨gb209, 1, none⟩ (.slice Ao116 t205.length co116)) w.heap.size (fun k_ => some k_ ≠ (.slice Ao48 x171001_2.length co48 : Value).ownBlock ∧ some k_ ≠ (.slice Ao116 t205.length co116 : Value).ownBlock) (.slice Ao54 t183.length co54) t183) := ⟨by (with_reducible repeat (first | apply Kd.R_alloc | apply Kd.R_drewN | apply Kd.R_drew)); exact Kd.R_mono (Kd.R_far (p := ⟨gb209, 1, none⟩) (Kd.R_far (p := ⟨gb209, 0, none⟩) (Kd.R_types HO_188001.out BK209.out (by decide)) (fun _ hk => hk.2) (.int .u64 t204)) (fun _ hk => hk.2) (.slice Ao116 t205.length co116)) (fun _ hk => ⟨hk.1.1, hk.1.2⟩)⟩
                 have n3_ : Aside0 (Kd.R Kd.bool 4 ((w112.setCell ⟨gb209, 0, none⟩ (.int .u64 t204)).setCell ⟨gb209, 1, none⟩ (.slice Ao116 t205.length co116)) w.heap.size (fun k_ => some k_ ≠ (.slice Ao48 x171001_2.length co48 : Value).ownBlock ∧ some k_ ≠ (.slice Ao54 t183.length co54 : Value).ownBlock) (.slice Ao116 t205.length co116) t205) := ⟨by (with_reducible repeat (first | apply Kd.R_alloc | apply Kd.R_drewN | apply Kd.R_drew)); exact Kd.R_mono (Kd.R_far (p := ⟨gb209, 1, none⟩) (Kd.R_far (p := ⟨gb209, 0, none⟩) (Kd.R_types HO207.out BK209.out (by decide)) (fun _ hk => hk.2) (.int .u64 t204)) (fun _ hk => hk.2) (.slice Ao116 t205.length co116)) (fun _ hk => ⟨hk.1.1.2, hk.1.2⟩)⟩
                 have n4_ : Aside0 (((w112.setCell ⟨gb209, 0, none⟩ (.int .u64 t204)).setCell ⟨gb209, 1, none⟩ (.slice Ao116 t205.length co116)).heap[gb170]? = some (.cells #[.int .u64 x171000_2, .slice Ao48 x171001_2.length co48] 26 (0, 0))) := ⟨by (with_reducible repeat (first | refine blk_drewN ?_ _ | refine blk_drew ?_ | refine blk_alloc ?_ _)); refine blk_far ?_ NB170_209.out _; (with_reducible repeat (first | refine blk_drewN ?_ _ | refine blk_drew ?_ | refine blk_alloc ?_ _)); refine blk_far ?_ NB170_209.out _; (with_reducible repeat (first | refine blk_drewN ?_ _ | refine blk_drew ?_ | refine blk_alloc ?_ _)); exact BK170.out⟩
                 have n5_ : Aside0 (((w112.setCell ⟨gb209, 0, none⟩ (.int .u64 t204)).setCell ⟨gb209, 1, none⟩ (.slice Ao116 t205.length co116)).heap[gb187]? = some (.cells #[.int .u64 t182, .slice Ao54 t183.length co54] 26 (0, 0))) := ⟨by (with_reducible repeat (first | refine blk_drewN ?_ _ | refine blk_drew ?_ | refine blk_alloc ?_ _)); refine blk_far ?_ NB187_209.out _; (with_reducible repeat (first | refine blk_drewN ?_ _ | refine blk_drew ?_ | refine blk_alloc ?_ _)); refine blk_far ?_ NB187_209.out _; (with_reducible repeat (first | refine blk_drewN ?_ _ | refine blk_drew ?_ | refine blk_alloc ?_ _)); exact BK187.out⟩
                 have n6_ : Aside0 (((w112.setCell ⟨gb209, 0, none⟩ (.int .u64 t204)).setCell ⟨gb209, 1, none⟩ (.slice Ao116 t205.length co116)).heap[gb209]? = some (.cells #[.int .u64 t204, .slice Ao116 t205.length co116] 26 (0, 0))) := ⟨by (with_reducible repeat (first | refine blk_drewN ?_ _ | refine blk_drew ?_ | refine blk_alloc ?_ _)); refine blk_put (cs := #[.int .u64 t204, .slice none 0 0]) ?_ 1 _ rfl; (with_reducible repeat (first | refine blk_drewN ?_ _ | refine blk_drew ?_ | refine blk_alloc ?_ _)); refine blk_put (cs := #[.int .u64 0, .slice none 0 0]) ?_ 0 _ rfl; (with_reducible repeat (first | refine blk_drewN ?_ _ | refine blk_drew ?_ | refine blk_alloc ?_ _)); exact BK209.out⟩
                 have n7_ : Aside0 (Below w.heap.size w ((w112.setCell ⟨gb209, 0, none⟩ (.int .u64 t204)).setCell ⟨gb209, 1, none⟩ (.slice Ao116 t205.length co116))) := ⟨by repeat (first | (with_reducible first | exact HB.out | apply below_alloc | apply pw_below_drewN | apply below_drew1 | refine below_set ?_ GE170.out | refine below_set ?_ GE187.out | refine below_set ?_ GE209.out) | exact HB.out)⟩
                 (try clear HO_92)
                 (try clear HO_171001)
                 (try clear HO_188001)
                 (try clear HO207)
                 (try clear BK170)
                 (try clear BK187)
                 (try clear BK209)
                 (try clear HB)
                 generalize ((w112.setCell ⟨gb209, 0, none⟩ (.int .u64 t204)).setCell ⟨gb209, 1, none⟩ (.slice Ao116 t205.length co116)) = w117 at n0_ n1_ n2_ n3_ n4_ n5_ n6_ n7_ ⊢
                 have HO_92 := n0_
                 have HO_171001 := n1_
                 have HO_188001 := n2_
                 have HO207 := n3_
                 have BK170 := n4_
                 have BK187 := n5_
                 have BK209 := n6_
                 have HB := n7_
                 clear n0_ n1_ n2_ n3_ n4_ n5_ n6_ n7_
                 have n0_ := Aside0.mk (Kd.R_drew HO_92.out)
                 have n1_ := Aside0.mk (Kd.R_drew HO_171001.out)
                 have n2_ := Aside0.mk (Kd.R_drew HO_188001.out)
                 have n3_ := Aside0.mk (Kd.R_drew HO207.out)
                 have n4_ := Aside0.mk (blk_drew BK170.out)
                 have n5_ := Aside0.mk (blk_drew BK187.out)
                 have n6_ := Aside0.mk (blk_drew BK209.out)
                 have n7_ := Aside0.mk (below_drew1 HB.out)
                 clear HO_92
                 clear HO_171001
                 clear HO_188001
                 clear HO207
                 clear BK170
                 clear BK187
                 clear BK209
                 clear HB
                 have HO_92 := n0_
                 have HO_171001 := n1_
                 have HO_188001 := n2_
                 have HO207 := n3_
                 have BK170 := n4_
                 have BK187 := n5_
                 have BK209 := n6_
                 have HB := n7_
                 clear n0_ n1_ n2_ n3_ n4_ n5_ n6_ n7_
                 refine start_ (n := 16) (S := fun w' => w'.cell? ⟨gb209, 0, none⟩ = some (.int .u64 t204) ∧ w'.cell? ⟨gb209, 1, none⟩ = some (.slice Ao116 t205.length co116) ∧ w'.cell? ⟨gb170, 0, none⟩ = some (.int .u64 x171000_2) ∧ w'.cell? ⟨gb170, 1, none⟩ = some (.slice Ao48 x171001_2.length co48)) (ds := []) #[false,false,false,false,false,false,false,false,false,false,false,false,false,false,false,false] (by kernel_rfl) rfl rfl ⟨(blk_cell BK209.out 0).trans rfl, (blk_cell BK209.out 1).trans rfl, (blk_cell BK170.out 0).trans rfl, (blk_cell BK170.out 1).trans rfl⟩ (fun hHeld => ?_); refine with_tabW tillrolllaw09_BbtBack.tab23 tillrolllaw09_BbtBack.bits23 (fun HT_ HW_ => ?_)
                 generalize w117.drew = w118 at HO_92 HO_171001 HO_188001 HO207 BK170 BK187 BK209 HB hHeld ⊢
                 refine pure_ (i := 0) (N := some 115) (v := ?_) (a' := ?_) #[true,false,false,false,false,false,false,false,false,false,false,false,false,false,false,false] rfl rfl (any_of HT_.out (by kernel_rfl)) (fun _ _ _ h => h) (Or.inl ⟨by rfl, ?_⟩) ?_ ?_
                 rotate_left
                 · intro w'; go_simp; with_reducible rfl
                 rotate_left
                 · simp only [Act.put, sS, s0_, s1_, i64_w, i32_w]; rfl
                 refine pure_ (i := 1) (N := some 116) (v := ?_) (a' := ?_) #[true,true,false,false,false,false,false,false,false,false,false,false,false,false,false,false] rfl rfl (any_of HT_.out (by kernel_rfl)) (fun _ _ _ h => h) (Or.inl ⟨by rfl, ?_⟩) ?_ ?_
                 rotate_left
                 · intro w'; go_simp; with_reducible rfl
                 rotate_left
                 · simp only [Act.put, sS, s0_, s1_, i64_w, i32_w]; rfl
                 refine pure_ (i := 2) (N := some 117) (v := ?_) (a' := ?_) #[true,true,true,false,false,false,false,false,false,false,false,false,false,false,false,false] rfl rfl (any_of HT_.out (by kernel_rfl)) (fun _ _ _ h => h) (Or.inl ⟨by rfl, ?_⟩) ?_ ?_
                 rotate_left
                 · intro w'; go_simp; with_reducible rfl
                 rotate_left
                 · simp only [Act.put, sS, s0_, s1_, i64_w, i32_w]; rfl
                 refine pure_ (i := 3) (N := some 118) (v := ?_) (a' := ?_) #[true,true,true,true,false,false,false,false,false,false,false,false,false,false,false,false] rfl rfl (any_of HT_.out (by kernel_rfl)) (fun _ _ _ h => h) (Or.inl ⟨by rfl, ?_⟩) ?_ ?_
                 rotate_left
                 · intro w'; go_simp; with_reducible rfl
                 rotate_left
                 · simp only [Act.put, sS, s0_, s1_, i64_w, i32_w]; rfl
                 refine pure_ (i := 4) (N := some 119) (v := ?_) (a' := ?_) #[true,true,true,true,true,false,false,false,false,false,false,false,false,false,false,false] rfl rfl (any_of HT_.out (by kernel_rfl)) (fun _ _ _ h => h) (Or.inl ⟨by rfl, ?_⟩) ?_ ?_
                 rotate_left
                 · intro w'; go_simp; with_reducible rfl
                 rotate_left
                 · simp only [Act.put, sS, s0_, s1_, i64_w, i32_w]; rfl
                 refine pure_ (i := 5) (N := some 120) (v := ?_) (a' := ?_) #[true,true,true,true,true,true,false,false,false,false,false,false,false,false,false,false] rfl rfl (any_of HT_.out (by kernel_rfl)) (fun _ _ _ h => h) (Or.inl ⟨by rfl, ?_⟩) ?_ ?_
                 rotate_left
                 · intro w'; go_simp; with_reducible rfl
                 rotate_left
                 · simp only [Act.put, sS, s0_, s1_, i64_w, i32_w]; rfl
                 refine take_ (i := 6) (N := some 121) (v := ?_) (a' := ?_) #[true,true,true,true,true,true,true,false,false,false,false,false,false,false,false,false] rfl rfl (take_ofW HT_.out HW_.out (by kernel_rfl)) (fun _ _ _ h => h) (Or.inl ⟨by rfl, ?_⟩) hHeld ?_ ?_
                 rotate_left
                 ·
                  rintro w' ⟨s0, s1, s2, s3⟩
                  go_simp
                  with_reducible rfl
                 rotate_left
                 · simp only [Act.put, sS, s0_, s1_, i64_w, i32_w]; rfl
                 refine take_ (i := 9) (N := some 124) (v := ?_) (a' := ?_) #[true,true,true,true,true,true,true,false,false,true,false,false,false,false,false,false] rfl rfl (take_ofW HT_.out HW_.out (by kernel_rfl)) (fun _ _ _ h => h) (Or.inl ⟨by rfl, ?_⟩) hHeld ?_ ?_
                 rotate_left
                 ·
                  rintro w' ⟨s0, s1, s2, s3⟩
                  go_simp
                  with_reducible rfl
                 rotate_left
                 · simp only [Act.put, sS, s0_, s1_, i64_w, i32_w]; rfl
                 refine one_ (i := 7) (N := some 122) #[true,true,true,true,true,true,true,true,false,true,false,false,false,false,false,false] rfl rfl (one_of HT_.out (by kernel_rfl)) (by decide) (fun K hK => ?_)
                 refine goes_ Try.func9 (by kernel_rfl) rfl #[.agg #[.int .u64 t204, .slice Ao116 t205.length co116]] (by rfl) rfl rfl (by (try simp only [List.map_toArray, List.map_cons, List.map_nil]); first | done | rfl | (simp only [List.length_drop, List.length_take]; rfl) | (simp only [ByteArray.size_append]; rfl) | (simp only [ByteArray.size_extract]; rfl)) ?_
                 with_reducible refine (bbt_Table_List.calls k4 t204 _ _ t205 t210 _ ?side1 ?side2 A109.out).mono ?_
                 (case side1 => repeat (first | exact (Kd.R_reads' HO207.out).2.2 | (with_reducible refine Kd.C_alloc ?_ _) | (with_reducible refine Kd.C_drewN ?_ _) | (with_reducible refine Kd.C_drew ?_)))
                 (case side2 => exact (Kd.R_reads' HO207.out).2.1)
                 rintro e w119 ⟨v211, rfl, ho0, hb⟩
                 refine ⟨_, rfl, ?_⟩
                 have n0_ := Aside0.mk (Kd.R_elder' (by (with_reducible repeat (first | apply Kd.R_alloc | apply Kd.R_drewN | apply Kd.R_drew)); exact HO_92.out) (Kd.R_base ho0) hb)
                 have n1_ := Aside0.mk (Kd.R_below (by (with_reducible repeat (first | apply Kd.R_alloc | apply Kd.R_drewN | apply Kd.R_drew)); exact HO_171001.out) hb)
                 have n2_ := Aside0.mk (Kd.R_below (by (with_reducible repeat (first | apply Kd.R_alloc | apply Kd.R_drewN | apply Kd.R_drew)); exact HO_188001.out) hb)
                 have n3_ := Aside0.mk (Kd.R_below (by (with_reducible repeat (first | apply Kd.R_alloc | apply Kd.R_drewN | apply Kd.R_drew)); exact HO207.out) hb)
                 have n4_ := Aside0.mk (Kd.R_lower (Kd.R_new' ho0 (Kd.R_lt (by (with_reducible repeat (first | apply Kd.R_alloc | apply Kd.R_drewN | apply Kd.R_drew)); exact HO_92.out))) (below_size (by repeat (first | (with_reducible first | exact HB.out | apply below_alloc | apply pw_below_drewN | apply below_drew1 | refine below_set ?_ GE170.out | refine below_set ?_ GE187.out | refine below_set ?_ GE209.out) | exact HB.out))))
                 have n5_ := Aside0.mk (blk_below (g := gb170) (o := .cells #[.int .u64 x171000_2, .slice Ao48 x171001_2.length co48] 26 (0, 0)) (by (with_reducible repeat (first | refine blk_drewN ?_ _ | refine blk_drew ?_ | refine blk_alloc ?_ _)); exact BK170.out) hb)
                 have n6_ := Aside0.mk (blk_below (g := gb187) (o := .cells #[.int .u64 t182, .slice Ao54 t183.length co54] 26 (0, 0)) (by (with_reducible repeat (first | refine blk_drewN ?_ _ | refine blk_drew ?_ | refine blk_alloc ?_ _)); exact BK187.out) hb)
                 have n7_ := Aside0.mk (blk_below (g := gb209) (o := .cells #[.int .u64 t204, .slice Ao116 t205.length co116] 26 (0, 0)) (by (with_reducible repeat (first | refine blk_drewN ?_ _ | refine blk_drew ?_ | refine blk_alloc ?_ _)); exact BK209.out) hb)
                 have n8_ := Aside0.mk (below_step (by repeat (first | (with_reducible first | exact HB.out | apply below_alloc | apply pw_below_drewN | apply below_drew1 | refine below_set ?_ GE170.out | refine below_set ?_ GE187.out | refine below_set ?_ GE209.out) | exact HB.out)) hb)
                 clear HO_92
                 clear HO_171001
                 clear HO_188001
                 clear HO207
                 clear BK170
                 clear BK187
                 clear BK209
                 clear HB
                 have HO_92 := n0_
                 have HO_171001 := n1_
                 have HO_188001 := n2_
                 have HO207 := n3_
                 have HO212 := n4_
                 have BK170 := n5_
                 have BK187 := n6_
                 have BK209 := n7_
                 have HB := n8_
                 clear n0_ n1_ n2_ n3_ n4_ n5_ n6_ n7_ n8_
                 (try clear hb)
                 (try clear hb2)
                 (try clear hk)
                 (try clear hi)
                 (try clear ho0)
                 obtain ⟨Ao120, co120, eo120⟩ := Kd.R_slice HO212.out
                 (first | subst eo120 | (injection eo120 with f1_ f2_ f3_; have f4_ := f1_.symm; have f5_ := f3_.symm; clear f1_ f2_ f3_; subst f4_; subst f5_))
                 refine hK.out _ _ ⟨(blk_cell BK209.out 0).trans rfl, (blk_cell BK209.out 1).trans rfl, (blk_cell BK170.out 0).trans rfl, (blk_cell BK170.out 1).trans rfl⟩ (fun hHeld => ?_)
                 clear hK K
                 refine norm_ (a' := ?_) ?_ ?_
                 rotate_left
                 ·
                  show Act.put _ (some 122) _ = _
                  simp only [Act.put, sS, s0_, s1_, i64_w, i32_w]
                  rfl
                 refine pure_ (i := 8) (N := some 123) (v := ?_) (a' := ?_) #[true,true,true,true,true,true,true,true,true,true,false,false,false,false,false,false] rfl rfl (any_of HT_.out (by kernel_rfl)) (fun _ _ _ h => h) (Or.inl ⟨by rfl, ?_⟩) ?_ ?_
                 rotate_left
                 · intro w'; go_simp; with_reducible rfl
                 rotate_left
                 · simp only [Act.put, sS, s0_, s1_, i64_w, i32_w]; rfl
                 refine one_ (i := 10) (N := some 125) #[true,true,true,true,true,true,true,true,true,true,true,false,false,false,false,false] rfl rfl (one_of HT_.out (by kernel_rfl)) (by decide) (fun K hK => ?_)
                 refine goes_ Try.func9 (by kernel_rfl) rfl #[.agg #[.int .u64 x171000_2, .slice Ao48 x171001_2.length co48]] (by rfl) rfl rfl (by (try simp only [List.map_toArray, List.map_cons, List.map_nil]); first | done | rfl | (simp only [List.length_drop, List.length_take]; rfl) | (simp only [ByteArray.size_append]; rfl) | (simp only [ByteArray.size_extract]; rfl)) ?_
                 with_reducible refine (bbt_Table_List.calls k4 x171000_2 _ _ x171001_2 t213 _ ?side1 ?side2 A110.out).mono ?_
                 (case side1 => repeat (first | exact (Kd.R_reads' HO_171001.out).2.2 | (with_reducible refine Kd.C_alloc ?_ _) | (with_reducible refine Kd.C_drewN ?_ _) | (with_reducible refine Kd.C_drew ?_)))
                 (case side2 => exact (Kd.R_reads' HO_171001.out).2.1)
                 rintro e w121 ⟨v214, rfl, ho0, hb⟩
                 refine ⟨_, rfl, ?_⟩
                 have n0_ := Aside0.mk (Kd.R_elder' (by (with_reducible repeat (first | apply Kd.R_alloc | apply Kd.R_drewN | apply Kd.R_drew)); exact HO_92.out) (Kd.R_base ho0) hb)
                 have n1_ := Aside0.mk (Kd.R_below (by (with_reducible repeat (first | apply Kd.R_alloc | apply Kd.R_drewN | apply Kd.R_drew)); exact HO_171001.out) hb)
                 have n2_ := Aside0.mk (Kd.R_below (by (with_reducible repeat (first | apply Kd.R_alloc | apply Kd.R_drewN | apply Kd.R_drew)); exact HO_188001.out) hb)
                 have n3_ := Aside0.mk (Kd.R_below (by (with_reducible repeat (first | apply Kd.R_alloc | apply Kd.R_drewN | apply Kd.R_drew)); exact HO207.out) hb)
                 have n4_ := Aside0.mk (Kd.R_elder' (by (with_reducible repeat (first | apply Kd.R_alloc | apply Kd.R_drewN | apply Kd.R_drew)); exact HO212.out) (Kd.R_base ho0) hb)
                 have n5_ := Aside0.mk (Kd.R_lower (Kd.R_new' (Kd.R_new' ho0 (Kd.R_lt (by (with_reducible repeat (first | apply Kd.R_alloc | apply Kd.R_drewN | apply Kd.R_drew)); exact HO_92.out))) (Kd.R_lt (by (with_reducible repeat (first | apply Kd.R_alloc | apply Kd.R_drewN | apply Kd.R_drew)); exact HO212.out))) (below_size (by repeat (first | (with_reducible first | exact HB.out | apply below_alloc | apply pw_below_drewN | apply below_drew1 | refine below_set ?_ GE170.out | refine below_set ?_ GE187.out | refine below_set ?_ GE209.out) | exact HB.out))))
                 have n6_ := Aside0.mk (blk_below (g := gb170) (o := .cells #[.int .u64 x171000_2, .slice Ao48 x171001_2.length co48] 26 (0, 0)) (by (with_reducible repeat (first | refine blk_drewN ?_ _ | refine blk_drew ?_ | refine blk_alloc ?_ _)); exact BK170.out) hb)
                 have n7_ := Aside0.mk (blk_below (g := gb187) (o := .cells #[.int .u64 t182, .slice Ao54 t183.length co54] 26 (0, 0)) (by (with_reducible repeat (first | refine blk_drewN ?_ _ | refine blk_drew ?_ | refine blk_alloc ?_ _)); exact BK187.out) hb)
                 have n8_ := Aside0.mk (blk_below (g := gb209) (o := .cells #[.int .u64 t204, .slice Ao116 t205.length co116] 26 (0, 0)) (by (with_reducible repeat (first | refine blk_drewN ?_ _ | refine blk_drew ?_ | refine blk_alloc ?_ _)); exact BK209.out) hb)
                 have n9_ := Aside0.mk (below_step (by repeat (first | (with_reducible first | exact HB.out | apply below_alloc | apply pw_below_drewN | apply below_drew1 | refine below_set ?_ GE170.out | refine below_set ?_ GE187.out | refine below_set ?_ GE209.out) | exact HB.out)) hb)
                 clear HO_92
                 clear HO_171001
                 clear HO_188001
                 clear HO207
                 clear HO212
                 clear BK170
                 clear BK187
                 clear BK209
                 clear HB
                 have HO_92 := n0_
                 have HO_171001 := n1_
                 have HO_188001 := n2_
                 have HO207 := n3_
                 have HO212 := n4_
                 have HO215 := n5_
                 have BK170 := n6_
                 have BK187 := n7_
                 have BK209 := n8_
                 have HB := n9_
                 clear n0_ n1_ n2_ n3_ n4_ n5_ n6_ n7_ n8_ n9_
                 (try clear hb)
                 (try clear hb2)
                 (try clear hk)
                 (try clear hi)
                 (try clear ho0)
                 obtain ⟨Ao122, co122, eo122⟩ := Kd.R_slice HO215.out
                 (first | subst eo122 | (injection eo122 with f1_ f2_ f3_; have f4_ := f1_.symm; have f5_ := f3_.symm; clear f1_ f2_ f3_; subst f4_; subst f5_))
                 refine hK.out _ _ ⟨(blk_cell BK209.out 0).trans rfl, (blk_cell BK209.out 1).trans rfl, (blk_cell BK170.out 0).trans rfl, (blk_cell BK170.out 1).trans rfl⟩ (fun hHeld => ?_)
                 clear hK K
                 refine norm_ (a' := ?_) ?_ ?_
                 rotate_left
                 ·
                  show Act.put _ (some 125) _ = _
                  simp only [Act.put, sS, s0_, s1_, i64_w, i32_w]
                  rfl
                 refine pure_ (i := 11) (N := some 126) (v := ?_) (a' := ?_) #[true,true,true,true,true,true,true,true,true,true,true,true,false,false,false,false] rfl rfl (any_of HT_.out (by kernel_rfl)) (fun _ _ _ h => h) (Or.inl ⟨by rfl, ?_⟩) ?_ ?_
                 rotate_left
                 · intro w'; go_simp; with_reducible rfl
                 rotate_left
                 · simp only [Act.put, sS, s0_, s1_, i64_w, i32_w]; rfl
                 refine pure_ (i := 12) (N := some 127) (v := ?_) (a' := ?_) #[true,true,true,true,true,true,true,true,true,true,true,true,true,false,false,false] rfl rfl (any_of HT_.out (by kernel_rfl)) (fun _ _ _ h => h) (Or.inl ⟨by rfl, ?_⟩) ?_ ?_
                 rotate_left
                 · intro w'; go_simp; with_reducible rfl
                 rotate_left
                 · simp only [Act.put, sS, s0_, s1_, i64_w, i32_w]; rfl
                 refine pure_ (i := 13) (N := some 128) (v := ?_) (a' := ?_) #[true,true,true,true,true,true,true,true,true,true,true,true,true,true,false,false] rfl rfl (any_of HT_.out (by kernel_rfl)) (fun _ _ _ h => h) (Or.inl ⟨by rfl, ?_⟩) ?_ ?_
                 rotate_left
                 · intro w'; go_simp; with_reducible rfl
                 rotate_left
                 · simp only [Act.put, sS, s0_, s1_, i64_w, i32_w]; rfl
                 refine pure_ (i := 14) (N := some 129) (v := ?_) (a' := ?_) #[true,true,true,true,true,true,true,true,true,true,true,true,true,true,true,false] rfl rfl (any_of HT_.out (by kernel_rfl)) (fun _ _ _ h => h) (Or.inl ⟨by rfl, ?_⟩) ?_ ?_
                 rotate_left
                 · intro w'; go_simp; with_reducible rfl
                 rotate_left
                 · simp only [Act.put, sS, s0_, s1_, i64_w, i32_w]; rfl
                 refine pure_ (i := 15) (N := some 6) (v := ?_) (a' := ?_) #[true,true,true,true,true,true,true,true,true,true,true,true,true,true,true,true] rfl rfl (any_of HT_.out (by kernel_rfl)) (fun _ _ _ h => h) (Or.inl ⟨by rfl, ?_⟩) ?_ ?_
                 rotate_left
                 · intro w'; go_simp; with_reducible rfl
                 rotate_left
                 · simp only [Act.put, sS, s0_, s1_, i64_w, i32_w]; rfl
                 refine done_ (done_of HT_.out (by kernel_rfl)) ?_
                 try go_wp2
                 go_ret
                 exact ⟨by first | rfl | (simp [errW_none, errW_some] <;> rfl) | (simp only [← hji15]; first | rfl | (simp [errW_none, errW_some] <;> rfl)) | (simp [*, errW_none, errW_some] <;> rfl), by repeat (first | (with_reducible first | exact HB.out | apply below_alloc | apply pw_below_drewN | apply below_drew1 | refine below_set ?_ GE170.out | refine below_set ?_ GE187.out | refine below_set ?_ GE209.out) | exact HB.out)⟩
                ·
                 rw [if_neg c108] at H
                 have c108b0 : (t208 == 0) = false := beq_eq_false_iff_ne.mpr c108
                 have c108b1 : (t208 != 0) = true := bne_iff_ne.mpr c108
                 obtain rfl := Option.some.inj H
                 try go_wp2_with (first | ((with_reducible refine gate_callee (f := 15) rfl ?_); refine goesL_ (some 112) rfl rfl Try.func15 (by kernel_rfl) rfl #[.string t180, .int .i64 (wrap64 (1 + (wrap64 (a2))))] rfl (by (try simp only [List.map_toArray, List.map_cons, List.map_nil]); first | done | rfl | (simp only [List.length_drop, List.length_take]; rfl) | (simp only [ByteArray.size_append]; rfl) | (simp only [ByteArray.size_extract]; rfl)) ?_; (with_reducible refine (bbt_Parse.calls k4 t180 (wrap64 (1 + (wrap64 (a2)))) t204 t205 t208 _ A98.out).mono ?_); rintro e w123 ⟨v206, rfl, ho0, hb⟩; refine ⟨_, rfl, ?_⟩; have n0_ := Aside0.mk (Kd.R_below (by (with_reducible repeat (first | apply Kd.R_alloc | apply Kd.R_drewN | apply Kd.R_drew)); exact HO_92.out) hb); have n1_ := Aside0.mk (Kd.R_elder' (by (with_reducible repeat (first | apply Kd.R_alloc | apply Kd.R_drewN | apply Kd.R_drew)); exact HO_171001.out) (Kd.R_base ho0) hb); have n2_ := Aside0.mk (Kd.R_elder' (by (with_reducible repeat (first | apply Kd.R_alloc | apply Kd.R_drewN | apply Kd.R_drew)); exact HO_188001.out) (Kd.R_base ho0) hb); have n3_ := Aside0.mk (Kd.R_lower (Kd.R_new' (Kd.R_new' ho0 (Kd.R_lt (by (with_reducible repeat (first | apply Kd.R_alloc | apply Kd.R_drewN | apply Kd.R_drew)); exact HO_171001.out))) (Kd.R_lt (by (with_reducible repeat (first | apply Kd.R_alloc | apply Kd.R_drewN | apply Kd.R_drew)); exact HO_188001.out))) (below_size (by repeat (first | (with_reducible first | exact HB.out | apply below_alloc | apply pw_below_drewN | apply below_drew1 | refine below_set ?_ GE170.out | refine below_set ?_ GE187.out) | exact HB.out)))); have n4_ := Aside0.mk (blk_below (g := gb170) (o := .cells #[.int .u64 x171000_2, .slice Ao48 x171001_2.length co48] 26 (0, 0)) (by (with_reducible repeat (first | refine blk_drewN ?_ _ | refine blk_drew ?_ | refine blk_alloc ?_ _)); exact BK170.out) hb); have n5_ := Aside0.mk (blk_below (g := gb187) (o := .cells #[.int .u64 t182, .slice Ao54 t183.length co54] 26 (0, 0)) (by (with_reducible repeat (first | refine blk_drewN ?_ _ | refine blk_drew ?_ | refine blk_alloc ?_ _)); exact BK187.out) hb); have n6_ := Aside0.mk (below_step (by repeat (first | (with_reducible first | exact HB.out | apply below_alloc | apply pw_below_drewN | apply below_drew1 | refine below_set ?_ GE170.out | refine below_set ?_ GE187.out) | exact HB.out)) hb); clear HO_92; clear HO_171001; clear HO_188001; clear BK170; clear BK187; clear HB; have HO_92 := n0_; have HO_171001 := n1_; have HO_188001 := n2_; have HO207 := n3_; have BK170 := n4_; have BK187 := n5_; have HB := n6_; clear n0_ n1_ n2_ n3_ n4_ n5_ n6_; (try clear hb); (try clear hb2); (try clear hk); (try clear hi); (try clear ho0)) | ((with_reducible refine gate_dst (N := 19) rfl ?_); (try (refine gate_guard (by rfl) ?_; dsimp only)); refine box_event ?hg (N := 19) ?hd (cs := #[.int .u64 0, .slice none 0 0]) (t := 26) ?hr ?_; (case hd => rfl); (case hg => rfl); (case hr => first | (go_simp; done) | (go_simp; rfl)); intro gb209 hg w124 hbox hb; have n0_ := Aside0.mk (Kd.R_below (by (with_reducible repeat (first | apply Kd.R_alloc | apply Kd.R_drewN | apply Kd.R_drew)); exact HO_92.out) hb); have n1_ := Aside0.mk (Kd.R_below (by (with_reducible repeat (first | apply Kd.R_alloc | apply Kd.R_drewN | apply Kd.R_drew)); exact HO_171001.out) hb); have n2_ := Aside0.mk (Kd.R_below (by (with_reducible repeat (first | apply Kd.R_alloc | apply Kd.R_drewN | apply Kd.R_drew)); exact HO_188001.out) hb); have n3_ := Aside0.mk (Kd.R_below (by (with_reducible repeat (first | apply Kd.R_alloc | apply Kd.R_drewN | apply Kd.R_drew)); exact HO207.out) hb); have n4_ := Aside0.mk (blk_below (g := gb170) (o := .cells #[.int .u64 x171000_2, .slice Ao48 x171001_2.length co48] 26 (0, 0)) (by (with_reducible repeat (first | refine blk_drewN ?_ _ | refine blk_drew ?_ | refine blk_alloc ?_ _)); exact BK170.out) hb); have n5_ := Aside0.mk (blk_below (g := gb187) (o := .cells #[.int .u64 t182, .slice Ao54 t183.length co54] 26 (0, 0)) (by (with_reducible repeat (first | refine blk_drewN ?_ _ | refine blk_drew ?_ | refine blk_alloc ?_ _)); exact BK187.out) hb); have n6_ := Aside0.mk (below_step (by repeat (first | (with_reducible first | exact HB.out | apply below_alloc | apply pw_below_drewN | apply below_drew1 | refine below_set ?_ GE170.out | refine below_set ?_ GE187.out) | exact HB.out)) hb); have n7_ := Aside0.mk (hbox); have n8_ := Aside0.mk ((by rw [hg]; exact (below_size (by repeat (first | (with_reducible first | exact HB.out | apply below_alloc | apply pw_below_drewN | apply below_drew1 | refine below_set ?_ GE170.out | refine below_set ?_ GE187.out) | exact HB.out))) : w.heap.size ≤ gb209)); have n9_ := Aside0.mk ((by rw [hg]; exact (below_size (by repeat (first | (with_reducible first | exact HB.out | apply below_alloc | apply pw_below_drewN | apply below_drew1 | refine below_set ?_ GE170.out | refine below_set ?_ GE187.out) | exact HB.out))) : w.heap.size ≤ gb209)); have n10_ := Aside0.mk ((by rw [hg]; exact Nat.ne_of_lt (blk_lt (g := gb170) (o := .cells #[.int .u64 x171000_2, .slice Ao48 x171001_2.length co48] 26 (0, 0)) (by (with_reducible repeat (first | refine blk_drewN ?_ _ | refine blk_drew ?_ | refine blk_alloc ?_ _)); exact BK170.out)) : gb170 ≠ gb209)); have n11_ := Aside0.mk ((by rw [hg]; exact Nat.ne_of_gt (blk_lt (g := gb170) (o := .cells #[.int .u64 x171000_2, .slice Ao48 x171001_2.length co48] 26 (0, 0)) (by (with_reducible repeat (first | refine blk_drewN ?_ _ | refine blk_drew ?_ | refine blk_alloc ?_ _)); exact BK170.out)) : gb209 ≠ gb170)); have n12_ := Aside0.mk ((by rw [hg]; exact Nat.ne_of_lt (blk_lt (g := gb187) (o := .cells #[.int .u64 t182, .slice Ao54 t183.length co54] 26 (0, 0)) (by (with_reducible repeat (first | refine blk_drewN ?_ _ | refine blk_drew ?_ | refine blk_alloc ?_ _)); exact BK187.out)) : gb187 ≠ gb209)); have n13_ := Aside0.mk ((by rw [hg]; exact Nat.ne_of_gt (blk_lt (g := gb187) (o := .cells #[.int .u64 t182, .slice Ao54 t183.length co54] 26 (0, 0)) (by (with_reducible repeat (first | refine blk_drewN ?_ _ | refine blk_drew ?_ | refine blk_alloc ?_ _)); exact BK187.out)) : gb209 ≠ gb187)); clear HO_92; clear HO_171001; clear HO_188001; clear HO207; clear BK170; clear BK187; clear HB; have HO_92 := n0_; have HO_171001 := n1_; have HO_188001 := n2_; have HO207 := n3_; have BK170 := n4_; have BK187 := n5_; have HB := n6_; have BK209 := n7_; have GW209 := n8_; have GE209 := n9_; have NB170_209 := n10_; have NB209_170 := n11_; have NB187_209 := n12_; have NB209_187 := n13_; clear n0_ n1_ n2_ n3_ n4_ n5_ n6_ n7_ n8_ n9_ n10_ n11_ n12_ n13_; clear hb hbox hg; have hnb125 := NB209_170.out; have hnc125 := NB170_209.out; have hnb126 := NB209_187.out; have hnc126 := NB187_209.out; have hcz127_0 : w124.cell? ⟨gb209, 0, none⟩ = some (.int .u64 0) := (blk_cell BK209.out 0).trans rfl; have hcz127_1 : w124.cell? ⟨gb209, 1, none⟩ = some (.slice none 0 0) := (blk_cell BK209.out 1).trans rfl; have hfz127_0 := blk_frozen BK209.out 0; have hfz127_1 := blk_frozen BK209.out 1; obtain ⟨Ao128, co128, eo128⟩ := Kd.R_slice HO207.out; subst eo128))
                 have n0_ : Aside0 (Kd.R (Kd.int .i64) 3 ((w124.setCell ⟨gb209, 0, none⟩ (.int .u64 t204)).setCell ⟨gb209, 1, none⟩ (.slice Ao128 t205.length co128)) w.heap.size (fun _ => True) (.slice Ao83 t196.length co83) t196) := ⟨by (with_reducible repeat (first | apply Kd.R_alloc | apply Kd.R_drewN | apply Kd.R_drew)); exact Kd.R_mono (Kd.R_far (p := ⟨gb209, 1, none⟩) (Kd.R_far (p := ⟨gb209, 0, none⟩) (Kd.R_types HO_92.out BK209.out (by decide)) (fun _ hk => hk.2) (.int .u64 t204)) (fun _ hk => hk.2) (.slice Ao128 t205.length co128)) (fun _ hk => trivial)⟩
                 have n1_ : Aside0 (Kd.R Kd.bool 4 ((w124.setCell ⟨gb209, 0, none⟩ (.int .u64 t204)).setCell ⟨gb209, 1, none⟩ (.slice Ao128 t205.length co128)) w.heap.size (fun k_ => some k_ ≠ (.slice Ao54 t183.length co54 : Value).ownBlock ∧ some k_ ≠ (.slice Ao128 t205.length co128 : Value).ownBlock) (.slice Ao48 x171001_2.length co48) x171001_2) := ⟨by (with_reducible repeat (first | apply Kd.R_alloc | apply Kd.R_drewN | apply Kd.R_drew)); exact Kd.R_mono (Kd.R_far (p := ⟨gb209, 1, none⟩) (Kd.R_far (p := ⟨gb209, 0, none⟩) (Kd.R_types HO_171001.out BK209.out (by decide)) (fun _ hk => hk.2) (.int .u64 t204)) (fun _ hk => hk.2) (.slice Ao128 t205.length co128)) (fun _ hk => ⟨hk.1.1, hk.1.2⟩)⟩
                 have n2_ : Aside0 (Kd.R Kd.bool 4 ((w124.setCell ⟨gb209, 0, none⟩ (.int .u64 t204)).setCell ⟨gb209, 1, none⟩ (.slice Ao128 t205.length co128)) w.heap.size (fun k_ => some k_ ≠ (.slice Ao48 x171001_2.length co48 : Value).ownBlock ∧ some k_ ≠ (.slice Ao128 t205.length co128 : Value).ownBlock) (.slice Ao54 t183.length co54) t183) := ⟨by (with_reducible repeat (first | apply Kd.R_alloc | apply Kd.R_drewN | apply Kd.R_drew)); exact Kd.R_mono (Kd.R_far (p := ⟨gb209, 1, none⟩) (Kd.R_far (p := ⟨gb209, 0, none⟩) (Kd.R_types HO_188001.out BK209.out (by decide)) (fun _ hk => hk.2) (.int .u64 t204)) (fun _ hk => hk.2) (.slice Ao128 t205.length co128)) (fun _ hk => ⟨hk.1.1, hk.1.2⟩)⟩
                 have n3_ : Aside0 (Kd.R Kd.bool 4 ((w124.setCell ⟨gb209, 0, none⟩ (.int .u64 t204)).setCell ⟨gb209, 1, none⟩ (.slice Ao128 t205.length co128)) w.heap.size (fun k_ => some k_ ≠ (.slice Ao48 x171001_2.length co48 : Value).ownBlock ∧ some k_ ≠ (.slice Ao54 t183.length co54 : Value).ownBlock) (.slice Ao128 t205.length co128) t205) := ⟨by (with_reducible repeat (first | apply Kd.R_alloc | apply Kd.R_drewN | apply Kd.R_drew)); exact Kd.R_mono (Kd.R_far (p := ⟨gb209, 1, none⟩) (Kd.R_far (p := ⟨gb209, 0, none⟩) (Kd.R_types HO207.out BK209.out (by decide)) (fun _ hk => hk.2) (.int .u64 t204)) (fun _ hk => hk.2) (.slice Ao128 t205.length co128)) (fun _ hk => ⟨hk.1.1.2, hk.1.2⟩)⟩
                 have n4_ : Aside0 (((w124.setCell ⟨gb209, 0, none⟩ (.int .u64 t204)).setCell ⟨gb209, 1, none⟩ (.slice Ao128 t205.length co128)).heap[gb170]? = some (.cells #[.int .u64 x171000_2, .slice Ao48 x171001_2.length co48] 26 (0, 0))) := ⟨by (with_reducible repeat (first | refine blk_drewN ?_ _ | refine blk_drew ?_ | refine blk_alloc ?_ _)); refine blk_far ?_ NB170_209.out _; (with_reducible repeat (first | refine blk_drewN ?_ _ | refine blk_drew ?_ | refine blk_alloc ?_ _)); refine blk_far ?_ NB170_209.out _; (with_reducible repeat (first | refine blk_drewN ?_ _ | refine blk_drew ?_ | refine blk_alloc ?_ _)); exact BK170.out⟩
                 have n5_ : Aside0 (((w124.setCell ⟨gb209, 0, none⟩ (.int .u64 t204)).setCell ⟨gb209, 1, none⟩ (.slice Ao128 t205.length co128)).heap[gb187]? = some (.cells #[.int .u64 t182, .slice Ao54 t183.length co54] 26 (0, 0))) := ⟨by (with_reducible repeat (first | refine blk_drewN ?_ _ | refine blk_drew ?_ | refine blk_alloc ?_ _)); refine blk_far ?_ NB187_209.out _; (with_reducible repeat (first | refine blk_drewN ?_ _ | refine blk_drew ?_ | refine blk_alloc ?_ _)); refine blk_far ?_ NB187_209.out _; (with_reducible repeat (first | refine blk_drewN ?_ _ | refine blk_drew ?_ | refine blk_alloc ?_ _)); exact BK187.out⟩
                 have n6_ : Aside0 (((w124.setCell ⟨gb209, 0, none⟩ (.int .u64 t204)).setCell ⟨gb209, 1, none⟩ (.slice Ao128 t205.length co128)).heap[gb209]? = some (.cells #[.int .u64 t204, .slice Ao128 t205.length co128] 26 (0, 0))) := ⟨by (with_reducible repeat (first | refine blk_drewN ?_ _ | refine blk_drew ?_ | refine blk_alloc ?_ _)); refine blk_put (cs := #[.int .u64 t204, .slice none 0 0]) ?_ 1 _ rfl; (with_reducible repeat (first | refine blk_drewN ?_ _ | refine blk_drew ?_ | refine blk_alloc ?_ _)); refine blk_put (cs := #[.int .u64 0, .slice none 0 0]) ?_ 0 _ rfl; (with_reducible repeat (first | refine blk_drewN ?_ _ | refine blk_drew ?_ | refine blk_alloc ?_ _)); exact BK209.out⟩
                 have n7_ : Aside0 (Below w.heap.size w ((w124.setCell ⟨gb209, 0, none⟩ (.int .u64 t204)).setCell ⟨gb209, 1, none⟩ (.slice Ao128 t205.length co128))) := ⟨by repeat (first | (with_reducible first | exact HB.out | apply below_alloc | apply pw_below_drewN | apply below_drew1 | refine below_set ?_ GE170.out | refine below_set ?_ GE187.out | refine below_set ?_ GE209.out) | exact HB.out)⟩
                 (try clear HO_92)
                 (try clear HO_171001)
                 (try clear HO_188001)
                 (try clear HO207)
                 (try clear BK170)
                 (try clear BK187)
                 (try clear BK209)
                 (try clear HB)
                 generalize ((w124.setCell ⟨gb209, 0, none⟩ (.int .u64 t204)).setCell ⟨gb209, 1, none⟩ (.slice Ao128 t205.length co128)) = w129 at n0_ n1_ n2_ n3_ n4_ n5_ n6_ n7_ ⊢
                 have HO_92 := n0_
                 have HO_171001 := n1_
                 have HO_188001 := n2_
                 have HO207 := n3_
                 have BK170 := n4_
                 have BK187 := n5_
                 have BK209 := n6_
                 have HB := n7_
                 clear n0_ n1_ n2_ n3_ n4_ n5_ n6_ n7_
                 have n0_ := Aside0.mk (Kd.R_drew HO_92.out)
                 have n1_ := Aside0.mk (Kd.R_drew HO_171001.out)
                 have n2_ := Aside0.mk (Kd.R_drew HO_188001.out)
                 have n3_ := Aside0.mk (Kd.R_drew HO207.out)
                 have n4_ := Aside0.mk (blk_drew BK170.out)
                 have n5_ := Aside0.mk (blk_drew BK187.out)
                 have n6_ := Aside0.mk (blk_drew BK209.out)
                 have n7_ := Aside0.mk (below_drew1 HB.out)
                 clear HO_92
                 clear HO_171001
                 clear HO_188001
                 clear HO207
                 clear BK170
                 clear BK187
                 clear BK209
                 clear HB
                 have HO_92 := n0_
                 have HO_171001 := n1_
                 have HO_188001 := n2_
                 have HO207 := n3_
                 have BK170 := n4_
                 have BK187 := n5_
                 have BK209 := n6_
                 have HB := n7_
                 clear n0_ n1_ n2_ n3_ n4_ n5_ n6_ n7_
                 refine start_ (n := 16) (S := fun w' => True) (ds := []) #[false,false,false,false,false,false,false,false,false,false,false,false,false,false,false,false] (by kernel_rfl) rfl rfl trivial (fun hHeld => ?_); refine with_tabW tillrolllaw09_BbtBack.tab23 tillrolllaw09_BbtBack.bits23 (fun HT_ HW_ => ?_)
                 generalize w129.drew = w130 at HO_92 HO_171001 HO_188001 HO207 BK170 BK187 BK209 HB hHeld ⊢
                 refine pure_ (i := 0) (N := some 115) (v := ?_) (a' := ?_) #[true,false,false,false,false,false,false,false,false,false,false,false,false,false,false,false] rfl rfl (any_of HT_.out (by kernel_rfl)) (fun _ _ _ h => h) (Or.inl ⟨by rfl, ?_⟩) ?_ ?_
                 rotate_left
                 · intro w'; go_simp; with_reducible rfl
                 rotate_left
                 · simp only [Act.put, sS, s0_, s1_, i64_w, i32_w]; rfl
                 refine pure_ (i := 1) (N := some 116) (v := ?_) (a' := ?_) #[true,true,false,false,false,false,false,false,false,false,false,false,false,false,false,false] rfl rfl (any_of HT_.out (by kernel_rfl)) (fun _ _ _ h => h) (Or.inl ⟨by rfl, ?_⟩) ?_ ?_
                 rotate_left
                 · intro w'; go_simp; with_reducible rfl
                 rotate_left
                 · simp only [Act.put, sS, s0_, s1_, i64_w, i32_w]; rfl
                 refine pure_ (i := 2) (N := some 117) (v := ?_) (a' := ?_) #[true,true,true,false,false,false,false,false,false,false,false,false,false,false,false,false] rfl rfl (any_of HT_.out (by kernel_rfl)) (fun _ _ _ h => h) (Or.inl ⟨by rfl, ?_⟩) ?_ ?_
                 rotate_left
                 · intro w'; go_simp; with_reducible rfl
                 rotate_left
                 · simp only [Act.put, sS, s0_, s1_, i64_w, i32_w]; rfl
                 refine pure_ (i := 3) (N := some 118) (v := ?_) (a' := ?_) #[true,true,true,true,false,false,false,false,false,false,false,false,false,false,false,false] rfl rfl (any_of HT_.out (by kernel_rfl)) (fun _ _ _ h => h) (Or.inl ⟨by rfl, ?_⟩) ?_ ?_
                 rotate_left
                 · intro w'; go_simp; with_reducible rfl
                 rotate_left
                 · simp only [Act.put, sS, s0_, s1_, i64_w, i32_w]; rfl
                 refine pure_ (i := 4) (N := some 119) (v := ?_) (a' := ?_) #[true,true,true,true,true,false,false,false,false,false,false,false,false,false,false,false] rfl rfl (any_of HT_.out (by kernel_rfl)) (fun _ _ _ h => h) (Or.inl ⟨by rfl, ?_⟩) ?_ ?_
                 rotate_left
                 · intro w'; go_simp; with_reducible rfl
                 rotate_left
                 · simp only [Act.put, sS, s0_, s1_, i64_w, i32_w]; rfl
                 refine pure_ (i := 5) (N := some 120) (v := ?_) (a' := ?_) #[true,true,true,true,true,true,false,false,false,false,false,false,false,false,false,false] rfl rfl (any_of HT_.out (by kernel_rfl)) (fun _ _ _ h => h) (Or.inl ⟨by rfl, ?_⟩) ?_ ?_
                 rotate_left
                 · intro w'; go_simp; with_reducible rfl
                 rotate_left
                 · simp only [Act.put, sS, s0_, s1_, i64_w, i32_w]; rfl
                 refine pure_ (i := 6) (N := some 121) (v := undef) (a' := ?_) #[true,true,true,true,true,true,true,false,false,false,false,false,false,false,false,false] rfl rfl (any_of HT_.out (by kernel_rfl)) (fun _ _ _ h => h) (Or.inr ⟨by rfl, rfl⟩) ?_ ?_
                 rotate_left
                 · simp only [Act.put, sS, s0_, s1_, i64_w, i32_w]; rfl
                 refine pure_ (i := 7) (N := some 122) (v := undef) (a' := ?_) #[true,true,true,true,true,true,true,true,false,false,false,false,false,false,false,false] rfl rfl (any_of HT_.out (by kernel_rfl)) (fun _ _ _ h => h) (Or.inr ⟨by rfl, rfl⟩) ?_ ?_
                 rotate_left
                 · simp only [Act.put, sS, s0_, s1_, i64_w, i32_w]; rfl
                 refine pure_ (i := 8) (N := some 123) (v := undef) (a' := ?_) #[true,true,true,true,true,true,true,true,true,false,false,false,false,false,false,false] rfl rfl (any_of HT_.out (by kernel_rfl)) (fun _ _ _ h => h) (Or.inr ⟨by rfl, rfl⟩) ?_ ?_
                 rotate_left
                 · simp only [Act.put, sS, s0_, s1_, i64_w, i32_w]; rfl
                 refine pure_ (i := 9) (N := some 124) (v := undef) (a' := ?_) #[true,true,true,true,true,true,true,true,true,true,false,false,false,false,false,false] rfl rfl (any_of HT_.out (by kernel_rfl)) (fun _ _ _ h => h) (Or.inr ⟨by rfl, rfl⟩) ?_ ?_
                 rotate_left
                 · simp only [Act.put, sS, s0_, s1_, i64_w, i32_w]; rfl
                 refine pure_ (i := 10) (N := some 125) (v := undef) (a' := ?_) #[true,true,true,true,true,true,true,true,true,true,true,false,false,false,false,false] rfl rfl (any_of HT_.out (by kernel_rfl)) (fun _ _ _ h => h) (Or.inr ⟨by rfl, rfl⟩) ?_ ?_
                 rotate_left
                 · simp only [Act.put, sS, s0_, s1_, i64_w, i32_w]; rfl
                 refine pure_ (i := 11) (N := some 126) (v := undef) (a' := ?_) #[true,true,true,true,true,true,true,true,true,true,true,true,false,false,false,false] rfl rfl (any_of HT_.out (by kernel_rfl)) (fun _ _ _ h => h) (Or.inr ⟨by rfl, rfl⟩) ?_ ?_
                 rotate_left
                 · simp only [Act.put, sS, s0_, s1_, i64_w, i32_w]; rfl
                 refine pure_ (i := 12) (N := some 127) (v := undef) (a' := ?_) #[true,true,true,true,true,true,true,true,true,true,true,true,true,false,false,false] rfl rfl (any_of HT_.out (by kernel_rfl)) (fun _ _ _ h => h) (Or.inr ⟨by rfl, rfl⟩) ?_ ?_
                 rotate_left
                 · simp only [Act.put, sS, s0_, s1_, i64_w, i32_w]; rfl
                 refine pure_ (i := 13) (N := some 128) (v := ?_) (a' := ?_) #[true,true,true,true,true,true,true,true,true,true,true,true,true,true,false,false] rfl rfl (any_of HT_.out (by kernel_rfl)) (fun _ _ _ h => h) (Or.inl ⟨by rfl, ?_⟩) ?_ ?_
                 rotate_left
                 · intro w'; go_simp; with_reducible rfl
                 rotate_left
                 · simp only [Act.put, sS, s0_, s1_, i64_w, i32_w]; rfl
                 refine pure_ (i := 14) (N := some 129) (v := ?_) (a' := ?_) #[true,true,true,true,true,true,true,true,true,true,true,true,true,true,true,false] rfl rfl (any_of HT_.out (by kernel_rfl)) (fun _ _ _ h => h) (Or.inl ⟨by rfl, ?_⟩) ?_ ?_
                 rotate_left
                 · intro w'; go_simp; with_reducible rfl
                 rotate_left
                 · simp only [Act.put, sS, s0_, s1_, i64_w, i32_w]; rfl
                 refine pure_ (i := 15) (N := some 6) (v := ?_) (a' := ?_) #[true,true,true,true,true,true,true,true,true,true,true,true,true,true,true,true] rfl rfl (any_of HT_.out (by kernel_rfl)) (fun _ _ _ h => h) (Or.inl ⟨by rfl, ?_⟩) ?_ ?_
                 rotate_left
                 · intro w'; go_simp; with_reducible rfl
                 rotate_left
                 · simp only [Act.put, sS, s0_, s1_, i64_w, i32_w]; rfl
                 refine done_ (done_of HT_.out (by kernel_rfl)) ?_
                 try go_wp2
                 go_ret
                 exact ⟨by first | rfl | (simp [errW_none, errW_some] <;> rfl) | (simp only [← hji15]; first | rfl | (simp [errW_none, errW_some] <;> rfl)) | (simp [*, errW_none, errW_some] <;> rfl), by repeat (first | (with_reducible first | exact HB.out | apply below_alloc | apply pw_below_drewN | apply below_drew1 | refine below_set ?_ GE170.out | refine below_set ?_ GE187.out | refine below_set ?_ GE209.out) | exact HB.out)⟩
     ·
      rw [if_neg c17] at H
      exact absurd H (by simp)
    ·
     rw [if_neg c16] at H
     exact absurd H (by simp)

/-- THE ONE PURE STATEMENT of tillrolllaw09_BbtBack: yours. -/
def tillrolllaw09_BbtBack.Pure : Prop := ∀ (a0 : Int) (l1 : List Int) (a2 : Int), (Lit.int .u8 a0).wf = true → l1.length ≤ maxLen → l1.length * 1 ≤ 140737488351232 → (∀ x ∈ l1, (Lit.int .u8 x).wf = true) → (Lit.int .u8 a2).wf = true → ∃ k, tillrolllaw09_BbtBack.f k a0 l1 a2 = some true
theorem tillrolllaw09_BbtBack.walk (P : tillrolllaw09_BbtBack.Pure) (a0 : Int) (a1 : Option Addr) (len1 cap1 : Nat) (z1 : List Int) (a2 : Int) (w : World) (w0 : (Lit.int .u8 a0).wf = true) (w1 : (a1 = none ∧ len1 = 0 ∧ cap1 = 0 ∧ z1 = []) ∨ ∃ x, a1 = some x ∧ len1 ≤ cap1 ∧ cap1 ≤ maxLen ∧ z1.length = cap1 ∧ (∀ i, i < z1.length → w.cell? (x.add i) = some (.int .u8 (z1.getD i 0))) ∧ ∀ n ∈ z1, (Lit.int .u8 n).wf = true) (y1 : len1 * 1 ≤ 140737488351232) (w2 : (Lit.int .u8 a2).wf = true) :
  Calls Try.prog 5 #[.int .u8 a0, .slice a1 len1 cap1, .int .u8 a2] w fun e w' => e = .returned (.bool true) ∧ Below w.heap.size w w' := by
 obtain ⟨l1, rfl, hr1, hm1, hw1, hc1⟩ := ReadsInt.ofRowC w1
 obtain ⟨k, h⟩ := P a0 l1 a2 w0 hm1 y1 hw1 w2
 refine (tillrolllaw09_BbtBack.calls k a0 _ _ l1 a2 true w (Kd.C_of_reads (d := (0 : Int)) (h1 := fun _ => rfl) hr1) hc1 h).mono ?_
 rintro e w' ⟨rfl, hd⟩
 exact ⟨rfl, hd⟩

end Go.Proofs.Ytopglieihhgaaaa.P
