/- where: New, and the signs of life of layer 12's laws. No conditions beyond the form's own reach. -/
import Derived.Test.YthapekmdnokniaaXWhereE
import Derived.Test.YthapekmdnokniaaXMakeInts
import Derived.Laws.StructEq
namespace Go.Proofs.Ythapekmdnokniaa
open Go.RowKit Go.Lib Go.Maps Go.Proofs.YthapekmdnokniaaW.PrintWords Go.Proofs.YthapekmdnokniaaW.PrintLast Go.Proofs.YthapekmdnokniaaW.PrintMore
set_option linter.unusedVariables false
set_option linter.unusedSimpArgs false
--@tables
set_option maxHeartbeats 8000000 in
theorem new_ok (B P L : Nat) (hin : WIn B P L) (w : World) :
    Calls Try.prog 7 #[.int .i64 (B : Int), .int .i64 (P : Int), .int .i64 (L : Int)] w fun e w' => ∃ g bm bo bl cap, e = .returned (.tuple #[.pointer (some ⟨g, 0, none⟩), .int .i64 0]) ∧ WAt w.heap.size w' g B P L (emptyW B) bm bo bl cap ∧ Below w.heap.size w w' := by
  obtain ⟨⟨b1, b2⟩, ⟨p1, p2⟩, ⟨l1, l2⟩⟩ := hin
  have d1 : decide ((1 : Int) ≤ (B : Int)) = true := decide_eq_true (by omega)
  have d2 : decide ((B : Int) ≤ 256) = true := decide_eq_true (by omega)
  have d3 : decide ((1 : Int) ≤ (P : Int)) = true := decide_eq_true (by omega)
  have d4 : decide ((P : Int) ≤ 64) = true := decide_eq_true (by omega)
  have d5 : decide ((1 : Int) ≤ (L : Int)) = true := decide_eq_true (by omega)
  have d6 : decide ((L : Int) ≤ 4096) = true := decide_eq_true (by omega)
  have hmm := @run_makeMap Try.prog
  have hmk := fun w => make_zeros w B (by omega)
  have HI := Lib.hid (And.intro b1 b2)
  have HL := Lib.hid (And.intro l1 l2); clear b1 b2 p1 p2 l1 l2
  have f1 := MapV.made (P := Try.prog) (K := 3) (ek := fun k : Int => Value.int .i64 k) (ok := I64) w
  have g2 := below_alloc (Below.refl (w.alloc (.map #[] 0)).heap.size (w.alloc (.map #[] 0))) (.map #[] 0)
  have f2 := MapV.made (P := Try.prog) (K := 30) (ek := ekP) (ok := okP) (w.alloc (.map #[] 0))
  replace f1 := f1.below g2
  have hb2 := below_alloc (below_alloc (Below.refl w.heap.size w) (.map #[] 0)) (.map #[] 0)
  rw [show (w.alloc (.map #[] 0)).heap.size = w.heap.size + 1 by simp] at f2
  have hs2 : ((w.alloc (.map #[] 0)).alloc (.map #[] 0)).heap.size = w.heap.size + 2 := by simp
  go_enter Try.func7, Try.ntmps7
  go_wp2
  clear d1 d2 d3 d4 d5 d6 hmm hmk g2
  generalize (w.alloc (.map #[] 0)).alloc (.map #[] 0) = w2 at f1 f2 hb2 hs2 ⊢
  have hx := heap_alloc_new w2 (.cells (zerosI B) 3)
  have ha := below_alloc (Below.refl w2.heap.size w2) (.cells (zerosI B) 3)
  replace f1 := f1.below ha
  replace f2 := f2.below ha
  replace hb2 := below_alloc hb2 (.cells (zerosI B) 3)
  rw [hs2] at hx
  have hs3 : (w2.alloc (.cells (zerosI B) 3)).heap.size = w.heap.size + 3 := by simp [hs2]
  clear ha hs2
  generalize w2.alloc (.cells (zerosI B) 3) = w3 at f1 f2 hb2 hs3 hx ⊢
  have hy := heap_alloc_new w3 (.cells #[.int .i64 (B : Int), .int .i64 (P : Int), .int .i64 (L : Int), .map (some w.heap.size), .map (some (w.heap.size + 1)), .slice (some ⟨w.heap.size + 2, 0, none⟩) B B] 63)
  have ha := below_alloc (Below.refl w3.heap.size w3) (.cells #[.int .i64 (B : Int), .int .i64 (P : Int), .int .i64 (L : Int), .map (some w.heap.size), .map (some (w.heap.size + 1)), .slice (some ⟨w.heap.size + 2, 0, none⟩) B B] 63)
  replace f1 := f1.below ha
  replace f2 := f2.below ha
  replace hx := blk_below hx ha
  replace hb2 := chain2 hb2 ha
  rw [hs3] at hy
  clear ha hs3
  go_ret2
  refine ⟨w.heap.size + 3, w.heap.size, w.heap.size + 1, w.heap.size + 2, B, rfl, ⟨⟨by omega, Nat.le_refl _, by omega, by omega⟩, ⟨by omega, by omega, Nat.le_refl _, by have := HI.out.2; unfold maxLen; omega⟩, hy, f1, f2, ?_⟩, hb2⟩
  refine ⟨_, hx, fun j hj => ?_⟩
  unfold emptyW at hj ⊢
  simp only [List.length_replicate] at hj
  simp [zerosI, hj]
def sW1 : WS := putS 2 3 5 (emptyW 2) 3 (1, 2)
def sW2 : WS := putS 2 3 5 sW1 3 (0, 0)
theorem inW : WIn 2 3 5 := ⟨⟨by decide, by decide⟩, ⟨by decide, by decide⟩, ⟨by decide, by decide⟩⟩
theorem WAt.touch {base : Nat} {w w' : World} {g B P L : Nat} {s : WS} {bm bo bl cap : Nat} (h : WAt base w g B P L s bm bo bl cap) {v : World} {b2 : Nat} (ht : Touch (wT bm bo bl) w w') (hb : Below b2 v w) (h2 : b2 ≤ base) : Below b2 v w' :=
  hb.trans (ht.below (fun k hk => Nat.le_trans h2 (hk.elim (fun e => e ▸ h.b1.2.1) (fun e => e.elim (fun e => e ▸ h.b1.2.2.1) (fun e => e ▸ h.b1.2.2.2)))) (Nat.le_trans h2 (Nat.le_trans h.b1.1 (Nat.le_of_lt (blk_lt h.box)))))
set_option maxHeartbeats 8000000 in
theorem wakes_ok (w : World) : Calls Try.prog 8 #[] w fun e w' => e = .returned (.bool true) ∧ Below w.heap.size w w' := by
  go_enter Try.func8, Try.ntmps8
  go_wp2_with fail
  refine (new_ok 2 3 5 inW w).mono ?_
  rintro e w1 ⟨g, bm, bo, bl, cap, rfl, h, hb⟩
  have H := Lib.hid h; clear h
  have HB := Lib.hid hb; clear hb
  go_wp2_with fail
  have I3 := i64_of 3 (by decide) (by decide)
  have hp := put_any 3 1 2 I3 (i64_of 1 (by decide) (by decide)) (i64_of 2 (by decide) (by decide)) H.out (emptyW_ok 2 3 5) inW
  rw [show putE 2 3 5 (emptyW 2) 3 (1, 2) = 0 from by decide] at hp
  refine hp.mono ?_
  rintro e w2 ⟨rfl, h, ht⟩
  replace HB := Lib.hid (H.out.touch ht HB.out (Nat.le_refl _))
  replace H := Lib.hid (show WAt w.heap.size w2 g 2 3 5 sW1 bm bo bl cap from h); clear h ht hp
  have HI3 := Lib.hid I3; clear I3
  go_wp2_with fail
  have hp := put_any 3 0 0 HI3.out (i64_of 0 (by decide) (by decide)) (i64_of 0 (by decide) (by decide)) H.out (putS_ok (emptyW_ok 2 3 5) 3 (1, 2)) inW
  rw [show putE 2 3 5 sW1 3 (0, 0) = 0 from by decide] at hp
  refine hp.mono ?_
  rintro e w3 ⟨rfl, h, ht⟩
  replace HB := Lib.hid (H.out.touch ht HB.out (Nat.le_refl _))
  replace H := Lib.hid (show WAt w.heap.size w3 g 2 3 5 sW2 bm bo bl cap from h); clear h ht hp
  go_wp2_with fail
  have hp := at_ok 3 HI3.out H.out
  rw [show atV sW2 3 = (0, 0) from by decide, show (sW2.at_ 3).isSome = true from by decide] at hp
  refine hp.mono ?_
  rintro e w4 ⟨rfl, hd⟩
  replace H := Lib.hid (H.out.below hd)
  replace HB := Lib.hid (chain2 HB.out hd); clear hd hp
  have hX := Lib.hid (heap_alloc_new w4 (.cells #[.int .i64 0, .int .i64 0] 30))
  have ha := below_alloc (Below.refl w4.heap.size w4) (.cells #[.int .i64 0, .int .i64 0] 30)
  replace H := Lib.hid (H.out.below ha)
  replace HB := Lib.hid (chain2 HB.out ha); clear ha
  obtain ⟨x0, x1⟩ := w2_cells hX.out
  go_wp2_with fail
  generalize w4.alloc (.cells #[.int .i64 0, .int .i64 0] 30) = w5 at H HB hX x0 x1 ⊢
  have hp := live_ok 1 H.out (show sW2.live.length = 2 from by decide) (by decide)
  rw [show liveV sW2 2 1 = 0 from by decide] at hp
  refine hp.mono ?_
  rintro e w6 ⟨rfl, rfl⟩
  clear hp
  go_wp2_with fail
  have hp := live_ok 0 H.out (show sW2.live.length = 2 from by decide) (by decide)
  rw [show liveV sW2 2 0 = 1 from by decide] at hp
  refine hp.mono ?_
  rintro e w6 ⟨rfl, rfl⟩
  clear hp
  go_wp2_with fail
  have hp := owner_ok 0 0 (i64_of 0 (by decide) (by decide)) (i64_of 0 (by decide) (by decide)) H.out
  rw [show ownE sW2 (0, 0) = 3 from by decide] at hp
  refine hp.mono ?_
  rintro e w6 ⟨rfl, hd⟩
  replace H := Lib.hid (H.out.below hd)
  replace HB := Lib.hid (chain2 HB.out hd); clear hd hp x0 x1
  go_wp2_with fail
  have hp := total_ok H.out
  rw [show (sW2.ca : Int) = 1 from by decide] at hp
  refine hp.mono ?_
  rintro e w7 ⟨rfl, rfl⟩
  clear hp
  go_wp2
  go_ret
  exact ⟨rfl, HB.out⟩
end Go.Proofs.Ythapekmdnokniaa
