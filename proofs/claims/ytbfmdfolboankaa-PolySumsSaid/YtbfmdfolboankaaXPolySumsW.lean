/- PolySums: the check of every text, and the state behind it from every one on, is the document's; a nil table tells nothing: the walk. No conditions beyond the form's own reach. -/
import Derived.Test.YtbfmdfolboankaaXPolyWakes
import Derived.Test.YtbfmdfolboankaaXPolyRef
namespace Go.Proofs.Ytbfmdfolboankaa
open Go.RowKit Go.Proofs.YtbfmdfolboankaaW.PrintWords Go.Proofs.YtbfmdfolboankaaW.PrintLast Go.Proofs.YtbfmdfolboankaaW.PrintMore Go.Proofs.Ytbfmdfolboankaa.P Go.Proofs.Ytbfmdfolboankaa.PoS
set_option linter.unusedVariables false
set_option linter.unusedSimpArgs false

set_option maxHeartbeats 4000000 in
set_option maxRecDepth 100000 in
theorem polySums_walk (st : BitVec 32) (s : ByteArray) (w : World) (hs : s.size ≤ 140737488351232) :
    Calls Try.prog 3 #[.int .u32 (v32 st), .string s] w fun e w' => e = .returned (.bool true) ∧ Below w.heap.size w w' := by
  have hz := make_zero
  have Hs := Lib.hid hs; clear hs
  obtain ⟨ji, hji⟩ : ∃ ji : Int, (if 300 < (s.size : Int) then 300 else (s.size : Int)) = ji := ⟨_, rfl⟩
  have c0 : 0 ≤ ji ∧ ji ≤ s.size ∧ ji ≤ 300 := by rw [← hji]; split <;> omega
  have c6b0 : (0 ≤ ji) = True := eq_true c0.1
  have c6b1 : decide (0 ≤ ji) = true := decide_eq_true c0.1
  have c7b0 : (ji ≤ (s.size : Int)) = True := eq_true c0.2.1
  have c7b1 : decide (ji ≤ (s.size : Int)) = true := decide_eq_true c0.2.1
  have Hc0 := Lib.hid c0; clear c0
  go_enter Try.func3, Try.ntmps3
  go_wp2_with fail
  refine (poly_Make.calls _).mono ?_
  rintro e w1 ⟨rfl, hb1⟩
  have hts : (s.extract 0 ji.toNat).size ≤ 300 := by rw [ByteArray.size_extract]; have := Hc0.out; omega
  generalize s.extract 0 ji.toNat = t at hts ⊢
  clear hji c6b0 c6b1 c7b0 c7b1 Hc0 Hs
  have Hb1 := Lib.hid hb1; clear hb1
  have Hts := Lib.hid hts; clear hts
  go_wp2_with (refine wpList_store_row rfl 24 _ _ rfl w1.heap.size (tabCells 256) rfl rfl 24 (tabCells 0) (heap_alloc_new w1 _) make_info (by rw [tabCells_size, tabCells_size]) (tabCells_one _) ?_)
  clear hz
  obtain ⟨hT, hB, hS⟩ := made_facts Hb1.out _ rfl
  generalize (w1.alloc (.cells (tabCells 0) 24)).setRow w1.heap.size (tabCells 256) = w2 at hT hB ⊢
  have HT := Lib.hid hT; clear hT
  have HB := Lib.hid hB; clear hB
  clear hS
  refine (wakes_ok _).mono ?_
  rintro e w3 ⟨rfl, hb3⟩
  have HT3 := Lib.hid (HT.out.below hb3)
  have HB3 := Lib.hid (chain2 HB.out hb3)
  clear hb3
  generalize hl : t.data.toList = l
  have Hl := Lib.hid hl; clear hl
  have r1 := v32_range (sum l)
  have r2 := v32_range (more st l)
  have r3 := v32_range (~~~st)
  have r4 := v32_range st
  obtain ⟨r1a, r1b⟩ := r1
  obtain ⟨r2a, r2b⟩ := r2
  obtain ⟨r3a, r3b⟩ := r3
  obtain ⟨r4a, r4b⟩ := r4
  go_wp2_with fail
  refine (poly_Sum.calls w1.heap.size t (by have := Hts.out; omega) w3 HT3.out).mono ?_
  rintro e w4 ⟨rfl, hd⟩
  rw [Hl.out]
  have HT4 := Lib.hid (HT3.out.drawn hd)
  have HB4 := Lib.hid (chainD HB3.out hd)
  clear hd
  go_wp2_with fail
  refine (tillrollref02_Sum.calls 4000 _ _ _ (ref_sum_f t (by have := Hts.out; omega) 4000 (by have := Hts.out; omega))).mono ?_
  rintro e w5 ⟨rfl, hd⟩
  rw [Hl.out]
  have HT5 := Lib.hid (HT4.out.drawn hd)
  have HB5 := Lib.hid (chainD HB4.out hd)
  clear hd
  go_wp2_with fail
  refine (poly_More.calls w1.heap.size st t (by have := Hts.out; omega) w5 HT5.out).mono ?_
  rintro e w6 ⟨rfl, hd⟩
  rw [Hl.out]
  have HB6 := Lib.hid (chainD HB5.out hd)
  clear hd
  go_wp2_with fail
  refine (tillrollref02_More.calls 4000 _ _ _ _ (ref_more_f t (by have := Hts.out; omega) st 4000 (by have := Hts.out; omega))).mono ?_
  rintro e w7 ⟨rfl, hd⟩
  rw [Hl.out]
  have HB7 := Lib.hid (chainD HB6.out hd)
  clear hd
  go_wp2_with fail
  refine (poly_Last.calls _ _).mono ?_
  rintro e w8 ⟨rfl, hd⟩
  have HB8 := Lib.hid (chainD HB7.out hd)
  clear hd
  go_wp2_with fail
  refine (tillrollref02_Last.calls _ _ _ (ref_last_f st)).mono ?_
  rintro e w9 ⟨rfl, hd⟩
  have HB9 := Lib.hid (chainD HB8.out hd)
  clear hd
  go_wp2_with fail
  refine (poly_Sum.nil _ _).mono ?_
  rintro e w10 ⟨rfl, hd⟩
  have HB10 := Lib.hid (chainD HB9.out hd)
  clear hd
  go_wp2_with fail
  refine (poly_More.nil st _ _).mono ?_
  rintro e w11 ⟨rfl, hd⟩
  have HB11 := Lib.hid (chainD HB10.out hd)
  clear hd
  go_wp2
  go_ret
  exact ⟨by simp, HB11.out⟩

theorem polySums_law (a0 : Int) (a1 : ByteArray) (W : World) (w0 : (Lit.int .u32 a0).wf = true) (w1 : a1.size ≤ 140737488351232) :
    Calls Try.prog 3 #[.int .u32 a0, .string a1] W fun e w' => e = .returned (.bool true) ∧ Below W.heap.size W w' := by
  have b0 : 0 ≤ a0 ∧ a0 < 4294967296 := by simp [Lit.wf, IntKind.min, IntKind.max, IntKind.signed, IntKind.bits] at w0; omega
  obtain ⟨st, rfl⟩ := v32_of a0 b0.1 b0.2
  exact polySums_walk st a1 W w1
end Go.Proofs.Ytbfmdfolboankaa
