/- The table in a variable, and the signs of life of layer 2's laws. No conditions. -/
import Derived.Test.YtbfmdfolboankaaXPoly
namespace Go.Proofs.Ytbfmdfolboankaa
open Go.RowKit Go.Proofs.YtbfmdfolboankaaW.PrintWords Go.Proofs.YtbfmdfolboankaaW.PrintLast Go.Proofs.YtbfmdfolboankaaW.PrintMore Go.Proofs.Ytbfmdfolboankaa.P Go.Proofs.Ytbfmdfolboankaa.PoS
set_option linter.unusedVariables false
set_option linter.unusedSimpArgs false

theorem chain2 {w a b : World} (h : Below w.heap.size w a) (k : Below a.heap.size a b) : Below w.heap.size w b := below_then h h.size k
theorem chainD {w a b : World} (h : Below w.heap.size w a) (k : Drawn0 a b) : Below w.heap.size w b := chain2 h k.below
theorem TabAt.drawn {w w' : World} {g : Nat} (h : TabAt w g) (hd : Drawn0 w w') : TabAt w' g := by obtain ⟨n, rfl⟩ := hd.out; exact h
/-- 't := poly.Make()', the table in a variable of its own. -/
theorem made_facts {w w1 : World} (hb : Below w.heap.size w w1) : ∀ w2, w2 = (w1.alloc (.cells (tabCells 0) 24)).setRow w1.heap.size (tabCells 256) → TabAt w2 w1.heap.size ∧ Below w.heap.size w w2 ∧ w.heap.size ≤ w1.heap.size := by
  rintro w2 rfl
  have h1 : (w1.alloc (.cells (tabCells 0) 24)).heap[w1.heap.size]? = some (.cells (tabCells 0) 24 (0, 0)) := heap_alloc_new w1 _
  exact ⟨TabAt.of_block (setRow_heap _ w1.heap.size _ (tabCells 256) _ _ h1), below_setRow (hb.alloc hb.size _) hb.size _, hb.size⟩

theorem sum_123 : sum [49, 50, 51, 52, 53, 54, 55, 56, 57] = 0xFC891918#32 := by decide +kernel
theorem tab_1 : tabN 1 = 0x04C11DB7#32 := by decide +kernel

set_option maxHeartbeats 2000000 in
theorem wakes_ok (w : World) : Calls Try.prog 9 #[] w fun e w' => e = .returned (.bool true) ∧ Below w.heap.size w w' := by
  have hz := make_zero
  go_enter Try.func9, Try.ntmps9
  go_wp2_with fail
  refine (poly_Make.calls _).mono ?_
  rintro e w1 ⟨rfl, hb1⟩
  have Hb1 := Lib.hid hb1; clear hb1
  go_wp2_with (refine wpList_store_row rfl 24 _ _ rfl w1.heap.size (tabCells 256) rfl rfl 24 (tabCells 0) (heap_alloc_new w1 _) make_info (by rw [tabCells_size, tabCells_size]) (tabCells_one _) ?_)
  clear hz
  obtain ⟨hT, hB, hS⟩ := made_facts Hb1.out _ rfl
  generalize (w1.alloc (.cells (tabCells 0) 24)).setRow w1.heap.size (tabCells 256) = w2 at hT hB ⊢
  have HT := Lib.hid hT; clear hT
  have HB := Lib.hid hB; clear hB
  refine (poly_Sum.calls w1.heap.size ⟨#[49, 50, 51, 52, 53, 54, 55, 56, 57]⟩ (by decide) w2 HT.out).mono ?_
  rintro e w3 ⟨rfl, hd3⟩
  have HT3 := Lib.hid (HT.out.drawn hd3)
  have HB3 := Lib.hid (chainD HB.out hd3)
  clear hd3
  have h1 : w3.cell? ⟨w1.heap.size, 1, none⟩ = some (.int .u32 79764919) := HT3.out 1 (by decide)
  rw [show (v32 (sum [49, 50, 51, 52, 53, 54, 55, 56, 57])) = 4236843288 from by rw [sum_123]; rfl]
  go_wp2_with fail
  refine (poly_First.calls _ _ rfl).mono ?_
  rintro e w4 ⟨rfl, ⟨n, rfl⟩⟩
  have h2 : (w3.drewN n).cell? ⟨w1.heap.size, 1, none⟩ = some (.int .u32 79764919) := h1
  go_wp2
  go_ret
  exact ⟨rfl, pw_below_drewN HB3.out n⟩

/-- A law's frame: the table made, and laid into a variable. -/
theorem made_ok {w w1 : World} (hb : Below w.heap.size w w1) : ∃ w2, w2 = (w1.alloc (.cells (tabCells 0) 24)).setRow w1.heap.size (tabCells 256) ∧ TabAt w2 w1.heap.size ∧ Below w.heap.size w w2 := ⟨_, rfl, (made_facts hb _ rfl).1, (made_facts hb _ rfl).2.1⟩
end Go.Proofs.Ytbfmdfolboankaa
