/- The table in a variable, and the signs of life of layer 2's laws. No conditions. -/
import Derived.Test.YtfomgljhcegjdaaXPoly
namespace Go.Proofs.Ytfomgljhcegjdaa
open Go.RowKit Go.Proofs.YtfomgljhcegjdaaW.PrintWords Go.Proofs.YtfomgljhcegjdaaW.PrintLast Go.Proofs.YtfomgljhcegjdaaW.PrintMore Go.Proofs.Ytfomgljhcegjdaa.P Go.Proofs.Ytfomgljhcegjdaa.PoS
set_option linter.unusedVariables false
set_option linter.unusedSimpArgs false

theorem chain2 {w a b : World} (h : Below w.heap.size w a) (k : Below a.heap.size a b) : Below w.heap.size w b := below_then h h.size k
theorem chainD {w a b : World} (h : Below w.heap.size w a) (k : Drawn0 a b) : Below w.heap.size w b := chain2 h k.below
theorem TabAt.drawn {w w' : World} {g : Nat} (h : TabAt w g) (hd : Drawn0 w w') : TabAt w' g := by obtain ⟨n, rfl⟩ := hd.out; exact h
/-- 't := poly.Make()', the table in a variable of its own. -/
theorem made_facts {w w1 : World} (hb : Below w.heap.size w w1) : ∀ w2, w2 = (w1.alloc (.cells (tabCells 0) 27)).setRow w1.heap.size (tabCells 256) → TabAt w2 w1.heap.size ∧ Below w.heap.size w w2 ∧ w.heap.size ≤ w1.heap.size := by
  rintro w2 rfl
  have h1 : (w1.alloc (.cells (tabCells 0) 27)).heap[w1.heap.size]? = some (.cells (tabCells 0) 27 (0, 0)) := heap_alloc_new w1 _
  exact ⟨TabAt.of_block (setRow_heap _ w1.heap.size _ (tabCells 256) _ _ h1), below_setRow (hb.alloc hb.size _) hb.size _, hb.size⟩

theorem made_ok {w w1 : World} (hb : Below w.heap.size w w1) : ∃ w2, w2 = (w1.alloc (.cells (tabCells 0) 27)).setRow w1.heap.size (tabCells 256) ∧ TabAt w2 w1.heap.size ∧ Below w.heap.size w w2 := ⟨_, rfl, (made_facts hb _ rfl).1, (made_facts hb _ rfl).2.1⟩
end Go.Proofs.Ytfomgljhcegjdaa
