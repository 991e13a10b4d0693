/- A slice of whole numbers that came in, as far as its length. No program in sight. -/
import Derived.Below
import Derived.WalkKit
import Derived.Test.YthapekmdnokniaaWWords
namespace Go.Proofs.Ythapekmdnokniaa
open Go.RowKit Go.Proofs.YthapekmdnokniaaW.PrintWords
def IntsIn (k : IntKind) (w : World) (a : Option Addr) (len : Nat) (z : List Int) : Prop :=
  ∀ i, i < len → ∃ x, a = some x ∧ w.cell? (x.add i) = some (.int k (z.getD i 0)) ∧ (Lit.int k (z.getD i 0)).wf = true
theorem IntsIn.below {k : IntKind} {w w' : World} {a : Option Addr} {len : Nat} {z : List Int} (h : IntsIn k w a len z) (hb : Below w.heap.size w w') : IntsIn k w' a len z := fun i hi => by
  obtain ⟨x, h1, h2, h3⟩ := h i hi
  exact ⟨x, h1, pw_cell_below hb h2, h3⟩
theorem ints_in {k : IntKind} {W : World} {a0 : Option Addr} {len0 cap0 : Nat} {z0 : List Int} (w0 : (a0 = none ∧ len0 = 0 ∧ cap0 = 0 ∧ z0 = []) ∨ ∃ x, a0 = some x ∧ len0 ≤ cap0 ∧ cap0 ≤ maxLen ∧ z0.length = cap0 ∧ (∀ i, i < z0.length → W.cell? (x.add i) = some (.int k (z0.getD i 0))) ∧ ∀ n ∈ z0, (Lit.int k n).wf = true) :
    IntsIn k W a0 len0 z0 ∧ len0 ≤ cap0 ∧ cap0 ≤ maxLen := by
  rcases w0 with ⟨rfl, rfl, rfl, rfl⟩ | ⟨x, rfl, h1, h2, h3, h4, h5⟩
  · exact ⟨fun i hi => absurd hi (Nat.not_lt_zero _), Nat.le_refl _, Nat.zero_le _⟩
  · refine ⟨fun i hi => ⟨x, rfl, h4 i (by omega), ?_⟩, h1, h2⟩
    have hl : i < z0.length := by omega
    exact h5 (z0.getD i 0) (by rw [List.getD_eq_getElem?_getD, List.getElem?_eq_getElem hl]; exact List.getElem_mem hl)
end Go.Proofs.Ythapekmdnokniaa
