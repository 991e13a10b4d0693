/- What a call touches of what was there: all other blocks are as they were. No program in sight. -/
import Derived.Below
import Derived.Lib.BufferOwn
import Derived.Laws.AppendOwn
namespace Go.Proofs.Ytepgdjkmobngcaa
open Go.RowKit
structure Touch (T : Nat → Prop) (w w' : World) : Prop where
  os : w'.os = w.os
  tape : w'.tape = w.tape
  output : w'.output = w.output
  size : w.heap.size ≤ w'.heap.size
  block : ∀ k, k < w.heap.size → ¬ T k → w'.heap[k]? = w.heap[k]?
variable {T : Nat → Prop} {a b c w w' : World}
theorem Touch.refl (T : Nat → Prop) (w : World) : Touch T w w := ⟨rfl, rfl, rfl, Nat.le_refl _, fun _ _ _ => rfl⟩
theorem Touch.trans (h : Touch T a b) (k : Touch T b c) : Touch T a c :=
  ⟨k.os.trans h.os, k.tape.trans h.tape, k.output.trans h.output, Nat.le_trans h.size k.size, fun i hi hn => (k.block i (Nat.lt_of_lt_of_le hi h.size) hn).trans (h.block i hi hn)⟩
theorem Touch.of (T : Nat → Prop) (h : Below w.heap.size w w') : Touch T w w' := ⟨h.os, h.tape, h.output, h.size, fun i hi _ => h.block i hi⟩
theorem Touch.then_ (h : Touch T a b) (k : Below b.heap.size b c) : Touch T a c := h.trans (Touch.of T k)
theorem Touch.grown {r : Option Nat} (h : Touch T a w) (hg : w.grownBy w' r) (hr : ∀ k, r = some k → T k ∨ a.heap.size ≤ k) : Touch T a w' :=
  ⟨hg.os.trans h.os, hg.tape.trans h.tape, hg.output.trans h.output, Nat.le_trans h.size hg.size, fun i hi hn => (hg.block i (Nat.lt_of_lt_of_le hi h.size) (fun e => (hr i e.symm).elim hn (fun e2 => Nat.lt_irrefl _ (Nat.lt_of_lt_of_le hi e2)))).trans (h.block i hi hn)⟩
theorem Touch.alloc (h : Touch T a w) (o : Obj) : Touch T a (w.alloc o) := h.then_ ((Below.refl _ _).alloc (Nat.le_refl _) o)
theorem Touch.drew (h : Touch T a w) : Touch T a w.drew := ⟨h.os, h.tape, h.output, h.size, h.block⟩
theorem Touch.drewN (h : Touch T a w) (n : Nat) : Touch T a (w.drewN n) := ⟨h.os, h.tape, h.output, h.size, h.block⟩
theorem Touch.set (h : Touch T a w) {g i : Nat} (hp : T g ∨ a.heap.size ≤ g) (u : Value) : Touch T a (w.setCell ⟨g, i, none⟩ u) :=
  h.grown (Lib.grownBy_setCell w g i u) (fun k hk => by cases hk; exact hp)
theorem Touch.below {base : Nat} (h : Touch T a b) (hT : ∀ k, T k → base ≤ k) (hb : base ≤ a.heap.size) : Below base a b :=
  ⟨h.os, h.tape, h.output, h.size, fun i hi => h.block i (Nat.lt_of_lt_of_le hi hb) (fun e => Nat.lt_irrefl _ (Nat.lt_of_lt_of_le hi (hT i e)))⟩
theorem Touch.blk (h : Touch T a b) {k : Nat} {o : Obj} (hx : a.heap[k]? = some o) (hn : ¬ T k) : b.heap[k]? = some o :=
  (h.block k (Array.getElem?_eq_some_iff.1 hx).1 hn).trans hx
theorem Touch.mono {S : Nat → Prop} (h : Touch T a b) (hS : ∀ k, T k → S k) : Touch S a b := ⟨h.os, h.tape, h.output, h.size, fun i hi hn => h.block i hi (fun e => hn (hS i e))⟩
theorem Touch.grownOne {g : Nat} (h : Touch (fun k => k = g) a b) : a.grownBy b (some g) := ⟨h.os, h.tape, h.output, h.size, fun i hi hn => h.block i hi (fun e => hn (by rw [e]))⟩
end Go.Proofs.Ytepgdjkmobngcaa
