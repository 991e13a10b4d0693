/- A map of whole numbers to bools that the call makes. No conditions beyond the form's own reach. -/
import Derived.Test.YtgebiiekofpihaaXPoolEvenL
import Derived.Maps.Own
import Derived.Maps.OwnOps
import Derived.Maps.Views
namespace Go.Proofs.Ytgebiiekofpihaa
open Go.RowKit Go.Lib Go.Maps Go.Proofs.YtgebiiekofpihaaW.PrintWords Go.Proofs.YtgebiiekofpihaaW.PrintLast Go.Proofs.YtgebiiekofpihaaW.PrintMore
set_option linter.unusedVariables false
set_option linter.unusedSimpArgs false
--@tables
theorem keyI : Keyed Try.prog 3 := int_keyed Try.underlying3
theorem zeroB (w : World) : (zeroValue 4).run Try.prog w = .ok (.bool false) w := by kernel_rfl
def I64 (k : Int) : Prop := (Lit.int .i64 k).wf = true
theorem i64_of (k : Int) (h0 : -9223372036854775808 ≤ k) (h1 : k < 9223372036854775808) : I64 k := by
  unfold I64
  simp [Lit.wf, IntKind.min, IntKind.max, IntKind.signed, IntKind.bits]
  omega
/-- Block b is a map of at most n entries; at each key stands f. -/
def MapB (w : World) (b n : Nat) (f : Int → Bool) : Prop := ∃ D : DataW Unit, w.ownsMap Try.prog 3 (plainElem Try.prog 4) b n D ∧ IsMap D ∧ ∀ k, I64 k → D.atKey (.int .i64 k) (.lit (.bool false)) = .lit (.bool (f k))
theorem MapB.made (w : World) : MapB (w.alloc (.map #[] 0)) w.heap.size 0 (fun _ => false) :=
  ⟨.map [], World.ownsMap_made _ _ _ _, ⟨[], rfl⟩, fun k hk => rfl⟩
theorem MapB.lt {w : World} {b n : Nat} {f : Int → Bool} (h : MapB w b n f) : b < w.heap.size := by
  obtain ⟨D, h, _⟩ := h
  exact h.lt
theorem MapB.kept {w w' : World} {b n : Nat} {f : Int → Bool} {r : Option Nat} (h : MapB w b n f) (hg : w.grownBy w' r) (hne : some b ≠ r) : MapB w' b n f := by
  obtain ⟨D, h1, h2⟩ := h
  exact ⟨D, h1.kept hg hne, h2⟩
theorem plainElem_bool_inv {H : Type} {P : Program} {e : TypeId} (he : P.underlying e = some .bool) {v : Value} {z : DataW H × List MemPlace} (h : plainElem P e v = some z) : ∃ x, v = .bool x ∧ z = (.lit (.bool x), []) := by
  unfold plainElem at h
  rw [he] at h
  cases v <;> simp at h
  exact ⟨_, rfl, h.symm⟩
theorem MapB.look {w : World} {b n : Nat} {f : Int → Bool} (h : MapB w b n f) (k : Int) (hk : I64 k) : (Instr.lookup 32 (.map (some b)) (.int .i64 k) false).run Try.prog w = .ok (.bool (f k)) w := by
  obtain ⟨D, h1, h2, h3⟩ := h
  obtain ⟨v, ps, hrun, hv⟩ := h1.lookup keyI Try.underlying32 (zeroB w) (plainElem_bool Try.underlying4 false) (keyOf_int_mk Try.underlying3 hk)
  obtain ⟨x, rfl, hz⟩ := plainElem_bool_inv Try.underlying4 hv
  simp only [Prod.mk.injEq] at hz
  rw [h3 k hk] at hz
  have e : x = f k := by have := hz.1; simp at this; exact this.symm
  rw [hrun, e]
theorem isMap_put {D : DataW Unit} (h : IsMap D) (k : Lit) (d : DataW Unit) : IsMap (D.put k d) := by
  obtain ⟨es, rfl⟩ := h
  exact ⟨_, rfl⟩
theorem wpList_mapB_store {P : Program} (hP : P = Try.prog) (w : World) {ops : Array Oper} {rest : List Oper} {o : Oper} {a : Act} {Q : Exit → Act → World → Prop}
    (hg : o.guard = none) (m x v : Operand) (hop : o.op = Op.mapUpdate 32 m x v) (b n : Nat) (f : Int → Bool)
    (hm : a.eval m = .map (some b)) (hown : MapB w b n f) (hn : n < maxLen) (k : Int) (u : Bool) (hx : a.eval x = .int .i64 k) (hv : a.eval v = .bool u) (hk : I64 k)
    (hK : ∀ w', MapB w' b (n + 1) (fun j => if j = k then u else f j) → w.grownBy w' (some b) → wpList P ops Q rest (a.put o.dst undef) w') :
    wpList P ops Q (o :: rest) a w := by
  subst hP
  obtain ⟨D, h1, h2, h3⟩ := hown
  refine wpList_mapUpdate_own w hg m x v 32 hop 3 4 keyI Try.underlying32 _ b n D hm h1 hn _ _ _ hx hv (keyOf_int_mk Try.underlying3 hk) _ [] (plainElem_bool Try.underlying4 u) ?_
  intro w' g1 g2
  refine hK w' ⟨_, g1, isMap_put h2 _ _, fun j hj => ?_⟩ g2
  dsimp only
  by_cases hjk : j = k
  · subst hjk
    rw [if_pos rfl, atKey_put_same h2 (by trivial)]
  · rw [if_neg hjk, atKey_put_other (by intro e; injection e with _ e2; exact hjk e2)]
    exact h3 j hj
end Go.Proofs.Ytgebiiekofpihaa
