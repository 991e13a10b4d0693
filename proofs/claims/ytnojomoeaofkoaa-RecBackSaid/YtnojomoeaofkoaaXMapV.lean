/- Maps that the call makes, with elements of whatever kind: what stands at each key. No conditions beyond the form's own reach. -/
import Derived.Maps.Own
import Derived.Maps.OwnSet
import Derived.Maps.OwnOps
import Derived.Maps.Views
import Derived.WalkKit
namespace Go.Proofs.Ytnojomoeaofkoaa
open Go.RowKit Go.Maps
set_option linter.unusedVariables false
set_option linter.unusedSimpArgs false
/-- An element as it is. -/
def RV (v : Value) : Option (DataW Value × List MemPlace) := some (.held v, [])
/-- How keys are told. -/
structure KeyE (P : Program) (K : TypeId) {κ : Type} (ek : κ → Value) (ok : κ → Prop) : Prop where
  keyed : Keyed P K
  lit : ∀ k, ok k → ∃ l, keyOf P K (ek k) = some l
  inj : ∀ a b, ek a = ek b → a = b
/-- Block b is a map of c entries; at each key stands f. -/
def MapV (P : Program) (K : TypeId) {κ : Type} (ek : κ → Value) (ok : κ → Prop) (w : World) (b c : Nat) (f : κ → Option Value) : Prop :=
  ∃ D : DataW Value, w.ownsMap P K RV b c D ∧ Maps.size D = c ∧ ∀ k l, ok k → keyOf P K (ek k) = some l → Maps.has D l = (f k).isSome ∧ ∀ v, f k = some v → ∀ z, D.atKey l z = .held v
section
variable {P : Program} {K : TypeId} {κ : Type} {ek : κ → Value} {ok : κ → Prop} {w : World} {b c : Nat} {f : κ → Option Value}
theorem MapV.made (w : World) : MapV P K ek ok (w.alloc (.map #[] 0)) w.heap.size 0 (fun _ => none) :=
  ⟨.map [], World.ownsMap_made _ _ _ _, rfl, fun k l _ _ => ⟨rfl, fun v h => by cases h⟩⟩
theorem MapV.lt (h : MapV P K ek ok w b c f) : b < w.heap.size := by
  obtain ⟨D, h, _⟩ := h
  exact h.lt
theorem MapV.kept {w' : World} {r : Option Nat} (h : MapV P K ek ok w b c f) (hg : w.grownBy w' r) (hne : some b ≠ r) : MapV P K ek ok w' b c f := by
  obtain ⟨D, h1, h2⟩ := h
  exact ⟨D, h1.kept hg hne, h2⟩
theorem MapV.below {w' : World} (h : MapV P K ek ok w b c f) (hb : Below w.heap.size w w') : MapV P K ek ok w' b c f :=
  h.kept (r := none) ⟨hb.os, hb.tape, hb.output, hb.size, fun i hi _ => hb.block i hi⟩ (by simp)
theorem MapV.set (h : MapV P K ek ok w b c f) {a : Addr} (ha : b ≠ a.block) (u : Value) : MapV P K ek ok (w.setCell a u) b c f := by
  obtain ⟨D, h1, h2⟩ := h
  exact ⟨D, h1.setCell ha u, h2⟩
theorem own_exact {k : TypeId} {R : Value → Option (DataW Value × List MemPlace)} {n : Nat} {D : DataW Value} (h : w.ownsMap P k R b n D) : w.ownsMap P k R b (Maps.size D) D := by
  obtain ⟨es, clock, hb, F, hs, rfl⟩ := h
  exact ⟨es, clock, hb, F, by simp [Maps.size, length_sorted], rfl⟩
theorem MapV.look (E : KeyE P K ek ok) (h : MapV P K ek ok w b c f) {t e : TypeId} (ht : P.underlying t = some (.map K e)) {z : Value} (hz : (zeroValue e).run P w = .ok z w) (k : κ) (hk : ok k) :
    (Instr.lookup t (.map (some b)) (ek k) false).run P w = .ok ((f k).getD z) w := by
  obtain ⟨D, h1, h2, h3⟩ := h
  obtain ⟨l, hl⟩ := E.lit k hk
  obtain ⟨v, ps, hrun, hv⟩ := h1.lookup E.keyed ht hz (show RV z = some (.held z, []) from rfl) hl
  obtain ⟨q1, q2⟩ := h3 k l hk hl
  have hv' : DataW.held v = D.atKey l (.held z) := by
    have := congrArg (Option.map Prod.fst) hv
    simpa [RV] using this
  rw [hrun]
  cases hf : f k with
  | none =>
    rw [hf] at q1
    rw [Maps.atKey_of_not_has q1] at hv'
    injection hv' with e
    rw [e]; rfl
  | some u =>
    rw [q2 u hf] at hv'
    injection hv' with e
    rw [e]; rfl
theorem MapV.lookOk (E : KeyE P K ek ok) (h : MapV P K ek ok w b c f) {t e : TypeId} (ht : P.underlying t = some (.map K e)) {z : Value} (hz : (zeroValue e).run P w = .ok z w) (k : κ) (hk : ok k) :
    (Instr.lookup t (.map (some b)) (ek k) true).run P w = .ok (.tuple #[(f k).getD z, .bool (f k).isSome]) w := by
  obtain ⟨D, h1, h2, h3⟩ := h
  obtain ⟨l, hl⟩ := E.lit k hk
  obtain ⟨v, ps, hrun, hv⟩ := h1.look_ok E.keyed ht hz (show RV z = some (.held z, []) from rfl) hl
  obtain ⟨q1, q2⟩ := h3 k l hk hl
  have hv' : DataW.held v = D.atKey l (.held z) := by
    have := congrArg (Option.map Prod.fst) hv
    simpa [RV] using this
  rw [hrun, q1]
  cases hf : f k with
  | none =>
    rw [hf] at q1
    rw [Maps.atKey_of_not_has q1] at hv'
    injection hv' with e
    rw [e]; rfl
  | some u =>
    rw [q2 u hf] at hv'
    injection hv' with e
    rw [e]; rfl
theorem MapV.len (h : MapV P K ek ok w b c f) {t e : TypeId} (ht : P.underlying t = some (.map K e)) (ty : TypeId) : (Builtin.len_ #[t] ty #[.map (some b)]).run P w = .ok (.int .i64 (c : Int)) w := by
  obtain ⟨D, h1, h2, _⟩ := h
  have := h1.len ht ty
  rw [h2] at this
  exact this
theorem lit_ne (E : KeyE P K ek ok) {j k : κ} {lj lk : Lit} (hj : keyOf P K (ek j) = some lj) (hk : keyOf P K (ek k) = some lk) (hne : j ≠ k) : lj ≠ lk := fun e => hne (E.inj j k (E.keyed.inj hj (e ▸ hk)))
theorem MapV.store [DecidableEq κ] (E : KeyE P K ek ok) (h : MapV P K ek ok w b c f) {t e : TypeId} (ht : P.underlying t = some (.map K e)) (hc : c < maxLen) (k : κ) (hk : ok k) (v : Value) :
    ∃ w', (Instr.mapUpdate t (.map (some b)) (ek k) v).run P w = .ok () w' ∧ MapV P K ek ok w' b (if (f k).isSome then c else c + 1) (fun j => if j = k then some v else f j) ∧ w.grownBy w' (some b) := by
  obtain ⟨D, h1, h2, h3⟩ := h
  obtain ⟨l, hl⟩ := E.lit k hk
  have hlk := E.keyed.key hl
  obtain ⟨w', hrun, g1, g2⟩ := h1.update E.keyed ht hc hl (show RV v = some (.held v, []) from rfl)
  have hsz : Maps.size (D.put l (.held v)) = if (f k).isSome then c else c + 1 := by
    rw [Maps.size_put (h1.tidy E.keyed), (h3 k l hk hl).1, h2]
  refine ⟨w', hrun, ⟨D.put l (.held v), by rw [← hsz]; exact own_exact g1, hsz, fun j lj hj hlj => ?_⟩, g2⟩
  dsimp only
  by_cases e : j = k
  · subst e
    rw [hl] at hlj
    injection hlj with e
    subst e
    rw [if_pos rfl]
    exact ⟨Maps.has_put_same h1.isMap hlk _, fun u hu z => by injection hu with e; subst e; exact Maps.atKey_put_same h1.isMap hlk _ z⟩
  · rw [if_neg e]
    have hne := lit_ne E hlj hl e
    rw [Maps.has_put_other hne]
    exact ⟨(h3 j lj hj hlj).1, fun u hu z => by rw [Maps.atKey_put_other hne]; exact (h3 j lj hj hlj).2 u hu z⟩
theorem MapV.drop [DecidableEq κ] (E : KeyE P K ek ok) (h : MapV P K ek ok w b c f) {t e : TypeId} (ht : P.underlying t = some (.map K e)) (ty : TypeId) (k : κ) (hk : ok k) :
    ∃ w', (Builtin.delete_ #[t, K] ty #[.map (some b), ek k]).run P w = .ok (.tuple #[]) w' ∧ MapV P K ek ok w' b (if (f k).isSome then c - 1 else c) (fun j => if j = k then none else f j) ∧ w.grownBy w' (some b) := by
  obtain ⟨D, h1, h2, h3⟩ := h
  obtain ⟨l, hl⟩ := E.lit k hk
  obtain ⟨w', hrun, g1, g2⟩ := h1.drop E.keyed ht hl ty
  have hsz : Maps.size (D.del l) = if (f k).isSome then c - 1 else c := by
    have := Maps.size_del (k := l) (h1.tidy E.keyed)
    rw [(h3 k l hk hl).1, h2] at this
    split at this <;> simp_all <;> omega
  refine ⟨w', hrun, ⟨D.del l, by rw [← hsz]; exact own_exact g1, hsz, fun j lj hj hlj => ?_⟩, g2.grown⟩
  dsimp only
  by_cases e : j = k
  · subst e
    rw [hl] at hlj
    injection hlj with e
    subst e
    rw [if_pos rfl]
    exact ⟨Maps.has_del_same, fun u hu => by cases hu⟩
  · rw [if_neg e]
    have hne := lit_ne E hlj hl e
    rw [Maps.has_del_other hne]
    exact ⟨(h3 j lj hj hlj).1, fun u hu z => by rw [Maps.atKey_del_other hne]; exact (h3 j lj hj hlj).2 u hu z⟩
theorem MapV.congr (h : MapV P K ek ok w b c f) {g : κ → Option Value} (hg : ∀ k, ok k → f k = g k) : MapV P K ek ok w b c g := by
  obtain ⟨D, h1, h2, h3⟩ := h
  exact ⟨D, h1, h2, fun k l hk hl => by rw [← hg k hk]; exact h3 k l hk hl⟩
theorem wpList_mapV_store [DecidableEq κ] {ops : Array Oper} {rest : List Oper} {o : Oper} {a : Act} {Q : Exit → Act → World → Prop}
    (hg : o.guard = none) (m x v : Operand) (t : TypeId) (hop : o.op = Op.mapUpdate t m x v) (E : KeyE P K ek ok) {e : TypeId} (ht : P.underlying t = some (.map K e))
    (hm : a.eval m = .map (some b)) (h : MapV P K ek ok w b c f) (hc : c < maxLen) (k : κ) (hk : ok k) (val : Value) (hx : a.eval x = ek k) (hv : a.eval v = val)
    (hK : ∀ w', MapV P K ek ok w' b (if (f k).isSome then c else c + 1) (fun j => if j = k then some val else f j) → w.grownBy w' (some b) → wpList P ops Q rest (a.put o.dst undef) w') :
    wpList P ops Q (o :: rest) a w := by
  refine wpList_plain hg fun K' hK' => ?_
  obtain ⟨w', hrun, r1, r2⟩ := h.store E ht hc k hk val
  unfold Oper.wp
  simp [execOp, hop, hm, hx, hv, hrun, Result.andThen]
  exact hK' _ _ (hK w' r1 r2)
theorem wpList_mapV_insert [DecidableEq κ] {ops : Array Oper} {rest : List Oper} {o : Oper} {a : Act} {Q : Exit → Act → World → Prop}
    (hg : o.guard = none) (m x v : Operand) (t : TypeId) (hop : o.op = Op.insert t m x v) (E : KeyE P K ek ok) {e : TypeId} (ht : P.underlying t = some (.map K e))
    (hm : a.eval m = .map (some b)) (h : MapV P K ek ok w b c f) (hc : c < maxLen) (k : κ) (hk : ok k) (val : Value) (hx : a.eval x = ek k) (hv : a.eval v = val)
    (hK : ∀ w', MapV P K ek ok w' b (if (f k).isSome then c else c + 1) (fun j => if j = k then some val else f j) → w.grownBy w' (some b) → wpList P ops Q rest (a.put o.dst undef) w') :
    wpList P ops Q (o :: rest) a w := by
  refine wpList_plain hg fun K' hK' => ?_
  obtain ⟨w', hrun, r1, r2⟩ := h.store E ht hc k hk val
  unfold Oper.wp
  simp [execOp, hop, hm, hx, hv, hrun, Result.andThen]
  exact hK' _ _ (hK w' r1 r2)
theorem wpList_mapV_drop [DecidableEq κ] {ops : Array Oper} {rest : List Oper} {o : Oper} {a : Act} {Q : Exit → Act → World → Prop}
    (hg : o.guard = none) (m x : Operand) (t : TypeId) (hop : o.op = Op.call { callee := Callee.builtin Builtin.delete, args := #[m, x], argTypes := #[t, K] }) (E : KeyE P K ek ok) {e : TypeId} (ht : P.underlying t = some (.map K e))
    (hm : a.eval m = .map (some b)) (h : MapV P K ek ok w b c f) (k : κ) (hk : ok k) (hx : a.eval x = ek k)
    (hK : ∀ w', MapV P K ek ok w' b (if (f k).isSome then c - 1 else c) (fun j => if j = k then none else f j) → w.grownBy w' (some b) → wpList P ops Q rest (a.put o.dst (.tuple #[])) w') :
    wpList P ops Q (o :: rest) a w := by
  refine wpList_plain hg fun K' hK' => ?_
  obtain ⟨w', hrun, r1, r2⟩ := h.drop E ht o.type k hk
  unfold Oper.wp
  simp [execOp, hop, resolve, invoke, builtin, hm, hx, hrun, Result.andThen]
  exact hK' _ _ (hK w' r1 r2)
end
theorem wpList_append_run {P : Program} {ops : Array Oper} {rest : List Oper} {o : Oper} {a : Act} {Q : Exit → Act → World → Prop} {w : World} (hgd : o.guard = none) (s x : Operand) (T : TypeId) (ho : o.op = .call { callee := .builtin .append, args := #[s, x], argTypes := #[T, T] })
    (v u : Value) (hs : a.eval s = v) (hx : a.eval x = u) {v' : Value} {w' : World} (hr : (Builtin.append_ #[T, T] o.type #[v, u]).run P w = .ok v' w') (hK : wpList P ops Q rest (a.put o.dst v') w') : wpList P ops Q (o :: rest) a w := by
  refine wpList_plain hgd fun K hK' => ?_
  unfold Oper.wp execOp
  simp only [ho, resolve, invoke, builtin, Sem.run_bind, Sem.run_pure, Result.andThen_ok, List.map_toArray, List.map_cons, List.map_nil, hs, hx, hr]
  exact hK' _ _ hK
/-- Whole numbers as keys. -/
def I64 (k : Int) : Prop := (Lit.int .i64 k).wf = true
theorem i64_of (k : Int) (h0 : -9223372036854775808 ≤ k) (h1 : k < 9223372036854775808) : I64 k := by
  unfold I64
  simp [Lit.wf, IntKind.min, IntKind.max, IntKind.signed, IntKind.bits]
  omega
theorem keyE_int {P : Program} {K : TypeId} (hk : P.underlying K = some (.int .i64)) : KeyE P K (fun k : Int => Value.int .i64 k) I64 :=
  ⟨int_keyed hk, fun k h => ⟨_, keyOf_int_mk hk h⟩, fun a b h => by injection h⟩
end Go.Proofs.Ytnojomoeaofkoaa
