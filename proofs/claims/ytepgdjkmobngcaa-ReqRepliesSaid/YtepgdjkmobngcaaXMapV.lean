/- Maps that the call makes, with elements of whatever kind: what stands at each key. No conditions beyond the form's own reach. -/
import Derived.Maps.Own
import Derived.Maps.OwnSet
import Derived.Maps.OwnOps
import Derived.Maps.Views
import Derived.WideKeyEntry
import Derived.WalkKit
namespace Go.Proofs.Ytepgdjkmobngcaa
open Go.RowKit Go.Maps
set_option linter.unusedVariables false
set_option linter.unusedSimpArgs false
/-- An element as it is. -/
def RV (v : Value) : Option (DataW Value × List MemPlace) := some (.held v, [])
/-- How keys are told. -/
structure KeyE (P : Program) (K : TypeId) {κ : Type} (ek : κ → Value) (ok : κ → Prop) : Prop where
  keyed : Keyed P K
  lit : ∀ k, ok k → ∃ l, keyOf P K (ek k) = some l
  inj : ∀ a b, ek a = ek b → a = b
/-- Block b is a map of c entries; at each key stands f. -/
def MapV (P : Program) (K : TypeId) {κ : Type} (ek : κ → Value) (ok : κ → Prop) (w : World) (b c : Nat) (f : κ → Option Value) : Prop :=
  ∃ D : DataW Value, w.ownsMap P K RV b c D ∧ Maps.size D = c ∧ ∀ k l, ok k → keyOf P K (ek k) = some l → Maps.has D l = (f k).isSome ∧ ∀ v, f k = some v → ∀ z, D.atKey l z = .held v
section
variable {P : Program} {K : TypeId} {κ : Type} {ek : κ → Value} {ok : κ → Prop} {w : World} {b c : Nat} {f : κ → Option Value}
theorem MapV.made (w : World) : MapV P K ek ok (w.alloc (.map #[] 0)) w.heap.size 0 (fun _ => none) :=
  ⟨.map [], World.ownsMap_made _ _ _ _, rfl, fun k l _ _ => ⟨rfl, fun v h => by cases h⟩⟩
theorem MapV.lt (h : MapV P K ek ok w b c f) : b < w.heap.size := by
  obtain ⟨D, h, _⟩ := h
  exact h.lt
theorem MapV.kept {w' : World} {r : Option Nat} (h : MapV P K ek ok w b c f) (hg : w.grownBy w' r) (hne : some b ≠ r) : MapV P K ek ok w' b c f := by
  obtain ⟨D, h1, h2⟩ := h
  exact ⟨D, h1.kept hg hne, h2⟩
theorem MapV.below {w' : World} (h : MapV P K ek ok w b c f) (hb : Below w.heap.size w w') : MapV P K ek ok w' b c f :=
  h.kept (r := none) ⟨hb.os, hb.tape, hb.output, hb.size, fun i hi _ => hb.block i hi⟩ (by simp)
theorem MapV.set (h : MapV P K ek ok w b c f) {a : Addr} (ha : b ≠ a.block) (u : Value) : MapV P K ek ok (w.setCell a u) b c f := by
  obtain ⟨D, h1, h2⟩ := h
  exact ⟨D, h1.setCell ha u, h2⟩
theorem own_exact {k : TypeId} {R : Value → Option (DataW Value × List MemPlace)} {n : Nat} {D : DataW Value} (h : w.ownsMap P k R b n D) : w.ownsMap P k R b (Maps.size D) D := by
  obtain ⟨es, clock, hb, F, hs, rfl⟩ := h
  exact ⟨es, clock, hb, F, by simp [Maps.size, length_sorted], rfl⟩
theorem MapV.look (E : KeyE P K ek ok) (h : MapV P K ek ok w b c f) {t e : TypeId} (ht : P.underlying t = some (.map K e)) {z : Value} (hz : (zeroValue e).run P w = .ok z w) (k : κ) (hk : ok k) :
    (Instr.lookup t (.map (some b)) (ek k) false).run P w = .ok ((f k).getD z) w := by
  obtain ⟨D, h1, h2, h3⟩ := h
  obtain ⟨l, hl⟩ := E.lit k hk
  obtain ⟨v, ps, hrun, hv⟩ := h1.lookup E.keyed ht hz (show RV z = some (.held z, []) from rfl) hl
  obtain ⟨q1, q2⟩ := h3 k l hk hl
  have hv' : DataW.held v = D.atKey l (.held z) := by
    have := congrArg (Option.map Prod.fst) hv
    simpa [RV] using this
  rw [hrun]
  cases hf : f k with
  | none =>
    rw [hf] at q1
    rw [Maps.atKey_of_not_has q1] at hv'
    injection hv' with e
    rw [e]; rfl
  | some u =>
    rw [q2 u hf] at hv'
    injection hv' with e
    rw [e]; rfl
theorem MapV.lookOk (E : KeyE P K ek ok) (h : MapV P K ek ok w b c f) {t e : TypeId} (ht : P.underlying t = some (.map K e)) {z : Value} (hz : (zeroValue e).run P w = .ok z w) (k : κ) (hk : ok k) :
    (Instr.lookup t (.map (some b)) (ek k) true).run P w = .ok (.tuple #[(f k).getD z, .bool (f k).isSome]) w := by
  obtain ⟨D, h1, h2, h3⟩ := h
  obtain ⟨l, hl⟩ := E.lit k hk
  obtain ⟨v, ps, hrun, hv⟩ := h1.look_ok E.keyed ht hz (show RV z = some (.held z, []) from rfl) hl
  obtain ⟨q1, q2⟩ := h3 k l hk hl
  have hv' : DataW.held v = D.atKey l (.held z) := by
    have := congrArg (Option.map Prod.fst) hv
    simpa [RV] using this
  rw [hrun, q1]
  cases hf : f k with
  | none =>
    rw [hf] at q1
    rw [Maps.atKey_of_not_has q1] at hv'
    injection hv' with e
    rw [e]; rfl
  | some u =>
    rw [q2 u hf] at hv'
    injection hv' with e
    rw [e]; rfl
theorem MapV.len (h : MapV P K ek ok w b c f) {t e : TypeId} (ht : P.underlying t = some (.map K e)) (ty : TypeId) : (Builtin.len_ #[t] ty #[.map (some b)]).run P w = .ok (.int .i64 (c : Int)) w := by
  obtain ⟨D, h1, h2, _⟩ := h
  have := h1.len ht ty
  rw [h2] at this
  exact this
theorem lit_ne (E : KeyE P K ek ok) {j k : κ} {lj lk : Lit} (hj : keyOf P K (ek j) = some lj) (hk : keyOf P K (ek k) = some lk) (hne : j ≠ k) : lj ≠ lk := fun e => hne (E.inj j k (E.keyed.inj hj (e ▸ hk)))
theorem MapV.store [DecidableEq κ] (E : KeyE P K ek ok) (h : MapV P K ek ok w b c f) {t e : TypeId} (ht : P.underlying t = some (.map K e)) (hc : c < maxLen) (k : κ) (hk : ok k) (v : Value) :
    ∃ w', (Instr.mapUpdate t (.map (some b)) (ek k) v).run P w = .ok () w' ∧ MapV P K ek ok w' b (if (f k).isSome then c else c + 1) (fun j => if j = k then some v else f j) ∧ w.grownBy w' (some b) := by
  obtain ⟨D, h1, h2, h3⟩ := h
  obtain ⟨l, hl⟩ := E.lit k hk
  have hlk := E.keyed.key hl
  obtain ⟨w', hrun, g1, g2⟩ := h1.update E.keyed ht hc hl (show RV v = some (.held v, []) from rfl)
  have hsz : Maps.size (D.put l (.held v)) = if (f k).isSome then c else c + 1 := by
    rw [Maps.size_put (h1.tidy E.keyed), (h3 k l hk hl).1, h2]
  refine ⟨w', hrun, ⟨D.put l (.held v), by rw [← hsz]; exact own_exact g1, hsz, fun j lj hj hlj => ?_⟩, g2⟩
  dsimp only
  by_cases e : j = k
  · subst e
    rw [hl] at hlj
    injection hlj with e
    subst e
    rw [if_pos rfl]
    exact ⟨Maps.has_put_same h1.isMap hlk _, fun u hu z => by injection hu with e; subst e; exact Maps.atKey_put_same h1.isMap hlk _ z⟩
  · rw [if_neg e]
    have hne := lit_ne E hlj hl e
    rw [Maps.has_put_other hne]
    exact ⟨(h3 j lj hj hlj).1, fun u hu z => by rw [Maps.atKey_put_other hne]; exact (h3 j lj hj hlj).2 u hu z⟩
theorem MapV.drop [DecidableEq κ] (E : KeyE P K ek ok) (h : MapV P K ek ok w b c f) {t e : TypeId} (ht : P.underlying t = some (.map K e)) (ty : TypeId) (k : κ) (hk : ok k) :
    ∃ w', (Builtin.delete_ #[t, K] ty #[.map (some b), ek k]).run P w = .ok (.tuple #[]) w' ∧ MapV P K ek ok w' b (if (f k).isSome then c - 1 else c) (fun j => if j = k then none else f j) ∧ w.grownBy w' (some b) := by
  obtain ⟨D, h1, h2, h3⟩ := h
  obtain ⟨l, hl⟩ := E.lit k hk
  obtain ⟨w', hrun, g1, g2⟩ := h1.drop E.keyed ht hl ty
  have hsz : Maps.size (D.del l) = if (f k).isSome then c - 1 else c := by
    have := Maps.size_del (k := l) (h1.tidy E.keyed)
    rw [(h3 k l hk hl).1, h2] at this
    split at this <;> simp_all <;> omega
  refine ⟨w', hrun, ⟨D.del l, by rw [← hsz]; exact own_exact g1, hsz, fun j lj hj hlj => ?_⟩, g2.grown⟩
  dsimp only
  by_cases e : j = k
  · subst e
    rw [hl] at hlj
    injection hlj with e
    subst e
    rw [if_pos rfl]
    exact ⟨Maps.has_del_same, fun u hu => by cases hu⟩
  · rw [if_neg e]
    have hne := lit_ne E hlj hl e
    rw [Maps.has_del_other hne]
    exact ⟨(h3 j lj hj hlj).1, fun u hu z => by rw [Maps.atKey_del_other hne]; exact (h3 j lj hj hlj).2 u hu z⟩
theorem MapV.congr (h : MapV P K ek ok w b c f) {g : κ → Option Value} (hg : ∀ k, ok k → f k = g k) : MapV P K ek ok w b c g := by
  obtain ⟨D, h1, h2, h3⟩ := h
  exact ⟨D, h1, h2, fun k l hk hl => by rw [← hg k hk]; exact h3 k l hk hl⟩
theorem wpList_mapV_store [DecidableEq κ] {ops : Array Oper} {rest : List Oper} {o : Oper} {a : Act} {Q : Exit → Act → World → Prop}
    (hg : o.guard = none) (m x v : Operand) (t : TypeId) (hop : o.op = Op.mapUpdate t m x v) (E : KeyE P K ek ok) {e : TypeId} (ht : P.underlying t = some (.map K e))
    (hm : a.eval m = .map (some b)) (h : MapV P K ek ok w b c f) (hc : c < maxLen) (k : κ) (hk : ok k) (val : Value) (hx : a.eval x = ek k) (hv : a.eval v = val)
    (hK : ∀ w', MapV P K ek ok w' b (if (f k).isSome then c else c + 1) (fun j => if j = k then some val else f j) → w.grownBy w' (some b) → wpList P ops Q rest (a.put o.dst undef) w') :
    wpList P ops Q (o :: rest) a w := by
  refine wpList_plain hg fun K' hK' => ?_
  obtain ⟨w', hrun, r1, r2⟩ := h.store E ht hc k hk val
  unfold Oper.wp
  simp [execOp, hop, hm, hx, hv, hrun, Result.andThen]
  exact hK' _ _ (hK w' r1 r2)
theorem wpList_mapV_insert [DecidableEq κ] {ops : Array Oper} {rest : List Oper} {o : Oper} {a : Act} {Q : Exit → Act → World → Prop}
    (hg : o.guard = none) (m x v : Operand) (t : TypeId) (hop : o.op = Op.insert t m x v) (E : KeyE P K ek ok) {e : TypeId} (ht : P.underlying t = some (.map K e))
    (hm : a.eval m = .map (some b)) (h : MapV P K ek ok w b c f) (hc : c < maxLen) (k : κ) (hk : ok k) (val : Value) (hx : a.eval x = ek k) (hv : a.eval v = val)
    (hK : ∀ w', MapV P K ek ok w' b (if (f k).isSome then c else c + 1) (fun j => if j = k then some val else f j) → w.grownBy w' (some b) → wpList P ops Q rest (a.put o.dst undef) w') :
    wpList P ops Q (o :: rest) a w := by
  refine wpList_plain hg fun K' hK' => ?_
  obtain ⟨w', hrun, r1, r2⟩ := h.store E ht hc k hk val
  unfold Oper.wp
  simp [execOp, hop, hm, hx, hv, hrun, Result.andThen]
  exact hK' _ _ (hK w' r1 r2)
theorem wpList_mapV_drop [DecidableEq κ] {ops : Array Oper} {rest : List Oper} {o : Oper} {a : Act} {Q : Exit → Act → World → Prop}
    (hg : o.guard = none) (m x : Operand) (t : TypeId) (hop : o.op = Op.call { callee := Callee.builtin Builtin.delete, args := #[m, x], argTypes := #[t, K] }) (E : KeyE P K ek ok) {e : TypeId} (ht : P.underlying t = some (.map K e))
    (hm : a.eval m = .map (some b)) (h : MapV P K ek ok w b c f) (k : κ) (hk : ok k) (hx : a.eval x = ek k)
    (hK : ∀ w', MapV P K ek ok w' b (if (f k).isSome then c - 1 else c) (fun j => if j = k then none else f j) → w.grownBy w' (some b) → wpList P ops Q rest (a.put o.dst (.tuple #[])) w') :
    wpList P ops Q (o :: rest) a w := by
  refine wpList_plain hg fun K' hK' => ?_
  obtain ⟨w', hrun, r1, r2⟩ := h.drop E ht o.type k hk
  unfold Oper.wp
  simp [execOp, hop, resolve, invoke, builtin, hm, hx, hrun, Result.andThen]
  exact hK' _ _ (hK w' r1 r2)
end
section
open Go.ChangeMaps Go.WideElems
variable {P : Program} {K : TypeId} {κ : Type} {ek : κ → Value} {ok : κ → Prop} {w : World} {b c : Nat} {f : κ → Option Value}
theorem setB_same {w : World} {b : Nat} (h : b < w.heap.size) (o : Obj) : (setBlock w b o).heap[b]? = some o := by
  unfold setBlock; simp [h]
theorem setB_other (w : World) {b i : Nat} (o : Obj) (h : i ≠ b) : (setBlock w b o).heap[i]? = w.heap[i]? := by
  unfold setBlock
  exact Array.getElem?_setIfInBounds_ne (fun e => h e.symm)
theorem setB_grown (w : World) (b : Nat) (o : Obj) : w.grownBy (setBlock w b o) (some b) :=
  ⟨rfl, rfl, rfl, by simp [setBlock], fun i _ hi => setB_other w o (fun e => hi (by rw [e]))⟩
/-- An entry is taken, and its element laid in later: what comes of it. -/
theorem entry_run {k e t : TypeId} {R : Value → Option (DataW Value × List MemPlace)} {es : Array MapEntry} {clock : Nat} (K : Keyed P k) (ht : P.underlying t = some (.map k e)) {z : Value} (hz : ∀ u : World, (zeroValue e).run P u = .ok z u)
    (hb : w.heap[b]? = some (.map es clock)) (F : WideElems.Fit P k R es clock) {key : Value} {kl : Lit} (hkey : keyOf P k key = some kl) :
    ∃ (v0 : Value) (st : Nat) (o : Obj), (Instr.mapEntry t (.map (some b)) key).run P w = .ok (.tuple #[v0, goInt st]) (setBlock w b o) ∧
      ∀ (w2 : World) (val : Value), w2.heap[b]? = some o → ∃ o', (Instr.entryStore t (.map (some b)) (goInt st) val).run P w2 = .ok () (setBlock w2 b o') ∧ (Instr.mapUpdate t (.map (some b)) key val).run P w = .ok () (setBlock w b o') := by
  have hst := F.stamped
  obtain ⟨hlt, hnd, _⟩ := hst
  rcases K.find w hkey es.toList F.keys with ⟨hf, hno⟩ | ⟨i, x, hf, hx, hxk⟩
  · have hi : (es.push ⟨key, z, clock⟩).findIdx? (fun e => ((e.born : Nat) : Int) == ((clock : Nat) : Int)) = some es.size := by
      rw [WideElems.findIdx_arr]
      refine WideElems.findIdx_born (e0 := ⟨key, z, clock⟩) ?_ (by simp)
      rw [Array.toList_push, List.map_append]
      refine List.nodup_append.2 ⟨hnd, by simp, ?_⟩
      intro a ha c hc e1
      obtain ⟨y, hy, rfl⟩ := List.mem_map.1 ha
      have := hlt y hy
      simp at hc
      omega
    have hm : ∀ val, (es.push ⟨key, z, clock⟩).modify es.size (fun e => { e with val := val }) = es.push ⟨key, val, clock⟩ := by
      intro val
      apply Array.ext'
      rw [Array.toList_modify, Array.toList_push, Array.toList_push, ← Array.length_toList, WideElems.modify_last]
    refine ⟨z, clock, .map (es.push ⟨key, z, clock⟩) (clock + 1), ?_, fun w2 val h2 => ⟨.map (es.push ⟨key, val, clock⟩) (clock + 1), ?_, ?_⟩⟩
    · simp [Instr.mapEntry, run_underlying ht, MapKept.run_getObj_map hb, K.check w false hkey, hf, hz, MapKept.run_setObj_map _ hb, Result.andThen, setBlock]
    · simp [Instr.entryStore, MapKept.run_getObj_map h2, asInt, asIntOf, goInt, hi, hm, MapKept.run_setObj_map _ h2, Result.andThen, setBlock]
    · simp [Instr.mapUpdate, run_underlying ht, MapKept.run_getObj_map hb, K.check w false hkey, hf, MapKept.run_setObj_map _ hb, Result.andThen, setBlock]
  · have hxa : es[i]? = some x := by simpa using hx
    have hme : es.modify i (fun e => { e with key := key }) = es := by
      apply Array.ext'
      rw [Array.toList_modify, modify_eq_set _ _ _ _ hx]
      have e1 : ({ x with key := key } : MapEntry) = x := by rw [← hxk]
      rw [e1]
      exact WideElems.set_self _ _ _ hx
    have hi : es.findIdx? (fun e => ((e.born : Nat) : Int) == ((x.born : Nat) : Int)) = some i := by
      rw [WideElems.findIdx_arr]
      exact WideElems.findIdx_born hnd hx
    have hm : ∀ val, es.modify i (fun e => { e with val := val }) = es.modify i (fun e' => { e' with key := key, val := val }) := by
      intro val
      apply Array.ext'
      rw [Array.toList_modify, Array.toList_modify, modify_eq_set _ _ _ _ hx, modify_eq_set _ _ _ _ hx, ← hxk]
    refine ⟨x.val, x.born, .map es clock, ?_, fun w2 val h2 => ⟨.map (es.modify i (fun e' => { e' with key := key, val := val })) clock, ?_, ?_⟩⟩
    · simp [Instr.mapEntry, run_underlying ht, MapKept.run_getObj_map hb, K.check w false hkey, hf, hxa, hxk, K.stays w hkey, hme, MapKept.run_setObj_map _ hb, Result.andThen, setBlock]
    · simp [Instr.entryStore, MapKept.run_getObj_map h2, asInt, asIntOf, goInt, hi, hm, MapKept.run_setObj_map _ h2, Result.andThen, setBlock]
    · simp [Instr.mapUpdate, run_underlying ht, MapKept.run_getObj_map hb, K.check w false hkey, hf, hxa, hxk, K.stays w hkey, MapKept.run_setObj_map _ hb, Result.andThen, setBlock]
/-- A map of whose entry at k the element is still to come. -/
def MapP (P : Program) (K t : TypeId) {κ : Type} [DecidableEq κ] (ek : κ → Value) (ok : κ → Prop) (w : World) (b st c : Nat) (f : κ → Option Value) (k : κ) : Prop :=
  ∃ o, w.heap[b]? = some o ∧ ∀ (w2 : World) (val : Value), w2.heap[b]? = some o → ∃ w3, (Instr.entryStore t (.map (some b)) (goInt st) val).run P w2 = .ok () w3 ∧ MapV P K ek ok w3 b (if (f k).isSome then c else c + 1) (fun j => if j = k then some val else f j) ∧ w2.grownBy w3 (some b)
theorem MapP.kept [DecidableEq κ] {t st : Nat} {k : κ} {w' : World} {r : Option Nat} (h : MapP P K t ek ok w b st c f k) (hg : w.grownBy w' r) (hne : some b ≠ r) : MapP P K t ek ok w' b st c f k := by
  obtain ⟨o, h1, h2⟩ := h
  exact ⟨o, (hg.block b (Array.getElem?_eq_some_iff.1 h1).1 hne).trans h1, h2⟩
theorem MapV.entry [DecidableEq κ] (E : KeyE P K ek ok) (h : MapV P K ek ok w b c f) {t e : TypeId} (ht : P.underlying t = some (.map K e)) {z : Value} (hz : ∀ u : World, (zeroValue e).run P u = .ok z u) (hc : c < maxLen) (k : κ) (hk : ok k) :
    ∃ (v0 : Value) (st : Nat) (w1 : World), (Instr.mapEntry t (.map (some b)) (ek k)).run P w = .ok (.tuple #[v0, goInt st]) w1 ∧ MapP P K t ek ok w1 b st c f k ∧ w.grownBy w1 (some b) := by
  obtain ⟨l, hl⟩ := E.lit k hk
  have hlt := h.lt
  have h0 := h
  obtain ⟨D, ⟨es, clock, hb, F, hs, hD⟩, h2, h3⟩ := h
  obtain ⟨v0, st, o, hr, hn⟩ := entry_run E.keyed ht hz hb F hl
  refine ⟨v0, st, _, hr, ⟨o, setB_same hlt _, fun w2 val hw2 => ?_⟩, setB_grown w b o⟩
  obtain ⟨o', hr1, hr2⟩ := hn w2 val hw2
  obtain ⟨w', hr3, hm, _⟩ := h0.store E ht hc k hk val
  rw [hr2] at hr3
  simp only [Result.ok.injEq, true_and] at hr3
  subst hr3
  refine ⟨_, hr1, ?_, setB_grown w2 b o'⟩
  obtain ⟨D', ⟨es', clock', hb', F', hs', hD'⟩, h2', h3'⟩ := hm
  rw [setB_same hlt] at hb'
  exact ⟨D', ⟨es', clock', (setB_same (Array.getElem?_eq_some_iff.1 hw2).1 _).trans hb', F', hs', hD'⟩, h2', h3'⟩
end
theorem wpList_append_run {P : Program} {ops : Array Oper} {rest : List Oper} {o : Oper} {a : Act} {Q : Exit → Act → World → Prop} {w : World} (hgd : o.guard = none) (s x : Operand) (T : TypeId) (ho : o.op = .call { callee := .builtin .append, args := #[s, x], argTypes := #[T, T] })
    (v u : Value) (hs : a.eval s = v) (hx : a.eval x = u) {v' : Value} {w' : World} (hr : (Builtin.append_ #[T, T] o.type #[v, u]).run P w = .ok v' w') (hK : wpList P ops Q rest (a.put o.dst v') w') : wpList P ops Q (o :: rest) a w := by
  refine wpList_plain hgd fun K hK' => ?_
  unfold Oper.wp execOp
  simp only [ho, resolve, invoke, builtin, Sem.run_bind, Sem.run_pure, Result.andThen_ok, List.map_toArray, List.map_cons, List.map_nil, hs, hx, hr]
  exact hK' _ _ hK
/-- Pairs of whole numbers as keys. -/
theorem lits_two {P : Program} {t : TypeId} {f0 f1 : Field} (ht : P.underlying t = some (.struct #[f0, f1])) (h0 : P.underlying f0.type = some (.int .i64)) (h1 : P.underlying f1.type = some (.int .i64))
    (c : P.cellsOf t = 2) (c0 : P.cellsOf f0.type = 1) (c1 : P.cellsOf f1.type = 1) (o0 : f0.offset = 0) (o1 : f1.offset = 1) (n0 : (f0.name != "_") = true) (n1 : (f1.name != "_") = true) (hk : P.keyType t = true) {n : Nat} (hn : P.types.size = n + 2)
    {a b : Int} (ha : (Lit.int .i64 a).wf = true) (hb : (Lit.int .i64 b).wf = true) : ∃ l, keyOf P t (.agg #[.int .i64 a, .int .i64 b]) = some l := by
  unfold keyOf
  rw [ht]
  simp [hk, Value.formed, ht, c, hn, Program.keyLits, h0, h1, c0, c1, o0, o1, ha, hb, Value.cells]
  simpa using And.intro n0 n1
/-- Whole numbers as keys. -/
def I64 (k : Int) : Prop := (Lit.int .i64 k).wf = true
theorem i64_of (k : Int) (h0 : -9223372036854775808 ≤ k) (h1 : k < 9223372036854775808) : I64 k := by
  unfold I64
  simp [Lit.wf, IntKind.min, IntKind.max, IntKind.signed, IntKind.bits]
  omega
theorem keyE_int {P : Program} {K : TypeId} (hk : P.underlying K = some (.int .i64)) : KeyE P K (fun k : Int => Value.int .i64 k) I64 :=
  ⟨int_keyed hk, fun k h => ⟨_, keyOf_int_mk hk h⟩, fun a b h => by injection h⟩
end Go.Proofs.Ytepgdjkmobngcaa
