/- Slices of structs: rows of cells, read element by element. No conditions. -/
import Derived.Test.YtepgdjkmobngcaaWMore
import Derived.Lib.Hide
import Derived.Laws.AppendOwn
namespace Go.Proofs.Ytepgdjkmobngcaa
open Go.RowKit Go.Proofs.YtepgdjkmobngcaaW.PrintWords
set_option linter.unusedVariables false
set_option linter.unusedSimpArgs false
variable {α : Type}

/-- A slice that reads as 'xs', each of k cells. -/
def RowS (enc : α → List Value) (w : World) (v : Value) (xs : List α) : Prop :=
  (v = .slice none 0 0 ∧ xs = []) ∨ ∃ g off cap, v = .slice (some ⟨g, off, none⟩) xs.length cap ∧ xs.length ≤ cap ∧ cap ≤ maxLen ∧ g < w.heap.size ∧ ∀ j u, (xs.flatMap enc)[j]? = some u → w.cell? ⟨g, off + j, none⟩ = some u

theorem flat_len (enc : α → List Value) (k : Nat) (hk : ∀ x, (enc x).length = k) (xs : List α) : (xs.flatMap enc).length = xs.length * k := by
  induction xs with
  | nil => simp
  | cons x xs ih => rw [List.flatMap_cons, List.length_append, ih, hk, List.length_cons, Nat.succ_mul]; omega
theorem flat_drop (enc : α → List Value) (k : Nat) (hk : ∀ x, (enc x).length = k) (xs : List α) (n : Nat) : (xs.drop n).flatMap enc = (xs.flatMap enc).drop (n * k) := by
  induction n generalizing xs with
  | zero => simp
  | succ n ih =>
    cases xs with
    | nil => simp
    | cons x xs =>
      rw [List.drop_succ_cons, ih, List.flatMap_cons, Nat.succ_mul, Nat.add_comm, List.drop_append, hk]
      rw [List.drop_eq_nil_of_le (show (enc x).length ≤ k + n * k by rw [hk]; omega), List.nil_append, Nat.add_sub_cancel_left]
theorem flat_take (enc : α → List Value) (k : Nat) (hk : ∀ x, (enc x).length = k) (xs : List α) (n : Nat) : (xs.take n).flatMap enc = (xs.flatMap enc).take (n * k) := by
  induction n generalizing xs with
  | zero => simp
  | succ n ih =>
    cases xs with
    | nil => simp
    | cons x xs =>
      rw [List.take_succ_cons, List.flatMap_cons, ih, List.flatMap_cons, Nat.succ_mul, Nat.add_comm, List.take_append, hk]
      rw [List.take_of_length_le (show (enc x).length ≤ k + n * k by rw [hk]; omega), Nat.add_sub_cancel_left]
theorem flat_get (enc : α → List Value) (k : Nat) (hk : ∀ x, (enc x).length = k) (xs : List α) (j i : Nat) (hj : j < xs.length) (hi : i < k) : (xs.flatMap enc)[j * k + i]? = (enc xs[j])[i]? := by
  have h1 := flat_drop enc k hk xs j
  have h2 : ((xs.drop j).flatMap enc)[i]? = (enc xs[j])[i]? := by
    rw [List.drop_eq_getElem_cons hj, List.flatMap_cons, List.getElem?_append_left (by rw [hk]; exact hi)]
  rw [h1, List.getElem?_drop] at h2
  exact h2

theorem RowS.nil (enc : α → List Value) (w : World) : RowS enc w (.slice none 0 0) [] := .inl ⟨rfl, rfl⟩
theorem RowS.below {enc : α → List Value} {w w' : World} {v : Value} {xs : List α} (h : RowS enc w v xs) (hb : Below w.heap.size w w') : RowS enc w' v xs := by
  rcases h with h | ⟨g, off, cap, h1, h2, h3, h4, h5⟩
  · exact .inl h
  · exact .inr ⟨g, off, cap, h1, h2, h3, Nat.lt_of_lt_of_le h4 hb.size, fun j u hu => pw_cell_below hb (h5 j u hu)⟩
/-- Another block is written. -/
theorem RowS.grown {enc : α → List Value} {w w' : World} {v : Value} {xs : List α} {k : Nat} (h : RowS enc w v xs) (hg : w.grownBy w' (some k)) (hne : v.ownBlock ≠ some k) : RowS enc w' v xs := by
  rcases h with h | ⟨g, off, cap, h1, h2, h3, h4, h5⟩
  · exact .inl h
  · subst h1
    exact .inr ⟨g, off, cap, rfl, h2, h3, Nat.lt_of_lt_of_le h4 hg.size, fun j u hu => hg.cell (h5 j u hu) (by intro e; exact hne e)⟩
theorem RowS.drew {enc : α → List Value} {w : World} {v : Value} {xs : List α} (h : RowS enc w v xs) : RowS enc w.drew v xs := h
theorem RowS.of_owns {enc : α → List Value} {w : World} {base : Nat} {e : TypeId} {k : Nat} {v : Value} {xs : List α} (h : w.ownsRow base e k v xs.length (xs.flatMap enc)) : RowS enc w v xs := by
  have h0 := h
  obtain ⟨h1, h2⟩ := h
  rcases h2 with ⟨rfl, h2⟩ | ⟨g, cap, cur, rfl, h3, h4, h5, h6, h7, h8⟩
  · exact .inl ⟨rfl, List.length_eq_zero_iff.mp h2⟩
  · refine .inr ⟨g, 0, cap, rfl, h5, h6, ?_, fun j u hu => ?_⟩
    · exact (Array.getElem?_eq_some_iff.mp h4).1
    · have := h0.cells rfl j u hu
      rw [Addr.add_lit] at this
      exact this
theorem RowS.len {enc : α → List Value} {w : World} {v : Value} {xs : List α} (h : RowS enc w v xs) : ∃ a cap, v = .slice a xs.length cap ∧ xs.length ≤ maxLen := by
  rcases h with ⟨rfl, rfl⟩ | ⟨g, off, cap, h1, h2, h3, h4, h5⟩
  · exact ⟨none, 0, rfl, by simp⟩
  · exact ⟨_, cap, h1, Nat.le_trans h2 h3⟩
/-- 's[1:]'. -/
theorem RowS.tail {enc : α → List Value} {k : Nat} (hk : ∀ x, (enc x).length = k) {w : World} {g off cap : Nat} {xs : List α} (h : RowS enc w (.slice (some ⟨g, off, none⟩) xs.length cap) xs) (n : Nat) (hn : n ≤ xs.length) : RowS enc w (.slice (some ⟨g, off + n * k, none⟩) (xs.drop n).length (cap - n)) (xs.drop n) := by
  rcases h with ⟨h, _⟩ | ⟨g', off', cap', h1, h2, h3, h4, h5⟩
  · cases h
  · simp only [Value.slice.injEq, Option.some.injEq, Addr.mk.injEq, true_and, and_true] at h1
    obtain ⟨⟨rfl, rfl⟩, rfl⟩ := h1
    refine .inr ⟨g, off + n * k, cap - n, rfl, ?_, by omega, h4, fun j u hu => ?_⟩
    · rw [List.length_drop]; omega
    · rw [flat_drop enc k hk, List.getElem?_drop] at hu
      have := h5 _ u hu
      rwa [Nat.add_assoc]

theorem append_run {P : Program} {oi : Oper} {f : Operand → Value} {w w' : World} {v u v' : Value} {s x : Operand} {t : TypeId} (ho : oi.op = .call { callee := .builtin .append, args := #[s, x], argTypes := #[t, t] }) (hs : f s = v) (hx : f x = u)
    (hr : (Builtin.append_ #[t, t] oi.type #[v, u]).run P w = .ok v' w') : (execOp f oi).run P w = .ok (.value v') w' := by
  unfold execOp
  simp only [ho, resolve, invoke, builtin, Sem.run_bind, Sem.run_pure, Result.andThen_ok, List.map_toArray, List.map_cons, List.map_nil, hs, hx, hr]
end Go.Proofs.Ytepgdjkmobngcaa
