/- post: lines as rows, for chapters that only write and read postings. No conditions beyond those that are written. -/
import Derived.Test.YtepgdjkmobngcaaProg
import Derived.Test.YtepgdjkmobngcaaXRowS
import Derived.Test.YtepgdjkmobngcaaXMapV
import Derived.Test.YtepgdjkmobngcaaXTouch
import Derived.Test.YtepgdjkmobngcaaWLast
import Derived.Test.YtepgdjkmobngcaaWMore
import Derived.Deep.QuietTactic
namespace Go.Proofs.Ytepgdjkmobngcaa
open Go.RowKit Go.Lib Go.Proofs.YtepgdjkmobngcaaW.PrintWords Go.Proofs.YtepgdjkmobngcaaW.PrintLast Go.Proofs.YtepgdjkmobngcaaW.PrintMore
set_option linter.unusedVariables false
set_option linter.unusedSimpArgs false
abbrev Ln := Int × Int
def encL (p : Ln) : List Value := [.int .i64 p.1, .int .i64 p.2]
theorem encL_len (p : Ln) : (encL p).length = 2 := rfl
theorem ln_at {w : World} {v : Value} {xs : List Ln} (h : RowS encL w v xs) (j : Nat) (hj : j < xs.length) : ∃ g off cap, v = .slice (some ⟨g, off, none⟩) xs.length cap ∧ w.cell? ⟨g, off + j * 2, none⟩ = some (.int .i64 xs[j].1) ∧ w.cell? ⟨g, off + j * 2 + 1, none⟩ = some (.int .i64 xs[j].2) := by
  rcases h with ⟨_, rfl⟩ | ⟨g, off, cap, h1, _, _, _, h5⟩
  · exact absurd hj (Nat.not_lt_zero _)
  · refine ⟨g, off, cap, h1, ?_, ?_⟩
    · exact h5 (j * 2 + 0) _ (flat_get encL 2 encL_len xs j 0 hj (by decide))
    · have := h5 (j * 2 + 1) _ (flat_get encL 2 encL_len xs j 1 hj (by decide))
      rw [← Nat.add_assoc] at this
      exact this
theorem chain2 {w a b : World} (h : Below w.heap.size w a) (k : Below a.heap.size a b) : Below w.heap.size w b := below_then h h.size k
theorem wide_cells {w : World} {b : Nat} {u v : Value} {T : Nat} (h : w.heap[b]? = some (.cells #[u, v] T (0, 0))) : w.cell? ⟨b, 0, none⟩ = some u ∧ w.cell? ⟨b, 1, none⟩ = some v ∧ w.frozen? ⟨b, 0, none⟩ = false ∧ w.frozen? ⟨b, 1, none⟩ = false := by
  refine ⟨?_, ?_, ?_, ?_⟩
  · unfold World.cell?; rw [h]; rfl
  · unfold World.cell?; rw [h]; rfl
  · unfold World.frozen?; rw [h]; simp
  · unfold World.frozen?; rw [h]; simp
def LnIn (xs : List Ln) : Prop := ∀ p ∈ xs, (-9223372036854775808 ≤ p.1 ∧ p.1 < 9223372036854775808) ∧ -9223372036854775808 ≤ p.2 ∧ p.2 < 9223372036854775808
theorem wrap_succP (p : Nat) (h : p < 1000) : wrap64 ((p : Int) + 1) = ((p + 1 : Nat) : Int) := by unfold wrap64; omega
def LRow (w : World) (E B : Nat) (v : Value) (xs : List Ln) : Prop := w.ownsRow B E 2 v xs.length (xs.flatMap encL)
theorem LRow.form {w : World} {E B : Nat} {v : Value} {xs : List Ln} (h : LRow w E B v xs) : ∃ a c, v = .slice a xs.length c := own_slice h
theorem LRow.below {w w' : World} {E B : Nat} {v : Value} {xs : List Ln} (h : LRow w E B v xs) (hb : Below w.heap.size w w') : LRow w' E B v xs := pw_own_below h hb
theorem LRow.s {w : World} {E B : Nat} {v : Value} {xs : List Ln} (h : LRow w E B v xs) : RowS encL w v xs := RowS.of_owns h
theorem l_add {T E : Nat} (ht : Try.prog.underlying T = some (.slice E)) (hinfo : (Try.prog.info? E).map (fun i => (i.zero, i.size, i.bytes)) = some (some (.agg #[.int .i64 0, .int .i64 0]), 2, 16)) (ty B : Nat) (v : Value) (xs : List Ln) (w : World) (h : LRow w E B v xs) (hl : xs.length ≤ 1000) (x : Ln) (bN : Nat) (hN : w.heap[bN]? = some (.cells #[.int .i64 x.1, .int .i64 x.2] E (0, 0))) (hB : B ≤ w.heap.size) :
    ∃ a c w', (Builtin.append_ #[T, T] ty #[v, .slice (some ⟨bN, 0, none⟩) 1 1]).run Try.prog w = .ok (.slice a (xs.length + 1) c) w' ∧ LRow w' E B (.slice a (xs.length + 1) c) (xs ++ [x]) ∧ w.grownBy w' v.ownBlock := by
  obtain ⟨i0, hi, hz0, hz1, hz2⟩ := info_parts hinfo
  obtain ⟨c0, c1, _, _⟩ := wide_cells hN
  obtain ⟨v', w', hr, ho, hg, _⟩ := run_append_own w (P := Try.prog) B T ty E i0 (.agg #[.int .i64 0, .int .i64 0]) 2 16 ht hi hz0 hz1 hz2 rfl (by decide) v xs.length (xs.flatMap encL) h ⟨bN, 0, none⟩ 1 1 (encL x) rfl (fun j u hu => by
    rw [Addr.add_lit, Nat.zero_add]
    match j, hu with
    | 0, hu => simp [encL] at hu; rw [← hu]; exact c0
    | 1, hu => simp [encL] at hu; rw [← hu]; exact c1
    | j + 2, hu => simp [encL] at hu) (fun u hu => by simp [encL] at hu; rcases hu with rfl | rfl <;> rfl) (by unfold maxLen; omega) (by omega) hB
  obtain ⟨a, c, rfl⟩ := own_slice ho
  refine ⟨a, c, w', hr, ?_, hg⟩
  unfold LRow
  rw [List.length_append, List.flatMap_append]
  simpa using ho
theorem line_info : (Try.prog.info? 81).map (fun i => (i.zero, i.size, i.bytes)) = some (some (.agg #[.int .i64 0, .int .i64 0]), 2, 16) := by kernel_rfl
theorem line22_info : (Try.prog.info? 82).map (fun i => (i.zero, i.size, i.bytes)) = some (some (.agg #[.int .i64 0, .int .i64 0]), 2, 16) := by kernel_rfl
def LnsAt (w : World) (a : Option Addr) (xs : List Ln) : Prop := ∀ i, ∀ h : i < xs.length, ∃ g off, a = some ⟨g, off, none⟩ ∧ w.cell? ⟨g, off + i * 2, none⟩ = some (.int .i64 xs[i].1) ∧ w.cell? ⟨g, off + i * 2 + 1, none⟩ = some (.int .i64 xs[i].2)
theorem LnsAt.below {w w' : World} {a : Option Addr} {xs : List Ln} (h : LnsAt w a xs) (hb : Below w.heap.size w w') : LnsAt w' a xs := fun i hi => by
  obtain ⟨g, off, ha, h3, h4⟩ := h i hi
  exact ⟨g, off, ha, pw_cell_below hb h3, pw_cell_below hb h4⟩
theorem LRow.at_ {w : World} {E B g : Nat} {v : Value} {rs : List Ln} (h : LRow w E B v rs) (hv : v.ownBlock = some g) : ∃ cs, w.heap[g]? = some (.cells cs E (0, 0)) := by
  rcases h.2 with ⟨rfl, _⟩ | ⟨g', cap, cur, rfl, _, hg, _⟩
  · cases hv
  · simp only [Value.ownBlock, Option.some.injEq] at hv
    subst hv
    exact ⟨cur, hg⟩
theorem LRow.apart {w : World} {E E' B B' : Nat} {v v' : Value} {rs rs' : List Ln} (h : LRow w E B v rs) (h' : LRow w E' B' v' rs') (hne : E ≠ E') : v.ownBlock = none ∨ v.ownBlock ≠ v'.ownBlock := by
  cases hv : v.ownBlock with
  | none => exact .inl rfl
  | some g =>
    refine .inr (fun e => ?_)
    obtain ⟨c1, h1⟩ := h.at_ hv
    obtain ⟨c2, h2⟩ := h'.at_ e.symm
    rw [h1] at h2
    simp only [Option.some.injEq, Obj.cells.injEq] at h2
    exact hne h2.2.1
theorem LRow.keeps {w w' : World} {E B b T : Nat} {v : Value} {rs : List Ln} {cs : Array Value} {fr : Nat × Nat} (h : LRow w E B v rs) (hg : w.grownBy w' v.ownBlock) (hb : w.heap[b]? = some (.cells cs T fr)) (hne : T ≠ E) : w'.heap[b]? = some (.cells cs T fr) :=
  (hg.block b (blk_lt hb) (fun e => by
    obtain ⟨c1, h1⟩ := h.at_ e.symm
    rw [hb] at h1
    simp only [Option.some.injEq, Obj.cells.injEq] at h1
    exact hne h1.2.1)).trans hb
theorem LRow.grown {w w' : World} {E B : Nat} {v : Value} {rs : List Ln} {o : Option Nat} (h : LRow w E B v rs) (hg : w.grownBy w' o) (hne : v.ownBlock = none ∨ v.ownBlock ≠ o) : LRow w' E B v rs := by
  unfold LRow at h ⊢
  exact h.kept hg hne
theorem LRow.at' {w : World} {E B : Nat} {v : Value} {xs : List Ln} (h : LRow w E B v xs) : ∃ a c, v = .slice a xs.length c ∧ (xs.length ≤ c ∧ c ≤ maxLen) ∧ LnsAt w a xs := by
  rcases h.s with ⟨rfl, rfl⟩ | ⟨g, off, cap, h1, h2, h3, h4, h5⟩
  · exact ⟨none, 0, rfl, ⟨Nat.le_refl _, Nat.zero_le _⟩, fun i hi => absurd hi (Nat.not_lt_zero _)⟩
  · refine ⟨_, cap, h1, ⟨h2, h3⟩, fun i hi => ?_⟩
    obtain ⟨g', off', cap', hv, k0, k1⟩ := ln_at h.s i hi
    rw [h1] at hv
    simp only [Value.slice.injEq] at hv
    exact ⟨g', off', hv.1, k0, k1⟩
theorem l_addN {T E : Nat} (ht : Try.prog.underlying T = some (.slice E)) (hinfo : (Try.prog.info? E).map (fun i => (i.zero, i.size, i.bytes)) = some (some (.agg #[.int .i64 0, .int .i64 0]), 2, 16)) (ty B : Nat) (v : Value) (xs : List Ln) (n : Nat) (hn : xs.length = n) (w : World) (h : LRow w E B v xs) (hl : n ≤ 1000) (x : Ln) (bN : Nat) (hN : w.heap[bN]? = some (.cells #[.int .i64 x.1, .int .i64 x.2] E (0, 0))) (hB : B ≤ w.heap.size) :
    ∃ a c w', (Builtin.append_ #[T, T] ty #[v, .slice (some ⟨bN, 0, none⟩) 1 1]).run Try.prog w = .ok (.slice a (n + 1) c) w' ∧ LRow w' E B (.slice a (n + 1) c) (xs ++ [x]) ∧ w.grownBy w' v.ownBlock := by
  subst hn
  exact l_add ht hinfo ty B v xs w h hl x bN hN hB
theorem take_snoc' (xs : List Ln) (j : Nat) (h : j < xs.length) : xs.take (j + 1) = xs.take j ++ [xs[j]] := List.take_succ_eq_append_getElem h
end Go.Proofs.Ytepgdjkmobngcaa
