/- Rows of cells that the call owns, at whatever offset: append, slices, cells written. No program in sight. -/
import Derived.Test.YtdeeakjkhcdkaaaXRowS
import Derived.Test.YtdeeakjkhcdkaaaXTouch
import Derived.ArgAppend
import Derived.OwnWalk
import Derived.Lib.BufferOwn
namespace Go.Proofs.Ytdeeakjkhcdkaaa
open Go.RowKit Go.Lib Go.Proofs.YtdeeakjkhcdkaaaW.PrintWords
set_option linter.unusedVariables false
set_option linter.unusedSimpArgs false
variable {α : Type}
/-- A slice of elements of k cells each, in a block of the call's own (from base on). -/
def RowO (enc : α → List Value) (k : Nat) (e : TypeId) (w : World) (base : Nat) (v : Value) (xs : List α) : Prop :=
  (v = .slice none 0 0 ∧ xs = []) ∨ ∃ g off cap cur, v = .slice (some ⟨g, off, none⟩) xs.length cap ∧ base ≤ g ∧ w.heap[g]? = some (.cells cur e (0, 0)) ∧ off + cap * k ≤ cur.size ∧ xs.length ≤ cap ∧ cap ≤ maxLen ∧ ∀ j u, (xs.flatMap enc)[j]? = some u → cur[off + j]? = some u
variable {enc : α → List Value} {k : Nat} {e : TypeId} {w w' : World} {base : Nat} {v : Value} {xs : List α}
theorem RowO.nil (enc : α → List Value) (k : Nat) (e : TypeId) (w : World) (base : Nat) : RowO enc k e w base (.slice none 0 0) [] := .inl ⟨rfl, rfl⟩
theorem RowO.blk (h : RowO enc k e w base v xs) (hb : ∀ g c, v.ownBlock = some g → w.heap[g]? = some (.cells c e (0, 0)) → w'.heap[g]? = some (.cells c e (0, 0))) : RowO enc k e w' base v xs := by
  rcases h with h | ⟨g, off, cap, cur, h1, h2, h3, h4⟩
  · exact .inl h
  · exact .inr ⟨g, off, cap, cur, h1, h2, hb g cur (by rw [h1]; rfl) h3, h4⟩
theorem RowO.grown {row : Option Nat} (h : RowO enc k e w base v xs) (hg : w.grownBy w' row) (hne : v.ownBlock = none ∨ v.ownBlock ≠ row) : RowO enc k e w' base v xs :=
  h.blk fun g c h1 h3 => (hg.block g (blk_lt h3) (fun e => hne.elim (fun h => by rw [h1] at h; cases h) (fun h => h (h1.trans e)))).trans h3
theorem RowO.other {b : Nat} (h : RowO enc k e w base v xs) (hne : v.ownBlock ≠ some b) (i : Nat) (u : Value) : RowO enc k e (w.setCell ⟨b, i, none⟩ u) base v xs := h.grown (Lib.grownBy_setCell w b i u) (.inr hne)
theorem RowO.below (h : RowO enc k e w base v xs) (hb : Below w.heap.size w w') : RowO enc k e w' base v xs := h.blk fun g c _ h3 => blk_below h3 hb
theorem RowO.touch {T : Nat → Prop} (h : RowO enc k e w base v xs) (ht : Touch T w w') (hn : ∀ g, v.ownBlock = some g → ¬ T g) : RowO enc k e w' base v xs := h.blk fun g c h1 h3 => ht.blk h3 (hn g h1)
theorem RowO.mono {base' : Nat} (h : RowO enc k e w base v xs) (hb : base' ≤ base) : RowO enc k e w base' v xs := by
  rcases h with h | ⟨g, off, cap, cur, h1, h2, h3, h4⟩
  · exact .inl h
  · exact .inr ⟨g, off, cap, cur, h1, Nat.le_trans hb h2, h3, h4⟩
theorem RowO.lt (h : RowO enc k e w base v xs) : ∀ g, v.ownBlock = some g → base ≤ g ∧ g < w.heap.size := by
  intro g' hk
  rcases h with ⟨rfl, _⟩ | ⟨g, off, cap, cur, rfl, h2, h3, _⟩
  · cases hk
  · have : g = g' := by simpa [Value.ownBlock] using hk
    subst this
    exact ⟨h2, blk_lt h3⟩
theorem RowO.form (h : RowO enc k e w base v xs) : ∃ a cap, v = .slice a xs.length cap := by
  rcases h with ⟨rfl, rfl⟩ | ⟨g, off, cap, cur, rfl, _⟩
  · exact ⟨none, 0, rfl⟩
  · exact ⟨_, _, rfl⟩
theorem RowO.form1 (h : RowO enc k e w base v xs) (hn : 0 < xs.length) : ∃ g off cap, v = .slice (some ⟨g, off, none⟩) xs.length cap := by
  rcases h with ⟨_, rfl⟩ | ⟨g, off, cap, cur, rfl, _⟩
  · simp at hn
  · exact ⟨_, _, _, rfl⟩
theorem RowO.typ (h : RowO enc k e w base v xs) : ∀ g, v.ownBlock = some g → ∃ c, w.heap[g]? = some (.cells c e (0, 0)) := by
  intro g' hk
  rcases h with ⟨rfl, _⟩ | ⟨g, off, cap, cur, rfl, h2, h3, _⟩
  · cases hk
  · have : g = g' := by simpa [Value.ownBlock] using hk
    subst this
    exact ⟨_, h3⟩
/-- Its block is none of another type. -/
theorem RowO.ne {t : TypeId} {z : Nat × Nat} {cs : Array Value} {b : Nat} (h : RowO enc k e w base v xs) (hx : w.heap[b]? = some (.cells cs t z)) (ht : e ≠ t) : v.ownBlock ≠ some b := by
  intro hv
  obtain ⟨c, hc⟩ := h.typ b hv
  rw [hx] at hc
  simp only [Option.some.injEq, Obj.cells.injEq] at hc
  exact ht hc.2.1.symm
theorem RowO.cells {g off n cap : Nat} (h : RowO enc k e w base (.slice (some ⟨g, off, none⟩) n cap) xs) : ∀ j u, (xs.flatMap enc)[j]? = some u → w.cell? ⟨g, off + j, none⟩ = some u := by
  rcases h with ⟨h, _⟩ | ⟨g', off', cap', cur, h1, h2, h3, h4, h5, h6, h7⟩
  · cases h
  · simp only [Value.slice.injEq, Option.some.injEq, Addr.mk.injEq, and_true] at h1
    obtain ⟨⟨rfl, rfl⟩, _, rfl⟩ := h1
    intro j u hj
    rw [cell_of_row w g (off + j) cur _ (0, 0) h3]
    exact h7 j u hj
/-- The i-th cell of the p-th element. -/
theorem RowO.at_ {g off n cap : Nat} (hk : ∀ x, (enc x).length = k) (h : RowO enc k e w base (.slice (some ⟨g, off, none⟩) n cap) xs) (p i : Nat) (hp : p < xs.length) (hi : i < k) (u : Value) (hu : (enc xs[p])[i]? = some u) : w.cell? ⟨g, off + p * k + i, none⟩ = some u := by
  rw [Nat.add_assoc]
  exact h.cells _ u (by rw [flat_get enc k hk xs p i hp hi]; exact hu)
theorem RowO.unfrozen {g off n cap : Nat} (h : RowO enc k e w base (.slice (some ⟨g, off, none⟩) n cap) xs) (j : Nat) : w.frozen? ⟨g, j, none⟩ = false ∨ True := .inr trivial
theorem RowO.frozen {g off n cap : Nat} (h : RowO enc k e w base (.slice (some ⟨g, off, none⟩) n cap) xs) (p i : Nat) (hp : p < xs.length) (hi : i < k) : w.frozen? ⟨g, off + p * k + i, none⟩ = false := by
  rcases h with ⟨h, _⟩ | ⟨g', off', cap', cur, h1, h2, h3, h4, h5, h6, h7⟩
  · cases h
  · simp only [Value.slice.injEq, Option.some.injEq, Addr.mk.injEq, and_true] at h1
    obtain ⟨⟨rfl, rfl⟩, _, rfl⟩ := h1
    have h9 : (p + 1) * k ≤ cap * k := Nat.mul_le_mul_right k (by omega)
    rw [Nat.succ_mul] at h9
    have h10 : ¬ cur.size ≤ off + p * k + i := by omega
    unfold World.frozen?
    rw [h3]
    simp [h10]
theorem RowO.rowS (h : RowO enc k e w base v xs) : RowS enc w v xs := by
  rcases h with h | ⟨g, off, cap, cur, h1, h2, h3, h4, h5, h6, h7⟩
  · exact .inl h
  · subst h1
    refine .inr ⟨g, off, cap, rfl, h5, h6, blk_lt h3, fun j u hu => ?_⟩
    rw [cell_of_row w g (off + j) cur _ (0, 0) h3]
    exact h7 j u hu
theorem RowO.capOf {n c : Nat} {a : Option Addr} (h : RowO enc k e w base (.slice a n c) xs) : xs.length ≤ c ∧ c ≤ maxLen ∧ n = xs.length := by
  rcases h with ⟨h, rfl⟩ | ⟨g, off, cap, cur, h1, h2, h3, h4, h5, h6, h7⟩
  · simp only [Value.slice.injEq] at h
    obtain ⟨rfl, rfl, rfl⟩ := h
    exact ⟨Nat.le_refl _, Nat.zero_le _, rfl⟩
  · simp only [Value.slice.injEq] at h1
    obtain ⟨rfl, rfl, rfl⟩ := h1
    exact ⟨h5, h6, rfl⟩
theorem RowO.of_owns (hk : ∀ x, (enc x).length = k) (h : w.ownsRow base e k v xs.length (xs.flatMap enc)) : RowO enc k e w base v xs := by
  rcases h.2 with ⟨rfl, h2⟩ | ⟨g, cap, cur, rfl, h3, h4, h5, h6, h7, h8⟩
  · exact .inl ⟨rfl, List.length_eq_zero_iff.mp h2⟩
  · refine .inr ⟨g, 0, cap, cur, rfl, h3, h4, by rw [h7, Nat.zero_add]; exact Nat.le_refl _, h5, h6, fun j u hj => ?_⟩
    have hlen := flat_len enc k hk xs
    have hjl : j < (xs.flatMap enc).length := by
      rcases Nat.lt_or_ge j (xs.flatMap enc).length with h | h
      · exact h
      · rw [List.getElem?_eq_none h] at hj; cases hj
    rw [Nat.zero_add, ← hj, ← h8, List.getElem?_take, if_pos (by omega), Array.getElem?_toList]
/-- 's[n:]'. -/
theorem RowO.drop (hk : ∀ x, (enc x).length = k) {g off cap : Nat} (h : RowO enc k e w base (.slice (some ⟨g, off, none⟩) xs.length cap) xs) (n : Nat) (hn : n ≤ xs.length) (o : Nat) (ho : o = off + n * k ∨ cap - n = 0 ∧ o = off) : RowO enc k e w base (.slice (some ⟨g, o, none⟩) (xs.length - n) (cap - n)) (xs.drop n) := by
  rcases h with ⟨h, _⟩ | ⟨g', off', cap', cur, h1, h2, h3, h4, h5, h6, h7⟩
  · cases h
  · simp only [Value.slice.injEq, Option.some.injEq, Addr.mk.injEq, true_and, and_true] at h1
    obtain ⟨⟨rfl, rfl⟩, rfl⟩ := h1
    refine .inr ⟨g, o, cap - n, cur, by rw [List.length_drop], h2, h3, ?_, by rw [List.length_drop]; omega, by omega, fun j u hj => ?_⟩
    · rcases ho with rfl | ⟨hc, rfl⟩
      · have : n * k + (cap - n) * k = cap * k := by rw [← Nat.add_mul, Nat.add_sub_cancel' (Nat.le_trans hn h5)]
        omega
      · rw [hc]; omega
    · rcases ho with rfl | ⟨hc, rfl⟩
      · rw [flat_drop enc k hk, List.getElem?_drop] at hj
        have := h7 _ u hj
        rwa [Nat.add_assoc]
      · rw [List.drop_eq_nil_of_le (by omega)] at hj
        simp at hj
theorem flat_set (hk : ∀ x, (enc x).length = k) (u : Value) (x' : α) (j : Nat) (hj : j < k) : ∀ (xs : List α) (i : Nat) (hi : i < xs.length), enc x' = (enc xs[i]).set j u → (xs.set i x').flatMap enc = (xs.flatMap enc).set (i * k + j) u := by
  intro xs
  induction xs with
  | nil => intro i hi; simp at hi
  | cons x xs ih =>
    intro i hi hx
    cases i with
    | zero =>
      rw [List.set_cons_zero, List.flatMap_cons, List.flatMap_cons, Nat.zero_mul, Nat.zero_add, List.set_append_left j u (by rw [hk]; exact hj), hx]
      rfl
    | succ i =>
      have hi' : i < xs.length := by simpa using hi
      have hx' : enc x' = (enc xs[i]).set j u := hx
      rw [List.set_cons_succ, List.flatMap_cons, List.flatMap_cons, ih i hi' hx', Nat.succ_mul, List.set_append_right _ u (by rw [hk]; omega), hk]
      congr 2
      omega
/-- A cell of an element is written. -/
theorem RowO.set (hk : ∀ x, (enc x).length = k) {g off n cap : Nat} (h : RowO enc k e w base (.slice (some ⟨g, off, none⟩) n cap) xs) (i j : Nat) (hi : i < xs.length) (hj : j < k) (u : Value) (x' : α) (hx : enc x' = (enc xs[i]).set j u) : RowO enc k e (w.setCell ⟨g, off + i * k + j, none⟩ u) base (.slice (some ⟨g, off, none⟩) n cap) (xs.set i x') := by
  rcases h with ⟨h, _⟩ | ⟨g', off', cap', cur, h1, h2, h3, h4, h5, h6, h7⟩
  · cases h
  · simp only [Value.slice.injEq, Option.some.injEq, Addr.mk.injEq, and_true] at h1
    obtain ⟨⟨rfl, rfl⟩, rfl, rfl⟩ := h1
    refine .inr ⟨g, off, cap, cur.setIfInBounds (off + i * k + j) u, by rw [List.length_set], h2, heap_setCell_same w g (off + i * k + j) cur _ u h3, by simpa using h4, by rw [List.length_set]; exact h5, h6, fun m q hq => ?_⟩
    rw [flat_set hk u x' j hj xs i hi hx, List.getElem?_set] at hq
    have h9 : (i + 1) * k ≤ cap * k := Nat.mul_le_mul_right k (by omega)
    rw [Nat.succ_mul] at h9
    rw [Array.getElem?_setIfInBounds]
    by_cases e1 : i * k + j = m
    · subst e1
      rw [if_pos rfl, flat_len enc k hk] at hq
      rw [if_pos (by omega), if_pos (by omega)]
      split at hq
      · exact hq
      · cases hq
    · rw [if_neg e1] at hq
      rw [if_neg (by omega)]
      exact h7 m q hq
theorem heap_setCells_same (g : Nat) (e : TypeId) : ∀ (news : List Value) (w : World) (o : Nat) (cur : Array Value), w.heap[g]? = some (.cells cur e (0, 0)) → o + news.length ≤ cur.size → ∃ cur', (w.setCells g o news).heap[g]? = some (.cells cur' e (0, 0)) ∧ cur'.size = cur.size ∧ (∀ j, j < o → cur'[j]? = cur[j]?) ∧ ∀ j u, news[j]? = some u → cur'[o + j]? = some u := by
  intro news
  induction news with
  | nil => intro w o cur h _; exact ⟨cur, h, rfl, fun _ _ => rfl, fun j u hu => by simp at hu⟩
  | cons x news ih =>
    intro w o cur h hs
    rw [List.length_cons] at hs
    obtain ⟨cur', h1, h2, h3, h4⟩ := ih (w.setCell ⟨g, o, none⟩ x) (o + 1) (cur.setIfInBounds o x) (heap_setCell_same w g o cur _ x h) (by simp; omega)
    refine ⟨cur', h1, by simpa using h2, fun j hj => ?_, fun j u hu => ?_⟩
    · rw [h3 j (by omega), Array.getElem?_setIfInBounds, if_neg (by omega)]
    · cases j with
      | zero =>
        simp only [List.getElem?_cons_zero, Option.some.injEq] at hu
        subst hu
        rw [Nat.add_zero, h3 o (by omega), Array.getElem?_setIfInBounds, if_pos rfl, if_pos (by omega)]
      | succ j =>
        rw [show o + (j + 1) = o + 1 + j by omega]
        exact h4 j u (by simpa using hu)
theorem grownBy_setCells (g : Nat) : ∀ (news : List Value) (w : World) (o : Nat), w.grownBy (w.setCells g o news) (some g) := by
  intro news
  induction news with
  | nil => intro w o; exact ⟨rfl, rfl, rfl, Nat.le_refl _, fun _ _ _ => rfl⟩
  | cons x news ih =>
    intro w o
    have h1 := Lib.grownBy_setCell w g o x
    have h2 := ih (w.setCell ⟨g, o, none⟩ x) (o + 1)
    exact ⟨h2.os.trans h1.os, h2.tape.trans h1.tape, h2.output.trans h1.output, Nat.le_trans h1.size h2.size, fun i hi hn => (h2.block i (Nat.lt_of_lt_of_le hi h1.size) hn).trans (h1.block i hi hn)⟩
/-- 'append(s, x)'. -/
theorem RowO.append {P : Program} (hk : ∀ x, (enc x).length = k) (h1c : ∀ x, ∀ u ∈ enc x, u.oneCell' = true) (h0 : 0 < k) {t ty : TypeId} {z : Value} {bytes : Nat} (ht : P.underlying t = some (.slice e)) (hi : (P.info? e).map (fun i => (i.zero, i.size, i.bytes)) = some (some z, k, bytes)) (hzs : z.cells.size = k)
    (h : RowO enc k e w base v xs) (hbase : base ≤ w.heap.size) (hlen : xs.length + 1 ≤ maxLen) (hbytes : (xs.length + 1) * bytes ≤ 140737488355328) (ad : Addr) (c : Nat) (x : α) (hnews : ∀ j u, (enc x)[j]? = some u → w.cell? (ad.add j) = some u) :
    ∃ a' c' w', (Builtin.append_ #[t, t] ty #[v, .slice (some ad) 1 c]).run P w = .ok (.slice a' (xs.length + 1) c') w' ∧ RowO enc k e w' base (.slice a' (xs.length + 1) c') (xs ++ [x]) ∧ w.grownBy w' v.ownBlock ∧ (∀ g, (Value.slice a' (xs.length + 1) c').ownBlock = some g → v.ownBlock = some g ∨ w.heap.size ≤ g) := by
  obtain ⟨i0, hi0, hz0, hz1, hz2⟩ := info_parts hi
  have h1 : ∀ u ∈ enc x, u.oneCell' = true := h1c x
  have hfl : (xs ++ [x]).flatMap enc = xs.flatMap enc ++ enc x := by rw [List.flatMap_append]; simp
  rcases h with ⟨rfl, rfl⟩ | ⟨g, off, cap, cur, rfl, k2, k3, k4, k5, k6, k7⟩
  · obtain ⟨v', w', hr, ho, hg, hn⟩ := run_append_own w (P := P) w.heap.size t ty e i0 z k bytes ht hi0 hz0 hz1 hz2 hzs h0 (.slice none 0 0) 0 [] (World.ownsRow_nil _ _ _ _) ad 1 c (enc x) (by rw [hk, Nat.one_mul]) hnews h1 (by simp [maxLen]) (by simpa using hbytes) (Nat.le_refl _)
    have ho2 : w'.ownsRow w.heap.size e k v' ([x] : List α).length (([x] : List α).flatMap enc) := by simpa using ho
    have ho3 := RowO.of_owns hk ho2
    obtain ⟨a', c', rfl⟩ := ho3.form
    exact ⟨a', c', w', hr, ho3.mono hbase, hg, fun q hq => .inr (ho3.lt q hq).1⟩
  · by_cases hroom : xs.length + 1 ≤ cap
    · have hle : (xs.length + 1) * k ≤ cap * k := Nat.mul_le_mul_right k hroom
      rw [Nat.succ_mul] at hle
      have hb : ∀ j, j < (enc x).length → off + xs.length * k + j < cur.size := fun j hj => by rw [hk] at hj; omega
      have hs : ∀ j, j < (enc x).length → (w.cell? ⟨g, off + xs.length * k + j, none⟩).isSome = true := fun j hj => by
        rw [cell_of_row w g (off + xs.length * k + j) cur _ (0, 0) k3, Array.getElem?_eq_getElem (hb j hj)]; rfl
      have hf : ∀ j, j < (enc x).length → w.frozen? ⟨g, off + xs.length * k + j, none⟩ = false := fun j hj => by
        unfold World.frozen?
        rw [k3]
        have : ¬ cur.size ≤ off + xs.length * k + j := by have := hb j hj; omega
        simp [this]
      have hr := run_append_room_cells (P := P) w t ty e i0 ht hi0 g off xs.length cap ad 1 c (enc x) (by rw [hz1, hk, Nat.one_mul]) hnews h1 hroom (by rw [hz1]; exact hs) (by rw [hz1]; exact hf)
      rw [hz1] at hr
      obtain ⟨cur', q1, q2, q3, q4⟩ := heap_setCells_same g e (enc x) w (off + xs.length * k) cur k3 (by rw [hk]; omega)
      refine ⟨_, _, _, hr, ?_, grownBy_setCells g (enc x) w _, fun q hq => .inl hq⟩
      refine .inr ⟨g, off, cap, cur', by simp, k2, q1, by rw [q2]; exact k4, by simpa using hroom, k6, fun j u hj => ?_⟩
      rw [hfl] at hj
      have hxl := flat_len enc k hk xs
      rcases Nat.lt_or_ge j (xs.flatMap enc).length with hjl | hjl
      · rw [List.getElem?_append_left hjl] at hj
        rw [q3 (off + j) (by omega)]
        exact k7 j u hj
      · rw [List.getElem?_append_right hjl] at hj
        have := q4 _ u hj
        rw [show off + xs.length * k + (j - (xs.flatMap enc).length) = off + j by omega] at this
        exact this
    · have holds : ∀ j u, (xs.flatMap enc)[j]? = some u → w.cell? ((⟨g, off, none⟩ : Addr).add j) = some u := by
        intro j u hj
        rw [Addr.add_lit, cell_of_row w g (off + j) cur _ (0, 0) k3]
        exact k7 j u hj
      obtain ⟨v', w', hr, ho, hg⟩ := run_append_arg_grows (P := P) w t ty e i0 z k bytes ht hi0 hz0 hz1 hz2 hzs h0 ⟨g, off, none⟩ xs.length cap (xs.flatMap enc) (flat_len enc k hk xs) holds ad 1 c (enc x) (by rw [hk, Nat.one_mul]) hnews (by omega) hlen hbytes
      have ho2 : w'.ownsRow w.heap.size e k v' (xs ++ [x]).length ((xs ++ [x]).flatMap enc) := by rw [hfl, List.length_append]; exact ho
      have ho3 := RowO.of_owns hk ho2
      have hf := ho3.form
      rw [List.length_append, List.length_singleton] at hf
      obtain ⟨a', c', rfl⟩ := hf
      exact ⟨a', c', w', hr, ho3.mono hbase, ⟨hg.os, hg.tape, hg.output, hg.size, fun q hq _ => hg.block q hq (by simp)⟩, fun q hq => .inr (ho3.lt q hq).1⟩
theorem wpList_rowO {P : Program} {ops : Array Oper} {rest : List Oper} {o : Oper} {a : Act} {Q : Exit → Act → World → Prop} (hgd : o.guard = none) (s x : Operand) (hk : ∀ x, (enc x).length = k) (h1c : ∀ x, ∀ u ∈ enc x, u.oneCell' = true) (h0 : 0 < k) {t : TypeId} {z : Value} {bytes : Nat} (ht : P.underlying t = some (.slice e)) (hi : (P.info? e).map (fun i => (i.zero, i.size, i.bytes)) = some (some z, k, bytes)) (hzs : z.cells.size = k)
    (ho : o.op = .call { callee := .builtin .append, args := #[s, x], argTypes := #[t, t] }) (hs : a.eval s = v) (h : RowO enc k e w base v xs) (hbase : base ≤ w.heap.size) (hlen : xs.length + 1 ≤ maxLen) (hbytes : (xs.length + 1) * bytes ≤ 140737488355328) (ad : Addr) (c : Nat) (x' : α) (hx : a.eval x = .slice (some ad) 1 c) (hxc : ∀ j u, (enc x')[j]? = some u → w.cell? (ad.add j) = some u)
    (hK : ∀ a' c' w', RowO enc k e w' base (.slice a' (xs.length + 1) c') (xs ++ [x']) → w.grownBy w' v.ownBlock → (∀ g, (Value.slice a' (xs.length + 1) c').ownBlock = some g → v.ownBlock = some g ∨ w.heap.size ≤ g) → wpList P ops Q rest (a.put o.dst (.slice a' (xs.length + 1) c')) w') : wpList P ops Q (o :: rest) a w := by
  refine wpList_plain hgd fun K hK' => ?_
  obtain ⟨a', c', w', hr, h2, h3, h4⟩ := h.append hk h1c h0 ht hi hzs hbase hlen hbytes ad c x' hxc (ty := o.type)
  unfold Oper.wp execOp
  simp only [ho, resolve, invoke, builtin, Sem.run_bind, Sem.run_pure, Result.andThen_ok, List.map_toArray, List.map_cons, List.map_nil, hs, hx, hr]
  exact hK' _ _ (hK _ _ _ h2 h3 h4)
end Go.Proofs.Ytdeeakjkhcdkaaa
