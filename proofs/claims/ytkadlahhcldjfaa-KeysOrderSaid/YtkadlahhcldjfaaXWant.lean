/- A row of uint64 that the law owns, at whatever offset: append, and a slice of it. No conditions beyond those that are written. -/
import Derived.Test.YtkadlahhcldjfaaProg
import Derived.Test.YtkadlahhcldjfaaXRowS
import Derived.ArgAppend
import Derived.OwnWalk
import Derived.Lib.BufferOwn
namespace Go.Proofs.Ytkadlahhcldjfaa
open Go.RowKit Go.Lib Go.Proofs.YtkadlahhcldjfaaW.PrintWords
set_option linter.unusedVariables false
set_option linter.unusedSimpArgs false
def u64v (k : Int) : Value := .int .u64 k
def WantAt (w : World) (base : Nat) (v : Value) (ks : List Int) : Prop :=
  (v = .slice none 0 0 ∧ ks = []) ∨ ∃ g off cap cur, v = .slice (some ⟨g, off, none⟩) ks.length cap ∧ base ≤ g ∧ w.heap[g]? = some (.cells cur 28 (0, 0)) ∧ off + cap ≤ cur.size ∧ ks.length ≤ cap ∧ cap ≤ maxLen ∧ ∀ j, ∀ h : j < ks.length, cur[off + j]? = some (u64v ks[j])
theorem WantAt.nil (w : World) (base : Nat) : WantAt w base (.slice none 0 0) [] := .inl ⟨rfl, rfl⟩
theorem WantAt.grown {w w' : World} {base : Nat} {v : Value} {ks : List Int} {row : Option Nat} (h : WantAt w base v ks) (hg : w.grownBy w' row) (hne : v.ownBlock = none ∨ v.ownBlock ≠ row) : WantAt w' base v ks := by
  rcases h with h | ⟨g, off, cap, cur, h1, h2, h3, h4⟩
  · exact .inl h
  · refine .inr ⟨g, off, cap, cur, h1, h2, ?_, h4⟩
    rw [h1] at hne
    refine (hg.block g (blk_lt h3) (fun e => ?_)).trans h3
    rcases hne with h | h
    · cases h
    · exact h e
theorem WantAt.below {w w' : World} {base : Nat} {v : Value} {ks : List Int} (h : WantAt w base v ks) (hb : Below w.heap.size w w') : WantAt w' base v ks := by
  rcases h with h | ⟨g, off, cap, cur, h1, h2, h3, h4⟩
  · exact .inl h
  · exact .inr ⟨g, off, cap, cur, h1, h2, blk_below h3 hb, h4⟩
theorem WantAt.lt {w : World} {base : Nat} {v : Value} {ks : List Int} (h : WantAt w base v ks) : ∀ k, v.ownBlock = some k → base ≤ k ∧ k < w.heap.size := by
  intro k hk
  rcases h with ⟨rfl, _⟩ | ⟨g, off, cap, cur, rfl, h2, h3, _⟩
  · cases hk
  · have : g = k := by simpa [Value.ownBlock] using hk
    subst this
    exact ⟨h2, blk_lt h3⟩
theorem WantAt.form {w : World} {base : Nat} {v : Value} {ks : List Int} (h : WantAt w base v ks) : ∃ a cap, v = .slice a ks.length cap := by
  rcases h with ⟨rfl, rfl⟩ | ⟨g, off, cap, cur, rfl, _⟩
  · exact ⟨none, 0, rfl⟩
  · exact ⟨_, _, rfl⟩
theorem WantAt.cells {w : World} {base : Nat} {g off n cap : Nat} {ks : List Int} (h : WantAt w base (.slice (some ⟨g, off, none⟩) n cap) ks) : ∀ j, ∀ hj : j < ks.length, w.cell? ⟨g, off + j, none⟩ = some (u64v ks[j]) := by
  rcases h with ⟨h, _⟩ | ⟨g', off', cap', cur, h1, h2, h3, h4, h5, h6, h7⟩
  · cases h
  · simp only [Value.slice.injEq, Option.some.injEq, Addr.mk.injEq, and_true] at h1
    obtain ⟨⟨rfl, rfl⟩, _, rfl⟩ := h1
    intro j hj
    rw [cell_of_row w g (off + j) cur _ (0, 0) h3]
    exact h7 j hj
theorem WantAt.form1 {w : World} {base : Nat} {v : Value} {ks : List Int} (h : WantAt w base v ks) (hn : 0 < ks.length) : ∃ g off cap, v = .slice (some ⟨g, off, none⟩) ks.length cap := by
  rcases h with ⟨_, rfl⟩ | ⟨g, off, cap, cur, rfl, _⟩
  · simp at hn
  · exact ⟨_, _, _, rfl⟩
theorem WantAt.of_owns {w : World} {base : Nat} {v : Value} {ks : List Int} (h : w.ownsRow base 28 1 v ks.length (ks.map u64v)) : WantAt w base v ks := by
  rcases h.2 with ⟨rfl, h2⟩ | ⟨g, cap, cur, rfl, h3, h4, h5, h6, h7, h8⟩
  · exact .inl ⟨rfl, List.length_eq_zero_iff.mp h2⟩
  · refine .inr ⟨g, 0, cap, cur, rfl, h3, h4, by rw [h7]; omega, h5, h6, fun j hj => ?_⟩
    have e : (ks.map u64v)[j]? = .some (u64v ks[j]) := by rw [List.getElem?_map, List.getElem?_eq_getElem hj]; rfl
    rw [← h8, List.getElem?_take, if_pos (by omega), Array.getElem?_toList] at e
    rw [Nat.zero_add]; exact e
/-- 'want[n:]'. -/
theorem WantAt.drop {w : World} {base : Nat} {g off cap : Nat} {ks : List Int} (h : WantAt w base (.slice (.some ⟨g, off, none⟩) ks.length cap) ks) (n : Nat) (hn : n ≤ ks.length) (o : Nat) (ho : o = off + n ∨ cap - n = 0 ∧ o = off) : WantAt w base (.slice (.some ⟨g, o, none⟩) (ks.length - n) (cap - n)) (ks.drop n) := by
  rcases h with ⟨h, _⟩ | ⟨g', off', cap', cur, h1, h2, h3, h4, h5, h6, h7⟩
  · cases h
  · simp only [Value.slice.injEq, Option.some.injEq, Addr.mk.injEq, true_and, and_true] at h1
    obtain ⟨⟨rfl, rfl⟩, rfl⟩ := h1
    refine .inr ⟨g, o, cap - n, cur, by rw [List.length_drop], h2, h3, by omega, by rw [List.length_drop]; omega, by omega, fun j hj => ?_⟩
    rw [List.length_drop] at hj
    have := h7 (n + j) (by omega)
    rw [List.getElem_drop]
    rcases ho with rfl | ⟨hc, rfl⟩
    · rw [show off + n + j = off + (n + j) from by omega]; exact this
    · omega
theorem u64_info : (Try.prog.info? 28).map (fun i => (i.zero, i.size, i.bytes)) = some (some (.int .u64 0), 1, 8) := by kernel_rfl
/-- 'append(want, x)'. -/
theorem WantAt.append {w : World} {base : Nat} {v : Value} {ks : List Int} (h : WantAt w base v ks) (hks : ks.length ≤ 1000) (hbase : base ≤ w.heap.size) (b c : Nat) (x : Int) (hx : w.cell? ⟨b, 0, none⟩ = some (u64v x)) (ty : TypeId) :
    ∃ a' c' w', (Builtin.append_ #[37, 37] ty #[v, .slice (.some ⟨b, 0, none⟩) 1 c]).run Try.prog w = .ok (.slice a' (ks.length + 1) c') w' ∧ WantAt w' base (.slice a' (ks.length + 1) c') (ks ++ [x]) ∧ w.grownBy w' v.ownBlock ∧ (∀ k, (Value.slice a' (ks.length + 1) c').ownBlock = .some k → v.ownBlock = .some k ∨ w.heap.size ≤ k) := by
  obtain ⟨i0, hi0, hz0, hz1, hz2⟩ := info_parts u64_info
  have hnews : ∀ j u, ([u64v x] : List Value)[j]? = some u → w.cell? ((⟨b, 0, none⟩ : Addr).add j) = some u := by
    intro j u hj
    match j, hj with
    | 0, hj => simp at hj; subst hj; exact hx
    | j + 1, hj => simp at hj
  have h1 : ∀ u ∈ ([u64v x] : List Value), u.oneCell' = true := by intro u hu; simp at hu; subst hu; rfl
  rcases h with ⟨rfl, rfl⟩ | ⟨g, off, cap, cur, rfl, k2, k3, k4, k5, k6, k7⟩
  · obtain ⟨v', w', hr, ho, hg, hn⟩ := run_append_own w (P := Try.prog) w.heap.size 37 ty 28 i0 (.int .u64 0) 1 8 Try.underlying37 hi0 hz0 hz1 hz2 rfl (by decide) (.slice none 0 0) 0 [] (World.ownsRow_nil _ _ _ _) ⟨b, 0, none⟩ 1 c [u64v x] rfl hnews h1 (by simp [maxLen]) (by decide) (Nat.le_refl _)
    have ho2 : w'.ownsRow w.heap.size 28 1 v' ([x] : List Int).length (([x] : List Int).map u64v) := ho
    obtain ⟨a', c', rfl⟩ := (WantAt.of_owns ho2).form
    refine ⟨a', c', w', hr, ?_, hg, fun k hk => .inr (ho.lt k hk).1⟩
    rcases WantAt.of_owns ho2 with q | ⟨g, off, cap, cur, q1, q2, q3⟩
    · cases q.2
    · exact .inr ⟨g, off, cap, cur, q1, by omega, q3⟩
  · by_cases hroom : ks.length + 1 ≤ cap
    · have hcell : w.cell? ⟨g, off + ks.length, none⟩ = cur[off + ks.length]? := cell_of_row w g (off + ks.length) cur _ (0, 0) k3
      have hs : (w.cell? ⟨g, off + ks.length, none⟩).isSome = true := by rw [hcell, Array.getElem?_eq_getElem (by omega)]; rfl
      have hf : w.frozen? ⟨g, off + ks.length, none⟩ = false := by
        unfold World.frozen?
        rw [k3]
        have : ¬ cur.size ≤ off + ks.length := by omega
        simp [this]
      have hr := run_append_room_cells (P := Try.prog) w 37 ty 28 i0 Try.underlying37 hi0 g off ks.length cap ⟨b, 0, none⟩ 1 c [u64v x] (by rw [hz1]; rfl) hnews h1 hroom (fun j hj => by
        obtain rfl : j = 0 := by simp at hj; exact hj
        rw [hz1]; simpa using hs) (fun j hj => by
        obtain rfl : j = 0 := by simp at hj; exact hj
        rw [hz1]; simpa using hf)
      rw [hz1, Nat.mul_one] at hr
      refine ⟨_, _, _, hr, ?_, ?_, fun k hk => .inl hk⟩
      · refine .inr ⟨g, off, cap, cur.setIfInBounds (off + ks.length) (u64v x), by simp, k2, ?_, by simpa using k4, by simpa using hroom, k6, fun j hj => ?_⟩
        · exact heap_setCell_same w g (off + ks.length) cur _ (u64v x) k3
        · rw [List.length_append, List.length_singleton] at hj
          rw [Array.getElem?_setIfInBounds]
          by_cases e : j = ks.length
          · subst e
            rw [if_pos rfl, if_pos (by omega)]
            simp
          · rw [if_neg (by omega), List.getElem_append_left (by omega)]
            exact k7 j (by omega)
      · exact Lib.grownBy_setCell w g (off + ks.length) (u64v x)
    · have holds : ∀ j u, (ks.map u64v)[j]? = some u → w.cell? ((⟨g, off, none⟩ : Addr).add j) = some u := by
        intro j u hj
        rw [List.getElem?_map] at hj
        have hjl : j < ks.length := by
          rcases Nat.lt_or_ge j ks.length with h | h
          · exact h
          · rw [List.getElem?_eq_none h] at hj; cases hj
        rw [List.getElem?_eq_getElem hjl] at hj
        rw [Addr.add_lit, cell_of_row w g (off + j) cur _ (0, 0) k3, k7 j hjl]
        exact hj
      obtain ⟨v', w', hr, ho, hg⟩ := run_append_arg_grows (P := Try.prog) w 37 ty 28 i0 (.int .u64 0) 1 8 Try.underlying37 hi0 hz0 hz1 hz2 rfl (by decide) ⟨g, off, none⟩ ks.length cap (ks.map u64v) (by simp) holds ⟨b, 0, none⟩ 1 c [u64v x] rfl hnews (by omega) (by unfold maxLen; omega) (by omega)
      have ho2 : w'.ownsRow w.heap.size 28 1 v' (ks ++ [x]).length ((ks ++ [x]).map u64v) := by simpa using ho
      have hf := (WantAt.of_owns ho2).form
      rw [List.length_append, List.length_singleton] at hf
      obtain ⟨a', c', rfl⟩ := hf
      refine ⟨a', c', w', hr, ?_, ⟨hg.os, hg.tape, hg.output, hg.size, fun k hk _ => hg.block k hk (by simp)⟩, fun k hk => .inr (ho.lt k hk).1⟩
      rcases WantAt.of_owns ho2 with q | ⟨g', off', cap', cur', q1, q2, q3⟩
      · have := q.2; simp at this
      · exact .inr ⟨g', off', cap', cur', q1, by omega, q3⟩

theorem wpList_want {ops : Array Oper} {rest : List Oper} {o : Oper} {a : Act} {Q : Exit → Act → World → Prop} {w : World} (hgd : o.guard = none) (s x : Operand) (ho : o.op = .call { callee := .builtin .append, args := #[s, x], argTypes := #[37, 37] })
    (base : Nat) (v : Value) (ks : List Int) (hs : a.eval s = v) (h : WantAt w base v ks) (hks : ks.length ≤ 1000) (hbase : base ≤ w.heap.size) (b c : Nat) (x' : Int) (hx : a.eval x = .slice (some ⟨b, 0, none⟩) 1 c) (hxc : w.cell? ⟨b, 0, none⟩ = some (u64v x'))
    (hK : ∀ a' c' w', WantAt w' base (.slice a' (ks.length + 1) c') (ks ++ [x']) → w.grownBy w' v.ownBlock → (∀ k, (Value.slice a' (ks.length + 1) c').ownBlock = some k → v.ownBlock = some k ∨ w.heap.size ≤ k) → wpList Try.prog ops Q rest (a.put o.dst (.slice a' (ks.length + 1) c')) w') : wpList Try.prog ops Q (o :: rest) a w := by
  refine wpList_plain hgd fun K hK' => ?_
  obtain ⟨a', c', w', hr, h2, h3, h4⟩ := h.append hks hbase b c x' hxc o.type
  unfold Oper.wp execOp
  simp only [ho, resolve, invoke, builtin, Sem.run_bind, Sem.run_pure, Result.andThen_ok, List.map_toArray, List.map_cons, List.map_nil, hs, hx, hr]
  exact hK' _ _ (hK _ _ _ h2 h3 h4)
theorem WantAt.capOf {w : World} {base n c : Nat} {a : Option Addr} {ks : List Int} (h : WantAt w base (.slice a n c) ks) : ks.length ≤ c := by
  rcases h with ⟨h, rfl⟩ | ⟨g, off, cap, cur, h1, h2, h3, h4, h5, h6, h7⟩
  · simp
  · simp only [Value.slice.injEq] at h1
    omega
end Go.Proofs.Ytkadlahhcldjfaa
