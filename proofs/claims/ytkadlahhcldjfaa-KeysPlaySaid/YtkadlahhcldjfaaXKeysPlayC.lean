/- KeysPlay: the contracts that the walk wants besides. No conditions beyond the form's own reach. -/
import Derived.Test.YtkadlahhcldjfaaXKeysText
import Derived.Test.YtkadlahhcldjfaaXKeysPutR
import Derived.Test.YtkadlahhcldjfaaXKeysWakes
import Derived.Test.YtkadlahhcldjfaaXOpen
namespace Go.Proofs.Ytkadlahhcldjfaa
open Go.RowKit Go.Lib Go.Proofs.Ytkadlahhcldjfaa.P Go.Proofs.Ytkadlahhcldjfaa.BeS Go.Proofs.YtkadlahhcldjfaaW.PrintWords Go.Proofs.YtkadlahhcldjfaaW.PrintLast Go.Proofs.YtkadlahhcldjfaaW.PrintMore
set_option linter.unusedVariables false
set_option linter.unusedSimpArgs false
--@tables
theorem keys_newBad (lim : Int) (h : lim < 1 ∨ 64 < lim) (w : World) :
    Calls Try.prog 6 #[.int .i64 lim] w fun x w' => x = .returned (.tuple #[.pointer none, .int .i64 2]) ∧ Below w.heap.size w w' := by
  by_cases h1 : lim < 1
  · have a1 : decide (lim < 1) = true := decide_eq_true h1
    clear h h1
    go_enter Try.func6, Try.ntmps6
    go_wp2
    go_ret2
    exact ⟨rfl, Below.refl _ _⟩
  · have a1 : decide (lim < 1) = false := decide_eq_false h1
    have a2 : decide (64 < lim) = true := decide_eq_true (by omega)
    clear h h1
    go_enter Try.func6, Try.ntmps6
    go_wp2
    go_ret2
    exact ⟨rfl, Below.refl _ _⟩
/-- Entries of a slice that came in. -/
structure KE.In (e : KE) : Prop where
  k0 : 0 ≤ e.key
  k1 : e.key < 18446744073709551616
  n0 : -9223372036854775808 ≤ e.num
  n1 : e.num < 9223372036854775808
  b : e.body.size ≤ maxLen
def EsAt (w : World) (a : Option Addr) (es : List KE) : Prop := ∀ i, ∀ h : i < es.length, es[i].In ∧ ∃ g off, a = some ⟨g, off, none⟩ ∧ w.cell? ⟨g, off + i * 3, none⟩ = some (.int .u64 es[i].key) ∧ w.cell? ⟨g, off + i * 3 + 1, none⟩ = some (.string es[i].body) ∧ w.cell? ⟨g, off + i * 3 + 2, none⟩ = some (.int .i64 es[i].num)
theorem run_append_zero {P : Program} {w : World} (base : Nat) (t ty e : TypeId) (i : TypeInfo) (size : Nat) (ht : P.underlying t = some (.slice e)) (hi : P.info? e = some i) (v : Value) (n : Nat) (xs : List Value) (hown : w.ownsRow base e size v n xs) (c : Nat) :
    (Builtin.append_ #[t, t] ty #[v, .slice none 0 c]).run P w = .ok v w := by
  rcases hown.2 with ⟨rfl, rfl⟩ | ⟨g, cap, cur, rfl, _, _, hnc, _⟩
  · simp [Builtin.append_, run_underlying ht, sizeOf, typeInfo, hi, Builtin.lenOf, Builtin.firstCells]
  · simp [Builtin.append_, run_underlying ht, sizeOf, typeInfo, hi, Builtin.lenOf, Builtin.firstCells, hnc, storeCells]
/-- 'append(s, x..)', x a slice that came in. -/
theorem run_append_es {w : World} (base : Nat) (v : Value) (es q : List KE) (b : Option Addr) (c : Nat) (hown : w.ownsRow base 41 3 v es.length (es.flatMap encK)) (hq : EsAt w b q) (hl : es.length + q.length ≤ 1000) (hbase : base ≤ w.heap.size) (ty : TypeId) :
    ∃ a' c' w', (Builtin.append_ #[39, 39] ty #[v, .slice b q.length c]).run Try.prog w = .ok (.slice a' (es.length + q.length) c') w' ∧ RowS encK w' (.slice a' (es.length + q.length) c') (es ++ q) ∧ w.grownBy w' v.ownBlock := by
  have hi0 : (Try.prog.info? 41).map (fun i => (i.zero, i.size, i.bytes)) = some (some (.agg #[.int .u64 0, .string ByteArray.empty, .int .i64 0]), 3, 32) := by kernel_rfl
  obtain ⟨i0, hi, hz0, hz1, hz2⟩ := info_parts hi0
  have fin : ∀ v' w', w'.ownsRow base 41 3 v' (es.length + q.length) (es.flatMap encK ++ q.flatMap encK) → ∃ a' c', v' = .slice a' (es.length + q.length) c' ∧ RowS encK w' (.slice a' (es.length + q.length) c') (es ++ q) := by
    intro v' w' ho
    have ho2 : w'.ownsRow base 41 3 v' (es ++ q).length ((es ++ q).flatMap encK) := by rw [List.length_append, List.flatMap_append]; exact ho
    have hr := RowS.of_owns ho2
    obtain ⟨a', c', h, _⟩ := hr.len
    rw [List.length_append] at h
    subst h
    exact ⟨a', c', rfl, hr⟩
  cases b with
  | none =>
    obtain rfl : q = [] := by
      cases q with
      | nil => rfl
      | cons x q => obtain ⟨_, g, off, h, _⟩ := hq 0 (by simp); cases h
    obtain ⟨a', c', rfl, h⟩ := fin v w (by simpa using hown)
    exact ⟨a', c', w, run_append_zero base _ ty _ i0 3 Try.underlying39 hi _ _ _ hown c, h, ⟨rfl, rfl, rfl, Nat.le_refl _, fun _ _ _ => rfl⟩⟩
  | some ad =>
    have hnews : ∀ j u, (q.flatMap encK)[j]? = some u → w.cell? (ad.add j) = some u := by
      intro j u hj
      have hjl : j < (q.flatMap encK).length := by
        rcases Nat.lt_or_ge j (q.flatMap encK).length with h | h
        · exact h
        · rw [List.getElem?_eq_none h] at hj; cases hj
      rw [flat_len encK 3 encK_len] at hjl
      have hd : j = (j / 3) * 3 + j % 3 := by omega
      have hp : j / 3 < q.length := by omega
      obtain ⟨_, g, off, h, k0, k1, k2⟩ := hq (j / 3) hp
      cases h
      rw [hd, flat_get encK 3 encK_len q (j / 3) (j % 3) hp (by omega)] at hj
      rw [Addr.add_lit, hd]
      generalize q[j / 3] = x at hj k0 k1 k2
      generalize j / 3 = p at k0 k1 k2 ⊢
      have h3 : j % 3 < 3 := by omega
      generalize j % 3 = r at hj h3 ⊢
      match r, h3, hj with
      | 0, _, hj => simp [encK] at hj; rw [← hj]; exact k0
      | 1, _, hj => simp [encK] at hj; rw [← hj, ← Nat.add_assoc]; exact k1
      | 2, _, hj => simp [encK] at hj; rw [← hj, ← Nat.add_assoc]; exact k2
    obtain ⟨v', w', hr, ho, hg, _⟩ := run_append_own w (P := Try.prog) base 39 ty 41 i0 (.agg #[.int .u64 0, .string ByteArray.empty, .int .i64 0]) 3 32 Try.underlying39 hi hz0 hz1 hz2 rfl (by decide) v es.length (es.flatMap encK) hown ad q.length c (q.flatMap encK) (flat_len encK 3 encK_len q) hnews (encK_one q) (by unfold maxLen; omega) (by omega) hbase
    obtain ⟨a', c', rfl, h⟩ := fin v' w' ho
    exact ⟨a', c', w', hr, h, hg⟩
theorem EsAt.below {w w' : World} {a : Option Addr} {es : List KE} (h : EsAt w a es) (hb : Below w.heap.size w w') : EsAt w' a es := by
  intro i hi
  obtain ⟨h1, g, off, h2, k0, k1, k2⟩ := h i hi
  exact ⟨h1, g, off, h2, pw_cell_below hb k0, pw_cell_below hb k1, pw_cell_below hb k2⟩
theorem EsAt.take {w : World} {a : Option Addr} {es : List KE} (h : EsAt w a es) (n : Nat) : EsAt w a (es.take n) := by
  intro i hi
  have hi2 : i < es.length := by rw [List.length_take] at hi; omega
  rw [List.getElem_take]
  exact h i hi2
theorem list_ofK {α : Type} (P : Nat → α → Prop) (n : Nat) (h : ∀ i, i < n → ∃ x, P i x) : ∃ l : List α, l.length = n ∧ ∀ i, ∀ hi : i < l.length, P i l[i] := by
  induction n with
  | zero => exact ⟨[], rfl, fun i hi => absurd hi (Nat.not_lt_zero _)⟩
  | succ n ih =>
    obtain ⟨l, h1, h2⟩ := ih (fun i hi => h i (Nat.lt_succ_of_lt hi))
    obtain ⟨x, hx⟩ := h n (Nat.lt_succ_self n)
    refine ⟨l ++ [x], by simp [h1], fun i hi => ?_⟩
    by_cases hl : i < l.length
    · rw [List.getElem_append_left hl]; exact h2 i hl
    · have : i = n := by simp at hi; omega
      subst this
      simp [List.getElem_append_right, h1, hx]
theorem es_of {w : World} {a : Option Addr} {len : Nat} (h : RowIn w [.int .u64, .str, .int .i64] a len) : ∃ es : List KE, es.length = len ∧ EsAt w a es := by
  obtain ⟨es, h1, h2⟩ := list_ofK (fun i (e : KE) => e.In ∧ ∃ g off, a = some ⟨g, off, none⟩ ∧ w.cell? ⟨g, off + i * 3, none⟩ = some (.int .u64 e.key) ∧ w.cell? ⟨g, off + i * 3 + 1, none⟩ = some (.string e.body) ∧ w.cell? ⟨g, off + i * 3 + 2, none⟩ = some (.int .i64 e.num)) len (fun i hi => by
    obtain ⟨g, off, vs, rfl, ho, hc⟩ := h i hi
    obtain ⟨v0, vs1, rfl, ⟨k, rfl, hk⟩, ho1⟩ := Kd.oks_cons ho
    obtain ⟨v1, vs2, rfl, ⟨s, rfl, hs⟩, ho2⟩ := Kd.oks_cons ho1
    obtain ⟨v2, vs3, rfl, ⟨n, rfl, hn⟩, ho3⟩ := Kd.oks_cons ho2
    have bk : 0 ≤ k ∧ k < 18446744073709551616 := by simp [Lit.wf, IntKind.min, IntKind.max, IntKind.signed, IntKind.bits] at hk; omega
    have bn : -9223372036854775808 ≤ n ∧ n < 9223372036854775808 := by simp [Lit.wf, IntKind.min, IntKind.max, IntKind.signed, IntKind.bits] at hn; omega
    exact ⟨⟨k, s, n⟩, ⟨bk.1, bk.2, bn.1, bn.2, hs⟩, g, off, rfl, hc 0 _ rfl, hc 1 _ rfl, hc 2 _ rfl⟩)
  exact ⟨es, h1, h2⟩
end Go.Proofs.Ytkadlahhcldjfaa
