/- keys: the contracts of keys.New, find, Match, Put, List. No conditions beyond those that are written. -/
import Derived.Test.YtkadlahhcldjfaaProg
import Derived.Test.YtkadlahhcldjfaaXRowS
import Derived.Test.YtkadlahhcldjfaaWLast
import Derived.Deep.LoopGhost
import Derived.Lib.Walk
import Derived.Lib.SliceRun
import Derived.OwnWalk
import Derived.WalkKit
import Derived.Lib.SliceRun
import Derived.Laws.MakeOwn
namespace Go.Proofs.Ytkadlahhcldjfaa
open Go.RowKit Go.Lib Go.Proofs.YtkadlahhcldjfaaW.PrintWords Go.Proofs.YtkadlahhcldjfaaW.PrintLast
set_option linter.unusedVariables false
set_option linter.unusedSimpArgs false
--@tables
/-- An entry. -/
structure KE where
  key : Int
  body : ByteArray
  num : Int
instance : Inhabited KE := ⟨⟨0, ByteArray.empty, 0⟩⟩
def encK (e : KE) : List Value := [.int .u64 e.key, .string e.body, .int .i64 e.num]
theorem encK_len (e : KE) : (encK e).length = 3 := rfl
theorem ke_info : (Try.prog.info? 30).map (fun i => (i.zero, i.size, i.bytes)) = some (some (.agg #[.int .u64 0, .string ByteArray.empty, .int .i64 0]), 3, 32) := by kernel_rfl


theorem chain2 {w a b : World} (h : Below w.heap.size w a) (k : Below a.heap.size a b) : Below w.heap.size w b := below_then h h.size k
/-- The place of the first entry of a key. -/
def IdxIs (key : Int) (es : List KE) (r : Int) : Prop := (r = -1 ∧ ∀ e ∈ es, ¬ e.key = key) ∨ ∃ i, ∃ h : i < es.length, r = (i : Int) ∧ es[i].key = key ∧ ∀ j, ∀ h : j < i, ¬ es[j].key = key

/-- 'func(e Entry) bool { return e.Key == key }'. -/
theorem keys_find1 (key : Int) (B : Nat) (e : KE) (w : World) (hc : w.cell? ⟨B, 0, none⟩ = some (.int .u64 key)) (hB : B < w.heap.size) :
    Calls Try.prog 26 #[.agg #[.int .u64 e.key, .string e.body, .int .i64 e.num], .pointer (some ⟨B, 0, none⟩)] w fun x w' => x = .returned (.bool (decide (e.key = key))) ∧ Below w.heap.size w w' := by
  have hne : B ≠ w.heap.size := by omega
  go_enter Try.func26, Try.ntmps26
  go_wp2
  go_ret
  exact ⟨by simp; rfl, (Below.refl _ w).alloc (Nat.le_refl _) _⟩

theorem row_cells {w : World} {g off : Nat} {es : List KE} (hc : ∀ j u, (es.flatMap encK)[j]? = some u → w.cell? ⟨g, off + j, none⟩ = some u) (j : Nat) (hj : j < es.length) :
    w.cell? ⟨g, off + j * 3, none⟩ = some (.int .u64 es[j].key) ∧ w.cell? ⟨g, off + j * 3 + 1, none⟩ = some (.string es[j].body) ∧ w.cell? ⟨g, off + j * 3 + 2, none⟩ = some (.int .i64 es[j].num) := by
  refine ⟨?_, ?_, ?_⟩
  · exact hc (j * 3 + 0) _ (by rw [flat_get encK 3 encK_len es j 0 hj (by decide)]; rfl)
  · rw [Nat.add_assoc]; exact hc (j * 3 + 1) _ (by rw [flat_get encK 3 encK_len es j 1 hj (by decide)]; rfl)
  · rw [Nat.add_assoc]; exact hc (j * 3 + 2) _ (by rw [flat_get encK 3 encK_len es j 2 hj (by decide)]; rfl)

set_option maxHeartbeats 2000000 in
set_option maxRecDepth 100000 in
/-- 'slices.IndexFunc(k.list, ..)'. -/
theorem keys_index (key : Int) (B : Nat) (es : List KE) (hes : es.length ≤ 1000) (v : Value) (w : World) (hr : RowS encK w v es) (hcB : w.cell? ⟨B, 0, none⟩ = some (.int .u64 key)) :
    Calls Try.prog 25 #[v, .func (.func 26) #[] #[.pointer (some ⟨B, 0, none⟩)]] w fun x w' => ∃ r, x = .returned (.int .i64 r) ∧ IdxIs key es r ∧ Below w.heap.size w w' := by
  obtain ⟨a, cap, rfl, _⟩ := hr.len
  have Hes := Lib.hid hes; clear hes
  have hBl : B < w.heap.size := World.block_lt_of_cell? w _ hcB
  have HR := Lib.hid hr; clear hr
  have HC := Lib.hid hcB; clear hcB
  go_enter Try.func25, Try.ntmps25
  go_wp2
  go_loopw [5, 8] (fun _ i wr => ∃ k : Nat, k ≤ es.length ∧ i = .int .i64 (k : Int) ∧ (∀ j, ∀ h : j < es.length, j < k → ¬ es[j].key = key) ∧ Below w.heap.size w wr) (fun _ i _ => es.length - (RowKit.intOf i).toNat)
  case atStart => exact ⟨0, Nat.zero_le _, rfl, fun j _ h => absurd h (Nat.not_lt_zero _), Below.refl _ w⟩
  case round =>
    obtain ⟨k, hk, rfl, ha, hb⟩ := hrel
    have HA := Lib.hid ha; clear ha
    have HB := Lib.hid hb; clear hb
    by_cases hlt : k < es.length
    · rcases HR.out with ⟨h1, h2⟩ | ⟨g, off, cap', h1, h2, h3, h4, h5⟩
      · rw [h2] at hlt; exact absurd hlt (Nat.not_lt_zero _)
      simp only [Value.slice.injEq, true_and] at h1
      obtain ⟨rfl, rfl⟩ := h1
      obtain ⟨l1, l2, l3⟩ := row_cells (w := wr) (fun j u hu => pw_cell_below HB.out (h5 j u hu)) k hlt
      clear h5 h2 h3 h4
      have hc := keys_find1 key B es[k] wr (pw_cell_below HB.out HC.out) (Nat.lt_of_lt_of_le hBl HB.out.size)
      generalize hx : es[k] = x at l1 l2 l3 hc
      have HX := Lib.hid hx; clear hx
      by_cases hq : x.key = key
      · rw [decide_eq_true hq] at hc
        replace hq := Lib.hid hq
        go_wp2_with fail
        refine hc.mono ?_
        rintro e w' ⟨rfl, hd⟩
        have HD := Lib.hid (chain2 HB.out hd); clear hd
        go_wp2
        go_ret
        exact ⟨_, rfl, .inr ⟨k, hlt, rfl, by rw [HX.out]; exact hq.out, fun j hj => HA.out j (by omega) hj⟩, HD.out⟩
      · rw [decide_eq_false hq] at hc
        replace hq := Lib.hid hq
        have e1 : wrap64 ((k : Int) + 1) = ((k + 1 : Nat) : Int) := by have := Hes.out; unfold wrap64; omega
        go_wp2_with fail
        refine hc.mono ?_
        rintro e w' ⟨rfl, hd⟩
        have HD := Lib.hid (chain2 HB.out hd); clear hd
        go_wp2
        go_roundw
        case rel =>
          refine ⟨k + 1, by omega, by rw [e1], fun j h hj => ?_, HD.out⟩
          by_cases e : j = k
          · subst e; rw [HX.out]; exact hq.out
          · exact HA.out j h (by omega)
        case measure => rw [e1]; simp [RowKit.intOf]; omega
    · go_wp2
      go_ret
      refine ⟨_, rfl, .inl ⟨rfl, fun e he => ?_⟩, HB.out⟩
      obtain ⟨j, hj, rfl⟩ := List.mem_iff_getElem.mp he
      exact HA.out j hj (by omega)
end Go.Proofs.Ytkadlahhcldjfaa
