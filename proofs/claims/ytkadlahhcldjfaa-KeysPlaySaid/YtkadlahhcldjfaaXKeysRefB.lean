/- keys: rows as the printed functions ask for them, and back. No conditions. -/
import Derived.Test.YtkadlahhcldjfaaXKeysRef
import Derived.Test.YtkadlahhcldjfaaXKeysSame
namespace Go.Proofs.Ytkadlahhcldjfaa
open Go.RowKit Go.Lib Go.Proofs.Ytkadlahhcldjfaa.P Go.Proofs.Ytkadlahhcldjfaa.BeS Go.Proofs.YtkadlahhcldjfaaW.PrintWords Go.Proofs.YtkadlahhcldjfaaW.PrintLast Go.Proofs.YtkadlahhcldjfaaW.PrintMore
set_option linter.unusedVariables false
set_option linter.unusedSimpArgs false
theorem row_C {w : World} {a : Option Addr} {c : Nat} {es : List KE} (h : RowS encK w (.slice a es.length c) es) : Kd.C k45 w a es.length (es.map sE) ∧ es.length ≤ c ∧ c ≤ maxLen := by
  rcases h with ⟨h, he⟩ | ⟨g, off, cap, h1, h2, h3, h4, h5⟩
  · simp only [Value.slice.injEq] at h
    obtain ⟨rfl, _, rfl⟩ := h
    subst he
    exact ⟨Kd.C_nil _ _, Nat.le_refl _, Nat.zero_le _⟩
  · simp only [Value.slice.injEq] at h1
    obtain ⟨rfl, _, rfl⟩ := h1
    refine ⟨⟨List.length_map _, by unfold maxLen at h3; omega, fun hn => ⟨⟨g, off, none⟩, rfl, fun j p hj => ?_⟩⟩, h2, h3⟩
    rw [List.getElem?_map] at hj
    obtain ⟨q, hq, rfl⟩ := Option.map_eq_some_iff.1 hj
    obtain ⟨hj', rfl⟩ := List.getElem?_eq_some_iff.1 hq
    obtain ⟨k0, k1, k2⟩ := row_cells h5 j hj'
    refine ⟨[.int .u64 es[j].key, .string es[j].body, .int .i64 es[j].num], rfl, k45_mk w (sE es[j]), fun i u hu => ?_⟩
    rw [Addr.add_lit]
    show w.cell? ⟨g, off + (j * 3 + i), none⟩ = some u
    match i, hu with
    | 0, hu => simp only [List.getElem?_cons_zero, Option.some.injEq] at hu; rw [← hu]; exact k0
    | 1, hu => simp only [List.getElem?_cons_succ, List.getElem?_cons_zero, Option.some.injEq] at hu; rw [← hu, ← Nat.add_assoc]; exact k1
    | 2, hu => simp only [List.getElem?_cons_succ, List.getElem?_cons_zero, Option.some.injEq] at hu; rw [← hu, ← Nat.add_assoc]; exact k2
    | i + 3, hu => simp at hu
theorem reps_flat3 (ps : List S45) {R : S45 → List Value → Prop} (hR : ∀ p c, R p c → c = encK (uE p)) : ∀ cs : List Value, Reps R 3 ps cs → cs = (ps.map uE).flatMap encK := by
  induction ps with
  | nil =>
    intro cs h
    have := h.1
    simp at this
    rw [this]; rfl
  | cons p ps ih =>
    intro cs h
    have h0 := hR _ _ (h.2 0 p rfl)
    rw [Nat.zero_mul, List.drop_zero] at h0
    have h1 : Reps R 3 ps (cs.drop 3) := ⟨by have := h.1; rw [List.length_cons] at this; rw [List.length_drop]; omega, fun j q hq => by
      have := h.2 (j + 1) q hq
      rw [List.drop_drop, show 3 + j * 3 = (j + 1) * 3 by omega]
      exact this⟩
    have h2 := ih _ h1
    rw [List.map_cons, List.flatMap_cons, ← h2, ← h0, List.take_append_drop]
theorem R_row {w : World} {base : Nat} {ok : Nat → Prop} {v : Value} {es : List KE} (h : Kd.R k45 45 w base ok v (es.map sE)) : RowS encK w v es := by
  obtain ⟨_, inner, ho, hr⟩ := h
  have he := reps_flat3 (es.map sE) (fun p c hp => k45_openM hp) inner hr
  rw [List.map_map, show uE ∘ sE = id from rfl, List.map_id] at he
  rw [List.length_map] at ho
  rw [he] at ho
  exact RowS.of_owns ho
theorem rmatch_ok (es : List KE) (hes : es.length ≤ 100) (key : Int) (body : ByteArray) (v : Value) (w : World) (h : RowS encK w v es) :
    Calls Try.prog 14 #[v, .int .u64 key, .string body] w fun e w' => e = .returned (.tuple #[.int .i64 (matchK es key body).1, .int .i64 (matchK es key body).2]) ∧ Below w.heap.size w w' := by
  obtain ⟨a, c, rfl, _⟩ := h.len
  obtain ⟨h1, h2, _⟩ := row_C h
  have hl : es.length = (es.map sE).length := (List.length_map _).symm
  have hc := tillrollref24_Match.calls 300 a c (es.map sE) key body _ _ w (by rw [List.length_map]; exact h1) (by rw [List.length_map]; exact h2) (rmatch_f es hes key body 300 (by decide))
  rw [List.length_map] at hc
  refine hc.mono ?_
  rintro e w' ⟨rfl, hb⟩
  exact ⟨rfl, by first | exact hb | exact hb.below⟩
/-- The document's list, its row the caller's own. -/
def MAt (w0 w : World) (v : Value) (es : List KE) : Prop := Kd.R k45 45 w w0.heap.size (fun k => some k = v.ownBlock) v (es.map sE)
theorem MAt.nil (w0 w : World) : MAt w0 w (.slice none 0 0) [] := Kd.R_nil _ _ _ _ _
theorem MAt.row {w0 w : World} {v : Value} {es : List KE} (h : MAt w0 w v es) : RowS encK w v es := R_row h
theorem MAt.below {w0 w w' : World} {v : Value} {es : List KE} (h : MAt w0 w v es) (hb : Below w.heap.size w w') : MAt w0 w' v es := Kd.R_below h hb
theorem rput_ok (lim : Nat) (es : List KE) (hes : es.length ≤ 100) (e : KE) (v : Value) (w0 w : World) (hB : Below w0.heap.size w0 w) (h : MAt w0 w v es) :
    Calls Try.prog 12 #[v, .int .i64 (lim : Int), .agg #[.int .u64 e.key, .string e.body, .int .i64 e.num]] w fun x w' => ∃ v', x = .returned (.tuple #[v', .int .i64 (putK lim es e).2]) ∧ MAt w0 w' v' (putK lim es e).1 ∧ (∀ k, v'.ownBlock = some k → v.ownBlock = some k ∨ w.heap.size ≤ k) ∧ Below w0.heap.size w0 w' ∧ Kept w w' (fun k => some k = v.ownBlock) := by
  refine (tillrollref24_Put.calls 400 (fun k => some k = v.ownBlock) v (es.map sE) (lim : Int) e.key e.body e.num _ _ w0 w hB h (rput_f lim es hes e 400 (by decide))).mono ?_
  rintro x w' ⟨v', rfl, hr, hb, hk⟩
  refine ⟨v', rfl, Kd.R_tight rfl hr, fun k hv => ?_, hb, hk⟩
  exact (hr.1 k hv).imp (fun h => h.symm) id
end Go.Proofs.Ytkadlahhcldjfaa
