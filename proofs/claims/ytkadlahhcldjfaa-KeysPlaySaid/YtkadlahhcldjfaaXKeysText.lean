/- keys: the document's Text of entries that may be is what Write writes. No conditions. -/
import Derived.Test.YtkadlahhcldjfaaXKeysWrite
import Derived.Test.YtkadlahhcldjfaaXKeysRefB
import Derived.Test.YtkadlahhcldjfaaXRefWrite
import Derived.Test.YtkadlahhcldjfaaPx7
namespace Go.Proofs.Ytkadlahhcldjfaa
open Go.RowKit Go.Lib Go.Proofs.Ytkadlahhcldjfaa.P Go.Proofs.Ytkadlahhcldjfaa.BeS Go.Proofs.YtkadlahhcldjfaaW.PrintWords Go.Proofs.YtkadlahhcldjfaaW.PrintLast Go.Proofs.YtkadlahhcldjfaaW.PrintMore
set_option linter.unusedVariables false
set_option linter.unusedSimpArgs false
def flE (e : KE) : List Fl := [.num e.key.toNat 8, .txt e.body, .num e.num.toNat 4]
def flK (es : List KE) : List Fl := .num es.length 1 :: es.flatMap flE
theorem flE_len (es : List KE) : (es.flatMap flE).length = 3 * es.length := by
  induction es with
  | nil => rfl
  | cons e es ih => rw [List.flatMap_cons, List.length_append, ih, List.length_cons]; show 3 + _ = _; omega
theorem flK_bytes (es : List KE) : flBytes (flK es) = textK es := by
  unfold flBytes flK textK
  rw [List.flatMap_cons, show (Fl.num es.length 1).bytes = putL es.length 1 from rfl]
  congr 1
  induction es with
  | nil => rfl
  | cons e es ih =>
    rw [List.flatMap_cons, List.flatMap_append, ih, List.flatMap_cons]
    congr 1
theorem flE_facts {e : KE} (h : GoodK e) : (∀ f ∈ flE e, f.ok = true ∧ f.In) ∧ (flE e).map Fl.s = [(⟨0, 8, e.key, ⟨#[]⟩⟩ : S66), ⟨2, 0, 0, e.body⟩, ⟨0, 4, IntKind.u64.wrap e.num, ⟨#[]⟩⟩] := by
  obtain ⟨q, m, hq, hm, hq2, hm2, hbs, hf8, hf4, _⟩ := h.facts
  obtain ⟨xk, xb, xn⟩ := e
  simp only at hq hm hbs
  subst hq hm
  refine ⟨?_, ?_⟩
  · intro f hf
    simp only [flE, List.mem_cons, List.not_mem_nil, or_false, Int.toNat_natCast] at hf
    obtain rfl | rfl | rfl := hf
    · exact ⟨hf8, hq2, by decide⟩
    · exact ⟨decide_eq_true hbs, show xb.size ≤ 1000 by omega⟩
    · exact ⟨hf4, by omega, by decide⟩
  · simp only [flE, List.map_cons, List.map_nil, Int.toNat_natCast]
    rw [u64_wrap_nat m (by omega)]
    rfl
theorem flK_facts {es : List KE} (hes : es.length ≤ 64) (h : ∀ e ∈ es, GoodK e) : (∀ f ∈ flK es, f.ok = true ∧ f.In) := by
  intro f hf
  unfold flK at hf
  rw [List.mem_cons] at hf
  rcases hf with rfl | hf
  · refine ⟨?_, by omega, by decide⟩
    show fits es.length 1 = true
    unfold fits; rw [decide_eq_true_iff]
    exact ⟨by decide, by decide, by simpa using (show es.length < 256 by omega)⟩
  · obtain ⟨e, he, hf⟩ := List.mem_flatMap.mp hf
    exact (flE_facts (h e he)).1 f hf
theorem rtext_l0 (es : List KE) (hes : es.length ≤ 64) (hg : ∀ e ∈ es, GoodK e) (d : Nat) : ∀ (k i : Nat), i + d = es.length → d + 600 < k →
    tillrollref24_Text.l0 k (es.map sE) ((Fl.num es.length 1 :: (es.take i).flatMap flE).map Fl.s) (i : Int) = some (str (textK es)) := by
  induction d with
  | zero =>
    intro k i h hk
    obtain ⟨k, rfl⟩ : ∃ q, k = q + 1 := ⟨k - 1, by omega⟩
    simp only [tillrollref24_Text.l0]
    have hfl := flK_facts hes hg
    have hlen : (flK es).length ≤ 200 := by unfold flK; rw [List.length_cons, flE_len]; omega
    have := rwrite_f (flK es) (fun f hf => (hfl f hf).2) (by omega) k (by omega)
    rw [if_neg (by rw [List.length_map]; omega), List.take_of_length_le (by omega)]
    rw [show (Fl.num es.length 1 :: es.flatMap flE) = flK es from rfl, this, Option.bind_some, if_pos (by unfold flOk; rw [List.all_eq_true]; exact fun f hf => (hfl f hf).1), flK_bytes]
  | succ d ih =>
    intro k i h hk
    obtain ⟨k, rfl⟩ : ∃ q, k = q + 1 := ⟨k - 1, by omega⟩
    simp only [tillrollref24_Text.l0]
    have hi : i < es.length := by omega
    have hn := ih k (i + 1) (by omega) (by omega)
    have hw : wrap64 ((i : Int) + 1) = ((i + 1 : Nat) : Int) := by unfold wrap64; omega
    have htk : es.take (i + 1) = es.take i ++ [es[i]] := List.take_succ_eq_append_getElem hi
    have hfe := (flE_facts (hg es[i] (List.getElem_mem hi))).2
    have hln : ((Fl.num es.length 1 :: (es.take i).flatMap flE).map Fl.s).length ≤ 1000 := by
      rw [List.length_map, List.length_cons, flE_len, List.length_take]; omega
    rw [htk, List.flatMap_append, List.flatMap_singleton, ← List.cons_append, List.map_append, hfe] at hn
    rw [if_pos (by rw [List.length_map]; omega), if_pos (by omega), rd_sE es i hi, hw]
    generalize (Fl.num es.length 1 :: (es.take i).flatMap flE).map Fl.s = L at hn hln ⊢
    rw [if_pos (by omega), Option.bind_some, if_pos (by rw [List.length_append, List.length_singleton]; omega), Option.bind_some, if_pos (by rw [List.length_append, List.length_append, List.length_singleton, List.length_singleton]; omega)]
    rw [List.append_assoc, List.append_assoc]
    exact hn
theorem rtext_f (es : List KE) (hes : es.length ≤ 64) (hg : ∀ e ∈ es, GoodK e) : tillrollref24_Text.f 1000 (es.map sE) = some (str (textK es)) := by
  have := rtext_l0 es hes hg es.length 1000 0 (Nat.zero_add _) (by omega)
  unfold tillrollref24_Text.f
  rw [List.length_map, u64_wrap_nat es.length (by omega)]
  exact this
theorem rtext_ok (es : List KE) (hes : es.length ≤ 64) (hg : ∀ e ∈ es, GoodK e) (v : Value) (w : World) (h : RowS encK w v es) :
    Calls Try.prog 17 #[v] w fun e w' => e = .returned (.string (str (textK es))) ∧ Below w.heap.size w w' := by
  obtain ⟨a, c, rfl, _⟩ := h.len
  obtain ⟨h1, h2, _⟩ := row_C h
  have hc := tillrollref24_Text.calls 1000 a c (es.map sE) _ w (by rw [List.length_map]; exact h1) (by rw [List.length_map]; exact h2) (rtext_f es hes hg)
  rw [List.length_map] at hc
  exact hc
end Go.Proofs.Ytkadlahhcldjfaa
