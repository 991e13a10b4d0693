/- SaleNumbers, SaleLeft: plain laws of a register's list, and the law's transactions that came in. No program's walk. -/
import Derived.Test.YtdeeakjkhcdkaaaXSaleW
import Derived.Test.YtdeeakjkhcdkaaaXOpen
namespace Go.Proofs.Ytdeeakjkhcdkaaa
open Go.RowKit Go.Lib Go.Proofs.YtdeeakjkhcdkaaaW.PrintWords Go.Proofs.YtdeeakjkhcdkaaaW.PrintLast Go.Proofs.YtdeeakjkhcdkaaaW.PrintMore
set_option linter.unusedVariables false
set_option linter.unusedSimpArgs false
/-- Numbers rise by one, up to the next one. -/
def NumsOk (next : Nat) (ps : List TP) : Prop := ps.length < next ∧ ∀ i, ∀ h : i < ps.length, ps[i].num = (next : Int) - (ps.length : Int) + (i : Int)
theorem hitT_num (t s : TP) : (hitT t s).num = s.num := by unfold hitT; split <;> rfl
theorem hitR_len (next : Nat) (ps : List TP) (t : TP) : (hitR next ps t).length = ps.length := by
  unfold hitR
  split
  · split
    · rfl
    · rw [List.length_set]
  · rfl
theorem hitR_nums (next : Nat) (ps : List TP) (t : TP) : (hitR next ps t).map TP.num = ps.map TP.num := by
  unfold hitR
  split
  · split
    · rfl
    · rename_i j hj
      obtain ⟨hl, _⟩ := idxR_some hj
      rw [List.map_set, hitT_num]
      apply List.ext_getElem?
      intro i
      rw [List.getElem?_set]
      split
      · rename_i e
        subst e
        rw [List.getElem?_map, List.getElem?_eq_getElem hl, List.getD_eq_getElem?_getD, List.getElem?_eq_getElem hl, List.length_map, if_pos hl]
        rfl
      · rfl
  · rfl
theorem hitR_num (next : Nat) (ps : List TP) (t : TP) (i : Nat) (h : i < (hitR next ps t).length) (h2 : i < ps.length) : (hitR next ps t)[i].num = ps[i].num := by
  have h3 := congrArg (fun l => l[i]?) (hitR_nums next ps t)
  simp only [List.getElem?_map, List.getElem?_eq_getElem h, List.getElem?_eq_getElem h2, Option.map_some, Option.some.injEq] at h3
  exact h3
theorem after_len (keep next : Nat) (ps : List TP) (t : TP) (hk : ps.length ≤ keep) : (afterR keep next ps t).length = if addC next ps t = 0 then min (ps.length + 1) keep else ps.length := by
  unfold afterR
  split
  · unfold addR
    rw [List.length_drop, append_len, hitR_len]
    omega
  · rfl
theorem after_nums (keep next : Nat) (ps : List TP) (t : TP) (hk : ps.length ≤ keep) (h1 : 1 ≤ keep) (h : NumsOk next ps) : NumsOk (nextR next ps t) (afterR keep next ps t) := by
  have hl := after_len keep next ps t hk
  unfold nextR
  by_cases hc : addC next ps t = 0
  · rw [if_pos hc] at hl ⊢
    refine ⟨by have := h.1; omega, fun i hi => ?_⟩
    have hn := h.1
    have e : (afterR keep next ps t)[i] = (hitR next ps t ++ [newT next t])[ps.length + 1 - keep + i]'(by rw [append_len, hitR_len]; omega) := by
      have h1 : afterR keep next ps t = (hitR next ps t ++ [newT next t]).drop (ps.length + 1 - keep) := by unfold afterR addR; rw [if_pos hc]
      have h2 : (afterR keep next ps t)[i]? = ((hitR next ps t ++ [newT next t]).drop (ps.length + 1 - keep))[i]? := by rw [h1]
      rw [List.getElem?_drop, List.getElem?_eq_getElem hi, List.getElem?_eq_getElem (by rw [append_len, hitR_len]; omega)] at h2
      exact Option.some.inj h2
    rw [e, hl]
    by_cases hlast : ps.length + 1 - keep + i < ps.length
    · rw [List.getElem_append_left (by rw [hitR_len]; exact hlast), hitR_num _ _ _ _ _ hlast, h.2 _ hlast]
      omega
    · rw [List.getElem_append_right (by rw [hitR_len]; omega)]
      simp only [List.getElem_singleton]
      show (next : Int) = _
      omega
  · rw [if_neg hc] at hl ⊢
    have e : afterR keep next ps t = ps := by unfold afterR; rw [if_neg hc]
    rw [e]
    exact h
theorem addN_ok {next : Nat} {ps : List TP} {t : TP} (hc : addC next ps t = 0) : addN next ps t = (next : Int) := by unfold addN; rw [if_pos hc]
/-- What a law's transaction may hold. -/
structure TA.In (x : TA) : Prop where
  k : 0 ≤ x.kind ∧ x.kind < 256
  s : -9223372036854775808 ≤ x.shift ∧ x.shift < 9223372036854775808
  r : -9223372036854775808 ≤ x.ref ∧ x.ref < 9223372036854775808
  a : -9223372036854775808 ≤ x.amount ∧ x.amount < 9223372036854775808
  c : -9223372036854775808 ≤ x.acc ∧ x.acc < 9223372036854775808
def TaAt (w : World) (g off : Nat) (x : TA) : Prop := w.cell? ⟨g, off, none⟩ = some (.int .u8 x.kind) ∧ w.cell? ⟨g, off + 1, none⟩ = some (.int .i64 x.shift) ∧ w.cell? ⟨g, off + 2, none⟩ = some (.int .i64 x.ref) ∧ w.cell? ⟨g, off + 3, none⟩ = some (.int .i64 x.amount) ∧ w.cell? ⟨g, off + 4, none⟩ = some (.int .i64 x.acc)
theorem TaAt.below {w w' : World} {g off : Nat} {x : TA} (h : TaAt w g off x) (hb : Below w.heap.size w w') : TaAt w' g off x := ⟨pw_cell_below hb h.1, pw_cell_below hb h.2.1, pw_cell_below hb h.2.2.1, pw_cell_below hb h.2.2.2.1, pw_cell_below hb h.2.2.2.2⟩
def TasAt (w : World) (a : Option Addr) (xs : List TA) : Prop := ∀ i, ∀ h : i < xs.length, xs[i].In ∧ ∃ g off, a = some ⟨g, off, none⟩ ∧ TaAt w g (off + i * 5) xs[i]
theorem list_ofT {α : Type} (P : Nat → α → Prop) (n : Nat) (h : ∀ i, i < n → ∃ x, P i x) : ∃ l : List α, l.length = n ∧ ∀ i, ∀ hi : i < l.length, P i l[i] := by
  induction n with
  | zero => exact ⟨[], rfl, fun i hi => absurd hi (Nat.not_lt_zero _)⟩
  | succ n ih =>
    obtain ⟨l, h1, h2⟩ := ih (fun i hi => h i (Nat.lt_succ_of_lt hi))
    obtain ⟨x, hx⟩ := h n (Nat.lt_succ_self n)
    refine ⟨l ++ [x], by simp [h1], fun i hi => ?_⟩
    by_cases hl : i < l.length
    · rw [List.getElem_append_left hl]; exact h2 i hl
    · have : i = n := by simp at hi; omega
      subst this
      simp [List.getElem_append_right, h1, hx]
theorem wf_i64T {n : Int} (h : (Lit.int .i64 n).wf = true) : -9223372036854775808 ≤ n ∧ n < 9223372036854775808 := by simp [Lit.wf, IntKind.min, IntKind.max, IntKind.signed, IntKind.bits] at h; omega
theorem wf_u8T {n : Int} (h : (Lit.int .u8 n).wf = true) : 0 ≤ n ∧ n < 256 := by simp [Lit.wf, IntKind.min, IntKind.max, IntKind.signed, IntKind.bits] at h; omega
theorem tas_of {w : World} {a : Option Addr} {len : Nat} (h : RowIn w [.int .u8, .int .i64, .int .i64, .int .i64, .int .i64] a len) : ∃ xs : List TA, xs.length = len ∧ TasAt w a xs := by
  obtain ⟨es, h1, h2⟩ := list_ofT (fun i (x : TA) => x.In ∧ ∃ g off, a = some ⟨g, off, none⟩ ∧ TaAt w g (off + i * 5) x) len (fun i hi => by
    obtain ⟨g, off, vs, rfl, ho, hc⟩ := h i hi
    obtain ⟨v0, vs1, rfl, ⟨k, rfl, hk⟩, ho1⟩ := Kd.oks_cons ho
    obtain ⟨v1, vs2, rfl, ⟨s, rfl, hs⟩, ho2⟩ := Kd.oks_cons ho1
    obtain ⟨v2, vs3, rfl, ⟨r, rfl, hr⟩, ho3⟩ := Kd.oks_cons ho2
    obtain ⟨v3, vs4, rfl, ⟨m, rfl, hm⟩, ho4⟩ := Kd.oks_cons ho3
    obtain ⟨v4, vs5, rfl, ⟨c, rfl, hcc⟩, ho5⟩ := Kd.oks_cons ho4
    exact ⟨⟨k, s, r, m, c⟩, ⟨wf_u8T hk, wf_i64T hs, wf_i64T hr, wf_i64T hm, wf_i64T hcc⟩, g, off, rfl, hc 0 _ rfl, hc 1 _ rfl, hc 2 _ rfl, hc 3 _ rfl, hc 4 _ rfl⟩)
  exact ⟨es, h1, h2⟩
theorem lsA_len (x : TA) : (lsA x).length ≤ 1 := by unfold lsA; split <;> simp
end Go.Proofs.Ytdeeakjkhcdkaaa
