/- A slice of flat structs that came in, opened: what each cell holds. No program in sight. -/
import Derived.Deep.Fields
import Derived.ChangeArms
namespace Go.Proofs.Ytepgdjkmobngcaa
open Go.ChangeShapes Go.WideShapes Go.Deep
set_option linter.unusedVariables false
/-- The kind of a field. -/
inductive Kd where
  | int (k : IntKind)
  | str
  | bool
def Kd.ok : Kd → Value → Prop
  | .int k, v => ∃ n, v = .int k n ∧ (Lit.int k n).wf = true
  | .str, v => ∃ s : ByteArray, v = .string s ∧ s.size ≤ maxLen
  | .bool, v => ∃ b, v = .bool b
def Kd.ty : Kd → TypeDesc
  | .int k => .int k
  | .str => .string
  | .bool => .bool
def Kd.oks : List Kd → List Value → Prop
  | [], [] => True
  | k :: ks, v :: vs => k.ok v ∧ Kd.oks ks vs
  | _, _ => False
theorem Kd.oks_of : ∀ (ks : List Kd) (vs : List Value), ks.length = vs.length → (∀ (j : Nat) (k : Kd) (v : Value), ks[j]? = some k → vs[j]? = some v → k.ok v) → Kd.oks ks vs
  | [], [], _, _ => trivial
  | k :: ks, v :: vs, hl, h => ⟨h 0 k v rfl rfl, Kd.oks_of ks vs (by simpa using hl) (fun j k' v' h1 h2 => h (j + 1) k' v' (by simpa using h1) (by simpa using h2))⟩
  | [], v :: vs, hl, _ => by simp at hl
  | k :: ks, [], hl, _ => by simp at hl
/-- The row of structs at a, as far as its length. -/
def RowIn (w : World) (ks : List Kd) (a : Option Addr) (len : Nat) : Prop :=
  ∀ i, i < len → ∃ g off vs, a = some ⟨g, off, none⟩ ∧ Kd.oks ks vs ∧ ∀ j u, vs[j]? = some u → w.cell? ⟨g, off + i * ks.length + j, none⟩ = some u

theorem Kd.trod {H : Type} {enc : TypeId × Value → H} {P : Program} {w : World} {base : Nat} {spare : Nat → Bool} {held : Bool} {k : Kd} {t : TypeId} {fuel : Nat} {v : Value} {x : DataW H × List MemPlace}
    (ht : P.underlying t = some k.ty) (h : DataW.trod enc P w base spare held fuel t [v] = some x) : k.ok v := by
  cases k with
  | int k =>
    obtain ⟨n, h1, _, h2⟩ := DataW.trod_int ht h
    simp only [List.cons.injEq, and_true] at h1
    exact ⟨n, h1, h2⟩
  | str =>
    obtain ⟨s, h1, _, h2⟩ := DataW.trod_string ht h
    simp only [List.cons.injEq, and_true] at h1
    exact ⟨s, h1, h2⟩
  | bool =>
    obtain ⟨b, h1, _⟩ := DataW.trod_bool ht h
    simp only [List.cons.injEq, and_true] at h1
    exact ⟨b, h1⟩

theorem open_structs {H : Type} {enc : TypeId × Value → H} {P : Program} {w : World} {base : Nat} {spare : Nat → Bool} {held : Bool} {t e : TypeId} {fs : Array Field} {ks : List Kd} {fuel : Nat} {a : Option Addr} {len cap : Nat} {x : DataW H × List MemPlace}
    (ht : P.underlying t = some (.slice e)) (he : P.underlying e = some (.struct fs)) (hone : oneCellFields P fs = true) (hC : P.cellsOf e = fs.size) (hpos : 0 < fs.size)
    (hks : fs.toList.map (fun f => P.underlying f.type) = ks.map (fun k => some k.ty))
    (h : DataW.trod enc P w base spare held fuel t [.slice a len cap] = some x) : (len ≤ cap ∧ cap ≤ maxLen) ∧ RowIn w ks a len := by
  have hkl : ks.length = fs.size := by
    have := congrArg List.length hks
    rw [List.length_map, List.length_map, Array.length_toList] at this
    exact this.symm
  rcases open_slice ht h with ⟨h0, _⟩ | ⟨a', len', cap', m, n, D, Pl, h1, hb, hl, hm, hmm, _, hx⟩
  · simp only [List.cons.injEq, Value.slice.injEq, and_true] at h0
    obtain ⟨rfl, rfl, rfl⟩ := h0
    exact ⟨⟨Nat.le_refl _, Nat.zero_le _⟩, fun i hi => absurd hi (Nat.not_lt_zero _)⟩
  · simp only [List.cons.injEq, Value.slice.injEq, and_true] at h1
    obtain ⟨rfl, rfl, rfl⟩ := h1
    refine ⟨⟨hl, hm⟩, fun i hi => ?_⟩
    have hlm : len ≤ m := by rw [hmm]; split <;> omega
    obtain ⟨cs', h2, h3⟩ := hx i (Nat.lt_of_lt_of_le hi hlm)
    rw [hC] at h2
    obtain ⟨_, hlen, hcell⟩ := World.cells?_some h2
    obtain ⟨xs, k, _, _, _, hxl, hf⟩ := DataW.trod_struct he h3
    have h0 := hcell 0 hpos
    rw [List.getElem?_eq_getElem (by omega)] at h0
    obtain ⟨b, o, spot⟩ := a'
    obtain rfl : spot = none := by
      have := World.cell?_spot h0
      by_cases hz : i * fs.size = 0
      · simpa [Addr.add, hz] using this
      · have hi0 : 0 < i := Nat.pos_of_ne_zero (fun e => hz (by rw [e, Nat.zero_mul]))
        obtain ⟨cs0, g2, _⟩ := hx 0 (by omega)
        rw [hC] at g2
        obtain ⟨_, gl, gc⟩ := World.cells?_some g2
        have g0 := gc 0 hpos
        rw [List.getElem?_eq_getElem (by omega)] at g0
        have := World.cell?_spot g0
        simpa [Addr.add] using this
    refine ⟨b, o, cs', rfl, Kd.oks_of ks cs' (by omega) (fun j k' v hk hv => ?_), fun j u hu => ?_⟩
    · have hj : j < fs.size := by rw [← hkl]; exact (List.getElem?_eq_some_iff.1 hk).1
      have hfj : fs[j]? = some fs[j] := Array.getElem?_eq_getElem hj
      obtain ⟨ho, hc1⟩ := hone_of hone j _ hfj
      have g := hf j _ hfj
      rw [ho, hc1, take1_drop cs' j undef (by omega), List.getElem?_eq_getElem (by omega)] at g
      have hv2 : cs'.getD j undef = v := by rw [List.getD_eq_getElem?_getD, hv]; rfl
      rw [hv2] at g
      refine Kd.trod ?_ g
      have e1 := congrArg (fun l => l[j]?) hks
      simp only [List.getElem?_map] at e1
      rw [hk, Array.getElem?_toList, hfj] at e1
      simpa using e1
    · have hj : j < fs.size := by have := (List.getElem?_eq_some_iff.1 hu).1; omega
      have := hcell j hj
      rw [hu] at this
      rw [hkl]
      have e2 : (Addr.add ⟨b, o, none⟩ (i * fs.size)).add j = ⟨b, o + i * fs.size + j, none⟩ := by
        unfold Addr.add
        split <;> split <;> simp_all
      rw [← e2]
      exact this

theorem Kd.oks_cons {k : Kd} {ks : List Kd} {vs : List Value} (h : Kd.oks (k :: ks) vs) : ∃ v vs', vs = v :: vs' ∧ k.ok v ∧ Kd.oks ks vs' := by
  cases vs with
  | nil => exact h.elim
  | cons v vs => exact ⟨v, vs, rfl, h.1, h.2⟩
theorem Kd.oks_nil {vs : List Value} (h : Kd.oks [] vs) : vs = [] := by
  cases vs with
  | nil => rfl
  | cons v vs => exact h.elim
theorem wf_i64 {n : Int} (h : (Lit.int .i64 n).wf = true) : -9223372036854775808 ≤ n ∧ n < 9223372036854775808 := by
  simp [Lit.wf, IntKind.min, IntKind.max, IntKind.signed, IntKind.bits] at h; omega
theorem wf_u64 {n : Int} (h : (Lit.int .u64 n).wf = true) : ∃ m : Nat, n = (m : Int) ∧ m < 18446744073709551616 := by
  simp [Lit.wf, IntKind.min, IntKind.max, IntKind.signed, IntKind.bits] at h
  exact ⟨n.toNat, by omega, by omega⟩
theorem wf_u32 {n : Int} (h : (Lit.int .u32 n).wf = true) : ∃ m : Nat, n = (m : Int) ∧ m < 4294967296 := by
  simp [Lit.wf, IntKind.min, IntKind.max, IntKind.signed, IntKind.bits] at h
  exact ⟨n.toNat, by omega, by omega⟩
theorem wf_u16 {n : Int} (h : (Lit.int .u16 n).wf = true) : ∃ m : Nat, n = (m : Int) ∧ m < 65536 := by
  simp [Lit.wf, IntKind.min, IntKind.max, IntKind.signed, IntKind.bits] at h
  exact ⟨n.toNat, by omega, by omega⟩
theorem wf_u8 {n : Int} (h : (Lit.int .u8 n).wf = true) : ∃ m : Nat, n = (m : Int) ∧ m < 256 := by
  simp [Lit.wf, IntKind.min, IntKind.max, IntKind.signed, IntKind.bits] at h
  exact ⟨n.toNat, by omega, by omega⟩
/-- Out of 'there is one for each place', a list. -/
theorem list_of {α : Type} (P : Nat → α → Prop) : ∀ n, (∀ i, i < n → ∃ x, P i x) → ∃ l : List α, l.length = n ∧ ∀ i, ∀ h : i < l.length, P i l[i]
  | 0, _ => ⟨[], rfl, fun i h => absurd h (Nat.not_lt_zero _)⟩
  | n + 1, h => by
    obtain ⟨l, h1, h2⟩ := list_of P n (fun i hi => h i (by omega))
    obtain ⟨x, hx⟩ := h n (by omega)
    refine ⟨l ++ [x], by simp [h1], fun i hi => ?_⟩
    by_cases hin : i < l.length
    · rw [List.getElem_append_left hin]
      exact h2 i hin
    · have : i = l.length := by simp at hi; omega
      subst this
      simp only [List.getElem_concat_length]
      rw [h1]
      exact hx
end Go.Proofs.Ytepgdjkmobngcaa
