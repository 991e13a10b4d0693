/- Texts of one chapter, joined: XArr, XStr. Each says what it proves, and its conditions. -/
import Derived.ChangeSame
import Derived.Test.YtepgdjkmobngcaaXOpen
import Derived.Test.YtepgdjkmobngcaaWMore
/-! An array of one-cell elements, as the reader reads it, taken apart. No program in sight. -/
namespace Go.Proofs.Ytepgdjkmobngcaa
open Go.ChangeShapes
theorem mapM_some_at {α β : Type} {f : α → Option β} : ∀ (l : List α) {r : List β}, l.mapM f = some r → ∀ x ∈ l, ∃ y, f x = some y := by
  intro l
  induction l with
  | nil => intro r _ x hx; cases hx
  | cons a l ih =>
    intro r h x hx
    rw [List.mapM_cons] at h
    cases ha : f a with
    | none => rw [ha] at h; cases h
    | some y =>
      rw [ha] at h
      cases hl : l.mapM f with
      | none => rw [hl] at h; cases h
      | some r' =>
        rcases List.mem_cons.mp hx with rfl | hx
        · exact ⟨y, ha⟩
        · exact ih hl x hx
theorem trod_arrayN {H : Type} {enc : TypeId × Value → H} {P : Program} {w : World} {base : Nat} {spare : Nat → Bool} {held : Bool} {t e : TypeId} {fuel n : Nat} {cs : List Value} {x : DataW H × List MemPlace}
    (ht : P.underlying t = some (.array n e)) (hce : P.cellsOf e = 1) (hl : cs.length = n)
    (h : DataW.trod enc P w base spare held fuel t cs = some x) (i : Nat) (hi : i < n) : ∃ m y, DataW.trod enc P w base spare held m e [cs.getD i undef] = some y := by
  cases fuel with
  | zero => simp [DataW.trod] at h
  | succ m =>
    unfold DataW.trod at h
    rw [ht] at h
    simp only [hce, Nat.mul_one] at h
    split at h
    · obtain ⟨r, hr, _⟩ := Option.map_eq_some_iff.mp h
      obtain ⟨y, hy⟩ := mapM_some_at _ hr i (List.mem_range.mpr hi)
      refine ⟨m, y, ?_⟩
      have e1 : (cs.drop i).take 1 = [cs.getD i undef] := by
        rw [List.drop_eq_getElem_cons (by omega), List.take_succ_cons, List.take_zero, List.getD_eq_getElem?_getD, List.getElem?_eq_getElem (by omega)]
        rfl
      rw [e1] at hy
      exact hy
    · cases h
end Go.Proofs.Ytepgdjkmobngcaa

/-! A flat struct as a law's parameter, opened. No conditions. -/
namespace Go.Proofs.Ytepgdjkmobngcaa
open Go.ChangeShapes Go.WideShapes Go.Deep Go.RowKit
set_option linter.unusedVariables false
theorem open_flat {H : Type} {enc : TypeId × Value → H} {P : Program} {w : World} {base : Nat} {spare : Nat → Bool} {held : Bool} {t : TypeId} {fs : Array Field} {ks : List Kd} {fuel : Nat} {cs : List Value} {x : DataW H × List MemPlace}
    (he : P.underlying t = some (.struct fs)) (hone : oneCellFields P fs = true) (hC : P.cellsOf t = fs.size)
    (hks : fs.toList.map (fun f => P.underlying f.type) = ks.map (fun k => some k.ty))
    (h : DataW.trod enc P w base spare held fuel t cs = some x) : Kd.oks ks cs := by
  have hkl : ks.length = fs.size := by
    have := congrArg List.length hks
    rw [List.length_map, List.length_map, Array.length_toList] at this
    exact this.symm
  obtain ⟨xs, k, _, _, hcl, hxl, hf⟩ := DataW.trod_struct he h
  rw [hC] at hcl
  refine Kd.oks_of ks cs (by omega) (fun j k' v hk hv => ?_)
  have hj : j < fs.size := by rw [← hkl]; exact (List.getElem?_eq_some_iff.1 hk).1
  have hfj : fs[j]? = some fs[j] := Array.getElem?_eq_getElem hj
  obtain ⟨ho, hc1⟩ := hone_of hone j _ hfj
  have g := hf j _ hfj
  rw [ho, hc1, take1_drop cs j undef (by omega), List.getElem?_eq_getElem (by omega)] at g
  have hv2 : cs.getD j undef = v := by rw [List.getD_eq_getElem?_getD, hv]; rfl
  rw [hv2] at g
  refine Kd.trod ?_ g
  have e1 := congrArg (fun l => l[j]?) hks
  simp only [List.getElem?_map] at e1
  rw [hk, Array.getElem?_toList, hfj] at e1
  simpa using e1
/-- The j-th field of a struct whose fields have one cell each. -/
theorem field_of {H : Type} {enc : TypeId × Value → H} {P : Program} {w : World} {base : Nat} {spare : Nat → Bool} {held : Bool} {t : TypeId} {fs : Array Field} {fuel : Nat} {cs : List Value} {x : DataW H × List MemPlace}
    (he : P.underlying t = some (.struct fs)) (hone : oneCellFields P fs = true) (hC : P.cellsOf t = fs.size)
    (h : DataW.trod enc P w base spare held fuel t cs = some x) (j : Nat) (f : Field) (hfj : fs[j]? = some f) : ∃ fuel' y, DataW.trod enc P w base spare held fuel' f.type [cs.getD j undef] = some y := by
  obtain ⟨xs, k, _, _, hcl, hxl, hf⟩ := DataW.trod_struct he h
  rw [hC] at hcl
  have hj : j < fs.size := (Array.getElem?_eq_some_iff.1 hfj).1
  obtain ⟨ho, hc1⟩ := hone_of hone j _ hfj
  have g := hf j _ hfj
  rw [ho, hc1, take1_drop cs j undef (by omega), List.getElem?_eq_getElem (by omega)] at g
  exact ⟨_, _, g⟩
theorem open_structsV {H : Type} {enc : TypeId × Value → H} {P : Program} {w : World} {base : Nat} {spare : Nat → Bool} {held : Bool} {t e : TypeId} {fs : Array Field} {ks : List Kd} {fuel : Nat} {v : Value} {x : DataW H × List MemPlace}
    (ht : P.underlying t = some (.slice e)) (he : P.underlying e = some (.struct fs)) (hone : oneCellFields P fs = true) (hC : P.cellsOf e = fs.size) (hpos : 0 < fs.size)
    (hks : fs.toList.map (fun f => P.underlying f.type) = ks.map (fun k => some k.ty))
    (h : DataW.trod enc P w base spare held fuel t [v] = some x) : ∃ a len cap, v = .slice a len cap ∧ (len ≤ cap ∧ cap ≤ maxLen) ∧ RowIn w ks a len := by
  have hv : ∃ a len cap, v = .slice a len cap := by
    rcases open_slice ht h with ⟨h0, _⟩ | ⟨a', len', cap', m, n, D, Pl, h1, _⟩
    · simp only [List.cons.injEq, and_true] at h0
      exact ⟨_, _, _, h0⟩
    · simp only [List.cons.injEq, and_true] at h1
      exact ⟨_, _, _, h1⟩
  obtain ⟨a, len, cap, rfl⟩ := hv
  exact ⟨a, len, cap, rfl, open_structs ht he hone hC hpos hks h⟩
/-- The j-th field of a struct, however many cells it has. -/
theorem field_at {H : Type} {enc : TypeId × Value → H} {P : Program} {w : World} {base : Nat} {spare : Nat → Bool} {held : Bool} {t : TypeId} {fs : Array Field} {fuel : Nat} {cs : List Value} {x : DataW H × List MemPlace}
    (he : P.underlying t = some (.struct fs)) (h : DataW.trod enc P w base spare held fuel t cs = some x) (j : Nat) (f : Field) (hfj : fs[j]? = some f) : ∃ fuel' y, DataW.trod enc P w base spare held fuel' f.type ((cs.drop f.offset).take (P.cellsOf f.type)) = some y := by
  obtain ⟨xs, k, _, _, hcl, hxl, hf⟩ := DataW.trod_struct he h
  have hj : j < fs.size := (Array.getElem?_eq_some_iff.1 hfj).1
  exact ⟨_, _, (hf j _ hfj).trans (List.getElem?_eq_getElem (by omega))⟩
end Go.Proofs.Ytepgdjkmobngcaa
