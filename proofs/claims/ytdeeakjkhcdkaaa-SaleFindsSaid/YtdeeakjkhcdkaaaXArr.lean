/- An array of one-cell elements, as the reader reads it, taken apart. No program in sight. -/
import Derived.ChangeSame
namespace Go.Proofs.Ytdeeakjkhcdkaaa
open Go.ChangeShapes
theorem mapM_some_at {α β : Type} {f : α → Option β} : ∀ (l : List α) {r : List β}, l.mapM f = some r → ∀ x ∈ l, ∃ y, f x = some y := by
  intro l
  induction l with
  | nil => intro r _ x hx; cases hx
  | cons a l ih =>
    intro r h x hx
    rw [List.mapM_cons] at h
    cases ha : f a with
    | none => rw [ha] at h; cases h
    | some y =>
      rw [ha] at h
      cases hl : l.mapM f with
      | none => rw [hl] at h; cases h
      | some r' =>
        rcases List.mem_cons.mp hx with rfl | hx
        · exact ⟨y, ha⟩
        · exact ih hl x hx
theorem trod_arrayN {H : Type} {enc : TypeId × Value → H} {P : Program} {w : World} {base : Nat} {spare : Nat → Bool} {held : Bool} {t e : TypeId} {fuel n : Nat} {cs : List Value} {x : DataW H × List MemPlace}
    (ht : P.underlying t = some (.array n e)) (hce : P.cellsOf e = 1) (hl : cs.length = n)
    (h : DataW.trod enc P w base spare held fuel t cs = some x) (i : Nat) (hi : i < n) : ∃ m y, DataW.trod enc P w base spare held m e [cs.getD i undef] = some y := by
  cases fuel with
  | zero => simp [DataW.trod] at h
  | succ m =>
    unfold DataW.trod at h
    rw [ht] at h
    simp only [hce, Nat.mul_one] at h
    split at h
    · obtain ⟨r, hr, _⟩ := Option.map_eq_some_iff.mp h
      obtain ⟨y, hy⟩ := mapM_some_at _ hr i (List.mem_range.mpr hi)
      refine ⟨m, y, ?_⟩
      have e1 : (cs.drop i).take 1 = [cs.getD i undef] := by
        rw [List.drop_eq_getElem_cons (by omega), List.take_succ_cons, List.take_zero, List.getD_eq_getElem?_getD, List.getElem?_eq_getElem (by omega)]
        rfl
      rw [e1] at hy
      exact hy
    · cases h
end Go.Proofs.Ytdeeakjkhcdkaaa
