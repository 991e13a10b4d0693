/- A flat struct as a law's parameter, opened. No conditions. -/
import Derived.Test.YtfomgljhcegjdaaXOpen
import Derived.Test.YtfomgljhcegjdaaWMore
namespace Go.Proofs.Ytfomgljhcegjdaa
open Go.ChangeShapes Go.WideShapes Go.Deep Go.RowKit
set_option linter.unusedVariables false
theorem open_flat {H : Type} {enc : TypeId × Value → H} {P : Program} {w : World} {base : Nat} {spare : Nat → Bool} {held : Bool} {t : TypeId} {fs : Array Field} {ks : List Kd} {fuel : Nat} {cs : List Value} {x : DataW H × List MemPlace}
    (he : P.underlying t = some (.struct fs)) (hone : oneCellFields P fs = true) (hC : P.cellsOf t = fs.size)
    (hks : fs.toList.map (fun f => P.underlying f.type) = ks.map (fun k => some k.ty))
    (h : DataW.trod enc P w base spare held fuel t cs = some x) : Kd.oks ks cs := by
  have hkl : ks.length = fs.size := by
    have := congrArg List.length hks
    rw [List.length_map, List.length_map, Array.length_toList] at this
    exact this.symm
  obtain ⟨xs, k, _, _, hcl, hxl, hf⟩ := DataW.trod_struct he h
  rw [hC] at hcl
  refine Kd.oks_of ks cs (by omega) (fun j k' v hk hv => ?_)
  have hj : j < fs.size := by rw [← hkl]; exact (List.getElem?_eq_some_iff.1 hk).1
  have hfj : fs[j]? = some fs[j] := Array.getElem?_eq_getElem hj
  obtain ⟨ho, hc1⟩ := hone_of hone j _ hfj
  have g := hf j _ hfj
  rw [ho, hc1, take1_drop cs j undef (by omega), List.getElem?_eq_getElem (by omega)] at g
  have hv2 : cs.getD j undef = v := by rw [List.getD_eq_getElem?_getD, hv]; rfl
  rw [hv2] at g
  refine Kd.trod ?_ g
  have e1 := congrArg (fun l => l[j]?) hks
  simp only [List.getElem?_map] at e1
  rw [hk, Array.getElem?_toList, hfj] at e1
  simpa using e1
end Go.Proofs.Ytfomgljhcegjdaa
