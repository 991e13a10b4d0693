/- The row of WhereMakes, out of its walk: true for every input. No conditions beyond the form's own reach. Made by a program of this session (rowgen). -/
import Derived.Test.YthapekmdnokniaaRows
import Derived.Test.YthapekmdnokniaaXWhereMakesW
import Derived.WalkKit
import Derived.ProofKit
import Derived.OpenShut
import Derived.ShutString
import Derived.ChangeOld
import Derived.Below
import Derived.SizedLaws
import Derived.Test.YthapekmdnokniaaWSized
import Derived.Test.YthapekmdnokniaaXArr
namespace Go.Proofs.Ythapekmdnokniaa.whereMakes
open Go.ChangeShapes Go.WideShapes Go.ChangeAt Go.RowKit
open Go.ChangeMaps (open_string shut_string)
set_option linter.unusedVariables false
theorem own : ownKnob Try.prog.godebug = none := by kernel_rfl
theorem laidOut : laidOutB Try.prog = true := by kernel_rfl
def IsRow (k : IntKind) (w : World) (a : Option Addr) (len cap : Nat) (zs : List Int) : Prop :=
  (a = none ∧ len = 0 ∧ cap = 0 ∧ zs = []) ∨
  ∃ x, a = some x ∧ len ≤ cap ∧ cap ≤ maxLen ∧ zs.length = cap ∧ (∀ i, i < zs.length → w.cell? (x.add i) = some (.int k (zs.getD i 0))) ∧ ∀ n ∈ zs, (Lit.int k n).wf = true
theorem list3 {α : Type} (l : List α) (h : (⟨l⟩ : Array α).size = 3) : ∃ x0 x1 x2, l = [x0, x1, x2] := by
  match l, h with
  | [x0, x1, x2], _ => exact ⟨x0, x1, x2, rfl⟩
set_option maxRecDepth 100000 in
theorem lifted (os : Os) (started : os.Started) (H : Type) (enc : TypeId × Value → H) :
    ReturnsInHanded {} Try.checked os 6 .any (Rows.whereMakesSpec.pre6 enc Try.prog Try.f6 Rows.whereMakesRow.domain false) (Rows.whereMakesSpec.post enc Try.prog Try.f6 false true false false) := by
  refine returnsInHanded_of_change_sized (C := Try.checked) own started (by kernel_rfl) Try.func6
    (ChangeSpec.witness6 (enc := enc) (C := Try.checked) false ⟨#[], #[.agg #[.int .i64 0, .int .i64 0, .int .i64 0], .int .i64 0], []⟩ 8 (by kernel_rfl) (by kernel_rfl) (by kernel_rfl) (by kernel_rfl)) ?_
  intro W base args ds gs before hval0 hW hcnd hsz0 _
  have hsz : (DataW.weightsEach Try.prog (Try.f6.params.toList ++ Rows.whereMakesSpec.plain.varTypes Try.prog) (ds ++ gs)).all (· ≤ reachBytes) = true := hsz0
  have hval : ∀ (j : Nat) t v, Try.f6.params[j]? = some t → args[j]? = some v → Value.okWide Try.prog W .any base t v := hval0
  have hW' := hW
  obtain ⟨p, q, hA0, hV, rfl, hfz, hnd⟩ := hW
  have hA : DataW.TrodAll enc Try.prog W 0 (fun _ => true) true Try.f6.params.toList args.toList ds p := hA0
  rw [Try.params6] at hA hval hsz
  obtain ⟨v0, vs0, d0, ds0, p0, q0, hargs, rfl, rfl, h0, r0⟩ := trodAll_cons hA
  obtain ⟨v1, vs1, d1, ds1, p1, q1, rfl, rfl, rfl, h1, r1⟩ := trodAll_cons r0
  obtain ⟨rfl, rfl, rfl⟩ := trodAll_nil r1
  obtain rfl : args = #[v0, v1] := by cases args; simp_all
  obtain ⟨rfl, rfl⟩ := trodVars_none hV
  have k0 := h0
  have lt0 : ∀ x ∈ p0, x.block < W.heap.size := by obtain ⟨m, hm⟩ := k0; exact DataW.trod_lt m _ _ _ hm
  obtain ⟨cs0, rfl, hs0, _⟩ : ∃ cs, v0 = .agg cs ∧ cs.size = Try.prog.cellsOf 42 ∧ Row.okWide Try.prog W .any base 42 cs := by
    have := (hval 0 42 v0 rfl rfl)
    simpa [Value.okWide, Try.underlying42] using this
  rw [show Try.prog.cellsOf 42 = 3 from by kernel_rfl] at hs0
  obtain ⟨l0⟩ := cs0
  obtain ⟨c00, c01, c02, rfl⟩ := list3 l0 hs0
  obtain ⟨fuel0, hf0⟩ := h0
  obtain ⟨_, _, hy00⟩ := trod_arrayN Try.underlying42 (by kernel_rfl) rfl hf0 0 (by decide)
  change DataW.trod _ _ _ _ _ _ _ _ [c00] = some _ at hy00
  obtain ⟨_, _, hy01⟩ := trod_arrayN Try.underlying42 (by kernel_rfl) rfl hf0 1 (by decide)
  change DataW.trod _ _ _ _ _ _ _ _ [c01] = some _ at hy01
  obtain ⟨_, _, hy02⟩ := trod_arrayN Try.underlying42 (by kernel_rfl) rfl hf0 2 (by decide)
  change DataW.trod _ _ _ _ _ _ _ _ [c02] = some _ at hy02
  obtain ⟨a00, e00, _, w00⟩ := DataW.trod_int Try.underlying3 hy00
  simp only [List.cons.injEq, and_true] at e00
  subst e00
  obtain ⟨a01, e01, _, w01⟩ := DataW.trod_int Try.underlying3 hy01
  simp only [List.cons.injEq, and_true] at e01
  subst e01
  obtain ⟨a02, e02, _, w02⟩ := DataW.trod_int Try.underlying3 hy02
  simp only [List.cons.injEq, and_true] at e02
  subst e02
  obtain ⟨a1, rfl, rfl, rfl, w1⟩ := open_int Try.underlying3 (hval 1 3 v1 rfl rfl) h1
  clear hA0 hval0 hsz0 hsz
  refine (whereMakes_law a00 a01 a02 a1 W w00 w01 w02 w1).mono fun e W' ⟨he, bel⟩ => ?_
  subst he
  exact ⟨_, rfl, _, _, _, [], _, [], hW', trodAll_mk1 (shut_bool Try.underlying4 _), (trodAll_cons_mk (Below.trod laidOut (by kernel_rfl) (of_decide_eq_true (by kernel_rfl)) k0 bel lt0) (trodAll_cons_mk (shut_int Try.underlying3 w1) trodAll_mk0)), rfl, bel.frame _, fun h => by cases h⟩
theorem over : Rows.whereMakesRow.holds Try.pinned (OpenSpec.ofChange Rows.whereMakesSpec) :=
  OpenClaim.holds_of_wide 6 Try.f6 rfl rfl rfl rfl rfl rfl rfl ⟨rfl, rfl, rfl, rfl, rfl⟩ rfl rfl rfl rfl rfl (by kernel_rfl) Try.func6 (by kernel_rfl)
    (of_decide_eq_true (by kernel_rfl)) (by unfold Func.isWrapper; first | (rw [if_pos (by decide +kernel)]; kernel_rfl) | (rw [if_neg (by decide +kernel)]; exact ⟨rfl, rfl⟩))
    (fun os started H enc _ => lifted os started H enc)
theorem proved : Rows.WhereMakesSaid := over
#print axioms proved
end Go.Proofs.Ythapekmdnokniaa.whereMakes
namespace Go.Proofs.Ythapekmdnokniaa
/-- The row, under a short name, for the claim. -/
theorem whereMakes_holds : Rows.WhereMakesSaid := whereMakes.proved
end Go.Proofs.Ythapekmdnokniaa
