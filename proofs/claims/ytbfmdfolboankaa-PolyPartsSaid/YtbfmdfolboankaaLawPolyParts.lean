/- The row of PolyParts, out of its walk: true for every input. No conditions beyond the form's own reach. Made by a program of this session (rowgen). -/
import Derived.Test.YtbfmdfolboankaaRows
import Derived.Test.YtbfmdfolboankaaXPolyPartsW
import Derived.WalkKit
import Derived.ProofKit
import Derived.OpenShut
import Derived.ShutString
import Derived.ChangeOld
import Derived.Below
import Derived.SizedLaws
import Derived.Test.YtbfmdfolboankaaWSized
import Derived.Laws.IdiomArrays
namespace Go.Proofs.Ytbfmdfolboankaa.polyParts
open Go.ChangeShapes Go.WideShapes Go.ChangeAt Go.RowKit
open Go.ChangeMaps (open_string shut_string)
set_option linter.unusedVariables false
theorem own : ownKnob Try.prog.godebug = none := by kernel_rfl
theorem laidOut : laidOutB Try.prog = true := by kernel_rfl
def IsRow (k : IntKind) (w : World) (a : Option Addr) (len cap : Nat) (zs : List Int) : Prop :=
  (a = none ∧ len = 0 ∧ cap = 0 ∧ zs = []) ∨
  ∃ x, a = some x ∧ len ≤ cap ∧ cap ≤ maxLen ∧ zs.length = cap ∧ (∀ i, i < zs.length → w.cell? (x.add i) = some (.int k (zs.getD i 0))) ∧ ∀ n ∈ zs, (Lit.int k n).wf = true
theorem list3 {α : Type} (l : List α) (h : (⟨l⟩ : Array α).size = 3) : ∃ a b c, l = [a, b, c] := by
  match l, h with
  | [a, b, c], _ => exact ⟨a, b, c, rfl⟩
set_option maxRecDepth 100000 in
theorem lifted (os : Os) (started : os.Started) (H : Type) (enc : TypeId × Value → H) :
    ReturnsInHanded {} Try.checked os 5 .any (Rows.polyPartsSpec.pre6 enc Try.prog Try.f5 Rows.polyPartsRow.domain false) (Rows.polyPartsSpec.post enc Try.prog Try.f5 false true false false) := by
  refine returnsInHanded_of_change_sized (C := Try.checked) own started (by kernel_rfl) Try.func5
    (ChangeSpec.witness6 (enc := enc) (C := Try.checked) false ⟨#[], #[.agg #[.string ByteArray.empty, .string ByteArray.empty, .string ByteArray.empty], .int .u16 0], []⟩ 8 (by kernel_rfl) (by kernel_rfl) (by kernel_rfl) (by kernel_rfl)) ?_
  intro W base args ds gs before hval0 hW hcnd hsz0 _
  have hsz : (DataW.weightsEach Try.prog (Try.f5.params.toList ++ Rows.polyPartsSpec.plain.varTypes Try.prog) (ds ++ gs)).all (· ≤ reachBytes) = true := hsz0
  have hval : ∀ (j : Nat) t v, Try.f5.params[j]? = some t → args[j]? = some v → Value.okWide Try.prog W .any base t v := hval0
  have hW' := hW
  obtain ⟨p, q, hA0, hV, rfl, hfz, hnd⟩ := hW
  have hA : DataW.TrodAll enc Try.prog W 0 (fun _ => true) true Try.f5.params.toList args.toList ds p := hA0
  rw [Try.params5] at hA hval hsz
  obtain ⟨v0, vs0, d0, ds0, p0, q0, hargs, rfl, rfl, h0, r0⟩ := trodAll_cons hA
  obtain ⟨v1, vs1, d1, ds1, p1, q1, rfl, rfl, rfl, h1, r1⟩ := trodAll_cons r0
  obtain ⟨rfl, rfl, rfl⟩ := trodAll_nil r1
  obtain rfl : args = #[v0, v1] := by cases args; simp_all
  obtain ⟨rfl, rfl⟩ := trodVars_none hV
  have k0 := h0
  have lt0 : ∀ x ∈ p0, x.block < W.heap.size := by obtain ⟨m, hm⟩ := k0; exact DataW.trod_lt m _ _ _ hm
  obtain ⟨cs0, rfl, hs0, _⟩ : ∃ cs, v0 = .agg cs ∧ cs.size = Try.prog.cellsOf 38 ∧ Row.okWide Try.prog W .any base 38 cs := by
    have := (hval 0 38 v0 rfl rfl)
    simpa [Value.okWide, Try.underlying38] using this
  rw [show Try.prog.cellsOf 38 = 3 from by kernel_rfl] at hs0
  obtain ⟨l0⟩ := cs0
  obtain ⟨c00, c01, c02, rfl⟩ := list3 l0 hs0
  obtain ⟨fuel0, hf0⟩ := h0
  obtain ⟨_, _, _, _, _, hy00, hy01, hy02⟩ := trod_array3 Try.underlying38 (by kernel_rfl) hf0
  obtain ⟨a00, e00, _, w00⟩ := DataW.trod_string Try.underlying9 hy00
  simp only [List.cons.injEq, and_true] at e00
  subst e00
  obtain ⟨a01, e01, _, w01⟩ := DataW.trod_string Try.underlying9 hy01
  simp only [List.cons.injEq, and_true] at e01
  subst e01
  obtain ⟨a02, e02, _, w02⟩ := DataW.trod_string Try.underlying9 hy02
  simp only [List.cons.injEq, and_true] at e02
  subst e02
  obtain ⟨a1, rfl, rfl, rfl, w1⟩ := open_int Try.underlying39 (hval 1 39 v1 rfl rfl) h1
  clear hA0 hval0 hsz0 hsz
  refine (polyParts_law a00 a01 a02 a1 W w1).mono fun e W' ⟨he, bel⟩ => ?_
  subst he
  exact ⟨_, rfl, _, _, _, [], _, [], hW', trodAll_mk1 (shut_bool Try.underlying4 _), (trodAll_cons_mk (Below.trod laidOut (by kernel_rfl) (of_decide_eq_true (by kernel_rfl)) k0 bel lt0) (trodAll_cons_mk (shut_int Try.underlying39 w1) trodAll_mk0)), rfl, bel.frame _, fun h => by cases h⟩
theorem over : Rows.polyPartsRow.holds Try.pinned (OpenSpec.ofChange Rows.polyPartsSpec) :=
  OpenClaim.holds_of_wide 5 Try.f5 rfl rfl rfl rfl rfl rfl rfl ⟨rfl, rfl, rfl, rfl, rfl⟩ rfl rfl rfl rfl rfl (by kernel_rfl) Try.func5 (by kernel_rfl)
    (of_decide_eq_true (by kernel_rfl)) (by unfold Func.isWrapper; first | (rw [if_pos (by decide +kernel)]; kernel_rfl) | (rw [if_neg (by decide +kernel)]; exact ⟨rfl, rfl⟩))
    (fun os started H enc _ => lifted os started H enc)
theorem proved : Rows.PolyPartsSaid := over
#print axioms proved
end Go.Proofs.Ytbfmdfolboankaa.polyParts
namespace Go.Proofs.Ytbfmdfolboankaa
/-- The row, under a short name, for the claim. -/
theorem polyParts_holds : Rows.PolyPartsSaid := polyParts.proved
end Go.Proofs.Ytbfmdfolboankaa
