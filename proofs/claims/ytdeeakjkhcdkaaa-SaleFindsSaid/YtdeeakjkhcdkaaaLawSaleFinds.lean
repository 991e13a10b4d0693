/- The row of SaleFinds, out of its walk: true for every input. No conditions beyond the form's own reach. Made by a program of this session (rowgen). -/
import Derived.Test.YtdeeakjkhcdkaaaRows
import Derived.Test.YtdeeakjkhcdkaaaXSaleFindsW
import Derived.WalkKit
import Derived.ProofKit
import Derived.OpenShut
import Derived.ShutString
import Derived.ChangeOld
import Derived.Below
import Derived.SizedLaws
import Derived.Test.YtdeeakjkhcdkaaaWSized
import Derived.Test.YtdeeakjkhcdkaaaXArr
namespace Go.Proofs.Ytdeeakjkhcdkaaa.saleFinds
open Go.ChangeShapes Go.WideShapes Go.ChangeAt Go.RowKit
open Go.ChangeMaps (open_string shut_string)
set_option linter.unusedVariables false
theorem own : ownKnob Try.prog.godebug = none := by kernel_rfl
theorem laidOut : laidOutB Try.prog = true := by kernel_rfl
def IsRow (k : IntKind) (w : World) (a : Option Addr) (len cap : Nat) (zs : List Int) : Prop :=
  (a = none ∧ len = 0 ∧ cap = 0 ∧ zs = []) ∨
  ∃ x, a = some x ∧ len ≤ cap ∧ cap ≤ maxLen ∧ zs.length = cap ∧ (∀ i, i < zs.length → w.cell? (x.add i) = some (.int k (zs.getD i 0))) ∧ ∀ n ∈ zs, (Lit.int k n).wf = true
theorem list5 {α : Type} (l : List α) (h : (⟨l⟩ : Array α).size = 5) : ∃ x0 x1 x2 x3 x4, l = [x0, x1, x2, x3, x4] := by
  match l, h with
  | [x0, x1, x2, x3, x4], _ => exact ⟨x0, x1, x2, x3, x4, rfl⟩
set_option maxRecDepth 100000 in
theorem lifted (os : Os) (started : os.Started) (H : Type) (enc : TypeId × Value → H) :
    ReturnsInHanded {} Try.checked os 5 .any (Rows.saleFindsSpec.pre6 enc Try.prog Try.f5 Rows.saleFindsRow.domain false) (Rows.saleFindsSpec.post enc Try.prog Try.f5 false true false false) := by
  refine returnsInHanded_of_change_sized (C := Try.checked) own started (by kernel_rfl) Try.func5
    (ChangeSpec.witness6 (enc := enc) (C := Try.checked) false ⟨#[], #[.slice none 0 0, .agg #[.int .i64 0, .int .i64 0, .int .i64 0, .int .i64 0, .int .i64 0], .bool false], []⟩ 8 (by kernel_rfl) (by kernel_rfl) (by kernel_rfl) (by kernel_rfl)) ?_
  intro W base args ds gs before hval0 hW hcnd hsz0 _
  have hsz : (DataW.weightsEach Try.prog (Try.f5.params.toList ++ Rows.saleFindsSpec.plain.varTypes Try.prog) (ds ++ gs)).all (· ≤ reachBytes) = true := hsz0
  have hval : ∀ (j : Nat) t v, Try.f5.params[j]? = some t → args[j]? = some v → Value.okWide Try.prog W .any base t v := hval0
  have hW' := hW
  obtain ⟨p, q, hA0, hV, rfl, hfz, hnd⟩ := hW
  have hA : DataW.TrodAll enc Try.prog W 0 (fun _ => true) true Try.f5.params.toList args.toList ds p := hA0
  rw [Try.params5] at hA hval hsz
  obtain ⟨v0, vs0, d0, ds0, p0, q0, hargs, rfl, rfl, h0, r0⟩ := trodAll_cons hA
  obtain ⟨v1, vs1, d1, ds1, p1, q1, rfl, rfl, rfl, h1, r1⟩ := trodAll_cons r0
  obtain ⟨v2, vs2, d2, ds2, p2, q2, rfl, rfl, rfl, h2, r2⟩ := trodAll_cons r1
  obtain ⟨rfl, rfl, rfl⟩ := trodAll_nil r2
  obtain rfl : args = #[v0, v1, v2] := by cases args; simp_all
  obtain ⟨rfl, rfl⟩ := trodVars_none hV
  obtain ⟨a0, len0, cap0, rfl⟩ := okWide_slice Try.underlying22 (hval 0 22 v0 rfl rfl)
  have k0 := h0
  have lt0 : ∀ x ∈ p0, x.block < W.heap.size := by obtain ⟨m, hm⟩ := k0; exact DataW.trod_lt m _ _ _ hm
  obtain ⟨y0, w0⟩ : (len0 ≤ cap0 ∧ cap0 ≤ maxLen) ∧ RowIn W [.int .u8, .int .i64, .int .i64, .int .i64, .int .i64] a0 len0 := by
    obtain ⟨fuel, hf⟩ := h0
    exact open_structs Try.underlying22 Try.underlying30 (by kernel_rfl) (by kernel_rfl) (by decide) (by kernel_rfl) hf
  have k1 := h1
  have lt1 : ∀ x ∈ p1, x.block < W.heap.size := by obtain ⟨m, hm⟩ := k1; exact DataW.trod_lt m _ _ _ hm
  obtain ⟨cs1, rfl, hs1, _⟩ : ∃ cs, v1 = .agg cs ∧ cs.size = Try.prog.cellsOf 52 ∧ Row.okWide Try.prog W .any base 52 cs := by
    have := (hval 1 52 v1 rfl rfl)
    simpa [Value.okWide, Try.underlying52] using this
  rw [show Try.prog.cellsOf 52 = 5 from by kernel_rfl] at hs1
  obtain ⟨l1⟩ := cs1
  obtain ⟨c10, c11, c12, c13, c14, rfl⟩ := list5 l1 hs1
  obtain ⟨fuel1, hf1⟩ := h1
  obtain ⟨_, _, hy10⟩ := trod_arrayN Try.underlying52 (by kernel_rfl) rfl hf1 0 (by decide)
  change DataW.trod _ _ _ _ _ _ _ _ [c10] = some _ at hy10
  obtain ⟨_, _, hy11⟩ := trod_arrayN Try.underlying52 (by kernel_rfl) rfl hf1 1 (by decide)
  change DataW.trod _ _ _ _ _ _ _ _ [c11] = some _ at hy11
  obtain ⟨_, _, hy12⟩ := trod_arrayN Try.underlying52 (by kernel_rfl) rfl hf1 2 (by decide)
  change DataW.trod _ _ _ _ _ _ _ _ [c12] = some _ at hy12
  obtain ⟨_, _, hy13⟩ := trod_arrayN Try.underlying52 (by kernel_rfl) rfl hf1 3 (by decide)
  change DataW.trod _ _ _ _ _ _ _ _ [c13] = some _ at hy13
  obtain ⟨_, _, hy14⟩ := trod_arrayN Try.underlying52 (by kernel_rfl) rfl hf1 4 (by decide)
  change DataW.trod _ _ _ _ _ _ _ _ [c14] = some _ at hy14
  obtain ⟨a10, e10, _, w10⟩ := DataW.trod_int Try.underlying3 hy10
  simp only [List.cons.injEq, and_true] at e10
  subst e10
  obtain ⟨a11, e11, _, w11⟩ := DataW.trod_int Try.underlying3 hy11
  simp only [List.cons.injEq, and_true] at e11
  subst e11
  obtain ⟨a12, e12, _, w12⟩ := DataW.trod_int Try.underlying3 hy12
  simp only [List.cons.injEq, and_true] at e12
  subst e12
  obtain ⟨a13, e13, _, w13⟩ := DataW.trod_int Try.underlying3 hy13
  simp only [List.cons.injEq, and_true] at e13
  subst e13
  obtain ⟨a14, e14, _, w14⟩ := DataW.trod_int Try.underlying3 hy14
  simp only [List.cons.injEq, and_true] at e14
  subst e14
  obtain ⟨a2, rfl, rfl, rfl⟩ := open_bool Try.underlying4 (hval 2 4 v2 rfl rfl) h2
  clear hA0 hval0 hsz0 hsz
  refine (saleFinds_law a0 len0 cap0 a10 a11 a12 a13 a14 a2 W w0 y0 w10 w11 w12 w13 w14).mono fun e W' ⟨he, bel⟩ => ?_
  subst he
  exact ⟨_, rfl, _, _, _, [], _, [], hW', trodAll_mk1 (shut_bool Try.underlying4 _), (trodAll_cons_mk (Below.trod laidOut (by kernel_rfl) (of_decide_eq_true (by kernel_rfl)) k0 bel lt0) (trodAll_cons_mk (Below.trod laidOut (by kernel_rfl) (of_decide_eq_true (by kernel_rfl)) k1 bel lt1) (trodAll_cons_mk (shut_bool Try.underlying4 _) trodAll_mk0))), rfl, bel.frame _, fun h => by cases h⟩
theorem over : Rows.saleFindsRow.holds Try.pinned (OpenSpec.ofChange Rows.saleFindsSpec) :=
  OpenClaim.holds_of_wide 5 Try.f5 rfl rfl rfl rfl rfl rfl rfl ⟨rfl, rfl, rfl, rfl, rfl⟩ rfl rfl rfl rfl rfl (by kernel_rfl) Try.func5 (by kernel_rfl)
    (of_decide_eq_true (by kernel_rfl)) (by unfold Func.isWrapper; first | (rw [if_pos (by decide +kernel)]; kernel_rfl) | (rw [if_neg (by decide +kernel)]; exact ⟨rfl, rfl⟩))
    (fun os started H enc _ => lifted os started H enc)
theorem proved : Rows.SaleFindsSaid := over
#print axioms proved
end Go.Proofs.Ytdeeakjkhcdkaaa.saleFinds
namespace Go.Proofs.Ytdeeakjkhcdkaaa
/-- The row, under a short name, for the claim. -/
theorem saleFinds_holds : Rows.SaleFindsSaid := saleFinds.proved
end Go.Proofs.Ytdeeakjkhcdkaaa
