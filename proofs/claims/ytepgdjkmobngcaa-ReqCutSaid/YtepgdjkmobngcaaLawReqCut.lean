/- The row of ReqCut, out of its walk: true for every input. No conditions beyond the form's own reach. Made by a program of this session (rowgen). -/
import Derived.Test.YtepgdjkmobngcaaRows
import Derived.Test.YtepgdjkmobngcaaXReqCutW
import Derived.WalkKit
import Derived.ProofKit
import Derived.OpenShut
import Derived.ShutString
import Derived.ChangeOld
import Derived.Below
import Derived.SizedLaws
import Derived.Test.YtepgdjkmobngcaaWSized
import Derived.Test.YtepgdjkmobngcaaXStr
namespace Go.Proofs.Ytepgdjkmobngcaa.reqCut
open Go.ChangeShapes Go.WideShapes Go.ChangeAt Go.RowKit
open Go.ChangeMaps (open_string shut_string)
set_option linter.unusedVariables false
theorem own : ownKnob Try.prog.godebug = none := by kernel_rfl
theorem laidOut : laidOutB Try.prog = true := by kernel_rfl
def IsRow (k : IntKind) (w : World) (a : Option Addr) (len cap : Nat) (zs : List Int) : Prop :=
  (a = none ∧ len = 0 ∧ cap = 0 ∧ zs = []) ∨
  ∃ x, a = some x ∧ len ≤ cap ∧ cap ≤ maxLen ∧ zs.length = cap ∧ (∀ i, i < zs.length → w.cell? (x.add i) = some (.int k (zs.getD i 0))) ∧ ∀ n ∈ zs, (Lit.int k n).wf = true
theorem list9 {α : Type} (l : List α) (h : (⟨l⟩ : Array α).size = 9) : ∃ x0 x1 x2 x3 x4 x5 x6 x7 x8, l = [x0, x1, x2, x3, x4, x5, x6, x7, x8] := by
  match l, h with
  | [x0, x1, x2, x3, x4, x5, x6, x7, x8], _ => exact ⟨x0, x1, x2, x3, x4, x5, x6, x7, x8, rfl⟩
set_option maxRecDepth 100000 in
theorem lifted (os : Os) (started : os.Started) (H : Type) (enc : TypeId × Value → H) :
    ReturnsInHanded {} Try.checked os 6 .any (Rows.reqCutSpec.pre6 enc Try.prog Try.f6 Rows.reqCutRow.domain false) (Rows.reqCutSpec.post enc Try.prog Try.f6 false true false false) := by
  refine returnsInHanded_of_change_sized (C := Try.checked) own started (by kernel_rfl) Try.func6
    (ChangeSpec.witness6 (enc := enc) (C := Try.checked) false ⟨#[], #[.agg #[.int .u8 0, .int .i64 0, .int .u8 0, .string ByteArray.empty, .int .u64 0, .int .i64 0, .int .i64 0, .int .i64 0, .slice none 0 0], .int .u16 0, .string ByteArray.empty], []⟩ 8 (by kernel_rfl) (by kernel_rfl) (by kernel_rfl) (by kernel_rfl)) ?_
  intro W base args ds gs before hval0 hW hcnd hsz0 _
  have hsz : (DataW.weightsEach Try.prog (Try.f6.params.toList ++ Rows.reqCutSpec.plain.varTypes Try.prog) (ds ++ gs)).all (· ≤ reachBytes) = true := hsz0
  have hval : ∀ (j : Nat) t v, Try.f6.params[j]? = some t → args[j]? = some v → Value.okWide Try.prog W .any base t v := hval0
  have hW' := hW
  obtain ⟨p, q, hA0, hV, rfl, hfz, hnd⟩ := hW
  have hA : DataW.TrodAll enc Try.prog W 0 (fun _ => true) true Try.f6.params.toList args.toList ds p := hA0
  rw [Try.params6] at hA hval hsz
  obtain ⟨v0, vs0, d0, ds0, p0, q0, hargs, rfl, rfl, h0, r0⟩ := trodAll_cons hA
  obtain ⟨v1, vs1, d1, ds1, p1, q1, rfl, rfl, rfl, h1, r1⟩ := trodAll_cons r0
  obtain ⟨v2, vs2, d2, ds2, p2, q2, rfl, rfl, rfl, h2, r2⟩ := trodAll_cons r1
  obtain ⟨rfl, rfl, rfl⟩ := trodAll_nil r2
  obtain rfl : args = #[v0, v1, v2] := by cases args; simp_all
  obtain ⟨rfl, rfl⟩ := trodVars_none hV
  have k0 := h0
  have lt0 : ∀ x ∈ p0, x.block < W.heap.size := by obtain ⟨m, hm⟩ := k0; exact DataW.trod_lt m _ _ _ hm
  obtain ⟨cs0, rfl, hs0, _⟩ : ∃ cs, v0 = .agg cs ∧ cs.size = Try.prog.cellsOf 25 ∧ Row.okWide Try.prog W .any base 25 cs := by
    have := (hval 0 25 v0 rfl rfl)
    simpa [Value.okWide, Try.underlying25] using this
  rw [show Try.prog.cellsOf 25 = 9 from by kernel_rfl] at hs0
  obtain ⟨l0⟩ := cs0
  obtain ⟨c00, c01, c02, c03, c04, c05, c06, c07, c08, rfl⟩ := list9 l0 hs0
  obtain ⟨fuel0, hf0⟩ := h0
  obtain ⟨_, _, g00⟩ := field_of Try.underlying25 (by kernel_rfl) (by kernel_rfl) hf0 0 _ rfl
  obtain ⟨a00, rfl, w00⟩ := Kd.trod (k := .int .u8) Try.underlying5 g00
  obtain ⟨_, _, g01⟩ := field_of Try.underlying25 (by kernel_rfl) (by kernel_rfl) hf0 1 _ rfl
  obtain ⟨a01, rfl, w01⟩ := Kd.trod (k := .int .i64) Try.underlying3 g01
  obtain ⟨_, _, g02⟩ := field_of Try.underlying25 (by kernel_rfl) (by kernel_rfl) hf0 2 _ rfl
  obtain ⟨a02, rfl, w02⟩ := Kd.trod (k := .int .u8) Try.underlying5 g02
  obtain ⟨_, _, g03⟩ := field_of Try.underlying25 (by kernel_rfl) (by kernel_rfl) hf0 3 _ rfl
  obtain ⟨a03, rfl, w03⟩ := Kd.trod (k := .str) Try.underlying9 g03
  obtain ⟨_, _, g04⟩ := field_of Try.underlying25 (by kernel_rfl) (by kernel_rfl) hf0 4 _ rfl
  obtain ⟨a04, rfl, w04⟩ := Kd.trod (k := .int .u64) Try.underlying22 g04
  obtain ⟨_, _, g05⟩ := field_of Try.underlying25 (by kernel_rfl) (by kernel_rfl) hf0 5 _ rfl
  obtain ⟨a05, rfl, w05⟩ := Kd.trod (k := .int .i64) Try.underlying3 g05
  obtain ⟨_, _, g06⟩ := field_of Try.underlying25 (by kernel_rfl) (by kernel_rfl) hf0 6 _ rfl
  obtain ⟨a06, rfl, w06⟩ := Kd.trod (k := .int .i64) Try.underlying2 g06
  obtain ⟨_, _, g07⟩ := field_of Try.underlying25 (by kernel_rfl) (by kernel_rfl) hf0 7 _ rfl
  obtain ⟨a07, rfl, w07⟩ := Kd.trod (k := .int .i64) Try.underlying3 g07
  obtain ⟨_, _, g08⟩ := field_of Try.underlying25 (by kernel_rfl) (by kernel_rfl) hf0 8 _ rfl
  obtain ⟨a08, len08, cap08, rfl, y08, w08⟩ := open_structsV (ks := [.int .i64, .int .i64]) Try.underlying23 Try.underlying78 (by kernel_rfl) (by kernel_rfl) (by decide) (by kernel_rfl) g08
  obtain ⟨a1, rfl, rfl, rfl, w1⟩ := open_int Try.underlying26 (hval 1 26 v1 rfl rfl) h1
  obtain ⟨a2, rfl, rfl, rfl, y2⟩ := open_string Try.underlying9 (hval 2 9 v2 rfl rfl) h2
  have w2 : a2.size ≤ 140737488351232 := by
    have z := sized_string hsz (j := 2) (t := 9) rfl rfl
    rw [Array.length_toList] at z
    exact z
  clear hA0 hval0 hsz0 hsz
  refine (reqCut_law a00 a01 a02 a03 a04 a05 a06 a07 a08 len08 cap08 a1 a2 W w00 w01 w02 w03 w04 w05 w06 w07 w08 y08 w1 w2).mono fun e W' ⟨he, bel⟩ => ?_
  subst he
  exact ⟨_, rfl, _, _, _, [], _, [], hW', trodAll_mk1 (shut_bool Try.underlying4 _), (trodAll_cons_mk (Below.trod laidOut (by kernel_rfl) (of_decide_eq_true (by kernel_rfl)) k0 bel lt0) (trodAll_cons_mk (shut_int Try.underlying26 w1) (trodAll_cons_mk (shut_string Try.underlying9 y2) trodAll_mk0))), rfl, bel.frame _, fun h => by cases h⟩
theorem over : Rows.reqCutRow.holds Try.pinned (OpenSpec.ofChange Rows.reqCutSpec) :=
  OpenClaim.holds_of_wide 6 Try.f6 rfl rfl rfl rfl rfl rfl rfl ⟨rfl, rfl, rfl, rfl, rfl⟩ rfl rfl rfl rfl rfl (by kernel_rfl) Try.func6 (by kernel_rfl)
    (of_decide_eq_true (by kernel_rfl)) (by unfold Func.isWrapper; first | (rw [if_pos (by decide +kernel)]; kernel_rfl) | (rw [if_neg (by decide +kernel)]; exact ⟨rfl, rfl⟩))
    (fun os started H enc _ => lifted os started H enc)
theorem proved : Rows.ReqCutSaid := over
#print axioms proved
end Go.Proofs.Ytepgdjkmobngcaa.reqCut
namespace Go.Proofs.Ytepgdjkmobngcaa
/-- The row, under a short name, for the claim. -/
theorem reqCut_holds : Rows.ReqCutSaid := reqCut.proved
end Go.Proofs.Ytepgdjkmobngcaa
