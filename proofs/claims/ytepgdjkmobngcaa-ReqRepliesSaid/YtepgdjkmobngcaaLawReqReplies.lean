/- The row of ReqReplies, out of its walk: true for every input. No conditions beyond the form's own reach. Made by a program of this session (rowgen). -/
import Derived.Test.YtepgdjkmobngcaaRows
import Derived.Test.YtepgdjkmobngcaaXME
import Derived.WalkKit
import Derived.ProofKit
import Derived.OpenShut
import Derived.ShutString
import Derived.ChangeOld
import Derived.Below
import Derived.SizedLaws
import Derived.Test.YtepgdjkmobngcaaWSized
import Derived.Test.YtepgdjkmobngcaaXMS
namespace Go.Proofs.Ytepgdjkmobngcaa.reqReplies
open Go.ChangeShapes Go.WideShapes Go.ChangeAt Go.RowKit
open Go.ChangeMaps (open_string shut_string)
set_option linter.unusedVariables false
theorem own : ownKnob Try.prog.godebug = none := by kernel_rfl
theorem laidOut : laidOutB Try.prog = true := by kernel_rfl
def IsRow (k : IntKind) (w : World) (a : Option Addr) (len cap : Nat) (zs : List Int) : Prop :=
  (a = none ∧ len = 0 ∧ cap = 0 ∧ zs = []) ∨
  ∃ x, a = some x ∧ len ≤ cap ∧ cap ≤ maxLen ∧ zs.length = cap ∧ (∀ i, i < zs.length → w.cell? (x.add i) = some (.int k (zs.getD i 0))) ∧ ∀ n ∈ zs, (Lit.int k n).wf = true
theorem list14 {α : Type} (l : List α) (h : (⟨l⟩ : Array α).size = 14) : ∃ x0 x1 x2 x3 x4 x5 x6 x7 x8 x9 x10 x11 x12 x13, l = [x0, x1, x2, x3, x4, x5, x6, x7, x8, x9, x10, x11, x12, x13] := by
  match l, h with
  | [x0, x1, x2, x3, x4, x5, x6, x7, x8, x9, x10, x11, x12, x13], _ => exact ⟨x0, x1, x2, x3, x4, x5, x6, x7, x8, x9, x10, x11, x12, x13, rfl⟩
set_option maxRecDepth 100000 in
theorem lifted (os : Os) (started : os.Started) (H : Type) (enc : TypeId × Value → H) :
    ReturnsInHanded {} Try.checked os 5 .any (Rows.reqRepliesSpec.pre6 enc Try.prog Try.f5 Rows.reqRepliesRow.domain false) (Rows.reqRepliesSpec.post enc Try.prog Try.f5 false true false false) := by
  refine returnsInHanded_of_change_sized (C := Try.checked) own started (by kernel_rfl) Try.func5
    (ChangeSpec.witness6 (enc := enc) (C := Try.checked) false ⟨#[], #[.agg #[.int .i64 0, .int .i64 0, .int .i64 0, .int .i64 0, .int .i64 0, .int .i64 0, .int .i64 0, .int .i64 0, .int .i64 0, .int .i64 0, .int .i64 0, .int .i64 0, .bool false, .slice none 0 0], .int .u8 0, .string ByteArray.empty], []⟩ 8 (by kernel_rfl) (by kernel_rfl) (by kernel_rfl) (by kernel_rfl)) ?_
  intro W base args ds gs before hval0 hW hcnd hsz0 _
  have hsz : (DataW.weightsEach Try.prog (Try.f5.params.toList ++ Rows.reqRepliesSpec.plain.varTypes Try.prog) (ds ++ gs)).all (· ≤ reachBytes) = true := hsz0
  have hval : ∀ (j : Nat) t v, Try.f5.params[j]? = some t → args[j]? = some v → Value.okWide Try.prog W .any base t v := hval0
  have hW' := hW
  obtain ⟨p, q, hA0, hV, rfl, hfz, hnd⟩ := hW
  have hA : DataW.TrodAll enc Try.prog W 0 (fun _ => true) true Try.f5.params.toList args.toList ds p := hA0
  rw [Try.params5] at hA hval hsz
  obtain ⟨v0, vs0, d0, ds0, p0, q0, hargs, rfl, rfl, h0, r0⟩ := trodAll_cons hA
  obtain ⟨v1, vs1, d1, ds1, p1, q1, rfl, rfl, rfl, h1, r1⟩ := trodAll_cons r0
  obtain ⟨v2, vs2, d2, ds2, p2, q2, rfl, rfl, rfl, h2, r2⟩ := trodAll_cons r1
  obtain ⟨rfl, rfl, rfl⟩ := trodAll_nil r2
  obtain rfl : args = #[v0, v1, v2] := by cases args; simp_all
  obtain ⟨rfl, rfl⟩ := trodVars_none hV
  have k0 := h0
  have lt0 : ∀ x ∈ p0, x.block < W.heap.size := by obtain ⟨m, hm⟩ := k0; exact DataW.trod_lt m _ _ _ hm
  obtain ⟨cs0, rfl, hs0, _⟩ : ∃ cs, v0 = .agg cs ∧ cs.size = Try.prog.cellsOf 63 ∧ Row.okWide Try.prog W .any base 63 cs := by
    have := (hval 0 63 v0 rfl rfl)
    simpa [Value.okWide, Try.underlying63] using this
  rw [show Try.prog.cellsOf 63 = 14 from by kernel_rfl] at hs0
  obtain ⟨l0⟩ := cs0
  obtain ⟨c00, c01, c02, c03, c04, c05, c06, c07, c08, c09, c010, c011, c012, c013, rfl⟩ := list14 l0 hs0
  obtain ⟨fuel0, hf0⟩ := h0
  obtain ⟨_, _, g00⟩ := field_at Try.underlying63 hf0 0 _ rfl
  change DataW.trod _ _ _ _ _ _ _ 3 ((List.drop 0 [c00, c01, c02, c03, c04, c05, c06, c07, c08, c09, c010, c011, c012, c013]).take (Try.prog.cellsOf 3)) = some _ at g00
  rw [show Try.prog.cellsOf 3 = 1 from by kernel_rfl] at g00
  change DataW.trod _ _ _ _ _ _ _ 3 [c00] = some _ at g00
  obtain ⟨a00, rfl, w00⟩ := Kd.trod (k := .int .i64) Try.underlying3 g00
  obtain ⟨_, _, g01⟩ := field_at Try.underlying63 hf0 1 _ rfl
  change DataW.trod _ _ _ _ _ _ _ 3 ((List.drop 1 [_, c01, c02, c03, c04, c05, c06, c07, c08, c09, c010, c011, c012, c013]).take (Try.prog.cellsOf 3)) = some _ at g01
  rw [show Try.prog.cellsOf 3 = 1 from by kernel_rfl] at g01
  change DataW.trod _ _ _ _ _ _ _ 3 [c01] = some _ at g01
  obtain ⟨a01, rfl, w01⟩ := Kd.trod (k := .int .i64) Try.underlying3 g01
  obtain ⟨_, _, g02⟩ := field_at Try.underlying63 hf0 2 _ rfl
  change DataW.trod _ _ _ _ _ _ _ 60 ((List.drop 2 [_, _, c02, c03, c04, c05, c06, c07, c08, c09, c010, c011, c012, c013]).take (Try.prog.cellsOf 60)) = some _ at g02
  rw [show Try.prog.cellsOf 60 = 6 from by kernel_rfl] at g02
  change DataW.trod _ _ _ _ _ _ _ 60 [c02, c03, c04, c05, c06, c07] = some _ at g02
  obtain ⟨_, _, e02⟩ := trod_arrayN Try.underlying60 (by kernel_rfl) rfl g02 0 (by decide)
  change DataW.trod _ _ _ _ _ _ _ 2 [c02] = some _ at e02
  obtain ⟨_, _, e03⟩ := trod_arrayN Try.underlying60 (by kernel_rfl) rfl g02 1 (by decide)
  change DataW.trod _ _ _ _ _ _ _ 2 [c03] = some _ at e03
  obtain ⟨_, _, e04⟩ := trod_arrayN Try.underlying60 (by kernel_rfl) rfl g02 2 (by decide)
  change DataW.trod _ _ _ _ _ _ _ 2 [c04] = some _ at e04
  obtain ⟨_, _, e05⟩ := trod_arrayN Try.underlying60 (by kernel_rfl) rfl g02 3 (by decide)
  change DataW.trod _ _ _ _ _ _ _ 2 [c05] = some _ at e05
  obtain ⟨_, _, e06⟩ := trod_arrayN Try.underlying60 (by kernel_rfl) rfl g02 4 (by decide)
  change DataW.trod _ _ _ _ _ _ _ 2 [c06] = some _ at e06
  obtain ⟨_, _, e07⟩ := trod_arrayN Try.underlying60 (by kernel_rfl) rfl g02 5 (by decide)
  change DataW.trod _ _ _ _ _ _ _ 2 [c07] = some _ at e07
  obtain ⟨a02, rfl, w02⟩ := Kd.trod (k := .int .i64) Try.underlying2 e02
  obtain ⟨a03, rfl, w03⟩ := Kd.trod (k := .int .i64) Try.underlying2 e03
  obtain ⟨a04, rfl, w04⟩ := Kd.trod (k := .int .i64) Try.underlying2 e04
  obtain ⟨a05, rfl, w05⟩ := Kd.trod (k := .int .i64) Try.underlying2 e05
  obtain ⟨a06, rfl, w06⟩ := Kd.trod (k := .int .i64) Try.underlying2 e06
  obtain ⟨a07, rfl, w07⟩ := Kd.trod (k := .int .i64) Try.underlying2 e07
  obtain ⟨_, _, g03⟩ := field_at Try.underlying63 hf0 3 _ rfl
  change DataW.trod _ _ _ _ _ _ _ 61 ((List.drop 8 [_, _, _, _, _, _, _, _, c08, c09, c010, c011, c012, c013]).take (Try.prog.cellsOf 61)) = some _ at g03
  rw [show Try.prog.cellsOf 61 = 4 from by kernel_rfl] at g03
  change DataW.trod _ _ _ _ _ _ _ 61 [c08, c09, c010, c011] = some _ at g03
  obtain ⟨_, _, e08⟩ := trod_arrayN Try.underlying61 (by kernel_rfl) rfl g03 0 (by decide)
  change DataW.trod _ _ _ _ _ _ _ 3 [c08] = some _ at e08
  obtain ⟨_, _, e09⟩ := trod_arrayN Try.underlying61 (by kernel_rfl) rfl g03 1 (by decide)
  change DataW.trod _ _ _ _ _ _ _ 3 [c09] = some _ at e09
  obtain ⟨_, _, e010⟩ := trod_arrayN Try.underlying61 (by kernel_rfl) rfl g03 2 (by decide)
  change DataW.trod _ _ _ _ _ _ _ 3 [c010] = some _ at e010
  obtain ⟨_, _, e011⟩ := trod_arrayN Try.underlying61 (by kernel_rfl) rfl g03 3 (by decide)
  change DataW.trod _ _ _ _ _ _ _ 3 [c011] = some _ at e011
  obtain ⟨a08, rfl, w08⟩ := Kd.trod (k := .int .i64) Try.underlying3 e08
  obtain ⟨a09, rfl, w09⟩ := Kd.trod (k := .int .i64) Try.underlying3 e09
  obtain ⟨a010, rfl, w010⟩ := Kd.trod (k := .int .i64) Try.underlying3 e010
  obtain ⟨a011, rfl, w011⟩ := Kd.trod (k := .int .i64) Try.underlying3 e011
  obtain ⟨_, _, g04⟩ := field_at Try.underlying63 hf0 4 _ rfl
  change DataW.trod _ _ _ _ _ _ _ 4 ((List.drop 12 [_, _, _, _, _, _, _, _, _, _, _, _, c012, c013]).take (Try.prog.cellsOf 4)) = some _ at g04
  rw [show Try.prog.cellsOf 4 = 1 from by kernel_rfl] at g04
  change DataW.trod _ _ _ _ _ _ _ 4 [c012] = some _ at g04
  obtain ⟨a012, rfl⟩ := Kd.trod (k := .bool) Try.underlying4 g04
  obtain ⟨_, _, g05⟩ := field_at Try.underlying63 hf0 5 _ rfl
  change DataW.trod _ _ _ _ _ _ _ 23 ((List.drop 13 [_, _, _, _, _, _, _, _, _, _, _, _, _, c013]).take (Try.prog.cellsOf 23)) = some _ at g05
  rw [show Try.prog.cellsOf 23 = 1 from by kernel_rfl] at g05
  change DataW.trod _ _ _ _ _ _ _ 23 [c013] = some _ at g05
  obtain ⟨a013, len013, cap013, rfl, y013, w013⟩ := open_structsV (ks := [.int .i64, .int .i64]) Try.underlying23 Try.underlying78 (by kernel_rfl) (by kernel_rfl) (by decide) (by kernel_rfl) g05
  obtain ⟨a1, rfl, rfl, rfl, w1⟩ := open_int Try.underlying5 (hval 1 5 v1 rfl rfl) h1
  obtain ⟨a2, rfl, rfl, rfl, y2⟩ := open_string Try.underlying9 (hval 2 9 v2 rfl rfl) h2
  have w2 : a2.size ≤ 140737488351232 := by
    have z := sized_string hsz (j := 2) (t := 9) rfl rfl
    rw [Array.length_toList] at z
    exact z
  clear hA0 hval0 hsz0 hsz
  refine (reqReplies_law a00 a01 a02 a03 a04 a05 a06 a07 a08 a09 a010 a011 a012 a013 len013 cap013 a1 a2 W w00 w01 w02 w03 w04 w05 w06 w07 w08 w09 w010 w011 w013 y013 w1 w2).mono fun e W' ⟨he, bel⟩ => ?_
  subst he
  exact ⟨_, rfl, _, _, _, [], _, [], hW', trodAll_mk1 (shut_bool Try.underlying4 _), (trodAll_cons_mk (Below.trod laidOut (by kernel_rfl) (of_decide_eq_true (by kernel_rfl)) k0 bel lt0) (trodAll_cons_mk (shut_int Try.underlying5 w1) (trodAll_cons_mk (shut_string Try.underlying9 y2) trodAll_mk0))), rfl, bel.frame _, fun h => by cases h⟩
theorem over : Rows.reqRepliesRow.holds Try.pinned (OpenSpec.ofChange Rows.reqRepliesSpec) :=
  OpenClaim.holds_of_wide 5 Try.f5 rfl rfl rfl rfl rfl rfl rfl ⟨rfl, rfl, rfl, rfl, rfl⟩ rfl rfl rfl rfl rfl (by kernel_rfl) Try.func5 (by kernel_rfl)
    (of_decide_eq_true (by kernel_rfl)) (by unfold Func.isWrapper; first | (rw [if_pos (by decide +kernel)]; kernel_rfl) | (rw [if_neg (by decide +kernel)]; exact ⟨rfl, rfl⟩))
    (fun os started H enc _ => lifted os started H enc)
theorem proved : Rows.ReqRepliesSaid := over
#print axioms proved
end Go.Proofs.Ytepgdjkmobngcaa.reqReplies
namespace Go.Proofs.Ytepgdjkmobngcaa
/-- The row, under a short name, for the claim. -/
theorem reqReplies_holds : Rows.ReqRepliesSaid := reqReplies.proved
end Go.Proofs.Ytepgdjkmobngcaa
