/-
  No cell of these rows narrows 'for every input' (looked for: loops, veiled, ifaces, maps, wideKeys, modest, calm, conditions, laid).
  DERIVED. THE GIVEN ROWS OF THIS SEAT. 5 by the template 'for every input the law returns true; each argument reads behind the call as it read before'; 0 by the template 'total and deterministic' (their statements: YtbfmdfolboankaaTotals.lean).
  GIVEN WITH THE SEED: the statements are not yours to turn. If you find one false, say at which input.
  Laid BY PROGRAM, IN A SANDBOX (cutbox-rows.mjs): the forced cells as the released guide's own fill.sh prints them over the translation 7223e7bc72c5ab50… (all of the seat's roots in one cut). By AI agents, Wed Nov 11 2026. No macro, syntax, notation, axiom, sorry.
-/
import Derived.Test.YtbfmdfolboankaaChecked
import GoSem.Claim
import GoSem.ClaimJoined
import GoSem.ClaimMapViews
import Derived.JoinedTies
import Derived.KernelRfl
namespace Go.Proofs.Ytbfmdfolboankaa
/- THE CELL 'sum', in the pinned program and in every row, IS THE sha256 OF THE DUMP (.gsa) THAT YtbfmdfolboankaaProg.lean LOADS. Nothing in Lean hashes anything: it is a label: what it is worth is what the hold of that sum in a sandbox is worth. -/
noncomputable def Try.pinned : Pinned := { name := "ytbfmdfolboankaa", sum := "7223e7bc72c5ab50cc47594570d8b2d6da80e7eceec07fff6c66c999bcd66b37", checked := Try.checked }
namespace Rows
def none {H : Type} : Left H := { results := [], args := [] }

/-- 'tillrolllaw02.PolySums': WHATEVER THE INPUT: true; the input reads as it did. -/
def polySumsSpec : ChangeSpec := { name := "polySums", fn := fun _ => fun
  | [d1, d2] => { results := [.lit (.bool true)], args := [d1, d2] }
  | _ => none }
def polySumsRow : OpenClaim := { program := "ytbfmdfolboankaa", sum := "7223e7bc72c5ab50cc47594570d8b2d6da80e7eceec07fff6c66c999bcd66b37", func := "tillroll/tillrolllaw02.PolySums", spec := "polySums", apart := false }
def PolySumsSaid : Prop := polySumsRow.holds Try.pinned (OpenSpec.ofChange polySumsSpec)

/-- ITS FALSE NEIGHBOUR: 'it returns false'. Refute it at one input. -/
def polySumsWrong : ChangeSpec := { name := "polySums", fn := fun _ => fun
  | [d1, d2] => { results := [.lit (.bool false)], args := [d1, d2] }
  | _ => none }
def PolySumsWrongFalsely : Prop := polySumsRow.holds Try.pinned (OpenSpec.ofChange polySumsWrong)

/-- 'tillrolllaw02.PolyTable': WHATEVER THE INPUT: true; the input reads as it did. -/
def polyTableSpec : ChangeSpec := { name := "polyTable", fn := fun _ => fun
  | [d] => { results := [.lit (.bool true)], args := [d] }
  | _ => none }
def polyTableRow : OpenClaim := { program := "ytbfmdfolboankaa", sum := "7223e7bc72c5ab50cc47594570d8b2d6da80e7eceec07fff6c66c999bcd66b37", func := "tillroll/tillrolllaw02.PolyTable", spec := "polyTable", apart := false }
def PolyTableSaid : Prop := polyTableRow.holds Try.pinned (OpenSpec.ofChange polyTableSpec)

/-- ITS FALSE NEIGHBOUR: 'it returns false'. Refute it at one input. -/
def polyTableWrong : ChangeSpec := { name := "polyTable", fn := fun _ => fun
  | [d] => { results := [.lit (.bool false)], args := [d] }
  | _ => none }
def PolyTableWrongFalsely : Prop := polyTableRow.holds Try.pinned (OpenSpec.ofChange polyTableWrong)

/-- 'tillrolllaw02.PolyParts': WHATEVER THE INPUT: true; the input reads as it did. -/
def polyPartsSpec : ChangeSpec := { name := "polyParts", fn := fun _ => fun
  | [d1, d2] => { results := [.lit (.bool true)], args := [d1, d2] }
  | _ => none }
def polyPartsRow : OpenClaim := { program := "ytbfmdfolboankaa", sum := "7223e7bc72c5ab50cc47594570d8b2d6da80e7eceec07fff6c66c999bcd66b37", func := "tillroll/tillrolllaw02.PolyParts", spec := "polyParts", apart := false }
def PolyPartsSaid : Prop := polyPartsRow.holds Try.pinned (OpenSpec.ofChange polyPartsSpec)

/-- ITS FALSE NEIGHBOUR: 'it returns false'. Refute it at one input. -/
def polyPartsWrong : ChangeSpec := { name := "polyParts", fn := fun _ => fun
  | [d1, d2] => { results := [.lit (.bool false)], args := [d1, d2] }
  | _ => none }
def PolyPartsWrongFalsely : Prop := polyPartsRow.holds Try.pinned (OpenSpec.ofChange polyPartsWrong)

/-- 'tillrolllaw02.PolyTells': WHATEVER THE INPUT: true; the input reads as it did. -/
def polyTellsSpec : ChangeSpec := { name := "polyTells", fn := fun _ => fun
  | [d1, d2, d3] => { results := [.lit (.bool true)], args := [d1, d2, d3] }
  | _ => none }
def polyTellsRow : OpenClaim := { program := "ytbfmdfolboankaa", sum := "7223e7bc72c5ab50cc47594570d8b2d6da80e7eceec07fff6c66c999bcd66b37", func := "tillroll/tillrolllaw02.PolyTells", spec := "polyTells", apart := false }
def PolyTellsSaid : Prop := polyTellsRow.holds Try.pinned (OpenSpec.ofChange polyTellsSpec)

/-- ITS FALSE NEIGHBOUR: 'it returns false'. Refute it at one input. -/
def polyTellsWrong : ChangeSpec := { name := "polyTells", fn := fun _ => fun
  | [d1, d2, d3] => { results := [.lit (.bool false)], args := [d1, d2, d3] }
  | _ => none }
def PolyTellsWrongFalsely : Prop := polyTellsRow.holds Try.pinned (OpenSpec.ofChange polyTellsWrong)

/-- 'tillrolllaw02.PolyRest': WHATEVER THE INPUT: true; the input reads as it did. -/
def polyRestSpec : ChangeSpec := { name := "polyRest", fn := fun _ => fun
  | [d1, d2] => { results := [.lit (.bool true)], args := [d1, d2] }
  | _ => none }
def polyRestRow : OpenClaim := { program := "ytbfmdfolboankaa", sum := "7223e7bc72c5ab50cc47594570d8b2d6da80e7eceec07fff6c66c999bcd66b37", func := "tillroll/tillrolllaw02.PolyRest", spec := "polyRest", unfollowed := true, recurses := true, apart := false }
def PolyRestSaid : Prop := polyRestRow.holds Try.pinned (OpenSpec.ofChange polyRestSpec)

/-- ITS FALSE NEIGHBOUR: 'it returns false'. Refute it at one input. -/
def polyRestWrong : ChangeSpec := { name := "polyRest", fn := fun _ => fun
  | [d1, d2] => { results := [.lit (.bool false)], args := [d1, d2] }
  | _ => none }
def PolyRestWrongFalsely : Prop := polyRestRow.holds Try.pinned (OpenSpec.ofChange polyRestWrong)

/- THE SECOND FORM. 'bulk': how many values and letters a reading holds, each counted each time it is reached (what is shared counts as often as it is met; a slice's spare places count too). A statement '..UptoSaid' is the law's where the arguments, and the package variables that the reading takes, are together of bulk at most 1048576: NARROWER than '..Said'. Prove '..Said' where nothing that the law and all that it calls make is longer than what came in: it says more and counts as full. Else prove '..UptoSaid'. A law counts once. -/
mutual
def uptoBulk {H : Type} : DataW H → Nat
  | .lit (.string bytes) => bytes.length + 1
  | .lit _ => 1
  | .nil => 1
  | .ptr d => uptoBulk d + 1
  | .slice elems spare => uptoBulkAll elems + uptoBulkAll spare + 1
  | .agg parts => uptoBulkAll parts + 1
  | .iface _ d => uptoBulk d + 1
  | .map entries => uptoBulkEntries entries + 1
  | .held _ => 1
def uptoBulkAll {H : Type} : List (DataW H) → Nat
  | [] => 0
  | d :: r => uptoBulk d + uptoBulkAll r
def uptoBulkEntries {H : Type} : List (Lit × DataW H) → Nat
  | [] => 0
  | x :: r => uptoBulkEntry x + uptoBulkEntries r
def uptoBulkEntry {H : Type} : Lit × DataW H → Nat
  | (.string bytes, d) => bytes.length + uptoBulk d + 1
  | (_, d) => uptoBulk d + 1
 end
def uptoSmall : (H : Type) → List (DataW H) → Bool := fun _ ds => decide (uptoBulkAll ds ≤ 1048576)
def OpenSpec.upto (s : _root_.Go.ChangeSpec) : _root_.Go.OpenSpec := { _root_.Go.OpenSpec.ofChange s with cond := some uptoSmall }

/-- 'tillrolllaw02.PolySums', WHERE WHAT IT READS IS OF BULK AT MOST 1048576: true; the input reads as it did. -/
def polySumsUptoRow : OpenClaim := { program := "ytbfmdfolboankaa", sum := "7223e7bc72c5ab50cc47594570d8b2d6da80e7eceec07fff6c66c999bcd66b37", func := "tillroll/tillrolllaw02.PolySums", spec := "polySums", apart := false, narrowed := true }
def PolySumsUptoSaid : Prop := polySumsUptoRow.holds Try.pinned (OpenSpec.upto polySumsSpec)

/-- 'tillrolllaw02.PolyTable', WHERE WHAT IT READS IS OF BULK AT MOST 1048576: true; the input reads as it did. -/
def polyTableUptoRow : OpenClaim := { program := "ytbfmdfolboankaa", sum := "7223e7bc72c5ab50cc47594570d8b2d6da80e7eceec07fff6c66c999bcd66b37", func := "tillroll/tillrolllaw02.PolyTable", spec := "polyTable", apart := false, narrowed := true }
def PolyTableUptoSaid : Prop := polyTableUptoRow.holds Try.pinned (OpenSpec.upto polyTableSpec)

/-- 'tillrolllaw02.PolyParts', WHERE WHAT IT READS IS OF BULK AT MOST 1048576: true; the input reads as it did. -/
def polyPartsUptoRow : OpenClaim := { program := "ytbfmdfolboankaa", sum := "7223e7bc72c5ab50cc47594570d8b2d6da80e7eceec07fff6c66c999bcd66b37", func := "tillroll/tillrolllaw02.PolyParts", spec := "polyParts", apart := false, narrowed := true }
def PolyPartsUptoSaid : Prop := polyPartsUptoRow.holds Try.pinned (OpenSpec.upto polyPartsSpec)

/-- 'tillrolllaw02.PolyTells', WHERE WHAT IT READS IS OF BULK AT MOST 1048576: true; the input reads as it did. -/
def polyTellsUptoRow : OpenClaim := { program := "ytbfmdfolboankaa", sum := "7223e7bc72c5ab50cc47594570d8b2d6da80e7eceec07fff6c66c999bcd66b37", func := "tillroll/tillrolllaw02.PolyTells", spec := "polyTells", apart := false, narrowed := true }
def PolyTellsUptoSaid : Prop := polyTellsUptoRow.holds Try.pinned (OpenSpec.upto polyTellsSpec)

/-- 'tillrolllaw02.PolyRest', WHERE WHAT IT READS IS OF BULK AT MOST 1048576: true; the input reads as it did. -/
def polyRestUptoRow : OpenClaim := { program := "ytbfmdfolboankaa", sum := "7223e7bc72c5ab50cc47594570d8b2d6da80e7eceec07fff6c66c999bcd66b37", func := "tillroll/tillrolllaw02.PolyRest", spec := "polyRest", unfollowed := true, recurses := true, apart := false, narrowed := true }
def PolyRestUptoSaid : Prop := polyRestUptoRow.holds Try.pinned (OpenSpec.upto polyRestSpec)

end Rows
end Go.Proofs.Ytbfmdfolboankaa
