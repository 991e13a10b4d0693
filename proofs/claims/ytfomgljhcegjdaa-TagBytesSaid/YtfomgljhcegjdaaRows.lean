/-
  No cell of these rows narrows 'for every input' (looked for: loops, veiled, ifaces, maps, wideKeys, modest, calm, conditions, laid).
  DERIVED. THE GIVEN ROWS OF THIS SEAT. 4 by the template 'for every input the law returns true; each argument reads behind the call as it read before'; 0 by the template 'total and deterministic' (their statements: YtfomgljhcegjdaaTotals.lean).
  GIVEN WITH THE SEED: the statements are not yours to turn. If you find one false, say at which input.
  Laid BY PROGRAM, IN A SANDBOX (cutbox-rows.mjs): the forced cells as the released guide's own fill.sh prints them over the translation d1f3d1810efe9996… (all of the seat's roots in one cut). By AI agents, Wed Nov 11 2026. No macro, syntax, notation, axiom, sorry.
-/
import Derived.Test.YtfomgljhcegjdaaChecked
import GoSem.Claim
import GoSem.ClaimJoined
import GoSem.ClaimMapViews
import Derived.JoinedTies
import Derived.KernelRfl
namespace Go.Proofs.Ytfomgljhcegjdaa
/- THE CELL 'sum', in the pinned program and in every row, IS THE sha256 OF THE DUMP (.gsa) THAT YtfomgljhcegjdaaProg.lean LOADS. Nothing in Lean hashes anything: it is a label: what it is worth is what the hold of that sum in a sandbox is worth. -/
noncomputable def Try.pinned : Pinned := { name := "ytfomgljhcegjdaa", sum := "d1f3d1810efe99963314bcdbc147e1c2211805b5f684d888a9d9dc1b4c20e1db", checked := Try.checked }
namespace Rows
def none {H : Type} : Left H := { results := [], args := [] }

/-- 'tillrolllaw06.TagBytes': WHATEVER THE INPUT: true; the input reads as it did. -/
def tagBytesSpec : ChangeSpec := { name := "tagBytes", fn := fun _ => fun
  | [d1, d2, d3] => { results := [.lit (.bool true)], args := [d1, d2, d3] }
  | _ => none }
def tagBytesRow : OpenClaim := { program := "ytfomgljhcegjdaa", sum := "d1f3d1810efe99963314bcdbc147e1c2211805b5f684d888a9d9dc1b4c20e1db", func := "tillroll/tillrolllaw06.TagBytes", spec := "tagBytes", inPlace := ["internal/abi.NoEscape", "internal/bytealg.MakeNoZero"], apart := false }
def TagBytesSaid : Prop := tagBytesRow.holds Try.pinned (OpenSpec.ofChange tagBytesSpec)

/-- ITS FALSE NEIGHBOUR: 'it returns false'. Refute it at one input. -/
def tagBytesWrong : ChangeSpec := { name := "tagBytes", fn := fun _ => fun
  | [d1, d2, d3] => { results := [.lit (.bool false)], args := [d1, d2, d3] }
  | _ => none }
def TagBytesWrongFalsely : Prop := tagBytesRow.holds Try.pinned (OpenSpec.ofChange tagBytesWrong)

/-- 'tillrolllaw06.TagBack': WHATEVER THE INPUT: true; the input reads as it did. -/
def tagBackSpec : ChangeSpec := { name := "tagBack", fn := fun _ => fun
  | [d1, d2, d3] => { results := [.lit (.bool true)], args := [d1, d2, d3] }
  | _ => none }
def tagBackRow : OpenClaim := { program := "ytfomgljhcegjdaa", sum := "d1f3d1810efe99963314bcdbc147e1c2211805b5f684d888a9d9dc1b4c20e1db", func := "tillroll/tillrolllaw06.TagBack", spec := "tagBack", inPlace := ["internal/abi.NoEscape", "internal/bytealg.MakeNoZero"], apart := false }
def TagBackSaid : Prop := tagBackRow.holds Try.pinned (OpenSpec.ofChange tagBackSpec)

/-- ITS FALSE NEIGHBOUR: 'it returns false'. Refute it at one input. -/
def tagBackWrong : ChangeSpec := { name := "tagBack", fn := fun _ => fun
  | [d1, d2, d3] => { results := [.lit (.bool false)], args := [d1, d2, d3] }
  | _ => none }
def TagBackWrongFalsely : Prop := tagBackRow.holds Try.pinned (OpenSpec.ofChange tagBackWrong)

/-- 'tillrolllaw06.TagUnlike': WHATEVER THE INPUT: true; the input reads as it did. -/
def tagUnlikeSpec : ChangeSpec := { name := "tagUnlike", fn := fun _ => fun
  | [d1, d2, d3] => { results := [.lit (.bool true)], args := [d1, d2, d3] }
  | _ => none }
def tagUnlikeRow : OpenClaim := { program := "ytfomgljhcegjdaa", sum := "d1f3d1810efe99963314bcdbc147e1c2211805b5f684d888a9d9dc1b4c20e1db", func := "tillroll/tillrolllaw06.TagUnlike", spec := "tagUnlike", inPlace := ["internal/abi.NoEscape", "internal/bytealg.MakeNoZero"], apart := false }
def TagUnlikeSaid : Prop := tagUnlikeRow.holds Try.pinned (OpenSpec.ofChange tagUnlikeSpec)

/-- ITS FALSE NEIGHBOUR: 'it returns false'. Refute it at one input. -/
def tagUnlikeWrong : ChangeSpec := { name := "tagUnlike", fn := fun _ => fun
  | [d1, d2, d3] => { results := [.lit (.bool false)], args := [d1, d2, d3] }
  | _ => none }
def TagUnlikeWrongFalsely : Prop := tagUnlikeRow.holds Try.pinned (OpenSpec.ofChange tagUnlikeWrong)

/-- 'tillrolllaw06.TagBlank': WHATEVER THE INPUT: true; the input reads as it did. -/
def tagBlankSpec : ChangeSpec := { name := "tagBlank", fn := fun _ => fun
  | [d1, d2, d3] => { results := [.lit (.bool true)], args := [d1, d2, d3] }
  | _ => none }
def tagBlankRow : OpenClaim := { program := "ytfomgljhcegjdaa", sum := "d1f3d1810efe99963314bcdbc147e1c2211805b5f684d888a9d9dc1b4c20e1db", func := "tillroll/tillrolllaw06.TagBlank", spec := "tagBlank", inPlace := ["internal/abi.NoEscape", "internal/bytealg.MakeNoZero"], apart := false }
def TagBlankSaid : Prop := tagBlankRow.holds Try.pinned (OpenSpec.ofChange tagBlankSpec)

/-- ITS FALSE NEIGHBOUR: 'it returns false'. Refute it at one input. -/
def tagBlankWrong : ChangeSpec := { name := "tagBlank", fn := fun _ => fun
  | [d1, d2, d3] => { results := [.lit (.bool false)], args := [d1, d2, d3] }
  | _ => none }
def TagBlankWrongFalsely : Prop := tagBlankRow.holds Try.pinned (OpenSpec.ofChange tagBlankWrong)

/- THE SECOND FORM. 'bulk': how many values and letters a reading holds, each counted each time it is reached (what is shared counts as often as it is met; a slice's spare places count too). A statement '..UptoSaid' is the law's where the arguments, and the package variables that the reading takes, are together of bulk at most 1048576: NARROWER than '..Said'. Prove '..Said' where nothing that the law and all that it calls make is longer than what came in: it says more and counts as full. Else prove '..UptoSaid'. A law counts once. -/
mutual
def uptoBulk {H : Type} : DataW H → Nat
  | .lit (.string bytes) => bytes.length + 1
  | .lit _ => 1
  | .nil => 1
  | .ptr d => uptoBulk d + 1
  | .slice elems spare => uptoBulkAll elems + uptoBulkAll spare + 1
  | .agg parts => uptoBulkAll parts + 1
  | .iface _ d => uptoBulk d + 1
  | .map entries => uptoBulkEntries entries + 1
  | .held _ => 1
def uptoBulkAll {H : Type} : List (DataW H) → Nat
  | [] => 0
  | d :: r => uptoBulk d + uptoBulkAll r
def uptoBulkEntries {H : Type} : List (Lit × DataW H) → Nat
  | [] => 0
  | x :: r => uptoBulkEntry x + uptoBulkEntries r
def uptoBulkEntry {H : Type} : Lit × DataW H → Nat
  | (.string bytes, d) => bytes.length + uptoBulk d + 1
  | (_, d) => uptoBulk d + 1
 end
def uptoSmall : (H : Type) → List (DataW H) → Bool := fun _ ds => decide (uptoBulkAll ds ≤ 1048576)
def OpenSpec.upto (s : _root_.Go.ChangeSpec) : _root_.Go.OpenSpec := { _root_.Go.OpenSpec.ofChange s with cond := some uptoSmall }

/-- 'tillrolllaw06.TagBytes', WHERE WHAT IT READS IS OF BULK AT MOST 1048576: true; the input reads as it did. -/
def tagBytesUptoRow : OpenClaim := { program := "ytfomgljhcegjdaa", sum := "d1f3d1810efe99963314bcdbc147e1c2211805b5f684d888a9d9dc1b4c20e1db", func := "tillroll/tillrolllaw06.TagBytes", spec := "tagBytes", inPlace := ["internal/abi.NoEscape", "internal/bytealg.MakeNoZero"], apart := false, narrowed := true }
def TagBytesUptoSaid : Prop := tagBytesUptoRow.holds Try.pinned (OpenSpec.upto tagBytesSpec)

/-- 'tillrolllaw06.TagBack', WHERE WHAT IT READS IS OF BULK AT MOST 1048576: true; the input reads as it did. -/
def tagBackUptoRow : OpenClaim := { program := "ytfomgljhcegjdaa", sum := "d1f3d1810efe99963314bcdbc147e1c2211805b5f684d888a9d9dc1b4c20e1db", func := "tillroll/tillrolllaw06.TagBack", spec := "tagBack", inPlace := ["internal/abi.NoEscape", "internal/bytealg.MakeNoZero"], apart := false, narrowed := true }
def TagBackUptoSaid : Prop := tagBackUptoRow.holds Try.pinned (OpenSpec.upto tagBackSpec)

/-- 'tillrolllaw06.TagUnlike', WHERE WHAT IT READS IS OF BULK AT MOST 1048576: true; the input reads as it did. -/
def tagUnlikeUptoRow : OpenClaim := { program := "ytfomgljhcegjdaa", sum := "d1f3d1810efe99963314bcdbc147e1c2211805b5f684d888a9d9dc1b4c20e1db", func := "tillroll/tillrolllaw06.TagUnlike", spec := "tagUnlike", inPlace := ["internal/abi.NoEscape", "internal/bytealg.MakeNoZero"], apart := false, narrowed := true }
def TagUnlikeUptoSaid : Prop := tagUnlikeUptoRow.holds Try.pinned (OpenSpec.upto tagUnlikeSpec)

/-- 'tillrolllaw06.TagBlank', WHERE WHAT IT READS IS OF BULK AT MOST 1048576: true; the input reads as it did. -/
def tagBlankUptoRow : OpenClaim := { program := "ytfomgljhcegjdaa", sum := "d1f3d1810efe99963314bcdbc147e1c2211805b5f684d888a9d9dc1b4c20e1db", func := "tillroll/tillrolllaw06.TagBlank", spec := "tagBlank", inPlace := ["internal/abi.NoEscape", "internal/bytealg.MakeNoZero"], apart := false, narrowed := true }
def TagBlankUptoSaid : Prop := tagBlankUptoRow.holds Try.pinned (OpenSpec.upto tagBlankSpec)

end Rows
end Go.Proofs.Ytfomgljhcegjdaa
