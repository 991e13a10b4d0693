/-
  No cell of these rows narrows 'for every input' (looked for: loops, veiled, ifaces, maps, wideKeys, modest, calm, conditions, laid).
  DERIVED. THE GIVEN ROWS OF THIS SEAT. 4 by the template 'for every input the law returns true; each argument reads behind the call as it read before'; 0 by the template 'total and deterministic' (their statements: YtnojomoeaofkoaaTotals.lean).
  GIVEN WITH THE SEED: the statements are not yours to turn. If you find one false, say at which input.
  Laid BY PROGRAM, IN A SANDBOX (cutbox-rows.mjs): the forced cells as the released guide's own fill.sh prints them over the translation ef6b7b27daebf242… (all of the seat's roots in one cut). By AI agents, Wed Nov 11 2026. No macro, syntax, notation, axiom, sorry.
-/
import Derived.Test.YtnojomoeaofkoaaChecked
import GoSem.Claim
import GoSem.ClaimJoined
import GoSem.ClaimMapViews
import Derived.JoinedTies
import Derived.KernelRfl
namespace Go.Proofs.Ytnojomoeaofkoaa
/- THE CELL 'sum', in the pinned program and in every row, IS THE sha256 OF THE DUMP (.gsa) THAT YtnojomoeaofkoaaProg.lean LOADS. Nothing in Lean hashes anything: it is a label: what it is worth is what the hold of that sum in a sandbox is worth. -/
noncomputable def Try.pinned : Pinned := { name := "ytnojomoeaofkoaa", sum := "ef6b7b27daebf242779b50c747d35d2c3a27031feec71b0c6adfd45099b9211d", checked := Try.checked }
namespace Rows
def none {H : Type} : Left H := { results := [], args := [] }

/-- 'tillrolllaw19.RecFrames': WHATEVER THE INPUT: true; the input reads as it did. -/
def recFramesSpec : ChangeSpec := { name := "recFrames", fn := fun _ => fun
  | [d] => { results := [.lit (.bool true)], args := [d] }
  | _ => none }
def recFramesRow : OpenClaim := { program := "ytnojomoeaofkoaa", sum := "ef6b7b27daebf242779b50c747d35d2c3a27031feec71b0c6adfd45099b9211d", func := "tillroll/tillrolllaw19.RecFrames", spec := "recFrames", inPlace := ["internal/abi.NoEscape"], apart := false }
def RecFramesSaid : Prop := recFramesRow.holds Try.pinned (OpenSpec.ofChange recFramesSpec)

/-- ITS FALSE NEIGHBOUR: 'it returns false'. Refute it at one input. -/
def recFramesWrong : ChangeSpec := { name := "recFrames", fn := fun _ => fun
  | [d] => { results := [.lit (.bool false)], args := [d] }
  | _ => none }
def RecFramesWrongFalsely : Prop := recFramesRow.holds Try.pinned (OpenSpec.ofChange recFramesWrong)

/-- 'tillrolllaw19.RecParses': WHATEVER THE INPUT: true; the input reads as it did. -/
def recParsesSpec : ChangeSpec := { name := "recParses", fn := fun _ => fun
  | [d1, d2, d3] => { results := [.lit (.bool true)], args := [d1, d2, d3] }
  | _ => none }
def recParsesRow : OpenClaim := { program := "ytnojomoeaofkoaa", sum := "ef6b7b27daebf242779b50c747d35d2c3a27031feec71b0c6adfd45099b9211d", func := "tillroll/tillrolllaw19.RecParses", spec := "recParses", inPlace := ["internal/abi.NoEscape"], apart := false }
def RecParsesSaid : Prop := recParsesRow.holds Try.pinned (OpenSpec.ofChange recParsesSpec)

/-- ITS FALSE NEIGHBOUR: 'it returns false'. Refute it at one input. -/
def recParsesWrong : ChangeSpec := { name := "recParses", fn := fun _ => fun
  | [d1, d2, d3] => { results := [.lit (.bool false)], args := [d1, d2, d3] }
  | _ => none }
def RecParsesWrongFalsely : Prop := recParsesRow.holds Try.pinned (OpenSpec.ofChange recParsesWrong)

/-- 'tillrolllaw19.RecBack': WHATEVER THE INPUT: true; the input reads as it did. -/
def recBackSpec : ChangeSpec := { name := "recBack", fn := fun _ => fun
  | [d1, d2] => { results := [.lit (.bool true)], args := [d1, d2] }
  | _ => none }
def recBackRow : OpenClaim := { program := "ytnojomoeaofkoaa", sum := "ef6b7b27daebf242779b50c747d35d2c3a27031feec71b0c6adfd45099b9211d", func := "tillroll/tillrolllaw19.RecBack", spec := "recBack", inPlace := ["internal/abi.NoEscape"], apart := false }
def RecBackSaid : Prop := recBackRow.holds Try.pinned (OpenSpec.ofChange recBackSpec)

/-- ITS FALSE NEIGHBOUR: 'it returns false'. Refute it at one input. -/
def recBackWrong : ChangeSpec := { name := "recBack", fn := fun _ => fun
  | [d1, d2] => { results := [.lit (.bool false)], args := [d1, d2] }
  | _ => none }
def RecBackWrongFalsely : Prop := recBackRow.holds Try.pinned (OpenSpec.ofChange recBackWrong)

/-- 'tillrolllaw19.RecJoins': WHATEVER THE INPUT: true; the input reads as it did. -/
def recJoinsSpec : ChangeSpec := { name := "recJoins", fn := fun _ => fun
  | [d1, d2] => { results := [.lit (.bool true)], args := [d1, d2] }
  | _ => none }
def recJoinsRow : OpenClaim := { program := "ytnojomoeaofkoaa", sum := "ef6b7b27daebf242779b50c747d35d2c3a27031feec71b0c6adfd45099b9211d", func := "tillroll/tillrolllaw19.RecJoins", spec := "recJoins", inPlace := ["internal/abi.NoEscape"], apart := false }
def RecJoinsSaid : Prop := recJoinsRow.holds Try.pinned (OpenSpec.ofChange recJoinsSpec)

/-- ITS FALSE NEIGHBOUR: 'it returns false'. Refute it at one input. -/
def recJoinsWrong : ChangeSpec := { name := "recJoins", fn := fun _ => fun
  | [d1, d2] => { results := [.lit (.bool false)], args := [d1, d2] }
  | _ => none }
def RecJoinsWrongFalsely : Prop := recJoinsRow.holds Try.pinned (OpenSpec.ofChange recJoinsWrong)

/- THE SECOND FORM. 'bulk': how many values and letters a reading holds, each counted each time it is reached (what is shared counts as often as it is met; a slice's spare places count too). A statement '..UptoSaid' is the law's where the arguments, and the package variables that the reading takes, are together of bulk at most 1048576: NARROWER than '..Said'. Prove '..Said' where nothing that the law and all that it calls make is longer than what came in: it says more and counts as full. Else prove '..UptoSaid'. A law counts once. -/
mutual
def uptoBulk {H : Type} : DataW H → Nat
  | .lit (.string bytes) => bytes.length + 1
  | .lit _ => 1
  | .nil => 1
  | .ptr d => uptoBulk d + 1
  | .slice elems spare => uptoBulkAll elems + uptoBulkAll spare + 1
  | .agg parts => uptoBulkAll parts + 1
  | .iface _ d => uptoBulk d + 1
  | .map entries => uptoBulkEntries entries + 1
  | .held _ => 1
def uptoBulkAll {H : Type} : List (DataW H) → Nat
  | [] => 0
  | d :: r => uptoBulk d + uptoBulkAll r
def uptoBulkEntries {H : Type} : List (Lit × DataW H) → Nat
  | [] => 0
  | x :: r => uptoBulkEntry x + uptoBulkEntries r
def uptoBulkEntry {H : Type} : Lit × DataW H → Nat
  | (.string bytes, d) => bytes.length + uptoBulk d + 1
  | (_, d) => uptoBulk d + 1
 end
def uptoSmall : (H : Type) → List (DataW H) → Bool := fun _ ds => decide (uptoBulkAll ds ≤ 1048576)
def OpenSpec.upto (s : _root_.Go.ChangeSpec) : _root_.Go.OpenSpec := { _root_.Go.OpenSpec.ofChange s with cond := some uptoSmall }

/-- 'tillrolllaw19.RecFrames', WHERE WHAT IT READS IS OF BULK AT MOST 1048576: true; the input reads as it did. -/
def recFramesUptoRow : OpenClaim := { program := "ytnojomoeaofkoaa", sum := "ef6b7b27daebf242779b50c747d35d2c3a27031feec71b0c6adfd45099b9211d", func := "tillroll/tillrolllaw19.RecFrames", spec := "recFrames", inPlace := ["internal/abi.NoEscape"], apart := false, narrowed := true }
def RecFramesUptoSaid : Prop := recFramesUptoRow.holds Try.pinned (OpenSpec.upto recFramesSpec)

/-- 'tillrolllaw19.RecParses', WHERE WHAT IT READS IS OF BULK AT MOST 1048576: true; the input reads as it did. -/
def recParsesUptoRow : OpenClaim := { program := "ytnojomoeaofkoaa", sum := "ef6b7b27daebf242779b50c747d35d2c3a27031feec71b0c6adfd45099b9211d", func := "tillroll/tillrolllaw19.RecParses", spec := "recParses", inPlace := ["internal/abi.NoEscape"], apart := false, narrowed := true }
def RecParsesUptoSaid : Prop := recParsesUptoRow.holds Try.pinned (OpenSpec.upto recParsesSpec)

/-- 'tillrolllaw19.RecBack', WHERE WHAT IT READS IS OF BULK AT MOST 1048576: true; the input reads as it did. -/
def recBackUptoRow : OpenClaim := { program := "ytnojomoeaofkoaa", sum := "ef6b7b27daebf242779b50c747d35d2c3a27031feec71b0c6adfd45099b9211d", func := "tillroll/tillrolllaw19.RecBack", spec := "recBack", inPlace := ["internal/abi.NoEscape"], apart := false, narrowed := true }
def RecBackUptoSaid : Prop := recBackUptoRow.holds Try.pinned (OpenSpec.upto recBackSpec)

/-- 'tillrolllaw19.RecJoins', WHERE WHAT IT READS IS OF BULK AT MOST 1048576: true; the input reads as it did. -/
def recJoinsUptoRow : OpenClaim := { program := "ytnojomoeaofkoaa", sum := "ef6b7b27daebf242779b50c747d35d2c3a27031feec71b0c6adfd45099b9211d", func := "tillroll/tillrolllaw19.RecJoins", spec := "recJoins", inPlace := ["internal/abi.NoEscape"], apart := false, narrowed := true }
def RecJoinsUptoSaid : Prop := recJoinsUptoRow.holds Try.pinned (OpenSpec.upto recJoinsSpec)

end Rows
end Go.Proofs.Ytnojomoeaofkoaa
