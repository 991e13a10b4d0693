/-
  No cell of these rows narrows 'for every input' (looked for: loops, veiled, ifaces, maps, wideKeys, modest, calm, conditions, laid).
  DERIVED. THE GIVEN ROWS OF THIS SEAT. 4 by the template 'for every input the law returns true; each argument reads behind the call as it read before'; 0 by the template 'total and deterministic' (their statements: YtdpnnokchmjflaaTotals.lean).
  GIVEN WITH THE SEED: the statements are not yours to turn. If you find one false, say at which input.
  Laid BY PROGRAM, IN A SANDBOX (cutbox-rows.mjs): the forced cells as the released guide's own fill.sh prints them over the translation b62670a1f54ecff6… (all of the seat's roots in one cut). By AI agents, Wed Nov 11 2026. No macro, syntax, notation, axiom, sorry.
-/
import Derived.Test.YtdpnnokchmjflaaChecked
import GoSem.Claim
import GoSem.ClaimJoined
import GoSem.ClaimMapViews
import Derived.JoinedTies
import Derived.KernelRfl
namespace Go.Proofs.Ytdpnnokchmjflaa
/- THE CELL 'sum', in the pinned program and in every row, IS THE sha256 OF THE DUMP (.gsa) THAT YtdpnnokchmjflaaProg.lean LOADS. Nothing in Lean hashes anything: it is a label: what it is worth is what the hold of that sum in a sandbox is worth. -/
noncomputable def Try.pinned : Pinned := { name := "ytdpnnokchmjflaa", sum := "b62670a1f54ecff6540732bedec3a95aeb6611d636d3064fd59ac00084dec5cd", checked := Try.checked }
namespace Rows
def none {H : Type} : Left H := { results := [], args := [] }

/-- 'tillrolllaw04.CurWrites': WHATEVER THE INPUT: true; the input reads as it did. -/
def curWritesSpec : ChangeSpec := { name := "curWrites", fn := fun _ => fun
  | [d] => { results := [.lit (.bool true)], args := [d] }
  | _ => none }
def curWritesRow : OpenClaim := { program := "ytdpnnokchmjflaa", sum := "b62670a1f54ecff6540732bedec3a95aeb6611d636d3064fd59ac00084dec5cd", func := "tillroll/tillrolllaw04.CurWrites", spec := "curWrites", apart := false }
def CurWritesSaid : Prop := curWritesRow.holds Try.pinned (OpenSpec.ofChange curWritesSpec)

/-- ITS FALSE NEIGHBOUR: 'it returns false'. Refute it at one input. -/
def curWritesWrong : ChangeSpec := { name := "curWrites", fn := fun _ => fun
  | [d] => { results := [.lit (.bool false)], args := [d] }
  | _ => none }
def CurWritesWrongFalsely : Prop := curWritesRow.holds Try.pinned (OpenSpec.ofChange curWritesWrong)

/-- 'tillrolllaw04.CurParts': WHATEVER THE INPUT: true; the input reads as it did. -/
def curPartsSpec : ChangeSpec := { name := "curParts", fn := fun _ => fun
  | [d1, d2, d3] => { results := [.lit (.bool true)], args := [d1, d2, d3] }
  | _ => none }
def curPartsRow : OpenClaim := { program := "ytdpnnokchmjflaa", sum := "b62670a1f54ecff6540732bedec3a95aeb6611d636d3064fd59ac00084dec5cd", func := "tillroll/tillrolllaw04.CurParts", spec := "curParts", apart := false }
def CurPartsSaid : Prop := curPartsRow.holds Try.pinned (OpenSpec.ofChange curPartsSpec)

/-- ITS FALSE NEIGHBOUR: 'it returns false'. Refute it at one input. -/
def curPartsWrong : ChangeSpec := { name := "curParts", fn := fun _ => fun
  | [d1, d2, d3] => { results := [.lit (.bool false)], args := [d1, d2, d3] }
  | _ => none }
def CurPartsWrongFalsely : Prop := curPartsRow.holds Try.pinned (OpenSpec.ofChange curPartsWrong)

/-- 'tillrolllaw04.CurReads': WHATEVER THE INPUT: true; the input reads as it did. -/
def curReadsSpec : ChangeSpec := { name := "curReads", fn := fun _ => fun
  | [d1, d2] => { results := [.lit (.bool true)], args := [d1, d2] }
  | _ => none }
def curReadsRow : OpenClaim := { program := "ytdpnnokchmjflaa", sum := "b62670a1f54ecff6540732bedec3a95aeb6611d636d3064fd59ac00084dec5cd", func := "tillroll/tillrolllaw04.CurReads", spec := "curReads", apart := false }
def CurReadsSaid : Prop := curReadsRow.holds Try.pinned (OpenSpec.ofChange curReadsSpec)

/-- ITS FALSE NEIGHBOUR: 'it returns false'. Refute it at one input. -/
def curReadsWrong : ChangeSpec := { name := "curReads", fn := fun _ => fun
  | [d1, d2] => { results := [.lit (.bool false)], args := [d1, d2] }
  | _ => none }
def CurReadsWrongFalsely : Prop := curReadsRow.holds Try.pinned (OpenSpec.ofChange curReadsWrong)

/-- 'tillrolllaw04.CurBack': WHATEVER THE INPUT: true; the input reads as it did. -/
def curBackSpec : ChangeSpec := { name := "curBack", fn := fun _ => fun
  | [d1, d2] => { results := [.lit (.bool true)], args := [d1, d2] }
  | _ => none }
def curBackRow : OpenClaim := { program := "ytdpnnokchmjflaa", sum := "b62670a1f54ecff6540732bedec3a95aeb6611d636d3064fd59ac00084dec5cd", func := "tillroll/tillrolllaw04.CurBack", spec := "curBack", apart := false }
def CurBackSaid : Prop := curBackRow.holds Try.pinned (OpenSpec.ofChange curBackSpec)

/-- ITS FALSE NEIGHBOUR: 'it returns false'. Refute it at one input. -/
def curBackWrong : ChangeSpec := { name := "curBack", fn := fun _ => fun
  | [d1, d2] => { results := [.lit (.bool false)], args := [d1, d2] }
  | _ => none }
def CurBackWrongFalsely : Prop := curBackRow.holds Try.pinned (OpenSpec.ofChange curBackWrong)

/- THE SECOND FORM. 'bulk': how many values and letters a reading holds, each counted each time it is reached (what is shared counts as often as it is met; a slice's spare places count too). A statement '..UptoSaid' is the law's where the arguments, and the package variables that the reading takes, are together of bulk at most 1048576: NARROWER than '..Said'. Prove '..Said' where nothing that the law and all that it calls make is longer than what came in: it says more and counts as full. Else prove '..UptoSaid'. A law counts once. -/
mutual
def uptoBulk {H : Type} : DataW H → Nat
  | .lit (.string bytes) => bytes.length + 1
  | .lit _ => 1
  | .nil => 1
  | .ptr d => uptoBulk d + 1
  | .slice elems spare => uptoBulkAll elems + uptoBulkAll spare + 1
  | .agg parts => uptoBulkAll parts + 1
  | .iface _ d => uptoBulk d + 1
  | .map entries => uptoBulkEntries entries + 1
  | .held _ => 1
def uptoBulkAll {H : Type} : List (DataW H) → Nat
  | [] => 0
  | d :: r => uptoBulk d + uptoBulkAll r
def uptoBulkEntries {H : Type} : List (Lit × DataW H) → Nat
  | [] => 0
  | x :: r => uptoBulkEntry x + uptoBulkEntries r
def uptoBulkEntry {H : Type} : Lit × DataW H → Nat
  | (.string bytes, d) => bytes.length + uptoBulk d + 1
  | (_, d) => uptoBulk d + 1
 end
def uptoSmall : (H : Type) → List (DataW H) → Bool := fun _ ds => decide (uptoBulkAll ds ≤ 1048576)
def OpenSpec.upto (s : _root_.Go.ChangeSpec) : _root_.Go.OpenSpec := { _root_.Go.OpenSpec.ofChange s with cond := some uptoSmall }

/-- 'tillrolllaw04.CurWrites', WHERE WHAT IT READS IS OF BULK AT MOST 1048576: true; the input reads as it did. -/
def curWritesUptoRow : OpenClaim := { program := "ytdpnnokchmjflaa", sum := "b62670a1f54ecff6540732bedec3a95aeb6611d636d3064fd59ac00084dec5cd", func := "tillroll/tillrolllaw04.CurWrites", spec := "curWrites", apart := false, narrowed := true }
def CurWritesUptoSaid : Prop := curWritesUptoRow.holds Try.pinned (OpenSpec.upto curWritesSpec)

/-- 'tillrolllaw04.CurParts', WHERE WHAT IT READS IS OF BULK AT MOST 1048576: true; the input reads as it did. -/
def curPartsUptoRow : OpenClaim := { program := "ytdpnnokchmjflaa", sum := "b62670a1f54ecff6540732bedec3a95aeb6611d636d3064fd59ac00084dec5cd", func := "tillroll/tillrolllaw04.CurParts", spec := "curParts", apart := false, narrowed := true }
def CurPartsUptoSaid : Prop := curPartsUptoRow.holds Try.pinned (OpenSpec.upto curPartsSpec)

/-- 'tillrolllaw04.CurReads', WHERE WHAT IT READS IS OF BULK AT MOST 1048576: true; the input reads as it did. -/
def curReadsUptoRow : OpenClaim := { program := "ytdpnnokchmjflaa", sum := "b62670a1f54ecff6540732bedec3a95aeb6611d636d3064fd59ac00084dec5cd", func := "tillroll/tillrolllaw04.CurReads", spec := "curReads", apart := false, narrowed := true }
def CurReadsUptoSaid : Prop := curReadsUptoRow.holds Try.pinned (OpenSpec.upto curReadsSpec)

/-- 'tillrolllaw04.CurBack', WHERE WHAT IT READS IS OF BULK AT MOST 1048576: true; the input reads as it did. -/
def curBackUptoRow : OpenClaim := { program := "ytdpnnokchmjflaa", sum := "b62670a1f54ecff6540732bedec3a95aeb6611d636d3064fd59ac00084dec5cd", func := "tillroll/tillrolllaw04.CurBack", spec := "curBack", apart := false, narrowed := true }
def CurBackUptoSaid : Prop := curBackUptoRow.holds Try.pinned (OpenSpec.upto curBackSpec)

end Rows
end Go.Proofs.Ytdpnnokchmjflaa
