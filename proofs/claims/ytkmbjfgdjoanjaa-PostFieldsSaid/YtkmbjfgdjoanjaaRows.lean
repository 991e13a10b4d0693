/-
  No cell of these rows narrows 'for every input' (looked for: loops, veiled, ifaces, maps, wideKeys, modest, calm, conditions, laid).
  DERIVED. THE GIVEN ROWS OF THIS SEAT. 4 by the template 'for every input the law returns true; each argument reads behind the call as it read before'; 0 by the template 'total and deterministic' (their statements: YtkmbjfgdjoanjaaTotals.lean).
  GIVEN WITH THE SEED: the statements are not yours to turn. If you find one false, say at which input.
  Laid BY PROGRAM, IN A SANDBOX (cutbox-rows.mjs): the forced cells as the released guide's own fill.sh prints them over the translation 2a26c1245427fa14… (all of the seat's roots in one cut). By AI agents, Wed Nov 11 2026. No macro, syntax, notation, axiom, sorry.
-/
import Derived.Test.YtkmbjfgdjoanjaaChecked
import GoSem.Claim
import GoSem.ClaimJoined
import GoSem.ClaimMapViews
import Derived.JoinedTies
import Derived.KernelRfl
namespace Go.Proofs.Ytkmbjfgdjoanjaa
/- THE CELL 'sum', in the pinned program and in every row, IS THE sha256 OF THE DUMP (.gsa) THAT YtkmbjfgdjoanjaaProg.lean LOADS. Nothing in Lean hashes anything: it is a label: what it is worth is what the hold of that sum in a sandbox is worth. -/
noncomputable def Try.pinned : Pinned := { name := "ytkmbjfgdjoanjaa", sum := "2a26c1245427fa14d862d62da9ff6d772cf0158ee15e625e730ad9a8a66a8282", checked := Try.checked }
namespace Rows
def none {H : Type} : Left H := { results := [], args := [] }

/-- 'tillrolllaw22.PostChecks': WHATEVER THE INPUT: true; the input reads as it did. -/
def postChecksSpec : ChangeSpec := { name := "postChecks", fn := fun _ => fun
  | [d1, d2] => { results := [.lit (.bool true)], args := [d1, d2] }
  | _ => none }
def postChecksRow : OpenClaim := { program := "ytkmbjfgdjoanjaa", sum := "2a26c1245427fa14d862d62da9ff6d772cf0158ee15e625e730ad9a8a66a8282", func := "tillroll/tillrolllaw22.PostChecks", spec := "postChecks", inPlace := ["math/bits.Add64"], unfollowed := true, recurses := true, apart := false }
def PostChecksSaid : Prop := postChecksRow.holds Try.pinned (OpenSpec.ofChange postChecksSpec)

/-- ITS FALSE NEIGHBOUR: 'it returns false'. Refute it at one input. -/
def postChecksWrong : ChangeSpec := { name := "postChecks", fn := fun _ => fun
  | [d1, d2] => { results := [.lit (.bool false)], args := [d1, d2] }
  | _ => none }
def PostChecksWrongFalsely : Prop := postChecksRow.holds Try.pinned (OpenSpec.ofChange postChecksWrong)

/-- 'tillrolllaw22.PostTurns': WHATEVER THE INPUT: true; the input reads as it did. -/
def postTurnsSpec : ChangeSpec := { name := "postTurns", fn := fun _ => fun
  | [d] => { results := [.lit (.bool true)], args := [d] }
  | _ => none }
def postTurnsRow : OpenClaim := { program := "ytkmbjfgdjoanjaa", sum := "2a26c1245427fa14d862d62da9ff6d772cf0158ee15e625e730ad9a8a66a8282", func := "tillroll/tillrolllaw22.PostTurns", spec := "postTurns", inPlace := ["math/bits.Add64"], unfollowed := true, recurses := true, apart := false }
def PostTurnsSaid : Prop := postTurnsRow.holds Try.pinned (OpenSpec.ofChange postTurnsSpec)

/-- ITS FALSE NEIGHBOUR: 'it returns false'. Refute it at one input. -/
def postTurnsWrong : ChangeSpec := { name := "postTurns", fn := fun _ => fun
  | [d] => { results := [.lit (.bool false)], args := [d] }
  | _ => none }
def PostTurnsWrongFalsely : Prop := postTurnsRow.holds Try.pinned (OpenSpec.ofChange postTurnsWrong)

/-- 'tillrolllaw22.PostOrder': WHATEVER THE INPUT: true; the input reads as it did. -/
def postOrderSpec : ChangeSpec := { name := "postOrder", fn := fun _ => fun
  | [d1, d2, d3] => { results := [.lit (.bool true)], args := [d1, d2, d3] }
  | _ => none }
def postOrderRow : OpenClaim := { program := "ytkmbjfgdjoanjaa", sum := "2a26c1245427fa14d862d62da9ff6d772cf0158ee15e625e730ad9a8a66a8282", func := "tillroll/tillrolllaw22.PostOrder", spec := "postOrder", inPlace := ["math/bits.Add64"], unfollowed := true, recurses := true, apart := false }
def PostOrderSaid : Prop := postOrderRow.holds Try.pinned (OpenSpec.ofChange postOrderSpec)

/-- ITS FALSE NEIGHBOUR: 'it returns false'. Refute it at one input. -/
def postOrderWrong : ChangeSpec := { name := "postOrder", fn := fun _ => fun
  | [d1, d2, d3] => { results := [.lit (.bool false)], args := [d1, d2, d3] }
  | _ => none }
def PostOrderWrongFalsely : Prop := postOrderRow.holds Try.pinned (OpenSpec.ofChange postOrderWrong)

/-- 'tillrolllaw22.PostFields': WHATEVER THE INPUT: true; the input reads as it did. -/
def postFieldsSpec : ChangeSpec := { name := "postFields", fn := fun _ => fun
  | [d1, d2] => { results := [.lit (.bool true)], args := [d1, d2] }
  | _ => none }
def postFieldsRow : OpenClaim := { program := "ytkmbjfgdjoanjaa", sum := "2a26c1245427fa14d862d62da9ff6d772cf0158ee15e625e730ad9a8a66a8282", func := "tillroll/tillrolllaw22.PostFields", spec := "postFields", inPlace := ["math/bits.Add64"], unfollowed := true, recurses := true, apart := false }
def PostFieldsSaid : Prop := postFieldsRow.holds Try.pinned (OpenSpec.ofChange postFieldsSpec)

/-- ITS FALSE NEIGHBOUR: 'it returns false'. Refute it at one input. -/
def postFieldsWrong : ChangeSpec := { name := "postFields", fn := fun _ => fun
  | [d1, d2] => { results := [.lit (.bool false)], args := [d1, d2] }
  | _ => none }
def PostFieldsWrongFalsely : Prop := postFieldsRow.holds Try.pinned (OpenSpec.ofChange postFieldsWrong)

/- THE SECOND FORM. 'bulk': how many values and letters a reading holds, each counted each time it is reached (what is shared counts as often as it is met; a slice's spare places count too). A statement '..UptoSaid' is the law's where the arguments, and the package variables that the reading takes, are together of bulk at most 1048576: NARROWER than '..Said'. Prove '..Said' where nothing that the law and all that it calls make is longer than what came in: it says more and counts as full. Else prove '..UptoSaid'. A law counts once. -/
mutual
def uptoBulk {H : Type} : DataW H → Nat
  | .lit (.string bytes) => bytes.length + 1
  | .lit _ => 1
  | .nil => 1
  | .ptr d => uptoBulk d + 1
  | .slice elems spare => uptoBulkAll elems + uptoBulkAll spare + 1
  | .agg parts => uptoBulkAll parts + 1
  | .iface _ d => uptoBulk d + 1
  | .map entries => uptoBulkEntries entries + 1
  | .held _ => 1
def uptoBulkAll {H : Type} : List (DataW H) → Nat
  | [] => 0
  | d :: r => uptoBulk d + uptoBulkAll r
def uptoBulkEntries {H : Type} : List (Lit × DataW H) → Nat
  | [] => 0
  | x :: r => uptoBulkEntry x + uptoBulkEntries r
def uptoBulkEntry {H : Type} : Lit × DataW H → Nat
  | (.string bytes, d) => bytes.length + uptoBulk d + 1
  | (_, d) => uptoBulk d + 1
 end
def uptoSmall : (H : Type) → List (DataW H) → Bool := fun _ ds => decide (uptoBulkAll ds ≤ 1048576)
def OpenSpec.upto (s : _root_.Go.ChangeSpec) : _root_.Go.OpenSpec := { _root_.Go.OpenSpec.ofChange s with cond := some uptoSmall }

/-- 'tillrolllaw22.PostChecks', WHERE WHAT IT READS IS OF BULK AT MOST 1048576: true; the input reads as it did. -/
def postChecksUptoRow : OpenClaim := { program := "ytkmbjfgdjoanjaa", sum := "2a26c1245427fa14d862d62da9ff6d772cf0158ee15e625e730ad9a8a66a8282", func := "tillroll/tillrolllaw22.PostChecks", spec := "postChecks", inPlace := ["math/bits.Add64"], unfollowed := true, recurses := true, apart := false, narrowed := true }
def PostChecksUptoSaid : Prop := postChecksUptoRow.holds Try.pinned (OpenSpec.upto postChecksSpec)

/-- 'tillrolllaw22.PostTurns', WHERE WHAT IT READS IS OF BULK AT MOST 1048576: true; the input reads as it did. -/
def postTurnsUptoRow : OpenClaim := { program := "ytkmbjfgdjoanjaa", sum := "2a26c1245427fa14d862d62da9ff6d772cf0158ee15e625e730ad9a8a66a8282", func := "tillroll/tillrolllaw22.PostTurns", spec := "postTurns", inPlace := ["math/bits.Add64"], unfollowed := true, recurses := true, apart := false, narrowed := true }
def PostTurnsUptoSaid : Prop := postTurnsUptoRow.holds Try.pinned (OpenSpec.upto postTurnsSpec)

/-- 'tillrolllaw22.PostOrder', WHERE WHAT IT READS IS OF BULK AT MOST 1048576: true; the input reads as it did. -/
def postOrderUptoRow : OpenClaim := { program := "ytkmbjfgdjoanjaa", sum := "2a26c1245427fa14d862d62da9ff6d772cf0158ee15e625e730ad9a8a66a8282", func := "tillroll/tillrolllaw22.PostOrder", spec := "postOrder", inPlace := ["math/bits.Add64"], unfollowed := true, recurses := true, apart := false, narrowed := true }
def PostOrderUptoSaid : Prop := postOrderUptoRow.holds Try.pinned (OpenSpec.upto postOrderSpec)

/-- 'tillrolllaw22.PostFields', WHERE WHAT IT READS IS OF BULK AT MOST 1048576: true; the input reads as it did. -/
def postFieldsUptoRow : OpenClaim := { program := "ytkmbjfgdjoanjaa", sum := "2a26c1245427fa14d862d62da9ff6d772cf0158ee15e625e730ad9a8a66a8282", func := "tillroll/tillrolllaw22.PostFields", spec := "postFields", inPlace := ["math/bits.Add64"], unfollowed := true, recurses := true, apart := false, narrowed := true }
def PostFieldsUptoSaid : Prop := postFieldsUptoRow.holds Try.pinned (OpenSpec.upto postFieldsSpec)

end Rows
end Go.Proofs.Ytkmbjfgdjoanjaa
