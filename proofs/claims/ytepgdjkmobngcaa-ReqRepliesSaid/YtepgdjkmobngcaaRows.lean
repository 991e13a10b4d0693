/-
  No cell of these rows narrows 'for every input' (looked for: loops, veiled, ifaces, maps, wideKeys, modest, calm, conditions, laid).
  DERIVED. THE GIVEN ROWS OF THIS SEAT. 4 by the template 'for every input the law returns true; each argument reads behind the call as it read before'; 0 by the template 'total and deterministic' (their statements: YtepgdjkmobngcaaTotals.lean).
  GIVEN WITH THE SEED: the statements are not yours to turn. If you find one false, say at which input.
  Laid BY PROGRAM, IN A SANDBOX (cutbox-rows.mjs): the forced cells as the released guide's own fill.sh prints them over the translation f341c1a77b7247d5… (all of the seat's roots in one cut). By AI agents, Wed Nov 11 2026. No macro, syntax, notation, axiom, sorry.
-/
import Derived.Test.YtepgdjkmobngcaaChecked
import GoSem.Claim
import GoSem.ClaimJoined
import GoSem.ClaimMapViews
import Derived.JoinedTies
import Derived.KernelRfl
namespace Go.Proofs.Ytepgdjkmobngcaa
/- THE CELL 'sum', in the pinned program and in every row, IS THE sha256 OF THE DUMP (.gsa) THAT YtepgdjkmobngcaaProg.lean LOADS. Nothing in Lean hashes anything: it is a label: what it is worth is what the hold of that sum in a sandbox is worth. -/
noncomputable def Try.pinned : Pinned := { name := "ytepgdjkmobngcaa", sum := "f341c1a77b7247d573181298e5903cf0c5e770389105f24b73b1028a23902fe8", checked := Try.checked }
namespace Rows
def none {H : Type} : Left H := { results := [], args := [] }

/-- 'tillrolllaw28.ReqRequests': WHATEVER THE INPUT: true; the input reads as it did. -/
def reqRequestsSpec : ChangeSpec := { name := "reqRequests", fn := fun _ => fun
  | [d1, d2, d3] => { results := [.lit (.bool true)], args := [d1, d2, d3] }
  | _ => none }
def reqRequestsRow : OpenClaim := { program := "ytepgdjkmobngcaa", sum := "f341c1a77b7247d573181298e5903cf0c5e770389105f24b73b1028a23902fe8", func := "tillroll/tillrolllaw28.ReqRequests", spec := "reqRequests", apart := false }
def ReqRequestsSaid : Prop := reqRequestsRow.holds Try.pinned (OpenSpec.ofChange reqRequestsSpec)

/-- ITS FALSE NEIGHBOUR: 'it returns false'. Refute it at one input. -/
def reqRequestsWrong : ChangeSpec := { name := "reqRequests", fn := fun _ => fun
  | [d1, d2, d3] => { results := [.lit (.bool false)], args := [d1, d2, d3] }
  | _ => none }
def ReqRequestsWrongFalsely : Prop := reqRequestsRow.holds Try.pinned (OpenSpec.ofChange reqRequestsWrong)

/-- 'tillrolllaw28.ReqBack': WHATEVER THE INPUT: true; the input reads as it did. -/
def reqBackSpec : ChangeSpec := { name := "reqBack", fn := fun _ => fun
  | [d1, d2] => { results := [.lit (.bool true)], args := [d1, d2] }
  | _ => none }
def reqBackRow : OpenClaim := { program := "ytepgdjkmobngcaa", sum := "f341c1a77b7247d573181298e5903cf0c5e770389105f24b73b1028a23902fe8", func := "tillroll/tillrolllaw28.ReqBack", spec := "reqBack", apart := false }
def ReqBackSaid : Prop := reqBackRow.holds Try.pinned (OpenSpec.ofChange reqBackSpec)

/-- ITS FALSE NEIGHBOUR: 'it returns false'. Refute it at one input. -/
def reqBackWrong : ChangeSpec := { name := "reqBack", fn := fun _ => fun
  | [d1, d2] => { results := [.lit (.bool false)], args := [d1, d2] }
  | _ => none }
def ReqBackWrongFalsely : Prop := reqBackRow.holds Try.pinned (OpenSpec.ofChange reqBackWrong)

/-- 'tillrolllaw28.ReqReplies': WHATEVER THE INPUT: true; the input reads as it did. -/
def reqRepliesSpec : ChangeSpec := { name := "reqReplies", fn := fun _ => fun
  | [d1, d2, d3] => { results := [.lit (.bool true)], args := [d1, d2, d3] }
  | _ => none }
def reqRepliesRow : OpenClaim := { program := "ytepgdjkmobngcaa", sum := "f341c1a77b7247d573181298e5903cf0c5e770389105f24b73b1028a23902fe8", func := "tillroll/tillrolllaw28.ReqReplies", spec := "reqReplies", apart := false }
def ReqRepliesSaid : Prop := reqRepliesRow.holds Try.pinned (OpenSpec.ofChange reqRepliesSpec)

/-- ITS FALSE NEIGHBOUR: 'it returns false'. Refute it at one input. -/
def reqRepliesWrong : ChangeSpec := { name := "reqReplies", fn := fun _ => fun
  | [d1, d2, d3] => { results := [.lit (.bool false)], args := [d1, d2, d3] }
  | _ => none }
def ReqRepliesWrongFalsely : Prop := reqRepliesRow.holds Try.pinned (OpenSpec.ofChange reqRepliesWrong)

/-- 'tillrolllaw28.ReqCut': WHATEVER THE INPUT: true; the input reads as it did. -/
def reqCutSpec : ChangeSpec := { name := "reqCut", fn := fun _ => fun
  | [d1, d2, d3] => { results := [.lit (.bool true)], args := [d1, d2, d3] }
  | _ => none }
def reqCutRow : OpenClaim := { program := "ytepgdjkmobngcaa", sum := "f341c1a77b7247d573181298e5903cf0c5e770389105f24b73b1028a23902fe8", func := "tillroll/tillrolllaw28.ReqCut", spec := "reqCut", apart := false }
def ReqCutSaid : Prop := reqCutRow.holds Try.pinned (OpenSpec.ofChange reqCutSpec)

/-- ITS FALSE NEIGHBOUR: 'it returns false'. Refute it at one input. -/
def reqCutWrong : ChangeSpec := { name := "reqCut", fn := fun _ => fun
  | [d1, d2, d3] => { results := [.lit (.bool false)], args := [d1, d2, d3] }
  | _ => none }
def ReqCutWrongFalsely : Prop := reqCutRow.holds Try.pinned (OpenSpec.ofChange reqCutWrong)

/- THE SECOND FORM. 'bulk': how many values and letters a reading holds, each counted each time it is reached (what is shared counts as often as it is met; a slice's spare places count too). A statement '..UptoSaid' is the law's where the arguments, and the package variables that the reading takes, are together of bulk at most 1048576: NARROWER than '..Said'. Prove '..Said' where nothing that the law and all that it calls make is longer than what came in: it says more and counts as full. Else prove '..UptoSaid'. A law counts once. -/
mutual
def uptoBulk {H : Type} : DataW H → Nat
  | .lit (.string bytes) => bytes.length + 1
  | .lit _ => 1
  | .nil => 1
  | .ptr d => uptoBulk d + 1
  | .slice elems spare => uptoBulkAll elems + uptoBulkAll spare + 1
  | .agg parts => uptoBulkAll parts + 1
  | .iface _ d => uptoBulk d + 1
  | .map entries => uptoBulkEntries entries + 1
  | .held _ => 1
def uptoBulkAll {H : Type} : List (DataW H) → Nat
  | [] => 0
  | d :: r => uptoBulk d + uptoBulkAll r
def uptoBulkEntries {H : Type} : List (Lit × DataW H) → Nat
  | [] => 0
  | x :: r => uptoBulkEntry x + uptoBulkEntries r
def uptoBulkEntry {H : Type} : Lit × DataW H → Nat
  | (.string bytes, d) => bytes.length + uptoBulk d + 1
  | (_, d) => uptoBulk d + 1
 end
def uptoSmall : (H : Type) → List (DataW H) → Bool := fun _ ds => decide (uptoBulkAll ds ≤ 1048576)
def OpenSpec.upto (s : _root_.Go.ChangeSpec) : _root_.Go.OpenSpec := { _root_.Go.OpenSpec.ofChange s with cond := some uptoSmall }

/-- 'tillrolllaw28.ReqRequests', WHERE WHAT IT READS IS OF BULK AT MOST 1048576: true; the input reads as it did. -/
def reqRequestsUptoRow : OpenClaim := { program := "ytepgdjkmobngcaa", sum := "f341c1a77b7247d573181298e5903cf0c5e770389105f24b73b1028a23902fe8", func := "tillroll/tillrolllaw28.ReqRequests", spec := "reqRequests", apart := false, narrowed := true }
def ReqRequestsUptoSaid : Prop := reqRequestsUptoRow.holds Try.pinned (OpenSpec.upto reqRequestsSpec)

/-- 'tillrolllaw28.ReqBack', WHERE WHAT IT READS IS OF BULK AT MOST 1048576: true; the input reads as it did. -/
def reqBackUptoRow : OpenClaim := { program := "ytepgdjkmobngcaa", sum := "f341c1a77b7247d573181298e5903cf0c5e770389105f24b73b1028a23902fe8", func := "tillroll/tillrolllaw28.ReqBack", spec := "reqBack", apart := false, narrowed := true }
def ReqBackUptoSaid : Prop := reqBackUptoRow.holds Try.pinned (OpenSpec.upto reqBackSpec)

/-- 'tillrolllaw28.ReqReplies', WHERE WHAT IT READS IS OF BULK AT MOST 1048576: true; the input reads as it did. -/
def reqRepliesUptoRow : OpenClaim := { program := "ytepgdjkmobngcaa", sum := "f341c1a77b7247d573181298e5903cf0c5e770389105f24b73b1028a23902fe8", func := "tillroll/tillrolllaw28.ReqReplies", spec := "reqReplies", apart := false, narrowed := true }
def ReqRepliesUptoSaid : Prop := reqRepliesUptoRow.holds Try.pinned (OpenSpec.upto reqRepliesSpec)

/-- 'tillrolllaw28.ReqCut', WHERE WHAT IT READS IS OF BULK AT MOST 1048576: true; the input reads as it did. -/
def reqCutUptoRow : OpenClaim := { program := "ytepgdjkmobngcaa", sum := "f341c1a77b7247d573181298e5903cf0c5e770389105f24b73b1028a23902fe8", func := "tillroll/tillrolllaw28.ReqCut", spec := "reqCut", apart := false, narrowed := true }
def ReqCutUptoSaid : Prop := reqCutUptoRow.holds Try.pinned (OpenSpec.upto reqCutSpec)

end Rows
end Go.Proofs.Ytepgdjkmobngcaa
