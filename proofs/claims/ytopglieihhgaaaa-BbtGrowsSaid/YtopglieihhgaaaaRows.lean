/-
  No cell of these rows narrows 'for every input' (looked for: loops, veiled, ifaces, maps, wideKeys, modest, calm, conditions, laid).
  DERIVED. THE GIVEN ROWS OF THIS SEAT. 3 by the template 'for every input the law returns true; each argument reads behind the call as it read before'; 0 by the template 'total and deterministic' (their statements: YtopglieihhgaaaaTotals.lean).
  GIVEN WITH THE SEED: the statements are not yours to turn. If you find one false, say at which input.
  Laid BY PROGRAM, IN A SANDBOX (cutbox-rows.mjs): the forced cells as the released guide's own fill.sh prints them over the translation 1ea298513fbc442c… (all of the seat's roots in one cut). By AI agents, Wed Nov 11 2026. No macro, syntax, notation, axiom, sorry.
-/
import Derived.Test.YtopglieihhgaaaaChecked
import GoSem.Claim
import GoSem.ClaimJoined
import GoSem.ClaimMapViews
import Derived.JoinedTies
import Derived.KernelRfl
namespace Go.Proofs.Ytopglieihhgaaaa
/- THE CELL 'sum', in the pinned program and in every row, IS THE sha256 OF THE DUMP (.gsa) THAT YtopglieihhgaaaaProg.lean LOADS. Nothing in Lean hashes anything: it is a label: what it is worth is what the hold of that sum in a sandbox is worth. -/
noncomputable def Try.pinned : Pinned := { name := "ytopglieihhgaaaa", sum := "1ea298513fbc442c65134711441e767348aecf1567b86aabd61d3097b599d73b", checked := Try.checked }
namespace Rows
def none {H : Type} : Left H := { results := [], args := [] }

/-- 'tillrolllaw09.BbtAny': WHATEVER THE INPUT: true; the input reads as it did. -/
def bbtAnySpec : ChangeSpec := { name := "bbtAny", fn := fun _ => fun
  | [d1, d2] => { results := [.lit (.bool true)], args := [d1, d2] }
  | _ => none }
def bbtAnyRow : OpenClaim := { program := "ytopglieihhgaaaa", sum := "1ea298513fbc442c65134711441e767348aecf1567b86aabd61d3097b599d73b", func := "tillroll/tillrolllaw09.BbtAny", spec := "bbtAny", inPlace := ["internal/abi.NoEscape", "internal/bytealg.MakeNoZero"], apart := false }
def BbtAnySaid : Prop := bbtAnyRow.holds Try.pinned (OpenSpec.ofChange bbtAnySpec)

/-- ITS FALSE NEIGHBOUR: 'it returns false'. Refute it at one input. -/
def bbtAnyWrong : ChangeSpec := { name := "bbtAny", fn := fun _ => fun
  | [d1, d2] => { results := [.lit (.bool false)], args := [d1, d2] }
  | _ => none }
def BbtAnyWrongFalsely : Prop := bbtAnyRow.holds Try.pinned (OpenSpec.ofChange bbtAnyWrong)

/-- 'tillrolllaw09.BbtGrows': WHATEVER THE INPUT: true; the input reads as it did. -/
def bbtGrowsSpec : ChangeSpec := { name := "bbtGrows", fn := fun _ => fun
  | [d1, d2, d3] => { results := [.lit (.bool true)], args := [d1, d2, d3] }
  | _ => none }
def bbtGrowsRow : OpenClaim := { program := "ytopglieihhgaaaa", sum := "1ea298513fbc442c65134711441e767348aecf1567b86aabd61d3097b599d73b", func := "tillroll/tillrolllaw09.BbtGrows", spec := "bbtGrows", inPlace := ["internal/abi.NoEscape", "internal/bytealg.MakeNoZero"], apart := false }
def BbtGrowsSaid : Prop := bbtGrowsRow.holds Try.pinned (OpenSpec.ofChange bbtGrowsSpec)

/-- ITS FALSE NEIGHBOUR: 'it returns false'. Refute it at one input. -/
def bbtGrowsWrong : ChangeSpec := { name := "bbtGrows", fn := fun _ => fun
  | [d1, d2, d3] => { results := [.lit (.bool false)], args := [d1, d2, d3] }
  | _ => none }
def BbtGrowsWrongFalsely : Prop := bbtGrowsRow.holds Try.pinned (OpenSpec.ofChange bbtGrowsWrong)

/-- 'tillrolllaw09.BbtBack': WHATEVER THE INPUT: true; the input reads as it did. -/
def bbtBackSpec : ChangeSpec := { name := "bbtBack", fn := fun _ => fun
  | [d1, d2, d3] => { results := [.lit (.bool true)], args := [d1, d2, d3] }
  | _ => none }
def bbtBackRow : OpenClaim := { program := "ytopglieihhgaaaa", sum := "1ea298513fbc442c65134711441e767348aecf1567b86aabd61d3097b599d73b", func := "tillroll/tillrolllaw09.BbtBack", spec := "bbtBack", inPlace := ["internal/abi.NoEscape", "internal/bytealg.MakeNoZero"], apart := false }
def BbtBackSaid : Prop := bbtBackRow.holds Try.pinned (OpenSpec.ofChange bbtBackSpec)

/-- ITS FALSE NEIGHBOUR: 'it returns false'. Refute it at one input. -/
def bbtBackWrong : ChangeSpec := { name := "bbtBack", fn := fun _ => fun
  | [d1, d2, d3] => { results := [.lit (.bool false)], args := [d1, d2, d3] }
  | _ => none }
def BbtBackWrongFalsely : Prop := bbtBackRow.holds Try.pinned (OpenSpec.ofChange bbtBackWrong)

/- THE SECOND FORM. 'bulk': how many values and letters a reading holds, each counted each time it is reached (what is shared counts as often as it is met; a slice's spare places count too). A statement '..UptoSaid' is the law's where the arguments, and the package variables that the reading takes, are together of bulk at most 1048576: NARROWER than '..Said'. Prove '..Said' where nothing that the law and all that it calls make is longer than what came in: it says more and counts as full. Else prove '..UptoSaid'. A law counts once. -/
mutual
def uptoBulk {H : Type} : DataW H → Nat
  | .lit (.string bytes) => bytes.length + 1
  | .lit _ => 1
  | .nil => 1
  | .ptr d => uptoBulk d + 1
  | .slice elems spare => uptoBulkAll elems + uptoBulkAll spare + 1
  | .agg parts => uptoBulkAll parts + 1
  | .iface _ d => uptoBulk d + 1
  | .map entries => uptoBulkEntries entries + 1
  | .held _ => 1
def uptoBulkAll {H : Type} : List (DataW H) → Nat
  | [] => 0
  | d :: r => uptoBulk d + uptoBulkAll r
def uptoBulkEntries {H : Type} : List (Lit × DataW H) → Nat
  | [] => 0
  | x :: r => uptoBulkEntry x + uptoBulkEntries r
def uptoBulkEntry {H : Type} : Lit × DataW H → Nat
  | (.string bytes, d) => bytes.length + uptoBulk d + 1
  | (_, d) => uptoBulk d + 1
 end
def uptoSmall : (H : Type) → List (DataW H) → Bool := fun _ ds => decide (uptoBulkAll ds ≤ 1048576)
def OpenSpec.upto (s : _root_.Go.ChangeSpec) : _root_.Go.OpenSpec := { _root_.Go.OpenSpec.ofChange s with cond := some uptoSmall }

/-- 'tillrolllaw09.BbtAny', WHERE WHAT IT READS IS OF BULK AT MOST 1048576: true; the input reads as it did. -/
def bbtAnyUptoRow : OpenClaim := { program := "ytopglieihhgaaaa", sum := "1ea298513fbc442c65134711441e767348aecf1567b86aabd61d3097b599d73b", func := "tillroll/tillrolllaw09.BbtAny", spec := "bbtAny", inPlace := ["internal/abi.NoEscape", "internal/bytealg.MakeNoZero"], apart := false, narrowed := true }
def BbtAnyUptoSaid : Prop := bbtAnyUptoRow.holds Try.pinned (OpenSpec.upto bbtAnySpec)

/-- 'tillrolllaw09.BbtGrows', WHERE WHAT IT READS IS OF BULK AT MOST 1048576: true; the input reads as it did. -/
def bbtGrowsUptoRow : OpenClaim := { program := "ytopglieihhgaaaa", sum := "1ea298513fbc442c65134711441e767348aecf1567b86aabd61d3097b599d73b", func := "tillroll/tillrolllaw09.BbtGrows", spec := "bbtGrows", inPlace := ["internal/abi.NoEscape", "internal/bytealg.MakeNoZero"], apart := false, narrowed := true }
def BbtGrowsUptoSaid : Prop := bbtGrowsUptoRow.holds Try.pinned (OpenSpec.upto bbtGrowsSpec)

/-- 'tillrolllaw09.BbtBack', WHERE WHAT IT READS IS OF BULK AT MOST 1048576: true; the input reads as it did. -/
def bbtBackUptoRow : OpenClaim := { program := "ytopglieihhgaaaa", sum := "1ea298513fbc442c65134711441e767348aecf1567b86aabd61d3097b599d73b", func := "tillroll/tillrolllaw09.BbtBack", spec := "bbtBack", inPlace := ["internal/abi.NoEscape", "internal/bytealg.MakeNoZero"], apart := false, narrowed := true }
def BbtBackUptoSaid : Prop := bbtBackUptoRow.holds Try.pinned (OpenSpec.upto bbtBackSpec)

end Rows
end Go.Proofs.Ytopglieihhgaaaa
