/-
  No cell of these rows narrows 'for every input' (looked for: loops, veiled, ifaces, maps, wideKeys, modest, calm, conditions, laid).
  DERIVED. THE GIVEN ROWS OF THIS SEAT. 4 by the template 'for every input the law returns true; each argument reads behind the call as it read before'; 0 by the template 'total and deterministic' (their statements: YtdeeakjkhcdkaaaTotals.lean).
  GIVEN WITH THE SEED: the statements are not yours to turn. If you find one false, say at which input.
  Laid BY PROGRAM, IN A SANDBOX (cutbox-rows.mjs): the forced cells as the released guide's own fill.sh prints them over the translation c6742b8f2fd175c9… (all of the seat's roots in one cut). By AI agents, Wed Nov 11 2026. No macro, syntax, notation, axiom, sorry.
-/
import Derived.Test.YtdeeakjkhcdkaaaChecked
import GoSem.Claim
import GoSem.ClaimJoined
import GoSem.ClaimMapViews
import Derived.JoinedTies
import Derived.KernelRfl
namespace Go.Proofs.Ytdeeakjkhcdkaaa
/- THE CELL 'sum', in the pinned program and in every row, IS THE sha256 OF THE DUMP (.gsa) THAT YtdeeakjkhcdkaaaProg.lean LOADS. Nothing in Lean hashes anything: it is a label: what it is worth is what the hold of that sum in a sandbox is worth. -/
noncomputable def Try.pinned : Pinned := { name := "ytdeeakjkhcdkaaa", sum := "c6742b8f2fd175c96d5aa156cd4aa9bda8eb80e9108e429d234ef7c4787a7fbc", checked := Try.checked }
namespace Rows
def none {H : Type} : Left H := { results := [], args := [] }

/-- 'tillrolllaw25.SaleLeft': WHATEVER THE INPUT: true; the input reads as it did. -/
def saleLeftSpec : ChangeSpec := { name := "saleLeft", fn := fun _ => fun
  | [d] => { results := [.lit (.bool true)], args := [d] }
  | _ => none }
def saleLeftRow : OpenClaim := { program := "ytdeeakjkhcdkaaa", sum := "c6742b8f2fd175c96d5aa156cd4aa9bda8eb80e9108e429d234ef7c4787a7fbc", func := "tillroll/tillrolllaw25.SaleLeft", spec := "saleLeft", unfollowed := true, recurses := true, apart := false }
def SaleLeftSaid : Prop := saleLeftRow.holds Try.pinned (OpenSpec.ofChange saleLeftSpec)

/-- ITS FALSE NEIGHBOUR: 'it returns false'. Refute it at one input. -/
def saleLeftWrong : ChangeSpec := { name := "saleLeft", fn := fun _ => fun
  | [d] => { results := [.lit (.bool false)], args := [d] }
  | _ => none }
def SaleLeftWrongFalsely : Prop := saleLeftRow.holds Try.pinned (OpenSpec.ofChange saleLeftWrong)

/-- 'tillrolllaw25.SaleNumbers': WHATEVER THE INPUT: true; the input reads as it did. -/
def saleNumbersSpec : ChangeSpec := { name := "saleNumbers", fn := fun _ => fun
  | [d1, d2] => { results := [.lit (.bool true)], args := [d1, d2] }
  | _ => none }
def saleNumbersRow : OpenClaim := { program := "ytdeeakjkhcdkaaa", sum := "c6742b8f2fd175c96d5aa156cd4aa9bda8eb80e9108e429d234ef7c4787a7fbc", func := "tillroll/tillrolllaw25.SaleNumbers", spec := "saleNumbers", unfollowed := true, recurses := true, apart := false }
def SaleNumbersSaid : Prop := saleNumbersRow.holds Try.pinned (OpenSpec.ofChange saleNumbersSpec)

/-- ITS FALSE NEIGHBOUR: 'it returns false'. Refute it at one input. -/
def saleNumbersWrong : ChangeSpec := { name := "saleNumbers", fn := fun _ => fun
  | [d1, d2] => { results := [.lit (.bool false)], args := [d1, d2] }
  | _ => none }
def SaleNumbersWrongFalsely : Prop := saleNumbersRow.holds Try.pinned (OpenSpec.ofChange saleNumbersWrong)

/-- 'tillrolllaw25.SaleFinds': WHATEVER THE INPUT: true; the input reads as it did. -/
def saleFindsSpec : ChangeSpec := { name := "saleFinds", fn := fun _ => fun
  | [d1, d2, d3] => { results := [.lit (.bool true)], args := [d1, d2, d3] }
  | _ => none }
def saleFindsRow : OpenClaim := { program := "ytdeeakjkhcdkaaa", sum := "c6742b8f2fd175c96d5aa156cd4aa9bda8eb80e9108e429d234ef7c4787a7fbc", func := "tillroll/tillrolllaw25.SaleFinds", spec := "saleFinds", unfollowed := true, recurses := true, apart := false }
def SaleFindsSaid : Prop := saleFindsRow.holds Try.pinned (OpenSpec.ofChange saleFindsSpec)

/-- ITS FALSE NEIGHBOUR: 'it returns false'. Refute it at one input. -/
def saleFindsWrong : ChangeSpec := { name := "saleFinds", fn := fun _ => fun
  | [d1, d2, d3] => { results := [.lit (.bool false)], args := [d1, d2, d3] }
  | _ => none }
def SaleFindsWrongFalsely : Prop := saleFindsRow.holds Try.pinned (OpenSpec.ofChange saleFindsWrong)

/-- 'tillrolllaw25.SaleReads': WHATEVER THE INPUT: true; the input reads as it did. -/
def saleReadsSpec : ChangeSpec := { name := "saleReads", fn := fun _ => fun
  | [d1, d2, d3] => { results := [.lit (.bool true)], args := [d1, d2, d3] }
  | _ => none }
def saleReadsRow : OpenClaim := { program := "ytdeeakjkhcdkaaa", sum := "c6742b8f2fd175c96d5aa156cd4aa9bda8eb80e9108e429d234ef7c4787a7fbc", func := "tillroll/tillrolllaw25.SaleReads", spec := "saleReads", unfollowed := true, recurses := true, apart := false }
def SaleReadsSaid : Prop := saleReadsRow.holds Try.pinned (OpenSpec.ofChange saleReadsSpec)

/-- ITS FALSE NEIGHBOUR: 'it returns false'. Refute it at one input. -/
def saleReadsWrong : ChangeSpec := { name := "saleReads", fn := fun _ => fun
  | [d1, d2, d3] => { results := [.lit (.bool false)], args := [d1, d2, d3] }
  | _ => none }
def SaleReadsWrongFalsely : Prop := saleReadsRow.holds Try.pinned (OpenSpec.ofChange saleReadsWrong)

/- THE SECOND FORM. 'bulk': how many values and letters a reading holds, each counted each time it is reached (what is shared counts as often as it is met; a slice's spare places count too). A statement '..UptoSaid' is the law's where the arguments, and the package variables that the reading takes, are together of bulk at most 1048576: NARROWER than '..Said'. Prove '..Said' where nothing that the law and all that it calls make is longer than what came in: it says more and counts as full. Else prove '..UptoSaid'. A law counts once. -/
mutual
def uptoBulk {H : Type} : DataW H → Nat
  | .lit (.string bytes) => bytes.length + 1
  | .lit _ => 1
  | .nil => 1
  | .ptr d => uptoBulk d + 1
  | .slice elems spare => uptoBulkAll elems + uptoBulkAll spare + 1
  | .agg parts => uptoBulkAll parts + 1
  | .iface _ d => uptoBulk d + 1
  | .map entries => uptoBulkEntries entries + 1
  | .held _ => 1
def uptoBulkAll {H : Type} : List (DataW H) → Nat
  | [] => 0
  | d :: r => uptoBulk d + uptoBulkAll r
def uptoBulkEntries {H : Type} : List (Lit × DataW H) → Nat
  | [] => 0
  | x :: r => uptoBulkEntry x + uptoBulkEntries r
def uptoBulkEntry {H : Type} : Lit × DataW H → Nat
  | (.string bytes, d) => bytes.length + uptoBulk d + 1
  | (_, d) => uptoBulk d + 1
 end
def uptoSmall : (H : Type) → List (DataW H) → Bool := fun _ ds => decide (uptoBulkAll ds ≤ 1048576)
def OpenSpec.upto (s : _root_.Go.ChangeSpec) : _root_.Go.OpenSpec := { _root_.Go.OpenSpec.ofChange s with cond := some uptoSmall }

/-- 'tillrolllaw25.SaleLeft', WHERE WHAT IT READS IS OF BULK AT MOST 1048576: true; the input reads as it did. -/
def saleLeftUptoRow : OpenClaim := { program := "ytdeeakjkhcdkaaa", sum := "c6742b8f2fd175c96d5aa156cd4aa9bda8eb80e9108e429d234ef7c4787a7fbc", func := "tillroll/tillrolllaw25.SaleLeft", spec := "saleLeft", unfollowed := true, recurses := true, apart := false, narrowed := true }
def SaleLeftUptoSaid : Prop := saleLeftUptoRow.holds Try.pinned (OpenSpec.upto saleLeftSpec)

/-- 'tillrolllaw25.SaleNumbers', WHERE WHAT IT READS IS OF BULK AT MOST 1048576: true; the input reads as it did. -/
def saleNumbersUptoRow : OpenClaim := { program := "ytdeeakjkhcdkaaa", sum := "c6742b8f2fd175c96d5aa156cd4aa9bda8eb80e9108e429d234ef7c4787a7fbc", func := "tillroll/tillrolllaw25.SaleNumbers", spec := "saleNumbers", unfollowed := true, recurses := true, apart := false, narrowed := true }
def SaleNumbersUptoSaid : Prop := saleNumbersUptoRow.holds Try.pinned (OpenSpec.upto saleNumbersSpec)

/-- 'tillrolllaw25.SaleFinds', WHERE WHAT IT READS IS OF BULK AT MOST 1048576: true; the input reads as it did. -/
def saleFindsUptoRow : OpenClaim := { program := "ytdeeakjkhcdkaaa", sum := "c6742b8f2fd175c96d5aa156cd4aa9bda8eb80e9108e429d234ef7c4787a7fbc", func := "tillroll/tillrolllaw25.SaleFinds", spec := "saleFinds", unfollowed := true, recurses := true, apart := false, narrowed := true }
def SaleFindsUptoSaid : Prop := saleFindsUptoRow.holds Try.pinned (OpenSpec.upto saleFindsSpec)

/-- 'tillrolllaw25.SaleReads', WHERE WHAT IT READS IS OF BULK AT MOST 1048576: true; the input reads as it did. -/
def saleReadsUptoRow : OpenClaim := { program := "ytdeeakjkhcdkaaa", sum := "c6742b8f2fd175c96d5aa156cd4aa9bda8eb80e9108e429d234ef7c4787a7fbc", func := "tillroll/tillrolllaw25.SaleReads", spec := "saleReads", unfollowed := true, recurses := true, apart := false, narrowed := true }
def SaleReadsUptoSaid : Prop := saleReadsUptoRow.holds Try.pinned (OpenSpec.upto saleReadsSpec)

end Rows
end Go.Proofs.Ytdeeakjkhcdkaaa
