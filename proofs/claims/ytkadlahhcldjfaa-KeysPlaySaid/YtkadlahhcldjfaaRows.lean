/-
  No cell of these rows narrows 'for every input' (looked for: loops, veiled, ifaces, maps, wideKeys, modest, calm, conditions, laid).
  DERIVED. THE GIVEN ROWS OF THIS SEAT. 3 by the template 'for every input the law returns true; each argument reads behind the call as it read before'; 0 by the template 'total and deterministic' (their statements: YtkadlahhcldjfaaTotals.lean).
  GIVEN WITH THE SEED: the statements are not yours to turn. If you find one false, say at which input.
  Laid BY PROGRAM, IN A SANDBOX (cutbox-rows.mjs): the forced cells as the released guide's own fill.sh prints them over the translation 1287ce485f6efae4… (all of the seat's roots in one cut). By AI agents, Wed Nov 11 2026. No macro, syntax, notation, axiom, sorry.
-/
import Derived.Test.YtkadlahhcldjfaaChecked
import GoSem.Claim
import GoSem.ClaimJoined
import GoSem.ClaimMapViews
import Derived.JoinedTies
import Derived.KernelRfl
namespace Go.Proofs.Ytkadlahhcldjfaa
/- THE CELL 'sum', in the pinned program and in every row, IS THE sha256 OF THE DUMP (.gsa) THAT YtkadlahhcldjfaaProg.lean LOADS. Nothing in Lean hashes anything: it is a label: what it is worth is what the hold of that sum in a sandbox is worth. -/
noncomputable def Try.pinned : Pinned := { name := "ytkadlahhcldjfaa", sum := "1287ce485f6efae428614ee37c7b4a7d0066718b3e3957e0305e1c75dd293d6e", checked := Try.checked }
namespace Rows
def none {H : Type} : Left H := { results := [], args := [] }

/-- 'tillrolllaw24.KeysLast': WHATEVER THE INPUT: true; the input reads as it did. -/
def keysLastSpec : ChangeSpec := { name := "keysLast", fn := fun _ => fun
  | [d1, d2, d3] => { results := [.lit (.bool true)], args := [d1, d2, d3] }
  | _ => none }
def keysLastRow : OpenClaim := { program := "ytkadlahhcldjfaa", sum := "1287ce485f6efae428614ee37c7b4a7d0066718b3e3957e0305e1c75dd293d6e", func := "tillroll/tillrolllaw24.KeysLast", spec := "keysLast", unfollowed := true, recurses := true, apart := false }
def KeysLastSaid : Prop := keysLastRow.holds Try.pinned (OpenSpec.ofChange keysLastSpec)

/-- ITS FALSE NEIGHBOUR: 'it returns false'. Refute it at one input. -/
def keysLastWrong : ChangeSpec := { name := "keysLast", fn := fun _ => fun
  | [d1, d2, d3] => { results := [.lit (.bool false)], args := [d1, d2, d3] }
  | _ => none }
def KeysLastWrongFalsely : Prop := keysLastRow.holds Try.pinned (OpenSpec.ofChange keysLastWrong)

/-- 'tillrolllaw24.KeysOrder': WHATEVER THE INPUT: true; the input reads as it did. -/
def keysOrderSpec : ChangeSpec := { name := "keysOrder", fn := fun _ => fun
  | [d1, d2] => { results := [.lit (.bool true)], args := [d1, d2] }
  | _ => none }
def keysOrderRow : OpenClaim := { program := "ytkadlahhcldjfaa", sum := "1287ce485f6efae428614ee37c7b4a7d0066718b3e3957e0305e1c75dd293d6e", func := "tillroll/tillrolllaw24.KeysOrder", spec := "keysOrder", unfollowed := true, recurses := true, apart := false }
def KeysOrderSaid : Prop := keysOrderRow.holds Try.pinned (OpenSpec.ofChange keysOrderSpec)

/-- ITS FALSE NEIGHBOUR: 'it returns false'. Refute it at one input. -/
def keysOrderWrong : ChangeSpec := { name := "keysOrder", fn := fun _ => fun
  | [d1, d2] => { results := [.lit (.bool false)], args := [d1, d2] }
  | _ => none }
def KeysOrderWrongFalsely : Prop := keysOrderRow.holds Try.pinned (OpenSpec.ofChange keysOrderWrong)

/-- 'tillrolllaw24.KeysPlay': WHATEVER THE INPUT: true; the input reads as it did. -/
def keysPlaySpec : ChangeSpec := { name := "keysPlay", fn := fun _ => fun
  | [d1, d2, d3] => { results := [.lit (.bool true)], args := [d1, d2, d3] }
  | _ => none }
def keysPlayRow : OpenClaim := { program := "ytkadlahhcldjfaa", sum := "1287ce485f6efae428614ee37c7b4a7d0066718b3e3957e0305e1c75dd293d6e", func := "tillroll/tillrolllaw24.KeysPlay", spec := "keysPlay", unfollowed := true, recurses := true, apart := false }
def KeysPlaySaid : Prop := keysPlayRow.holds Try.pinned (OpenSpec.ofChange keysPlaySpec)

/-- ITS FALSE NEIGHBOUR: 'it returns false'. Refute it at one input. -/
def keysPlayWrong : ChangeSpec := { name := "keysPlay", fn := fun _ => fun
  | [d1, d2, d3] => { results := [.lit (.bool false)], args := [d1, d2, d3] }
  | _ => none }
def KeysPlayWrongFalsely : Prop := keysPlayRow.holds Try.pinned (OpenSpec.ofChange keysPlayWrong)

/- THE SECOND FORM. 'bulk': how many values and letters a reading holds, each counted each time it is reached (what is shared counts as often as it is met; a slice's spare places count too). A statement '..UptoSaid' is the law's where the arguments, and the package variables that the reading takes, are together of bulk at most 1048576: NARROWER than '..Said'. Prove '..Said' where nothing that the law and all that it calls make is longer than what came in: it says more and counts as full. Else prove '..UptoSaid'. A law counts once. -/
mutual
def uptoBulk {H : Type} : DataW H → Nat
  | .lit (.string bytes) => bytes.length + 1
  | .lit _ => 1
  | .nil => 1
  | .ptr d => uptoBulk d + 1
  | .slice elems spare => uptoBulkAll elems + uptoBulkAll spare + 1
  | .agg parts => uptoBulkAll parts + 1
  | .iface _ d => uptoBulk d + 1
  | .map entries => uptoBulkEntries entries + 1
  | .held _ => 1
def uptoBulkAll {H : Type} : List (DataW H) → Nat
  | [] => 0
  | d :: r => uptoBulk d + uptoBulkAll r
def uptoBulkEntries {H : Type} : List (Lit × DataW H) → Nat
  | [] => 0
  | x :: r => uptoBulkEntry x + uptoBulkEntries r
def uptoBulkEntry {H : Type} : Lit × DataW H → Nat
  | (.string bytes, d) => bytes.length + uptoBulk d + 1
  | (_, d) => uptoBulk d + 1
 end
def uptoSmall : (H : Type) → List (DataW H) → Bool := fun _ ds => decide (uptoBulkAll ds ≤ 1048576)
def OpenSpec.upto (s : _root_.Go.ChangeSpec) : _root_.Go.OpenSpec := { _root_.Go.OpenSpec.ofChange s with cond := some uptoSmall }

/-- 'tillrolllaw24.KeysLast', WHERE WHAT IT READS IS OF BULK AT MOST 1048576: true; the input reads as it did. -/
def keysLastUptoRow : OpenClaim := { program := "ytkadlahhcldjfaa", sum := "1287ce485f6efae428614ee37c7b4a7d0066718b3e3957e0305e1c75dd293d6e", func := "tillroll/tillrolllaw24.KeysLast", spec := "keysLast", unfollowed := true, recurses := true, apart := false, narrowed := true }
def KeysLastUptoSaid : Prop := keysLastUptoRow.holds Try.pinned (OpenSpec.upto keysLastSpec)

/-- 'tillrolllaw24.KeysOrder', WHERE WHAT IT READS IS OF BULK AT MOST 1048576: true; the input reads as it did. -/
def keysOrderUptoRow : OpenClaim := { program := "ytkadlahhcldjfaa", sum := "1287ce485f6efae428614ee37c7b4a7d0066718b3e3957e0305e1c75dd293d6e", func := "tillroll/tillrolllaw24.KeysOrder", spec := "keysOrder", unfollowed := true, recurses := true, apart := false, narrowed := true }
def KeysOrderUptoSaid : Prop := keysOrderUptoRow.holds Try.pinned (OpenSpec.upto keysOrderSpec)

/-- 'tillrolllaw24.KeysPlay', WHERE WHAT IT READS IS OF BULK AT MOST 1048576: true; the input reads as it did. -/
def keysPlayUptoRow : OpenClaim := { program := "ytkadlahhcldjfaa", sum := "1287ce485f6efae428614ee37c7b4a7d0066718b3e3957e0305e1c75dd293d6e", func := "tillroll/tillrolllaw24.KeysPlay", spec := "keysPlay", unfollowed := true, recurses := true, apart := false, narrowed := true }
def KeysPlayUptoSaid : Prop := keysPlayUptoRow.holds Try.pinned (OpenSpec.upto keysPlaySpec)

end Rows
end Go.Proofs.Ytkadlahhcldjfaa
