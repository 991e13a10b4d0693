/-
  No cell of these rows narrows 'for every input' (looked for: loops, veiled, ifaces, maps, wideKeys, modest, calm, conditions, laid).
  DERIVED. THE GIVEN ROWS OF THIS SEAT. 5 by the template 'for every input the law returns true; each argument reads behind the call as it read before'; 0 by the template 'total and deterministic' (their statements: YtogaopfkmmnkiaaTotals.lean).
  GIVEN WITH THE SEED: the statements are not yours to turn. If you find one false, say at which input.
  Laid BY PROGRAM, IN A SANDBOX (cutbox-rows.mjs): the forced cells as the released guide's own fill.sh prints them over the translation 970896c84f07746f… (all of the seat's roots in one cut). By AI agents, Wed Nov 11 2026. No macro, syntax, notation, axiom, sorry.
-/
import Derived.Test.YtogaopfkmmnkiaaChecked
import GoSem.Claim
import GoSem.ClaimJoined
import GoSem.ClaimMapViews
import Derived.JoinedTies
import Derived.KernelRfl
namespace Go.Proofs.Ytogaopfkmmnkiaa
/- THE CELL 'sum', in the pinned program and in every row, IS THE sha256 OF THE DUMP (.gsa) THAT YtogaopfkmmnkiaaProg.lean LOADS. Nothing in Lean hashes anything: it is a label: what it is worth is what the hold of that sum in a sandbox is worth. -/
noncomputable def Try.pinned : Pinned := { name := "ytogaopfkmmnkiaa", sum := "970896c84f07746f643dffc8b5487e92578d6e52b9a14e9dc41c9a39b8c220d6", checked := Try.checked }
namespace Rows
def none {H : Type} : Left H := { results := [], args := [] }

/-- 'tillrolllaw01.BePuts': WHATEVER THE INPUT: true; the input reads as it did. -/
def bePutsSpec : ChangeSpec := { name := "bePuts", fn := fun _ => fun
  | [d1, d2, d3] => { results := [.lit (.bool true)], args := [d1, d2, d3] }
  | _ => none }
def bePutsRow : OpenClaim := { program := "ytogaopfkmmnkiaa", sum := "970896c84f07746f643dffc8b5487e92578d6e52b9a14e9dc41c9a39b8c220d6", func := "tillroll/tillrolllaw01.BePuts", spec := "bePuts", apart := false }
def BePutsSaid : Prop := bePutsRow.holds Try.pinned (OpenSpec.ofChange bePutsSpec)

/-- ITS FALSE NEIGHBOUR: 'it returns false'. Refute it at one input. -/
def bePutsWrong : ChangeSpec := { name := "bePuts", fn := fun _ => fun
  | [d1, d2, d3] => { results := [.lit (.bool false)], args := [d1, d2, d3] }
  | _ => none }
def BePutsWrongFalsely : Prop := bePutsRow.holds Try.pinned (OpenSpec.ofChange bePutsWrong)

/-- 'tillrolllaw01.BeFits': WHATEVER THE INPUT: true; the input reads as it did. -/
def beFitsSpec : ChangeSpec := { name := "beFits", fn := fun _ => fun
  | [d1, d2] => { results := [.lit (.bool true)], args := [d1, d2] }
  | _ => none }
def beFitsRow : OpenClaim := { program := "ytogaopfkmmnkiaa", sum := "970896c84f07746f643dffc8b5487e92578d6e52b9a14e9dc41c9a39b8c220d6", func := "tillroll/tillrolllaw01.BeFits", spec := "beFits", apart := false }
def BeFitsSaid : Prop := beFitsRow.holds Try.pinned (OpenSpec.ofChange beFitsSpec)

/-- ITS FALSE NEIGHBOUR: 'it returns false'. Refute it at one input. -/
def beFitsWrong : ChangeSpec := { name := "beFits", fn := fun _ => fun
  | [d1, d2] => { results := [.lit (.bool false)], args := [d1, d2] }
  | _ => none }
def BeFitsWrongFalsely : Prop := beFitsRow.holds Try.pinned (OpenSpec.ofChange beFitsWrong)

/-- 'tillrolllaw01.BeBack': WHATEVER THE INPUT: true; the input reads as it did. -/
def beBackSpec : ChangeSpec := { name := "beBack", fn := fun _ => fun
  | [d1, d2, d3] => { results := [.lit (.bool true)], args := [d1, d2, d3] }
  | _ => none }
def beBackRow : OpenClaim := { program := "ytogaopfkmmnkiaa", sum := "970896c84f07746f643dffc8b5487e92578d6e52b9a14e9dc41c9a39b8c220d6", func := "tillroll/tillrolllaw01.BeBack", spec := "beBack", apart := false }
def BeBackSaid : Prop := beBackRow.holds Try.pinned (OpenSpec.ofChange beBackSpec)

/-- ITS FALSE NEIGHBOUR: 'it returns false'. Refute it at one input. -/
def beBackWrong : ChangeSpec := { name := "beBack", fn := fun _ => fun
  | [d1, d2, d3] => { results := [.lit (.bool false)], args := [d1, d2, d3] }
  | _ => none }
def BeBackWrongFalsely : Prop := beBackRow.holds Try.pinned (OpenSpec.ofChange beBackWrong)

/-- 'tillrolllaw01.BeOrder': WHATEVER THE INPUT: true; the input reads as it did. -/
def beOrderSpec : ChangeSpec := { name := "beOrder", fn := fun _ => fun
  | [d1, d2, d3] => { results := [.lit (.bool true)], args := [d1, d2, d3] }
  | _ => none }
def beOrderRow : OpenClaim := { program := "ytogaopfkmmnkiaa", sum := "970896c84f07746f643dffc8b5487e92578d6e52b9a14e9dc41c9a39b8c220d6", func := "tillroll/tillrolllaw01.BeOrder", spec := "beOrder", apart := false }
def BeOrderSaid : Prop := beOrderRow.holds Try.pinned (OpenSpec.ofChange beOrderSpec)

/-- ITS FALSE NEIGHBOUR: 'it returns false'. Refute it at one input. -/
def beOrderWrong : ChangeSpec := { name := "beOrder", fn := fun _ => fun
  | [d1, d2, d3] => { results := [.lit (.bool false)], args := [d1, d2, d3] }
  | _ => none }
def BeOrderWrongFalsely : Prop := beOrderRow.holds Try.pinned (OpenSpec.ofChange beOrderWrong)

/-- 'tillrolllaw01.BeJoins': WHATEVER THE INPUT: true; the input reads as it did. -/
def beJoinsSpec : ChangeSpec := { name := "beJoins", fn := fun _ => fun
  | [d1, d2] => { results := [.lit (.bool true)], args := [d1, d2] }
  | _ => none }
def beJoinsRow : OpenClaim := { program := "ytogaopfkmmnkiaa", sum := "970896c84f07746f643dffc8b5487e92578d6e52b9a14e9dc41c9a39b8c220d6", func := "tillroll/tillrolllaw01.BeJoins", spec := "beJoins", apart := false }
def BeJoinsSaid : Prop := beJoinsRow.holds Try.pinned (OpenSpec.ofChange beJoinsSpec)

/-- ITS FALSE NEIGHBOUR: 'it returns false'. Refute it at one input. -/
def beJoinsWrong : ChangeSpec := { name := "beJoins", fn := fun _ => fun
  | [d1, d2] => { results := [.lit (.bool false)], args := [d1, d2] }
  | _ => none }
def BeJoinsWrongFalsely : Prop := beJoinsRow.holds Try.pinned (OpenSpec.ofChange beJoinsWrong)

/- THE SECOND FORM. 'bulk': how many values and letters a reading holds, each counted each time it is reached (what is shared counts as often as it is met; a slice's spare places count too). A statement '..UptoSaid' is the law's where the arguments, and the package variables that the reading takes, are together of bulk at most 1048576: NARROWER than '..Said'. Prove '..Said' where nothing that the law and all that it calls make is longer than what came in: it says more and counts as full. Else prove '..UptoSaid'. A law counts once. -/
mutual
def uptoBulk {H : Type} : DataW H → Nat
  | .lit (.string bytes) => bytes.length + 1
  | .lit _ => 1
  | .nil => 1
  | .ptr d => uptoBulk d + 1
  | .slice elems spare => uptoBulkAll elems + uptoBulkAll spare + 1
  | .agg parts => uptoBulkAll parts + 1
  | .iface _ d => uptoBulk d + 1
  | .map entries => uptoBulkEntries entries + 1
  | .held _ => 1
def uptoBulkAll {H : Type} : List (DataW H) → Nat
  | [] => 0
  | d :: r => uptoBulk d + uptoBulkAll r
def uptoBulkEntries {H : Type} : List (Lit × DataW H) → Nat
  | [] => 0
  | x :: r => uptoBulkEntry x + uptoBulkEntries r
def uptoBulkEntry {H : Type} : Lit × DataW H → Nat
  | (.string bytes, d) => bytes.length + uptoBulk d + 1
  | (_, d) => uptoBulk d + 1
 end
def uptoSmall : (H : Type) → List (DataW H) → Bool := fun _ ds => decide (uptoBulkAll ds ≤ 1048576)
def OpenSpec.upto (s : _root_.Go.ChangeSpec) : _root_.Go.OpenSpec := { _root_.Go.OpenSpec.ofChange s with cond := some uptoSmall }

/-- 'tillrolllaw01.BePuts', WHERE WHAT IT READS IS OF BULK AT MOST 1048576: true; the input reads as it did. -/
def bePutsUptoRow : OpenClaim := { program := "ytogaopfkmmnkiaa", sum := "970896c84f07746f643dffc8b5487e92578d6e52b9a14e9dc41c9a39b8c220d6", func := "tillroll/tillrolllaw01.BePuts", spec := "bePuts", apart := false, narrowed := true }
def BePutsUptoSaid : Prop := bePutsUptoRow.holds Try.pinned (OpenSpec.upto bePutsSpec)

/-- 'tillrolllaw01.BeFits', WHERE WHAT IT READS IS OF BULK AT MOST 1048576: true; the input reads as it did. -/
def beFitsUptoRow : OpenClaim := { program := "ytogaopfkmmnkiaa", sum := "970896c84f07746f643dffc8b5487e92578d6e52b9a14e9dc41c9a39b8c220d6", func := "tillroll/tillrolllaw01.BeFits", spec := "beFits", apart := false, narrowed := true }
def BeFitsUptoSaid : Prop := beFitsUptoRow.holds Try.pinned (OpenSpec.upto beFitsSpec)

/-- 'tillrolllaw01.BeBack', WHERE WHAT IT READS IS OF BULK AT MOST 1048576: true; the input reads as it did. -/
def beBackUptoRow : OpenClaim := { program := "ytogaopfkmmnkiaa", sum := "970896c84f07746f643dffc8b5487e92578d6e52b9a14e9dc41c9a39b8c220d6", func := "tillroll/tillrolllaw01.BeBack", spec := "beBack", apart := false, narrowed := true }
def BeBackUptoSaid : Prop := beBackUptoRow.holds Try.pinned (OpenSpec.upto beBackSpec)

/-- 'tillrolllaw01.BeOrder', WHERE WHAT IT READS IS OF BULK AT MOST 1048576: true; the input reads as it did. -/
def beOrderUptoRow : OpenClaim := { program := "ytogaopfkmmnkiaa", sum := "970896c84f07746f643dffc8b5487e92578d6e52b9a14e9dc41c9a39b8c220d6", func := "tillroll/tillrolllaw01.BeOrder", spec := "beOrder", apart := false, narrowed := true }
def BeOrderUptoSaid : Prop := beOrderUptoRow.holds Try.pinned (OpenSpec.upto beOrderSpec)

/-- 'tillrolllaw01.BeJoins', WHERE WHAT IT READS IS OF BULK AT MOST 1048576: true; the input reads as it did. -/
def beJoinsUptoRow : OpenClaim := { program := "ytogaopfkmmnkiaa", sum := "970896c84f07746f643dffc8b5487e92578d6e52b9a14e9dc41c9a39b8c220d6", func := "tillroll/tillrolllaw01.BeJoins", spec := "beJoins", apart := false, narrowed := true }
def BeJoinsUptoSaid : Prop := beJoinsUptoRow.holds Try.pinned (OpenSpec.upto beJoinsSpec)

end Rows
end Go.Proofs.Ytogaopfkmmnkiaa
