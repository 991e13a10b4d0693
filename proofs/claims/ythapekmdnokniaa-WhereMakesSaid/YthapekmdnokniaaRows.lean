/-
  No cell of these rows narrows 'for every input' (looked for: loops, veiled, ifaces, maps, wideKeys, modest, calm, conditions, laid).
  DERIVED. THE GIVEN ROWS OF THIS SEAT. 4 by the template 'for every input the law returns true; each argument reads behind the call as it read before'; 0 by the template 'total and deterministic' (their statements: YthapekmdnokniaaTotals.lean).
  GIVEN WITH THE SEED: the statements are not yours to turn. If you find one false, say at which input.
  Laid BY PROGRAM, IN A SANDBOX (cutbox-rows.mjs): the forced cells as the released guide's own fill.sh prints them over the translation 3d02e1e96f61023b… (all of the seat's roots in one cut). By AI agents, Wed Nov 11 2026. No macro, syntax, notation, axiom, sorry.
-/
import Derived.Test.YthapekmdnokniaaChecked
import GoSem.Claim
import GoSem.ClaimJoined
import GoSem.ClaimMapViews
import Derived.JoinedTies
import Derived.KernelRfl
namespace Go.Proofs.Ythapekmdnokniaa
/- THE CELL 'sum', in the pinned program and in every row, IS THE sha256 OF THE DUMP (.gsa) THAT YthapekmdnokniaaProg.lean LOADS. Nothing in Lean hashes anything: it is a label: what it is worth is what the hold of that sum in a sandbox is worth. -/
noncomputable def Try.pinned : Pinned := { name := "ythapekmdnokniaa", sum := "3d02e1e96f61023b279d7e30f25a5bc68820e55ded3de55840d9836c3a4b6286", checked := Try.checked }
namespace Rows
def none {H : Type} : Left H := { results := [], args := [] }

/-- 'tillrolllaw12.WhereAgrees': WHATEVER THE INPUT: true; the input reads as it did. -/
def whereAgreesSpec : ChangeSpec := { name := "whereAgrees", fn := fun _ => fun
  | [d] => { results := [.lit (.bool true)], args := [d] }
  | _ => none }
def whereAgreesRow : OpenClaim := { program := "ythapekmdnokniaa", sum := "3d02e1e96f61023b279d7e30f25a5bc68820e55ded3de55840d9836c3a4b6286", func := "tillroll/tillrolllaw12.WhereAgrees", spec := "whereAgrees", plainKeys := false, apart := false }
def WhereAgreesSaid : Prop := whereAgreesRow.holds Try.pinned (OpenSpec.ofChange whereAgreesSpec)

/-- ITS FALSE NEIGHBOUR: 'it returns false'. Refute it at one input. -/
def whereAgreesWrong : ChangeSpec := { name := "whereAgrees", fn := fun _ => fun
  | [d] => { results := [.lit (.bool false)], args := [d] }
  | _ => none }
def WhereAgreesWrongFalsely : Prop := whereAgreesRow.holds Try.pinned (OpenSpec.ofChange whereAgreesWrong)

/-- 'tillrolllaw12.WhereBack': WHATEVER THE INPUT: true; the input reads as it did. -/
def whereBackSpec : ChangeSpec := { name := "whereBack", fn := fun _ => fun
  | [d1, d2, d3] => { results := [.lit (.bool true)], args := [d1, d2, d3] }
  | _ => none }
def whereBackRow : OpenClaim := { program := "ythapekmdnokniaa", sum := "3d02e1e96f61023b279d7e30f25a5bc68820e55ded3de55840d9836c3a4b6286", func := "tillroll/tillrolllaw12.WhereBack", spec := "whereBack", plainKeys := false, apart := false }
def WhereBackSaid : Prop := whereBackRow.holds Try.pinned (OpenSpec.ofChange whereBackSpec)

/-- ITS FALSE NEIGHBOUR: 'it returns false'. Refute it at one input. -/
def whereBackWrong : ChangeSpec := { name := "whereBack", fn := fun _ => fun
  | [d1, d2, d3] => { results := [.lit (.bool false)], args := [d1, d2, d3] }
  | _ => none }
def WhereBackWrongFalsely : Prop := whereBackRow.holds Try.pinned (OpenSpec.ofChange whereBackWrong)

/-- 'tillrolllaw12.WherePlays': WHATEVER THE INPUT: true; the input reads as it did. -/
def wherePlaysSpec : ChangeSpec := { name := "wherePlays", fn := fun _ => fun
  | [d1, d2] => { results := [.lit (.bool true)], args := [d1, d2] }
  | _ => none }
def wherePlaysRow : OpenClaim := { program := "ythapekmdnokniaa", sum := "3d02e1e96f61023b279d7e30f25a5bc68820e55ded3de55840d9836c3a4b6286", func := "tillroll/tillrolllaw12.WherePlays", spec := "wherePlays", unfollowed := true, recurses := true, plainKeys := false, apart := false }
def WherePlaysSaid : Prop := wherePlaysRow.holds Try.pinned (OpenSpec.ofChange wherePlaysSpec)

/-- ITS FALSE NEIGHBOUR: 'it returns false'. Refute it at one input. -/
def wherePlaysWrong : ChangeSpec := { name := "wherePlays", fn := fun _ => fun
  | [d1, d2] => { results := [.lit (.bool false)], args := [d1, d2] }
  | _ => none }
def WherePlaysWrongFalsely : Prop := wherePlaysRow.holds Try.pinned (OpenSpec.ofChange wherePlaysWrong)

/-- 'tillrolllaw12.WhereMakes': WHATEVER THE INPUT: true; the input reads as it did. -/
def whereMakesSpec : ChangeSpec := { name := "whereMakes", fn := fun _ => fun
  | [d1, d2] => { results := [.lit (.bool true)], args := [d1, d2] }
  | _ => none }
def whereMakesRow : OpenClaim := { program := "ythapekmdnokniaa", sum := "3d02e1e96f61023b279d7e30f25a5bc68820e55ded3de55840d9836c3a4b6286", func := "tillroll/tillrolllaw12.WhereMakes", spec := "whereMakes", unfollowed := true, recurses := true, plainKeys := false, apart := false }
def WhereMakesSaid : Prop := whereMakesRow.holds Try.pinned (OpenSpec.ofChange whereMakesSpec)

/-- ITS FALSE NEIGHBOUR: 'it returns false'. Refute it at one input. -/
def whereMakesWrong : ChangeSpec := { name := "whereMakes", fn := fun _ => fun
  | [d1, d2] => { results := [.lit (.bool false)], args := [d1, d2] }
  | _ => none }
def WhereMakesWrongFalsely : Prop := whereMakesRow.holds Try.pinned (OpenSpec.ofChange whereMakesWrong)

/- THE SECOND FORM. 'bulk': how many values and letters a reading holds, each counted each time it is reached (what is shared counts as often as it is met; a slice's spare places count too). A statement '..UptoSaid' is the law's where the arguments, and the package variables that the reading takes, are together of bulk at most 1048576: NARROWER than '..Said'. Prove '..Said' where nothing that the law and all that it calls make is longer than what came in: it says more and counts as full. Else prove '..UptoSaid'. A law counts once. -/
mutual
def uptoBulk {H : Type} : DataW H → Nat
  | .lit (.string bytes) => bytes.length + 1
  | .lit _ => 1
  | .nil => 1
  | .ptr d => uptoBulk d + 1
  | .slice elems spare => uptoBulkAll elems + uptoBulkAll spare + 1
  | .agg parts => uptoBulkAll parts + 1
  | .iface _ d => uptoBulk d + 1
  | .map entries => uptoBulkEntries entries + 1
  | .held _ => 1
def uptoBulkAll {H : Type} : List (DataW H) → Nat
  | [] => 0
  | d :: r => uptoBulk d + uptoBulkAll r
def uptoBulkEntries {H : Type} : List (Lit × DataW H) → Nat
  | [] => 0
  | x :: r => uptoBulkEntry x + uptoBulkEntries r
def uptoBulkEntry {H : Type} : Lit × DataW H → Nat
  | (.string bytes, d) => bytes.length + uptoBulk d + 1
  | (_, d) => uptoBulk d + 1
 end
def uptoSmall : (H : Type) → List (DataW H) → Bool := fun _ ds => decide (uptoBulkAll ds ≤ 1048576)
def OpenSpec.upto (s : _root_.Go.ChangeSpec) : _root_.Go.OpenSpec := { _root_.Go.OpenSpec.ofChange s with cond := some uptoSmall }

/-- 'tillrolllaw12.WhereAgrees', WHERE WHAT IT READS IS OF BULK AT MOST 1048576: true; the input reads as it did. -/
def whereAgreesUptoRow : OpenClaim := { program := "ythapekmdnokniaa", sum := "3d02e1e96f61023b279d7e30f25a5bc68820e55ded3de55840d9836c3a4b6286", func := "tillroll/tillrolllaw12.WhereAgrees", spec := "whereAgrees", plainKeys := false, apart := false, narrowed := true }
def WhereAgreesUptoSaid : Prop := whereAgreesUptoRow.holds Try.pinned (OpenSpec.upto whereAgreesSpec)

/-- 'tillrolllaw12.WhereBack', WHERE WHAT IT READS IS OF BULK AT MOST 1048576: true; the input reads as it did. -/
def whereBackUptoRow : OpenClaim := { program := "ythapekmdnokniaa", sum := "3d02e1e96f61023b279d7e30f25a5bc68820e55ded3de55840d9836c3a4b6286", func := "tillroll/tillrolllaw12.WhereBack", spec := "whereBack", plainKeys := false, apart := false, narrowed := true }
def WhereBackUptoSaid : Prop := whereBackUptoRow.holds Try.pinned (OpenSpec.upto whereBackSpec)

/-- 'tillrolllaw12.WherePlays', WHERE WHAT IT READS IS OF BULK AT MOST 1048576: true; the input reads as it did. -/
def wherePlaysUptoRow : OpenClaim := { program := "ythapekmdnokniaa", sum := "3d02e1e96f61023b279d7e30f25a5bc68820e55ded3de55840d9836c3a4b6286", func := "tillroll/tillrolllaw12.WherePlays", spec := "wherePlays", unfollowed := true, recurses := true, plainKeys := false, apart := false, narrowed := true }
def WherePlaysUptoSaid : Prop := wherePlaysUptoRow.holds Try.pinned (OpenSpec.upto wherePlaysSpec)

/-- 'tillrolllaw12.WhereMakes', WHERE WHAT IT READS IS OF BULK AT MOST 1048576: true; the input reads as it did. -/
def whereMakesUptoRow : OpenClaim := { program := "ythapekmdnokniaa", sum := "3d02e1e96f61023b279d7e30f25a5bc68820e55ded3de55840d9836c3a4b6286", func := "tillroll/tillrolllaw12.WhereMakes", spec := "whereMakes", unfollowed := true, recurses := true, plainKeys := false, apart := false, narrowed := true }
def WhereMakesUptoSaid : Prop := whereMakesUptoRow.holds Try.pinned (OpenSpec.upto whereMakesSpec)

end Rows
end Go.Proofs.Ythapekmdnokniaa
