/- TagBlank: which pages are erased, and which tell that a block is bad from the factory, is the document's answer; neither has a tag. No conditions beyond the form's own reach. -/
import Derived.Test.YtfomgljhcegjdaaXTagC
import Derived.Test.YtfomgljhcegjdaaXBytes
import Derived.Deep.Cut
namespace Go.Proofs.Ytfomgljhcegjdaa
open Go.RowKit Go.Lib Go.Proofs.Ytfomgljhcegjdaa.P Go.Proofs.Ytfomgljhcegjdaa.BeS Go.Proofs.Ytfomgljhcegjdaa.PoS Go.Proofs.YtfomgljhcegjdaaW.PrintWords Go.Proofs.YtfomgljhcegjdaaW.PrintLast Go.Proofs.YtfomgljhcegjdaaW.PrintMore
set_option linter.unusedVariables false
set_option linter.unusedSimpArgs false
--@tables
def blankB (l : List UInt8) : Bool := l.all (· == 255)
theorem repeat_ff (n : Nat) : (⟨(Lib.repeatL (⟨#[255]⟩ : ByteArray).data.toList n).toArray⟩ : ByteArray) = str (List.replicate n 255) := by
  have h : ∀ n, Lib.repeatL [(255 : UInt8)] n = List.replicate n 255 := by
    intro n
    induction n with
    | zero => rfl
    | succ n ih => rw [List.replicate_succ, ← ih]; rfl
  show (⟨(Lib.repeatL [(255 : UInt8)] n).toArray⟩ : ByteArray) = _
  rw [h]; rfl
theorem blank_eq (l : List UInt8) : (l == List.replicate l.length 255) = blankB l := by
  unfold blankB
  induction l with
  | nil => rfl
  | cons c l ih =>
    rw [List.length_cons, List.replicate_succ, List.all_cons, ← ih]
    rfl
theorem blankB_iff (l : List UInt8) : blankB l = true ↔ ∀ c ∈ l, c = 255 := by unfold blankB; simp
theorem blankB_append (l m : List UInt8) : blankB (l ++ m) = (blankB l && blankB m) := by unfold blankB; rw [List.all_append]
theorem bool_ret {a b : Bool} (h : a = b) : Ending.returned (.bool a) = .returned (.bool b) := by rw [h]
set_option maxHeartbeats 4000000 in
theorem blank_ok (d b : ByteArray) (hd0 : d.size ≤ 10000) (hb0 : b.size ≤ 10000) (w : World) :
    Calls Try.prog 18 #[.string d, .string b] w fun e w' => e = .returned (.bool (blankB (d.data.toList ++ b.data.toList))) ∧ Below w.heap.size w w' := by
  have hA : ¬ (9223372036854775807 : Int) < (d.size : Int) + (b.size : Int) := by omega
  have hA2 : ¬ 9223372036854775807 < d.size + b.size := by omega
  have HD := Lib.hid (And.intro hd0 hb0); clear hd0 hb0
  have hz : ((d ++ b).size : Int) = ((d.size + b.size : Nat) : Int) := by rw [ByteArray.size_append]
  go_enter Try.func18, Try.ntmps18
  go_wp2_with fail
  have HS := Lib.hid (show (d ++ b).data.toList = d.data.toList ++ b.data.toList by simp)
  refine (sh_strings_Repeat ⟨#[255]⟩ (d.size + b.size) w (by have := HD.out; omega) (by have := HD.out; show 1 * (d.size + b.size) ≤ _; omega)).mono ?_
  rintro e w1 ⟨rfl, hd⟩
  have HB := Lib.hid hd; clear hd hA hA2 hz
  have hq : ((d ++ b).toList == (⟨(Lib.repeatL (⟨#[255]⟩ : ByteArray).data.toList (d.size + b.size)).toArray⟩ : ByteArray).toList) = blankB (d.data.toList ++ b.data.toList) := by
    rw [repeat_ff, str_toList, Go.Proofs.Ytfomgljhcegjdaa.BeS.toList_data, HS.out, ← blank_eq, List.length_append, Array.length_toList, Array.length_toList]
    rfl
  generalize (⟨(Lib.repeatL (⟨#[255]⟩ : ByteArray).data.toList (d.size + b.size)).toArray⟩ : ByteArray) = R at hq ⊢
  generalize hBB : blankB (d.data.toList ++ b.data.toList) = B at hq
  have HBB := Lib.hid hBB; clear hBB
  go_wp2_with fail
  go_ret
  exact ⟨bool_ret HBB.out.symm, HB.out⟩
def factB (l : List UInt8) : Bool := decide (l.length = 32) && !(Lib.hasPrefix l [255])
theorem fact_ok (b : ByteArray) (w : World) : Calls Try.prog 19 #[.string b] w fun e w' => e = .returned (.bool (factB b.data.toList)) ∧ Below w.heap.size w w' := by
  by_cases h : b.size = 32
  · have hf : factB b.data.toList = !(Lib.hasPrefix b.data.toList [255]) := by unfold factB; rw [decide_eq_true (by rw [Array.length_toList]; exact h)]; rfl
    have hi : (b.size : Int) = 32 := by omega
    have HF := Lib.hid hf; clear hf
    go_enter Try.func19, Try.ntmps19
    go_wp2_with fail
    refine (sh_strings_HasPrefix b ⟨#[255]⟩ w).mono ?_
    rintro e w1 ⟨rfl, rfl⟩
    generalize hp : Lib.hasPrefix b.data.toList (⟨#[255]⟩ : ByteArray).data.toList = p
    have HP := Lib.hid (show Lib.hasPrefix b.data.toList [255] = p from hp); clear hp
    go_wp2_with fail
    go_ret
    exact ⟨bool_ret (by rw [HF.out, HP.out]), Below.refl _ _⟩
  · have hf : factB b.data.toList = false := by unfold factB; rw [decide_eq_false (by rw [Array.length_toList]; exact h)]; rfl
    have h1 : ((b.size : Int) == 32) = false := by simp; omega
    have h2 : ((b.size : Int) = 32) = False := eq_false (by omega)
    have h3 : (b.size = 32) = False := eq_false h
    have HF := Lib.hid hf; clear hf h
    go_enter Try.func19, Try.ntmps19
    go_wp2_with fail
    go_ret
    exact ⟨bool_ret (by rw [HF.out]), Below.refl _ _⟩
end Go.Proofs.Ytfomgljhcegjdaa
