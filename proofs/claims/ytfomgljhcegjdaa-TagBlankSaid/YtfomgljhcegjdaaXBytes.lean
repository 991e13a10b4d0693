/- Bytes in a block of the call's own: made of a text, read, written, made a text again. No conditions beyond the form's own reach. -/
import Derived.Test.YtfomgljhcegjdaaWMore
import Derived.Test.YtfomgljhcegjdaaProg
import Derived.WalkKit
import Derived.Lib.Hide
import Derived.Lib.ConvBytes
import Derived.Laws.BytesArg
namespace Go.Proofs.Ytfomgljhcegjdaa
open Go.RowKit Go.Proofs.YtfomgljhcegjdaaW.PrintWords
set_option linter.unusedVariables false
set_option linter.unusedSimpArgs false
/-- Bytes in a block, to be read and written. -/
def ByAt (w : World) (g : Nat) (l : List UInt8) : Prop := ∀ j, j < l.length → w.cell? ⟨g, j, none⟩ = some (.int .u8 (((l.getD j 0).toNat : Nat) : Int)) ∧ w.frozen? ⟨g, j, none⟩ = false

theorem ByAt.set {w : World} {g : Nat} {l : List UInt8} (h : ByAt w g l) {q : Nat} (hq : q < l.length) (y : UInt8) : ByAt (w.setCell ⟨g, q, none⟩ (.int .u8 ((y.toNat : Nat) : Int))) g (l.set q y) := by
  intro j hj
  rw [List.length_set] at hj
  refine ⟨?_, by rw [World.frozen?_setCell]; exact (h j hj).2⟩
  by_cases c : q = j
  · subst c
    rw [World.cell?_setCell_same' _ _ _ (by rw [(h q hq).1]; rfl)]
    simp [List.getD_eq_getElem?_getD, hq]
  · rw [World.cell?_setCell_other _ _ _ _ (by intro e; injection e with _ e2 _; exact c e2), (h j hj).1]
    simp [List.getD_eq_getElem?_getD, c]
theorem ByAt.below {w w' : World} {g : Nat} {l : List UInt8} (h : ByAt w g l) (hb : Below w.heap.size w w') : ByAt w' g l := fun j hj =>
  ⟨pw_cell_below hb (h j hj).1, (hb.frozen (p := ⟨g, j, none⟩) (World.block_lt_of_cell? w _ (h j hj).1)).trans (h j hj).2⟩
theorem ByAt.made (w : World) (s : ByteArray) : ByAt (Lib.bytesWorld w 5 s) w.heap.size s.data.toList := by
  intro j hj
  have hj2 : j < s.size := by rw [Array.length_toList] at hj; exact hj
  refine ⟨Lib.bytesWorld_cell w 5 s j hj2, ?_⟩
  unfold World.frozen?
  rw [Lib.bytesWorld_at_new]
  have hs : s.size ≤ (Lib.bytesCells w 5 s).size := by
    unfold Lib.bytesCells
    rw [Array.size_append, Array.size_map]
    exact Nat.le_add_right _ _
  have h1 : ¬ (Lib.bytesCells w 5 s).size ≤ j := by omega
  simp [h1]
theorem bytes_below {B : Nat} {a w : World} (h : Below B a w) (hB : B ≤ w.heap.size) (s : ByteArray) : Below B a (Lib.bytesWorld w 5 s) :=
  h.trans ⟨rfl, rfl, rfl, by rw [Lib.bytesWorld_size]; omega, fun k hk => Lib.bytesWorld_at_old w 5 s k (by omega)⟩
theorem ByAt.conv {w : World} {g cap : Nat} {l : List UInt8} (h : ByAt w g l) : (convert 52 9 (.slice (some ⟨g, 0, none⟩) l.length cap)).run Try.prog w = .ok (.string ⟨l.toArray⟩) w := by
  have e := run_convert_bytes_arg (P := Try.prog) w 52 5 Try.underlying52 Try.underlying5 g 0 l.length cap (l.map fun b => ((b.toNat : Nat) : Int)) (by simp) (fun i hi => by
    rw [Nat.zero_add, (h i hi).1]
    simp [List.getD_eq_getElem?_getD, hi]) 9 Try.underlying9
  rw [e]
  unfold strOfNums
  rw [List.map_map]
  have hid : (fun n : Int => UInt8.ofNat n.toNat) ∘ (fun b : UInt8 => ((b.toNat : Nat) : Int)) = id := by
    funext b
    simp [Function.comp]
  rw [hid, List.map_id]

theorem xor8_v (x : UInt8) (m : Nat) (hm : m < 256) : Go.bits .xor .u8 ((x.toNat : Nat) : Int) ((m : Nat) : Int) = (((x ^^^ UInt8.ofNat m).toNat : Nat) : Int) := by
  have h1 : BitVec.ofNat 8 x.toNat = x.toBitVec := by
    apply BitVec.eq_of_toNat_eq
    rw [BitVec.toNat_ofNat]
    exact Nat.mod_eq_of_lt x.toNat_lt
  unfold Go.bits
  simp only [IntKind.bits, BitVec.ofInt_natCast]
  rw [IntKind.wrap_u8, h1]
  have := (x.toBitVec ^^^ BitVec.ofNat 8 m).isLt
  change (((x.toBitVec ^^^ BitVec.ofNat 8 m).toNat : Nat) : Int) % 256 = (((x.toBitVec ^^^ BitVec.ofNat 8 m).toNat : Nat) : Int)
  omega
theorem ByAt.convN {w : World} {g cap n : Nat} {l : List UInt8} (h : ByAt w g l) (hn : n ≤ l.length) : (convert 52 9 (.slice (some ⟨g, 0, none⟩) n cap)).run Try.prog w = .ok (.string ⟨(l.take n).toArray⟩) w := by
  have hl : (l.take n).length = n := by rw [List.length_take]; exact Nat.min_eq_left hn
  have h2 : ByAt w g (l.take n) := fun j hj => by
    rw [hl] at hj
    have := h j (Nat.lt_of_lt_of_le hj hn)
    rwa [show (l.take n).getD j 0 = l.getD j 0 by simp [List.getD_eq_getElem?_getD, List.getElem?_take, hj]]
  have := h2.conv (cap := cap)
  rwa [hl] at this
theorem ByAt.convAt {w : World} {g cap : Nat} {l : List UInt8} (h : ByAt w g l) (off n : Nat) (hn : n = (l.drop off).length) : (convert 52 9 (.slice (some ⟨g, off, none⟩) n cap)).run Try.prog w = .ok (.string ⟨(l.drop off).toArray⟩) w := by
  subst hn
  have e := run_convert_bytes_arg (P := Try.prog) w 52 5 Try.underlying52 Try.underlying5 g off (l.drop off).length cap ((l.drop off).map fun b => ((b.toNat : Nat) : Int)) (by simp) (fun i hi => by
    have hi2 : off + i < l.length := by rw [List.length_drop] at hi; omega
    rw [(h (off + i) hi2).1]
    simp [List.getD_eq_getElem?_getD, List.getElem?_drop, hi2]) 9 Try.underlying9
  rw [e]
  unfold strOfNums
  rw [List.map_map]
  have hid : (fun n : Int => UInt8.ofNat n.toNat) ∘ (fun b : UInt8 => ((b.toNat : Nat) : Int)) = id := by
    funext b
    simp [Function.comp]
  rw [hid, List.map_id]
end Go.Proofs.Ytfomgljhcegjdaa
