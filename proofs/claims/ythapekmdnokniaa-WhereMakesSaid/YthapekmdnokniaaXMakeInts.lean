/- 'make([]int, n)'. No conditions beyond the form's own reach. -/
import Derived.Test.YthapekmdnokniaaProg
import Derived.Laws.MakeOwn
import Derived.WalkKit
namespace Go.Proofs.Ythapekmdnokniaa
open Go.RowKit
def zerosI (n : Nat) : Array Value := Array.replicate n (Value.int .i64 0)
theorem intI_info : (Try.prog.info? 3).map (fun i => (i.size, i.bytes, i.zero)) = some (1, 8, some (.int .i64 0)) := by kernel_rfl
theorem made_zeros (n : Nat) : madeCells (Value.int .i64 0).cells (n * 1) = zerosI n := by
  unfold zerosI
  apply Array.ext
  · rw [size_madeCells, Array.size_replicate, Nat.mul_one]
  · intro i h1 h2
    rw [Array.getElem_replicate]
    have h3 : (madeCells (Value.int .i64 0).cells (n * 1))[i]? = some (.int .i64 0) := by
      unfold madeCells
      have hi : i < n * 1 := by simpa using h2
      rw [Array.getElem?_map, Array.getElem?_range, if_pos hi, Option.map_some]
      have key : (#[Value.int .i64 0] : Array Value)[i % 1]! = .int .i64 0 := by rw [Nat.mod_one]; rfl
      exact congrArg some key
    rw [Array.getElem?_eq_getElem h1] at h3
    exact Option.some.inj h3
theorem make_zeros (w : World) (n : Nat) (hn : n ≤ 100000) : (Instr.makeSlice 54 (.int .i64 (n : Int)) (.int .i64 (n : Int))).run Try.prog w = .ok (.slice (some ⟨w.heap.size, 0, none⟩) n n) (w.alloc (.cells (zerosI n) 3)) := by
  obtain ⟨i, hi, h0⟩ := Option.map_eq_some_iff.mp intI_info
  simp only [Prod.mk.injEq] at h0
  obtain ⟨h1, h2, h3⟩ := h0
  have h := run_make (P := Try.prog) w 54 3 i (.int .i64 0) Try.underlying54 hi h3 .i64 .i64 n n (by omega) (by omega) (by rw [h2]; omega) (by omega)
  rw [h1, Int.toNat_natCast, made_zeros] at h
  exact h
end Go.Proofs.Ythapekmdnokniaa
