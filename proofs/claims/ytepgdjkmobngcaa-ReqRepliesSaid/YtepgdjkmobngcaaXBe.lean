/- be.Put: the bytes of a number, most significant first: the contract of the one function of layer 1 that the print does not take (its bytes stand in an array). Conditions: none beyond the number's kind. -/
import Derived.Test.YtepgdjkmobngcaaProg
import Derived.Test.YtepgdjkmobngcaaWWords
import Derived.Test.YtepgdjkmobngcaaWLast
import Derived.WalkKit
namespace Go.Proofs.Ytepgdjkmobngcaa
open Go.RowKit Go.Proofs.YtepgdjkmobngcaaW.PrintWords Go.Proofs.YtepgdjkmobngcaaW.PrintLast
set_option linter.unusedVariables false
set_option linter.unusedSimpArgs false

def be_Put.bytes (n : Int) (k : Nat) : List Int := (List.range k).map fun j => n / 256 ^ (k - 1 - j) % 256
def be_Put.f (a0 : Int) (a1 : Int) : Option ByteArray :=
  if 0 ≤ a0 ∧ a0 < 18446744073709551616 then some (if 1 ≤ a1 ∧ a1 ≤ 8 then strOfNums (be_Put.bytes a0 a1.toNat) else ⟨#[]⟩) else none

theorem be_Put.conv (w : World) (b0 b1 b2 b3 b4 b5 b6 b7 : Int) (off len cap : Nat) (h : off + len ≤ 8) :
    (convert 50 9 (.slice (some ⟨w.heap.size, off, none⟩) len cap)).run Try.prog (w.alloc (.cells #[.int .u8 b0, .int .u8 b1, .int .u8 b2, .int .u8 b3, .int .u8 b4, .int .u8 b5, .int .u8 b6, .int .u8 b7] 126)) =
      .ok (.string (strOfNums (([b0, b1, b2, b3, b4, b5, b6, b7].drop off).take len))) (w.alloc (.cells #[.int .u8 b0, .int .u8 b1, .int .u8 b2, .int .u8 b3, .int .u8 b4, .int .u8 b5, .int .u8 b6, .int .u8 b7] 126)) := by
  refine run_convert_bytes_arg _ 50 5 Try.underlying50 Try.underlying5 w.heap.size off len cap _ (by simp; omega) (fun i hi => ?_) 9 Try.underlying9
  rw [World.cell?_alloc_at _ _ _ _ rfl]
  have e : ∀ j : Nat, j < 8 → (#[Value.int .u8 b0, .int .u8 b1, .int .u8 b2, .int .u8 b3, .int .u8 b4, .int .u8 b5, .int .u8 b6, .int .u8 b7])[j]? = some (.int .u8 ([b0, b1, b2, b3, b4, b5, b6, b7].getD j 0)) := by
    intro j hj
    obtain rfl | rfl | rfl | rfl | rfl | rfl | rfl | rfl : j = 0 ∨ j = 1 ∨ j = 2 ∨ j = 3 ∨ j = 4 ∨ j = 5 ∨ j = 6 ∨ j = 7 := by omega
    all_goals rfl
  rw [e _ (by omega)]
  simp [List.getD_eq_getElem?_getD, List.getElem?_take, hi]

set_option maxHeartbeats 8000000 in
set_option maxRecDepth 100000 in
theorem be_Put.calls (a0 : Int) (a1 : Int) (r : ByteArray) (w : World) (h : be_Put.f a0 a1 = some r) :
    Calls Try.prog 37 #[.int .u64 a0, .int .i64 a1] w fun e w' => e = .returned (.string r) ∧ Below w.heap.size w w' := by
  unfold be_Put.f at h
  by_cases hn : 0 ≤ a0 ∧ a0 < 18446744073709551616
  · rw [if_pos hn] at h
    obtain ⟨h0, h1⟩ := hn
    by_cases hk : 1 ≤ a1 ∧ a1 ≤ 8
    · rw [if_pos hk] at h
      obtain rfl := Option.some.inj h
      obtain ⟨k0, k1⟩ := hk
      have hc : a1 = 1 ∨ a1 = 2 ∨ a1 = 3 ∨ a1 = 4 ∨ a1 = 5 ∨ a1 = 6 ∨ a1 = 7 ∨ a1 = 8 := by omega
      clear k0 k1 h
      have hcv := be_Put.conv w
      have hlast : a0 / 72057594037927936 % 256 = a0 / 72057594037927936 := by omega
      rcases hc with rfl | rfl | rfl | rfl | rfl | rfl | rfl | rfl
      all_goals
        go_enter Try.func37, Try.ntmps37
        go_wp2
        refine wp_loop_rounds 9 ?_
        iterate 9 (rw [rounds_succ]; go_wp2)
        go_ret
        refine ⟨?_, (Below.refl _ _).alloc (Nat.le_refl _) _⟩
        simp [be_Put.bytes, List.range, List.range.loop, hlast]
    · rw [if_neg hk] at h
      obtain rfl := Option.some.inj h
      have hc : a1 < 1 ∨ 8 < a1 := by omega
      clear hk h
      rcases hc with hc | hc
      · go_enter Try.func37, Try.ntmps37
        go_wp2
        go_ret
        exact ⟨rfl, Below.refl _ _⟩
      · have hc2 : decide (a1 ≤ 8) = false := decide_eq_false (by omega)
        go_enter Try.func37, Try.ntmps37
        go_wp2
        go_ret
        exact ⟨rfl, Below.refl _ _⟩
  · rw [if_neg hn] at h
    exact absurd h (by simp)
end Go.Proofs.Ytepgdjkmobngcaa
