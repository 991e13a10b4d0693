/- chart: what layer 22's laws reach of it. No conditions beyond the form's own reach. -/
import Derived.Test.YtkmbjfgdjoanjaaXPostC
import Derived.Test.YtkmbjfgdjoanjaaXShelf22
import Derived.Laws.RangeString
import Derived.Laws.RangeAny
namespace Go.Proofs.Ytkmbjfgdjoanjaa
open Go.RowKit Go.Lib Go.Proofs.Ytkmbjfgdjoanjaa.P Go.Proofs.YtkmbjfgdjoanjaaW.PrintWords Go.Proofs.YtkmbjfgdjoanjaaW.PrintLast Go.Proofs.YtkmbjfgdjoanjaaW.PrintMore
set_option linter.unusedVariables false
set_option linter.unusedSimpArgs false
--@tables
set_option maxHeartbeats 4000000 in
theorem right_x (k : Int) (h1 : 1 ≤ k) (h2 : k ≤ 65535) (w : World) :
    Calls Try.prog 41 #[.agg #[.int .i64 k, .int .u8 1, .string { data := #[120] }]] w fun e w' => e = .returned (.bool true) ∧ Below w.heap.size w w' := by
  have d1 : decide (k < 1) = false := decide_eq_false (by omega)
  have d2 : decide (65535 < k) = false := decide_eq_false (by omega)
  go_enter Try.func41, Try.ntmps41
  have HB := Lib.hid (below_alloc (Below.refl w.heap.size w) (.cells #[.int .i64 k, .int .u8 1, .string { data := #[120] }] 75))
  go_wp2
  have hsz : (w.alloc (.cells #[.int .i64 k, .int .u8 1, .string { data := #[120] }] 75)).heap.size = w.heap.size + 1 := by simp
  generalize w.alloc (.cells #[.int .i64 k, .int .u8 1, .string { data := #[120] }] 75) = w1 at HB hsz ⊢
  have hn0 : ∀ ty, (Instr.next (.pointer (some ⟨w.heap.size + 1, 0, none⟩)) true ty).run Try.prog (w1.iter { data := #[120] } 0) = .ok (.tuple #[.bool true, .int .i64 0, .int .i32 120]) (w1.iter { data := #[120] } 1) := fun ty => by
    have := run_next_ascii (P := Try.prog) w1 { data := #[120] } 0 ty (by decide) (by decide)
    rw [hsz] at this
    exact this
  have hn1 : ∀ ty, (Instr.next (.pointer (some ⟨w.heap.size + 1, 0, none⟩)) true ty).run Try.prog (w1.iter { data := #[120] } 1) = .ok (.tuple #[.bool false]) (w1.iter { data := #[120] } 1) := fun ty => by
    have := run_next_end (P := Try.prog) w1 { data := #[120] } 1 ty (by decide)
    rw [hsz] at this
    exact this
  have HN0 := Lib.hid hn0; have HN1 := Lib.hid hn1; clear hn0 hn1 d1 d2
  go_loopw [37] (fun t wr => ∃ p : Nat, p ≤ 1 ∧ wr = w1.iter { data := #[120] } p) (fun _ wr => 1 - wr.iterPos (w.heap.size + 1))
  case atStart => exact ⟨0, by decide, rfl⟩
  case round =>
    obtain ⟨p, hp, rfl⟩ := hrel
    rcases (by omega : p = 0 ∨ p = 1) with rfl | rfl
    · have hn := HN0.out
      go_wp2
      go_roundw
      case rel => exact ⟨1, by decide, rfl⟩
      case measure => rw [← hsz]; simp
    · have hn := HN1.out
      go_wp2
      go_ret
      exact ⟨rfl, below_alloc HB.out _⟩
set_option maxHeartbeats 4000000 in
theorem clone_x (w : World) :
    Calls Try.prog 42 #[.string { data := #[120] }] w fun e w' => e = .returned (.string { data := #[120] }) ∧ Below w.heap.size w w' := by
  go_enter Try.func42, Try.ntmps42
  go_wp2_with fail
  refine (sh_clone { data := #[120] } w (by decide)).mono ?_
  rintro e w1 ⟨rfl, HB⟩
  have HB := Lib.hid HB
  go_wp2
  go_ret
  exact ⟨rfl, HB.out⟩
end Go.Proofs.Ytkmbjfgdjoanjaa
