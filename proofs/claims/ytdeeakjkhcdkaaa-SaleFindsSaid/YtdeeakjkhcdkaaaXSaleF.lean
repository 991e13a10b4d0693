/- sale: what is asked of a transaction: kinds, an account, meets; those that turn a sale back. No conditions beyond those that are written. -/
import Derived.Test.YtdeeakjkhcdkaaaXSaleW
namespace Go.Proofs.Ytdeeakjkhcdkaaa
open Go.RowKit Go.Lib Go.Proofs.YtdeeakjkhcdkaaaW.PrintWords Go.Proofs.YtdeeakjkhcdkaaaW.PrintLast Go.Proofs.YtdeeakjkhcdkaaaW.PrintMore
set_option linter.unusedVariables false
set_option linter.unusedSimpArgs false
--@tables
def encU (k : Int) : List Value := [.int .u8 k]
theorem encU_len (k : Int) : (encU k).length = 1 := rfl
theorem kind_cell {w : World} {g off : Nat} {ks : List Int} (hc : ∀ j u, (ks.flatMap encU)[j]? = some u → w.cell? ⟨g, off + j, none⟩ = some u) (j : Nat) (hj : j < ks.length) : w.cell? ⟨g, off + j, none⟩ = some (.int .u8 ks[j]) := by
  have := hc (j * 1 + 0) _ (by rw [flat_get encU 1 encU_len ks j 0 hj (by decide)]; rfl)
  simpa using this
def HasK (k : Int) (ks : List Int) : Bool := ks.any (fun x => decide (x = k))
set_option maxHeartbeats 2000000 in
set_option maxRecDepth 100000 in
theorem kinds_index (k : Int) (ks : List Int) (hls : ks.length ≤ 1000) (v : Value) (w : World) (hr : RowS encU w v ks) :
    Calls Try.prog 67 #[v, .int .u8 k] w fun x w' => ∃ r, x = .returned (.int .i64 r) ∧ decide (0 ≤ r) = HasK k ks ∧ Below w.heap.size w w' := by
  obtain ⟨a, cap, rfl, _⟩ := hr.len
  have Hls := Lib.hid hls; clear hls
  have HR := Lib.hid hr; clear hr
  go_enter Try.func67, Try.ntmps67
  go_wp2
  go_loopw [5, 8] (fun _ i wr => ∃ j : Nat, j ≤ ks.length ∧ i = .int .i64 (j : Int) ∧ (∀ i, ∀ h : i < ks.length, i < j → ¬ ks[i] = k) ∧ Below w.heap.size w wr) (fun _ i _ => ks.length - (RowKit.intOf i).toNat)
  case atStart => exact ⟨0, Nat.zero_le _, rfl, fun j _ h => absurd h (Nat.not_lt_zero _), Below.refl _ w⟩
  case round =>
    obtain ⟨j, hj, rfl, ha, hb⟩ := hrel
    have HA := Lib.hid ha; clear ha
    have HB := Lib.hid hb; clear hb
    by_cases hlt : j < ks.length
    · rcases HR.out with ⟨h1, h2⟩ | ⟨g, off, cap', h1, h2, h3, h4, h5⟩
      · rw [h2] at hlt; exact absurd hlt (Nat.not_lt_zero _)
      simp only [Value.slice.injEq, true_and] at h1
      obtain ⟨rfl, rfl⟩ := h1
      have l1 := kind_cell (w := wr) (fun j u hu => pw_cell_below HB.out (h5 j u hu)) j hlt
      clear h5 h2 h3 h4
      have e1 : wrap64 ((j : Int) + 1) = ((j + 1 : Nat) : Int) := by have := Hls.out; unfold wrap64; omega
      by_cases hq : ks[j] = k
      · have q1 : (k == ks[j]) = true := by rw [hq]; simp
        have HAny := Lib.hid (show HasK k ks = true by unfold HasK; rw [List.any_eq_true]; exact ⟨ks[j], List.getElem_mem hlt, by simpa using hq⟩)
        clear hq
        generalize ks[j] = x at l1 q1
        go_wp2
        go_ret
        exact ⟨_, rfl, (decide_eq_true (Int.natCast_nonneg j)).trans HAny.out.symm, HB.out⟩
      · have q1 : (k == ks[j]) = false := by rw [beq_eq_false_iff_ne]; exact fun e => hq e.symm
        have HN := Lib.hid (show ∀ i, ∀ h : i < ks.length, i < j + 1 → ¬ ks[i] = k from fun i h hi => by
          by_cases e : i = j
          · subst e; exact hq
          · exact HA.out i h (by omega))
        clear hq
        generalize ks[j] = x at l1 q1
        go_wp2
        go_roundw
        case rel => exact ⟨j + 1, by omega, by rw [e1], HN.out, HB.out⟩
        case measure => rw [e1]; simp [RowKit.intOf]; omega
    · go_wp2
      go_ret
      refine ⟨_, rfl, (show decide ((0 : Int) ≤ -1) = false from by decide).trans ?_, HB.out⟩
      unfold HasK
      symm
      rw [List.any_eq_false]
      intro x hx
      obtain ⟨i, hi, rfl⟩ := List.mem_iff_getElem.mp hx
      simpa using HA.out i hi (by omega)
theorem kinds_has (k : Int) (ks : List Int) (hls : ks.length ≤ 1000) (v : Value) (w : World) (hr : RowS encU w v ks) :
    Calls Try.prog 54 #[v, .int .u8 k] w fun x w' => x = .returned (.bool (HasK k ks)) ∧ Below w.heap.size w w' := by
  go_enter Try.func54, Try.ntmps54
  go_wp2_with fail
  refine (kinds_index k ks hls v w hr).mono ?_
  rintro e w' ⟨r, rfl, hi, hb⟩
  have HI := Lib.hid hi; clear hi
  go_wp2
  go_ret
  exact ⟨by rw [← HI.out]; rfl, hb⟩
set_option maxHeartbeats 2000000 in
theorem on_ok (t : TP) (tv : Value) (k : Int) (w : World) (hr : RowS encL w tv t.ls) (hl : t.ls.length ≤ 1000000) :
    Calls Try.prog 55 #[aggT t tv, .int .i64 k] w fun e w' => e = .returned (.bool (t.ls.any (onL k))) ∧ Below w.heap.size w w' := by
  unfold aggT
  obtain ⟨va, vc, rfl, _⟩ := hr.len
  have b1 := below_alloc (Below.refl w.heap.size w) (.cells #[.int .i64 t.num, .int .u8 t.kind, .int .i64 t.shift, .int .i64 t.ref, .int .i64 t.amount, .int .i64 t.left, .bool t.void, .slice va t.ls.length vc] 37)
  have b2 := below_alloc b1 (.cells #[.int .i64 k] 3)
  have HR := Lib.hid (hr.below b2); clear hr
  have HL := Lib.hid hl; clear hl
  have HC := Lib.hid (cell_of_row _ _ 0 _ _ (0, 0) (heap_alloc_new (w.alloc (.cells #[.int .i64 t.num, .int .u8 t.kind, .int .i64 t.shift, .int .i64 t.ref, .int .i64 t.amount, .int .i64 t.left, .bool t.void, .slice va t.ls.length vc] 37)) (.cells #[.int .i64 k] 3)))
  have HB := Lib.hid b2; clear b1 b2
  go_enter Try.func55, Try.ntmps55
  go_wp2_with fail
  have hs := alloc_size w (.cells #[.int .i64 t.num, .int .u8 t.kind, .int .i64 t.shift, .int .i64 t.ref, .int .i64 t.amount, .int .i64 t.left, .bool t.void, .slice va t.ls.length vc] 37)
  rw [hs] at HC
  clear hs
  refine (lines_on_c k (w.heap.size + 1) t.ls HL.out _ _ HR.out HC.out).mono ?_
  rintro e w' ⟨rfl, hd⟩
  have HB2 := Lib.hid (chain2 HB.out hd); clear hd
  go_wp2
  go_ret
  exact ⟨by rfl, HB2.out⟩
end Go.Proofs.Ytdeeakjkhcdkaaa
