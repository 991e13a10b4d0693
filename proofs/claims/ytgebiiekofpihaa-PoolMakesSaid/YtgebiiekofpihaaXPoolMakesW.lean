/- PoolMakes: how many blocks a pool may have is the document's answer; of a nil one nothing is told: the walk. No conditions beyond the form's own reach. -/
import Derived.Test.YtgebiiekofpihaaXPoolWakes
namespace Go.Proofs.Ytgebiiekofpihaa
open Go.RowKit Go.Lib Go.Proofs.YtgebiiekofpihaaW.PrintWords Go.Proofs.YtgebiiekofpihaaW.PrintLast Go.Proofs.YtgebiiekofpihaaW.PrintMore
set_option linter.unusedVariables false
set_option linter.unusedSimpArgs false
--@tables
theorem countB_free (n : Nat) : countB (List.replicate n (1, 0)) 1 = n := by
  unfold countB
  rw [List.countP_replicate]
  simp

set_option maxHeartbeats 8000000 in
set_option maxRecDepth 100000 in
theorem poolMakes_walk (n b : Int) (hn0 : -9223372036854775808 ≤ n) (hn1 : n < 9223372036854775808) (w : World) :
    Calls Try.prog 6 #[.int .i64 n, .int .i64 b] w fun e w' => e = .returned (.bool true) ∧ Below w.heap.size w w' := by
  obtain ⟨m0, hm0⟩ : ∃ m0 : Nat, (if 0 < n then n else 0) = (m0 : Int) := ⟨(max 0 n).toNat, by split <;> omega⟩
  obtain ⟨m, hm⟩ : ∃ m : Int, (m0 : Int) % 300 = m := ⟨_, rfl⟩
  have hmod : Int.tmod (m0 : Int) 300 = m := by rw [Int.tmod_eq_emod_of_nonneg (by omega)]; exact hm
  have hx0 : (w.alloc (.cells #[.int .i64 n, .int .i64 m] 3)).heap[w.heap.size]? = some (.cells #[.int .i64 n, .int .i64 m] 3 (0, 0)) := heap_alloc_new w _
  have hb := below_alloc (Below.refl w.heap.size w) (.cells #[.int .i64 n, .int .i64 m] 3)
  have HX := Lib.hid hx0; clear hx0
  have HB := Lib.hid hb; clear hb
  clear hn0 hn1 hm
  go_enter Try.func6, Try.ntmps6
  go_wp2_with fail
  generalize w.alloc (.cells #[.int .i64 n, .int .i64 m] 3) = w1 at HX HB ⊢
  obtain ⟨bx, hbx⟩ : ∃ bx, bx = w.heap.size := ⟨_, rfl⟩
  rw [← hbx] at HX ⊢
  clear hbx hm0 hmod
  go_loopw [23] (fun i wr => ∃ j : Nat, j ≤ 2 ∧ i = .int .i64 (j : Int) ∧ wr.heap[bx]? = some (.cells #[.int .i64 n, .int .i64 m] 3 (0, 0)) ∧ Below w.heap.size w wr) (fun i _ => 2 - (RowKit.intOf i).toNat)
  case atStart => exact ⟨0, Nat.zero_le _, rfl, HX.out, HB.out⟩
  case round =>
    clear HX HB
    obtain ⟨j, hj, rfl, h1, h2⟩ := hrel
    have HX := Lib.hid h1; clear h1
    have HB := Lib.hid h2; clear h2
    by_cases hlt : j < 2
    · obtain ⟨k, hk⟩ : ∃ k : Int, wr.cell? ⟨bx, j, none⟩ = some (.int .i64 k) := by
        have h : j = 0 ∨ j = 1 := by omega
        rcases h with rfl | rfl
        · exact ⟨n, by unfold World.cell?; rw [HX.out]; rfl⟩
        · exact ⟨m, by unfold World.cell?; rw [HX.out]; rfl⟩
      have e3 : wrap64 ((j : Int) + 1) = ((j + 1 : Nat) : Int) := wrap_succ j (by omega)
      by_cases hr : 1 ≤ k ∧ k ≤ 256
      · obtain ⟨q, hq⟩ := Int.eq_ofNat_of_zero_le (show 0 ≤ k by omega)
        subst hq
        have HQ := Lib.hid (show 1 ≤ q ∧ q ≤ 256 by omega)
        have c1 : 1 ≤ q := by omega
        have c2 : q ≤ 256 := by omega
        clear hr
        go_wp2_with fail
        refine (pool_new q HQ.out.1 HQ.out.2 wr).mono ?_
        rintro e w2 ⟨g, r, rfl, hg1, hr1, hp, hd⟩
        replace HX := Lib.hid (blk_below HX.out hd)
        replace HB := Lib.hid (chainC HB.out hd)
        have HP := Lib.hid hp; clear hp hd hg1 hr1 hk
        go_wp2_with fail
        refine (pool_count g r _ 1 w2 HP.out).mono ?_
        rintro e w3 ⟨rfl, hd⟩
        rw [countB_free]
        replace HX := Lib.hid (blk_below HX.out hd)
        replace HB := Lib.hid (chainC HB.out hd); clear hd HP
        go_wp2
        go_roundw
        case rel => exact ⟨j + 1, hlt, by first | rw [e3] | rw [show (j : Int) + 1 = ((j + 1 : Nat) : Int) from rfl], HX.out, HB.out⟩
        case measure => (first | rw [e3] | rw [show (j : Int) + 1 = ((j + 1 : Nat) : Int) from rfl]); simp only [RowKit.intOf, Int.toNat_natCast]; exact Nat.sub_lt_sub_left hlt (Nat.lt_succ_self j)
      · have HR := Lib.hid (show k < 1 ∨ 256 < k by omega)
        have hmay : ∀ (P : Prop), (k < 1 → P) → (¬ k < 1 → 256 < k → P) → P := fun P h1 h2 => by
          by_cases h : k < 1
          · exact h1 h
          · exact h2 h (by omega)
        clear hr
        by_cases hk1 : k < 1
        · have c1 : decide (1 ≤ k) = false := decide_eq_false (by omega)
          have c2 : ¬ 1 ≤ k := by omega
          clear hmay
          go_wp2_with fail
          refine (pool_new_bad k HR.out wr).mono ?_
          rintro e w2 ⟨rfl, rfl⟩
          clear hk
          go_wp2
          go_roundw
          case rel => exact ⟨j + 1, hlt, by first | rw [e3] | rw [show (j : Int) + 1 = ((j + 1 : Nat) : Int) from rfl], HX.out, HB.out⟩
          case measure => (first | rw [e3] | rw [show (j : Int) + 1 = ((j + 1 : Nat) : Int) from rfl]); simp only [RowKit.intOf, Int.toNat_natCast]; exact Nat.sub_lt_sub_left hlt (Nat.lt_succ_self j)
        · have c1 : decide (1 ≤ k) = true := decide_eq_true (by omega)
          have c2 : 1 ≤ k := by omega
          have c3 : decide (k ≤ 256) = false := decide_eq_false (by have := HR.out; omega)
          have c4 : ¬ k ≤ 256 := by have := HR.out; omega
          clear hmay
          go_wp2_with fail
          refine (pool_new_bad k HR.out wr).mono ?_
          rintro e w2 ⟨rfl, rfl⟩
          clear hk
          go_wp2
          go_roundw
          case rel => exact ⟨j + 1, hlt, by first | rw [e3] | rw [show (j : Int) + 1 = ((j + 1 : Nat) : Int) from rfl], HX.out, HB.out⟩
          case measure => (first | rw [e3] | rw [show (j : Int) + 1 = ((j + 1 : Nat) : Int) from rfl]); simp only [RowKit.intOf, Int.toNat_natCast]; exact Nat.sub_lt_sub_left hlt (Nat.lt_succ_self j)
    · obtain rfl : j = 2 := by omega
      clear HX
      go_wp2_with fail
      refine (pool_take_nil wr).mono ?_
      rintro e w2 ⟨rfl, rfl⟩
      go_wp2_with fail
      refine (pool_most_nil w2).mono ?_
      rintro e w3 ⟨rfl, rfl⟩
      go_wp2_with fail
      refine (pool_spread_nil w3).mono ?_
      rintro e w4 ⟨rfl, rfl⟩
      go_wp2_with fail
      refine (wakes_ok w4).mono ?_
      rintro e w5 ⟨rfl, hd⟩
      replace HB := Lib.hid (chainC HB.out hd); clear hd
      go_wp2_with fail
      refine (pool_set_nil b 1 w5).mono ?_
      rintro e w6 ⟨rfl, rfl⟩
      go_wp2_with fail
      refine (pool_worn_nil b 1 w6).mono ?_
      rintro e w7 ⟨rfl, rfl⟩
      go_wp2_with fail
      refine (pool_state_nil b w7).mono ?_
      rintro e w8 ⟨rfl, rfl⟩
      go_wp2_with fail
      refine (pool_wear_nil b w8).mono ?_
      rintro e w9 ⟨rfl, rfl⟩
      go_wp2_with fail
      refine (pool_count_nil 1 w9).mono ?_
      rintro e w10 ⟨rfl, rfl⟩
      go_wp2
      go_ret
      exact ⟨rfl, HB.out⟩
theorem poolMakes_law (a0 a1 : Int) (W : World) (w0 : (Lit.int .i64 a0).wf = true) (w1 : (Lit.int .i64 a1).wf = true) :
    Calls Try.prog 6 #[.int .i64 a0, .int .i64 a1] W fun e w' => e = .returned (.bool true) ∧ Below W.heap.size W w' := by
  have b0 : -9223372036854775808 ≤ a0 ∧ a0 < 9223372036854775808 := by simp [Lit.wf, IntKind.min, IntKind.max, IntKind.signed, IntKind.bits] at w0; omega
  exact poolMakes_walk a0 a1 b0.1 b0.2 W
end Go.Proofs.Ytgebiiekofpihaa
