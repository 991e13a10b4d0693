/- pool: New, Spread, cmp.Compare. No conditions beyond the form's own reach. -/
import Derived.Test.YtgebiiekofpihaaXPoolB
import Derived.Laws.MakeOwn
namespace Go.Proofs.Ytgebiiekofpihaa
open Go.RowKit Go.Lib Go.Proofs.YtgebiiekofpihaaW.PrintWords Go.Proofs.YtgebiiekofpihaaW.PrintLast Go.Proofs.YtgebiiekofpihaaW.PrintMore
set_option linter.unusedVariables false
set_option linter.unusedSimpArgs false
--@tables
theorem bk_info : (Try.prog.info? 60).map (fun i => (i.size, i.bytes, i.zero)) = some (2, 16, some (.agg #[.int .i64 0, .int .i64 0])) := by kernel_rfl
theorem cellsB_zero (n : Nat) : cellsB (List.replicate n (0, 0)) = Array.replicate (n * 2) (.int .i64 0) := by
  unfold cellsB
  rw [← List.toArray_replicate]
  congr 1
  induction n with
  | zero => rfl
  | succ n ih =>
    rw [List.replicate_succ, List.flatMap_cons, ih, show (n + 1) * 2 = n * 2 + 1 + 1 by omega, List.replicate_succ, List.replicate_succ]
    rfl
theorem made_zero (n : Nat) : madeCells (Value.agg #[.int .i64 0, .int .i64 0]).cells (n * 2) = cellsB (List.replicate n (0, 0)) := by
  rw [cellsB_zero]
  apply Array.ext
  · rw [size_madeCells, Array.size_replicate]
  · intro i h1 h2
    have key : ∀ k, (#[Value.int .i64 0, Value.int .i64 0] : Array Value)[k % 2]! = .int .i64 0 := by
      intro k
      have h : k % 2 = 0 ∨ k % 2 = 1 := by omega
      rcases h with h | h <;> rw [h] <;> rfl
    rw [Array.getElem_replicate]
    have h3 : (madeCells (Value.agg #[.int .i64 0, .int .i64 0]).cells (n * 2))[i]? = some (.int .i64 0) := by
      unfold madeCells
      have hi : i < n * 2 := by simpa using h2
      rw [Array.getElem?_map, Array.getElem?_range, if_pos hi, Option.map_some]
      exact congrArg some (key i)
    rw [Array.getElem?_eq_getElem h1] at h3
    exact Option.some.inj h3
theorem make_blocks (w : World) (n : Nat) (hn : n ≤ 256) : (Instr.makeSlice 56 (.int .i64 (n : Int)) (.int .i64 (n : Int))).run Try.prog w = .ok (.slice (some ⟨w.heap.size, 0, none⟩) n n) (w.alloc (.cells (cellsB (List.replicate n (0, 0))) 60)) := by
  obtain ⟨i, hi, h0⟩ := Option.map_eq_some_iff.mp bk_info
  simp only [Prod.mk.injEq] at h0
  obtain ⟨h1, h2, h3⟩ := h0
  have h := run_make (P := Try.prog) w 56 60 i (.agg #[.int .i64 0, .int .i64 0]) Try.underlying56 hi h3 .i64 .i64 n n (by omega) (by omega) (by rw [h2]; omega) (by omega)
  rw [h1, Int.toNat_natCast, made_zero] at h
  exact h
def freeB (n j : Nat) : List Bk := List.replicate j (1, 0) ++ List.replicate (n - j) (0, 0)
theorem freeB_len (n j : Nat) (h : j ≤ n) : (freeB n j).length = n := by unfold freeB; rw [List.length_append, List.length_replicate, List.length_replicate]; omega
theorem freeB_all (n : Nat) : freeB n n = List.replicate n (1, 0) := by unfold freeB; rw [Nat.sub_self]; simp
theorem freeB_step (n j : Nat) (h : j < n) (hj : j < (freeB n j).length) : (freeB n j).set j (1, ((freeB n j)[j]).2) = freeB n (j + 1) := by
  have hg : (freeB n j)[j] = (0, 0) := by
    have h3 : (freeB n j)[j]? = some (0, 0) := by
      unfold freeB
      rw [List.getElem?_append_right (by rw [List.length_replicate]; exact Nat.le_refl _), List.length_replicate, Nat.sub_self, List.getElem?_replicate, if_pos (by omega)]
    rw [List.getElem?_eq_getElem hj] at h3
    exact Option.some.inj h3
  rw [hg]
  unfold freeB
  rw [List.set_append_right _ _ (by rw [List.length_replicate]; exact Nat.le_refl _), List.length_replicate, Nat.sub_self]
  obtain ⟨m, hm⟩ : ∃ m, n - j = m + 1 := ⟨n - j - 1, by omega⟩
  rw [hm, List.replicate_succ, List.set_cons_zero, show n - (j + 1) = m by omega, List.replicate_succ', List.append_assoc]
  rfl

set_option maxHeartbeats 4000000 in
set_option maxRecDepth 100000 in
theorem pool_new (n : Nat) (h1 : 1 ≤ n) (h2 : n ≤ 256) (w : World) :
    Calls Try.prog 7 #[.int .i64 (n : Int)] w fun x w' => ∃ g r, x = .returned (.tuple #[.pointer (some ⟨g, 0, none⟩), .int .i64 0]) ∧ w.heap.size ≤ g ∧ w.heap.size ≤ r ∧ PoolAt w' g r (List.replicate n (1, 0)) ∧ Below w.heap.size w w' := by
  have a1 : decide ((n : Int) < 1) = false := decide_eq_false (by omega)
  have a2 : decide (n = 0) = false := decide_eq_false (by omega)
  have a3 : decide (256 < n) = false := decide_eq_false (by omega)
  have a4 : ¬ n = 0 := by omega
  have a5 : ¬ 256 < n := by omega
  have hmk := make_blocks w n h2
  have HN := Lib.hid (And.intro h1 h2); clear h1 h2
  have hp0 : PoolAt ((w.alloc (.cells (cellsB (List.replicate n (0, 0))) 60)).alloc (.cells #[.slice (some ⟨w.heap.size, 0, none⟩) n n] 58)) (w.heap.size + 1) w.heap.size (freeB n 0) := by
    have hl : (freeB n 0).length = n := freeB_len n 0 (Nat.zero_le _)
    refine ⟨?_, ?_, by omega, by rw [hl]; exact HN.out.2⟩
    · rw [hl]
      have h := heap_alloc_new (w.alloc (.cells (cellsB (List.replicate n (0, 0))) 60)) (.cells #[.slice (some ⟨w.heap.size, 0, none⟩) n n] 58)
      rw [show (w.alloc (.cells (cellsB (List.replicate n (0, 0))) 60)).heap.size = w.heap.size + 1 by simp] at h
      exact h
    · have h := blk_alloc (heap_alloc_new w (.cells (cellsB (List.replicate n (0, 0))) 60)) (.cells #[.slice (some ⟨w.heap.size, 0, none⟩) n n] 58)
      have e : freeB n 0 = List.replicate n (0, 0) := by unfold freeB; simp
      rw [e]
      exact h
  have hb := below_alloc (below_alloc (Below.refl w.heap.size w) (.cells (cellsB (List.replicate n (0, 0))) 60)) (.cells #[.slice (some ⟨w.heap.size, 0, none⟩) n n] 58)
  have HP := Lib.hid hp0; clear hp0
  have HB := Lib.hid hb; clear hb
  go_enter Try.func7, Try.ntmps7
  have c0 := HP.out.cell
  rw [freeB_len n 0 (Nat.zero_le _)] at c0
  have hg1 : w.heap.size ≤ w.heap.size + 1 := Nat.le_succ _
  go_wp2_with fail
  clear hmk c0
  generalize ((w.alloc (.cells (cellsB (List.replicate n (0, 0))) 60)).alloc (.cells #[.slice (some ⟨w.heap.size, 0, none⟩) n n] 58)) = w1 at HP HB ⊢
  generalize w.heap.size + 1 = g at HP hg1 ⊢
  obtain ⟨r, hr⟩ : ∃ r, r = w.heap.size := ⟨_, rfl⟩
  have HG := Lib.hid (And.intro hg1 (Nat.le_of_eq hr.symm)); clear hg1
  rw [← hr] at HP ⊢
  clear hr
  go_loopw [21] (fun i wr => ∃ j : Nat, j ≤ n ∧ i = .int .i64 (j : Int) ∧ PoolAt wr g r (freeB n j) ∧ Below w.heap.size w wr) (fun i _ => n - (RowKit.intOf i).toNat)
  case atStart => exact ⟨0, Nat.zero_le _, rfl, HP.out, HB.out⟩
  case round =>
    clear HP HB
    obtain ⟨j, hj, rfl, h1, h2⟩ := hrel
    have HP := Lib.hid h1; clear h1
    have HB := Lib.hid h2; clear h2
    by_cases hlt : j < n
    · have hl : j < (freeB n j).length := by rw [freeB_len n j hj]; exact hlt
      have c0 := HP.out.cell
      rw [freeB_len n j hj] at c0
      have c1 := HP.out.b0 j hl
      have c2 := HP.out.free (j * 2)
      have hs := HP.out.set0 j hl 1
      rw [freeB_step n j hlt hl] at hs
      have HS := Lib.hid hs; clear hs
      have hbs := below_set HB.out (b := r) (i := j * 2) (v := .int .i64 1) HG.out.2
      have HBs := Lib.hid hbs; clear hbs
      have e3 : wrap64 ((j : Int) + 1) = ((j + 1 : Nat) : Int) := wrap_succ j (Nat.lt_of_lt_of_le hlt (Nat.le_trans HN.out.2 (by decide)))
      generalize ((freeB n j)[j]).1 = b1 at c1
      go_wp2
      go_roundw
      case rel => exact ⟨j + 1, hlt, by first | rw [e3] | rw [show (j : Int) + 1 = ((j + 1 : Nat) : Int) from rfl], HS.out, HBs.out⟩
      case measure => (first | rw [e3] | rw [show (j : Int) + 1 = ((j + 1 : Nat) : Int) from rfl]); simp only [RowKit.intOf, Int.toNat_natCast]; exact Nat.sub_lt_sub_left hlt (Nat.lt_succ_self j)
    · obtain rfl : j = n := Nat.le_antisymm hj (Nat.le_of_not_lt hlt)
      rw [freeB_all] at HP
      go_wp2
      go_ret2
      exact ⟨g, r, rfl, HG.out.1, HG.out.2, HP.out, HB.out⟩
theorem pool_new_bad (n : Int) (h : n < 1 ∨ 256 < n) (w : World) : Calls Try.prog 7 #[.int .i64 n] w fun x w' => x = .returned (.tuple #[.pointer none, .int .i64 2]) ∧ w' = w := by
  by_cases h1 : n < 1
  · have a1 : decide (n < 1) = true := decide_eq_true h1
    clear h
    go_enter Try.func7, Try.ntmps7
    go_wp2
    go_ret2
    exact ⟨rfl, rfl⟩
  · have a1 : decide (n < 1) = false := decide_eq_false h1
    have h2 : 256 < n := by omega
    have a2 : decide (256 < n) = true := decide_eq_true h2
    clear h
    go_enter Try.func7, Try.ntmps7
    go_wp2
    go_ret2
    exact ⟨rfl, rfl⟩

def spreadStep (p : Int × Int) (b : Bk) : Int × Int := if b.1 = 3 then p else (if p.1 < 0 ∨ b.2 < p.1 then b.2 else p.1, max p.2 b.2)
def spreadN (bs : List Bk) : Int × Int := bs.foldl spreadStep (-1, 0)
theorem spreadN_take (bs : List Bk) (j : Nat) (h : j < bs.length) : spreadN (bs.take (j + 1)) = spreadStep (spreadN (bs.take j)) bs[j] := by
  unfold spreadN
  rw [List.take_succ_eq_append_getElem h, List.foldl_append]
  rfl

set_option maxHeartbeats 4000000 in
set_option maxRecDepth 100000 in
theorem pool_spread (g r : Nat) (bs : List Bk) (w : World) (h : PoolAt w g r bs) :
    Calls Try.prog 15 #[.pointer (some ⟨g, 0, none⟩)] w fun x w' => x = .returned (.tuple #[.int .i64 (max (spreadN bs).1 0), .int .i64 (spreadN bs).2]) ∧ Below w.heap.size w w' := by
  have H := Lib.hid h; clear h
  have c0 := H.out.cell
  go_enter Try.func15, Try.ntmps15
  go_wp2_with fail
  clear c0
  go_loopw [4, 5, 15] (fun lo hi i wr => ∃ j : Nat, j ≤ bs.length ∧ i = .int .i64 (j : Int) ∧ lo = .int .i64 (spreadN (bs.take j)).1 ∧ hi = .int .i64 (spreadN (bs.take j)).2 ∧ Below w.heap.size w wr) (fun _ _ i _ => bs.length - (RowKit.intOf i).toNat)
  case atStart => exact ⟨0, Nat.zero_le _, rfl, rfl, rfl, Below.refl _ _⟩
  case round =>
    obtain ⟨j, hj, rfl, rfl, rfl, h1⟩ := hrel
    have HB := Lib.hid h1; clear h1
    by_cases hlt : j < bs.length
    · have k0 := (H.out.below HB.out).b0 j hlt
      have k1 := (H.out.below HB.out).b1 j hlt
      have HT := Lib.hid (spreadN_take bs j hlt)
      have e3 : wrap64 ((j : Int) + 1) = ((j + 1 : Nat) : Int) := wrap_succ j (Nat.lt_of_lt_of_le hlt (Nat.le_trans H.out.max (by decide)))
      generalize bs[j] = b at k0 k1 HT
      obtain ⟨st, we⟩ := b
      simp only at k0 k1
      generalize spreadN (bs.take j) = p at HT ⊢
      obtain ⟨lo, hi⟩ := p
      simp only
      have ha := (Below.refl wr.heap.size wr).alloc (Nat.le_refl _) (Obj.cells #[Value.int IntKind.i64 st, Value.int IntKind.i64 we] 60)
      replace HB := Lib.hid (chainC HB.out ha); clear ha
      by_cases hs : st = 3
      · have HT2 := Lib.hid (show spreadN (bs.take (j + 1)) = (lo, hi) by rw [HT.out]; exact if_pos hs)
        subst hs
        go_wp2
        go_roundw
        case rel => exact ⟨j + 1, hlt, by rw [e3], by rw [HT2.out], by rw [HT2.out], HB.out⟩
        case measure => rw [e3]; simp only [RowKit.intOf, Int.toNat_natCast]; exact Nat.sub_lt_sub_left hlt (Nat.lt_succ_self j)
      · have cs : decide (st = 3) = false := decide_eq_false hs
        obtain ⟨mx, hmx⟩ : ∃ mx, max hi we = mx := ⟨_, rfl⟩
        have hmi : (if hi < we then we else hi) = mx := by rw [← hmx]; split <;> omega
        by_cases hl : lo < 0
        · have cl : decide (lo < 0) = true := decide_eq_true hl
          have HT2 := Lib.hid (show spreadN (bs.take (j + 1)) = (we, mx) by rw [HT.out]; unfold spreadStep; simp only; rw [if_neg hs, if_pos (.inl hl), hmx])
          clear hmx
          go_wp2
          go_roundw
          case rel => exact ⟨j + 1, hlt, by rw [e3], by rw [HT2.out], by rw [HT2.out], HB.out⟩
          case measure => rw [e3]; simp only [RowKit.intOf, Int.toNat_natCast]; exact Nat.sub_lt_sub_left hlt (Nat.lt_succ_self j)
        · have cl : decide (lo < 0) = false := decide_eq_false hl
          by_cases hw : we < lo
          · have cw : decide (we < lo) = true := decide_eq_true hw
            have HT2 := Lib.hid (show spreadN (bs.take (j + 1)) = (we, mx) by rw [HT.out]; unfold spreadStep; simp only; rw [if_neg hs, if_pos (.inr hw), hmx])
            clear hmx
            go_wp2
            go_roundw
            case rel => exact ⟨j + 1, hlt, by rw [e3], by rw [HT2.out], by rw [HT2.out], HB.out⟩
            case measure => rw [e3]; simp only [RowKit.intOf, Int.toNat_natCast]; exact Nat.sub_lt_sub_left hlt (Nat.lt_succ_self j)
          · have cw : decide (we < lo) = false := decide_eq_false hw
            have HT2 := Lib.hid (show spreadN (bs.take (j + 1)) = (lo, mx) by rw [HT.out]; unfold spreadStep; simp only; rw [if_neg hs, if_neg (by omega), hmx])
            clear hmx
            go_wp2
            go_roundw
            case rel => exact ⟨j + 1, hlt, by rw [e3], by rw [HT2.out], by rw [HT2.out], HB.out⟩
            case measure => rw [e3]; simp only [RowKit.intOf, Int.toNat_natCast]; exact Nat.sub_lt_sub_left hlt (Nat.lt_succ_self j)
    · obtain rfl : j = bs.length := Nat.le_antisymm hj (Nat.le_of_not_lt hlt)
      rw [List.take_length]
      obtain ⟨p, hp⟩ : ∃ p, spreadN bs = p := ⟨_, rfl⟩
      rw [hp]
      obtain ⟨lo, hi⟩ := p
      simp only
      obtain ⟨mx, hmx⟩ : ∃ mx, max lo 0 = mx := ⟨_, rfl⟩
      have hmi : (if lo < 0 then 0 else lo) = mx := by rw [← hmx]; split <;> omega
      have HX := Lib.hid (And.intro hp hmx); clear hp hmx
      go_wp2
      go_ret2
      exact ⟨by rw [HX.out.1]; simp only; rw [HX.out.2]; rfl, HB.out⟩
theorem pool_spread_nil (w : World) : Calls Try.prog 15 #[.pointer none] w fun x w' => x = .returned (.tuple #[.int .i64 0, .int .i64 0]) ∧ w' = w := by
  go_enter Try.func15, Try.ntmps15
  go_wp2
  go_ret2
  exact ⟨rfl, rfl⟩
end Go.Proofs.Ytgebiiekofpihaa
