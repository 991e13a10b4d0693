/- pool: Worn, Set, Count, Spread. No conditions beyond the form's own reach. -/
import Derived.Test.YtgebiiekofpihaaXPool
namespace Go.Proofs.Ytgebiiekofpihaa
open Go.RowKit Go.Lib Go.Proofs.YtgebiiekofpihaaW.PrintWords Go.Proofs.YtgebiiekofpihaaW.PrintLast Go.Proofs.YtgebiiekofpihaaW.PrintMore
set_option linter.unusedVariables false
set_option linter.unusedSimpArgs false
--@tables
def wornE (bs : List Bk) (k n : Int) : Int := if (getB bs k).isSome then (if n < 0 then 2 else 0) else 3
def wornL (bs : List Bk) (k n : Int) : List Bk := match getB bs k with | none => bs | some b => if n < 0 then bs else bs.set k.toNat (b.1, n)
def setE (bs : List Bk) (k s : Int) : Int := match getB bs k with | none => 3 | some b => if s < 1 ∨ 3 < s then 2 else if b.1 = 3 then 12 else 0
def setL (bs : List Bk) (k s : Int) : List Bk := match getB bs k with | none => bs | some b => if s < 1 ∨ 3 < s then bs else if b.1 = 3 then bs else bs.set k.toNat (s, b.2)
theorem grown_refl (w : World) (r : Option Nat) : w.grownBy w r := grown_of_below (Below.refl _ w) r

set_option maxHeartbeats 2000000 in
theorem pool_worn (g r : Nat) (bs : List Bk) (k n : Int) (w : World) (h : PoolAt w g r bs) :
    Calls Try.prog 9 #[.pointer (some ⟨g, 0, none⟩), .int .i64 k, .int .i64 n] w fun x w' => x = .returned (.int .i64 (wornE bs k n)) ∧ PoolAt w' g r (wornL bs k n) ∧ w.grownBy w' (some r) := by
  have H := Lib.hid h; clear h
  generalize hv : wornE bs k n = v
  generalize hl : wornL bs k n = l
  go_enter Try.func9, Try.ntmps9
  go_wp2_with fail
  refine (pool_check g r bs k w H.out).mono ?_
  rintro e w' ⟨rfl, rfl⟩
  unfold checkB
  rcases getB_cases bs k with ⟨hg, _⟩ | ⟨i, rfl, hi, hg⟩
  · rw [hg]
    have e1 : v = 3 := by rw [← hv]; unfold wornE; rw [hg]; rfl
    have e2 : l = bs := by rw [← hl]; unfold wornL; rw [hg]
    clear hv hl hg
    simp only [Option.isSome_none, if_neg Bool.false_ne_true]
    go_wp2
    go_ret
    exact ⟨by rw [e1]; rfl, by rw [e2]; exact H.out, grown_refl _ _⟩
  · rw [hg]
    simp only [Option.isSome_some, if_true]
    by_cases hn : n < 0
    · have e1 : v = 2 := by rw [← hv]; unfold wornE; rw [hg, if_pos hn]; rfl
      have e2 : l = bs := by rw [← hl]; unfold wornL; rw [hg]; simp only; rw [if_pos hn]
      have c1 : decide (n < 0) = true := decide_eq_true hn
      clear hv hl hg
      go_wp2
      go_ret
      exact ⟨by rw [e1]; rfl, by rw [e2]; exact H.out, grown_refl _ _⟩
    · have e1 : v = 0 := by rw [← hv]; unfold wornE; rw [hg, if_neg hn]; rfl
      have e2 : l = bs.set i (bs[i].1, n) := by rw [← hl]; unfold wornL; rw [hg]; simp only; rw [if_neg hn]; rfl
      have c1 : decide (n < 0) = false := decide_eq_false hn
      have c0 := H.out.cell
      have c2 := H.out.b1 i hi
      have c3 := H.out.free (i * 2 + 1)
      have HX := Lib.hid (H.out.set1 i hi n)
      clear hv hl hg
      have HE := Lib.hid (And.intro e1 e2); clear e1 e2
      go_wp2
      go_ret
      rw [HE.out.1, HE.out.2]
      exact ⟨rfl, HX.out, Lib.grownBy_setCell _ r _ _⟩
theorem pool_worn_nil (k n : Int) (w : World) : Calls Try.prog 9 #[.pointer none, .int .i64 k, .int .i64 n] w fun x w' => x = .returned (.int .i64 1) ∧ w' = w := by
  go_enter Try.func9, Try.ntmps9
  go_wp2_with fail
  refine (pool_check_nil k w).mono ?_
  rintro e w' ⟨rfl, rfl⟩
  go_wp2
  go_ret
  exact ⟨rfl, rfl⟩

set_option maxHeartbeats 4000000 in
theorem pool_set (g r : Nat) (bs : List Bk) (k s : Int) (w : World) (h : PoolAt w g r bs) :
    Calls Try.prog 10 #[.pointer (some ⟨g, 0, none⟩), .int .i64 k, .int .i64 s] w fun x w' => x = .returned (.int .i64 (setE bs k s)) ∧ PoolAt w' g r (setL bs k s) ∧ w.grownBy w' (some r) := by
  have H := Lib.hid h; clear h
  generalize hv : setE bs k s = v
  generalize hl : setL bs k s = l
  go_enter Try.func10, Try.ntmps10
  go_wp2_with fail
  refine (pool_check g r bs k w H.out).mono ?_
  rintro e w' ⟨rfl, rfl⟩
  unfold checkB
  unfold setE at hv
  unfold setL at hl
  rcases getB_cases bs k with ⟨hg, _⟩ | ⟨i, rfl, hi, hg⟩
  · rw [hg] at hv hl ⊢
    simp only at hv hl
    subst hv hl
    clear hg
    simp only [Option.isSome_none, if_neg Bool.false_ne_true]
    go_wp2
    go_ret
    exact ⟨rfl, H.out, grown_refl _ _⟩
  · rw [hg] at hv hl ⊢
    simp only at hv hl
    simp only [Option.isSome_some, if_true]
    clear hg
    by_cases h1 : s < 1
    · rw [if_pos (.inl h1)] at hv hl
      subst hv hl
      have c1 : decide (s < 1) = true := decide_eq_true h1
      go_wp2
      go_ret
      exact ⟨rfl, H.out, grown_refl _ _⟩
    · have c1 : decide (s < 1) = false := decide_eq_false h1
      by_cases h3 : 3 < s
      · rw [if_pos (.inr h3)] at hv hl
        subst hv hl
        have c2 : decide (3 < s) = true := decide_eq_true h3
        go_wp2
        go_ret
        exact ⟨rfl, H.out, grown_refl _ _⟩
      · rw [if_neg (by omega)] at hv hl
        have c2 : decide (3 < s) = false := decide_eq_false h3
        have c0 := H.out.cell
        have c4 := H.out.b0 i hi
        have c5 := H.out.free (i * 2)
        have HX := Lib.hid (H.out.set0 i hi s)
        rw [Int.toNat_natCast] at hl
        by_cases hb : bs[i].1 = 3
        · rw [if_pos hb] at hv hl
          subst hv hl
          rw [hb] at c4
          go_wp2
          go_ret
          exact ⟨rfl, H.out, grown_refl _ _⟩
        · rw [if_neg hb] at hv hl
          have HV := Lib.hid (And.intro hv hl); clear hv hl
          generalize bs[i].1 = st at c4 hb
          have cb : decide (st = 3) = false := decide_eq_false hb
          go_wp2
          go_ret
          exact ⟨by rw [← HV.out.1]; rfl, by rw [← HV.out.2]; exact HX.out, Lib.grownBy_setCell _ r _ _⟩
theorem pool_set_nil (k n : Int) (w : World) : Calls Try.prog 10 #[.pointer none, .int .i64 k, .int .i64 n] w fun x w' => x = .returned (.int .i64 1) ∧ w' = w := by
  go_enter Try.func10, Try.ntmps10
  go_wp2_with fail
  refine (pool_check_nil k w).mono ?_
  rintro e w' ⟨rfl, rfl⟩
  go_wp2
  go_ret
  exact ⟨rfl, rfl⟩

def countB (bs : List Bk) (s : Int) : Nat := bs.countP fun b => decide (b.1 = s)
theorem countB_take (bs : List Bk) (s : Int) (j : Nat) (h : j < bs.length) : countB (bs.take (j + 1)) s = countB (bs.take j) s + if bs[j].1 = s then 1 else 0 := by
  unfold countB
  rw [List.take_succ_eq_append_getElem h, List.countP_append, List.countP_singleton]
  simp
theorem countB_le (bs : List Bk) (s : Int) : countB bs s ≤ bs.length := List.countP_le_length

set_option maxHeartbeats 4000000 in
set_option maxRecDepth 100000 in
theorem pool_count (g r : Nat) (bs : List Bk) (s : Int) (w : World) (h : PoolAt w g r bs) :
    Calls Try.prog 16 #[.pointer (some ⟨g, 0, none⟩), .int .i64 s] w fun x w' => x = .returned (.int .i64 (countB bs s : Int)) ∧ Below w.heap.size w w' := by
  have H := Lib.hid h; clear h
  have c0 := H.out.cell
  go_enter Try.func16, Try.ntmps16
  go_wp2_with fail
  clear c0
  go_loopw [5, 16] (fun v i wr => ∃ j : Nat, j ≤ bs.length ∧ i = .int .i64 (j : Int) ∧ v = .int .i64 (countB (bs.take j) s : Int) ∧ Below w.heap.size w wr) (fun _ i _ => bs.length - (RowKit.intOf i).toNat)
  case atStart => exact ⟨0, Nat.zero_le _, rfl, rfl, Below.refl _ _⟩
  case round =>
    obtain ⟨j, hj, rfl, rfl, h1⟩ := hrel
    have HB := Lib.hid h1; clear h1
    by_cases hlt : j < bs.length
    · have k0 := (H.out.below HB.out).b0 j hlt
      have k1 := (H.out.below HB.out).b1 j hlt
      have HT := Lib.hid (countB_take bs s j hlt)
      have hm := Nat.le_trans (countB_le (bs.take j) s) (List.length_take_le j bs)
      have e3 : wrap64 ((j : Int) + 1) = ((j + 1 : Nat) : Int) := wrap_succ j (Nat.lt_of_lt_of_le hlt (Nat.le_trans H.out.max (by decide)))
      have e4 : wrap64 ((countB (bs.take j) s : Int) + 1) = ((countB (bs.take j) s + 1 : Nat) : Int) := wrap_succ _ (Nat.lt_of_le_of_lt hm (Nat.lt_of_lt_of_le hlt (Nat.le_trans H.out.max (by decide))))
      generalize bs[j] = b at k0 k1 HT
      generalize countB (bs.take j) s = c at HT e4 hm ⊢
      have ha := (Below.refl wr.heap.size wr).alloc (Nat.le_refl _) (Obj.cells #[Value.int IntKind.i64 b.1, Value.int IntKind.i64 b.2] 60)
      replace HB := Lib.hid (chainC HB.out ha); clear ha hm
      by_cases hs : b.1 = s
      · have HS := Lib.hid hs
        have hba : Below w.heap.size w (wr.alloc (Obj.cells #[Value.int IntKind.i64 s, Value.int IntKind.i64 b.2] 60)) := by rw [← hs]; exact HB.out
        replace HB := Lib.hid hba; clear hba
        go_wp2
        go_roundw
        case rel => exact ⟨j + 1, hlt, by rw [e3], by rw [e4, HT.out, if_pos HS.out], HB.out⟩
        case measure => rw [e3]; simp only [RowKit.intOf, Int.toNat_natCast]; exact Nat.sub_lt_sub_left hlt (Nat.lt_succ_self j)
      · have cs : decide (b.1 = s) = false := decide_eq_false hs
        have HS := Lib.hid hs
        go_wp2
        go_roundw
        case rel => exact ⟨j + 1, hlt, by rw [e3], by rw [HT.out, if_neg HS.out, Nat.add_zero], HB.out⟩
        case measure => rw [e3]; simp only [RowKit.intOf, Int.toNat_natCast]; exact Nat.sub_lt_sub_left hlt (Nat.lt_succ_self j)
    · obtain rfl : j = bs.length := Nat.le_antisymm hj (Nat.le_of_not_lt hlt)
      rw [List.take_length]
      go_wp2
      go_ret
      exact ⟨rfl, HB.out⟩
theorem pool_count_nil (s : Int) (w : World) : Calls Try.prog 16 #[.pointer none, .int .i64 s] w fun x w' => x = .returned (.int .i64 0) ∧ w' = w := by
  go_enter Try.func16, Try.ntmps16
  go_wp2
  go_ret
  exact ⟨rfl, rfl⟩
end Go.Proofs.Ytgebiiekofpihaa
