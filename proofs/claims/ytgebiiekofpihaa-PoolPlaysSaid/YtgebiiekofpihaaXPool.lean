/- pool: what a pool is in memory; get, check, State, Wear, Worn, Set. No conditions beyond the form's own reach. -/
import Derived.Test.YtgebiiekofpihaaProg
import Derived.Test.YtgebiiekofpihaaWWords
import Derived.Test.YtgebiiekofpihaaWLast
import Derived.Test.YtgebiiekofpihaaWMore
import Derived.Test.YtgebiiekofpihaaWTab
import Derived.WalkKit
import Derived.Lib.Hide
import Derived.Lib.BufferOwn
namespace Go.Proofs.Ytgebiiekofpihaa
open Go.RowKit Go.Lib Go.Proofs.YtgebiiekofpihaaW.PrintWords Go.Proofs.YtgebiiekofpihaaW.PrintLast Go.Proofs.YtgebiiekofpihaaW.PrintMore
set_option linter.unusedVariables false
set_option linter.unusedSimpArgs false
--@tables
theorem chainC {w a b : World} (h : Below w.heap.size w a) (k : Below a.heap.size a b) : Below w.heap.size w b := below_then h h.size k
theorem below_set {B : Nat} {a w : World} {b i : Nat} {v : Value} (h : Below B a w) (hb : B ≤ b) : Below B a (w.setCell ⟨b, i, none⟩ v) := h.setCell (p := ⟨b, i, none⟩) hb v
theorem wrap_succ (p : Nat) (h : p < 1000) : wrap64 ((p : Int) + 1) = ((p + 1 : Nat) : Int) := by unfold wrap64; omega
/-- A block: its state and its wear. -/
abbrev Bk := Int × Int
def encB (b : Bk) : List Value := [.int .i64 b.1, .int .i64 b.2]
def cellsB (bs : List Bk) : Array Value := (bs.flatMap encB).toArray
theorem cellsB_size (bs : List Bk) : (cellsB bs).size = bs.length * 2 := by
  unfold cellsB
  rw [List.size_toArray]
  induction bs with
  | nil => rfl
  | cons b bs ih => rw [List.flatMap_cons, List.length_append, ih, List.length_cons]; show 2 + _ = _; omega
theorem cellsB_get (bs : List Bk) (i : Nat) (hi : i < bs.length) : (cellsB bs)[i * 2]? = some (.int .i64 bs[i].1) ∧ (cellsB bs)[i * 2 + 1]? = some (.int .i64 bs[i].2) := by
  unfold cellsB
  rw [List.getElem?_toArray, List.getElem?_toArray]
  induction bs generalizing i with
  | nil => exact absurd hi (Nat.not_lt_zero _)
  | cons b bs ih =>
    rw [List.flatMap_cons]
    cases i with
    | zero => exact ⟨rfl, rfl⟩
    | succ i =>
      have h := ih i (by simpa using hi)
      have e1 : (i + 1) * 2 = (i * 2 + 1) + 1 := by omega
      rw [e1]
      exact h
theorem cellsB_set0 (bs : List Bk) (i : Nat) (hi : i < bs.length) (x : Int) : (cellsB bs).setIfInBounds (i * 2) (.int .i64 x) = cellsB (bs.set i (x, bs[i].2)) := by
  unfold cellsB
  rw [List.setIfInBounds_toArray]
  congr 1
  induction bs generalizing i with
  | nil => exact absurd hi (Nat.not_lt_zero _)
  | cons b bs ih =>
    cases i with
    | zero => rfl
    | succ i =>
      have h := ih i (by simpa using hi)
      have e1 : (i + 1) * 2 = (i * 2 + 1) + 1 := by omega
      rw [e1]
      show _ :: _ :: ((bs.flatMap encB).set (i * 2) _) = _
      rw [h]
      rfl
theorem cellsB_set1 (bs : List Bk) (i : Nat) (hi : i < bs.length) (x : Int) : (cellsB bs).setIfInBounds (i * 2 + 1) (.int .i64 x) = cellsB (bs.set i (bs[i].1, x)) := by
  unfold cellsB
  rw [List.setIfInBounds_toArray]
  congr 1
  induction bs generalizing i with
  | nil => exact absurd hi (Nat.not_lt_zero _)
  | cons b bs ih =>
    cases i with
    | zero => rfl
    | succ i =>
      have h := ih i (by simpa using hi)
      have e1 : (i + 1) * 2 + 1 = (i * 2 + 1 + 1) + 1 := by omega
      rw [e1]
      show _ :: _ :: ((bs.flatMap encB).set (i * 2 + 1) _) = _
      rw [h]
      rfl
/-- A pool in a block g, its blocks in a block r. -/
structure PoolAt (w : World) (g r : Nat) (bs : List Bk) : Prop where
  head : w.heap[g]? = some (.cells #[.slice (some ⟨r, 0, none⟩) bs.length bs.length] 58 (0, 0))
  row : w.heap[r]? = some (.cells (cellsB bs) 60 (0, 0))
  ne : g ≠ r
  max : bs.length ≤ 256
theorem PoolAt.cell {w : World} {g r : Nat} {bs : List Bk} (h : PoolAt w g r bs) : w.cell? ⟨g, 0, none⟩ = some (.slice (some ⟨r, 0, none⟩) bs.length bs.length) := by
  unfold World.cell?; rw [h.head]; rfl
theorem PoolAt.b0 {w : World} {g r : Nat} {bs : List Bk} (h : PoolAt w g r bs) (i : Nat) (hi : i < bs.length) : w.cell? ⟨r, i * 2, none⟩ = some (.int .i64 bs[i].1) := by
  rw [cell_of_row w r (i * 2) (cellsB bs) 60 (0, 0) h.row]; exact (cellsB_get bs i hi).1
theorem PoolAt.b1 {w : World} {g r : Nat} {bs : List Bk} (h : PoolAt w g r bs) (i : Nat) (hi : i < bs.length) : w.cell? ⟨r, i * 2 + 1, none⟩ = some (.int .i64 bs[i].2) := by
  rw [cell_of_row w r (i * 2 + 1) (cellsB bs) 60 (0, 0) h.row]; exact (cellsB_get bs i hi).2
theorem PoolAt.free {w : World} {g r : Nat} {bs : List Bk} (h : PoolAt w g r bs) (i : Nat) : w.frozen? ⟨r, i, none⟩ = false := by
  unfold World.frozen?; rw [h.row]; simp
theorem PoolAt.below {w w' : World} {g r : Nat} {bs : List Bk} (h : PoolAt w g r bs) (hb : Below w.heap.size w w') : PoolAt w' g r bs := ⟨blk_below h.head hb, blk_below h.row hb, h.ne, h.max⟩
theorem PoolAt.set0 {w : World} {g r : Nat} {bs : List Bk} (h : PoolAt w g r bs) (i : Nat) (hi : i < bs.length) (x : Int) : PoolAt (w.setCell ⟨r, i * 2, none⟩ (.int .i64 x)) g r (bs.set i (x, bs[i].2)) := by
  refine ⟨?_, ?_, h.ne, by rw [List.length_set]; exact h.max⟩
  · rw [List.length_set]
    exact ((Lib.grownBy_setCell w r (i * 2) (.int .i64 x)).block g (blk_lt h.head) (fun e => h.ne (by cases e; rfl))).trans h.head
  · rw [← cellsB_set0 bs i hi x]
    exact heap_setCell_same w r (i * 2) _ _ _ h.row
theorem PoolAt.set1 {w : World} {g r : Nat} {bs : List Bk} (h : PoolAt w g r bs) (i : Nat) (hi : i < bs.length) (x : Int) : PoolAt (w.setCell ⟨r, i * 2 + 1, none⟩ (.int .i64 x)) g r (bs.set i (bs[i].1, x)) := by
  refine ⟨?_, ?_, h.ne, by rw [List.length_set]; exact h.max⟩
  · rw [List.length_set]
    exact ((Lib.grownBy_setCell w r (i * 2 + 1) (.int .i64 x)).block g (blk_lt h.head) (fun e => h.ne (by cases e; rfl))).trans h.head
  · rw [← cellsB_set1 bs i hi x]
    exact heap_setCell_same w r (i * 2 + 1) _ _ _ h.row

def getB (bs : List Bk) (k : Int) : Option Bk := if 0 ≤ k then bs[k.toNat]? else none
theorem getB_cases (bs : List Bk) (k : Int) : (getB bs k = none ∧ (k < 0 ∨ (bs.length : Int) ≤ k)) ∨ ∃ i : Nat, k = (i : Int) ∧ ∃ h : i < bs.length, getB bs k = some bs[i] := by
  unfold getB
  by_cases h0 : 0 ≤ k
  · obtain ⟨i, rfl⟩ := Int.eq_ofNat_of_zero_le h0
    rw [if_pos h0, Int.toNat_natCast]
    by_cases hi : i < bs.length
    · exact .inr ⟨i, rfl, hi, List.getElem?_eq_getElem hi⟩
    · exact .inl ⟨List.getElem?_eq_none (by omega), .inr (by omega)⟩
  · exact .inl ⟨if_neg h0, .inl (by omega)⟩
def placeB (r : Nat) (bs : List Bk) (k : Int) : Option Addr := (getB bs k).map fun _ => ⟨r, k.toNat * 2, none⟩

set_option maxHeartbeats 2000000 in
theorem pool_get (g r : Nat) (bs : List Bk) (k : Int) (w : World) (h : PoolAt w g r bs) :
    Calls Try.prog 24 #[.pointer (some ⟨g, 0, none⟩), .int .i64 k] w fun x w' => x = .returned (.pointer (placeB r bs k)) ∧ w' = w := by
  have hc := h.cell
  rcases getB_cases bs k with ⟨hg, hk | hk⟩ | ⟨i, rfl, hi, hg⟩
  · have hp : placeB r bs k = none := by unfold placeB; rw [hg]; rfl
    rw [hp]
    have c1 : decide (k < 0) = true := decide_eq_true hk
    clear hg hp h
    go_enter Try.func24, Try.ntmps24
    go_wp2
    go_ret
    exact ⟨rfl, rfl⟩
  · have hp : placeB r bs k = none := by unfold placeB; rw [hg]; rfl
    rw [hp]
    by_cases hk0 : k < 0
    · have c1 : decide (k < 0) = true := decide_eq_true hk0
      clear hg hp h hk
      go_enter Try.func24, Try.ntmps24
      go_wp2
      go_ret
      exact ⟨rfl, rfl⟩
    · have c1 : decide (k < 0) = false := decide_eq_false hk0
      have c2 : decide ((bs.length : Int) ≤ k) = true := decide_eq_true hk
      clear hg hp h
      go_enter Try.func24, Try.ntmps24
      go_wp2
      go_ret
      exact ⟨rfl, rfl⟩
  · have hp : placeB r bs (i : Int) = some ⟨r, i * 2, none⟩ := by unfold placeB; rw [hg]; rfl
    rw [hp]
    have c2 : decide (bs.length ≤ i) = false := decide_eq_false (by omega)
    have c3 : ¬ bs.length ≤ i := by omega
    clear hg hp h
    go_enter Try.func24, Try.ntmps24
    go_wp2
    go_ret
    exact ⟨rfl, rfl⟩
theorem pool_get_nil (k : Int) (w : World) : Calls Try.prog 24 #[.pointer none, .int .i64 k] w fun x w' => x = .returned (.pointer none) ∧ w' = w := by
  go_enter Try.func24, Try.ntmps24
  go_wp2
  go_ret
  exact ⟨rfl, rfl⟩

def checkB (bs : List Bk) (k : Int) : Int := if (getB bs k).isSome then 0 else 3
set_option maxHeartbeats 2000000 in
theorem pool_check (g r : Nat) (bs : List Bk) (k : Int) (w : World) (h : PoolAt w g r bs) :
    Calls Try.prog 23 #[.pointer (some ⟨g, 0, none⟩), .int .i64 k] w fun x w' => x = .returned (.int .i64 (checkB bs k)) ∧ w' = w := by
  have H := Lib.hid h; clear h
  generalize hv : checkB bs k = v
  go_enter Try.func23, Try.ntmps23
  go_wp2_with fail
  refine (pool_get g r bs k w H.out).mono ?_
  rintro e w' ⟨rfl, rfl⟩
  unfold placeB
  cases hg : getB bs k with
  | none =>
    simp only [Option.map_none]
    go_wp2
    go_ret
    exact ⟨by rw [← hv]; unfold checkB; rw [hg]; rfl, rfl⟩
  | some b =>
    simp only [Option.map_some]
    go_wp2
    go_ret
    exact ⟨by rw [← hv]; unfold checkB; rw [hg]; rfl, rfl⟩
theorem pool_check_nil (k : Int) (w : World) : Calls Try.prog 23 #[.pointer none, .int .i64 k] w fun x w' => x = .returned (.int .i64 1) ∧ w' = w := by
  go_enter Try.func23, Try.ntmps23
  go_wp2
  go_ret
  exact ⟨rfl, rfl⟩

def stB (bs : List Bk) (k : Int) : Int := ((getB bs k).map (·.1)).getD 0
def weB (bs : List Bk) (k : Int) : Int := ((getB bs k).map (·.2)).getD 0
set_option maxHeartbeats 2000000 in
theorem pool_state (g r : Nat) (bs : List Bk) (k : Int) (w : World) (h : PoolAt w g r bs) :
    Calls Try.prog 11 #[.pointer (some ⟨g, 0, none⟩), .int .i64 k] w fun x w' => x = .returned (.int .i64 (stB bs k)) ∧ w' = w := by
  have H := Lib.hid h; clear h
  generalize hv : stB bs k = v
  go_enter Try.func11, Try.ntmps11
  go_wp2_with fail
  refine (pool_get g r bs k w H.out).mono ?_
  rintro e w' ⟨rfl, rfl⟩
  unfold placeB
  rcases getB_cases bs k with ⟨hg, _⟩ | ⟨i, rfl, hi, hg⟩
  · rw [hg]
    simp only [Option.map_none]
    go_wp2
    go_ret
    exact ⟨by rw [← hv]; unfold stB; rw [hg]; rfl, rfl⟩
  · rw [hg]
    simp only [Option.map_some, Int.toNat_natCast]
    have c0 := H.out.b0 i hi
    generalize bs[i] = b at c0 hg ⊢
    go_wp2
    go_ret
    exact ⟨by rw [← hv]; unfold stB; rw [hg]; rfl, rfl⟩
theorem pool_state_nil (k : Int) (w : World) : Calls Try.prog 11 #[.pointer none, .int .i64 k] w fun x w' => x = .returned (.int .i64 0) ∧ w' = w := by
  go_enter Try.func11, Try.ntmps11
  go_wp2_with fail
  refine (pool_get_nil k w).mono ?_
  rintro e w' ⟨rfl, rfl⟩
  go_wp2
  go_ret
  exact ⟨rfl, rfl⟩
set_option maxHeartbeats 2000000 in
theorem pool_wear (g r : Nat) (bs : List Bk) (k : Int) (w : World) (h : PoolAt w g r bs) :
    Calls Try.prog 14 #[.pointer (some ⟨g, 0, none⟩), .int .i64 k] w fun x w' => x = .returned (.int .i64 (weB bs k)) ∧ w' = w := by
  have H := Lib.hid h; clear h
  generalize hv : weB bs k = v
  go_enter Try.func14, Try.ntmps14
  go_wp2_with fail
  refine (pool_get g r bs k w H.out).mono ?_
  rintro e w' ⟨rfl, rfl⟩
  unfold placeB
  rcases getB_cases bs k with ⟨hg, _⟩ | ⟨i, rfl, hi, hg⟩
  · rw [hg]
    simp only [Option.map_none]
    go_wp2
    go_ret
    exact ⟨by rw [← hv]; unfold weB; rw [hg]; rfl, rfl⟩
  · rw [hg]
    simp only [Option.map_some, Int.toNat_natCast]
    have c0 := H.out.b1 i hi
    generalize bs[i] = b at c0 hg ⊢
    go_wp2
    go_ret
    exact ⟨by rw [← hv]; unfold weB; rw [hg]; rfl, rfl⟩
theorem pool_wear_nil (k : Int) (w : World) : Calls Try.prog 14 #[.pointer none, .int .i64 k] w fun x w' => x = .returned (.int .i64 0) ∧ w' = w := by
  go_enter Try.func14, Try.ntmps14
  go_wp2_with fail
  refine (pool_get_nil k w).mono ?_
  rintro e w' ⟨rfl, rfl⟩
  go_wp2
  go_ret
  exact ⟨rfl, rfl⟩
end Go.Proofs.Ytgebiiekofpihaa
