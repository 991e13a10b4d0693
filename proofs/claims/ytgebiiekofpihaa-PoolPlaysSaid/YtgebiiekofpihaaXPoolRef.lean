/- The document's pool: Set, Worn, Count, Spread. No conditions beyond the form's own reach. -/
import Derived.Test.YtgebiiekofpihaaXPoolEvenL
namespace Go.Proofs.Ytgebiiekofpihaa
open Go.RowKit Go.Lib Go.Proofs.YtgebiiekofpihaaW.PrintWords Go.Proofs.YtgebiiekofpihaaW.PrintLast Go.Proofs.YtgebiiekofpihaaW.PrintMore
set_option linter.unusedVariables false
set_option linter.unusedSimpArgs false
--@tables
def intsC (l : List Int) : Array Value := (l.map fun x => Value.int .i64 x).toArray
theorem intsC_get (l : List Int) (i : Nat) (h : i < l.length) : (intsC l)[i]? = some (.int .i64 l[i]) := by
  unfold intsC
  rw [List.getElem?_toArray, List.getElem?_map, List.getElem?_eq_getElem h]
  rfl
theorem intsC_set (l : List Int) (i : Nat) (x : Int) : (intsC l).setIfInBounds i (.int .i64 x) = intsC (l.set i x) := by
  unfold intsC
  rw [List.setIfInBounds_toArray, List.map_set]
theorem intsC_size (l : List Int) : (intsC l).size = l.length := by unfold intsC; rw [List.size_toArray, List.length_map]
/-- The document's pool in a block g, its states in sa, its wears in sb. -/
structure RefAt (w : World) (g sa sb : Nat) (bs : List Bk) : Prop where
  head : w.heap[g]? = some (.cells #[.slice (some ⟨sa, 0, none⟩) bs.length bs.length, .slice (some ⟨sb, 0, none⟩) bs.length bs.length] 51 (0, 0))
  rowS : w.heap[sa]? = some (.cells (intsC (bs.map (·.1))) 3 (0, 0))
  rowW : w.heap[sb]? = some (.cells (intsC (bs.map (·.2))) 3 (0, 0))
  n1 : sa ≠ sb
  n2 : g ≠ sa
  n3 : g ≠ sb
  max : bs.length ≤ 256
theorem RefAt.cell0 {w : World} {g sa sb : Nat} {bs : List Bk} (h : RefAt w g sa sb bs) : w.cell? ⟨g, 0, none⟩ = some (.slice (some ⟨sa, 0, none⟩) bs.length bs.length) := by unfold World.cell?; rw [h.head]; rfl
theorem RefAt.cell1 {w : World} {g sa sb : Nat} {bs : List Bk} (h : RefAt w g sa sb bs) : w.cell? ⟨g, 1, none⟩ = some (.slice (some ⟨sb, 0, none⟩) bs.length bs.length) := by unfold World.cell?; rw [h.head]; rfl
theorem RefAt.s0 {w : World} {g sa sb : Nat} {bs : List Bk} (h : RefAt w g sa sb bs) (i : Nat) (hi : i < bs.length) : w.cell? ⟨sa, i, none⟩ = some (.int .i64 bs[i].1) := by
  rw [cell_of_row w sa i (intsC (bs.map (·.1))) 3 (0, 0) h.rowS, intsC_get _ i (by rw [List.length_map]; exact hi), List.getElem_map]
theorem RefAt.w0 {w : World} {g sa sb : Nat} {bs : List Bk} (h : RefAt w g sa sb bs) (i : Nat) (hi : i < bs.length) : w.cell? ⟨sb, i, none⟩ = some (.int .i64 bs[i].2) := by
  rw [cell_of_row w sb i (intsC (bs.map (·.2))) 3 (0, 0) h.rowW, intsC_get _ i (by rw [List.length_map]; exact hi), List.getElem_map]
theorem RefAt.freeS {w : World} {g sa sb : Nat} {bs : List Bk} (h : RefAt w g sa sb bs) (i : Nat) : w.frozen? ⟨sa, i, none⟩ = false := by unfold World.frozen?; rw [h.rowS]; simp
theorem RefAt.freeW {w : World} {g sa sb : Nat} {bs : List Bk} (h : RefAt w g sa sb bs) (i : Nat) : w.frozen? ⟨sb, i, none⟩ = false := by unfold World.frozen?; rw [h.rowW]; simp
theorem RefAt.below {w w' : World} {g sa sb : Nat} {bs : List Bk} (h : RefAt w g sa sb bs) (hb : Below w.heap.size w w') : RefAt w' g sa sb bs := ⟨blk_below h.head hb, blk_below h.rowS hb, blk_below h.rowW hb, h.n1, h.n2, h.n3, h.max⟩
theorem RefAt.grown {w w' : World} {g sa sb b : Nat} {bs : List Bk} (h : RefAt w g sa sb bs) (hg : w.grownBy w' (some b)) (h1 : g ≠ b) (h2 : sa ≠ b) (h3 : sb ≠ b) : RefAt w' g sa sb bs :=
  ⟨(hg.block g (blk_lt h.head) (fun e => h1 (by cases e; rfl))).trans h.head, (hg.block sa (blk_lt h.rowS) (fun e => h2 (by cases e; rfl))).trans h.rowS, (hg.block sb (blk_lt h.rowW) (fun e => h3 (by cases e; rfl))).trans h.rowW, h.n1, h.n2, h.n3, h.max⟩
theorem map_fst_set (bs : List Bk) (i : Nat) (hi : i < bs.length) (x : Int) : (bs.set i (x, bs[i].2)).map (·.1) = (bs.map (·.1)).set i x ∧ (bs.set i (x, bs[i].2)).map (·.2) = bs.map (·.2) := by
  rw [List.map_set, List.map_set]
  refine ⟨rfl, ?_⟩
  have e : bs[i].2 = (bs.map (·.2))[i]'(by rw [List.length_map]; exact hi) := by rw [List.getElem_map]
  rw [e, List.set_getElem_self]
theorem map_snd_set (bs : List Bk) (i : Nat) (hi : i < bs.length) (x : Int) : (bs.set i (bs[i].1, x)).map (·.2) = (bs.map (·.2)).set i x ∧ (bs.set i (bs[i].1, x)).map (·.1) = bs.map (·.1) := by
  rw [List.map_set, List.map_set]
  refine ⟨rfl, ?_⟩
  have e : bs[i].1 = (bs.map (·.1))[i]'(by rw [List.length_map]; exact hi) := by rw [List.getElem_map]
  rw [e, List.set_getElem_self]
theorem RefAt.setS {w : World} {g sa sb : Nat} {bs : List Bk} (h : RefAt w g sa sb bs) (i : Nat) (hi : i < bs.length) (x : Int) : RefAt (w.setCell ⟨sa, i, none⟩ (.int .i64 x)) g sa sb (bs.set i (x, bs[i].2)) := by
  have k := Lib.grownBy_setCell w sa i (.int .i64 x)
  refine ⟨?_, ?_, ?_, h.n1, h.n2, h.n3, by rw [List.length_set]; exact h.max⟩
  · rw [List.length_set]
    exact (k.block g (blk_lt h.head) (fun e => h.n2 (by cases e; rfl))).trans h.head
  · rw [(map_fst_set bs i hi x).1, ← intsC_set]
    exact heap_setCell_same w sa i _ _ _ h.rowS
  · rw [(map_fst_set bs i hi x).2]
    exact (k.block sb (blk_lt h.rowW) (fun e => h.n1 (by cases e; rfl))).trans h.rowW
theorem RefAt.setW {w : World} {g sa sb : Nat} {bs : List Bk} (h : RefAt w g sa sb bs) (i : Nat) (hi : i < bs.length) (x : Int) : RefAt (w.setCell ⟨sb, i, none⟩ (.int .i64 x)) g sa sb (bs.set i (bs[i].1, x)) := by
  have k := Lib.grownBy_setCell w sb i (.int .i64 x)
  refine ⟨?_, ?_, ?_, h.n1, h.n2, h.n3, by rw [List.length_set]; exact h.max⟩
  · rw [List.length_set]
    exact (k.block g (blk_lt h.head) (fun e => h.n3 (by cases e; rfl))).trans h.head
  · rw [(map_snd_set bs i hi x).2]
    exact (k.block sa (blk_lt h.rowS) (fun e => h.n1 (by cases e; rfl))).trans h.rowS
  · rw [(map_snd_set bs i hi x).1, ← intsC_set]
    exact heap_setCell_same w sb i _ _ _ h.rowW

set_option maxHeartbeats 4000000 in
theorem ref_set (g sa sb : Nat) (bs : List Bk) (k s : Int) (w : World) (h : RefAt w g sa sb bs) :
    Calls Try.prog 18 #[.pointer (some ⟨g, 0, none⟩), .int .i64 k, .int .i64 s] w fun x w' => x = .returned (.int .i64 (setE bs k s)) ∧ RefAt w' g sa sb (setL bs k s) ∧ w.grownBy w' (some sa) := by
  have H := Lib.hid h; clear h
  have c0 := H.out.cell0
  generalize hv : setE bs k s = v
  generalize hl : setL bs k s = l
  unfold setE at hv
  unfold setL at hl
  rcases getB_cases bs k with ⟨hg, hk⟩ | ⟨i, rfl, hi, hg⟩
  · rw [hg] at hv hl
    simp only at hv hl
    subst hv hl
    by_cases h0 : k < 0
    · have d0 : decide (k < 0) = true := decide_eq_true h0
      clear hk hg
      go_enter Try.func18, Try.ntmps18
      go_wp2
      go_ret
      exact ⟨rfl, H.out, grown_refl _ _⟩
    · have d0 : decide (k < 0) = false := decide_eq_false h0
      have h1 : (bs.length : Int) ≤ k := by omega
      have d1 : decide ((bs.length : Int) ≤ k) = true := decide_eq_true h1
      clear hk hg
      go_enter Try.func18, Try.ntmps18
      go_wp2
      go_ret
      exact ⟨rfl, H.out, grown_refl _ _⟩
  · rw [hg] at hv hl
    simp only at hv hl
    clear hg
    have d1 : decide (bs.length ≤ i) = false := decide_eq_false (by omega)
    have d2 : ¬ bs.length ≤ i := by omega
    by_cases h1 : s < 1
    · rw [if_pos (.inl h1)] at hv hl
      subst hv hl
      have c1 : decide (s < 1) = true := decide_eq_true h1
      go_enter Try.func18, Try.ntmps18
      go_wp2
      go_ret
      exact ⟨rfl, H.out, grown_refl _ _⟩
    · have c1 : decide (s < 1) = false := decide_eq_false h1
      by_cases h3 : 3 < s
      · rw [if_pos (.inr h3)] at hv hl
        subst hv hl
        have c2 : decide (3 < s) = true := decide_eq_true h3
        go_enter Try.func18, Try.ntmps18
        go_wp2
        go_ret
        exact ⟨rfl, H.out, grown_refl _ _⟩
      · rw [if_neg (by omega)] at hv hl
        have c2 : decide (3 < s) = false := decide_eq_false h3
        have c4 := H.out.s0 i hi
        have c5 := H.out.freeS i
        have HX := Lib.hid (H.out.setS i hi s)
        rw [Int.toNat_natCast] at hl
        by_cases hb : bs[i].1 = 3
        · rw [if_pos hb] at hv hl
          subst hv hl
          rw [hb] at c4
          go_enter Try.func18, Try.ntmps18
          go_wp2
          go_ret
          exact ⟨rfl, H.out, grown_refl _ _⟩
        · rw [if_neg hb] at hv hl
          have HV := Lib.hid (And.intro hv hl); clear hv hl
          generalize bs[i].1 = st at c4 hb
          have cb : decide (st = 3) = false := decide_eq_false hb
          go_enter Try.func18, Try.ntmps18
          go_wp2
          go_ret
          exact ⟨by rw [← HV.out.1]; rfl, by rw [← HV.out.2]; exact HX.out, Lib.grownBy_setCell _ sa _ _⟩
set_option maxHeartbeats 4000000 in
theorem ref_worn (g sa sb : Nat) (bs : List Bk) (k n : Int) (w : World) (h : RefAt w g sa sb bs) :
    Calls Try.prog 19 #[.pointer (some ⟨g, 0, none⟩), .int .i64 k, .int .i64 n] w fun x w' => x = .returned (.int .i64 (wornE bs k n)) ∧ RefAt w' g sa sb (wornL bs k n) ∧ w.grownBy w' (some sb) := by
  have H := Lib.hid h; clear h
  have c0 := H.out.cell0
  have c6 := H.out.cell1
  generalize hv : wornE bs k n = v
  generalize hl : wornL bs k n = l
  unfold wornE at hv
  unfold wornL at hl
  rcases getB_cases bs k with ⟨hg, hk⟩ | ⟨i, rfl, hi, hg⟩
  · rw [hg] at hv hl
    simp only [Option.isSome_none, if_neg Bool.false_ne_true] at hv hl
    subst hv hl
    by_cases h0 : k < 0
    · have d0 : decide (k < 0) = true := decide_eq_true h0
      clear hk hg
      go_enter Try.func19, Try.ntmps19
      go_wp2
      go_ret
      exact ⟨rfl, H.out, grown_refl _ _⟩
    · have d0 : decide (k < 0) = false := decide_eq_false h0
      have h1 : (bs.length : Int) ≤ k := by omega
      have d1 : decide ((bs.length : Int) ≤ k) = true := decide_eq_true h1
      clear hk hg
      go_enter Try.func19, Try.ntmps19
      go_wp2
      go_ret
      exact ⟨rfl, H.out, grown_refl _ _⟩
  · rw [hg] at hv hl
    simp only [Option.isSome_some, if_true] at hv hl
    clear hg
    have d1 : decide (bs.length ≤ i) = false := decide_eq_false (by omega)
    have d2 : ¬ bs.length ≤ i := by omega
    by_cases h1 : n < 0
    · rw [if_pos h1] at hv hl
      subst hv hl
      have c1 : decide (n < 0) = true := decide_eq_true h1
      go_enter Try.func19, Try.ntmps19
      go_wp2
      go_ret
      exact ⟨rfl, H.out, grown_refl _ _⟩
    · rw [if_neg h1] at hv hl
      have c1 : decide (n < 0) = false := decide_eq_false h1
      have c4 := H.out.w0 i hi
      have c5 := H.out.freeW i
      have HX := Lib.hid (H.out.setW i hi n)
      rw [Int.toNat_natCast] at hl
      have HV := Lib.hid (And.intro hv hl); clear hv hl
      go_enter Try.func19, Try.ntmps19
      go_wp2
      go_ret
      exact ⟨by rw [← HV.out.1]; rfl, by rw [← HV.out.2]; exact HX.out, Lib.grownBy_setCell _ sb _ _⟩

set_option maxHeartbeats 4000000 in
set_option maxRecDepth 100000 in
theorem ref_count (g sa sb : Nat) (bs : List Bk) (s : Int) (w : World) (h : RefAt w g sa sb bs) :
    Calls Try.prog 21 #[.pointer (some ⟨g, 0, none⟩), .int .i64 s] w fun x w' => x = .returned (.int .i64 (countB bs s : Int)) ∧ w' = w := by
  have H := Lib.hid h; clear h
  go_enter Try.func21, Try.ntmps21
  go_wp2_with fail
  go_loopw [5, 6] (fun v i wr => ∃ j : Nat, j ≤ bs.length ∧ i = .int .i64 (j : Int) ∧ v = .int .i64 (countB (bs.take j) s : Int) ∧ wr = w) (fun _ i _ => bs.length - (RowKit.intOf i).toNat)
  case atStart => exact ⟨0, Nat.zero_le _, rfl, rfl, rfl⟩
  case round =>
    obtain ⟨j, hj, rfl, rfl, rfl⟩ := hrel
    have c0 := H.out.cell0
    by_cases hlt : j < bs.length
    · have k0 := H.out.s0 j hlt
      have HT := Lib.hid (countB_take bs s j hlt)
      have hm := Nat.le_trans (countB_le (bs.take j) s) (List.length_take_le j bs)
      have e3 : wrap64 ((j : Int) + 1) = ((j + 1 : Nat) : Int) := wrap_succ j (Nat.lt_of_lt_of_le hlt (Nat.le_trans H.out.max (by decide)))
      have e4 : wrap64 ((countB (bs.take j) s : Int) + 1) = ((countB (bs.take j) s + 1 : Nat) : Int) := wrap_succ _ (Nat.lt_of_le_of_lt hm (Nat.lt_of_lt_of_le hlt (Nat.le_trans H.out.max (by decide))))
      generalize bs[j] = b at k0 HT
      generalize countB (bs.take j) s = c at HT e4 hm ⊢
      obtain ⟨st, we⟩ := b
      simp only at k0
      clear hm
      by_cases hs : st = s
      · subst hs
        go_wp2
        go_roundw
        case rel => exact ⟨j + 1, hlt, by rw [e3], by rw [e4, HT.out, if_pos rfl], trivial⟩
        case measure => rw [e3]; simp only [RowKit.intOf, Int.toNat_natCast]; exact Nat.sub_lt_sub_left hlt (Nat.lt_succ_self j)
      · have cs : decide (st = s) = false := decide_eq_false hs
        have HS := Lib.hid hs
        go_wp2
        go_roundw
        case rel => exact ⟨j + 1, hlt, by rw [e3], by rw [HT.out, if_neg HS.out, Nat.add_zero], trivial⟩
        case measure => rw [e3]; simp only [RowKit.intOf, Int.toNat_natCast]; exact Nat.sub_lt_sub_left hlt (Nat.lt_succ_self j)
    · obtain rfl : j = bs.length := Nat.le_antisymm hj (Nat.le_of_not_lt hlt)
      rw [List.take_length]
      go_wp2
      go_ret
      exact ⟨rfl, rfl⟩
end Go.Proofs.Ytgebiiekofpihaa
