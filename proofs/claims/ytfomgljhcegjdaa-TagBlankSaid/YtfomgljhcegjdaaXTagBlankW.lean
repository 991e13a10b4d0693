/- TagBlank: which pages are erased, and which tell that a block is bad from the factory, is the document's answer; neither has a tag. No conditions beyond the form's own reach. -/
import Derived.Test.YtfomgljhcegjdaaXTagBlank
import Derived.Test.YtfomgljhcegjdaaXOpen
namespace Go.Proofs.Ytfomgljhcegjdaa
open Go.RowKit Go.Lib Go.Proofs.Ytfomgljhcegjdaa.P Go.Proofs.Ytfomgljhcegjdaa.BeS Go.Proofs.Ytfomgljhcegjdaa.PoS Go.Proofs.YtfomgljhcegjdaaW.PrintWords Go.Proofs.YtfomgljhcegjdaaW.PrintLast Go.Proofs.YtfomgljhcegjdaaW.PrintMore
set_option linter.unusedVariables false
set_option linter.unusedSimpArgs false
def rg6_1.T : Bool × List (List Nat × List Nat) := (true, [([], []), ([], []), ([1], [1]), ([2], [2]), ([0, 3], [0, 3]), ([], []), ([], []), ([6], [6]), ([7], [7]), ([5, 8], [5, 8]), ([4, 0, 1, 2, 3, 4], [0, 1, 4]), ([9, 10, 0, 1, 2, 3, 4, 5, 6, 7, 8, 9, 10], [5, 6, 9])])
def rg6_1.B : List Nat := [0, 0, 2, 6, 15, 0, 0, 64, 192, 480, 31, 2047]
theorem rg6_1.tab : rtab .any (opsOf Try.f6 1) = rg6_1.T := by kernel_rfl
theorem rg6_1.bits : waitsOk rg6_1.T.2 rg6_1.B = true := by kernel_rfl
theorem blank_parse (d b : List UInt8) (h : blankB (d ++ b) = true ∨ factB b = true) : (parseT d b).2 = 4 := by
  rcases h with h | h
  · rw [parse_blank d b (fun c hc => (blankB_iff _).1 h c (List.mem_append_right _ hc))]
  · unfold factB at h
    rw [Bool.and_eq_true, decide_eq_true_iff] at h
    obtain ⟨hl, hp⟩ := h
    rw [parse_first d b hl (fun e => ?_)]
    match b, hl with
    | c :: b', _ =>
      simp only [List.getElem_cons_zero] at e
      subst e
      simp [Lib.hasPrefix] at hp
theorem fact_first (b : ByteArray) (h : b.size = 32) (h0 : 0 < b.size) : factB b.data.toList = !(b[0] == 255) := by
  unfold factB
  rw [decide_eq_true (by rw [Array.length_toList]; exact h)]
  have e : b.data.toList = b[0] :: b.data.toList.drop 1 := by
    have h1 : 0 < b.data.toList.length := by rw [Array.length_toList]; exact h0
    have := List.drop_eq_getElem_cons h1
    rw [List.drop_zero] at this
    exact this
  rw [e]
  show (true && !(([255] : List UInt8).isPrefixOf (b[0] :: b.data.toList.drop 1))) = _
  rw [Bool.eq_iff_iff]
  simp [List.isPrefixOf]
  exact ⟨fun h e => h e.symm, fun h e => h e.symm⟩
theorem blank_take (l : List UInt8) (j : Nat) (h : j < l.length) : blankB (l.take (j + 1)) = (blankB (l.take j) && (l.getD j 0 == 255)) := by
  rw [List.take_succ_eq_append_getElem h, blankB_append, List.getD_eq_getElem?_getD, List.getElem?_eq_getElem h]
  simp [blankB]
set_option maxHeartbeats 16000000 in
set_option maxRecDepth 100000 in
theorem tagBlank_walk (d b : ByteArray) (hd0 : d.size ≤ 140737488351232) (hb0 : b.size ≤ 140737488351232) (n : Nat) (hn : n < 256) (w : World) :
    Calls Try.prog 6 #[.string d, .string b, .int .u8 (n : Int)] w fun e w' => e = .returned (.bool true) ∧ Below w.heap.size w w' := by
  have HNn := Lib.hid hn; clear hn
  obtain ⟨N, hN, hN1, hN2, hN3, hN4⟩ : ∃ N : Nat, (if 100 < (d.size : Int) then 100 else (d.size : Int)) = (N : Int) ∧ N ≤ d.size ∧ N ≤ 100 ∧ N ≤ d.size ∧ min 100 d.size = N := ⟨min 100 d.size, by split <;> omega, by omega, by omega, by omega, rfl⟩
  have c1 : (0 ≤ (N : Int)) = True := eq_true (by omega)
  have c2 : ((N : Int) ≤ (d.size : Int)) = True := eq_true (by omega)
  have c3 : (N ≤ d.size) = True := eq_true hN3
  have c4 : decide (N ≤ d.size) = true := decide_eq_true hN3
  have hNm : min (d.size : Int) 100 = (N : Int) := by rw [← hN]; split <;> omega
  obtain ⟨M, hNb, hN1b, hN2b, hN3b, hN4b⟩ : ∃ N : Nat, (if 40 < (b.size : Int) then 40 else (b.size : Int)) = (N : Int) ∧ N ≤ b.size ∧ N ≤ 40 ∧ N ≤ b.size ∧ min 40 b.size = N := ⟨min 40 b.size, by split <;> omega, by omega, by omega, by omega, rfl⟩
  have c1b : (0 ≤ (M : Int)) = True := eq_true (by omega)
  have c2b : ((M : Int) ≤ (b.size : Int)) = True := eq_true (by omega)
  have c3b : (M ≤ b.size) = True := eq_true hN3b
  have c4b : decide (M ≤ b.size) = true := decide_eq_true hN3b
  have hNmb : min (b.size : Int) 40 = (M : Int) := by rw [← hNb]; split <;> omega
  have HN := Lib.hid (And.intro (And.intro hN1 hN2) (And.intro hN1b hN2b)); clear hN1 hN2 hN3 hN4 hN1b hN2b hN3b hN4b hd0 hb0
  have hz := make_zero
  go_enter Try.func6, Try.ntmps6
  go_wp2_with fail
  have HB := Lib.hid (show Below w.heap.size w w.drew from below_drew1 (Below.refl _ _))
  refine start_ (n := 12) (S := fun _ => True) (ds := []) #[false, false, false, false, false, false, false, false, false, false, false, false] (by kernel_rfl) rfl rfl trivial (fun hHeld => ?_)
  refine with_tabW rg6_1.tab rg6_1.bits (fun HT_ HW_ => ?_)
  generalize w.drew = w' at HB hHeld ⊢
  refine pure_ (i := 0) (N := some 16) (v := ?_) (a' := ?_) #[true, false, false, false, false, false, false, false, false, false, false, false] rfl rfl (any_of HT_.out (by kernel_rfl)) (fun _ _ _ h => h) (Or.inl ⟨by rfl, ?_⟩) ?_ ?_
  rotate_left
  · intro w'
    go_simp
    try with_reducible rfl
  rotate_left
  · simp (maxSteps := 4000000) only [Act.put, List.setIfInBounds_toArray, List.set_cons_zero, List.set_cons_succ, i64_w, i32_w]
    try rfl
  refine pure_ (i := 1) (N := some 17) (v := ?_) (a' := ?_) #[true, true, false, false, false, false, false, false, false, false, false, false] rfl rfl (any_of HT_.out (by kernel_rfl)) (fun _ _ _ h => h) (Or.inl ⟨by rfl, ?_⟩) ?_ ?_
  rotate_left
  · intro w'
    go_simp
    try with_reducible rfl
  rotate_left
  · simp (maxSteps := 4000000) only [Act.put, List.setIfInBounds_toArray, List.set_cons_zero, List.set_cons_succ, i64_w, i32_w]
    try rfl
  refine pure_ (i := 2) (N := some 18) (v := ?_) (a' := ?_) #[true, true, true, false, false, false, false, false, false, false, false, false] rfl rfl (any_of HT_.out (by kernel_rfl)) (fun _ _ _ h => h) (Or.inl ⟨by rfl, ?_⟩) ?_ ?_
  rotate_left
  · intro w'
    go_simp
    try with_reducible rfl
  rotate_left
  · simp (maxSteps := 4000000) only [Act.put, List.setIfInBounds_toArray, List.set_cons_zero, List.set_cons_succ, i64_w, i32_w]
    try rfl
  refine pure_ (i := 3) (N := some 19) (v := ?_) (a' := ?_) #[true, true, true, true, false, false, false, false, false, false, false, false] rfl rfl (any_of HT_.out (by kernel_rfl)) (fun _ _ _ h => h) (Or.inl ⟨by rfl, ?_⟩) ?_ ?_
  rotate_left
  · intro w'
    go_simp
    try with_reducible rfl
  rotate_left
  · simp (maxSteps := 4000000) only [Act.put, List.setIfInBounds_toArray, List.set_cons_zero, List.set_cons_succ, i64_w, i32_w]
    try rfl
  refine pure_ (i := 4) (N := some 20) (v := ?_) (a' := ?_) #[true, true, true, true, true, false, false, false, false, false, false, false] rfl rfl (any_of HT_.out (by kernel_rfl)) (fun _ _ _ h => h) (Or.inl ⟨by rfl, ?_⟩) ?_ ?_
  rotate_left
  · intro w'
    go_simp
    try with_reducible rfl
  rotate_left
  · simp (maxSteps := 4000000) only [Act.put, List.setIfInBounds_toArray, List.set_cons_zero, List.set_cons_succ, i64_w, i32_w]
    try rfl
  refine pure_ (i := 5) (N := some 21) (v := ?_) (a' := ?_) #[true, true, true, true, true, true, false, false, false, false, false, false] rfl rfl (any_of HT_.out (by kernel_rfl)) (fun _ _ _ h => h) (Or.inl ⟨by rfl, ?_⟩) ?_ ?_
  rotate_left
  · intro w'
    go_simp
    try with_reducible rfl
  rotate_left
  · simp (maxSteps := 4000000) only [Act.put, List.setIfInBounds_toArray, List.set_cons_zero, List.set_cons_succ, i64_w, i32_w]
    try rfl
  refine pure_ (i := 6) (N := some 22) (v := ?_) (a' := ?_) #[true, true, true, true, true, true, true, false, false, false, false, false] rfl rfl (any_of HT_.out (by kernel_rfl)) (fun _ _ _ h => h) (Or.inl ⟨by rfl, ?_⟩) ?_ ?_
  rotate_left
  · intro w'
    go_simp
    try with_reducible rfl
  rotate_left
  · simp (maxSteps := 4000000) only [Act.put, List.setIfInBounds_toArray, List.set_cons_zero, List.set_cons_succ, i64_w, i32_w]
    try rfl
  refine pure_ (i := 7) (N := some 23) (v := ?_) (a' := ?_) #[true, true, true, true, true, true, true, true, false, false, false, false] rfl rfl (any_of HT_.out (by kernel_rfl)) (fun _ _ _ h => h) (Or.inl ⟨by rfl, ?_⟩) ?_ ?_
  rotate_left
  · intro w'
    go_simp
    try with_reducible rfl
  rotate_left
  · simp (maxSteps := 4000000) only [Act.put, List.setIfInBounds_toArray, List.set_cons_zero, List.set_cons_succ, i64_w, i32_w]
    try rfl
  refine pure_ (i := 8) (N := some 24) (v := ?_) (a' := ?_) #[true, true, true, true, true, true, true, true, true, false, false, false] rfl rfl (any_of HT_.out (by kernel_rfl)) (fun _ _ _ h => h) (Or.inl ⟨by rfl, ?_⟩) ?_ ?_
  rotate_left
  · intro w'
    go_simp
    try with_reducible rfl
  rotate_left
  · simp (maxSteps := 4000000) only [Act.put, List.setIfInBounds_toArray, List.set_cons_zero, List.set_cons_succ, i64_w, i32_w]
    try rfl
  refine pure_ (i := 9) (N := some 25) (v := ?_) (a' := ?_) #[true, true, true, true, true, true, true, true, true, true, false, false] rfl rfl (any_of HT_.out (by kernel_rfl)) (fun _ _ _ h => h) (Or.inl ⟨by rfl, ?_⟩) ?_ ?_
  rotate_left
  · intro w'
    go_simp
    try with_reducible rfl
  rotate_left
  · simp (maxSteps := 4000000) only [Act.put, List.setIfInBounds_toArray, List.set_cons_zero, List.set_cons_succ, i64_w, i32_w]
    try rfl
  refine pure_ (i := 10) (N := some 0) (v := ?_) (a' := ?_) #[true, true, true, true, true, true, true, true, true, true, true, false] rfl rfl (any_of HT_.out (by kernel_rfl)) (fun _ _ _ h => h) (Or.inl ⟨by rfl, ?_⟩) ?_ ?_
  rotate_left
  · intro w'
    go_simp
    try with_reducible rfl
  rotate_left
  · simp (maxSteps := 4000000) only [Act.put, List.setIfInBounds_toArray, List.set_cons_zero, List.set_cons_succ, i64_w, i32_w]
    try rfl
  refine pure_ (i := 11) (N := some 1) (v := ?_) (a' := ?_) #[true, true, true, true, true, true, true, true, true, true, true, true] rfl rfl (any_of HT_.out (by kernel_rfl)) (fun _ _ _ h => h) (Or.inl ⟨by rfl, ?_⟩) ?_ ?_
  rotate_left
  · intro w'
    go_simp
    try with_reducible rfl
  rotate_left
  · simp (maxSteps := 4000000) only [Act.put, List.setIfInBounds_toArray, List.set_cons_zero, List.set_cons_succ, i64_w, i32_w]
    try rfl
  refine done_ (done_of HT_.out (by kernel_rfl)) ?_
  clear hHeld hN hNm c1 c2 c3 c4 hNb hNmb c1b c2b c3b c4b
  obtain ⟨dd, hdd⟩ : ∃ dd, dd = d.extract 0 N := ⟨_, rfl⟩
  obtain ⟨bb, hbb⟩ : ∃ bb, bb = b.extract 0 M := ⟨_, rfl⟩
  rw [← hdd, ← hbb]
  have HDd := Lib.hid (show dd.size ≤ 100 ∧ bb.size ≤ 40 by rw [hdd, hbb, ByteArray.size_extract, ByteArray.size_extract]; have := HN.out; omega)
  clear hdd hbb
  go_wp2_with fail
  refine (poly_Make.calls _).mono ?_
  rintro e w1 ⟨rfl, hd⟩
  replace HB := Lib.hid (chain2 HB.out hd); clear hd
  have hd : Below w1.heap.size w1 ((w1.alloc (.cells (tabCells 0) 27)).setRow w1.heap.size (tabCells 256)) := below_setRow (below_alloc (Below.refl w1.heap.size w1) _) (Nat.le_refl _) _
  have hT := (made_facts (Below.refl w1.heap.size w1) _ rfl).1
  replace HB := Lib.hid (chain2 HB.out hd); clear hd
  go_wp2_with (refine wpList_store_row rfl 27 _ _ rfl w1.heap.size (tabCells 256) rfl rfl 27 (tabCells 0) (heap_alloc_new w1 _) make_info (by rw [tabCells_size, tabCells_size]) (tabCells_one _) ?_)
  clear hz
  generalize (w1.alloc (.cells (tabCells 0) 27)).setRow w1.heap.size (tabCells 256) = w2 at HB hT ⊢
  generalize w1.heap.size = gp at hT ⊢
  have HT := Lib.hid hT; clear hT
  go_wp2_with fail
  refine (sh_strings_Repeat ⟨#[255]⟩ 32 w2 (by decide) (by decide)).mono ?_
  rintro e w3 ⟨rfl, hd⟩
  rw [repeat_ff]
  replace HT := Lib.hid (HT.out.below hd)
  replace HB := Lib.hid (chain2 HB.out hd); clear hd
  obtain ⟨AL, hAL⟩ : ∃ AL, AL = str (List.replicate 32 255) := ⟨_, rfl⟩
  rw [← hAL]
  have HAL := Lib.hid hAL; clear hAL
  have hA1 : ¬ (9223372036854775807 : Int) < (dd.size : Int) + (bb.size : Int) := by have := HDd.out; omega
  have hA2 : ¬ 9223372036854775807 < dd.size + bb.size := by have := HDd.out; omega
  go_wp2_with fail
  clear hA1 hA2
  obtain ⟨S0, hS0⟩ : ∃ S0, S0 = dd ++ bb := ⟨_, rfl⟩
  rw [← hS0]
  have HLd := Lib.hid (show S0.data.toList = dd.data.toList ++ bb.data.toList by rw [hS0]; simp)
  have HK := Lib.hid (show S0.size ≤ 140 by rw [hS0, ByteArray.size_append]; have := HDd.out; omega)
  clear hS0
  rw [Lib.run_convert_string_bytes (P := Try.prog) w3 9 52 5 S0 Try.underlying9 Try.underlying52 Try.underlying5]
  have HA := Lib.hid (ByAt.made w3 S0)
  have hd : Below w3.heap.size w3 (Lib.bytesWorld w3 5 S0) := bytes_below (Below.refl _ _) (Nat.le_refl _) S0
  replace HT := Lib.hid (HT.out.below hd)
  replace HB := Lib.hid (chain2 HB.out hd); clear hd
  generalize Lib.bytesWorld w3 5 S0 = wA at HA HT HB ⊢
  generalize grownCap w3 S0.size 0 5 = cp
  generalize w3.heap.size = gt at HA ⊢
  have hll : S0.data.toList.length = S0.size := Array.length_toList
  have HLl := Lib.hid hll; clear hll
  generalize S0.size = K at HK HLl ⊢
  generalize S0.data.toList = l at HA HLl HLd
  go_wp2_with fail
  have HALz := Lib.hid (show AL.size = 32 by rw [HAL.out, str_size]; rfl)
  go_loopw [9, 33] (fun v i wr => ∃ j : Nat, j ≤ K ∧ i = .int .i64 (j : Int) ∧ v = .bool (blankB (l.take j)) ∧ wr = wA) (fun _ i _ => K - (RowKit.intOf i).toNat)
  case atStart => exact ⟨0, Nat.zero_le _, rfl, rfl, rfl⟩
  case round =>
    obtain ⟨j, hj, rfl, rfl, rfl⟩ := hrel
    by_cases hlt : j < K
    · have hx := (HA.out j (by rw [HLl.out]; exact hlt)).1
      have hbt := blank_take l j (by rw [HLl.out]; exact hlt)
      have HBt := Lib.hid hbt; clear hbt
      generalize l.getD j 0 = x at hx HBt
      have e3 : wrap64 ((j : Int) + 1) = ((j + 1 : Nat) : Int) := by have := HK.out; unfold wrap64; omega
      cases hb : blankB (l.take j) with
      | false =>
        rw [hb] at HBt
        have HBv := Lib.hid (show blankB (l.take (j + 1)) = false by rw [HBt.out]; rfl)
        clear hb
        go_wp2_with fail
        go_roundw
        case rel => exact ⟨j + 1, hlt, by first | rw [e3] | rfl, by rw [HBv.out], by first | rfl | trivial⟩
        case measure => (first | rw [e3] | rw [show ((j : Int) + 1) = ((j + 1 : Nat) : Int) from rfl]); simp only [RowKit.intOf, Int.toNat_natCast]; exact Nat.sub_lt_sub_left hlt (Nat.lt_succ_self j)
      | true =>
        rw [hb] at HBt
        clear hb
        by_cases hc : x = 255
        · subst hc
          have HBv := Lib.hid (show blankB (l.take (j + 1)) = true by rw [HBt.out]; rfl)
          go_wp2_with fail
          go_roundw
          case rel => exact ⟨j + 1, hlt, by first | rw [e3] | rfl, by rw [HBv.out], by first | rfl | trivial⟩
          case measure => (first | rw [e3] | rw [show ((j : Int) + 1) = ((j + 1 : Nat) : Int) from rfl]); simp only [RowKit.intOf, Int.toNat_natCast]; exact Nat.sub_lt_sub_left hlt (Nat.lt_succ_self j)
        · have HBv := Lib.hid (show blankB (l.take (j + 1)) = false by rw [HBt.out]; simpa using hc)
          have hn1 : ¬ x.toNat = 255 := fun e => hc (UInt8.toNat_inj.1 e)
          have hn2 : (((x.toNat : Nat) : Int) == 255) = false := by simp; omega
          have hn3 : ((((x.toNat : Nat) : Int)) = 255) = False := eq_false (by omega)
          clear hc
          go_wp2_with fail
          go_roundw
          case rel => exact ⟨j + 1, hlt, by first | rw [e3] | rfl, by rw [HBv.out], by first | rfl | trivial⟩
          case measure => (first | rw [e3] | rw [show ((j : Int) + 1) = ((j + 1 : Nat) : Int) from rfl]); simp only [RowKit.intOf, Int.toNat_natCast]; exact Nat.sub_lt_sub_left hlt (Nat.lt_succ_self j)
    · obtain rfl : j = K := Nat.le_antisymm hj (Nat.le_of_not_lt hlt)
      rw [show l.take j = l from List.take_of_length_le (by rw [HLl.out]; exact Nat.le_refl _)]
      rw [HLd.out]
      clear HA HLl HLd HK hlt hj

      have HALb := Lib.hid (show blankB (AL.data.toList ++ AL.data.toList) = true by rw [HAL.out, str_data]; decide)
      go_wp2_with fail
      by_cases h32 : bb.size = 32
      · have h0 : 0 < bb.size := by omega
        have hff := fact_first bb h32 h0
        have hz1 : (bb.size : Int) = 32 := by omega
        by_cases hx : bb[0] = 255
        · have HF := Lib.hid (show factB bb.data.toList = false by rw [hff, hx]; rfl)
          have hx1 : ((bb[0].toNat : Nat) : Int) = 255 := by rw [hx]; rfl
          have hx2 : bb[0].toNat = 255 := by rw [hx]; rfl
          clear hff hx
          refine (wakes_ok6 _).mono ?_
          rintro e w5 ⟨rfl, hd⟩
          replace HT := Lib.hid (HT.out.below hd)
          replace HB := Lib.hid (chain2 HB.out hd); clear hd
          go_wp2_with fail
          refine (blank_ok dd bb (by have := HDd.out; omega) (by have := HDd.out; omega) w5).mono ?_
          rintro e w6 ⟨rfl, hd⟩
          replace HT := Lib.hid (HT.out.below hd)
          replace HB := Lib.hid (chain2 HB.out hd); clear hd
          generalize hBB : blankB (dd.data.toList ++ bb.data.toList) = B at ⊢
          have HBB := Lib.hid hBB; clear hBB
          go_wp2_with fail
          refine (fact_ok bb w6).mono ?_
          rintro e w7 ⟨rfl, hd⟩
          replace HT := Lib.hid (HT.out.below hd)
          replace HB := Lib.hid (chain2 HB.out hd); clear hd
          rw [HF.out]
          go_wp2_with fail
          refine (blank_ok AL AL (by have := HALz.out; omega) (by have := HALz.out; omega) w7).mono ?_
          rintro e w8 ⟨rfl, hd⟩
          replace HT := Lib.hid (HT.out.below hd)
          replace HB := Lib.hid (chain2 HB.out hd); clear hd
          rw [HALb.out]
          clear hx1 hx2 hz1
          cases B with
          | true =>
            have HPb := Lib.hid (blank_parse dd.data.toList bb.data.toList (.inl HBB.out))
            go_wp2_with fail
            refine (parse_ok gp dd bb (by have := HDd.out; have := HALz.out; first | omega | (rw [ByteArray.size_extract]; omega)) (by have := HDd.out; have := HALz.out; omega) _ HT.out).mono ?_
            rintro e w9 ⟨rfl, ht, hd⟩
            replace HT := Lib.hid ht; clear ht
            replace HB := Lib.hid (chain2 HB.out hd); clear hd
            rw [HPb.out]
            generalize (parseT dd.data.toList bb.data.toList).1 = P1
            unfold tgV
            have hd := below_alloc (Below.refl w9.heap.size w9) (.cells #[.int .u8 (P1.kind : Int), .int .i64 P1.log, .int .u64 (P1.seq : Int), .int .i64 P1.pos, .int .i64 P1.len] 37)
            replace HT := Lib.hid (HT.out.below hd)
            replace HB := Lib.hid (chain2 HB.out hd); clear hd
            have hq1 : Int.tmod (n : Int) 33 = ((n % 33 : Nat) : Int) := by rw [Int.tmod_eq_emod_of_nonneg (by omega)]; omega
            have hq2 : (n : Int) % 33 = ((n % 33 : Nat) : Int) := by omega
            obtain ⟨q, hq⟩ : ∃ q, n % 33 = q := ⟨_, rfl⟩
            rw [hq] at hq1 hq2
            have hqz := HALz.out
            have hqb : q ≤ 32 := by omega
            have hq3 : ((0 : Int) ≤ (q : Int)) = True := eq_true (by omega)
            have hq4 : ((q : Int) ≤ (AL.size : Int)) = True := eq_true (by omega)
            have hq5 : (q ≤ AL.size) = True := eq_true (by omega)
            have hq6 : decide (q ≤ AL.size) = true := decide_eq_true (by omega)
            have hq7 : ((q : Int) ≤ 32) = True := eq_true (by omega)
            have hq8 : (q ≤ 32) = True := eq_true (by omega)
            clear hq hqz hqb
            go_wp2_with fail
            clear hq1 hq2 hq3 hq4 hq5 hq6 hq7 hq8
            have HPz := Lib.hid (show (parseT (AL.extract 0 q).data.toList AL.data.toList).2 = 4 by
              rw [parse_blank _ AL.data.toList (fun c hc => by
                rw [HAL.out, str_data] at hc
                exact List.eq_of_mem_replicate hc)])
            refine (parse_ok gp (AL.extract 0 q) AL (by have := HDd.out; have := HALz.out; first | omega | (rw [ByteArray.size_extract]; omega)) (by have := HDd.out; have := HALz.out; omega) _ HT.out).mono ?_
            rintro e w12 ⟨rfl, ht, hd⟩
            replace HT := Lib.hid ht; clear ht
            replace HB := Lib.hid (chain2 HB.out hd); clear hd
            rw [HPz.out]
            generalize (parseT (AL.extract 0 q).data.toList AL.data.toList).1 = P1
            unfold tgV
            have hd := below_alloc (Below.refl w12.heap.size w12) (.cells #[.int .u8 (P1.kind : Int), .int .i64 P1.log, .int .u64 (P1.seq : Int), .int .i64 P1.pos, .int .i64 P1.len] 37)
            replace HT := Lib.hid (HT.out.below hd)
            replace HB := Lib.hid (chain2 HB.out hd); clear hd
            go_wp2_with fail
            go_ret
            exact ⟨rfl, by first | exact below_then HB.out HB.out.size (below_alloc (Below.refl _ _) _) | exact HB.out⟩
          | false =>
            go_wp2_with fail
            refine (fact_ok bb w8).mono ?_
            rintro e w9 ⟨rfl, hd⟩
            replace HT := Lib.hid (HT.out.below hd)
            replace HB := Lib.hid (chain2 HB.out hd); clear hd
            rw [HF.out]
            have hq1 : Int.tmod (n : Int) 33 = ((n % 33 : Nat) : Int) := by rw [Int.tmod_eq_emod_of_nonneg (by omega)]; omega
            have hq2 : (n : Int) % 33 = ((n % 33 : Nat) : Int) := by omega
            obtain ⟨q, hq⟩ : ∃ q, n % 33 = q := ⟨_, rfl⟩
            rw [hq] at hq1 hq2
            have hqz := HALz.out
            have hqb : q ≤ 32 := by omega
            have hq3 : ((0 : Int) ≤ (q : Int)) = True := eq_true (by omega)
            have hq4 : ((q : Int) ≤ (AL.size : Int)) = True := eq_true (by omega)
            have hq5 : (q ≤ AL.size) = True := eq_true (by omega)
            have hq6 : decide (q ≤ AL.size) = true := decide_eq_true (by omega)
            have hq7 : ((q : Int) ≤ 32) = True := eq_true (by omega)
            have hq8 : (q ≤ 32) = True := eq_true (by omega)
            clear hq hqz hqb
            go_wp2_with fail
            clear hq1 hq2 hq3 hq4 hq5 hq6 hq7 hq8
            have HPz := Lib.hid (show (parseT (AL.extract 0 q).data.toList AL.data.toList).2 = 4 by
              rw [parse_blank _ AL.data.toList (fun c hc => by
                rw [HAL.out, str_data] at hc
                exact List.eq_of_mem_replicate hc)])
            refine (parse_ok gp (AL.extract 0 q) AL (by have := HDd.out; have := HALz.out; first | omega | (rw [ByteArray.size_extract]; omega)) (by have := HDd.out; have := HALz.out; omega) _ HT.out).mono ?_
            rintro e w12 ⟨rfl, ht, hd⟩
            replace HT := Lib.hid ht; clear ht
            replace HB := Lib.hid (chain2 HB.out hd); clear hd
            rw [HPz.out]
            generalize (parseT (AL.extract 0 q).data.toList AL.data.toList).1 = P1
            unfold tgV
            have hd := below_alloc (Below.refl w12.heap.size w12) (.cells #[.int .u8 (P1.kind : Int), .int .i64 P1.log, .int .u64 (P1.seq : Int), .int .i64 P1.pos, .int .i64 P1.len] 37)
            replace HT := Lib.hid (HT.out.below hd)
            replace HB := Lib.hid (chain2 HB.out hd); clear hd
            go_wp2_with fail
            go_ret
            exact ⟨rfl, by first | exact below_then HB.out HB.out.size (below_alloc (Below.refl _ _) _) | exact HB.out⟩
        · have HF := Lib.hid (show factB bb.data.toList = true by rw [hff]; simpa using hx)
          have hx0 : ¬ bb[0].toNat = 255 := fun e => hx (UInt8.toNat_inj.1 e)
          have hx1 : (((bb[0].toNat : Nat) : Int) == 255) = false := by simp; omega
          have hx2 : (((bb[0].toNat : Nat) : Int) = 255) = False := eq_false (by omega)
          have hx3 : (bb[0] == 255) = false := by simpa using hx
          have hx4 : (bb[0] != 255) = true := by simpa using hx
          have hx5 : (((bb[0].toNat : Nat) : Int) != 255) = true := by simp; omega
          have hx6 : (bb[0].toNat == 255) = false := by simp; omega
          clear hff
          refine (wakes_ok6 _).mono ?_
          rintro e w5 ⟨rfl, hd⟩
          replace HT := Lib.hid (HT.out.below hd)
          replace HB := Lib.hid (chain2 HB.out hd); clear hd
          go_wp2_with fail
          refine (blank_ok dd bb (by have := HDd.out; omega) (by have := HDd.out; omega) w5).mono ?_
          rintro e w6 ⟨rfl, hd⟩
          replace HT := Lib.hid (HT.out.below hd)
          replace HB := Lib.hid (chain2 HB.out hd); clear hd
          generalize hBB : blankB (dd.data.toList ++ bb.data.toList) = B at ⊢
          have HBB := Lib.hid hBB; clear hBB
          go_wp2_with fail
          refine (fact_ok bb w6).mono ?_
          rintro e w7 ⟨rfl, hd⟩
          replace HT := Lib.hid (HT.out.below hd)
          replace HB := Lib.hid (chain2 HB.out hd); clear hd
          rw [HF.out]
          go_wp2_with fail
          refine (blank_ok AL AL (by have := HALz.out; omega) (by have := HALz.out; omega) w7).mono ?_
          rintro e w8 ⟨rfl, hd⟩
          replace HT := Lib.hid (HT.out.below hd)
          replace HB := Lib.hid (chain2 HB.out hd); clear hd
          rw [HALb.out]
          clear hx0 hx1 hx2 hz1 hx hx3 hx4 hx5 hx6
          cases B with
          | true =>
            have HPb := Lib.hid (blank_parse dd.data.toList bb.data.toList (.inl HBB.out))
            go_wp2_with fail
            refine (parse_ok gp dd bb (by have := HDd.out; have := HALz.out; first | omega | (rw [ByteArray.size_extract]; omega)) (by have := HDd.out; have := HALz.out; omega) _ HT.out).mono ?_
            rintro e w9 ⟨rfl, ht, hd⟩
            replace HT := Lib.hid ht; clear ht
            replace HB := Lib.hid (chain2 HB.out hd); clear hd
            rw [HPb.out]
            generalize (parseT dd.data.toList bb.data.toList).1 = P1
            unfold tgV
            have hd := below_alloc (Below.refl w9.heap.size w9) (.cells #[.int .u8 (P1.kind : Int), .int .i64 P1.log, .int .u64 (P1.seq : Int), .int .i64 P1.pos, .int .i64 P1.len] 37)
            replace HT := Lib.hid (HT.out.below hd)
            replace HB := Lib.hid (chain2 HB.out hd); clear hd
            have hq1 : Int.tmod (n : Int) 33 = ((n % 33 : Nat) : Int) := by rw [Int.tmod_eq_emod_of_nonneg (by omega)]; omega
            have hq2 : (n : Int) % 33 = ((n % 33 : Nat) : Int) := by omega
            obtain ⟨q, hq⟩ : ∃ q, n % 33 = q := ⟨_, rfl⟩
            rw [hq] at hq1 hq2
            have hqz := HALz.out
            have hqb : q ≤ 32 := by omega
            have hq3 : ((0 : Int) ≤ (q : Int)) = True := eq_true (by omega)
            have hq4 : ((q : Int) ≤ (AL.size : Int)) = True := eq_true (by omega)
            have hq5 : (q ≤ AL.size) = True := eq_true (by omega)
            have hq6 : decide (q ≤ AL.size) = true := decide_eq_true (by omega)
            have hq7 : ((q : Int) ≤ 32) = True := eq_true (by omega)
            have hq8 : (q ≤ 32) = True := eq_true (by omega)
            clear hq hqz hqb
            go_wp2_with fail
            clear hq1 hq2 hq3 hq4 hq5 hq6 hq7 hq8
            have HPz := Lib.hid (show (parseT (AL.extract 0 q).data.toList AL.data.toList).2 = 4 by
              rw [parse_blank _ AL.data.toList (fun c hc => by
                rw [HAL.out, str_data] at hc
                exact List.eq_of_mem_replicate hc)])
            refine (parse_ok gp (AL.extract 0 q) AL (by have := HDd.out; have := HALz.out; first | omega | (rw [ByteArray.size_extract]; omega)) (by have := HDd.out; have := HALz.out; omega) _ HT.out).mono ?_
            rintro e w12 ⟨rfl, ht, hd⟩
            replace HT := Lib.hid ht; clear ht
            replace HB := Lib.hid (chain2 HB.out hd); clear hd
            rw [HPz.out]
            generalize (parseT (AL.extract 0 q).data.toList AL.data.toList).1 = P1
            unfold tgV
            have hd := below_alloc (Below.refl w12.heap.size w12) (.cells #[.int .u8 (P1.kind : Int), .int .i64 P1.log, .int .u64 (P1.seq : Int), .int .i64 P1.pos, .int .i64 P1.len] 37)
            replace HT := Lib.hid (HT.out.below hd)
            replace HB := Lib.hid (chain2 HB.out hd); clear hd
            go_wp2_with fail
            go_ret
            exact ⟨rfl, by first | exact below_then HB.out HB.out.size (below_alloc (Below.refl _ _) _) | exact HB.out⟩
          | false =>
            have HPb := Lib.hid (blank_parse dd.data.toList bb.data.toList (.inr HF.out))
            go_wp2_with fail
            refine (fact_ok bb w8).mono ?_
            rintro e w9 ⟨rfl, hd⟩
            replace HT := Lib.hid (HT.out.below hd)
            replace HB := Lib.hid (chain2 HB.out hd); clear hd
            rw [HF.out]
            go_wp2_with fail
            refine (parse_ok gp dd bb (by have := HDd.out; have := HALz.out; first | omega | (rw [ByteArray.size_extract]; omega)) (by have := HDd.out; have := HALz.out; omega) _ HT.out).mono ?_
            rintro e w10 ⟨rfl, ht, hd⟩
            replace HT := Lib.hid ht; clear ht
            replace HB := Lib.hid (chain2 HB.out hd); clear hd
            rw [HPb.out]
            generalize (parseT dd.data.toList bb.data.toList).1 = P1
            unfold tgV
            have hd := below_alloc (Below.refl w10.heap.size w10) (.cells #[.int .u8 (P1.kind : Int), .int .i64 P1.log, .int .u64 (P1.seq : Int), .int .i64 P1.pos, .int .i64 P1.len] 37)
            replace HT := Lib.hid (HT.out.below hd)
            replace HB := Lib.hid (chain2 HB.out hd); clear hd
            have hq1 : Int.tmod (n : Int) 33 = ((n % 33 : Nat) : Int) := by rw [Int.tmod_eq_emod_of_nonneg (by omega)]; omega
            have hq2 : (n : Int) % 33 = ((n % 33 : Nat) : Int) := by omega
            obtain ⟨q, hq⟩ : ∃ q, n % 33 = q := ⟨_, rfl⟩
            rw [hq] at hq1 hq2
            have hqz := HALz.out
            have hqb : q ≤ 32 := by omega
            have hq3 : ((0 : Int) ≤ (q : Int)) = True := eq_true (by omega)
            have hq4 : ((q : Int) ≤ (AL.size : Int)) = True := eq_true (by omega)
            have hq5 : (q ≤ AL.size) = True := eq_true (by omega)
            have hq6 : decide (q ≤ AL.size) = true := decide_eq_true (by omega)
            have hq7 : ((q : Int) ≤ 32) = True := eq_true (by omega)
            have hq8 : (q ≤ 32) = True := eq_true (by omega)
            clear hq hqz hqb
            go_wp2_with fail
            clear hq1 hq2 hq3 hq4 hq5 hq6 hq7 hq8
            have HPz := Lib.hid (show (parseT (AL.extract 0 q).data.toList AL.data.toList).2 = 4 by
              rw [parse_blank _ AL.data.toList (fun c hc => by
                rw [HAL.out, str_data] at hc
                exact List.eq_of_mem_replicate hc)])
            refine (parse_ok gp (AL.extract 0 q) AL (by have := HDd.out; have := HALz.out; first | omega | (rw [ByteArray.size_extract]; omega)) (by have := HDd.out; have := HALz.out; omega) _ HT.out).mono ?_
            rintro e w12 ⟨rfl, ht, hd⟩
            replace HT := Lib.hid ht; clear ht
            replace HB := Lib.hid (chain2 HB.out hd); clear hd
            rw [HPz.out]
            generalize (parseT (AL.extract 0 q).data.toList AL.data.toList).1 = P1
            unfold tgV
            have hd := below_alloc (Below.refl w12.heap.size w12) (.cells #[.int .u8 (P1.kind : Int), .int .i64 P1.log, .int .u64 (P1.seq : Int), .int .i64 P1.pos, .int .i64 P1.len] 37)
            replace HT := Lib.hid (HT.out.below hd)
            replace HB := Lib.hid (chain2 HB.out hd); clear hd
            go_wp2_with fail
            go_ret
            exact ⟨rfl, by first | exact below_then HB.out HB.out.size (below_alloc (Below.refl _ _) _) | exact HB.out⟩
      · have HF := Lib.hid (show factB bb.data.toList = false by unfold factB; rw [decide_eq_false (by rw [Array.length_toList]; exact h32)]; rfl)
        have h1 : ((bb.size : Int) == 32) = false := by simp; omega
        have h2 : ((bb.size : Int) = 32) = False := eq_false (by omega)
        have h3 : (bb.size = 32) = False := eq_false h32
        clear h32
        refine (wakes_ok6 _).mono ?_
        rintro e w5 ⟨rfl, hd⟩
        replace HT := Lib.hid (HT.out.below hd)
        replace HB := Lib.hid (chain2 HB.out hd); clear hd
        go_wp2_with fail
        refine (blank_ok dd bb (by have := HDd.out; omega) (by have := HDd.out; omega) w5).mono ?_
        rintro e w6 ⟨rfl, hd⟩
        replace HT := Lib.hid (HT.out.below hd)
        replace HB := Lib.hid (chain2 HB.out hd); clear hd
        generalize hBB : blankB (dd.data.toList ++ bb.data.toList) = B at ⊢
        have HBB := Lib.hid hBB; clear hBB
        go_wp2_with fail
        refine (fact_ok bb w6).mono ?_
        rintro e w7 ⟨rfl, hd⟩
        replace HT := Lib.hid (HT.out.below hd)
        replace HB := Lib.hid (chain2 HB.out hd); clear hd
        rw [HF.out]
        go_wp2_with fail
        refine (blank_ok AL AL (by have := HALz.out; omega) (by have := HALz.out; omega) w7).mono ?_
        rintro e w8 ⟨rfl, hd⟩
        replace HT := Lib.hid (HT.out.below hd)
        replace HB := Lib.hid (chain2 HB.out hd); clear hd
        rw [HALb.out]
        clear h1 h2 h3
        cases B with
        | true =>
          have HPb := Lib.hid (blank_parse dd.data.toList bb.data.toList (.inl HBB.out))
          go_wp2_with fail
          refine (parse_ok gp dd bb (by have := HDd.out; have := HALz.out; first | omega | (rw [ByteArray.size_extract]; omega)) (by have := HDd.out; have := HALz.out; omega) _ HT.out).mono ?_
          rintro e w9 ⟨rfl, ht, hd⟩
          replace HT := Lib.hid ht; clear ht
          replace HB := Lib.hid (chain2 HB.out hd); clear hd
          rw [HPb.out]
          generalize (parseT dd.data.toList bb.data.toList).1 = P1
          unfold tgV
          have hd := below_alloc (Below.refl w9.heap.size w9) (.cells #[.int .u8 (P1.kind : Int), .int .i64 P1.log, .int .u64 (P1.seq : Int), .int .i64 P1.pos, .int .i64 P1.len] 37)
          replace HT := Lib.hid (HT.out.below hd)
          replace HB := Lib.hid (chain2 HB.out hd); clear hd
          have hq1 : Int.tmod (n : Int) 33 = ((n % 33 : Nat) : Int) := by rw [Int.tmod_eq_emod_of_nonneg (by omega)]; omega
          have hq2 : (n : Int) % 33 = ((n % 33 : Nat) : Int) := by omega
          obtain ⟨q, hq⟩ : ∃ q, n % 33 = q := ⟨_, rfl⟩
          rw [hq] at hq1 hq2
          have hqz := HALz.out
          have hqb : q ≤ 32 := by omega
          have hq3 : ((0 : Int) ≤ (q : Int)) = True := eq_true (by omega)
          have hq4 : ((q : Int) ≤ (AL.size : Int)) = True := eq_true (by omega)
          have hq5 : (q ≤ AL.size) = True := eq_true (by omega)
          have hq6 : decide (q ≤ AL.size) = true := decide_eq_true (by omega)
          have hq7 : ((q : Int) ≤ 32) = True := eq_true (by omega)
          have hq8 : (q ≤ 32) = True := eq_true (by omega)
          clear hq hqz hqb
          go_wp2_with fail
          clear hq1 hq2 hq3 hq4 hq5 hq6 hq7 hq8
          have HPz := Lib.hid (show (parseT (AL.extract 0 q).data.toList AL.data.toList).2 = 4 by
            rw [parse_blank _ AL.data.toList (fun c hc => by
              rw [HAL.out, str_data] at hc
              exact List.eq_of_mem_replicate hc)])
          refine (parse_ok gp (AL.extract 0 q) AL (by have := HDd.out; have := HALz.out; first | omega | (rw [ByteArray.size_extract]; omega)) (by have := HDd.out; have := HALz.out; omega) _ HT.out).mono ?_
          rintro e w12 ⟨rfl, ht, hd⟩
          replace HT := Lib.hid ht; clear ht
          replace HB := Lib.hid (chain2 HB.out hd); clear hd
          rw [HPz.out]
          generalize (parseT (AL.extract 0 q).data.toList AL.data.toList).1 = P1
          unfold tgV
          have hd := below_alloc (Below.refl w12.heap.size w12) (.cells #[.int .u8 (P1.kind : Int), .int .i64 P1.log, .int .u64 (P1.seq : Int), .int .i64 P1.pos, .int .i64 P1.len] 37)
          replace HT := Lib.hid (HT.out.below hd)
          replace HB := Lib.hid (chain2 HB.out hd); clear hd
          go_wp2_with fail
          go_ret
          exact ⟨rfl, by first | exact below_then HB.out HB.out.size (below_alloc (Below.refl _ _) _) | exact HB.out⟩
        | false =>
          go_wp2_with fail
          refine (fact_ok bb w8).mono ?_
          rintro e w9 ⟨rfl, hd⟩
          replace HT := Lib.hid (HT.out.below hd)
          replace HB := Lib.hid (chain2 HB.out hd); clear hd
          rw [HF.out]
          have hq1 : Int.tmod (n : Int) 33 = ((n % 33 : Nat) : Int) := by rw [Int.tmod_eq_emod_of_nonneg (by omega)]; omega
          have hq2 : (n : Int) % 33 = ((n % 33 : Nat) : Int) := by omega
          obtain ⟨q, hq⟩ : ∃ q, n % 33 = q := ⟨_, rfl⟩
          rw [hq] at hq1 hq2
          have hqz := HALz.out
          have hqb : q ≤ 32 := by omega
          have hq3 : ((0 : Int) ≤ (q : Int)) = True := eq_true (by omega)
          have hq4 : ((q : Int) ≤ (AL.size : Int)) = True := eq_true (by omega)
          have hq5 : (q ≤ AL.size) = True := eq_true (by omega)
          have hq6 : decide (q ≤ AL.size) = true := decide_eq_true (by omega)
          have hq7 : ((q : Int) ≤ 32) = True := eq_true (by omega)
          have hq8 : (q ≤ 32) = True := eq_true (by omega)
          clear hq hqz hqb
          go_wp2_with fail
          clear hq1 hq2 hq3 hq4 hq5 hq6 hq7 hq8
          have HPz := Lib.hid (show (parseT (AL.extract 0 q).data.toList AL.data.toList).2 = 4 by
            rw [parse_blank _ AL.data.toList (fun c hc => by
              rw [HAL.out, str_data] at hc
              exact List.eq_of_mem_replicate hc)])
          refine (parse_ok gp (AL.extract 0 q) AL (by have := HDd.out; have := HALz.out; first | omega | (rw [ByteArray.size_extract]; omega)) (by have := HDd.out; have := HALz.out; omega) _ HT.out).mono ?_
          rintro e w12 ⟨rfl, ht, hd⟩
          replace HT := Lib.hid ht; clear ht
          replace HB := Lib.hid (chain2 HB.out hd); clear hd
          rw [HPz.out]
          generalize (parseT (AL.extract 0 q).data.toList AL.data.toList).1 = P1
          unfold tgV
          have hd := below_alloc (Below.refl w12.heap.size w12) (.cells #[.int .u8 (P1.kind : Int), .int .i64 P1.log, .int .u64 (P1.seq : Int), .int .i64 P1.pos, .int .i64 P1.len] 37)
          replace HT := Lib.hid (HT.out.below hd)
          replace HB := Lib.hid (chain2 HB.out hd); clear hd
          go_wp2_with fail
          go_ret
          exact ⟨rfl, by first | exact below_then HB.out HB.out.size (below_alloc (Below.refl _ _) _) | exact HB.out⟩
theorem tagBlank_law (a0 a1 : ByteArray) (a2 : Int) (W : World) (w0 : a0.size ≤ 140737488351232) (w1 : a1.size ≤ 140737488351232) (w2 : (Lit.int .u8 a2).wf = true) :
    Calls Try.prog 6 #[.string a0, .string a1, .int .u8 a2] W fun e w' => e = .returned (.bool true) ∧ Below W.heap.size W w' := by
  obtain ⟨n, rfl, hn⟩ := wf_u8 w2
  exact tagBlank_walk a0 a1 w0 w1 n hn W
end Go.Proofs.Ytfomgljhcegjdaa
