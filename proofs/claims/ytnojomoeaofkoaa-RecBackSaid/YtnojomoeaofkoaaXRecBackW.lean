/- RecBack: records that may be are told again of their bytes; of a beginning of these that ends within one there is an error: the walk. No conditions beyond the form's own reach. -/
import Derived.Test.YtnojomoeaofkoaaXRecWakes
import Derived.Test.YtnojomoeaofkoaaXMapV
namespace Go.Proofs.Ytnojomoeaofkoaa
open Go.RowKit Go.Lib Go.Proofs.Ytnojomoeaofkoaa.P Go.Proofs.Ytnojomoeaofkoaa.BeS Go.Proofs.Ytnojomoeaofkoaa.PoS Go.Proofs.YtnojomoeaofkoaaW.PrintWords Go.Proofs.YtnojomoeaofkoaaW.PrintLast Go.Proofs.YtnojomoeaofkoaaW.PrintMore
set_option linter.unusedVariables false
set_option linter.unusedSimpArgs false
def rg5_8.T : Bool × List (List Nat × List Nat) := (true, [([], []), ([0], [0]), ([1], [1]), ([2], [2]), ([], []), ([4], [4]), ([], []), ([6], [6]), ([7], [7]), ([8], [8]), ([5, 9], [5, 9]), ([3, 10], [3, 10]), ([], []), ([12, 11, 0, 1, 2, 3, 4, 5, 6, 7, 8, 9, 10, 11, 12], [11, 12])])
def rg5_8.B : List Nat := [0, 1, 3, 7, 0, 16, 0, 64, 192, 448, 1008, 2047, 0, 8191]
theorem rg5_8.tab : rtab .any (opsOf Try.f5 8) = rg5_8.T := by kernel_rfl
theorem rg5_8.bits : waitsOk rg5_8.T.2 rg5_8.B = true := by kernel_rfl
def rg5_20.T : Bool × List (List Nat × List Nat) := (true, [([], []), ([], []), ([0, 1], [0, 1]), ([2], [2]), ([], []), ([], []), ([4, 5], [4, 5]), ([6], [6]), ([3, 7], [3, 7])])
def rg5_20.B : List Nat := [0, 0, 3, 7, 0, 0, 48, 112, 255]
theorem rg5_20.tab : rtab .any (opsOf Try.f5 20) = rg5_20.T := by kernel_rfl
theorem rg5_20.bits : waitsOk rg5_20.T.2 rg5_20.B = true := by kernel_rfl
def ofB (r : Rc) : Rc := (1 + r.1 % 255, r.2.extract 0 (min r.2.size 300))
theorem ofB_good (r : Rc) : (ofB r).1 < 256 ∧ goodR (ofB r) = true ∧ (ofB r).2.size ≤ 300 := by
  have hz : (ofB r).2.size ≤ 300 := by show (r.2.extract 0 (min r.2.size 300)).size ≤ 300; rw [ByteArray.size_extract]; omega
  refine ⟨by show 1 + r.1 % 255 < 256; omega, ?_, hz⟩
  unfold goodR
  rw [decide_eq_true (show (ofB r).1 ≠ 0 by show 1 + r.1 % 255 ≠ 0; omega), decide_eq_true (show (ofB r).2.size ≤ 2048 by omega)]
  rfl
def recsB (rs : List Rc) : List Rc := (rs.take 6).map ofB
theorem recsB_good (rs : List Rc) : GoodL (recsB rs) := by
  intro r hr
  obtain ⟨x, _, rfl⟩ := List.mem_map.mp hr
  exact ⟨(ofB_good x).1, (ofB_good x).2.1⟩
theorem recsB_in (rs : List Rc) : ∀ r ∈ recsB rs, RcIn r := by
  intro r hr
  obtain ⟨x, _, rfl⟩ := List.mem_map.mp hr
  exact ⟨(ofB_good x).1, Nat.le_trans (ofB_good x).2.2 (by decide)⟩
theorem recsB_len (rs : List Rc) : (recsB rs).length ≤ 6 := by unfold recsB; rw [List.length_map, List.length_take]; omega
/-- What stands in the map of ends behind j records. -/
def endsF (xs : List Rc) : Nat → Int → Option Value
  | 0 => fun k => if k = 0 then some (.int .i64 0) else none
  | j + 1 => fun k => if k = (totR xs (j + 1) : Int) then some (.int .i64 ((j + 1 : Nat) : Int)) else endsF xs j k
theorem endsF_hit (xs : List Rc) : ∀ j, j ≤ xs.length → ∀ n, n ≤ j → endsF xs j (totR xs n : Int) = some (.int .i64 (n : Int)) := by
  intro j
  induction j with
  | zero => intro _ n hn; obtain rfl : n = 0 := by omega
            show (if ((0 : Nat) : Int) = 0 then some (Value.int .i64 0) else none) = _; exact if_pos rfl
  | succ j ih =>
    intro hj n hn
    unfold endsF
    by_cases e : n = j + 1
    · subst e; rw [if_pos rfl]
    · rw [if_neg (fun h => e (totR_inj xs (by omega) hj (by exact_mod_cast h)))]
      exact ih (by omega) n (by omega)
theorem endsF_miss (xs : List Rc) (k : Int) : ∀ j, (∀ n, n ≤ j → k ≠ (totR xs n : Int)) → endsF xs j k = none := by
  intro j
  induction j with
  | zero => intro h; exact if_neg (h 0 (Nat.le_refl _))
  | succ j ih =>
    intro h
    unfold endsF
    rw [if_neg (h (j + 1) (Nat.le_refl _))]
    exact ih (fun n hn => h n (by omega))
theorem zeroInt (w : World) : (zeroValue 3).run Try.prog w = .ok (.int .i64 0) w := by kernel_rfl
theorem keyN : KeyE Try.prog 3 (fun k : Int => Value.int .i64 k) I64 := keyE_int Try.underlying3
abbrev EndsAt (w : World) (b c : Nat) (f : Int → Option Value) : Prop := MapV Try.prog 3 (fun k : Int => Value.int .i64 k) I64 w b c f
theorem totR_take (xs : List Rc) (j : Nat) (hj : j < xs.length) : totR xs (j + 1) = totR xs j + (7 + xs[j].2.size) := by
  unfold totR
  rw [frameL_take xs j hj, List.length_append]
  congr 1
  rw [Array.length_toList]; exact recB_size _ _
theorem recsB_take (rs : List Rc) (j : Nat) (h : j < rs.length) : (rs.take (j + 1)).map ofB = (rs.take j).map ofB ++ [ofB rs[j]] := by
  rw [List.take_succ_eq_append_getElem h, List.map_append]; rfl
theorem RcRow.set {w : World} {E B : Nat} {v : Value} {rs : List Rc} (h : RcRow w E B v rs) {b i : Nat} (hne : v.ownBlock ≠ some b) (u : Value) : RcRow (w.setCell ⟨b, i, none⟩ u) E B v rs :=
  h.grown (Lib.grownBy_setCell w b i u) (.inr hne)
theorem row_map_ne {w : World} {E B : Nat} {v : Value} {rs : List Rc} (h : RcRow w E B v rs) {b c : Nat} {f : Int → Option Value} (hm : EndsAt w b c f) : some b ≠ v.ownBlock := by
  intro e
  obtain ⟨cs, h1⟩ := h.at_ e.symm
  obtain ⟨D, ⟨es, clock, h2, _⟩, _⟩ := hm
  rw [h1] at h2
  cases h2
theorem endsF_succ (xs : List Rc) (j : Nat) : (fun k : Int => if k = (totR xs (j + 1) : Int) then some (Value.int .i64 ((j + 1 : Nat) : Int)) else endsF xs j k) = endsF xs (j + 1) := rfl
set_option maxHeartbeats 8000000 in
set_option maxRecDepth 100000 in
theorem recBack_walk (a : Option Addr) (rs : List Rc) (cap : Nat) (hcap : rs.length ≤ cap ∧ cap ≤ maxLen) (cut : Nat) (hcut : cut < 65536) (w : World) (h : RsAt w a rs) :
    Calls Try.prog 5 #[.slice a rs.length cap, .int .u16 (cut : Int)] w fun e w' => e = .returned (.bool true) ∧ Below w.heap.size w w' := by
  have HF := Lib.hid h; clear h
  have HCut := Lib.hid hcut; clear hcut
  obtain ⟨N, hN, hN1, hN2, hN3, hN4⟩ : ∃ N : Nat, (if 6 < (rs.length : Int) then 6 else (rs.length : Int)) = (N : Int) ∧ N ≤ rs.length ∧ N ≤ 6 ∧ N ≤ cap ∧ min 6 rs.length = N := ⟨min 6 rs.length, by split <;> omega, by omega, by omega, by omega, rfl⟩
  have c1 : (0 ≤ (N : Int)) = True := eq_true (by omega)
  have c2 : ((N : Int) ≤ (cap : Int)) = True := eq_true (by omega)
  have c3 : (N ≤ cap) = True := eq_true hN3
  have c4 : decide (N ≤ cap) = true := decide_eq_true hN3
  have hNm : min (rs.length : Int) 6 = (N : Int) := by rw [← hN]; split <;> omega
  have HC := Lib.hid hcap; clear hcap
  have HXs := Lib.hid (show recsB rs = (rs.take N).map ofB by unfold recsB; rw [← hN4, List.take_eq_take_min])
  have HN := Lib.hid (And.intro hN1 hN2); clear hN1 hN2 hN3 hN4
  have hz := make_zero
  have hmm := @run_makeMap Try.prog
  go_enter Try.func5, Try.ntmps5
  go_wp2_with fail
  refine (poly_Make.calls _).mono ?_
  rintro e w1 ⟨rfl, hb1⟩
  have Hb1 := Lib.hid hb1; clear hb1
  have hgs : ((w1.alloc (.cells (tabCells 0) 25)).setRow w1.heap.size (tabCells 256)).heap.size = w1.heap.size + 1 := by simp
  have HM0 := Lib.hid (show EndsAt (((w1.alloc (.cells (tabCells 0) 25)).setRow w1.heap.size (tabCells 256)).alloc (.map #[] 0)) (w1.heap.size + 1) 0 (fun _ => none) by have := MapV.made (P := Try.prog) (K := 3) (ek := fun k : Int => Value.int .i64 k) (ok := I64) ((w1.alloc (.cells (tabCells 0) 25)).setRow w1.heap.size (tabCells 256)); rwa [hgs] at this)
  obtain ⟨hT, hB, hS⟩ := made_facts Hb1.out _ rfl
  have HT := Lib.hid hT; clear hT
  have HB := Lib.hid hB; clear hB
  have HI0 := Lib.hid (i64_of 0 (by decide) (by decide))
  go_wp2_with (first | (refine wpList_store_row rfl 25 _ _ rfl w1.heap.size (tabCells 256) rfl rfl 25 (tabCells 0) (heap_alloc_new w1 _) make_info (by rw [tabCells_size, tabCells_size]) (tabCells_one _) ?_) | (refine wpList_mapV_insert rfl _ _ _ 52 rfl keyN Try.underlying52 rfl HM0.out (by decide) (0 : Int) HI0.out (.int .i64 0) rfl rfl ?_; intro w2 hm2 hg2))
  clear hz hmm HM0
  generalize (w1.alloc (.cells (tabCells 0) 25)).setRow w1.heap.size (tabCells 256) = wz at HT HB hgs hg2
  generalize w1.heap.size = g at HT hgs hm2 hg2 ⊢
  have HM := Lib.hid hm2; clear hm2
  have HB2 := Lib.hid (pw_below_grown (below_alloc (Below.refl wz.heap.size wz) (.map #[] 0)) _ (by rw [← hgs] at hg2; exact (below_alloc (Below.refl wz.heap.size wz) (.map #[] 0)).size) hg2 (fun k hk => by injection hk with hk; omega)); clear hg2
  have HXl := Lib.hid (show (recsB rs).length = N by rw [HXs.out, List.length_map, List.length_take]; exact Nat.min_eq_left HN.out.1)
  have HXg := Lib.hid (recsB_good rs)
  have HXi := Lib.hid (recsB_in rs)
  have HXt := Lib.hid (show ∀ j, ∀ h : j < N, ∀ h2 : j < rs.length, (recsB rs).take (j + 1) = (recsB rs).take j ++ [ofB rs[j]] ∧ totR (recsB rs) (j + 1) = totR (recsB rs) j + (7 + (ofB rs[j]).2.size) by
    intro j h h2
    have hl := HXl.out
    have hx : (recsB rs)[j]'(by omega) = ofB rs[j] := by simp only [HXs.out, List.getElem_map, List.getElem_take]
    refine ⟨?_, ?_⟩
    · rw [List.take_succ_eq_append_getElem (by omega), hx]
    · rw [totR_take _ j (by omega), hx])
  have HTz := Lib.hid (show ∀ j, totR (recsB rs) j ≤ 6 * 4007 by
    intro j
    have h1 := frameL_len ((recsB rs).take j) (fun r hr => recsB_in rs r (List.mem_of_mem_take hr))
    have h2 := recsB_len rs
    have h3 : ((recsB rs).take j).length ≤ 6 := Nat.le_trans (List.length_take_le' ..) h2
    unfold totR
    exact Nat.le_trans h1 (Nat.mul_le_mul_right _ h3))
  generalize recsB rs = xs at HXl HXg HXi HXt HTz
  replace HF := Lib.hid (HF.out.below HB.out)
  have HGs := Lib.hid hgs
  clear hS HC Hb1 hgs HI0 HXs
  have hNm2 := hNm
  go_loopw [6, 8, 31] (fun v s i wr => ∃ j : Nat, j ≤ N ∧ i = .int .i64 (j : Int) ∧ RcRow wr 38 wz.heap.size v (xs.take j) ∧ s = .int .i64 (totR xs j : Int) ∧ (∃ c, c ≤ j + 1 ∧ EndsAt wr (g + 1) c (endsF xs j)) ∧ Below wz.heap.size wz wr) (fun _ _ i _ => N - (RowKit.intOf i).toNat)
  case atStart => exact ⟨0, Nat.zero_le _, rfl, World.ownsRow_nil _ _ _ _, rfl, ⟨_, by simp, HM.out⟩, HB2.out⟩
  case round =>
    clear HM HB2 hN hNm c1 c2 c3 c4 hNm2
    obtain ⟨j, hj, rfl, h1, rfl, ⟨c, hc, h2⟩, h3⟩ := hrel
    have HR := Lib.hid h1; clear h1
    have HM := Lib.hid h2; clear h2
    have HB2 := Lib.hid h3; clear h3
    have HCc := Lib.hid hc; clear hc
    by_cases hlt : j < N
    · have hjf : j < rs.length := Nat.lt_of_lt_of_le hlt HN.out.1
      obtain ⟨hk, hsz, ga, off, rfl, k0, k1⟩ := HF.out.below HB2.out j hjf
      have e3 : wrap64 ((j : Int) + 1) = ((j + 1 : Nat) : Int) := wrap_succR j (Nat.lt_of_lt_of_le hlt (Nat.le_trans HN.out.2 (by decide)))
      obtain ⟨va, vc, rfl⟩ := HR.out.form
      have HMl := Lib.hid (show (xs.take j).length = j by rw [List.length_take, HXl.out]; exact Nat.min_eq_left (Nat.le_of_lt hlt))
      rw [HMl.out] at HR ⊢
      have HXj := Lib.hid (HXt.out j hlt hjf)
      have HOg := Lib.hid (ofB_good rs[j])
      generalize rs[j] = r at k0 k1 HXj HOg hk hsz
      obtain ⟨k, b⟩ := r
      simp only at k0 k1 hk hsz
      obtain ⟨km, hkm⟩ : ∃ km, k % 255 = km := ⟨_, rfl⟩
      obtain ⟨q, hq, hq1, hq3⟩ : ∃ q : Nat, (if 300 < (b.size : Int) then 300 else (b.size : Int)) = (q : Int) ∧ q ≤ b.size ∧ min b.size 300 = q := ⟨min b.size 300, by split <;> omega, by omega, rfl⟩
      have c1 : (0 ≤ (q : Int)) = True := eq_true (by omega)
      have c2 : ((q : Int) ≤ (b.size : Int)) = True := eq_true (by omega)
      have c3 : (q ≤ b.size) = True := eq_true hq1
      have c4 : decide (q ≤ b.size) = true := decide_eq_true hq1
      have hqm : min (b.size : Int) 300 = (q : Int) := by rw [← hq]; split <;> omega
      have hr1 : Int.tmod (k : Int) 255 = (km : Int) := by rw [Int.tmod_eq_emod_of_nonneg (by omega)]; omega
      have hr2 : (k : Int) % 255 = (km : Int) := by omega
      have hr3 : IntKind.u8.wrap (1 + (km : Int)) = ((1 + km : Nat) : Int) := by simp [IntKind.wrap, IntKind.bits, IntKind.signed]; omega
      have hr4 : IntKind.u8.wrap (km : Int) = (km : Int) := by simp [IntKind.wrap, IntKind.bits, IntKind.signed]; omega
      have hof : ofB (k, b) = (1 + km, b.extract 0 q) := by unfold ofB; rw [← hkm, ← hq3]
      rw [hof] at HXj HOg
      clear hof hkm hq3 hq1 hk hsz
      have HX := Lib.hid (heap_alloc_new wr (.cells #[.int .u8 (k : Int), .string b] 53))
      have ha := below_alloc (Below.refl wr.heap.size wr) (.cells #[.int .u8 (k : Int), .string b] 53)
      replace HR := Lib.hid (HR.out.below ha)
      replace HM := Lib.hid (HM.out.below ha)
      replace HB2 := Lib.hid (chain2 HB2.out ha)
      clear ha
      go_wp2_with fail
      generalize wr.heap.size = bx at HX ⊢
      generalize wr.alloc (.cells #[.int .u8 (k : Int), .string b] 53) = wx at HR HM HB2 HX ⊢
      clear k0 k1
      have hS : wx.drew.heap[bx]? = some (.cells #[.int .u8 (k : Int), .string b] 53 (0, 0)) := HX.out
      replace HR := Lib.hid (show RcRow wx.drew 38 wz.heap.size (.slice va j vc) (xs.take j) from HR.out)
      replace HM := Lib.hid (show EndsAt wx.drew (g + 1) c (endsF xs j) from HM.out)
      replace HB2 := Lib.hid (below_drew1 HB2.out)
      refine start_ (n := 14) (S := fun w' => w'.heap[bx]? = some (.cells #[.int .u8 (k : Int), .string b] 53 (0, 0))) (ds := [13]) #[false, false, false, false, false, false, false, false, false, false, false, false, false, false] (by kernel_rfl) rfl rfl hS (fun hHeld => ?_)
      refine with_tabW rg5_8.tab rg5_8.bits (fun HT_ HW_ => ?_)
      generalize wx.drew = w' at HR HM HB2 hHeld ⊢
      refine pure_ (i := 0) (N := some 36) (v := ?_) (a' := ?_) #[true, false, false, false, false, false, false, false, false, false, false, false, false, false] rfl rfl (any_of HT_.out (by kernel_rfl)) (fun _ _ _ h => h) (Or.inl ⟨by rfl, ?_⟩) ?_ ?_
      rotate_left
      · intro w'
        go_simp
        try with_reducible rfl
      rotate_left
      · simp (maxSteps := 4000000) only [Act.put, List.setIfInBounds_toArray, List.set_cons_zero, List.set_cons_succ, i64_w, i32_w]
        try rfl
      refine pure_ (i := 4) (N := some 40) (v := ?_) (a' := ?_) #[true, false, false, false, true, false, false, false, false, false, false, false, false, false] rfl rfl (any_of HT_.out (by kernel_rfl)) (fun _ _ _ h => h) (Or.inl ⟨by rfl, ?_⟩) ?_ ?_
      rotate_left
      · intro w'
        go_simp
        try with_reducible rfl
      rotate_left
      · simp (maxSteps := 4000000) only [Act.put, List.setIfInBounds_toArray, List.set_cons_zero, List.set_cons_succ, i64_w, i32_w]
        try rfl
      refine pure_ (i := 6) (N := some 42) (v := ?_) (a' := ?_) #[true, false, false, false, true, false, true, false, false, false, false, false, false, false] rfl rfl (any_of HT_.out (by kernel_rfl)) (fun _ _ _ h => h) (Or.inl ⟨by rfl, ?_⟩) ?_ ?_
      rotate_left
      · intro w'
        go_simp
        try with_reducible rfl
      rotate_left
      · simp (maxSteps := 4000000) only [Act.put, List.setIfInBounds_toArray, List.set_cons_zero, List.set_cons_succ, i64_w, i32_w]
        try rfl
      refine take_ (i := 1) (N := some 37) (v := ?_) (a' := ?_) #[true, true, false, false, true, false, true, false, false, false, false, false, false, false] rfl rfl (take_ofW HT_.out HW_.out (by kernel_rfl)) (fun _ _ _ h => h) (Or.inl ⟨by rfl, ?_⟩) hHeld ?_ ?_
      rotate_left
      · intro w' hw_
        try dsimp only at hw_
        obtain ⟨g0, g1⟩ := rc_cells (x := (k, b)) hw_; simp only at g0 g1
        go_simp
        try with_reducible rfl
      rotate_left
      · simp (maxSteps := 4000000) only [Act.put, List.setIfInBounds_toArray, List.set_cons_zero, List.set_cons_succ, i64_w, i32_w]
        try rfl
      refine pure_ (i := 2) (N := some 38) (v := ?_) (a' := ?_) #[true, true, true, false, true, false, true, false, false, false, false, false, false, false] rfl rfl (any_of HT_.out (by kernel_rfl)) (fun _ _ _ h => h) (Or.inl ⟨by rfl, ?_⟩) ?_ ?_
      rotate_left
      · intro w'
        go_simp
        try with_reducible rfl
      rotate_left
      · simp (maxSteps := 4000000) only [Act.put, List.setIfInBounds_toArray, List.set_cons_zero, List.set_cons_succ, i64_w, i32_w]
        try rfl
      refine pure_ (i := 3) (N := some 39) (v := ?_) (a' := ?_) #[true, true, true, true, true, false, true, false, false, false, false, false, false, false] rfl rfl (any_of HT_.out (by kernel_rfl)) (fun _ _ _ h => h) (Or.inl ⟨by rfl, ?_⟩) ?_ ?_
      rotate_left
      · intro w'
        go_simp
        try with_reducible rfl
      rotate_left
      · simp (maxSteps := 4000000) only [Act.put, List.setIfInBounds_toArray, List.set_cons_zero, List.set_cons_succ, i64_w, i32_w]
        try rfl
      refine take_ (i := 5) (N := some 41) (v := ?_) (a' := ?_) #[true, true, true, true, true, true, true, false, false, false, false, false, false, false] rfl rfl (take_ofW HT_.out HW_.out (by kernel_rfl)) (fun _ _ _ h => h) (Or.inl ⟨by rfl, ?_⟩) hHeld ?_ ?_
      rotate_left
      · intro w' hw_
        try dsimp only at hw_
        obtain ⟨g0, g1⟩ := rc_cells (x := (k, b)) hw_; simp only at g0 g1
        go_simp
        try with_reducible rfl
      rotate_left
      · simp (maxSteps := 4000000) only [Act.put, List.setIfInBounds_toArray, List.set_cons_zero, List.set_cons_succ, i64_w, i32_w]
        try rfl
      refine take_ (i := 7) (N := some 43) (v := ?_) (a' := ?_) #[true, true, true, true, true, true, true, true, false, false, false, false, false, false] rfl rfl (take_ofW HT_.out HW_.out (by kernel_rfl)) (fun _ _ _ h => h) (Or.inl ⟨by rfl, ?_⟩) hHeld ?_ ?_
      rotate_left
      · intro w' hw_
        try dsimp only at hw_
        obtain ⟨g0, g1⟩ := rc_cells (x := (k, b)) hw_; simp only at g0 g1
        go_simp
        try with_reducible rfl
      rotate_left
      · simp (maxSteps := 4000000) only [Act.put, List.setIfInBounds_toArray, List.set_cons_zero, List.set_cons_succ, i64_w, i32_w]
        try rfl
      refine pure_ (i := 8) (N := some 44) (v := ?_) (a' := ?_) #[true, true, true, true, true, true, true, true, true, false, false, false, false, false] rfl rfl (any_of HT_.out (by kernel_rfl)) (fun _ _ _ h => h) (Or.inl ⟨by rfl, ?_⟩) ?_ ?_
      rotate_left
      · intro w'
        go_simp
        try with_reducible rfl
      rotate_left
      · simp (maxSteps := 4000000) only [Act.put, List.setIfInBounds_toArray, List.set_cons_zero, List.set_cons_succ, i64_w, i32_w]
        try rfl
      refine pure_ (i := 9) (N := some 45) (v := ?_) (a' := ?_) #[true, true, true, true, true, true, true, true, true, true, false, false, false, false] rfl rfl (any_of HT_.out (by kernel_rfl)) (fun _ _ _ h => h) (Or.inl ⟨by rfl, ?_⟩) ?_ ?_
      rotate_left
      · intro w'
        go_simp
        try with_reducible rfl
      rotate_left
      · simp (maxSteps := 4000000) only [Act.put, List.setIfInBounds_toArray, List.set_cons_zero, List.set_cons_succ, i64_w, i32_w]
        try rfl
      refine pure_ (i := 10) (N := some 46) (v := ?_) (a' := ?_) #[true, true, true, true, true, true, true, true, true, true, true, false, false, false] rfl rfl (any_of HT_.out (by kernel_rfl)) (fun _ _ _ h => h) (Or.inl ⟨by rfl, ?_⟩) ?_ ?_
      rotate_left
      · intro w'
        go_simp
        try with_reducible rfl
      rotate_left
      · simp (maxSteps := 4000000) only [Act.put, List.setIfInBounds_toArray, List.set_cons_zero, List.set_cons_succ, i64_w, i32_w]
        try rfl
      refine pure_ (i := 11) (N := some 47) (v := ?_) (a' := ?_) #[true, true, true, true, true, true, true, true, true, true, true, true, false, false] rfl rfl (any_of HT_.out (by kernel_rfl)) (fun _ _ _ h => h) (Or.inl ⟨by rfl, ?_⟩) ?_ ?_
      rotate_left
      · intro w'
        go_simp
        try with_reducible rfl
      rotate_left
      · simp (maxSteps := 4000000) only [Act.put, List.setIfInBounds_toArray, List.set_cons_zero, List.set_cons_succ, i64_w, i32_w]
        try rfl
      refine one_ (i := 12) (N := some 11) #[true, true, true, true, true, true, true, true, true, true, true, true, true, false] rfl rfl (one_of HT_.out (by kernel_rfl)) (by decide) (fun K hK => ?_)
      refine value_ (v := .pointer (some ⟨w'.heap.size, 0, none⟩)) (w1 := w'.alloc (.cells #[.int .u8 0, .string { data := #[] }] 38)) (by rfl) rfl ?_ ?_
      · (go_simp)
      have HY := Lib.hid (heap_alloc_new w' (.cells #[.int .u8 0, .string { data := #[] }] 38))
      have hSS := blk_alloc hHeld (.cells #[.int .u8 0, .string { data := #[] }] 38)
      have hd := below_alloc (Below.refl w'.heap.size w') (.cells #[.int .u8 0, .string { data := #[] }] 38)
      have HK := Lib.hid (show (Value.slice va j vc).ownBlock ≠ some w'.heap.size from fun e => Nat.lt_irrefl _ (World.ownsRow.lt HR.out _ e).2)
      have HMn := Lib.hid (show g + 1 ≠ w'.heap.size from fun e => Nat.lt_irrefl _ (e ▸ HM.out.lt))
      have HBs := Lib.hid HB2.out.size
      replace HR := Lib.hid (HR.out.below hd)
      replace HM := Lib.hid (HM.out.below hd)
      replace HB2 := Lib.hid (chain2 HB2.out hd)
      clear hd
      generalize w'.heap.size = b2 at HY HK HMn HBs ⊢
      generalize w'.alloc (.cells #[.int .u8 0, .string { data := #[] }] 38) = w' at HY HR HM HB2 hSS ⊢
      refine hK.out _ _ (hSS) (fun hHeld => ?_)
      clear hK K
      refine norm_ (a' := ?_) ?_ ?_
      rotate_left
      · show Act.put _ (some 11) _ = _
        simp (maxSteps := 4000000) only [Act.put, List.setIfInBounds_toArray, List.set_cons_zero, List.set_cons_succ, i64_w, i32_w]
        try rfl
      refine last_ (i := 13) (N := none) #[true, true, true, true, true, true, true, true, true, true, true, true, true, true] rfl rfl (one_of HT_.out (by kernel_rfl)) (by decide) (fun K hK => ?_)
      refine skip_ (w1 := (w'.setCell ⟨b2, 0, none⟩ (.int .u8 ((1 + km : Nat) : Int))).setCell ⟨b2, 1, none⟩ (.string (b.extract 0 q))) (by rfl) rfl ?_ ?_
      · (obtain ⟨x0, x1⟩ := rc_cells (x := (0, ⟨#[]⟩)) HY.out; simp only at x0 x1; have f0 := rc_frozen HY.out 0; have f1 := rc_frozen HY.out 1; go_simp)
      refine hK.out _ _ ?_
      clear hK K
      refine done_ (done_of HT_.out (by kernel_rfl)) ?_
      replace HR := Lib.hid ((HR.out.set (i := 0) HK.out (.int .u8 ((1 + km : Nat) : Int))).set (i := 1) HK.out (.string (b.extract 0 q)))
      replace HM := Lib.hid (show EndsAt _ _ _ _ from (MapV.set (MapV.set HM.out (a := ⟨b2, 0, none⟩) HMn.out (.int .u8 ((1 + km : Nat) : Int))) (a := ⟨b2, 1, none⟩) HMn.out (.string (b.extract 0 q))))
      replace HB2 := Lib.hid ((HB2.out.setCell (p := ⟨b2, 0, none⟩) HBs.out (.int .u8 ((1 + km : Nat) : Int))).setCell (p := ⟨b2, 1, none⟩) HBs.out (.string (b.extract 0 q)))
      replace HY := Lib.hid (rc_set HY.out (.int .u8 ((1 + km : Nat) : Int)) (.string (b.extract 0 q)))
      generalize (w'.setCell ⟨b2, 0, none⟩ (.int .u8 ((1 + km : Nat) : Int))).setCell ⟨b2, 1, none⟩ (.string (b.extract 0 q)) = w3 at HR HM HB2 HY ⊢
      generalize b.extract 0 q = bb at HY HXj HOg ⊢
      generalize 1 + km = kk at HY HXj HOg ⊢
      clear c1 c2 c3 c4 hqm hr1 hr2 hr3 hr4 hq HX hS hHeld
      have HN2 := Lib.hid (heap_alloc_new w3 (.cells #[.int .u8 (kk : Int), .string bb] 38))
      have hd := below_alloc (Below.refl w3.heap.size w3) (.cells #[.int .u8 (kk : Int), .string bb] 38)
      have HY0 := HY
      replace HR := Lib.hid (HR.out.below hd)
      replace HM := Lib.hid (HM.out.below hd)
      replace HY := Lib.hid (blk_below HY.out hd)
      replace HB2 := Lib.hid (chain2 HB2.out hd)
      clear hd
      have HBs3 := Lib.hid (show wz.heap.size ≤ (w3.alloc (.cells #[.int .u8 (kk : Int), .string bb] 38)).heap.size from HB2.out.size)
      obtain ⟨ax, cx, w4, hr, ho2, hgr⟩ := rc_addN Try.underlying27 info38 27 wz.heap.size _ _ j HMl.out (w3.alloc (.cells #[.int .u8 (kk : Int), .string bb] 38)) HR.out (Nat.le_trans (Nat.le_of_lt hlt) (Nat.le_trans HN.out.2 (by decide))) (kk, bb) w3.heap.size HN2.out HBs3.out
      have HRun := Lib.hid hr; clear hr
      have HY4 := Lib.hid ((hgr.block b2 (blk_lt HY.out) (fun e => HK.out e.symm)).trans HY.out)
      replace HM := Lib.hid (show EndsAt w4 (g + 1) c (endsF xs j) from MapV.kept HM.out hgr (row_map_ne HR.out HM.out))
      replace HB2 := Lib.hid (pw_below_grown HB2.out _ HB2.out.size hgr (fun k hk => (World.ownsRow.lt HR.out k hk).1))
      replace HR := Lib.hid (show RcRow w4 38 wz.heap.size (.slice ax (j + 1) cx) (xs.take (j + 1)) by rw [HXj.out.1]; exact ho2)
      obtain ⟨z0, z1⟩ := rc_cells (x := (kk, bb)) HY4.out
      obtain ⟨y0, y1⟩ := rc_cells (x := (kk, bb)) HY0.out
      simp only at y0 y1 z0 z1
      clear hgr ho2 HN2 HY HY0 HY4
      go_wp2_with (at_builtin; refine wpList_append_run rfl _ _ 27 rfl _ _ rfl rfl HRun.out ?_)
      clear HRun y0 y1
      have HSz := Lib.hid (size_f kk bb HOg.out.2.1 (Nat.le_trans HOg.out.2.2 (by decide)))
      have hS1 : totR xs (j + 1) = totR xs j + (7 + bb.size) := HXj.out.2
      generalize 7 + bb.size = z at HSz hS1
      have hTz := HTz.out (j + 1)
      have hw : wrap64 ((totR xs j : Int) + (z : Int)) = (totR xs (j + 1) : Int) := by unfold wrap64; omega
      have HI := Lib.hid (i64_of (totR xs (j + 1) : Int) (by omega) (by omega))
      have HCm := Lib.hid (show c < maxLen by have := HCc.out; have := HN.out.2; unfold maxLen; omega)
      clear hTz hS1
      refine (rec_Record_Size.calls _ _ _ _ HSz.out).mono ?_
      rintro e w5 ⟨rfl, hd⟩
      replace HR := Lib.hid (HR.out.below hd)
      replace HM := Lib.hid (HM.out.below hd)
      replace HB2 := Lib.hid (chain2 HB2.out hd)
      clear hd
      clear z0 z1
      generalize hs1 : (totR xs j : Int) = S0 at hw ⊢
      generalize hs2 : (totR xs (j + 1) : Int) = S1 at hw HI ⊢
      have HS := Lib.hid (And.intro hs1 hs2); clear hs1 hs2
      go_wp2_with (at_mapUpdate; refine wpList_mapV_store rfl _ _ _ 52 rfl keyN Try.underlying52 rfl HM.out HCm.out S1 HI.out (.int .i64 ((j + 1 : Nat) : Int)) (congrArg (Value.int .i64) hw) (congrArg (Value.int .i64) e3) ?_; intro w6 hm6 hg6)
      go_roundw
      case rel =>
        have hc6 : (if (endsF xs j S1).isSome then c else c + 1) ≤ j + 1 + 1 := by have := HCc.out; split <;> omega
        have hm7 : EndsAt w6 (g + 1) (if (endsF xs j S1).isSome then c else c + 1) (endsF xs (j + 1)) := MapV.congr hm6 (fun k _ => by
          show (if k = S1 then _ else _) = if k = (totR xs (j + 1) : Int) then _ else _
          rw [HS.out.2])
        exact ⟨j + 1, hlt, by rw [e3], HR.out.grown hg6 (.inr (fun e => row_map_ne HR.out HM.out e.symm)), by rw [HS.out.2], ⟨_, hc6, hm7⟩, pw_below_grown HB2.out _ HB2.out.size hg6 (fun k hk => by injection hk with hk; have := HGs.out; omega)⟩
      case measure => rw [e3]; simp only [RowKit.intOf, Int.toNat_natCast]; exact Nat.sub_lt_sub_left hlt (Nat.lt_succ_self j)
    · obtain rfl : j = N := Nat.le_antisymm hj (Nat.le_of_not_lt hlt)
      have htk : xs.take j = xs := by rw [← HXl.out, List.take_length]
      rw [htk] at HR
      clear htk HXt
      replace HT := Lib.hid (HT.out.below HB2.out)
      replace HB := Lib.hid (chain2 HB.out HB2.out)
      obtain ⟨va, vc, rfl⟩ := HR.out.form
      have hL6 : xs.length ≤ 6 := by rw [HXl.out]; exact HN.out.2
      have HL6 := Lib.hid hL6; clear hL6
      go_wp2_with fail
      refine (rec_frame g xs (Nat.le_trans HL6.out (by decide)) HXi.out _ wr HT.out HR.out.s).mono ?_
      rintro e wx ⟨rfl, hd⟩
      replace HR := Lib.hid (HR.out.below hd)
      replace HM := Lib.hid (HM.out.below hd)
      replace HT := Lib.hid (HT.out.below hd)
      replace HB := Lib.hid (chain2 HB.out hd)
      clear hd
      rw [frameV_good HXg.out]
      have HPv := Lib.hid (parse_frame xs HXg.out)
      have HCut2 := Lib.hid (fun m hm => parse_cut xs HXg.out m m hm (Nat.le_refl _))
      have HTl := Lib.hid (show (str (frameL xs)).size = totR xs xs.length by rw [str_size]; unfold totR; rw [List.take_length])
      generalize str (frameL xs) = sx at HPv HCut2 HTl ⊢
      have HTt := Lib.hid (HTz.out xs.length)
      go_wp2_with fail
      refine (parse_ok g sx (by have := HTl.out; have := HTt.out; omega) wx HT.out).mono ?_
      rintro e w3 ⟨v, rfl, h1, hd⟩
      replace HR := Lib.hid (HR.out.below hd)
      replace HM := Lib.hid (HM.out.below hd)
      replace HT := Lib.hid (HT.out.below hd)
      replace HB := Lib.hid (chain2 HB.out hd)
      clear hd
      have HP := Lib.hid h1; clear h1
      rw [HPv.out] at HP ⊢
      obtain ⟨pa, pc, rfl⟩ := HP.out.form
      simp only
      obtain rfl := HXl.out
      have hTl := HTl.out
      have hTt := HTt.out
      go_wp2_with fail
      refine (wakes_ok w3).mono ?_
      rintro e w4 ⟨rfl, hd⟩
      replace HR := Lib.hid (HR.out.below hd)
      replace HP := Lib.hid (HP.out.below hd)
      replace HM := Lib.hid (HM.out.below hd)
      replace HT := Lib.hid (HT.out.below hd)
      replace HB := Lib.hid (chain2 HB.out hd)
      clear hd
      go_wp2_with fail
      clear hTl hTt
      go_loopw [96] (fun i wr => ∃ j : Nat, j ≤ xs.length ∧ i = .int .i64 (j : Int) ∧ Below w4.heap.size w4 wr) (fun i _ => xs.length - (RowKit.intOf i).toNat)
      case atStart => exact ⟨0, Nat.zero_le _, rfl, Below.refl _ _⟩
      case round =>
        obtain ⟨i, hi, rfl, h1⟩ := hrel
        have HB2 := Lib.hid h1; clear h1
        by_cases hlt2 : i < xs.length
        · obtain ⟨g1, of1, cp1, hv1, k0, k1⟩ := row_at (HR.out.below HB2.out).s i hlt2
          obtain ⟨g2, of2, cp2, hv2, k2, k3⟩ := row_at (HP.out.below HB2.out).s i hlt2
          simp only [Value.slice.injEq, true_and] at hv1 hv2
          obtain ⟨rfl, rfl⟩ := hv1
          obtain ⟨rfl, rfl⟩ := hv2
          have e3 : wrap64 ((i : Int) + 1) = ((i + 1 : Nat) : Int) := wrap_succR i (Nat.lt_of_lt_of_le hlt2 (Nat.le_trans HL6.out (by decide)))
          generalize xs[i] = r at k0 k1 k2 k3
          obtain ⟨k, b⟩ := r
          simp only at k0 k1 k2 k3
          have q1 : (b.toList == b.toList) = true := beq_self_eq_true _
          go_wp2_with fail
          replace HB2 := Lib.hid (below_drew1 HB2.out)
          have hS : wr.drew.cell? ⟨g1, of1 + i * 2, none⟩ = some (.int .u8 (k : Int)) ∧ wr.drew.cell? ⟨g1, of1 + i * 2 + 1, none⟩ = some (.string b) ∧ wr.drew.cell? ⟨g2, of2 + i * 2, none⟩ = some (.int .u8 (k : Int)) ∧ wr.drew.cell? ⟨g2, of2 + i * 2 + 1, none⟩ = some (.string b) := ⟨k0, k1, k2, k3⟩
          refine start_ (n := 9) (S := fun w' => w'.cell? ⟨g1, of1 + i * 2, none⟩ = some (.int .u8 (k : Int)) ∧ w'.cell? ⟨g1, of1 + i * 2 + 1, none⟩ = some (.string b) ∧ w'.cell? ⟨g2, of2 + i * 2, none⟩ = some (.int .u8 (k : Int)) ∧ w'.cell? ⟨g2, of2 + i * 2 + 1, none⟩ = some (.string b)) (ds := []) #[false, false, false, false, false, false, false, false, false] (by kernel_rfl) rfl rfl hS (fun hHeld => ?_)
          refine with_tabW rg5_20.tab rg5_20.bits (fun HT_ HW_ => ?_)
          generalize wr.drew = w' at HB2 hHeld ⊢
          refine pure_ (i := 0) (N := some 99) (v := ?_) (a' := ?_) #[true, false, false, false, false, false, false, false, false] rfl rfl (any_of HT_.out (by kernel_rfl)) (fun _ _ _ h => h) (Or.inl ⟨by rfl, ?_⟩) ?_ ?_
          rotate_left
          · intro w'
            go_simp
            try with_reducible rfl
          rotate_left
          · simp (maxSteps := 4000000) only [Act.put, List.setIfInBounds_toArray, List.set_cons_zero, List.set_cons_succ, i64_w, i32_w]
            try rfl
          refine pure_ (i := 1) (N := some 100) (v := ?_) (a' := ?_) #[true, true, false, false, false, false, false, false, false] rfl rfl (any_of HT_.out (by kernel_rfl)) (fun _ _ _ h => h) (Or.inl ⟨by rfl, ?_⟩) ?_ ?_
          rotate_left
          · intro w'
            go_simp
            try with_reducible rfl
          rotate_left
          · simp (maxSteps := 4000000) only [Act.put, List.setIfInBounds_toArray, List.set_cons_zero, List.set_cons_succ, i64_w, i32_w]
            try rfl
          refine pure_ (i := 2) (N := some 101) (v := ?_) (a' := ?_) #[true, true, true, false, false, false, false, false, false] rfl rfl (any_of HT_.out (by kernel_rfl)) (fun _ _ _ h => h) (Or.inl ⟨by rfl, ?_⟩) ?_ ?_
          rotate_left
          · intro w'
            go_simp
            try with_reducible rfl
          rotate_left
          · simp (maxSteps := 4000000) only [Act.put, List.setIfInBounds_toArray, List.set_cons_zero, List.set_cons_succ, i64_w, i32_w]
            try rfl
          refine pure_ (i := 4) (N := some 103) (v := ?_) (a' := ?_) #[true, true, true, false, true, false, false, false, false] rfl rfl (any_of HT_.out (by kernel_rfl)) (fun _ _ _ h => h) (Or.inl ⟨by rfl, ?_⟩) ?_ ?_
          rotate_left
          · intro w'
            go_simp
            try with_reducible rfl
          rotate_left
          · simp (maxSteps := 4000000) only [Act.put, List.setIfInBounds_toArray, List.set_cons_zero, List.set_cons_succ, i64_w, i32_w]
            try rfl
          refine pure_ (i := 5) (N := some 104) (v := ?_) (a' := ?_) #[true, true, true, false, true, true, false, false, false] rfl rfl (any_of HT_.out (by kernel_rfl)) (fun _ _ _ h => h) (Or.inl ⟨by rfl, ?_⟩) ?_ ?_
          rotate_left
          · intro w'
            go_simp
            try with_reducible rfl
          rotate_left
          · simp (maxSteps := 4000000) only [Act.put, List.setIfInBounds_toArray, List.set_cons_zero, List.set_cons_succ, i64_w, i32_w]
            try rfl
          refine pure_ (i := 6) (N := some 105) (v := ?_) (a' := ?_) #[true, true, true, false, true, true, true, false, false] rfl rfl (any_of HT_.out (by kernel_rfl)) (fun _ _ _ h => h) (Or.inl ⟨by rfl, ?_⟩) ?_ ?_
          rotate_left
          · intro w'
            go_simp
            try with_reducible rfl
          rotate_left
          · simp (maxSteps := 4000000) only [Act.put, List.setIfInBounds_toArray, List.set_cons_zero, List.set_cons_succ, i64_w, i32_w]
            try rfl
          refine take_ (i := 3) (N := some 102) (v := ?_) (a' := ?_) #[true, true, true, true, true, true, true, false, false] rfl rfl (take_ofW HT_.out HW_.out (by kernel_rfl)) (fun _ _ _ h => h) (Or.inl ⟨by rfl, ?_⟩) hHeld ?_ ?_
          rotate_left
          · intro w' hw_
            try dsimp only at hw_
            obtain ⟨x0, x1, x2, x3⟩ := hw_
            go_simp
            try with_reducible rfl
          rotate_left
          · simp (maxSteps := 4000000) only [Act.put, List.setIfInBounds_toArray, List.set_cons_zero, List.set_cons_succ, i64_w, i32_w]
            try rfl
          refine take_ (i := 7) (N := some 106) (v := ?_) (a' := ?_) #[true, true, true, true, true, true, true, true, false] rfl rfl (take_ofW HT_.out HW_.out (by kernel_rfl)) (fun _ _ _ h => h) (Or.inl ⟨by rfl, ?_⟩) hHeld ?_ ?_
          rotate_left
          · intro w' hw_
            try dsimp only at hw_
            obtain ⟨x0, x1, x2, x3⟩ := hw_
            go_simp
            try with_reducible rfl
          rotate_left
          · simp (maxSteps := 4000000) only [Act.put, List.setIfInBounds_toArray, List.set_cons_zero, List.set_cons_succ, i64_w, i32_w]
            try rfl
          refine pure_ (i := 8) (N := some 107) (v := ?_) (a' := ?_) #[true, true, true, true, true, true, true, true, true] rfl rfl (any_of HT_.out (by kernel_rfl)) (fun _ _ _ h => h) (Or.inl ⟨by rfl, ?_⟩) ?_ ?_
          rotate_left
          · intro w'
            go_simp
            try with_reducible rfl
          rotate_left
          · simp (maxSteps := 4000000) only [Act.put, List.setIfInBounds_toArray, List.set_cons_zero, List.set_cons_succ, i64_w, i32_w]
            try rfl
          refine done_ (done_of HT_.out (by kernel_rfl)) ?_
          go_wp2
          go_roundw
          case rel => exact ⟨i + 1, hlt2, by rw [e3], HB2.out⟩
          case measure => rw [e3]; simp only [RowKit.intOf, Int.toNat_natCast]; exact Nat.sub_lt_sub_left hlt2 (Nat.lt_succ_self i)
        · obtain rfl : i = xs.length := Nat.le_antisymm hi (Nat.le_of_not_lt hlt2)
          obtain ⟨m, hm⟩ : ∃ m, cut % (sx.size + 1) = m := ⟨_, rfl⟩
          have hml : m ≤ sx.size := by have : cut % (sx.size + 1) < sx.size + 1 := Nat.mod_lt _ (by omega); omega
          have hsz : sx.size ≤ 24042 := by have := HTl.out; have := HTt.out; omega
          have nz1 : ((sx.size : Int) + 1 == 0) = false := by simp; omega
          have nz2 : ¬ ((sx.size : Int) + 1 = 0) := by omega
          have hr1 : Int.tmod (cut : Int) ((sx.size : Int) + 1) = (m : Int) := by rw [Int.tmod_eq_emod_of_nonneg (by omega), ← hm]; simp
          have hr2 : (cut : Int) % ((sx.size : Int) + 1) = (m : Int) := by rw [← hm]; simp
          have pa1 : (0 ≤ (m : Int)) = True := eq_true (by omega)
          have pa2 : ((m : Int) ≤ (sx.size : Int)) = True := eq_true (by omega)
          have pa3 : (m ≤ sx.size) = True := eq_true (by omega)
          have pa4 : decide (m ≤ sx.size) = true := decide_eq_true (by omega)
          have HCut3 := Lib.hid (HCut2.out m (by rw [← HTl.out]; exact hml))
          have HCt := HCut.out
          replace HM := Lib.hid (show EndsAt wr (g + 1) c (endsF xs xs.length) from HM.out.below HB2.out)
          have hEx : (sx.extract 0 m).size = m := by rw [ByteArray.size_extract]; omega
          have HPm := Lib.hid (show parseV (sx.extract 0 m) = parseF m (sx.extract 0 m) by unfold parseV; rw [hEx])
          have HEx := Lib.hid hEx; clear hEx
          have HIm := Lib.hid (i64_of (m : Int) (by omega) (by omega))
          have HMm := Lib.hid (And.intro hm hml)
          clear hm
          go_wp2_with fail
          clear nz1 nz2 hr1 hr2 pa1 pa2 pa3 pa4 hml HCt
          generalize sx.extract 0 m = px at HPm HCut3 HEx ⊢
          refine (parse_ok g px (by rw [HEx.out]; have := HMm.out.2; omega) wr (HT.out.below HB2.out)).mono ?_
          rintro e w5 ⟨v, rfl, h1, hd⟩
          have HP2 := Lib.hid h1; clear h1
          replace HB := Lib.hid (chain2 (chain2 HB.out HB2.out) hd)
          replace HM := Lib.hid (show EndsAt w5 (g + 1) c (endsF xs xs.length) from HM.out.below hd)
          clear hd HB2 HCut2
          rcases HCut3.out with ⟨n, n1, n2, n3⟩ | ⟨n1, n2⟩
          · have hlk := HM.out.lookOk keyN Try.underlying52 (zeroInt w5) (m : Int) HIm.out
            rw [show endsF xs xs.length (m : Int) = some (.int .i64 (n : Int)) by rw [n2]; exact endsF_hit xs _ (Nat.le_refl _) n n1] at hlk
            rw [HPm.out, n3] at HP2 ⊢
            have hlk2 : (Instr.lookup 52 (.map (some (g + 1))) (.int .i64 (m : Int)) true).run Try.prog w5 = .ok (.tuple #[.int .i64 (n : Int), .bool true]) w5 := hlk
            obtain ⟨qa, qc, rfl⟩ := HP2.out.form
            have hln : (xs.take n).length = n := by rw [List.length_take]; exact Nat.min_eq_left n1
            simp only
            rw [hln]
            have HN2 := Lib.hid (And.intro n1 n2)
            clear hlk n1 n2 n3 hln
            go_wp2
            go_ret
            exact ⟨rfl, HB.out⟩
          · have hlk := HM.out.lookOk keyN Try.underlying52 (zeroInt w5) (m : Int) HIm.out
            rw [show endsF xs xs.length (m : Int) = none from endsF_miss xs _ _ (fun n hn e => n1 n hn (by exact_mod_cast e))] at hlk
            rw [HPm.out, n2] at HP2 ⊢
            have hlk2 : (Instr.lookup 52 (.map (some (g + 1))) (.int .i64 (m : Int)) true).run Try.prog w5 = .ok (.tuple #[.int .i64 0, .bool false]) w5 := hlk
            obtain ⟨qa, qc, rfl⟩ := HP2.out.form
            simp only [List.length_nil]
            clear hlk n1 n2
            go_wp2
            go_ret
            exact ⟨rfl, HB.out⟩
theorem recBack_law (a0 : Option Addr) (len0 cap0 : Nat) (a1 : Int) (W : World) (w0 : RowIn W [.int .u8, .str] a0 len0) (y0 : len0 ≤ cap0 ∧ cap0 ≤ maxLen) (w1 : (Lit.int .u16 a1).wf = true) :
    Calls Try.prog 5 #[.slice a0 len0 cap0, .int .u16 a1] W fun e w' => e = .returned (.bool true) ∧ Below W.heap.size W w' := by
  obtain ⟨rs, rfl, h⟩ := rs_of w0
  obtain ⟨m, rfl, hm⟩ := wf_u16 w1
  exact recBack_walk a0 rs cap0 y0 m hm W h
end Go.Proofs.Ytnojomoeaofkoaa
