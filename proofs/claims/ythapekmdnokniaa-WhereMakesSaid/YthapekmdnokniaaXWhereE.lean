/- where: Put. No conditions beyond the form's own reach. -/
import Derived.Test.YthapekmdnokniaaXWhereD
namespace Go.Proofs.Ythapekmdnokniaa
open Go.RowKit Go.Lib Go.Maps Go.Proofs.YthapekmdnokniaaW.PrintWords Go.Proofs.YthapekmdnokniaaW.PrintLast Go.Proofs.YthapekmdnokniaaW.PrintMore
set_option linter.unusedVariables false
set_option linter.unusedSimpArgs false
def rg10_10.T : Bool × List (List Nat × List Nat) := (true, [([], []), ([0], [0]), ([1], [1]), ([2], [2]), ([], []), ([], []), ([5], [5]), ([6], [6]), ([7], [7]), ([], []), ([], []), ([], []), ([3, 4, 8], [3, 4]), ([12], [12]), ([3, 13, 10, 12, 0, 1, 2, 3, 4, 8, 10, 12], [3, 10, 13]), ([8, 9, 14, 0, 1, 2, 3, 4, 8, 10, 12, 13, 14], [8, 9]), ([15], [15]), ([8, 16, 11, 15, 0, 1, 2, 3, 4, 5, 6, 7, 8, 9, 10, 11, 12, 13, 14, 15], [8, 11, 16])])
def rg10_10.B : List Nat := [0, 1, 3, 7, 0, 0, 32, 96, 224, 0, 0, 0, 511, 4607, 13823, 30719, 63487, 131071]
theorem rg10_10.tab : rtab .any (opsOf Try.f10 10) = rg10_10.T := by kernel_rfl
theorem rg10_10.bits : waitsOk rg10_10.T.2 rg10_10.B = true := by kernel_rfl
def rg10_11.T : Bool × List (List Nat × List Nat) := (true, [([], []), ([0], [0]), ([1], [1]), ([2], [2]), ([], []), ([4], [4]), ([3, 5], [3, 5]), ([6], [6]), ([7], [7]), ([3, 5, 0, 1, 2, 3, 4, 5, 6, 7, 8], [3, 5]), ([9, 8, 0, 1, 2, 3, 4, 5, 6, 7, 8], [8, 9])])
def rg10_11.B : List Nat := [0, 1, 3, 7, 0, 16, 63, 127, 255, 511, 1023]
theorem rg10_11.tab : rtab .any (opsOf Try.f10 11) = rg10_11.T := by kernel_rfl
theorem rg10_11.bits : waitsOk rg10_11.T.2 rg10_11.B = true := by kernel_rfl
theorem dropS_co {s : WS} {k : Int} : (dropS s k).ca ≤ s.ca ∧ (dropS s k).co ≤ s.co := by
  unfold dropS
  cases s.at_ k with
  | none => exact ⟨Nat.le_refl _, Nat.le_refl _⟩
  | some p => exact ⟨Nat.sub_le _ _, Nat.sub_le _ _⟩
set_option maxHeartbeats 16000000 in
theorem put_any (k a b : Int) (hk : I64 k) (ha : I64 a) (hb : I64 b) {base : Nat} {w : World} {g B P L : Nat} {s : WS} {bm bo bl cap : Nat} (h : WAt base w g B P L s bm bo bl cap) (hs : WOk B P L s) (hin : WIn B P L) :
    Calls Try.prog 10 #[.pointer (some ⟨g, 0, none⟩), .int .i64 k, .agg #[.int .i64 a, .int .i64 b]] w fun e w' => e = .returned (.int .i64 (putE B P L s k (a, b))) ∧ WAt base w' g B P L (putS B P L s k (a, b)) bm bo bl cap ∧ Touch (wT bm bo bl) w w' := by
  have HS := Lib.hid hs; clear hs
  have HIn := Lib.hid hin; clear hin
  have HI := Lib.hid (And.intro hk (And.intro ha hb)); clear hk ha hb
  have HBs := Lib.hid (show base ≤ w.heap.size from Nat.le_trans h.b1.1 (Nat.le_of_lt (blk_lt h.box)))
  have hal := below_alloc (Below.refl w.heap.size w) (.cells #[.int .i64 a, .int .i64 b] 30)
  have HX := Lib.hid (heap_alloc_new w (.cells #[.int .i64 a, .int .i64 b] 30))
  have HB := Lib.hid ((Touch.refl (wT bm bo bl) w).alloc (.cells #[.int .i64 a, .int .i64 b] 30))
  have HNg := Lib.hid (show w.heap.size ≠ g ∧ w.heap.size ≠ bl ∧ base ≤ w.heap.size from ⟨fun e => Nat.lt_irrefl _ (e ▸ blk_lt h.box), by obtain ⟨cur, q1, _⟩ := h.lv; exact fun e => Nat.lt_irrefl _ (e ▸ blk_lt q1), HBs.out⟩)
  have HXn := Lib.hid (show ¬ wT bm bo bl w.heap.size from fun e => e.elim (fun e => Nat.ne_of_gt h.mat.lt e) (fun e => e.elim (fun e => Nat.ne_of_gt h.mow.lt e) (fun e => HNg.out.2.1 e)))
  have H := Lib.hid (h.below hal); clear h hal
  obtain ⟨ce, hce⟩ : ∃ ce, chkE L k = ce := ⟨_, rfl⟩
  have hck := check_ok k H.out
  rw [hce] at hck
  have HCk := Lib.hid hck; clear hck
  go_enter Try.func10, Try.ntmps10
  go_wp2_with fail
  generalize w.alloc (.cells #[.int .i64 a, .int .i64 b] 30) = wx at HX HB H HCk ⊢
  refine HCk.out.mono ?_
  rintro e wy ⟨rfl, rfl⟩
  clear HCk
  by_cases hc : ce = 0
  · subst hc
    have HC := Lib.hid hce
    have HK := Lib.hid (show 0 ≤ k ∧ k < (L : Int) by
      unfold chkE at hce
      by_cases e : k < 0 ∨ (L : Int) ≤ k
      · rw [if_pos e] at hce; exact absurd hce (by decide)
      · omega)
    clear hce
    obtain ⟨x0, x1⟩ := w2_cells HX.out
    go_wp2_with fail
    refine (is_ok a b H.out).mono ?_
    rintro e wy ⟨rfl, hd⟩
    replace HX := Lib.hid (blk_below HX.out hd)
    replace H := Lib.hid (H.out.below hd)
    replace HB := Lib.hid (HB.out.then_ hd); clear hd x0 x1
    obtain ⟨x0, x1⟩ := w2_cells HX.out
    cases hip : isP B P (a, b) with
    | false =>
      have HE := Lib.hid (show putE B P L s k (a, b) = 3 by
        unfold putE
        rw [if_neg (by have := HK.out; omega), if_pos (of_decide_eq_false hip)])
      clear hip
      go_wp2
      go_ret
      exact ⟨by rw [HE.out]; rfl, by unfold putS; rw [if_neg (by rw [HE.out]; decide)]; exact H.out, HB.out⟩
    | true =>
      have HP := Lib.hid (show 0 ≤ a ∧ a < B ∧ 0 ≤ b ∧ b < P from of_decide_eq_true hip); clear hip
      go_wp2_with fail
      refine (owner_ok a b HI.out.2.1 HI.out.2.2 H.out).mono ?_
      rintro e wy ⟨rfl, hd⟩
      replace HX := Lib.hid (blk_below HX.out hd)
      replace H := Lib.hid (H.out.below hd)
      replace HB := Lib.hid (HB.out.then_ hd); clear hd x0 x1
      obtain ⟨x0, x1⟩ := w2_cells HX.out
      have hE : putE B P L s k (a, b) = match s.ow (a, b) with | none => 0 | some j => if j = k then 0 else 16 := by
        unfold putE
        rw [if_neg (by have := HK.out; omega), if_neg (fun e => e HP.out)]
        try rfl
      by_cases hfree : s.ow (a, b) = none ∨ s.ow (a, b) = some k
      · have HE := Lib.hid (show putE B P L s k (a, b) = 0 by
          rw [hE]
          rcases hfree with e | e <;> rw [e]
          exact if_pos rfl)
        have HFr := Lib.hid hfree
        have HS1 := Lib.hid (dropS_ok HS.out k)
        have HPS := Lib.hid (show putS B P L s k (a, b) = addS (dropS s k) k (a, b) by unfold putS; rw [if_pos HE.out])
        have hcs := @dropS_co s k
        have hca := HS.out.ca
        have hct := count_le L (isAt s.at_)
        have HCa := Lib.hid (show (dropS s k).ca < maxLen by have := HIn.out.l.2; unfold maxLen; omega)
        have HCo := Lib.hid (show (dropS s k).co < maxLen by have := HIn.out.l.2; have := HS.out.co; unfold maxLen; omega)
        have HNo := Lib.hid (dropS_ow HS.out k (a, b) hfree)
        have HNa := Lib.hid (dropS_none k HS.out)
        have hdr := drop_any k H.out HS.out HIn.out
        rw [HC.out, if_pos rfl] at hdr
        have HDr := Lib.hid hdr; clear hdr hcs hca hct hE
        have hob : (s.ow (a, b) = none ∧ ownE s (a, b) = -1) ∨ (s.ow (a, b) = some k ∧ k = ownE s (a, b) ∧ (k != -1) = true ∧ (k == -1) = false) := by
          rcases hfree with e | e
          · exact .inl ⟨e, by unfold ownE; rw [e]⟩
          · have := HK.out.1
            exact .inr ⟨e, by unfold ownE; rw [e], by simp; omega, by simp; omega⟩
        clear hfree
        generalize ownE s (a, b) = oo at hob ⊢
        generalize dropS s k = s1 at HS1 HPS HCa HCo HNo HNa HDr
        rcases hob with ⟨_, rfl⟩ | ⟨_, rfl, q1, q2⟩
        all_goals
          go_wp2_with fail
          refine HDr.out.mono ?_
          rintro e w5 ⟨rfl, h5, hd⟩
          replace HX := Lib.hid (hd.blk HX.out HXn.out)
          replace HB := Lib.hid (HB.out.trans hd)
          have H5 := Lib.hid h5; clear h5 hd x0 x1 HDr
          try clear q1 q2
          go_wp2_with fail
          have HM := Lib.hid (show MapV Try.prog 3 (fun k : Int => Value.int .i64 k) I64 w5.drew bm s1.ca (fun k => (s1.at_ k).map ekP) from H5.out.mat)
          have HO := Lib.hid (show MapV Try.prog 30 ekP okP w5.drew bo s1.co (fun p => (s1.ow p).map encI) from H5.out.mow)
          have HL := Lib.hid (show LiveAt w5.drew bl s1.live from H5.out.lv)
          have hgm : g ≠ bm := map_ne H5.out.mat H5.out.box
          have hXm : w.heap.size ≠ bm := map_ne H5.out.mat HX.out
          have hlm : bl ≠ bm := by obtain ⟨cur, q1, _⟩ := H5.out.lv; exact map_ne H5.out.mat q1
          have hgo : g ≠ bo := map_ne H5.out.mow H5.out.box
          have hXo : w.heap.size ≠ bo := map_ne H5.out.mow HX.out
          have hlo : bl ≠ bo := by obtain ⟨cur, q1, _⟩ := H5.out.lv; exact map_ne H5.out.mow q1
          have HNe := Lib.hid (And.intro hgm (And.intro hXm (And.intro hlm (And.intro hgo (And.intro hXo hlo))))); clear hgm hXm hlm hgo hXo hlo
          replace HB := Lib.hid (show Touch (wT bm bo bl) w w5.drew from HB.out.drew)
          have HOk := Lib.hid (show okP (a, b) from HI.out.2)
          generalize w.heap.size = bx at HX HNe HXn ⊢
          have hS : w5.drew.heap[bx]? = some (.cells #[.int .i64 a, .int .i64 b] 30 (0, 0)) ∧ w5.drew.heap[g]? = some (.cells #[.int .i64 (B : Int), .int .i64 (P : Int), .int .i64 (L : Int), .map (some bm), .map (some bo), .slice (some ⟨bl, 0, none⟩) B cap] 63 (0, 0)) := ⟨HX.out, H5.out.box⟩
          refine start_ (n := 18) (S := fun w' => w'.heap[bx]? = some (.cells #[.int .i64 a, .int .i64 b] 30 (0, 0)) ∧ w'.heap[g]? = some (.cells #[.int .i64 (B : Int), .int .i64 (P : Int), .int .i64 (L : Int), .map (some bm), .map (some bo), .slice (some ⟨bl, 0, none⟩) B cap] 63 (0, 0))) (ds := []) #[false, false, false, false, false, false, false, false, false, false, false, false, false, false, false, false, false, false] (by kernel_rfl) rfl rfl hS (fun hHeld => ?_)
          refine with_tabW rg10_10.tab rg10_10.bits (fun HT_ HW_ => ?_)
          generalize w5.drew = w' at HB HM HO HL hHeld ⊢
          refine pure_ (i := 0) (N := some 32) (v := ?_) (a' := ?_) #[true, false, false, false, false, false, false, false, false, false, false, false, false, false, false, false, false, false] rfl rfl (any_of HT_.out (by kernel_rfl)) (fun _ _ _ h => h) (Or.inl ⟨by rfl, ?_⟩) ?_ ?_
          rotate_left
          · intro w'
            go_simp
            try with_reducible rfl
          rotate_left
          · simp (maxSteps := 4000000) only [Act.put, List.setIfInBounds_toArray, List.set_cons_zero, List.set_cons_succ, i64_w, i32_w]
            try rfl
          refine pure_ (i := 1) (N := some 33) (v := ?_) (a' := ?_) #[true, true, false, false, false, false, false, false, false, false, false, false, false, false, false, false, false, false] rfl rfl (any_of HT_.out (by kernel_rfl)) (fun _ _ _ h => h) (Or.inl ⟨by rfl, ?_⟩) ?_ ?_
          rotate_left
          · intro w'
            go_simp
            try with_reducible rfl
          rotate_left
          · simp (maxSteps := 4000000) only [Act.put, List.setIfInBounds_toArray, List.set_cons_zero, List.set_cons_succ, i64_w, i32_w]
            try rfl
          refine pure_ (i := 2) (N := some 34) (v := ?_) (a' := ?_) #[true, true, true, false, false, false, false, false, false, false, false, false, false, false, false, false, false, false] rfl rfl (any_of HT_.out (by kernel_rfl)) (fun _ _ _ h => h) (Or.inl ⟨by rfl, ?_⟩) ?_ ?_
          rotate_left
          · intro w'
            go_simp
            try with_reducible rfl
          rotate_left
          · simp (maxSteps := 4000000) only [Act.put, List.setIfInBounds_toArray, List.set_cons_zero, List.set_cons_succ, i64_w, i32_w]
            try rfl
          refine pure_ (i := 4) (N := some 36) (v := ?_) (a' := ?_) #[true, true, true, false, true, false, false, false, false, false, false, false, false, false, false, false, false, false] rfl rfl (any_of HT_.out (by kernel_rfl)) (fun _ _ _ h => h) (Or.inl ⟨by rfl, ?_⟩) ?_ ?_
          rotate_left
          · intro w'
            go_simp
            try with_reducible rfl
          rotate_left
          · simp (maxSteps := 4000000) only [Act.put, List.setIfInBounds_toArray, List.set_cons_zero, List.set_cons_succ, i64_w, i32_w]
            try rfl
          refine pure_ (i := 5) (N := some 37) (v := ?_) (a' := ?_) #[true, true, true, false, true, true, false, false, false, false, false, false, false, false, false, false, false, false] rfl rfl (any_of HT_.out (by kernel_rfl)) (fun _ _ _ h => h) (Or.inl ⟨by rfl, ?_⟩) ?_ ?_
          rotate_left
          · intro w'
            go_simp
            try with_reducible rfl
          rotate_left
          · simp (maxSteps := 4000000) only [Act.put, List.setIfInBounds_toArray, List.set_cons_zero, List.set_cons_succ, i64_w, i32_w]
            try rfl
          refine pure_ (i := 6) (N := some 38) (v := ?_) (a' := ?_) #[true, true, true, false, true, true, true, false, false, false, false, false, false, false, false, false, false, false] rfl rfl (any_of HT_.out (by kernel_rfl)) (fun _ _ _ h => h) (Or.inl ⟨by rfl, ?_⟩) ?_ ?_
          rotate_left
          · intro w'
            go_simp
            try with_reducible rfl
          rotate_left
          · simp (maxSteps := 4000000) only [Act.put, List.setIfInBounds_toArray, List.set_cons_zero, List.set_cons_succ, i64_w, i32_w]
            try rfl
          refine pure_ (i := 7) (N := some 39) (v := ?_) (a' := ?_) #[true, true, true, false, true, true, true, true, false, false, false, false, false, false, false, false, false, false] rfl rfl (any_of HT_.out (by kernel_rfl)) (fun _ _ _ h => h) (Or.inl ⟨by rfl, ?_⟩) ?_ ?_
          rotate_left
          · intro w'
            go_simp
            try with_reducible rfl
          rotate_left
          · simp (maxSteps := 4000000) only [Act.put, List.setIfInBounds_toArray, List.set_cons_zero, List.set_cons_succ, i64_w, i32_w]
            try rfl
          refine pure_ (i := 11) (N := some 43) (v := ?_) (a' := ?_) #[true, true, true, false, true, true, true, true, false, false, false, true, false, false, false, false, false, false] rfl rfl (any_of HT_.out (by kernel_rfl)) (fun _ _ _ h => h) (Or.inl ⟨by rfl, ?_⟩) ?_ ?_
          rotate_left
          · intro w'
            go_simp
            try with_reducible rfl
          rotate_left
          · simp (maxSteps := 4000000) only [Act.put, List.setIfInBounds_toArray, List.set_cons_zero, List.set_cons_succ, i64_w, i32_w]
            try rfl
          refine take_ (i := 3) (N := some 35) (v := ?_) (a' := ?_) #[true, true, true, true, true, true, true, true, false, false, false, true, false, false, false, false, false, false] rfl rfl (take_ofW HT_.out HW_.out (by kernel_rfl)) (fun _ _ _ h => h) (Or.inl ⟨by rfl, ?_⟩) hHeld ?_ ?_
          rotate_left
          · intro w' hw_
            try dsimp only at hw_
            obtain ⟨c0, c1, c2, c3, c4, c5⟩ := w6_cells hw_.2
            go_simp
            try with_reducible rfl
          rotate_left
          · simp (maxSteps := 4000000) only [Act.put, List.setIfInBounds_toArray, List.set_cons_zero, List.set_cons_succ, i64_w, i32_w]
            try rfl
          refine take_ (i := 8) (N := some 40) (v := ?_) (a' := ?_) #[true, true, true, true, true, true, true, true, true, false, false, true, false, false, false, false, false, false] rfl rfl (take_ofW HT_.out HW_.out (by kernel_rfl)) (fun _ _ _ h => h) (Or.inl ⟨by rfl, ?_⟩) hHeld ?_ ?_
          rotate_left
          · intro w' hw_
            try dsimp only at hw_
            obtain ⟨c0, c1, c2, c3, c4, c5⟩ := w6_cells hw_.2
            go_simp
            try with_reducible rfl
          rotate_left
          · simp (maxSteps := 4000000) only [Act.put, List.setIfInBounds_toArray, List.set_cons_zero, List.set_cons_succ, i64_w, i32_w]
            try rfl
          refine take_ (i := 9) (N := some 41) (v := ?_) (a' := ?_) #[true, true, true, true, true, true, true, true, true, true, false, true, false, false, false, false, false, false] rfl rfl (take_ofW HT_.out HW_.out (by kernel_rfl)) (fun _ _ _ h => h) (Or.inl ⟨by rfl, ?_⟩) hHeld ?_ ?_
          rotate_left
          · intro w' hw_
            try dsimp only at hw_
            obtain ⟨g0, g1⟩ := w2_cells hw_.1
            go_simp
            try with_reducible rfl
          rotate_left
          · simp (maxSteps := 4000000) only [Act.put, List.setIfInBounds_toArray, List.set_cons_zero, List.set_cons_succ, i64_w, i32_w]
            try rfl
          refine take_ (i := 10) (N := some 42) (v := ?_) (a' := ?_) #[true, true, true, true, true, true, true, true, true, true, true, true, false, false, false, false, false, false] rfl rfl (take_ofW HT_.out HW_.out (by kernel_rfl)) (fun _ _ _ h => h) (Or.inl ⟨by rfl, ?_⟩) hHeld ?_ ?_
          rotate_left
          · intro w' hw_
            try dsimp only at hw_
            obtain ⟨g0, g1⟩ := w2_cells hw_.1
            go_simp
            try with_reducible rfl
          rotate_left
          · simp (maxSteps := 4000000) only [Act.put, List.setIfInBounds_toArray, List.set_cons_zero, List.set_cons_succ, i64_w, i32_w]
            try rfl
          refine one_ (i := 12) (N := some 44) #[true, true, true, true, true, true, true, true, true, true, true, true, true, false, false, false, false, false] rfl rfl (one_of HT_.out (by kernel_rfl)) (by decide) (fun K hK => ?_)
          obtain ⟨v1, st1, w', hr, hp, hg⟩ := MapV.entry keyN HM.out Try.underlying60 zeroPl HCa.out k HI.out.1
          refine value_ (v := .tuple #[v1, goInt st1]) (w1 := w') (by rfl) rfl (entry_exec rfl (by rfl) (by rfl) hr) ?_
          clear hr
          have hSS := And.intro (blk_grown hg hHeld.1 HNe.out.2.1) (blk_grown hg hHeld.2 HNe.out.1)
          replace HB := Lib.hid (HB.out.grown hg (fun j hj => by injection hj with hj; subst hj; exact .inl (.inl rfl)))
          (try replace HO := Lib.hid (HO.out.kept hg (by intro e; injection e with e; exact H5.out.ne.1 e.symm)))
          (try replace HOp := Lib.hid (HOp.out.kept hg (by intro e; injection e with e; exact H5.out.ne.1 e.symm)))
          replace HL := Lib.hid (HL.out.grown hg HNe.out.2.2.1)
          have HMp := Lib.hid hp
          clear hp hg HM
          refine hK.out _ _ (hSS) (fun hHeld => ?_)
          clear hK K
          refine norm_ (a' := ?_) ?_ ?_
          rotate_left
          · show Act.put _ (some 44) _ = _
            simp (maxSteps := 4000000) only [Act.put, List.setIfInBounds_toArray, List.set_cons_zero, List.set_cons_succ, i64_w, i32_w]
            try rfl
          refine pure_ (i := 13) (N := some 45) (v := ?_) (a' := ?_) #[true, true, true, true, true, true, true, true, true, true, true, true, true, true, false, false, false, false] rfl rfl (any_of HT_.out (by kernel_rfl)) (fun _ _ _ h => h) (Or.inl ⟨by rfl, ?_⟩) ?_ ?_
          rotate_left
          · intro w'
            go_simp
            try with_reducible rfl
          rotate_left
          · simp (maxSteps := 4000000) only [Act.put, List.setIfInBounds_toArray, List.set_cons_zero, List.set_cons_succ, i64_w, i32_w]
            try rfl
          refine one_ (i := 14) (N := none) #[true, true, true, true, true, true, true, true, true, true, true, true, true, true, true, false, false, false] rfl rfl (one_of HT_.out (by kernel_rfl)) (by decide) (fun K hK => ?_)
          obtain ⟨o1, ho1, ho2⟩ := HMp.out
          obtain ⟨w', hr, hm3, hg⟩ := ho2 _ (.agg #[.int .i64 a, .int .i64 b]) ho1
          clear ho1 ho2
          refine skip_ (w1 := w') (by rfl) rfl ?_ ?_
          · exact estore_exec rfl (by rfl) (by rfl) (by rfl) hr
          clear hr
          have hSS := And.intro (blk_grown hg hHeld.1 HNe.out.2.1) (blk_grown hg hHeld.2 HNe.out.1)
          replace HB := Lib.hid (HB.out.grown hg (fun j hj => by injection hj with hj; subst hj; exact .inl (.inl rfl)))
          (try replace HO := Lib.hid (HO.out.kept hg (by intro e; injection e with e; exact H5.out.ne.1 e.symm)))
          (try replace HOp := Lib.hid (HOp.out.kept hg (by intro e; injection e with e; exact H5.out.ne.1 e.symm)))
          replace HL := Lib.hid (HL.out.grown hg HNe.out.2.2.1)
          have HM := Lib.hid hm3
          clear hm3 hg HMp
          refine hK.out _ _ (hSS) (fun hHeld => ?_)
          clear hK K
          refine one_ (i := 15) (N := some 46) #[true, true, true, true, true, true, true, true, true, true, true, true, true, true, true, true, false, false] rfl rfl (one_of HT_.out (by kernel_rfl)) (by decide) (fun K hK => ?_)
          obtain ⟨v2, st2, w', hr, hp, hg⟩ := MapV.entry keyP HO.out Try.underlying61 zeroInt HCo.out (a, b) HOk.out
          refine value_ (v := .tuple #[v2, goInt st2]) (w1 := w') (by rfl) rfl (entry_exec rfl (by rfl) (by rfl) hr) ?_
          clear hr
          have hSS := And.intro (blk_grown hg hHeld.1 HNe.out.2.2.2.2.1) (blk_grown hg hHeld.2 HNe.out.2.2.2.1)
          replace HB := Lib.hid (HB.out.grown hg (fun j hj => by injection hj with hj; subst hj; exact .inl (.inr (.inl rfl))))
          (try replace HM := Lib.hid (HM.out.kept hg (by intro e; injection e with e; exact H5.out.ne.1 e)))
          (try replace HMp := Lib.hid (HMp.out.kept hg (by intro e; injection e with e; exact H5.out.ne.1 e)))
          replace HL := Lib.hid (HL.out.grown hg HNe.out.2.2.2.2.2)
          have HOp := Lib.hid hp
          clear hp hg HO
          refine hK.out _ _ (hSS) (fun hHeld => ?_)
          clear hK K
          refine norm_ (a' := ?_) ?_ ?_
          rotate_left
          · show Act.put _ (some 46) _ = _
            simp (maxSteps := 4000000) only [Act.put, List.setIfInBounds_toArray, List.set_cons_zero, List.set_cons_succ, i64_w, i32_w]
            try rfl
          refine pure_ (i := 16) (N := some 47) (v := ?_) (a' := ?_) #[true, true, true, true, true, true, true, true, true, true, true, true, true, true, true, true, true, false] rfl rfl (any_of HT_.out (by kernel_rfl)) (fun _ _ _ h => h) (Or.inl ⟨by rfl, ?_⟩) ?_ ?_
          rotate_left
          · intro w'
            go_simp
            try with_reducible rfl
          rotate_left
          · simp (maxSteps := 4000000) only [Act.put, List.setIfInBounds_toArray, List.set_cons_zero, List.set_cons_succ, i64_w, i32_w]
            try rfl
          refine one_ (i := 17) (N := none) #[true, true, true, true, true, true, true, true, true, true, true, true, true, true, true, true, true, true] rfl rfl (one_of HT_.out (by kernel_rfl)) (by decide) (fun K hK => ?_)
          obtain ⟨o1, ho1, ho2⟩ := HOp.out
          obtain ⟨w', hr, hm3, hg⟩ := ho2 _ (.int .i64 k) ho1
          clear ho1 ho2
          refine skip_ (w1 := w') (by rfl) rfl ?_ ?_
          · exact estore_exec rfl (by rfl) (by rfl) (by rfl) hr
          clear hr
          have hSS := And.intro (blk_grown hg hHeld.1 HNe.out.2.2.2.2.1) (blk_grown hg hHeld.2 HNe.out.2.2.2.1)
          replace HB := Lib.hid (HB.out.grown hg (fun j hj => by injection hj with hj; subst hj; exact .inl (.inr (.inl rfl))))
          (try replace HM := Lib.hid (HM.out.kept hg (by intro e; injection e with e; exact H5.out.ne.1 e)))
          (try replace HMp := Lib.hid (HMp.out.kept hg (by intro e; injection e with e; exact H5.out.ne.1 e)))
          replace HL := Lib.hid (HL.out.grown hg HNe.out.2.2.2.2.2)
          have HO := Lib.hid hm3
          clear hm3 hg HOp
          refine hK.out _ _ (hSS) (fun hHeld => ?_)
          clear hK K
          refine done_ (done_of HT_.out (by kernel_rfl)) ?_
          clear hS
          have HS2 := Lib.hid hHeld; clear hHeld
          have HM2 := Lib.hid (show MapV Try.prog 3 (fun k : Int => Value.int .i64 k) I64 w' bm (s1.ca + 1) (fun j => ((addS s1 k (a, b)).at_ j).map ekP) by
            have q := HM.out
            simp only [HNa.out, Option.map_none, Option.isSome_none, Bool.false_eq_true, if_false] at q
            exact q.congr (fun j _ => by unfold addS; by_cases e : j = k <;> simp [e, ekP]))
          have HO2 := Lib.hid (show MapV Try.prog 30 ekP okP w' bo (s1.co + 1) (fun q => ((addS s1 k (a, b)).ow q).map encI) by
            have q := HO.out
            simp only [HNo.out, Option.map_none, Option.isSome_none, Bool.false_eq_true, if_false] at q
            exact q.congr (fun j _ => by unfold addS; by_cases e : j = (a, b) <;> simp [e, encI]))
          clear HM HO
          obtain ⟨n, hn⟩ : ∃ n : Nat, a = (n : Int) := ⟨a.toNat, by have := HP.out.1; omega⟩
          have hnb : n < B := by have := HP.out.2.1; omega
          have hnB : n < s1.live.length := by rw [HS1.out.len]; exact hnb
          have hlv := HS1.out.lv n hnb
          have hct := count_le L (inB s1.at_ n)
          obtain ⟨v, hv0, hv1, hv2⟩ : ∃ v : Int, s1.live.getD n 0 = v ∧ 0 ≤ v ∧ v ≤ 4096 := by
            refine ⟨_, rfl, ?_, ?_⟩
            · rw [List.getD_eq_getElem?_getD, hlv]; simp only [Option.getD_some]; omega
            · rw [List.getD_eq_getElem?_getD, hlv]; simp only [Option.getD_some]; have := HIn.out.l.2; omega
          obtain ⟨hcl, hfr⟩ := HL.out.cell hnB
          rw [hv0] at hcl
          have hw1 : wrap64 (v + 1) = v + 1 := by clear hlv hct; unfold wrap64; omega
          have j1 : ((0 : Int) ≤ (n : Int)) = True := eq_true (by omega)
          have j2 : ((n : Int) < (B : Int)) = True := eq_true (by omega)
          have j3 : (n < B) = True := eq_true hnb
          have j4 : decide (n < B) = true := decide_eq_true hnb
          subst hn
          have HD := Lib.hid (show (addS s1 k ((n : Int), b)).live = s1.live.set n (v + 1) by unfold addS; dsimp only; rw [show ((n : Int)).toNat = n from rfl, hv0])
          have HnB := Lib.hid hnB
          clear hv0 hnB hnb hlv hct
          replace HB := Lib.hid (show Touch (wT bm bo bl) w w'.drew from HB.out.drew)
          replace HM2 := Lib.hid (show MapV Try.prog 3 (fun k : Int => Value.int .i64 k) I64 w'.drew bm (s1.ca + 1) (fun j => ((addS s1 k ((n : Int), b)).at_ j).map ekP) from HM2.out)
          replace HO2 := Lib.hid (show MapV Try.prog 30 ekP okP w'.drew bo (s1.co + 1) (fun q => ((addS s1 k ((n : Int), b)).ow q).map encI) from HO2.out)
          replace HL := Lib.hid (show LiveAt w'.drew bl s1.live from HL.out)
          have hF : w'.drew.frozen? ⟨bl, n, none⟩ = false := hfr
          have HFz := Lib.hid hF; clear hF hfr
          have hS : w'.drew.heap[bx]? = some (.cells #[.int .i64 (n : Int), .int .i64 b] 30 (0, 0)) ∧ w'.drew.heap[g]? = some (.cells #[.int .i64 (B : Int), .int .i64 (P : Int), .int .i64 (L : Int), .map (some bm), .map (some bo), .slice (some ⟨bl, 0, none⟩) B cap] 63 (0, 0)) ∧ w'.drew.cell? ⟨bl, n, none⟩ = some (.int .i64 v) := ⟨HS2.out.1, HS2.out.2, hcl⟩
          clear hcl
          go_wp2_with fail
          refine start_ (n := 11) (S := fun w' => w'.heap[bx]? = some (.cells #[.int .i64 (n : Int), .int .i64 b] 30 (0, 0)) ∧ w'.heap[g]? = some (.cells #[.int .i64 (B : Int), .int .i64 (P : Int), .int .i64 (L : Int), .map (some bm), .map (some bo), .slice (some ⟨bl, 0, none⟩) B cap] 63 (0, 0)) ∧ w'.cell? ⟨bl, n, none⟩ = some (.int .i64 v)) (ds := [10]) #[false, false, false, false, false, false, false, false, false, false, false] (by kernel_rfl) rfl rfl hS (fun hHeld => ?_)
          refine with_tabW rg10_11.tab rg10_11.bits (fun HT_ HW_ => ?_)
          generalize w'.drew = w' at HB HM2 HO2 HL HFz hHeld ⊢
          refine pure_ (i := 0) (N := some 48) (v := ?_) (a' := ?_) #[true, false, false, false, false, false, false, false, false, false, false] rfl rfl (any_of HT_.out (by kernel_rfl)) (fun _ _ _ h => h) (Or.inl ⟨by rfl, ?_⟩) ?_ ?_
          rotate_left
          · intro w'
            go_simp
            try with_reducible rfl
          rotate_left
          · simp (maxSteps := 4000000) only [Act.put, List.setIfInBounds_toArray, List.set_cons_zero, List.set_cons_succ, i64_w, i32_w]
            try rfl
          refine pure_ (i := 1) (N := some 49) (v := ?_) (a' := ?_) #[true, true, false, false, false, false, false, false, false, false, false] rfl rfl (any_of HT_.out (by kernel_rfl)) (fun _ _ _ h => h) (Or.inl ⟨by rfl, ?_⟩) ?_ ?_
          rotate_left
          · intro w'
            go_simp
            try with_reducible rfl
          rotate_left
          · simp (maxSteps := 4000000) only [Act.put, List.setIfInBounds_toArray, List.set_cons_zero, List.set_cons_succ, i64_w, i32_w]
            try rfl
          refine pure_ (i := 2) (N := some 50) (v := ?_) (a' := ?_) #[true, true, true, false, false, false, false, false, false, false, false] rfl rfl (any_of HT_.out (by kernel_rfl)) (fun _ _ _ h => h) (Or.inl ⟨by rfl, ?_⟩) ?_ ?_
          rotate_left
          · intro w'
            go_simp
            try with_reducible rfl
          rotate_left
          · simp (maxSteps := 4000000) only [Act.put, List.setIfInBounds_toArray, List.set_cons_zero, List.set_cons_succ, i64_w, i32_w]
            try rfl
          refine pure_ (i := 4) (N := some 52) (v := ?_) (a' := ?_) #[true, true, true, false, true, false, false, false, false, false, false] rfl rfl (any_of HT_.out (by kernel_rfl)) (fun _ _ _ h => h) (Or.inl ⟨by rfl, ?_⟩) ?_ ?_
          rotate_left
          · intro w'
            go_simp
            try with_reducible rfl
          rotate_left
          · simp (maxSteps := 4000000) only [Act.put, List.setIfInBounds_toArray, List.set_cons_zero, List.set_cons_succ, i64_w, i32_w]
            try rfl
          refine take_ (i := 3) (N := some 51) (v := ?_) (a' := ?_) #[true, true, true, true, true, false, false, false, false, false, false] rfl rfl (take_ofW HT_.out HW_.out (by kernel_rfl)) (fun _ _ _ h => h) (Or.inl ⟨by rfl, ?_⟩) hHeld ?_ ?_
          rotate_left
          · intro w' hw_
            try dsimp only at hw_
            obtain ⟨c0, c1, c2, c3, c4, c5⟩ := w6_cells hw_.2.1
            go_simp
            try with_reducible rfl
          rotate_left
          · simp (maxSteps := 4000000) only [Act.put, List.setIfInBounds_toArray, List.set_cons_zero, List.set_cons_succ, i64_w, i32_w]
            try rfl
          refine take_ (i := 5) (N := some 53) (v := ?_) (a' := ?_) #[true, true, true, true, true, true, false, false, false, false, false] rfl rfl (take_ofW HT_.out HW_.out (by kernel_rfl)) (fun _ _ _ h => h) (Or.inl ⟨by rfl, ?_⟩) hHeld ?_ ?_
          rotate_left
          · intro w' hw_
            try dsimp only at hw_
            obtain ⟨g0, g1⟩ := w2_cells hw_.1
            go_simp
            try with_reducible rfl
          rotate_left
          · simp (maxSteps := 4000000) only [Act.put, List.setIfInBounds_toArray, List.set_cons_zero, List.set_cons_succ, i64_w, i32_w]
            try rfl
          refine pure_ (i := 6) (N := some 54) (v := ?_) (a' := ?_) #[true, true, true, true, true, true, true, false, false, false, false] rfl rfl (any_of HT_.out (by kernel_rfl)) (fun _ _ _ h => h) (Or.inl ⟨by rfl, ?_⟩) ?_ ?_
          rotate_left
          · intro w'
            go_simp
            try with_reducible rfl
          rotate_left
          · simp (maxSteps := 4000000) only [Act.put, List.setIfInBounds_toArray, List.set_cons_zero, List.set_cons_succ, i64_w, i32_w]
            try rfl
          refine take_ (i := 7) (N := some 55) (v := ?_) (a' := ?_) #[true, true, true, true, true, true, true, true, false, false, false] rfl rfl (take_ofW HT_.out HW_.out (by kernel_rfl)) (fun _ _ _ h => h) (Or.inl ⟨by rfl, ?_⟩) hHeld ?_ ?_
          rotate_left
          · intro w' hw_
            try dsimp only at hw_
            have g2 := hw_.2.2
            go_simp
            try with_reducible rfl
          rotate_left
          · simp (maxSteps := 4000000) only [Act.put, List.setIfInBounds_toArray, List.set_cons_zero, List.set_cons_succ, i64_w, i32_w]
            try rfl
          refine pure_ (i := 8) (N := some 56) (v := ?_) (a' := ?_) #[true, true, true, true, true, true, true, true, true, false, false] rfl rfl (any_of HT_.out (by kernel_rfl)) (fun _ _ _ h => h) (Or.inl ⟨by rfl, ?_⟩) ?_ ?_
          rotate_left
          · intro w'
            go_simp
            try with_reducible rfl
          rotate_left
          · simp (maxSteps := 4000000) only [Act.put, List.setIfInBounds_toArray, List.set_cons_zero, List.set_cons_succ, i64_w, i32_w]
            try rfl
          refine pure_ (i := 9) (N := some 57) (v := ?_) (a' := ?_) #[true, true, true, true, true, true, true, true, true, true, false] rfl rfl (any_of HT_.out (by kernel_rfl)) (fun _ _ _ h => h) (Or.inl ⟨by rfl, ?_⟩) ?_ ?_
          rotate_left
          · intro w'
            go_simp
            try with_reducible rfl
          rotate_left
          · simp (maxSteps := 4000000) only [Act.put, List.setIfInBounds_toArray, List.set_cons_zero, List.set_cons_succ, i64_w, i32_w]
            try rfl
          refine last_ (i := 10) (N := none) #[true, true, true, true, true, true, true, true, true, true, true] rfl rfl (one_of HT_.out (by kernel_rfl)) (by decide) (fun K hK => ?_)
          refine skip_ (w1 := w'.setCell ⟨bl, n, none⟩ (.int .i64 (v + 1))) (by rfl) rfl ?_ ?_
          · (have g2 := hHeld.2.2; have g3 := HFz.out; go_simp)
          refine hK.out _ _ ?_
          clear hK K
          refine done_ (done_of HT_.out (by kernel_rfl)) ?_
          have HL2 := Lib.hid (HL.out.set HnB.out (v + 1))
          replace HB := Lib.hid (HB.out.set (g := bl) (i := n) (.inl (.inr (.inr rfl))) (.int .i64 (v + 1)))
          replace HM2 := Lib.hid (HM2.out.set (a := ⟨bl, n, none⟩) (fun e => HNe.out.2.2.1 e.symm) (.int .i64 (v + 1)))
          replace HO2 := Lib.hid (HO2.out.set (a := ⟨bl, n, none⟩) (fun e => HNe.out.2.2.2.2.2 e.symm) (.int .i64 (v + 1)))
          have HG2 := Lib.hid (set_other (i := n) hHeld.2.1 H5.out.ne.2.1 (.int .i64 (v + 1)))
          generalize w'.setCell ⟨bl, n, none⟩ (.int .i64 (v + 1)) = w9 at HL2 HB HM2 HO2 HG2 ⊢
          go_wp2
          go_ret
          refine ⟨by rw [HE.out]; rfl, ?_, HB.out⟩
          rw [HPS.out]
          exact ⟨H5.out.b1, H5.out.ne, HG2.out, HM2.out, HO2.out, by rw [HD.out]; exact HL2.out⟩
      · obtain ⟨j, hj⟩ : ∃ j, s.ow (a, b) = some j := by
          cases e : s.ow (a, b) with
          | none => exact absurd (.inl e) hfree
          | some j => exact ⟨j, rfl⟩
        have hjk : j ≠ k := fun e => hfree (.inr (by rw [hj, e]))
        have HE := Lib.hid (show putE B P L s k (a, b) = 16 by rw [hE, hj]; exact if_neg hjk)
        have hj0 := (HS.out.rng j (a, b) ((HS.out.inv j (a, b)).mpr hj)).1
        rw [show ownE s (a, b) = j by unfold ownE; rw [hj]]
        have e1 : (j != -1) = true := by simp; omega
        have e2 : (j != k) = true := by simp [hjk]
        have e3 : (j == k) = false := by simp [hjk]
        have e4 : (j == -1) = false := by simp; omega
        clear hE hfree hj hjk hj0
        go_wp2
        go_ret
        exact ⟨by rw [HE.out]; rfl, by unfold putS; rw [if_neg (by rw [HE.out]; decide)]; exact H.out, HB.out⟩
  · have e1 : (ce == 0) = false := by simp [hc]
    have e2 : (ce != 0) = true := by simp [hc]
    have e3 : decide (ce = 0) = false := decide_eq_false hc
    have HE := Lib.hid (show putE B P L s k (a, b) = ce ∧ ce ≠ 0 by
      refine ⟨?_, hc⟩
      unfold chkE at hce
      unfold putE
      by_cases e : k < 0 ∨ (L : Int) ≤ k
      · rw [if_pos e] at hce ⊢; exact hce
      · rw [if_neg e] at hce; exact absurd hce.symm hc)
    clear hc hce
    go_wp2
    go_ret
    exact ⟨by rw [HE.out.1]; rfl, by unfold putS; rw [if_neg (by rw [HE.out.1]; exact HE.out.2)]; exact H.out, HB.out⟩
end Go.Proofs.Ythapekmdnokniaa
