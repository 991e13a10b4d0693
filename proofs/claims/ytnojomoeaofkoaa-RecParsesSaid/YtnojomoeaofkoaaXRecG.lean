/- rec: Parse. No conditions beyond the form's own reach. -/
import Derived.Test.YtnojomoeaofkoaaXRecF
namespace Go.Proofs.Ytnojomoeaofkoaa
open Go.RowKit Go.Lib Go.Proofs.Ytnojomoeaofkoaa.P Go.Proofs.Ytnojomoeaofkoaa.BeS Go.Proofs.Ytnojomoeaofkoaa.PoS Go.Proofs.YtnojomoeaofkoaaW.PrintWords Go.Proofs.YtnojomoeaofkoaaW.PrintLast Go.Proofs.YtnojomoeaofkoaaW.PrintMore
set_option linter.unusedVariables false
set_option linter.unusedSimpArgs false
def rg14_8.T : Bool × List (List Nat × List Nat) := (true, [([], []), ([], []), ([1], [1]), ([0, 2], [0, 2]), ([], []), ([], []), ([5, 3], [5]), ([4, 6], [4, 6]), ([3, 6, 0, 1, 2, 3], [0, 3]), ([7, 8, 0, 1, 2, 3, 4, 5, 6, 7, 8], [4, 7])])
def rg14_8.B : List Nat := [0, 0, 2, 7, 0, 0, 47, 127, 111, 511]
theorem rg14_8.tab : rtab .any (opsOf Try.f14 8) = rg14_8.T := by kernel_rfl
theorem rg14_8.bits : waitsOk rg14_8.T.2 rg14_8.B = true := by kernel_rfl
def restR (s : ByteArray) : ByteArray := s.extract (7 + (firstR s).1.2.size) s.size
def parseF : Nat → ByteArray → List Rc × Int
  | 0, _ => ([], 0)
  | f + 1, s => if s.size = 0 then ([], 0) else if (firstR s).2 = 0 then (if (parseF f (restR s)).2 = 0 then ((firstR s).1 :: (parseF f (restR s)).1, 0) else ([], (parseF f (restR s)).2)) else ([], (firstR s).2)
def parseV (s : ByteArray) : List Rc × Int := parseF s.size s
def comb (done : List Rc) (p : List Rc × Int) : List Rc × Int := if p.2 = 0 then (done ++ p.1, 0) else ([], p.2)
theorem comb_step (done : List Rc) (f : Nat) (s : ByteArray) (h0 : s.size ≠ 0) (h1 : (firstR s).2 = 0) : comb done (parseF (f + 1) s) = comb (done ++ [(firstR s).1]) (parseF f (restR s)) := by
  unfold comb
  rw [parseF, if_neg h0, if_pos h1]
  by_cases h : (parseF f (restR s)).2 = 0
  · rw [if_pos h, if_pos rfl, if_pos h]; simp
  · rw [if_neg h, if_neg h, if_neg h]
theorem comb_bad (done : List Rc) (f : Nat) (s : ByteArray) (h0 : s.size ≠ 0) (h1 : (firstR s).2 ≠ 0) : comb done (parseF (f + 1) s) = ([], (firstR s).2) := by
  unfold comb
  rw [parseF, if_neg h0, if_neg h1, if_neg h1]
theorem comb_end (done : List Rc) (f : Nat) (s : ByteArray) (h0 : s.size = 0) : comb done (parseF f s) = (done, 0) := by
  unfold comb
  cases f with
  | zero => rw [parseF, if_pos rfl]; simp
  | succ f => rw [parseF, if_pos h0, if_pos rfl]; simp
theorem comb_nil (p : List Rc × Int) (h : p.2 ≠ 0 → p.1 = []) : comb [] p = p := by
  unfold comb
  by_cases h0 : p.2 = 0
  · rw [if_pos h0, List.nil_append, ← h0]
  · rw [if_neg h0, ← h h0]
theorem parseF_err (f : Nat) (s : ByteArray) (h : (parseF f s).2 ≠ 0) : (parseF f s).1 = [] := by
  cases f with
  | zero => rfl
  | succ f =>
    rw [parseF] at h ⊢
    by_cases h0 : s.size = 0
    · rw [if_pos h0]
    · rw [if_neg h0] at h ⊢
      by_cases h1 : (firstR s).2 = 0
      · rw [if_pos h1] at h ⊢
        by_cases h2 : (parseF f (restR s)).2 = 0
        · rw [if_pos h2] at h; exact absurd rfl h
        · rw [if_neg h2]
      · rw [if_neg h1]
theorem first_good (s : ByteArray) (h : (firstR s).2 = 0) : 7 + (firstR s).1.2.size ≤ s.size ∧ RcIn (firstR s).1 ∧ goodR (firstR s).1 = true ∧ recB (firstR s).1.1 (firstR s).1.2 = s.extract 0 (7 + (firstR s).1.2.size) := by
  unfold firstR at h ⊢
  by_cases h7 : s.size < 7
  · rw [if_pos h7] at h; exact absurd h (by decide)
  · rw [if_neg h7] at h ⊢
    by_cases hc : 2048 < lenR s ∨ kindR s = 0 ∨ s.size < 7 + lenR s
    · rw [if_pos hc] at h; exact absurd h (by decide)
    · rw [if_neg hc] at h ⊢
      by_cases he : recB (kindR s) (s.extract 3 (3 + lenR s)) = s.extract 0 (7 + lenR s)
      · rw [if_pos he]
        have hz : (s.extract 3 (3 + lenR s)).size = lenR s := by rw [ByteArray.size_extract]; omega
        show 7 + (s.extract 3 (3 + lenR s)).size ≤ s.size ∧ RcIn (kindR s, s.extract 3 (3 + lenR s)) ∧ goodR (kindR s, s.extract 3 (3 + lenR s)) = true ∧ recB (kindR s) (s.extract 3 (3 + lenR s)) = s.extract 0 (7 + (s.extract 3 (3 + lenR s)).size)
        rw [hz]
        refine ⟨by omega, ⟨kindR_lt s, by show (s.extract 3 (3 + lenR s)).size ≤ 4000; omega⟩, ?_, he⟩
        unfold goodR
        rw [decide_eq_true (show (kindR s, s.extract 3 (3 + lenR s)).1 ≠ 0 from fun e => hc (.inr (.inl e))), decide_eq_true (show (kindR s, s.extract 3 (3 + lenR s)).2.size ≤ 2048 by rw [hz]; omega)]
        rfl
      · rw [if_neg he] at h; exact absurd h (by decide)
theorem size_f (k : Nat) (b : ByteArray) (h : goodR (k, b) = true) (hb : b.size ≤ 4000) : rec_Record_Size.f (k : Int) b = some ((7 + b.size : Nat) : Int) := by
  unfold rec_Record_Size.f
  rw [right_f, h]
  simp only [Option.bind_some]
  first | rfl | (simp; unfold wrap64; omega)
theorem grown_keeps {w w' : World} {v : Value} {o : Obj} {b : Nat} (hg : w.grownBy w' v.ownBlock) (hb : w.heap[b]? = some o) (hK : ∀ k, v.ownBlock = some k → k < b) : w'.heap[b]? = some o :=
  (hg.block b (blk_lt hb) (fun e => Nat.lt_irrefl _ (hK b e.symm))).trans hb
/-- What the loop of Parse holds. -/
def ParseInv (s0 : ByteArray) (E W : Nat) (s out : Value) (w0 wr : World) : Prop :=
  ∃ (f : Nat) (x : ByteArray) (done : List Rc), s = .string x ∧ x.size ≤ f ∧ done.length * 7 + x.size ≤ s0.size ∧ parseV s0 = comb done (parseF f x) ∧ RcRow wr E W out done ∧ Below w0.heap.size w0 wr
set_option maxHeartbeats 8000000 in
set_option maxRecDepth 100000 in
theorem parse_ok (g : Nat) (s0 : ByteArray) (hs : s0.size ≤ 100000) (w : World) (ht : TabAt w g) :
    Calls Try.prog 14 #[.pointer (some ⟨g, 0, none⟩), .string s0] w fun e w' => ∃ v, e = .returned (.tuple #[v, .int .i64 (parseV s0).2]) ∧ RcRow w' 38 w.heap.size v (parseV s0).1 ∧ Below w.heap.size w w' := by
  have HT := Lib.hid ht; clear ht
  have HS := Lib.hid hs; clear hs
  go_enter Try.func14, Try.ntmps14
  go_wp2_with fail
  go_loopw [1, 6] (fun s out wr => ParseInv s0 38 w.heap.size s out w wr) (fun s _ _ => match s with | .string b => b.size | _ => 0)
  case atStart => exact ⟨s0.size, s0, [], rfl, Nat.le_refl _, by simp, (comb_nil _ (parseF_err _ _)).symm, World.ownsRow_nil _ _ _ _, Below.refl _ _⟩
  case round =>
    obtain ⟨f, x, done, rfl, hf, hd, hp, h1, h2⟩ := hrel
    have HP := Lib.hid hp; clear hp
    have HR := Lib.hid h1; clear h1
    have HB := Lib.hid h2; clear h2
    have HF := Lib.hid (And.intro hf hd); clear hf hd
    by_cases h0 : x.size = 0
    · have he : x = ⟨#[]⟩ := by cases x with | mk a => congr; exact Array.eq_empty_of_size_eq_zero h0
      have HV := Lib.hid (HP.out.trans (comb_end done f x h0))
      subst he
      clear h0
      go_wp2
      go_ret2
      exact ⟨_, by rw [HV.out]; rfl, by rw [HV.out]; exact HR.out, HB.out⟩
    · have q1 : x.toList.isEmpty = false := by
        cases hq : x.toList.isEmpty with
        | false => rfl
        | true => exact absurd (by rw [List.isEmpty_iff, BeS.toList_data] at hq; have := congrArg List.length hq; rw [Array.length_toList] at this; exact this) h0
      have q2 : (x.toList == []) = false := by rw [← q1]; cases x.toList <;> rfl
      obtain ⟨f, rfl⟩ : ∃ m, f = m + 1 := ⟨f - 1, by have := HF.out.1; omega⟩
      obtain ⟨fr, hfr⟩ : ∃ fr, firstR x = fr := ⟨_, rfl⟩
      have HFg := Lib.hid (first_good x)
      have HCb := Lib.hid (comb_bad done f x h0)
      have HCs := Lib.hid (comb_step done f x h0)
      have HRs := Lib.hid (show restR x = x.extract (7 + (firstR x).1.2.size) x.size from rfl)
      have HX := Lib.hid (first_ok g x (by have := HF.out.2; have := HS.out; omega) wr (HT.out.below HB.out))
      rw [hfr] at HFg HCb HCs HRs HX
      clear hfr h0
      obtain ⟨⟨k, b⟩, er⟩ := fr
      simp only at HFg HCb HCs HRs HX
      go_wp2_with fail
      refine (HX.out).mono ?_
      rintro e wx ⟨rfl, hd⟩
      replace HR := Lib.hid (HR.out.below hd)
      replace HB := Lib.hid (chain2 HB.out hd)
      clear hd
      clear HX
      by_cases he : er = 0
      · subst he
        obtain ⟨hg1, hg2, hg3, hg4⟩ := HFg.out rfl
        have HG := Lib.hid (And.intro hg1 hg2); have HGd := Lib.hid hg3; clear hg1 hg2 hg3 hg4 HFg
        have HV := Lib.hid (HP.out.trans (HCs.out rfl))
        obtain ⟨va, vc, rfl⟩ := HR.out.form
        have HK := Lib.hid (show ∀ k, (Value.slice va done.length vc).ownBlock = some k → k < wx.heap.size from fun k hk => (World.ownsRow.lt HR.out k hk).2)
        have HX := Lib.hid (heap_alloc_new wx (.cells #[.int .u8 (k : Int), .string b] 38))
        have ha := below_alloc (Below.refl wx.heap.size wx) (.cells #[.int .u8 (k : Int), .string b] 38)
        replace HR := Lib.hid (HR.out.below ha)
        replace HB := Lib.hid (chain2 HB.out ha)
        clear ha
        go_wp2_with fail
        generalize wx.heap.size = bx at HX HK ⊢
        generalize wx.alloc (.cells #[.int .u8 (k : Int), .string b] 38) = wx at HX HR HB ⊢
        have hS : wx.drew.heap[bx]? = some (.cells #[.int .u8 (k : Int), .string b] 38 (0, 0)) := HX.out
        have HSz := Lib.hid (size_f k b HGd.out HG.out.2.2)
        replace HR := Lib.hid (show RcRow wx.drew 38 w.heap.size (.slice va done.length vc) done from HR.out)
        replace HB := Lib.hid (below_drew1 HB.out)
        have hq1 : (0 ≤ ((7 + b.size : Nat) : Int)) = True := eq_true (by omega)
        have hq2 : (((7 + b.size : Nat) : Int) ≤ (x.size : Int)) = True := eq_true (by have := HG.out.1; omega)
        have hq3 : (7 + b.size ≤ x.size) = True := eq_true HG.out.1
        have hq4 : decide (7 + b.size ≤ x.size) = true := decide_eq_true HG.out.1
        have hq5 : (0 ≤ 7 + (b.size : Int)) = True := eq_true (by omega)
        have hq6 : (7 + (b.size : Int) ≤ (x.size : Int)) = True := eq_true (by have := HG.out.1; omega)
        have hq7 : (7 + (b.size : Int)).toNat = 7 + b.size := by omega
        refine start_ (n := 10) (S := fun w' => w'.heap[bx]? = some (.cells #[.int .u8 (k : Int), .string b] 38 (0, 0))) (ds := []) #[false, false, false, false, false, false, false, false, false, false] (by kernel_rfl) rfl rfl hS (fun hHeld => ?_)
        refine with_tabW rg14_8.tab rg14_8.bits (fun HT_ HW_ => ?_)
        generalize wx.drew = w' at HR HB hHeld ⊢
        refine pure_ (i := 0) (N := some 22) (v := ?_) (a' := ?_) #[true, false, false, false, false, false, false, false, false, false] rfl rfl (any_of HT_.out (by kernel_rfl)) (fun _ _ _ h => h) (Or.inl ⟨by rfl, ?_⟩) ?_ ?_
        rotate_left
        · intro w'
          go_simp
          try with_reducible rfl
        rotate_left
        · simp (maxSteps := 4000000) only [Act.put, List.setIfInBounds_toArray, List.set_cons_zero, List.set_cons_succ, i64_w, i32_w]
          try rfl
        refine pure_ (i := 4) (N := some 26) (v := ?_) (a' := ?_) #[true, false, false, false, true, false, false, false, false, false] rfl rfl (any_of HT_.out (by kernel_rfl)) (fun _ _ _ h => h) (Or.inl ⟨by rfl, ?_⟩) ?_ ?_
        rotate_left
        · intro w'
          go_simp
          try with_reducible rfl
        rotate_left
        · simp (maxSteps := 4000000) only [Act.put, List.setIfInBounds_toArray, List.set_cons_zero, List.set_cons_succ, i64_w, i32_w]
          try rfl
        refine take_ (i := 1) (N := some 23) (v := ?_) (a' := ?_) #[true, true, false, false, true, false, false, false, false, false] rfl rfl (take_ofW HT_.out HW_.out (by kernel_rfl)) (fun _ _ _ h => h) (Or.inl ⟨by rfl, ?_⟩) hHeld ?_ ?_
        rotate_left
        · intro w' hw_
          try dsimp only at hw_
          obtain ⟨g0, g1⟩ := rc_cells (x := (k, b)) hw_; simp only at g0 g1
          go_simp
          try with_reducible rfl
        rotate_left
        · simp (maxSteps := 4000000) only [Act.put, List.setIfInBounds_toArray, List.set_cons_zero, List.set_cons_succ, i64_w, i32_w]
          try rfl
        refine take_ (i := 5) (N := some 27) (v := ?_) (a' := ?_) #[true, true, false, false, true, true, false, false, false, false] rfl rfl (take_ofW HT_.out HW_.out (by kernel_rfl)) (fun _ _ _ h => h) (Or.inl ⟨by rfl, ?_⟩) hHeld ?_ ?_
        rotate_left
        · intro w' hw_
          try dsimp only at hw_
          obtain ⟨g0, g1⟩ := rc_cells (x := (k, b)) hw_; simp only at g0 g1
          go_simp
          try with_reducible rfl
        rotate_left
        · simp (maxSteps := 4000000) only [Act.put, List.setIfInBounds_toArray, List.set_cons_zero, List.set_cons_succ, i64_w, i32_w]
          try rfl
        refine one_ (i := 2) (N := some 24) #[true, true, true, false, true, true, false, false, false, false] rfl rfl (one_of HT_.out (by kernel_rfl)) (by decide) (fun K hK => ?_)
        refine value_ (v := .slice (some ⟨w'.heap.size, 0, none⟩) 1 1) (w1 := w'.alloc (.cells #[.int .u8 (k : Int), .string b] 38)) (by rfl) rfl ?_ ?_
        · (go_simp)
        have HN := Lib.hid (heap_alloc_new w' (.cells #[.int .u8 (k : Int), .string b] 38))
        have hSS := blk_alloc hHeld (.cells #[.int .u8 (k : Int), .string b] 38)
        have hd := below_alloc (Below.refl w'.heap.size w') (.cells #[.int .u8 (k : Int), .string b] 38)
        replace HR := Lib.hid (HR.out.below hd)
        replace HB := Lib.hid (chain2 HB.out hd)
        clear hd
        generalize w'.heap.size = bN at HN ⊢
        generalize w'.alloc (.cells #[.int .u8 (k : Int), .string b] 38) = w' at HN HR HB hSS ⊢
        refine hK.out _ _ (hSS) (fun hHeld => ?_)
        clear hK K
        refine norm_ (a' := ?_) ?_ ?_
        rotate_left
        · show Act.put _ (some 24) _ = _
          simp (maxSteps := 4000000) only [Act.put, List.setIfInBounds_toArray, List.set_cons_zero, List.set_cons_succ, i64_w, i32_w]
          try rfl
        refine one_ (i := 3) (N := some 25) #[true, true, true, true, true, true, false, false, false, false] rfl rfl (one_of HT_.out (by kernel_rfl)) (by decide) (fun K hK => ?_)
        obtain ⟨ax, cx, w', hr, ho2, hgr⟩ := rc_add Try.underlying27 info38 _ w.heap.size _ _ w' HR.out (by have := HF.out.2; have := HS.out; omega) (k, b) bN HN.out HB.out.size
        refine value_ (v := .slice ax (done.length + 1) cx) (w1 := w') (by rfl) rfl (append_run rfl (by rfl) (by rfl) hr) ?_
        clear hr
        have hSS := grown_keeps hgr hHeld HK.out
        replace HB := Lib.hid (pw_below_grown HB.out _ HB.out.size hgr (fun k hk => (World.ownsRow.lt HR.out k hk).1))
        replace HR := Lib.hid ho2
        clear ho2 hgr HN
        refine hK.out _ _ (hSS) (fun hHeld => ?_)
        clear hK K
        refine norm_ (a' := ?_) ?_ ?_
        rotate_left
        · show Act.put _ (some 25) _ = _
          simp (maxSteps := 4000000) only [Act.put, List.setIfInBounds_toArray, List.set_cons_zero, List.set_cons_succ, i64_w, i32_w]
          try rfl
        refine one_ (i := 6) (N := some 28) #[true, true, true, true, true, true, true, false, false, false] rfl rfl (one_of HT_.out (by kernel_rfl)) (by decide) (fun K hK => ?_)
        refine goes_ Try.func12 (by kernel_rfl) rfl #[(.agg #[.int .u8 (k : Int), .string b])] (by rfl) rfl rfl (by (try simp only [List.map_toArray, List.map_cons, List.map_nil]); first | done | rfl) ?_
        refine (rec_Record_Size.calls _ _ _ _ HSz.out).mono ?_
        rintro e w' ⟨rfl, hd⟩
        refine ⟨_, rfl, ?_⟩
        have hSS := blk_below hHeld hd
        (try replace HN := Lib.hid (blk_below HN.out hd))
        replace HR := Lib.hid (HR.out.below hd)
        replace HB := Lib.hid (chain2 HB.out hd)
        clear hd
        refine hK.out _ _ (hSS) (fun hHeld => ?_)
        clear hK K
        refine norm_ (a' := ?_) ?_ ?_
        rotate_left
        · show Act.put _ (some 28) _ = _
          simp (maxSteps := 4000000) only [Act.put, List.setIfInBounds_toArray, List.set_cons_zero, List.set_cons_succ, i64_w, i32_w]
          try rfl
        refine pure_ (i := 7) (N := some 29) (v := ?_) (a' := ?_) #[true, true, true, true, true, true, true, true, false, false] rfl rfl (any_of HT_.out (by kernel_rfl)) (fun _ _ _ h => h) (Or.inl ⟨by rfl, ?_⟩) ?_ ?_
        rotate_left
        · intro w'
          go_simp
          try with_reducible rfl
        rotate_left
        · simp (maxSteps := 4000000) only [Act.put, List.setIfInBounds_toArray, List.set_cons_zero, List.set_cons_succ, i64_w, i32_w]
          try rfl
        refine pure_ (i := 8) (N := some 6) (v := ?_) (a' := ?_) #[true, true, true, true, true, true, true, true, true, false] rfl rfl (any_of HT_.out (by kernel_rfl)) (fun _ _ _ h => h) (Or.inl ⟨by rfl, ?_⟩) ?_ ?_
        rotate_left
        · intro w'
          go_simp
          try with_reducible rfl
        rotate_left
        · simp (maxSteps := 4000000) only [Act.put, List.setIfInBounds_toArray, List.set_cons_zero, List.set_cons_succ, i64_w, i32_w]
          try rfl
        refine pure_ (i := 9) (N := some 1) (v := ?_) (a' := ?_) #[true, true, true, true, true, true, true, true, true, true] rfl rfl (any_of HT_.out (by kernel_rfl)) (fun _ _ _ h => h) (Or.inl ⟨by rfl, ?_⟩) ?_ ?_
        rotate_left
        · intro w'
          go_simp
          try with_reducible rfl
        rotate_left
        · simp (maxSteps := 4000000) only [Act.put, List.setIfInBounds_toArray, List.set_cons_zero, List.set_cons_succ, i64_w, i32_w]
          try rfl
        refine done_ (done_of HT_.out (by kernel_rfl)) ?_
        go_wp2
        go_roundw
        case rel => exact ⟨f, _, done ++ [(k, b)], rfl, by rw [ByteArray.size_extract]; have := HF.out.1; have := HG.out.1; omega, by rw [ByteArray.size_extract, List.length_append, List.length_singleton]; have := HF.out.2; have := HG.out.1; omega, by rw [← HRs.out]; exact HV.out, HR.out, HB.out⟩
        case measure => show (x.extract (7 + b.size) x.size).size < x.size; rw [ByteArray.size_extract]; have := HG.out.1; omega
      · have e1 : (er == 0) = false := by simp [he]
        have e2 : (er != 0) = true := by simp [he]
        have e3 : decide (er = 0) = false := decide_eq_false he
        have HV := Lib.hid (HP.out.trans (HCb.out he))
        clear he
        go_wp2
        go_ret2
        exact ⟨_, by rw [HV.out]; rfl, by rw [HV.out]; exact World.ownsRow_nil _ _ _ _, below_alloc HB.out _⟩
end Go.Proofs.Ytnojomoeaofkoaa
