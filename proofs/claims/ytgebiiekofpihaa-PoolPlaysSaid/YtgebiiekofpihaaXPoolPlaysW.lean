/- PoolPlays: what is done to a pool, and to the document's: the walk. No conditions beyond the form's own reach. -/
import Derived.Test.YtgebiiekofpihaaXPoolRefB
import Derived.Test.YtgebiiekofpihaaXPoolWakes
import Derived.Test.YtgebiiekofpihaaXOpen
namespace Go.Proofs.Ytgebiiekofpihaa
open Go.RowKit Go.Lib Go.Proofs.YtgebiiekofpihaaW.PrintWords Go.Proofs.YtgebiiekofpihaaW.PrintLast Go.Proofs.YtgebiiekofpihaaW.PrintMore
set_option linter.unusedVariables false
set_option linter.unusedSimpArgs false
def rg5_12.T : Bool × List (List Nat × List Nat) := (true, [([], []), ([], []), ([1], [1]), ([], []), ([3], [3]), ([0, 2, 4], [0, 2, 4]), ([], []), ([], []), ([7], [7]), ([], []), ([9], [9]), ([6, 8, 10, 5], [6, 8, 10]), ([5, 11], [5, 11]), ([12, 11, 0, 1, 2, 3, 4, 5, 6, 7, 8, 9, 10, 11, 12], [12])])
def rg5_12.B : List Nat := [0, 0, 2, 0, 8, 31, 0, 0, 128, 0, 512, 2047, 4095, 8191]
theorem rg5_12.tab : rtab .any (opsOf Try.f5 12) = rg5_12.T := by kernel_rfl
theorem rg5_12.bits : waitsOk rg5_12.T.2 rg5_12.B = true := by kernel_rfl
def rg5_27.T : Bool × List (List Nat × List Nat) := (true, [([], []), ([0], [0]), ([1], [1]), ([1], [1]), ([2, 3, 1, 1], [1, 2, 3]), ([1], [1]), ([5, 1], [1, 5]), ([6, 1], [1, 6]), ([7, 1], [1, 7]), ([1], [1]), ([8, 9, 1], [1, 8, 9]), ([10, 1], [1, 10]), ([4, 11, 1], [1, 4, 11]), ([1, 12], [1, 12]), ([13, 4], [13]), ([14], [14]), ([14], [14]), ([15, 16, 14, 14], [14, 15, 16]), ([14], [14]), ([18, 14], [14, 18]), ([19, 14], [14, 19]), ([20, 14], [14, 20]), ([14], [14]), ([21, 22, 14], [14, 21, 22]), ([23, 14], [14, 23]), ([17, 24, 14], [14, 17, 24]), ([14, 25], [14, 25]), ([26, 17, 0, 1, 2, 3, 4, 5, 6, 7, 8, 9, 10, 11, 12, 13, 14, 15, 16, 17, 18, 19, 20, 21, 22, 23, 24, 25, 26], [0, 26])])
def rg5_27.B : List Nat := [0, 1, 3, 3, 15, 3, 35, 99, 227, 3, 995, 2019, 4095, 8191, 16383, 32767, 32767, 131071, 32767, 294911, 819199, 1867775, 32767, 8159231, 16547839, 33554431, 67108863, 134217727]
theorem rg5_27.tab : rtab .any (opsOf Try.f5 27) = rg5_27.T := by kernel_rfl
theorem rg5_27.bits : waitsOk rg5_27.T.2 rg5_27.B = true := by kernel_rfl
def rg5_14.T : Bool × List (List Nat × List Nat) := (true, [([], []), ([], []), ([1], [1]), ([], []), ([3], [3]), ([0, 2, 4], [0, 2, 4]), ([], []), ([], []), ([7], [7]), ([], []), ([9], [9]), ([6, 8, 10, 5], [6, 8, 10]), ([5, 11], [5, 11]), ([12, 11, 0, 1, 2, 3, 4, 5, 6, 7, 8, 9, 10, 11, 12], [12])])
def rg5_14.B : List Nat := [0, 0, 2, 0, 8, 31, 0, 0, 128, 0, 512, 2047, 4095, 8191]
theorem rg5_14.tab : rtab .any (opsOf Try.f5 14) = rg5_14.T := by kernel_rfl
theorem rg5_14.bits : waitsOk rg5_14.T.2 rg5_14.B = true := by kernel_rfl
/-- An act: what, which block, and how much. -/
abbrev Act3 := Int × Int × Int
def ActAt (w : World) (g o : Nat) (f : Act3) : Prop := w.cell? ⟨g, o, none⟩ = some (.int .i64 f.1) ∧ w.cell? ⟨g, o + 1, none⟩ = some (.int .i64 f.2.1) ∧ w.cell? ⟨g, o + 2, none⟩ = some (.int .i64 f.2.2)
theorem ActAt.below {w w' : World} {g o : Nat} {f : Act3} (h : ActAt w g o f) (hb : Below w.heap.size w w') : ActAt w' g o f :=
  ⟨pw_cell_below hb h.1, pw_cell_below hb h.2.1, pw_cell_below hb h.2.2⟩
def ActsAt (w : World) (a : Option Addr) (fs : List Act3) : Prop := ∀ i, ∀ h : i < fs.length, ∃ g off, a = some ⟨g, off, none⟩ ∧ ActAt w g (off + i * 3) fs[i]
theorem acts_of {w : World} {a : Option Addr} {len : Nat} (h : RowIn w [.int .i64, .int .i64, .int .i64] a len) : ∃ fs : List Act3, fs.length = len ∧ ActsAt w a fs := by
  obtain ⟨fs, h1, h2⟩ := list_of (fun i (f : Act3) => ∃ g off, a = some ⟨g, off, none⟩ ∧ ActAt w g (off + i * 3) f) len (fun i hi => by
    obtain ⟨g, off, vs, ha, hk, hc⟩ := h i hi
    obtain ⟨v0, vs1, rfl, ⟨x0, rfl, _⟩, ho1⟩ := Kd.oks_cons hk
    obtain ⟨v1, vs2, rfl, ⟨x1, rfl, _⟩, ho2⟩ := Kd.oks_cons ho1
    obtain ⟨v2, vs3, rfl, ⟨x2, rfl, _⟩, ho3⟩ := Kd.oks_cons ho2
    obtain rfl := Kd.oks_nil ho3
    exact ⟨(x0, x1, x2), g, off, ha, hc 0 _ rfl, hc 1 _ rfl, hc 2 _ rfl⟩)
  exact ⟨fs, h1, h2⟩

/-- What holds of the blocks: how many, and no wear is less than nothing. -/
def Good (bs : List Bk) (n : Nat) : Prop := bs.length = n ∧ ∀ b ∈ bs, 0 ≤ b.2
theorem good_new (n : Nat) : Good (List.replicate n (1, 0)) n := ⟨List.length_replicate .., fun b hb => by rw [List.eq_of_mem_replicate hb]; exact Int.le_refl _⟩
theorem good_put {bs : List Bk} {n : Nat} (h : Good bs n) (i : Nat) (x : Bk) (hx : 0 ≤ x.2) : Good (bs.set i x) n := by
  refine ⟨by rw [List.length_set]; exact h.1, fun b hb => ?_⟩
  rcases List.mem_or_eq_of_mem_set hb with hb | rfl
  · exact h.2 b hb
  · exact hx
theorem good_get {bs : List Bk} {n : Nat} (h : Good bs n) {k : Int} {b : Bk} (hk : getB bs k = some b) : 0 ≤ b.2 := by
  unfold getB at hk
  split at hk
  · obtain ⟨hi, rfl⟩ := List.getElem?_eq_some_iff.mp hk
    exact h.2 _ (List.getElem_mem hi)
  · cases hk
theorem good_set {bs : List Bk} {n : Nat} (h : Good bs n) (k s : Int) : Good (setL bs k s) n := by
  unfold setL
  split
  · exact h
  · rename_i b hb
    split
    · exact h
    · split
      · exact h
      · exact good_put h _ _ (show 0 ≤ b.2 from good_get h hb)
theorem good_worn {bs : List Bk} {n : Nat} (h : Good bs n) (k s : Int) : Good (wornL bs k s) n := by
  unfold wornL
  split
  · exact h
  · rename_i b hb
    split
    · exact h
    · exact good_put h _ _ (by show 0 ≤ s; omega)
theorem good_take {bs : List Bk} {n : Nat} (h : Good bs n) (cf : Int → Int → Int) : Good (takeL cf bs) n := by
  unfold takeL
  split
  · exact h
  · refine good_put h _ _ ?_
    show 0 ≤ (bs.getD _ bkD).2
    rw [List.getD_eq_getElem?_getD]
    cases hg : bs[(bestB cf bs).toNat]? with
    | none => exact Int.le_refl _
    | some b => obtain ⟨hi, rfl⟩ := List.getElem?_eq_some_iff.mp hg; exact h.2 _ (List.getElem_mem hi)
theorem stB_out (bs : List Bk) (k : Int) (h : k < 0 ∨ (bs.length : Int) ≤ k) : stB bs k = 0 ∧ weB bs k = 0 := by
  have e : getB bs k = none := by
    rcases getB_cases bs k with ⟨h, _⟩ | ⟨i, rfl, hi, _⟩
    · exact h
    · omega
  unfold stB weB
  rw [e]
  exact ⟨rfl, rfl⟩
theorem stB_in (bs : List Bk) (k : Nat) (h : k < bs.length) : stB bs (k : Int) = bs[k].1 ∧ weB bs (k : Int) = bs[k].2 := by
  have e : getB bs (k : Int) = some bs[k] := by unfold getB; rw [if_pos (by omega), Int.toNat_natCast, List.getElem?_eq_getElem h]
  unfold stB weB
  rw [e]
  exact ⟨rfl, rfl⟩
theorem PoolAt.grown' {w w' : World} {g r b : Nat} {bs : List Bk} (h : PoolAt w g r bs) (hg : w.grownBy w' (some b)) (h1 : g ≠ b) (h2 : r ≠ b) : PoolAt w' g r bs :=
  ⟨(hg.block g (blk_lt h.head) (fun e => h1 (by cases e; rfl))).trans h.head, (hg.block r (blk_lt h.row) (fun e => h2 (by cases e; rfl))).trans h.row, h.ne, h.max⟩
theorem cell_grown {w w' : World} {b c i : Nat} {v : Value} (hg : w.grownBy w' (some b)) (h : w.cell? ⟨c, i, none⟩ = some v) (hne : c ≠ b) : w'.cell? ⟨c, i, none⟩ = some v := by
  obtain ⟨x, hx⟩ : ∃ x, w.heap[c]? = some x := by
    unfold World.cell? at h
    cases hx : w.heap[c]? with
    | none => simp [hx] at h
    | some x => exact ⟨x, rfl⟩
  have := hg.block c (blk_lt hx) (fun e => hne (by cases e; rfl))
  rw [← h]
  unfold World.cell?
  simp only [this]
/-- The act's own block. -/
def ActB (w : World) (b : Nat) (x y z : Int) : Prop := w.cell? ⟨b, 0, none⟩ = some (.int .i64 x) ∧ w.cell? ⟨b, 1, none⟩ = some (.int .i64 y) ∧ w.cell? ⟨b, 2, none⟩ = some (.int .i64 z)
theorem ActB.grown {w w' : World} {b c : Nat} {x y z : Int} (h : ActB w b x y z) (hg : w.grownBy w' (some c)) (hne : b ≠ c) : ActB w' b x y z :=
  ⟨cell_grown hg h.1 hne, cell_grown hg h.2.1 hne, cell_grown hg h.2.2 hne⟩

theorem max_nat (x : Int) : ∃ d0 : Nat, (if 0 < x then x else 0) = (d0 : Int) := ⟨(max 0 x).toNat, by split <;> omega⟩
theorem mod5 (d0 : Nat) : ∃ d : Int, (d0 : Int) % 5 = d ∧ Int.tmod (d0 : Int) 5 = d ∧ (d = 0 ∨ d = 1 ∨ d = 2 ∨ d = 3 ∨ d = 4) := ⟨(d0 : Int) % 5, rfl, Int.tmod_eq_emod_of_nonneg (by omega), by omega⟩
theorem count12 (blocks : Int) : ∃ m0 n : Nat, (if 0 < blocks then blocks else 0) = (m0 : Int) ∧ (m0 : Int) % 12 = ((n : Int) - 1) ∧ 1 ≤ n ∧ n ≤ 12 ∧ Int.tmod (m0 : Int) 12 = ((n : Int) - 1) ∧ 1 + ((n : Int) - 1) = (n : Int) ∧ wrap64 (n : Int) = (n : Int) := by
  obtain ⟨m0, hm0⟩ := max_nat blocks
  refine ⟨m0, m0 % 12 + 1, hm0, by omega, by omega, by omega, ?_, by omega, by unfold wrap64; omega⟩
  rw [Int.tmod_eq_emod_of_nonneg (by omega)]; omega
theorem cut60 (n cap : Nat) (h : n ≤ cap) : ∃ N : Nat, (if 60 < (n : Int) then 60 else (n : Int)) = (N : Int) ∧ N ≤ n ∧ N ≤ 60 ∧ N ≤ cap ∧ (0 ≤ (N : Int)) = True ∧ ((N : Int) ≤ (cap : Int)) = True :=
  ⟨min n 60, by split <;> omega, by omega, by omega, by omega, eq_true (by omega), eq_true (by omega)⟩
theorem ne_six {w : World} {g r gm sa sb B : Nat} (h1 : g < B) (h2 : r < B) (h3 : B ≤ gm) (h4 : B ≤ sa) (h5 : B ≤ sb) : gm ≠ g ∧ gm ≠ r ∧ sa ≠ g ∧ sa ≠ r ∧ sb ≠ g ∧ sb ≠ r := by omega

/-- The act's two numbers. -/
theorem ActC.grown {w w' : World} {b c : Nat} {y z : Int} (h : w.cell? ⟨b, 1, none⟩ = some (.int .i64 y) ∧ w.cell? ⟨b, 2, none⟩ = some (.int .i64 z)) (hg : w.grownBy w' (some c)) (hne : b ≠ c) : w'.cell? ⟨b, 1, none⟩ = some (.int .i64 y) ∧ w'.cell? ⟨b, 2, none⟩ = some (.int .i64 z) :=
  ⟨cell_grown hg h.1 hne, cell_grown hg h.2 hne⟩

set_option maxHeartbeats 16000000 in
set_option maxRecDepth 100000 in
theorem poolPlays_walk (blocks : Int) (a : Option Addr) (fs : List Act3) (cap : Nat) (hcap : fs.length ≤ cap ∧ cap ≤ maxLen) (w : World) (h : ActsAt w a fs) :
    Calls Try.prog 5 #[.int .i64 blocks, .slice a fs.length cap] w fun e w' => e = .returned (.bool true) ∧ Below w.heap.size w w' := by
  have HF := Lib.hid h; clear h
  obtain ⟨m0, n, hm0, hmod, hn1, hn2, hmod2, hn3, hn4⟩ := count12 blocks
  obtain ⟨N, hN, hN1, hN2, hN3, c1, c2⟩ := cut60 fs.length cap hcap.1
  have c3 : (N ≤ cap) = True := eq_true hN3
  have c4 : decide (N ≤ cap) = true := decide_eq_true hN3
  have HC := Lib.hid hcap; clear hcap
  have HN := Lib.hid (And.intro hN1 hN2); clear hN1 hN2 hN3
  have HS := Lib.hid (And.intro hn1 hn2); clear hn1 hn2
  go_enter Try.func5, Try.ntmps5
  go_wp2_with fail
  clear hmod hmod2 hn3 hm0
  refine (pool_new n HS.out.1 (Nat.le_trans HS.out.2 (by decide)) w).mono ?_
  rintro e w1 ⟨g, r, rfl, hg1, hr1, hp, hb⟩
  have HG := Lib.hid (And.intro hg1 hr1); clear hg1 hr1
  have HP := Lib.hid hp; clear hp
  have HB := Lib.hid hb; clear hb
  go_wp2_with fail
  refine (ref_new n (Nat.le_trans HS.out.2 (by decide)) w1).mono ?_
  rintro e w2 ⟨gm, sa, sb, rfl, hg1, hr1, hr2, hm, hd⟩
  have HNe := Lib.hid (show (gm ≠ g ∧ gm ≠ r ∧ sa ≠ g ∧ sa ≠ r ∧ sb ≠ g ∧ sb ≠ r) from ne_six (w := w) (blk_lt HP.out.head) (blk_lt HP.out.row) hg1 hr1 hr2)
  have HGm := Lib.hid (show w.heap.size ≤ gm ∧ w.heap.size ≤ sa ∧ w.heap.size ≤ sb from ⟨Nat.le_trans HB.out.size hg1, Nat.le_trans HB.out.size hr1, Nat.le_trans HB.out.size hr2⟩)
  clear hg1 hr1 hr2
  have HM := Lib.hid hm; clear hm
  replace HP := Lib.hid (HP.out.below hd)
  replace HB := Lib.hid (chainC HB.out hd); clear hd
  go_wp2_with fail
  refine (wakes_ok w2).mono ?_
  rintro e w3 ⟨rfl, hd⟩
  replace HM := Lib.hid (HM.out.below hd)
  replace HP := Lib.hid (HP.out.below hd)
  replace HB := Lib.hid (chainC HB.out hd); clear hd
  go_wp2_with fail
  clear hN c1 c2 c3 c4
  go_loopw [53] (fun i wr => ∃ j : Nat, ∃ bs : List Bk, j ≤ N ∧ i = .int .i64 (j : Int) ∧ Good bs n ∧ PoolAt wr g r bs ∧ RefAt wr gm sa sb bs ∧ Below w.heap.size w wr) (fun i _ => N - (RowKit.intOf i).toNat)
  case atStart => exact ⟨0, _, Nat.zero_le _, rfl, good_new n, HP.out, HM.out, HB.out⟩
  case round =>
    clear HP HB HM
    obtain ⟨j, bs, hj, rfl, h0, h1, h2, h3⟩ := hrel
    have HGd := Lib.hid h0; clear h0
    have HP := Lib.hid h1; clear h1
    have HM := Lib.hid h2; clear h2
    have HB := Lib.hid h3; clear h3
    by_cases hlt : j < N
    · have hjf : j < fs.length := Nat.lt_of_lt_of_le hlt HN.out.1
      obtain ⟨ag, off, rfl, hc⟩ := HF.out j hjf
      replace hc := hc.below HB.out
      generalize fs[j] = f at hc
      obtain ⟨x, y, z⟩ := f
      obtain ⟨k0, k1, k2⟩ := hc
      have e3 : wrap64 ((j : Int) + 1) = ((j + 1 : Nat) : Int) := wrap_succ j (Nat.lt_of_lt_of_le hlt (Nat.le_trans HN.out.2 (by decide)))
      have ha := (Below.refl wr.heap.size wr).alloc (Nat.le_refl _) (Obj.cells #[Value.int IntKind.i64 x, Value.int IntKind.i64 y, Value.int IntKind.i64 z] 46)
      have hS : ActB (wr.alloc (Obj.cells #[Value.int IntKind.i64 x, Value.int IntKind.i64 y, Value.int IntKind.i64 z] 46)) wr.heap.size x y z := by
        refine ⟨?_, ?_, ?_⟩ <;> simp
      have HNb := Lib.hid (show wr.heap.size ≠ r ∧ wr.heap.size ≠ sa ∧ wr.heap.size ≠ sb from ⟨Nat.ne_of_gt (blk_lt HP.out.row), Nat.ne_of_gt (blk_lt HM.out.rowS), Nat.ne_of_gt (blk_lt HM.out.rowW)⟩)
      replace HP := Lib.hid (HP.out.below ha)
      replace HM := Lib.hid (HM.out.below ha)
      replace HB := Lib.hid (chainC HB.out ha); clear ha
      obtain ⟨d0, hd0⟩ := max_nat x
      obtain ⟨d, hmod, hmod2, hd1⟩ := mod5 d0
      have HSB := Lib.hid hS
      obtain ⟨s0, s1, s2⟩ := hS
      rcases hd1 with rfl | rfl | rfl | rfl | rfl
      · as_aux_lemma =>
          go_wp2_with fail
          clear k0 k1 k2 s0 s1 s2 hmod hmod2 hd0
          generalize (wr.alloc (Obj.cells #[Value.int IntKind.i64 x, Value.int IntKind.i64 y, Value.int IntKind.i64 z] 46)) = wA at HP HM HB HSB ⊢
          generalize wr.heap.size = bx at HSB HNb ⊢
          have hS := HSB.out.2
          replace HP := Lib.hid (show PoolAt wA.drew g r bs from ⟨HP.out.head, HP.out.row, HP.out.ne, HP.out.max⟩)
          replace HM := Lib.hid (show RefAt wA.drew gm sa sb bs from ⟨HM.out.head, HM.out.rowS, HM.out.rowW, HM.out.n1, HM.out.n2, HM.out.n3, HM.out.max⟩)
          replace HB := Lib.hid (show Below w.heap.size w wA.drew from below_drew1 HB.out)
          clear HSB
          refine start_ (n := 14) (S := fun w' => w'.cell? ⟨bx, 1, none⟩ = some (.int .i64 y) ∧ w'.cell? ⟨bx, 2, none⟩ = some (.int .i64 z)) (ds := []) #[false, false, false, false, false, false, false, false, false, false, false, false, false, false] (by kernel_rfl) rfl rfl hS (fun hHeld => ?_)
          refine with_tabW rg5_12.tab rg5_12.bits (fun HT_ HW_ => ?_)
          generalize wA.drew = w' at HB HP HM hHeld ⊢
          refine pure_ (i := 0) (N := some 63) (v := ?_) (a' := ?_) #[true, false, false, false, false, false, false, false, false, false, false, false, false, false] rfl rfl (any_of HT_.out (by kernel_rfl)) (fun _ _ _ h => h) (Or.inl ⟨by rfl, ?_⟩) ?_ ?_
          rotate_left
          · intro w'
            go_simp
            try with_reducible rfl
          rotate_left
          · simp (maxSteps := 4000000) only [Act.put, List.setIfInBounds_toArray, List.set_cons_zero, List.set_cons_succ, i64_w, i32_w]
            try rfl
          refine pure_ (i := 1) (N := some 64) (v := ?_) (a' := ?_) #[true, true, false, false, false, false, false, false, false, false, false, false, false, false] rfl rfl (any_of HT_.out (by kernel_rfl)) (fun _ _ _ h => h) (Or.inl ⟨by rfl, ?_⟩) ?_ ?_
          rotate_left
          · intro w'
            go_simp
            try with_reducible rfl
          rotate_left
          · simp (maxSteps := 4000000) only [Act.put, List.setIfInBounds_toArray, List.set_cons_zero, List.set_cons_succ, i64_w, i32_w]
            try rfl
          refine pure_ (i := 3) (N := some 66) (v := ?_) (a' := ?_) #[true, true, false, true, false, false, false, false, false, false, false, false, false, false] rfl rfl (any_of HT_.out (by kernel_rfl)) (fun _ _ _ h => h) (Or.inl ⟨by rfl, ?_⟩) ?_ ?_
          rotate_left
          · intro w'
            go_simp
            try with_reducible rfl
          rotate_left
          · simp (maxSteps := 4000000) only [Act.put, List.setIfInBounds_toArray, List.set_cons_zero, List.set_cons_succ, i64_w, i32_w]
            try rfl
          refine pure_ (i := 6) (N := some 69) (v := ?_) (a' := ?_) #[true, true, false, true, false, false, true, false, false, false, false, false, false, false] rfl rfl (any_of HT_.out (by kernel_rfl)) (fun _ _ _ h => h) (Or.inl ⟨by rfl, ?_⟩) ?_ ?_
          rotate_left
          · intro w'
            go_simp
            try with_reducible rfl
          rotate_left
          · simp (maxSteps := 4000000) only [Act.put, List.setIfInBounds_toArray, List.set_cons_zero, List.set_cons_succ, i64_w, i32_w]
            try rfl
          refine pure_ (i := 7) (N := some 70) (v := ?_) (a' := ?_) #[true, true, false, true, false, false, true, true, false, false, false, false, false, false] rfl rfl (any_of HT_.out (by kernel_rfl)) (fun _ _ _ h => h) (Or.inl ⟨by rfl, ?_⟩) ?_ ?_
          rotate_left
          · intro w'
            go_simp
            try with_reducible rfl
          rotate_left
          · simp (maxSteps := 4000000) only [Act.put, List.setIfInBounds_toArray, List.set_cons_zero, List.set_cons_succ, i64_w, i32_w]
            try rfl
          refine pure_ (i := 9) (N := some 72) (v := ?_) (a' := ?_) #[true, true, false, true, false, false, true, true, false, true, false, false, false, false] rfl rfl (any_of HT_.out (by kernel_rfl)) (fun _ _ _ h => h) (Or.inl ⟨by rfl, ?_⟩) ?_ ?_
          rotate_left
          · intro w'
            go_simp
            try with_reducible rfl
          rotate_left
          · simp (maxSteps := 4000000) only [Act.put, List.setIfInBounds_toArray, List.set_cons_zero, List.set_cons_succ, i64_w, i32_w]
            try rfl
          refine take_ (i := 2) (N := some 65) (v := ?_) (a' := ?_) #[true, true, true, true, false, false, true, true, false, true, false, false, false, false] rfl rfl (take_ofW HT_.out HW_.out (by kernel_rfl)) (fun _ _ _ h => h) (Or.inl ⟨by rfl, ?_⟩) hHeld ?_ ?_
          rotate_left
          · intro w' hw_
            try dsimp only at hw_
            go_simp
            try with_reducible rfl
          rotate_left
          · simp (maxSteps := 4000000) only [Act.put, List.setIfInBounds_toArray, List.set_cons_zero, List.set_cons_succ, i64_w, i32_w]
            try rfl
          refine take_ (i := 4) (N := some 67) (v := ?_) (a' := ?_) #[true, true, true, true, true, false, true, true, false, true, false, false, false, false] rfl rfl (take_ofW HT_.out HW_.out (by kernel_rfl)) (fun _ _ _ h => h) (Or.inl ⟨by rfl, ?_⟩) hHeld ?_ ?_
          rotate_left
          · intro w' hw_
            try dsimp only at hw_
            go_simp
            try with_reducible rfl
          rotate_left
          · simp (maxSteps := 4000000) only [Act.put, List.setIfInBounds_toArray, List.set_cons_zero, List.set_cons_succ, i64_w, i32_w]
            try rfl
          refine take_ (i := 8) (N := some 71) (v := ?_) (a' := ?_) #[true, true, true, true, true, false, true, true, true, true, false, false, false, false] rfl rfl (take_ofW HT_.out HW_.out (by kernel_rfl)) (fun _ _ _ h => h) (Or.inl ⟨by rfl, ?_⟩) hHeld ?_ ?_
          rotate_left
          · intro w' hw_
            try dsimp only at hw_
            go_simp
            try with_reducible rfl
          rotate_left
          · simp (maxSteps := 4000000) only [Act.put, List.setIfInBounds_toArray, List.set_cons_zero, List.set_cons_succ, i64_w, i32_w]
            try rfl
          refine take_ (i := 10) (N := some 73) (v := ?_) (a' := ?_) #[true, true, true, true, true, false, true, true, true, true, true, false, false, false] rfl rfl (take_ofW HT_.out HW_.out (by kernel_rfl)) (fun _ _ _ h => h) (Or.inl ⟨by rfl, ?_⟩) hHeld ?_ ?_
          rotate_left
          · intro w' hw_
            try dsimp only at hw_
            go_simp
            try with_reducible rfl
          rotate_left
          · simp (maxSteps := 4000000) only [Act.put, List.setIfInBounds_toArray, List.set_cons_zero, List.set_cons_succ, i64_w, i32_w]
            try rfl
          refine one_ (i := 5) (N := some 68) #[true, true, true, true, true, true, true, true, true, true, true, false, false, false] rfl rfl (one_of HT_.out (by kernel_rfl)) (by decide) (fun K hK => ?_)
          refine goes_ Try.func10 (by kernel_rfl) rfl #[(.pointer (some ⟨g, 0, none⟩)), (.int .i64 y), (.int .i64 z)] (by rfl) rfl rfl (by (try simp only [List.map_toArray, List.map_cons, List.map_nil]); first | done | rfl) ?_
          refine (pool_set g r bs y z w' HP.out).mono ?_
          rintro e w' ⟨rfl, hp, hd⟩
          refine ⟨_, rfl, ?_⟩
          have hSS := ActC.grown hHeld hd HNb.out.1
          replace HM := Lib.hid (HM.out.grown hd HNe.out.2.1 HNe.out.2.2.2.1 HNe.out.2.2.2.2.2)
          replace HB := Lib.hid (below_row HB.out HG.out.2 hd HB.out.size)
          replace HP := Lib.hid hp
          clear hp hd
          refine hK.out _ _ (hSS) (fun hHeld => ?_)
          clear hK K
          refine norm_ (a' := ?_) ?_ ?_
          rotate_left
          · show Act.put _ (some 68) _ = _
            simp (maxSteps := 4000000) only [Act.put, List.setIfInBounds_toArray, List.set_cons_zero, List.set_cons_succ, i64_w, i32_w]
            try rfl
          refine one_ (i := 11) (N := some 74) #[true, true, true, true, true, true, true, true, true, true, true, true, false, false] rfl rfl (one_of HT_.out (by kernel_rfl)) (by decide) (fun K hK => ?_)
          refine goes_ Try.func18 (by kernel_rfl) rfl #[(.pointer (some ⟨gm, 0, none⟩)), (.int .i64 y), (.int .i64 z)] (by rfl) rfl rfl (by (try simp only [List.map_toArray, List.map_cons, List.map_nil]); first | done | rfl) ?_
          refine (ref_set gm sa sb bs y z w' HM.out).mono ?_
          rintro e w' ⟨rfl, hm, hd⟩
          refine ⟨_, rfl, ?_⟩
          have hSS := ActC.grown hHeld hd HNb.out.2.1
          replace HP := Lib.hid (HP.out.grown' hd (Ne.symm HNe.out.2.2.1) (Ne.symm HNe.out.2.2.2.1))
          replace HB := Lib.hid (below_row HB.out HGm.out.2.1 hd HB.out.size)
          replace HM := Lib.hid hm
          clear hm hd
          refine hK.out _ _ (hSS) (fun hHeld => ?_)
          clear hK K
          refine norm_ (a' := ?_) ?_ ?_
          rotate_left
          · show Act.put _ (some 74) _ = _
            simp (maxSteps := 4000000) only [Act.put, List.setIfInBounds_toArray, List.set_cons_zero, List.set_cons_succ, i64_w, i32_w]
            try rfl
          refine pure_ (i := 12) (N := some 75) (v := ?_) (a' := ?_) #[true, true, true, true, true, true, true, true, true, true, true, true, true, false] rfl rfl (any_of HT_.out (by kernel_rfl)) (fun _ _ _ h => h) (Or.inl ⟨by rfl, ?_⟩) ?_ ?_
          rotate_left
          · intro w'
            go_simp
            try with_reducible rfl
          rotate_left
          · simp (maxSteps := 4000000) only [Act.put, List.setIfInBounds_toArray, List.set_cons_zero, List.set_cons_succ, i64_w, i32_w]
            try rfl
          refine pure_ (i := 13) (N := some 11) (v := ?_) (a' := ?_) #[true, true, true, true, true, true, true, true, true, true, true, true, true, true] rfl rfl (any_of HT_.out (by kernel_rfl)) (fun _ _ _ h => h) (Or.inl ⟨by rfl, ?_⟩) ?_ ?_
          rotate_left
          · intro w'
            go_simp
            try with_reducible rfl
          rotate_left
          · simp (maxSteps := 4000000) only [Act.put, List.setIfInBounds_toArray, List.set_cons_zero, List.set_cons_succ, i64_w, i32_w]
            try rfl
          refine done_ (done_of HT_.out (by kernel_rfl)) ?_
          have HG2 := Lib.hid (good_set HGd.out y z)
          clear HGd
          generalize setL bs y z = b2 at HP HM HG2
          go_wp2_with fail
          go_loopw [11, 133] (fun ok i wr => ∃ k : Nat, k ≤ n ∧ i = .int .i64 (k : Int) ∧ ok = .bool true ∧ PoolAt wr g r b2 ∧ RefAt wr gm sa sb b2 ∧ Below w.heap.size w wr) (fun _ i _ => n - (RowKit.intOf i).toNat)
          case atStart => exact ⟨0, Nat.zero_le _, rfl, rfl, HP.out, HM.out, HB.out⟩
          case round =>
            clear HP HM HB
            obtain ⟨k, hk, rfl, rfl, h1, h2, h3⟩ := hrel
            have HP := Lib.hid h1; clear h1
            have HM := Lib.hid h2; clear h2
            have HB := Lib.hid h3; clear h3
            by_cases hlk : k < n
            · have hkl : k < b2.length := by rw [HG2.out.1]; exact hlk
              have eS := stB_in b2 k hkl
              have e4 : wrap64 ((k : Int) + 1) = ((k + 1 : Nat) : Int) := wrap_succ k (Nat.lt_trans hlk (Nat.lt_of_le_of_lt HS.out.2 (by decide)))
              have hS := And.intro HM.out.cell0 (And.intro HM.out.cell1 (And.intro (HM.out.s0 k hkl) (HM.out.w0 k hkl)))
              generalize b2[k].1 = sv at eS hS
              generalize b2[k].2 = wv at eS hS
              have HE := Lib.hid eS; clear eS
              have HSc := Lib.hid hS; clear hS
              go_wp2_with fail
              have hS := HSc.out; clear HSc
              replace HP := Lib.hid (show PoolAt wr.drew g r b2 from ⟨HP.out.head, HP.out.row, HP.out.ne, HP.out.max⟩)
              replace HM := Lib.hid (show RefAt wr.drew gm sa sb b2 from ⟨HM.out.head, HM.out.rowS, HM.out.rowW, HM.out.n1, HM.out.n2, HM.out.n3, HM.out.max⟩)
              replace HB := Lib.hid (show Below w.heap.size w wr.drew from below_drew1 HB.out)
              refine start_ (n := 28) (S := fun w' => w'.cell? ⟨gm, 0, none⟩ = some (.slice (some ⟨sa, 0, none⟩) b2.length b2.length) ∧ w'.cell? ⟨gm, 1, none⟩ = some (.slice (some ⟨sb, 0, none⟩) b2.length b2.length) ∧ w'.cell? ⟨sa, k, none⟩ = some (.int .i64 sv) ∧ w'.cell? ⟨sb, k, none⟩ = some (.int .i64 wv)) (ds := []) #[false, false, false, false, false, false, false, false, false, false, false, false, false, false, false, false, false, false, false, false, false, false, false, false, false, false, false, false] (by kernel_rfl) rfl rfl hS (fun hHeld => ?_)
              refine with_tabW rg5_27.tab rg5_27.bits (fun HT_ HW_ => ?_)
              generalize wr.drew = w' at HB HP HM hHeld ⊢
              refine pure_ (i := 0) (N := some 136) (v := ?_) (a' := ?_) #[true, false, false, false, false, false, false, false, false, false, false, false, false, false, false, false, false, false, false, false, false, false, false, false, false, false, false, false] rfl rfl (any_of HT_.out (by kernel_rfl)) (fun _ _ _ h => h) (Or.inl ⟨by rfl, ?_⟩) ?_ ?_
              rotate_left
              · intro w'
                go_simp
                try with_reducible rfl
              rotate_left
              · simp (maxSteps := 4000000) only [Act.put, List.setIfInBounds_toArray, List.set_cons_zero, List.set_cons_succ, i64_w, i32_w]
                try rfl
              refine pure_ (i := 1) (N := some 137) (v := ?_) (a' := ?_) #[true, true, false, false, false, false, false, false, false, false, false, false, false, false, false, false, false, false, false, false, false, false, false, false, false, false, false, false] rfl rfl (any_of HT_.out (by kernel_rfl)) (fun _ _ _ h => h) (Or.inl ⟨by rfl, ?_⟩) ?_ ?_
              rotate_left
              · intro w'
                go_simp
                try with_reducible rfl
              rotate_left
              · simp (maxSteps := 4000000) only [Act.put, List.setIfInBounds_toArray, List.set_cons_zero, List.set_cons_succ, i64_w, i32_w]
                try rfl
              refine pure_ (i := 2) (N := some 138) (v := ?_) (a' := ?_) #[true, true, true, false, false, false, false, false, false, false, false, false, false, false, false, false, false, false, false, false, false, false, false, false, false, false, false, false] rfl rfl (any_of HT_.out (by kernel_rfl)) (fun _ _ _ h => h) (Or.inl ⟨by rfl, ?_⟩) ?_ ?_
              rotate_left
              · intro w'
                go_simp
                try with_reducible rfl
              rotate_left
              · simp (maxSteps := 4000000) only [Act.put, List.setIfInBounds_toArray, List.set_cons_zero, List.set_cons_succ, i64_w, i32_w]
                try rfl
              refine pure_ (i := 3) (N := some 139) (v := ?_) (a' := ?_) #[true, true, true, true, false, false, false, false, false, false, false, false, false, false, false, false, false, false, false, false, false, false, false, false, false, false, false, false] rfl rfl (any_of HT_.out (by kernel_rfl)) (fun _ _ _ h => h) (Or.inl ⟨by rfl, ?_⟩) ?_ ?_
              rotate_left
              · intro w'
                go_simp
                try with_reducible rfl
              rotate_left
              · simp (maxSteps := 4000000) only [Act.put, List.setIfInBounds_toArray, List.set_cons_zero, List.set_cons_succ, i64_w, i32_w]
                try rfl
              refine pure_ (i := 5) (N := some 141) (v := ?_) (a' := ?_) #[true, true, true, true, false, true, false, false, false, false, false, false, false, false, false, false, false, false, false, false, false, false, false, false, false, false, false, false] rfl rfl (any_of HT_.out (by kernel_rfl)) (fun _ _ _ h => h) (Or.inl ⟨by rfl, ?_⟩) ?_ ?_
              rotate_left
              · intro w'
                go_simp
                try with_reducible rfl
              rotate_left
              · simp (maxSteps := 4000000) only [Act.put, List.setIfInBounds_toArray, List.set_cons_zero, List.set_cons_succ, i64_w, i32_w]
                try rfl
              refine pure_ (i := 6) (N := some 142) (v := ?_) (a' := ?_) #[true, true, true, true, false, true, true, false, false, false, false, false, false, false, false, false, false, false, false, false, false, false, false, false, false, false, false, false] rfl rfl (any_of HT_.out (by kernel_rfl)) (fun _ _ _ h => h) (Or.inl ⟨by rfl, ?_⟩) ?_ ?_
              rotate_left
              · intro w'
                go_simp
                try with_reducible rfl
              rotate_left
              · simp (maxSteps := 4000000) only [Act.put, List.setIfInBounds_toArray, List.set_cons_zero, List.set_cons_succ, i64_w, i32_w]
                try rfl
              refine pure_ (i := 7) (N := some 143) (v := ?_) (a' := ?_) #[true, true, true, true, false, true, true, true, false, false, false, false, false, false, false, false, false, false, false, false, false, false, false, false, false, false, false, false] rfl rfl (any_of HT_.out (by kernel_rfl)) (fun _ _ _ h => h) (Or.inl ⟨by rfl, ?_⟩) ?_ ?_
              rotate_left
              · intro w'
                go_simp
                try with_reducible rfl
              rotate_left
              · simp (maxSteps := 4000000) only [Act.put, List.setIfInBounds_toArray, List.set_cons_zero, List.set_cons_succ, i64_w, i32_w]
                try rfl
              refine pure_ (i := 9) (N := some 145) (v := ?_) (a' := ?_) #[true, true, true, true, false, true, true, true, false, true, false, false, false, false, false, false, false, false, false, false, false, false, false, false, false, false, false, false] rfl rfl (any_of HT_.out (by kernel_rfl)) (fun _ _ _ h => h) (Or.inl ⟨by rfl, ?_⟩) ?_ ?_
              rotate_left
              · intro w'
                go_simp
                try with_reducible rfl
              rotate_left
              · simp (maxSteps := 4000000) only [Act.put, List.setIfInBounds_toArray, List.set_cons_zero, List.set_cons_succ, i64_w, i32_w]
                try rfl
              refine take_ (i := 8) (N := some 144) (v := ?_) (a' := ?_) #[true, true, true, true, false, true, true, true, true, true, false, false, false, false, false, false, false, false, false, false, false, false, false, false, false, false, false, false] rfl rfl (take_ofW HT_.out HW_.out (by kernel_rfl)) (fun _ _ _ h => h) (Or.inl ⟨by rfl, ?_⟩) hHeld ?_ ?_
              rotate_left
              · intro w' hw_
                try dsimp only at hw_
                go_simp
                try with_reducible rfl
              rotate_left
              · simp (maxSteps := 4000000) only [Act.put, List.setIfInBounds_toArray, List.set_cons_zero, List.set_cons_succ, i64_w, i32_w]
                try rfl
              refine pure_ (i := 10) (N := some 146) (v := ?_) (a' := ?_) #[true, true, true, true, false, true, true, true, true, true, true, false, false, false, false, false, false, false, false, false, false, false, false, false, false, false, false, false] rfl rfl (any_of HT_.out (by kernel_rfl)) (fun _ _ _ h => h) (Or.inl ⟨by rfl, ?_⟩) ?_ ?_
              rotate_left
              · intro w'
                go_simp
                try with_reducible rfl
              rotate_left
              · simp (maxSteps := 4000000) only [Act.put, List.setIfInBounds_toArray, List.set_cons_zero, List.set_cons_succ, i64_w, i32_w]
                try rfl
              refine take_ (i := 11) (N := some 147) (v := ?_) (a' := ?_) #[true, true, true, true, false, true, true, true, true, true, true, true, false, false, false, false, false, false, false, false, false, false, false, false, false, false, false, false] rfl rfl (take_ofW HT_.out HW_.out (by kernel_rfl)) (fun _ _ _ h => h) (Or.inl ⟨by rfl, ?_⟩) hHeld ?_ ?_
              rotate_left
              · intro w' hw_
                try dsimp only at hw_
                go_simp
                try with_reducible rfl
              rotate_left
              · simp (maxSteps := 4000000) only [Act.put, List.setIfInBounds_toArray, List.set_cons_zero, List.set_cons_succ, i64_w, i32_w]
                try rfl
              refine one_ (i := 4) (N := some 140) #[true, true, true, true, true, true, true, true, true, true, true, true, false, false, false, false, false, false, false, false, false, false, false, false, false, false, false, false] rfl rfl (one_of HT_.out (by kernel_rfl)) (by decide) (fun K hK => ?_)
              refine goes_ Try.func11 (by kernel_rfl) rfl #[(.pointer (some ⟨g, 0, none⟩)), (.int .i64 (k : Int))] (by rfl) rfl rfl (by (try simp only [List.map_toArray, List.map_cons, List.map_nil]); first | done | rfl) ?_
              refine (pool_state g r b2 (k : Int) w' HP.out).mono ?_
              rintro e w' ⟨rfl, rfl⟩
              refine ⟨_, rfl, ?_⟩
              rw [HE.out.1]
              refine hK.out _ _ (hHeld) (fun hHeld => ?_)
              clear hK K
              refine norm_ (a' := ?_) ?_ ?_
              rotate_left
              · show Act.put _ (some 140) _ = _
                simp (maxSteps := 4000000) only [Act.put, List.setIfInBounds_toArray, List.set_cons_zero, List.set_cons_succ, i64_w, i32_w]
                try rfl
              refine pure_ (i := 12) (N := some 148) (v := ?_) (a' := ?_) #[true, true, true, true, true, true, true, true, true, true, true, true, true, false, false, false, false, false, false, false, false, false, false, false, false, false, false, false] rfl rfl (any_of HT_.out (by kernel_rfl)) (fun _ _ _ h => h) (Or.inl ⟨by rfl, ?_⟩) ?_ ?_
              rotate_left
              · intro w'
                go_simp
                try with_reducible rfl
              rotate_left
              · simp (maxSteps := 4000000) only [Act.put, List.setIfInBounds_toArray, List.set_cons_zero, List.set_cons_succ, i64_w, i32_w]
                try rfl
              refine pure_ (i := 13) (N := some 149) (v := ?_) (a' := ?_) #[true, true, true, true, true, true, true, true, true, true, true, true, true, true, false, false, false, false, false, false, false, false, false, false, false, false, false, false] rfl rfl (any_of HT_.out (by kernel_rfl)) (fun _ _ _ h => h) (Or.inl ⟨by rfl, ?_⟩) ?_ ?_
              rotate_left
              · intro w'
                go_simp
                try with_reducible rfl
              rotate_left
              · simp (maxSteps := 4000000) only [Act.put, List.setIfInBounds_toArray, List.set_cons_zero, List.set_cons_succ, i64_w, i32_w]
                try rfl
              refine pure_ (i := 14) (N := some 150) (v := ?_) (a' := ?_) #[true, true, true, true, true, true, true, true, true, true, true, true, true, true, true, false, false, false, false, false, false, false, false, false, false, false, false, false] rfl rfl (any_of HT_.out (by kernel_rfl)) (fun _ _ _ h => h) (Or.inl ⟨by rfl, ?_⟩) ?_ ?_
              rotate_left
              · intro w'
                go_simp
                try with_reducible rfl
              rotate_left
              · simp (maxSteps := 4000000) only [Act.put, List.setIfInBounds_toArray, List.set_cons_zero, List.set_cons_succ, i64_w, i32_w]
                try rfl
              refine pure_ (i := 15) (N := some 151) (v := ?_) (a' := ?_) #[true, true, true, true, true, true, true, true, true, true, true, true, true, true, true, true, false, false, false, false, false, false, false, false, false, false, false, false] rfl rfl (any_of HT_.out (by kernel_rfl)) (fun _ _ _ h => h) (Or.inl ⟨by rfl, ?_⟩) ?_ ?_
              rotate_left
              · intro w'
                go_simp
                try with_reducible rfl
              rotate_left
              · simp (maxSteps := 4000000) only [Act.put, List.setIfInBounds_toArray, List.set_cons_zero, List.set_cons_succ, i64_w, i32_w]
                try rfl
              refine pure_ (i := 16) (N := some 152) (v := ?_) (a' := ?_) #[true, true, true, true, true, true, true, true, true, true, true, true, true, true, true, true, true, false, false, false, false, false, false, false, false, false, false, false] rfl rfl (any_of HT_.out (by kernel_rfl)) (fun _ _ _ h => h) (Or.inl ⟨by rfl, ?_⟩) ?_ ?_
              rotate_left
              · intro w'
                go_simp
                try with_reducible rfl
              rotate_left
              · simp (maxSteps := 4000000) only [Act.put, List.setIfInBounds_toArray, List.set_cons_zero, List.set_cons_succ, i64_w, i32_w]
                try rfl
              refine pure_ (i := 18) (N := some 154) (v := ?_) (a' := ?_) #[true, true, true, true, true, true, true, true, true, true, true, true, true, true, true, true, true, false, true, false, false, false, false, false, false, false, false, false] rfl rfl (any_of HT_.out (by kernel_rfl)) (fun _ _ _ h => h) (Or.inl ⟨by rfl, ?_⟩) ?_ ?_
              rotate_left
              · intro w'
                go_simp
                try with_reducible rfl
              rotate_left
              · simp (maxSteps := 4000000) only [Act.put, List.setIfInBounds_toArray, List.set_cons_zero, List.set_cons_succ, i64_w, i32_w]
                try rfl
              refine pure_ (i := 19) (N := some 155) (v := ?_) (a' := ?_) #[true, true, true, true, true, true, true, true, true, true, true, true, true, true, true, true, true, false, true, true, false, false, false, false, false, false, false, false] rfl rfl (any_of HT_.out (by kernel_rfl)) (fun _ _ _ h => h) (Or.inl ⟨by rfl, ?_⟩) ?_ ?_
              rotate_left
              · intro w'
                go_simp
                try with_reducible rfl
              rotate_left
              · simp (maxSteps := 4000000) only [Act.put, List.setIfInBounds_toArray, List.set_cons_zero, List.set_cons_succ, i64_w, i32_w]
                try rfl
              refine pure_ (i := 20) (N := some 156) (v := ?_) (a' := ?_) #[true, true, true, true, true, true, true, true, true, true, true, true, true, true, true, true, true, false, true, true, true, false, false, false, false, false, false, false] rfl rfl (any_of HT_.out (by kernel_rfl)) (fun _ _ _ h => h) (Or.inl ⟨by rfl, ?_⟩) ?_ ?_
              rotate_left
              · intro w'
                go_simp
                try with_reducible rfl
              rotate_left
              · simp (maxSteps := 4000000) only [Act.put, List.setIfInBounds_toArray, List.set_cons_zero, List.set_cons_succ, i64_w, i32_w]
                try rfl
              refine pure_ (i := 22) (N := some 158) (v := ?_) (a' := ?_) #[true, true, true, true, true, true, true, true, true, true, true, true, true, true, true, true, true, false, true, true, true, false, true, false, false, false, false, false] rfl rfl (any_of HT_.out (by kernel_rfl)) (fun _ _ _ h => h) (Or.inl ⟨by rfl, ?_⟩) ?_ ?_
              rotate_left
              · intro w'
                go_simp
                try with_reducible rfl
              rotate_left
              · simp (maxSteps := 4000000) only [Act.put, List.setIfInBounds_toArray, List.set_cons_zero, List.set_cons_succ, i64_w, i32_w]
                try rfl
              refine take_ (i := 21) (N := some 157) (v := ?_) (a' := ?_) #[true, true, true, true, true, true, true, true, true, true, true, true, true, true, true, true, true, false, true, true, true, true, true, false, false, false, false, false] rfl rfl (take_ofW HT_.out HW_.out (by kernel_rfl)) (fun _ _ _ h => h) (Or.inl ⟨by rfl, ?_⟩) hHeld ?_ ?_
              rotate_left
              · intro w' hw_
                try dsimp only at hw_
                go_simp
                try with_reducible rfl
              rotate_left
              · simp (maxSteps := 4000000) only [Act.put, List.setIfInBounds_toArray, List.set_cons_zero, List.set_cons_succ, i64_w, i32_w]
                try rfl
              refine pure_ (i := 23) (N := some 159) (v := ?_) (a' := ?_) #[true, true, true, true, true, true, true, true, true, true, true, true, true, true, true, true, true, false, true, true, true, true, true, true, false, false, false, false] rfl rfl (any_of HT_.out (by kernel_rfl)) (fun _ _ _ h => h) (Or.inl ⟨by rfl, ?_⟩) ?_ ?_
              rotate_left
              · intro w'
                go_simp
                try with_reducible rfl
              rotate_left
              · simp (maxSteps := 4000000) only [Act.put, List.setIfInBounds_toArray, List.set_cons_zero, List.set_cons_succ, i64_w, i32_w]
                try rfl
              refine take_ (i := 24) (N := some 160) (v := ?_) (a' := ?_) #[true, true, true, true, true, true, true, true, true, true, true, true, true, true, true, true, true, false, true, true, true, true, true, true, true, false, false, false] rfl rfl (take_ofW HT_.out HW_.out (by kernel_rfl)) (fun _ _ _ h => h) (Or.inl ⟨by rfl, ?_⟩) hHeld ?_ ?_
              rotate_left
              · intro w' hw_
                try dsimp only at hw_
                go_simp
                try with_reducible rfl
              rotate_left
              · simp (maxSteps := 4000000) only [Act.put, List.setIfInBounds_toArray, List.set_cons_zero, List.set_cons_succ, i64_w, i32_w]
                try rfl
              refine one_ (i := 17) (N := some 153) #[true, true, true, true, true, true, true, true, true, true, true, true, true, true, true, true, true, true, true, true, true, true, true, true, true, false, false, false] rfl rfl (one_of HT_.out (by kernel_rfl)) (by decide) (fun K hK => ?_)
              refine goes_ Try.func14 (by kernel_rfl) rfl #[(.pointer (some ⟨g, 0, none⟩)), (.int .i64 (k : Int))] (by rfl) rfl rfl (by (try simp only [List.map_toArray, List.map_cons, List.map_nil]); first | done | rfl) ?_
              refine (pool_wear g r b2 (k : Int) w' HP.out).mono ?_
              rintro e w' ⟨rfl, rfl⟩
              refine ⟨_, rfl, ?_⟩
              rw [HE.out.2]
              refine hK.out _ _ (hHeld) (fun hHeld => ?_)
              clear hK K
              refine norm_ (a' := ?_) ?_ ?_
              rotate_left
              · show Act.put _ (some 153) _ = _
                simp (maxSteps := 4000000) only [Act.put, List.setIfInBounds_toArray, List.set_cons_zero, List.set_cons_succ, i64_w, i32_w]
                try rfl
              refine pure_ (i := 25) (N := some 161) (v := ?_) (a' := ?_) #[true, true, true, true, true, true, true, true, true, true, true, true, true, true, true, true, true, true, true, true, true, true, true, true, true, true, false, false] rfl rfl (any_of HT_.out (by kernel_rfl)) (fun _ _ _ h => h) (Or.inl ⟨by rfl, ?_⟩) ?_ ?_
              rotate_left
              · intro w'
                go_simp
                try with_reducible rfl
              rotate_left
              · simp (maxSteps := 4000000) only [Act.put, List.setIfInBounds_toArray, List.set_cons_zero, List.set_cons_succ, i64_w, i32_w]
                try rfl
              refine pure_ (i := 26) (N := some 162) (v := ?_) (a' := ?_) #[true, true, true, true, true, true, true, true, true, true, true, true, true, true, true, true, true, true, true, true, true, true, true, true, true, true, true, false] rfl rfl (any_of HT_.out (by kernel_rfl)) (fun _ _ _ h => h) (Or.inl ⟨by rfl, ?_⟩) ?_ ?_
              rotate_left
              · intro w'
                go_simp
                try with_reducible rfl
              rotate_left
              · simp (maxSteps := 4000000) only [Act.put, List.setIfInBounds_toArray, List.set_cons_zero, List.set_cons_succ, i64_w, i32_w]
                try rfl
              refine pure_ (i := 27) (N := some 11) (v := ?_) (a' := ?_) #[true, true, true, true, true, true, true, true, true, true, true, true, true, true, true, true, true, true, true, true, true, true, true, true, true, true, true, true] rfl rfl (any_of HT_.out (by kernel_rfl)) (fun _ _ _ h => h) (Or.inl ⟨by rfl, ?_⟩) ?_ ?_
              rotate_left
              · intro w'
                go_simp
                try with_reducible rfl
              rotate_left
              · simp (maxSteps := 4000000) only [Act.put, List.setIfInBounds_toArray, List.set_cons_zero, List.set_cons_succ, i64_w, i32_w]
                try rfl
              refine done_ (done_of HT_.out (by kernel_rfl)) ?_
              go_wp2
              go_roundw
              case rel => exact ⟨k + 1, hlk, by rw [e4], rfl, HP.out, HM.out, HB.out⟩
              case measure => rw [e4]; simp only [RowKit.intOf, Int.toNat_natCast]; exact Nat.sub_lt_sub_left hlk (Nat.lt_succ_self k)
            · obtain rfl : k = n := Nat.le_antisymm hk (Nat.le_of_not_lt hlk)
              go_wp2_with fail
              go_loopw [11, 164] (fun ok i wr => ∃ s : Nat, s ≤ 5 ∧ i = .int .i64 (s : Int) ∧ ok = .bool true ∧ PoolAt wr g r b2 ∧ RefAt wr gm sa sb b2 ∧ Below w.heap.size w wr) (fun _ i _ => 5 - (RowKit.intOf i).toNat)
              case atStart => exact ⟨0, Nat.zero_le _, rfl, rfl, HP.out, HM.out, HB.out⟩
              case round =>
                clear HP HM HB
                obtain ⟨s, hs, rfl, rfl, h1, h2, h3⟩ := hrel
                have HP := Lib.hid h1; clear h1
                have HM := Lib.hid h2; clear h2
                have HB := Lib.hid h3; clear h3
                by_cases hls : s < 5
                · have e5 : wrap64 ((s : Int) + 1) = ((s + 1 : Nat) : Int) := wrap_succ s (Nat.lt_trans hls (by decide))
                  go_wp2_with fail
                  refine (pool_count g r b2 (s : Int) wr HP.out).mono ?_
                  rintro e wF ⟨rfl, hd⟩
                  replace HP := Lib.hid (HP.out.below hd)
                  replace HM := Lib.hid (HM.out.below hd)
                  replace HB := Lib.hid (chainC HB.out hd); clear hd
                  go_wp2_with fail
                  refine (ref_count gm sa sb b2 (s : Int) wF HM.out).mono ?_
                  rintro e wF ⟨rfl, rfl⟩
                  generalize countB b2 (s : Int) = cv
                  go_wp2
                  go_roundw
                  case rel => exact ⟨s + 1, hls, by first | rw [e5] | rfl, rfl, HP.out, HM.out, HB.out⟩
                  case measure => (first | rw [e5] | rw [show (s : Int) + 1 = ((s + 1 : Nat) : Int) from rfl]); simp only [RowKit.intOf, Int.toNat_natCast]; exact Nat.sub_lt_sub_left hls (Nat.lt_succ_self s)
                · obtain rfl : s = 5 := Nat.le_antisymm hs (Nat.le_of_not_lt hls)
                  go_wp2_with fail
                  refine (pool_spread g r b2 wr HP.out).mono ?_
                  rintro e wF ⟨rfl, hd⟩
                  replace HP := Lib.hid (HP.out.below hd)
                  replace HM := Lib.hid (HM.out.below hd)
                  replace HB := Lib.hid (chainC HB.out hd); clear hd
                  rw [(spr_spread b2 HG2.out.2).1, (spr_spread b2 HG2.out.2).2]
                  go_wp2_with fail
                  refine (ref_spread gm sa sb b2 wF HM.out).mono ?_
                  rintro e wF ⟨rfl, rfl⟩
                  generalize sprR b2 = sp
                  obtain ⟨lo, hi, fi⟩ := sp
                  have HO1 := Lib.hid (stB_out b2 (k : Int) (.inr (by rw [HG2.out.1]; exact Int.le_refl _)))
                  have HO2 := Lib.hid (stB_out b2 (-1) (.inl (by decide)))
                  go_wp2_with fail
                  refine (pool_state g r b2 (k : Int) _ HP.out).mono ?_
                  rintro e wF ⟨rfl, rfl⟩
                  rw [HO1.out.1]
                  go_wp2_with fail
                  refine (pool_state g r b2 (-1) _ HP.out).mono ?_
                  rintro e wF ⟨rfl, rfl⟩
                  rw [HO2.out.1]
                  go_wp2_with fail
                  refine (pool_wear g r b2 (k : Int) _ HP.out).mono ?_
                  rintro e wF ⟨rfl, rfl⟩
                  rw [HO1.out.2]
                  go_wp2
                  go_roundw
                  case rel => exact ⟨j + 1, b2, hlt, by rw [e3], HG2.out, HP.out, HM.out, HB.out⟩
                  case measure => rw [e3]; simp only [RowKit.intOf, Int.toNat_natCast]; exact Nat.sub_lt_sub_left hlt (Nat.lt_succ_self j)
      · as_aux_lemma =>
          go_wp2_with fail
          clear k0 k1 k2 s0 s1 s2 hmod hmod2 hd0
          generalize (wr.alloc (Obj.cells #[Value.int IntKind.i64 x, Value.int IntKind.i64 y, Value.int IntKind.i64 z] 46)) = wA at HP HM HB HSB ⊢
          generalize wr.heap.size = bx at HSB HNb ⊢
          have hS := HSB.out.2
          replace HP := Lib.hid (show PoolAt wA.drew g r bs from ⟨HP.out.head, HP.out.row, HP.out.ne, HP.out.max⟩)
          replace HM := Lib.hid (show RefAt wA.drew gm sa sb bs from ⟨HM.out.head, HM.out.rowS, HM.out.rowW, HM.out.n1, HM.out.n2, HM.out.n3, HM.out.max⟩)
          replace HB := Lib.hid (show Below w.heap.size w wA.drew from below_drew1 HB.out)
          clear HSB
          refine start_ (n := 14) (S := fun w' => w'.cell? ⟨bx, 1, none⟩ = some (.int .i64 y) ∧ w'.cell? ⟨bx, 2, none⟩ = some (.int .i64 z)) (ds := []) #[false, false, false, false, false, false, false, false, false, false, false, false, false, false] (by kernel_rfl) rfl rfl hS (fun hHeld => ?_)
          refine with_tabW rg5_14.tab rg5_14.bits (fun HT_ HW_ => ?_)
          generalize wA.drew = w' at HB HP HM hHeld ⊢
          refine pure_ (i := 0) (N := some 78) (v := ?_) (a' := ?_) #[true, false, false, false, false, false, false, false, false, false, false, false, false, false] rfl rfl (any_of HT_.out (by kernel_rfl)) (fun _ _ _ h => h) (Or.inl ⟨by rfl, ?_⟩) ?_ ?_
          rotate_left
          · intro w'
            go_simp
            try with_reducible rfl
          rotate_left
          · simp (maxSteps := 4000000) only [Act.put, List.setIfInBounds_toArray, List.set_cons_zero, List.set_cons_succ, i64_w, i32_w]
            try rfl
          refine pure_ (i := 1) (N := some 79) (v := ?_) (a' := ?_) #[true, true, false, false, false, false, false, false, false, false, false, false, false, false] rfl rfl (any_of HT_.out (by kernel_rfl)) (fun _ _ _ h => h) (Or.inl ⟨by rfl, ?_⟩) ?_ ?_
          rotate_left
          · intro w'
            go_simp
            try with_reducible rfl
          rotate_left
          · simp (maxSteps := 4000000) only [Act.put, List.setIfInBounds_toArray, List.set_cons_zero, List.set_cons_succ, i64_w, i32_w]
            try rfl
          refine pure_ (i := 3) (N := some 81) (v := ?_) (a' := ?_) #[true, true, false, true, false, false, false, false, false, false, false, false, false, false] rfl rfl (any_of HT_.out (by kernel_rfl)) (fun _ _ _ h => h) (Or.inl ⟨by rfl, ?_⟩) ?_ ?_
          rotate_left
          · intro w'
            go_simp
            try with_reducible rfl
          rotate_left
          · simp (maxSteps := 4000000) only [Act.put, List.setIfInBounds_toArray, List.set_cons_zero, List.set_cons_succ, i64_w, i32_w]
            try rfl
          refine pure_ (i := 6) (N := some 84) (v := ?_) (a' := ?_) #[true, true, false, true, false, false, true, false, false, false, false, false, false, false] rfl rfl (any_of HT_.out (by kernel_rfl)) (fun _ _ _ h => h) (Or.inl ⟨by rfl, ?_⟩) ?_ ?_
          rotate_left
          · intro w'
            go_simp
            try with_reducible rfl
          rotate_left
          · simp (maxSteps := 4000000) only [Act.put, List.setIfInBounds_toArray, List.set_cons_zero, List.set_cons_succ, i64_w, i32_w]
            try rfl
          refine pure_ (i := 7) (N := some 85) (v := ?_) (a' := ?_) #[true, true, false, true, false, false, true, true, false, false, false, false, false, false] rfl rfl (any_of HT_.out (by kernel_rfl)) (fun _ _ _ h => h) (Or.inl ⟨by rfl, ?_⟩) ?_ ?_
          rotate_left
          · intro w'
            go_simp
            try with_reducible rfl
          rotate_left
          · simp (maxSteps := 4000000) only [Act.put, List.setIfInBounds_toArray, List.set_cons_zero, List.set_cons_succ, i64_w, i32_w]
            try rfl
          refine pure_ (i := 9) (N := some 87) (v := ?_) (a' := ?_) #[true, true, false, true, false, false, true, true, false, true, false, false, false, false] rfl rfl (any_of HT_.out (by kernel_rfl)) (fun _ _ _ h => h) (Or.inl ⟨by rfl, ?_⟩) ?_ ?_
          rotate_left
          · intro w'
            go_simp
            try with_reducible rfl
          rotate_left
          · simp (maxSteps := 4000000) only [Act.put, List.setIfInBounds_toArray, List.set_cons_zero, List.set_cons_succ, i64_w, i32_w]
            try rfl
          refine take_ (i := 2) (N := some 80) (v := ?_) (a' := ?_) #[true, true, true, true, false, false, true, true, false, true, false, false, false, false] rfl rfl (take_ofW HT_.out HW_.out (by kernel_rfl)) (fun _ _ _ h => h) (Or.inl ⟨by rfl, ?_⟩) hHeld ?_ ?_
          rotate_left
          · intro w' hw_
            try dsimp only at hw_
            go_simp
            try with_reducible rfl
          rotate_left
          · simp (maxSteps := 4000000) only [Act.put, List.setIfInBounds_toArray, List.set_cons_zero, List.set_cons_succ, i64_w, i32_w]
            try rfl
          refine take_ (i := 4) (N := some 82) (v := ?_) (a' := ?_) #[true, true, true, true, true, false, true, true, false, true, false, false, false, false] rfl rfl (take_ofW HT_.out HW_.out (by kernel_rfl)) (fun _ _ _ h => h) (Or.inl ⟨by rfl, ?_⟩) hHeld ?_ ?_
          rotate_left
          · intro w' hw_
            try dsimp only at hw_
            go_simp
            try with_reducible rfl
          rotate_left
          · simp (maxSteps := 4000000) only [Act.put, List.setIfInBounds_toArray, List.set_cons_zero, List.set_cons_succ, i64_w, i32_w]
            try rfl
          refine take_ (i := 8) (N := some 86) (v := ?_) (a' := ?_) #[true, true, true, true, true, false, true, true, true, true, false, false, false, false] rfl rfl (take_ofW HT_.out HW_.out (by kernel_rfl)) (fun _ _ _ h => h) (Or.inl ⟨by rfl, ?_⟩) hHeld ?_ ?_
          rotate_left
          · intro w' hw_
            try dsimp only at hw_
            go_simp
            try with_reducible rfl
          rotate_left
          · simp (maxSteps := 4000000) only [Act.put, List.setIfInBounds_toArray, List.set_cons_zero, List.set_cons_succ, i64_w, i32_w]
            try rfl
          refine take_ (i := 10) (N := some 88) (v := ?_) (a' := ?_) #[true, true, true, true, true, false, true, true, true, true, true, false, false, false] rfl rfl (take_ofW HT_.out HW_.out (by kernel_rfl)) (fun _ _ _ h => h) (Or.inl ⟨by rfl, ?_⟩) hHeld ?_ ?_
          rotate_left
          · intro w' hw_
            try dsimp only at hw_
            go_simp
            try with_reducible rfl
          rotate_left
          · simp (maxSteps := 4000000) only [Act.put, List.setIfInBounds_toArray, List.set_cons_zero, List.set_cons_succ, i64_w, i32_w]
            try rfl
          refine one_ (i := 5) (N := some 83) #[true, true, true, true, true, true, true, true, true, true, true, false, false, false] rfl rfl (one_of HT_.out (by kernel_rfl)) (by decide) (fun K hK => ?_)
          refine goes_ Try.func9 (by kernel_rfl) rfl #[(.pointer (some ⟨g, 0, none⟩)), (.int .i64 y), (.int .i64 z)] (by rfl) rfl rfl (by (try simp only [List.map_toArray, List.map_cons, List.map_nil]); first | done | rfl) ?_
          refine (pool_worn g r bs y z w' HP.out).mono ?_
          rintro e w' ⟨rfl, hp, hd⟩
          refine ⟨_, rfl, ?_⟩
          have hSS := ActC.grown hHeld hd HNb.out.1
          replace HM := Lib.hid (HM.out.grown hd HNe.out.2.1 HNe.out.2.2.2.1 HNe.out.2.2.2.2.2)
          replace HB := Lib.hid (below_row HB.out HG.out.2 hd HB.out.size)
          replace HP := Lib.hid hp
          clear hp hd
          refine hK.out _ _ (hSS) (fun hHeld => ?_)
          clear hK K
          refine norm_ (a' := ?_) ?_ ?_
          rotate_left
          · show Act.put _ (some 83) _ = _
            simp (maxSteps := 4000000) only [Act.put, List.setIfInBounds_toArray, List.set_cons_zero, List.set_cons_succ, i64_w, i32_w]
            try rfl
          refine one_ (i := 11) (N := some 89) #[true, true, true, true, true, true, true, true, true, true, true, true, false, false] rfl rfl (one_of HT_.out (by kernel_rfl)) (by decide) (fun K hK => ?_)
          refine goes_ Try.func19 (by kernel_rfl) rfl #[(.pointer (some ⟨gm, 0, none⟩)), (.int .i64 y), (.int .i64 z)] (by rfl) rfl rfl (by (try simp only [List.map_toArray, List.map_cons, List.map_nil]); first | done | rfl) ?_
          refine (ref_worn gm sa sb bs y z w' HM.out).mono ?_
          rintro e w' ⟨rfl, hm, hd⟩
          refine ⟨_, rfl, ?_⟩
          have hSS := ActC.grown hHeld hd HNb.out.2.2
          replace HP := Lib.hid (HP.out.grown' hd (Ne.symm HNe.out.2.2.2.2.1) (Ne.symm HNe.out.2.2.2.2.2))
          replace HB := Lib.hid (below_row HB.out HGm.out.2.2 hd HB.out.size)
          replace HM := Lib.hid hm
          clear hm hd
          refine hK.out _ _ (hSS) (fun hHeld => ?_)
          clear hK K
          refine norm_ (a' := ?_) ?_ ?_
          rotate_left
          · show Act.put _ (some 89) _ = _
            simp (maxSteps := 4000000) only [Act.put, List.setIfInBounds_toArray, List.set_cons_zero, List.set_cons_succ, i64_w, i32_w]
            try rfl
          refine pure_ (i := 12) (N := some 90) (v := ?_) (a' := ?_) #[true, true, true, true, true, true, true, true, true, true, true, true, true, false] rfl rfl (any_of HT_.out (by kernel_rfl)) (fun _ _ _ h => h) (Or.inl ⟨by rfl, ?_⟩) ?_ ?_
          rotate_left
          · intro w'
            go_simp
            try with_reducible rfl
          rotate_left
          · simp (maxSteps := 4000000) only [Act.put, List.setIfInBounds_toArray, List.set_cons_zero, List.set_cons_succ, i64_w, i32_w]
            try rfl
          refine pure_ (i := 13) (N := some 11) (v := ?_) (a' := ?_) #[true, true, true, true, true, true, true, true, true, true, true, true, true, true] rfl rfl (any_of HT_.out (by kernel_rfl)) (fun _ _ _ h => h) (Or.inl ⟨by rfl, ?_⟩) ?_ ?_
          rotate_left
          · intro w'
            go_simp
            try with_reducible rfl
          rotate_left
          · simp (maxSteps := 4000000) only [Act.put, List.setIfInBounds_toArray, List.set_cons_zero, List.set_cons_succ, i64_w, i32_w]
            try rfl
          refine done_ (done_of HT_.out (by kernel_rfl)) ?_
          have HG2 := Lib.hid (good_worn HGd.out y z)
          clear HGd
          generalize wornL bs y z = b2 at HP HM HG2
          go_wp2_with fail
          go_loopw [11, 133] (fun ok i wr => ∃ k : Nat, k ≤ n ∧ i = .int .i64 (k : Int) ∧ ok = .bool true ∧ PoolAt wr g r b2 ∧ RefAt wr gm sa sb b2 ∧ Below w.heap.size w wr) (fun _ i _ => n - (RowKit.intOf i).toNat)
          case atStart => exact ⟨0, Nat.zero_le _, rfl, rfl, HP.out, HM.out, HB.out⟩
          case round =>
            clear HP HM HB
            obtain ⟨k, hk, rfl, rfl, h1, h2, h3⟩ := hrel
            have HP := Lib.hid h1; clear h1
            have HM := Lib.hid h2; clear h2
            have HB := Lib.hid h3; clear h3
            by_cases hlk : k < n
            · have hkl : k < b2.length := by rw [HG2.out.1]; exact hlk
              have eS := stB_in b2 k hkl
              have e4 : wrap64 ((k : Int) + 1) = ((k + 1 : Nat) : Int) := wrap_succ k (Nat.lt_trans hlk (Nat.lt_of_le_of_lt HS.out.2 (by decide)))
              have hS := And.intro HM.out.cell0 (And.intro HM.out.cell1 (And.intro (HM.out.s0 k hkl) (HM.out.w0 k hkl)))
              generalize b2[k].1 = sv at eS hS
              generalize b2[k].2 = wv at eS hS
              have HE := Lib.hid eS; clear eS
              have HSc := Lib.hid hS; clear hS
              go_wp2_with fail
              have hS := HSc.out; clear HSc
              replace HP := Lib.hid (show PoolAt wr.drew g r b2 from ⟨HP.out.head, HP.out.row, HP.out.ne, HP.out.max⟩)
              replace HM := Lib.hid (show RefAt wr.drew gm sa sb b2 from ⟨HM.out.head, HM.out.rowS, HM.out.rowW, HM.out.n1, HM.out.n2, HM.out.n3, HM.out.max⟩)
              replace HB := Lib.hid (show Below w.heap.size w wr.drew from below_drew1 HB.out)
              refine start_ (n := 28) (S := fun w' => w'.cell? ⟨gm, 0, none⟩ = some (.slice (some ⟨sa, 0, none⟩) b2.length b2.length) ∧ w'.cell? ⟨gm, 1, none⟩ = some (.slice (some ⟨sb, 0, none⟩) b2.length b2.length) ∧ w'.cell? ⟨sa, k, none⟩ = some (.int .i64 sv) ∧ w'.cell? ⟨sb, k, none⟩ = some (.int .i64 wv)) (ds := []) #[false, false, false, false, false, false, false, false, false, false, false, false, false, false, false, false, false, false, false, false, false, false, false, false, false, false, false, false] (by kernel_rfl) rfl rfl hS (fun hHeld => ?_)
              refine with_tabW rg5_27.tab rg5_27.bits (fun HT_ HW_ => ?_)
              generalize wr.drew = w' at HB HP HM hHeld ⊢
              refine pure_ (i := 0) (N := some 136) (v := ?_) (a' := ?_) #[true, false, false, false, false, false, false, false, false, false, false, false, false, false, false, false, false, false, false, false, false, false, false, false, false, false, false, false] rfl rfl (any_of HT_.out (by kernel_rfl)) (fun _ _ _ h => h) (Or.inl ⟨by rfl, ?_⟩) ?_ ?_
              rotate_left
              · intro w'
                go_simp
                try with_reducible rfl
              rotate_left
              · simp (maxSteps := 4000000) only [Act.put, List.setIfInBounds_toArray, List.set_cons_zero, List.set_cons_succ, i64_w, i32_w]
                try rfl
              refine pure_ (i := 1) (N := some 137) (v := ?_) (a' := ?_) #[true, true, false, false, false, false, false, false, false, false, false, false, false, false, false, false, false, false, false, false, false, false, false, false, false, false, false, false] rfl rfl (any_of HT_.out (by kernel_rfl)) (fun _ _ _ h => h) (Or.inl ⟨by rfl, ?_⟩) ?_ ?_
              rotate_left
              · intro w'
                go_simp
                try with_reducible rfl
              rotate_left
              · simp (maxSteps := 4000000) only [Act.put, List.setIfInBounds_toArray, List.set_cons_zero, List.set_cons_succ, i64_w, i32_w]
                try rfl
              refine pure_ (i := 2) (N := some 138) (v := ?_) (a' := ?_) #[true, true, true, false, false, false, false, false, false, false, false, false, false, false, false, false, false, false, false, false, false, false, false, false, false, false, false, false] rfl rfl (any_of HT_.out (by kernel_rfl)) (fun _ _ _ h => h) (Or.inl ⟨by rfl, ?_⟩) ?_ ?_
              rotate_left
              · intro w'
                go_simp
                try with_reducible rfl
              rotate_left
              · simp (maxSteps := 4000000) only [Act.put, List.setIfInBounds_toArray, List.set_cons_zero, List.set_cons_succ, i64_w, i32_w]
                try rfl
              refine pure_ (i := 3) (N := some 139) (v := ?_) (a' := ?_) #[true, true, true, true, false, false, false, false, false, false, false, false, false, false, false, false, false, false, false, false, false, false, false, false, false, false, false, false] rfl rfl (any_of HT_.out (by kernel_rfl)) (fun _ _ _ h => h) (Or.inl ⟨by rfl, ?_⟩) ?_ ?_
              rotate_left
              · intro w'
                go_simp
                try with_reducible rfl
              rotate_left
              · simp (maxSteps := 4000000) only [Act.put, List.setIfInBounds_toArray, List.set_cons_zero, List.set_cons_succ, i64_w, i32_w]
                try rfl
              refine pure_ (i := 5) (N := some 141) (v := ?_) (a' := ?_) #[true, true, true, true, false, true, false, false, false, false, false, false, false, false, false, false, false, false, false, false, false, false, false, false, false, false, false, false] rfl rfl (any_of HT_.out (by kernel_rfl)) (fun _ _ _ h => h) (Or.inl ⟨by rfl, ?_⟩) ?_ ?_
              rotate_left
              · intro w'
                go_simp
                try with_reducible rfl
              rotate_left
              · simp (maxSteps := 4000000) only [Act.put, List.setIfInBounds_toArray, List.set_cons_zero, List.set_cons_succ, i64_w, i32_w]
                try rfl
              refine pure_ (i := 6) (N := some 142) (v := ?_) (a' := ?_) #[true, true, true, true, false, true, true, false, false, false, false, false, false, false, false, false, false, false, false, false, false, false, false, false, false, false, false, false] rfl rfl (any_of HT_.out (by kernel_rfl)) (fun _ _ _ h => h) (Or.inl ⟨by rfl, ?_⟩) ?_ ?_
              rotate_left
              · intro w'
                go_simp
                try with_reducible rfl
              rotate_left
              · simp (maxSteps := 4000000) only [Act.put, List.setIfInBounds_toArray, List.set_cons_zero, List.set_cons_succ, i64_w, i32_w]
                try rfl
              refine pure_ (i := 7) (N := some 143) (v := ?_) (a' := ?_) #[true, true, true, true, false, true, true, true, false, false, false, false, false, false, false, false, false, false, false, false, false, false, false, false, false, false, false, false] rfl rfl (any_of HT_.out (by kernel_rfl)) (fun _ _ _ h => h) (Or.inl ⟨by rfl, ?_⟩) ?_ ?_
              rotate_left
              · intro w'
                go_simp
                try with_reducible rfl
              rotate_left
              · simp (maxSteps := 4000000) only [Act.put, List.setIfInBounds_toArray, List.set_cons_zero, List.set_cons_succ, i64_w, i32_w]
                try rfl
              refine pure_ (i := 9) (N := some 145) (v := ?_) (a' := ?_) #[true, true, true, true, false, true, true, true, false, true, false, false, false, false, false, false, false, false, false, false, false, false, false, false, false, false, false, false] rfl rfl (any_of HT_.out (by kernel_rfl)) (fun _ _ _ h => h) (Or.inl ⟨by rfl, ?_⟩) ?_ ?_
              rotate_left
              · intro w'
                go_simp
                try with_reducible rfl
              rotate_left
              · simp (maxSteps := 4000000) only [Act.put, List.setIfInBounds_toArray, List.set_cons_zero, List.set_cons_succ, i64_w, i32_w]
                try rfl
              refine take_ (i := 8) (N := some 144) (v := ?_) (a' := ?_) #[true, true, true, true, false, true, true, true, true, true, false, false, false, false, false, false, false, false, false, false, false, false, false, false, false, false, false, false] rfl rfl (take_ofW HT_.out HW_.out (by kernel_rfl)) (fun _ _ _ h => h) (Or.inl ⟨by rfl, ?_⟩) hHeld ?_ ?_
              rotate_left
              · intro w' hw_
                try dsimp only at hw_
                go_simp
                try with_reducible rfl
              rotate_left
              · simp (maxSteps := 4000000) only [Act.put, List.setIfInBounds_toArray, List.set_cons_zero, List.set_cons_succ, i64_w, i32_w]
                try rfl
              refine pure_ (i := 10) (N := some 146) (v := ?_) (a' := ?_) #[true, true, true, true, false, true, true, true, true, true, true, false, false, false, false, false, false, false, false, false, false, false, false, false, false, false, false, false] rfl rfl (any_of HT_.out (by kernel_rfl)) (fun _ _ _ h => h) (Or.inl ⟨by rfl, ?_⟩) ?_ ?_
              rotate_left
              · intro w'
                go_simp
                try with_reducible rfl
              rotate_left
              · simp (maxSteps := 4000000) only [Act.put, List.setIfInBounds_toArray, List.set_cons_zero, List.set_cons_succ, i64_w, i32_w]
                try rfl
              refine take_ (i := 11) (N := some 147) (v := ?_) (a' := ?_) #[true, true, true, true, false, true, true, true, true, true, true, true, false, false, false, false, false, false, false, false, false, false, false, false, false, false, false, false] rfl rfl (take_ofW HT_.out HW_.out (by kernel_rfl)) (fun _ _ _ h => h) (Or.inl ⟨by rfl, ?_⟩) hHeld ?_ ?_
              rotate_left
              · intro w' hw_
                try dsimp only at hw_
                go_simp
                try with_reducible rfl
              rotate_left
              · simp (maxSteps := 4000000) only [Act.put, List.setIfInBounds_toArray, List.set_cons_zero, List.set_cons_succ, i64_w, i32_w]
                try rfl
              refine one_ (i := 4) (N := some 140) #[true, true, true, true, true, true, true, true, true, true, true, true, false, false, false, false, false, false, false, false, false, false, false, false, false, false, false, false] rfl rfl (one_of HT_.out (by kernel_rfl)) (by decide) (fun K hK => ?_)
              refine goes_ Try.func11 (by kernel_rfl) rfl #[(.pointer (some ⟨g, 0, none⟩)), (.int .i64 (k : Int))] (by rfl) rfl rfl (by (try simp only [List.map_toArray, List.map_cons, List.map_nil]); first | done | rfl) ?_
              refine (pool_state g r b2 (k : Int) w' HP.out).mono ?_
              rintro e w' ⟨rfl, rfl⟩
              refine ⟨_, rfl, ?_⟩
              rw [HE.out.1]
              refine hK.out _ _ (hHeld) (fun hHeld => ?_)
              clear hK K
              refine norm_ (a' := ?_) ?_ ?_
              rotate_left
              · show Act.put _ (some 140) _ = _
                simp (maxSteps := 4000000) only [Act.put, List.setIfInBounds_toArray, List.set_cons_zero, List.set_cons_succ, i64_w, i32_w]
                try rfl
              refine pure_ (i := 12) (N := some 148) (v := ?_) (a' := ?_) #[true, true, true, true, true, true, true, true, true, true, true, true, true, false, false, false, false, false, false, false, false, false, false, false, false, false, false, false] rfl rfl (any_of HT_.out (by kernel_rfl)) (fun _ _ _ h => h) (Or.inl ⟨by rfl, ?_⟩) ?_ ?_
              rotate_left
              · intro w'
                go_simp
                try with_reducible rfl
              rotate_left
              · simp (maxSteps := 4000000) only [Act.put, List.setIfInBounds_toArray, List.set_cons_zero, List.set_cons_succ, i64_w, i32_w]
                try rfl
              refine pure_ (i := 13) (N := some 149) (v := ?_) (a' := ?_) #[true, true, true, true, true, true, true, true, true, true, true, true, true, true, false, false, false, false, false, false, false, false, false, false, false, false, false, false] rfl rfl (any_of HT_.out (by kernel_rfl)) (fun _ _ _ h => h) (Or.inl ⟨by rfl, ?_⟩) ?_ ?_
              rotate_left
              · intro w'
                go_simp
                try with_reducible rfl
              rotate_left
              · simp (maxSteps := 4000000) only [Act.put, List.setIfInBounds_toArray, List.set_cons_zero, List.set_cons_succ, i64_w, i32_w]
                try rfl
              refine pure_ (i := 14) (N := some 150) (v := ?_) (a' := ?_) #[true, true, true, true, true, true, true, true, true, true, true, true, true, true, true, false, false, false, false, false, false, false, false, false, false, false, false, false] rfl rfl (any_of HT_.out (by kernel_rfl)) (fun _ _ _ h => h) (Or.inl ⟨by rfl, ?_⟩) ?_ ?_
              rotate_left
              · intro w'
                go_simp
                try with_reducible rfl
              rotate_left
              · simp (maxSteps := 4000000) only [Act.put, List.setIfInBounds_toArray, List.set_cons_zero, List.set_cons_succ, i64_w, i32_w]
                try rfl
              refine pure_ (i := 15) (N := some 151) (v := ?_) (a' := ?_) #[true, true, true, true, true, true, true, true, true, true, true, true, true, true, true, true, false, false, false, false, false, false, false, false, false, false, false, false] rfl rfl (any_of HT_.out (by kernel_rfl)) (fun _ _ _ h => h) (Or.inl ⟨by rfl, ?_⟩) ?_ ?_
              rotate_left
              · intro w'
                go_simp
                try with_reducible rfl
              rotate_left
              · simp (maxSteps := 4000000) only [Act.put, List.setIfInBounds_toArray, List.set_cons_zero, List.set_cons_succ, i64_w, i32_w]
                try rfl
              refine pure_ (i := 16) (N := some 152) (v := ?_) (a' := ?_) #[true, true, true, true, true, true, true, true, true, true, true, true, true, true, true, true, true, false, false, false, false, false, false, false, false, false, false, false] rfl rfl (any_of HT_.out (by kernel_rfl)) (fun _ _ _ h => h) (Or.inl ⟨by rfl, ?_⟩) ?_ ?_
              rotate_left
              · intro w'
                go_simp
                try with_reducible rfl
              rotate_left
              · simp (maxSteps := 4000000) only [Act.put, List.setIfInBounds_toArray, List.set_cons_zero, List.set_cons_succ, i64_w, i32_w]
                try rfl
              refine pure_ (i := 18) (N := some 154) (v := ?_) (a' := ?_) #[true, true, true, true, true, true, true, true, true, true, true, true, true, true, true, true, true, false, true, false, false, false, false, false, false, false, false, false] rfl rfl (any_of HT_.out (by kernel_rfl)) (fun _ _ _ h => h) (Or.inl ⟨by rfl, ?_⟩) ?_ ?_
              rotate_left
              · intro w'
                go_simp
                try with_reducible rfl
              rotate_left
              · simp (maxSteps := 4000000) only [Act.put, List.setIfInBounds_toArray, List.set_cons_zero, List.set_cons_succ, i64_w, i32_w]
                try rfl
              refine pure_ (i := 19) (N := some 155) (v := ?_) (a' := ?_) #[true, true, true, true, true, true, true, true, true, true, true, true, true, true, true, true, true, false, true, true, false, false, false, false, false, false, false, false] rfl rfl (any_of HT_.out (by kernel_rfl)) (fun _ _ _ h => h) (Or.inl ⟨by rfl, ?_⟩) ?_ ?_
              rotate_left
              · intro w'
                go_simp
                try with_reducible rfl
              rotate_left
              · simp (maxSteps := 4000000) only [Act.put, List.setIfInBounds_toArray, List.set_cons_zero, List.set_cons_succ, i64_w, i32_w]
                try rfl
              refine pure_ (i := 20) (N := some 156) (v := ?_) (a' := ?_) #[true, true, true, true, true, true, true, true, true, true, true, true, true, true, true, true, true, false, true, true, true, false, false, false, false, false, false, false] rfl rfl (any_of HT_.out (by kernel_rfl)) (fun _ _ _ h => h) (Or.inl ⟨by rfl, ?_⟩) ?_ ?_
              rotate_left
              · intro w'
                go_simp
                try with_reducible rfl
              rotate_left
              · simp (maxSteps := 4000000) only [Act.put, List.setIfInBounds_toArray, List.set_cons_zero, List.set_cons_succ, i64_w, i32_w]
                try rfl
              refine pure_ (i := 22) (N := some 158) (v := ?_) (a' := ?_) #[true, true, true, true, true, true, true, true, true, true, true, true, true, true, true, true, true, false, true, true, true, false, true, false, false, false, false, false] rfl rfl (any_of HT_.out (by kernel_rfl)) (fun _ _ _ h => h) (Or.inl ⟨by rfl, ?_⟩) ?_ ?_
              rotate_left
              · intro w'
                go_simp
                try with_reducible rfl
              rotate_left
              · simp (maxSteps := 4000000) only [Act.put, List.setIfInBounds_toArray, List.set_cons_zero, List.set_cons_succ, i64_w, i32_w]
                try rfl
              refine take_ (i := 21) (N := some 157) (v := ?_) (a' := ?_) #[true, true, true, true, true, true, true, true, true, true, true, true, true, true, true, true, true, false, true, true, true, true, true, false, false, false, false, false] rfl rfl (take_ofW HT_.out HW_.out (by kernel_rfl)) (fun _ _ _ h => h) (Or.inl ⟨by rfl, ?_⟩) hHeld ?_ ?_
              rotate_left
              · intro w' hw_
                try dsimp only at hw_
                go_simp
                try with_reducible rfl
              rotate_left
              · simp (maxSteps := 4000000) only [Act.put, List.setIfInBounds_toArray, List.set_cons_zero, List.set_cons_succ, i64_w, i32_w]
                try rfl
              refine pure_ (i := 23) (N := some 159) (v := ?_) (a' := ?_) #[true, true, true, true, true, true, true, true, true, true, true, true, true, true, true, true, true, false, true, true, true, true, true, true, false, false, false, false] rfl rfl (any_of HT_.out (by kernel_rfl)) (fun _ _ _ h => h) (Or.inl ⟨by rfl, ?_⟩) ?_ ?_
              rotate_left
              · intro w'
                go_simp
                try with_reducible rfl
              rotate_left
              · simp (maxSteps := 4000000) only [Act.put, List.setIfInBounds_toArray, List.set_cons_zero, List.set_cons_succ, i64_w, i32_w]
                try rfl
              refine take_ (i := 24) (N := some 160) (v := ?_) (a' := ?_) #[true, true, true, true, true, true, true, true, true, true, true, true, true, true, true, true, true, false, true, true, true, true, true, true, true, false, false, false] rfl rfl (take_ofW HT_.out HW_.out (by kernel_rfl)) (fun _ _ _ h => h) (Or.inl ⟨by rfl, ?_⟩) hHeld ?_ ?_
              rotate_left
              · intro w' hw_
                try dsimp only at hw_
                go_simp
                try with_reducible rfl
              rotate_left
              · simp (maxSteps := 4000000) only [Act.put, List.setIfInBounds_toArray, List.set_cons_zero, List.set_cons_succ, i64_w, i32_w]
                try rfl
              refine one_ (i := 17) (N := some 153) #[true, true, true, true, true, true, true, true, true, true, true, true, true, true, true, true, true, true, true, true, true, true, true, true, true, false, false, false] rfl rfl (one_of HT_.out (by kernel_rfl)) (by decide) (fun K hK => ?_)
              refine goes_ Try.func14 (by kernel_rfl) rfl #[(.pointer (some ⟨g, 0, none⟩)), (.int .i64 (k : Int))] (by rfl) rfl rfl (by (try simp only [List.map_toArray, List.map_cons, List.map_nil]); first | done | rfl) ?_
              refine (pool_wear g r b2 (k : Int) w' HP.out).mono ?_
              rintro e w' ⟨rfl, rfl⟩
              refine ⟨_, rfl, ?_⟩
              rw [HE.out.2]
              refine hK.out _ _ (hHeld) (fun hHeld => ?_)
              clear hK K
              refine norm_ (a' := ?_) ?_ ?_
              rotate_left
              · show Act.put _ (some 153) _ = _
                simp (maxSteps := 4000000) only [Act.put, List.setIfInBounds_toArray, List.set_cons_zero, List.set_cons_succ, i64_w, i32_w]
                try rfl
              refine pure_ (i := 25) (N := some 161) (v := ?_) (a' := ?_) #[true, true, true, true, true, true, true, true, true, true, true, true, true, true, true, true, true, true, true, true, true, true, true, true, true, true, false, false] rfl rfl (any_of HT_.out (by kernel_rfl)) (fun _ _ _ h => h) (Or.inl ⟨by rfl, ?_⟩) ?_ ?_
              rotate_left
              · intro w'
                go_simp
                try with_reducible rfl
              rotate_left
              · simp (maxSteps := 4000000) only [Act.put, List.setIfInBounds_toArray, List.set_cons_zero, List.set_cons_succ, i64_w, i32_w]
                try rfl
              refine pure_ (i := 26) (N := some 162) (v := ?_) (a' := ?_) #[true, true, true, true, true, true, true, true, true, true, true, true, true, true, true, true, true, true, true, true, true, true, true, true, true, true, true, false] rfl rfl (any_of HT_.out (by kernel_rfl)) (fun _ _ _ h => h) (Or.inl ⟨by rfl, ?_⟩) ?_ ?_
              rotate_left
              · intro w'
                go_simp
                try with_reducible rfl
              rotate_left
              · simp (maxSteps := 4000000) only [Act.put, List.setIfInBounds_toArray, List.set_cons_zero, List.set_cons_succ, i64_w, i32_w]
                try rfl
              refine pure_ (i := 27) (N := some 11) (v := ?_) (a' := ?_) #[true, true, true, true, true, true, true, true, true, true, true, true, true, true, true, true, true, true, true, true, true, true, true, true, true, true, true, true] rfl rfl (any_of HT_.out (by kernel_rfl)) (fun _ _ _ h => h) (Or.inl ⟨by rfl, ?_⟩) ?_ ?_
              rotate_left
              · intro w'
                go_simp
                try with_reducible rfl
              rotate_left
              · simp (maxSteps := 4000000) only [Act.put, List.setIfInBounds_toArray, List.set_cons_zero, List.set_cons_succ, i64_w, i32_w]
                try rfl
              refine done_ (done_of HT_.out (by kernel_rfl)) ?_
              go_wp2
              go_roundw
              case rel => exact ⟨k + 1, hlk, by rw [e4], rfl, HP.out, HM.out, HB.out⟩
              case measure => rw [e4]; simp only [RowKit.intOf, Int.toNat_natCast]; exact Nat.sub_lt_sub_left hlk (Nat.lt_succ_self k)
            · obtain rfl : k = n := Nat.le_antisymm hk (Nat.le_of_not_lt hlk)
              go_wp2_with fail
              go_loopw [11, 164] (fun ok i wr => ∃ s : Nat, s ≤ 5 ∧ i = .int .i64 (s : Int) ∧ ok = .bool true ∧ PoolAt wr g r b2 ∧ RefAt wr gm sa sb b2 ∧ Below w.heap.size w wr) (fun _ i _ => 5 - (RowKit.intOf i).toNat)
              case atStart => exact ⟨0, Nat.zero_le _, rfl, rfl, HP.out, HM.out, HB.out⟩
              case round =>
                clear HP HM HB
                obtain ⟨s, hs, rfl, rfl, h1, h2, h3⟩ := hrel
                have HP := Lib.hid h1; clear h1
                have HM := Lib.hid h2; clear h2
                have HB := Lib.hid h3; clear h3
                by_cases hls : s < 5
                · have e5 : wrap64 ((s : Int) + 1) = ((s + 1 : Nat) : Int) := wrap_succ s (Nat.lt_trans hls (by decide))
                  go_wp2_with fail
                  refine (pool_count g r b2 (s : Int) wr HP.out).mono ?_
                  rintro e wF ⟨rfl, hd⟩
                  replace HP := Lib.hid (HP.out.below hd)
                  replace HM := Lib.hid (HM.out.below hd)
                  replace HB := Lib.hid (chainC HB.out hd); clear hd
                  go_wp2_with fail
                  refine (ref_count gm sa sb b2 (s : Int) wF HM.out).mono ?_
                  rintro e wF ⟨rfl, rfl⟩
                  generalize countB b2 (s : Int) = cv
                  go_wp2
                  go_roundw
                  case rel => exact ⟨s + 1, hls, by first | rw [e5] | rfl, rfl, HP.out, HM.out, HB.out⟩
                  case measure => (first | rw [e5] | rw [show (s : Int) + 1 = ((s + 1 : Nat) : Int) from rfl]); simp only [RowKit.intOf, Int.toNat_natCast]; exact Nat.sub_lt_sub_left hls (Nat.lt_succ_self s)
                · obtain rfl : s = 5 := Nat.le_antisymm hs (Nat.le_of_not_lt hls)
                  go_wp2_with fail
                  refine (pool_spread g r b2 wr HP.out).mono ?_
                  rintro e wF ⟨rfl, hd⟩
                  replace HP := Lib.hid (HP.out.below hd)
                  replace HM := Lib.hid (HM.out.below hd)
                  replace HB := Lib.hid (chainC HB.out hd); clear hd
                  rw [(spr_spread b2 HG2.out.2).1, (spr_spread b2 HG2.out.2).2]
                  go_wp2_with fail
                  refine (ref_spread gm sa sb b2 wF HM.out).mono ?_
                  rintro e wF ⟨rfl, rfl⟩
                  generalize sprR b2 = sp
                  obtain ⟨lo, hi, fi⟩ := sp
                  have HO1 := Lib.hid (stB_out b2 (k : Int) (.inr (by rw [HG2.out.1]; exact Int.le_refl _)))
                  have HO2 := Lib.hid (stB_out b2 (-1) (.inl (by decide)))
                  go_wp2_with fail
                  refine (pool_state g r b2 (k : Int) _ HP.out).mono ?_
                  rintro e wF ⟨rfl, rfl⟩
                  rw [HO1.out.1]
                  go_wp2_with fail
                  refine (pool_state g r b2 (-1) _ HP.out).mono ?_
                  rintro e wF ⟨rfl, rfl⟩
                  rw [HO2.out.1]
                  go_wp2_with fail
                  refine (pool_wear g r b2 (k : Int) _ HP.out).mono ?_
                  rintro e wF ⟨rfl, rfl⟩
                  rw [HO1.out.2]
                  go_wp2
                  go_roundw
                  case rel => exact ⟨j + 1, b2, hlt, by rw [e3], HG2.out, HP.out, HM.out, HB.out⟩
                  case measure => rw [e3]; simp only [RowKit.intOf, Int.toNat_natCast]; exact Nat.sub_lt_sub_left hlt (Nat.lt_succ_self j)
      · as_aux_lemma =>
          go_wp2_with fail
          clear k0 k1 k2 s0 s1 s2 hmod hmod2 hd0
          generalize (wr.alloc (Obj.cells #[Value.int IntKind.i64 x, Value.int IntKind.i64 y, Value.int IntKind.i64 z] 46)) = wA at HP HM HB HSB ⊢
          generalize wr.heap.size = bx at HSB HNb ⊢
          clear HSB
          refine (pool_take g r bs wA HP.out).mono ?_
          rintro e wB ⟨rfl, hp, hd⟩
          replace HM := Lib.hid (HM.out.grown hd HNe.out.2.1 HNe.out.2.2.2.1 HNe.out.2.2.2.2.2)
          replace HB := Lib.hid (below_row HB.out HG.out.2 hd HB.out.size)
          replace HP := Lib.hid hp
          clear hp hd
          go_wp2_with fail
          refine (ref_take false gm sa sb bs wB HM.out).mono ?_
          rintro e wC ⟨rfl, hm, hd⟩
          rw [show cmpR false = cmpI from rfl] at hm ⊢
          replace HP := Lib.hid (HP.out.grown' hd (Ne.symm HNe.out.2.2.1) (Ne.symm HNe.out.2.2.2.1))
          replace HB := Lib.hid (below_row HB.out HGm.out.2.1 hd HB.out.size)
          replace HM := Lib.hid hm
          clear hm hd
          generalize takeV cmpI bs = v
          obtain ⟨v1, v2⟩ := v
          have HG2 := Lib.hid (good_take HGd.out cmpI)
          clear HGd
          generalize takeL cmpI bs = b2 at HP HM HG2
          go_wp2_with fail
          go_loopw [11, 133] (fun ok i wr => ∃ k : Nat, k ≤ n ∧ i = .int .i64 (k : Int) ∧ ok = .bool true ∧ PoolAt wr g r b2 ∧ RefAt wr gm sa sb b2 ∧ Below w.heap.size w wr) (fun _ i _ => n - (RowKit.intOf i).toNat)
          case atStart => exact ⟨0, Nat.zero_le _, rfl, rfl, HP.out, HM.out, HB.out⟩
          case round =>
            clear HP HM HB
            obtain ⟨k, hk, rfl, rfl, h1, h2, h3⟩ := hrel
            have HP := Lib.hid h1; clear h1
            have HM := Lib.hid h2; clear h2
            have HB := Lib.hid h3; clear h3
            by_cases hlk : k < n
            · have hkl : k < b2.length := by rw [HG2.out.1]; exact hlk
              have eS := stB_in b2 k hkl
              have e4 : wrap64 ((k : Int) + 1) = ((k + 1 : Nat) : Int) := wrap_succ k (Nat.lt_trans hlk (Nat.lt_of_le_of_lt HS.out.2 (by decide)))
              have hS := And.intro HM.out.cell0 (And.intro HM.out.cell1 (And.intro (HM.out.s0 k hkl) (HM.out.w0 k hkl)))
              generalize b2[k].1 = sv at eS hS
              generalize b2[k].2 = wv at eS hS
              have HE := Lib.hid eS; clear eS
              have HSc := Lib.hid hS; clear hS
              go_wp2_with fail
              have hS := HSc.out; clear HSc
              replace HP := Lib.hid (show PoolAt wr.drew g r b2 from ⟨HP.out.head, HP.out.row, HP.out.ne, HP.out.max⟩)
              replace HM := Lib.hid (show RefAt wr.drew gm sa sb b2 from ⟨HM.out.head, HM.out.rowS, HM.out.rowW, HM.out.n1, HM.out.n2, HM.out.n3, HM.out.max⟩)
              replace HB := Lib.hid (show Below w.heap.size w wr.drew from below_drew1 HB.out)
              refine start_ (n := 28) (S := fun w' => w'.cell? ⟨gm, 0, none⟩ = some (.slice (some ⟨sa, 0, none⟩) b2.length b2.length) ∧ w'.cell? ⟨gm, 1, none⟩ = some (.slice (some ⟨sb, 0, none⟩) b2.length b2.length) ∧ w'.cell? ⟨sa, k, none⟩ = some (.int .i64 sv) ∧ w'.cell? ⟨sb, k, none⟩ = some (.int .i64 wv)) (ds := []) #[false, false, false, false, false, false, false, false, false, false, false, false, false, false, false, false, false, false, false, false, false, false, false, false, false, false, false, false] (by kernel_rfl) rfl rfl hS (fun hHeld => ?_)
              refine with_tabW rg5_27.tab rg5_27.bits (fun HT_ HW_ => ?_)
              generalize wr.drew = w' at HB HP HM hHeld ⊢
              refine pure_ (i := 0) (N := some 136) (v := ?_) (a' := ?_) #[true, false, false, false, false, false, false, false, false, false, false, false, false, false, false, false, false, false, false, false, false, false, false, false, false, false, false, false] rfl rfl (any_of HT_.out (by kernel_rfl)) (fun _ _ _ h => h) (Or.inl ⟨by rfl, ?_⟩) ?_ ?_
              rotate_left
              · intro w'
                go_simp
                try with_reducible rfl
              rotate_left
              · simp (maxSteps := 4000000) only [Act.put, List.setIfInBounds_toArray, List.set_cons_zero, List.set_cons_succ, i64_w, i32_w]
                try rfl
              refine pure_ (i := 1) (N := some 137) (v := ?_) (a' := ?_) #[true, true, false, false, false, false, false, false, false, false, false, false, false, false, false, false, false, false, false, false, false, false, false, false, false, false, false, false] rfl rfl (any_of HT_.out (by kernel_rfl)) (fun _ _ _ h => h) (Or.inl ⟨by rfl, ?_⟩) ?_ ?_
              rotate_left
              · intro w'
                go_simp
                try with_reducible rfl
              rotate_left
              · simp (maxSteps := 4000000) only [Act.put, List.setIfInBounds_toArray, List.set_cons_zero, List.set_cons_succ, i64_w, i32_w]
                try rfl
              refine pure_ (i := 2) (N := some 138) (v := ?_) (a' := ?_) #[true, true, true, false, false, false, false, false, false, false, false, false, false, false, false, false, false, false, false, false, false, false, false, false, false, false, false, false] rfl rfl (any_of HT_.out (by kernel_rfl)) (fun _ _ _ h => h) (Or.inl ⟨by rfl, ?_⟩) ?_ ?_
              rotate_left
              · intro w'
                go_simp
                try with_reducible rfl
              rotate_left
              · simp (maxSteps := 4000000) only [Act.put, List.setIfInBounds_toArray, List.set_cons_zero, List.set_cons_succ, i64_w, i32_w]
                try rfl
              refine pure_ (i := 3) (N := some 139) (v := ?_) (a' := ?_) #[true, true, true, true, false, false, false, false, false, false, false, false, false, false, false, false, false, false, false, false, false, false, false, false, false, false, false, false] rfl rfl (any_of HT_.out (by kernel_rfl)) (fun _ _ _ h => h) (Or.inl ⟨by rfl, ?_⟩) ?_ ?_
              rotate_left
              · intro w'
                go_simp
                try with_reducible rfl
              rotate_left
              · simp (maxSteps := 4000000) only [Act.put, List.setIfInBounds_toArray, List.set_cons_zero, List.set_cons_succ, i64_w, i32_w]
                try rfl
              refine pure_ (i := 5) (N := some 141) (v := ?_) (a' := ?_) #[true, true, true, true, false, true, false, false, false, false, false, false, false, false, false, false, false, false, false, false, false, false, false, false, false, false, false, false] rfl rfl (any_of HT_.out (by kernel_rfl)) (fun _ _ _ h => h) (Or.inl ⟨by rfl, ?_⟩) ?_ ?_
              rotate_left
              · intro w'
                go_simp
                try with_reducible rfl
              rotate_left
              · simp (maxSteps := 4000000) only [Act.put, List.setIfInBounds_toArray, List.set_cons_zero, List.set_cons_succ, i64_w, i32_w]
                try rfl
              refine pure_ (i := 6) (N := some 142) (v := ?_) (a' := ?_) #[true, true, true, true, false, true, true, false, false, false, false, false, false, false, false, false, false, false, false, false, false, false, false, false, false, false, false, false] rfl rfl (any_of HT_.out (by kernel_rfl)) (fun _ _ _ h => h) (Or.inl ⟨by rfl, ?_⟩) ?_ ?_
              rotate_left
              · intro w'
                go_simp
                try with_reducible rfl
              rotate_left
              · simp (maxSteps := 4000000) only [Act.put, List.setIfInBounds_toArray, List.set_cons_zero, List.set_cons_succ, i64_w, i32_w]
                try rfl
              refine pure_ (i := 7) (N := some 143) (v := ?_) (a' := ?_) #[true, true, true, true, false, true, true, true, false, false, false, false, false, false, false, false, false, false, false, false, false, false, false, false, false, false, false, false] rfl rfl (any_of HT_.out (by kernel_rfl)) (fun _ _ _ h => h) (Or.inl ⟨by rfl, ?_⟩) ?_ ?_
              rotate_left
              · intro w'
                go_simp
                try with_reducible rfl
              rotate_left
              · simp (maxSteps := 4000000) only [Act.put, List.setIfInBounds_toArray, List.set_cons_zero, List.set_cons_succ, i64_w, i32_w]
                try rfl
              refine pure_ (i := 9) (N := some 145) (v := ?_) (a' := ?_) #[true, true, true, true, false, true, true, true, false, true, false, false, false, false, false, false, false, false, false, false, false, false, false, false, false, false, false, false] rfl rfl (any_of HT_.out (by kernel_rfl)) (fun _ _ _ h => h) (Or.inl ⟨by rfl, ?_⟩) ?_ ?_
              rotate_left
              · intro w'
                go_simp
                try with_reducible rfl
              rotate_left
              · simp (maxSteps := 4000000) only [Act.put, List.setIfInBounds_toArray, List.set_cons_zero, List.set_cons_succ, i64_w, i32_w]
                try rfl
              refine take_ (i := 8) (N := some 144) (v := ?_) (a' := ?_) #[true, true, true, true, false, true, true, true, true, true, false, false, false, false, false, false, false, false, false, false, false, false, false, false, false, false, false, false] rfl rfl (take_ofW HT_.out HW_.out (by kernel_rfl)) (fun _ _ _ h => h) (Or.inl ⟨by rfl, ?_⟩) hHeld ?_ ?_
              rotate_left
              · intro w' hw_
                try dsimp only at hw_
                go_simp
                try with_reducible rfl
              rotate_left
              · simp (maxSteps := 4000000) only [Act.put, List.setIfInBounds_toArray, List.set_cons_zero, List.set_cons_succ, i64_w, i32_w]
                try rfl
              refine pure_ (i := 10) (N := some 146) (v := ?_) (a' := ?_) #[true, true, true, true, false, true, true, true, true, true, true, false, false, false, false, false, false, false, false, false, false, false, false, false, false, false, false, false] rfl rfl (any_of HT_.out (by kernel_rfl)) (fun _ _ _ h => h) (Or.inl ⟨by rfl, ?_⟩) ?_ ?_
              rotate_left
              · intro w'
                go_simp
                try with_reducible rfl
              rotate_left
              · simp (maxSteps := 4000000) only [Act.put, List.setIfInBounds_toArray, List.set_cons_zero, List.set_cons_succ, i64_w, i32_w]
                try rfl
              refine take_ (i := 11) (N := some 147) (v := ?_) (a' := ?_) #[true, true, true, true, false, true, true, true, true, true, true, true, false, false, false, false, false, false, false, false, false, false, false, false, false, false, false, false] rfl rfl (take_ofW HT_.out HW_.out (by kernel_rfl)) (fun _ _ _ h => h) (Or.inl ⟨by rfl, ?_⟩) hHeld ?_ ?_
              rotate_left
              · intro w' hw_
                try dsimp only at hw_
                go_simp
                try with_reducible rfl
              rotate_left
              · simp (maxSteps := 4000000) only [Act.put, List.setIfInBounds_toArray, List.set_cons_zero, List.set_cons_succ, i64_w, i32_w]
                try rfl
              refine one_ (i := 4) (N := some 140) #[true, true, true, true, true, true, true, true, true, true, true, true, false, false, false, false, false, false, false, false, false, false, false, false, false, false, false, false] rfl rfl (one_of HT_.out (by kernel_rfl)) (by decide) (fun K hK => ?_)
              refine goes_ Try.func11 (by kernel_rfl) rfl #[(.pointer (some ⟨g, 0, none⟩)), (.int .i64 (k : Int))] (by rfl) rfl rfl (by (try simp only [List.map_toArray, List.map_cons, List.map_nil]); first | done | rfl) ?_
              refine (pool_state g r b2 (k : Int) w' HP.out).mono ?_
              rintro e w' ⟨rfl, rfl⟩
              refine ⟨_, rfl, ?_⟩
              rw [HE.out.1]
              refine hK.out _ _ (hHeld) (fun hHeld => ?_)
              clear hK K
              refine norm_ (a' := ?_) ?_ ?_
              rotate_left
              · show Act.put _ (some 140) _ = _
                simp (maxSteps := 4000000) only [Act.put, List.setIfInBounds_toArray, List.set_cons_zero, List.set_cons_succ, i64_w, i32_w]
                try rfl
              refine pure_ (i := 12) (N := some 148) (v := ?_) (a' := ?_) #[true, true, true, true, true, true, true, true, true, true, true, true, true, false, false, false, false, false, false, false, false, false, false, false, false, false, false, false] rfl rfl (any_of HT_.out (by kernel_rfl)) (fun _ _ _ h => h) (Or.inl ⟨by rfl, ?_⟩) ?_ ?_
              rotate_left
              · intro w'
                go_simp
                try with_reducible rfl
              rotate_left
              · simp (maxSteps := 4000000) only [Act.put, List.setIfInBounds_toArray, List.set_cons_zero, List.set_cons_succ, i64_w, i32_w]
                try rfl
              refine pure_ (i := 13) (N := some 149) (v := ?_) (a' := ?_) #[true, true, true, true, true, true, true, true, true, true, true, true, true, true, false, false, false, false, false, false, false, false, false, false, false, false, false, false] rfl rfl (any_of HT_.out (by kernel_rfl)) (fun _ _ _ h => h) (Or.inl ⟨by rfl, ?_⟩) ?_ ?_
              rotate_left
              · intro w'
                go_simp
                try with_reducible rfl
              rotate_left
              · simp (maxSteps := 4000000) only [Act.put, List.setIfInBounds_toArray, List.set_cons_zero, List.set_cons_succ, i64_w, i32_w]
                try rfl
              refine pure_ (i := 14) (N := some 150) (v := ?_) (a' := ?_) #[true, true, true, true, true, true, true, true, true, true, true, true, true, true, true, false, false, false, false, false, false, false, false, false, false, false, false, false] rfl rfl (any_of HT_.out (by kernel_rfl)) (fun _ _ _ h => h) (Or.inl ⟨by rfl, ?_⟩) ?_ ?_
              rotate_left
              · intro w'
                go_simp
                try with_reducible rfl
              rotate_left
              · simp (maxSteps := 4000000) only [Act.put, List.setIfInBounds_toArray, List.set_cons_zero, List.set_cons_succ, i64_w, i32_w]
                try rfl
              refine pure_ (i := 15) (N := some 151) (v := ?_) (a' := ?_) #[true, true, true, true, true, true, true, true, true, true, true, true, true, true, true, true, false, false, false, false, false, false, false, false, false, false, false, false] rfl rfl (any_of HT_.out (by kernel_rfl)) (fun _ _ _ h => h) (Or.inl ⟨by rfl, ?_⟩) ?_ ?_
              rotate_left
              · intro w'
                go_simp
                try with_reducible rfl
              rotate_left
              · simp (maxSteps := 4000000) only [Act.put, List.setIfInBounds_toArray, List.set_cons_zero, List.set_cons_succ, i64_w, i32_w]
                try rfl
              refine pure_ (i := 16) (N := some 152) (v := ?_) (a' := ?_) #[true, true, true, true, true, true, true, true, true, true, true, true, true, true, true, true, true, false, false, false, false, false, false, false, false, false, false, false] rfl rfl (any_of HT_.out (by kernel_rfl)) (fun _ _ _ h => h) (Or.inl ⟨by rfl, ?_⟩) ?_ ?_
              rotate_left
              · intro w'
                go_simp
                try with_reducible rfl
              rotate_left
              · simp (maxSteps := 4000000) only [Act.put, List.setIfInBounds_toArray, List.set_cons_zero, List.set_cons_succ, i64_w, i32_w]
                try rfl
              refine pure_ (i := 18) (N := some 154) (v := ?_) (a' := ?_) #[true, true, true, true, true, true, true, true, true, true, true, true, true, true, true, true, true, false, true, false, false, false, false, false, false, false, false, false] rfl rfl (any_of HT_.out (by kernel_rfl)) (fun _ _ _ h => h) (Or.inl ⟨by rfl, ?_⟩) ?_ ?_
              rotate_left
              · intro w'
                go_simp
                try with_reducible rfl
              rotate_left
              · simp (maxSteps := 4000000) only [Act.put, List.setIfInBounds_toArray, List.set_cons_zero, List.set_cons_succ, i64_w, i32_w]
                try rfl
              refine pure_ (i := 19) (N := some 155) (v := ?_) (a' := ?_) #[true, true, true, true, true, true, true, true, true, true, true, true, true, true, true, true, true, false, true, true, false, false, false, false, false, false, false, false] rfl rfl (any_of HT_.out (by kernel_rfl)) (fun _ _ _ h => h) (Or.inl ⟨by rfl, ?_⟩) ?_ ?_
              rotate_left
              · intro w'
                go_simp
                try with_reducible rfl
              rotate_left
              · simp (maxSteps := 4000000) only [Act.put, List.setIfInBounds_toArray, List.set_cons_zero, List.set_cons_succ, i64_w, i32_w]
                try rfl
              refine pure_ (i := 20) (N := some 156) (v := ?_) (a' := ?_) #[true, true, true, true, true, true, true, true, true, true, true, true, true, true, true, true, true, false, true, true, true, false, false, false, false, false, false, false] rfl rfl (any_of HT_.out (by kernel_rfl)) (fun _ _ _ h => h) (Or.inl ⟨by rfl, ?_⟩) ?_ ?_
              rotate_left
              · intro w'
                go_simp
                try with_reducible rfl
              rotate_left
              · simp (maxSteps := 4000000) only [Act.put, List.setIfInBounds_toArray, List.set_cons_zero, List.set_cons_succ, i64_w, i32_w]
                try rfl
              refine pure_ (i := 22) (N := some 158) (v := ?_) (a' := ?_) #[true, true, true, true, true, true, true, true, true, true, true, true, true, true, true, true, true, false, true, true, true, false, true, false, false, false, false, false] rfl rfl (any_of HT_.out (by kernel_rfl)) (fun _ _ _ h => h) (Or.inl ⟨by rfl, ?_⟩) ?_ ?_
              rotate_left
              · intro w'
                go_simp
                try with_reducible rfl
              rotate_left
              · simp (maxSteps := 4000000) only [Act.put, List.setIfInBounds_toArray, List.set_cons_zero, List.set_cons_succ, i64_w, i32_w]
                try rfl
              refine take_ (i := 21) (N := some 157) (v := ?_) (a' := ?_) #[true, true, true, true, true, true, true, true, true, true, true, true, true, true, true, true, true, false, true, true, true, true, true, false, false, false, false, false] rfl rfl (take_ofW HT_.out HW_.out (by kernel_rfl)) (fun _ _ _ h => h) (Or.inl ⟨by rfl, ?_⟩) hHeld ?_ ?_
              rotate_left
              · intro w' hw_
                try dsimp only at hw_
                go_simp
                try with_reducible rfl
              rotate_left
              · simp (maxSteps := 4000000) only [Act.put, List.setIfInBounds_toArray, List.set_cons_zero, List.set_cons_succ, i64_w, i32_w]
                try rfl
              refine pure_ (i := 23) (N := some 159) (v := ?_) (a' := ?_) #[true, true, true, true, true, true, true, true, true, true, true, true, true, true, true, true, true, false, true, true, true, true, true, true, false, false, false, false] rfl rfl (any_of HT_.out (by kernel_rfl)) (fun _ _ _ h => h) (Or.inl ⟨by rfl, ?_⟩) ?_ ?_
              rotate_left
              · intro w'
                go_simp
                try with_reducible rfl
              rotate_left
              · simp (maxSteps := 4000000) only [Act.put, List.setIfInBounds_toArray, List.set_cons_zero, List.set_cons_succ, i64_w, i32_w]
                try rfl
              refine take_ (i := 24) (N := some 160) (v := ?_) (a' := ?_) #[true, true, true, true, true, true, true, true, true, true, true, true, true, true, true, true, true, false, true, true, true, true, true, true, true, false, false, false] rfl rfl (take_ofW HT_.out HW_.out (by kernel_rfl)) (fun _ _ _ h => h) (Or.inl ⟨by rfl, ?_⟩) hHeld ?_ ?_
              rotate_left
              · intro w' hw_
                try dsimp only at hw_
                go_simp
                try with_reducible rfl
              rotate_left
              · simp (maxSteps := 4000000) only [Act.put, List.setIfInBounds_toArray, List.set_cons_zero, List.set_cons_succ, i64_w, i32_w]
                try rfl
              refine one_ (i := 17) (N := some 153) #[true, true, true, true, true, true, true, true, true, true, true, true, true, true, true, true, true, true, true, true, true, true, true, true, true, false, false, false] rfl rfl (one_of HT_.out (by kernel_rfl)) (by decide) (fun K hK => ?_)
              refine goes_ Try.func14 (by kernel_rfl) rfl #[(.pointer (some ⟨g, 0, none⟩)), (.int .i64 (k : Int))] (by rfl) rfl rfl (by (try simp only [List.map_toArray, List.map_cons, List.map_nil]); first | done | rfl) ?_
              refine (pool_wear g r b2 (k : Int) w' HP.out).mono ?_
              rintro e w' ⟨rfl, rfl⟩
              refine ⟨_, rfl, ?_⟩
              rw [HE.out.2]
              refine hK.out _ _ (hHeld) (fun hHeld => ?_)
              clear hK K
              refine norm_ (a' := ?_) ?_ ?_
              rotate_left
              · show Act.put _ (some 153) _ = _
                simp (maxSteps := 4000000) only [Act.put, List.setIfInBounds_toArray, List.set_cons_zero, List.set_cons_succ, i64_w, i32_w]
                try rfl
              refine pure_ (i := 25) (N := some 161) (v := ?_) (a' := ?_) #[true, true, true, true, true, true, true, true, true, true, true, true, true, true, true, true, true, true, true, true, true, true, true, true, true, true, false, false] rfl rfl (any_of HT_.out (by kernel_rfl)) (fun _ _ _ h => h) (Or.inl ⟨by rfl, ?_⟩) ?_ ?_
              rotate_left
              · intro w'
                go_simp
                try with_reducible rfl
              rotate_left
              · simp (maxSteps := 4000000) only [Act.put, List.setIfInBounds_toArray, List.set_cons_zero, List.set_cons_succ, i64_w, i32_w]
                try rfl
              refine pure_ (i := 26) (N := some 162) (v := ?_) (a' := ?_) #[true, true, true, true, true, true, true, true, true, true, true, true, true, true, true, true, true, true, true, true, true, true, true, true, true, true, true, false] rfl rfl (any_of HT_.out (by kernel_rfl)) (fun _ _ _ h => h) (Or.inl ⟨by rfl, ?_⟩) ?_ ?_
              rotate_left
              · intro w'
                go_simp
                try with_reducible rfl
              rotate_left
              · simp (maxSteps := 4000000) only [Act.put, List.setIfInBounds_toArray, List.set_cons_zero, List.set_cons_succ, i64_w, i32_w]
                try rfl
              refine pure_ (i := 27) (N := some 11) (v := ?_) (a' := ?_) #[true, true, true, true, true, true, true, true, true, true, true, true, true, true, true, true, true, true, true, true, true, true, true, true, true, true, true, true] rfl rfl (any_of HT_.out (by kernel_rfl)) (fun _ _ _ h => h) (Or.inl ⟨by rfl, ?_⟩) ?_ ?_
              rotate_left
              · intro w'
                go_simp
                try with_reducible rfl
              rotate_left
              · simp (maxSteps := 4000000) only [Act.put, List.setIfInBounds_toArray, List.set_cons_zero, List.set_cons_succ, i64_w, i32_w]
                try rfl
              refine done_ (done_of HT_.out (by kernel_rfl)) ?_
              go_wp2
              go_roundw
              case rel => exact ⟨k + 1, hlk, by rw [e4], rfl, HP.out, HM.out, HB.out⟩
              case measure => rw [e4]; simp only [RowKit.intOf, Int.toNat_natCast]; exact Nat.sub_lt_sub_left hlk (Nat.lt_succ_self k)
            · obtain rfl : k = n := Nat.le_antisymm hk (Nat.le_of_not_lt hlk)
              go_wp2_with fail
              go_loopw [11, 164] (fun ok i wr => ∃ s : Nat, s ≤ 5 ∧ i = .int .i64 (s : Int) ∧ ok = .bool true ∧ PoolAt wr g r b2 ∧ RefAt wr gm sa sb b2 ∧ Below w.heap.size w wr) (fun _ i _ => 5 - (RowKit.intOf i).toNat)
              case atStart => exact ⟨0, Nat.zero_le _, rfl, rfl, HP.out, HM.out, HB.out⟩
              case round =>
                clear HP HM HB
                obtain ⟨s, hs, rfl, rfl, h1, h2, h3⟩ := hrel
                have HP := Lib.hid h1; clear h1
                have HM := Lib.hid h2; clear h2
                have HB := Lib.hid h3; clear h3
                by_cases hls : s < 5
                · have e5 : wrap64 ((s : Int) + 1) = ((s + 1 : Nat) : Int) := wrap_succ s (Nat.lt_trans hls (by decide))
                  go_wp2_with fail
                  refine (pool_count g r b2 (s : Int) wr HP.out).mono ?_
                  rintro e wF ⟨rfl, hd⟩
                  replace HP := Lib.hid (HP.out.below hd)
                  replace HM := Lib.hid (HM.out.below hd)
                  replace HB := Lib.hid (chainC HB.out hd); clear hd
                  go_wp2_with fail
                  refine (ref_count gm sa sb b2 (s : Int) wF HM.out).mono ?_
                  rintro e wF ⟨rfl, rfl⟩
                  generalize countB b2 (s : Int) = cv
                  go_wp2
                  go_roundw
                  case rel => exact ⟨s + 1, hls, by first | rw [e5] | rfl, rfl, HP.out, HM.out, HB.out⟩
                  case measure => (first | rw [e5] | rw [show (s : Int) + 1 = ((s + 1 : Nat) : Int) from rfl]); simp only [RowKit.intOf, Int.toNat_natCast]; exact Nat.sub_lt_sub_left hls (Nat.lt_succ_self s)
                · obtain rfl : s = 5 := Nat.le_antisymm hs (Nat.le_of_not_lt hls)
                  go_wp2_with fail
                  refine (pool_spread g r b2 wr HP.out).mono ?_
                  rintro e wF ⟨rfl, hd⟩
                  replace HP := Lib.hid (HP.out.below hd)
                  replace HM := Lib.hid (HM.out.below hd)
                  replace HB := Lib.hid (chainC HB.out hd); clear hd
                  rw [(spr_spread b2 HG2.out.2).1, (spr_spread b2 HG2.out.2).2]
                  go_wp2_with fail
                  refine (ref_spread gm sa sb b2 wF HM.out).mono ?_
                  rintro e wF ⟨rfl, rfl⟩
                  generalize sprR b2 = sp
                  obtain ⟨lo, hi, fi⟩ := sp
                  have HO1 := Lib.hid (stB_out b2 (k : Int) (.inr (by rw [HG2.out.1]; exact Int.le_refl _)))
                  have HO2 := Lib.hid (stB_out b2 (-1) (.inl (by decide)))
                  go_wp2_with fail
                  refine (pool_state g r b2 (k : Int) _ HP.out).mono ?_
                  rintro e wF ⟨rfl, rfl⟩
                  rw [HO1.out.1]
                  go_wp2_with fail
                  refine (pool_state g r b2 (-1) _ HP.out).mono ?_
                  rintro e wF ⟨rfl, rfl⟩
                  rw [HO2.out.1]
                  go_wp2_with fail
                  refine (pool_wear g r b2 (k : Int) _ HP.out).mono ?_
                  rintro e wF ⟨rfl, rfl⟩
                  rw [HO1.out.2]
                  go_wp2
                  go_roundw
                  case rel => exact ⟨j + 1, b2, hlt, by rw [e3], HG2.out, HP.out, HM.out, HB.out⟩
                  case measure => rw [e3]; simp only [RowKit.intOf, Int.toNat_natCast]; exact Nat.sub_lt_sub_left hlt (Nat.lt_succ_self j)
      · as_aux_lemma =>
          go_wp2_with fail
          clear k0 k1 k2 s0 s1 s2 hmod hmod2 hd0
          generalize (wr.alloc (Obj.cells #[Value.int IntKind.i64 x, Value.int IntKind.i64 y, Value.int IntKind.i64 z] 46)) = wA at HP HM HB HSB ⊢
          generalize wr.heap.size = bx at HSB HNb ⊢
          clear HSB
          refine (pool_take g r bs wA HP.out).mono ?_
          rintro e wB ⟨rfl, hp, hd⟩
          replace HM := Lib.hid (HM.out.grown hd HNe.out.2.1 HNe.out.2.2.2.1 HNe.out.2.2.2.2.2)
          replace HB := Lib.hid (below_row HB.out HG.out.2 hd HB.out.size)
          replace HP := Lib.hid hp
          clear hp hd
          go_wp2_with fail
          refine (ref_take false gm sa sb bs wB HM.out).mono ?_
          rintro e wC ⟨rfl, hm, hd⟩
          rw [show cmpR false = cmpI from rfl] at hm ⊢
          replace HP := Lib.hid (HP.out.grown' hd (Ne.symm HNe.out.2.2.1) (Ne.symm HNe.out.2.2.2.1))
          replace HB := Lib.hid (below_row HB.out HGm.out.2.1 hd HB.out.size)
          replace HM := Lib.hid hm
          clear hm hd
          generalize takeV cmpI bs = v
          obtain ⟨v1, v2⟩ := v
          have HG2 := Lib.hid (good_take HGd.out cmpI)
          clear HGd
          generalize takeL cmpI bs = b2 at HP HM HG2
          go_wp2_with fail
          go_loopw [11, 133] (fun ok i wr => ∃ k : Nat, k ≤ n ∧ i = .int .i64 (k : Int) ∧ ok = .bool true ∧ PoolAt wr g r b2 ∧ RefAt wr gm sa sb b2 ∧ Below w.heap.size w wr) (fun _ i _ => n - (RowKit.intOf i).toNat)
          case atStart => exact ⟨0, Nat.zero_le _, rfl, rfl, HP.out, HM.out, HB.out⟩
          case round =>
            clear HP HM HB
            obtain ⟨k, hk, rfl, rfl, h1, h2, h3⟩ := hrel
            have HP := Lib.hid h1; clear h1
            have HM := Lib.hid h2; clear h2
            have HB := Lib.hid h3; clear h3
            by_cases hlk : k < n
            · have hkl : k < b2.length := by rw [HG2.out.1]; exact hlk
              have eS := stB_in b2 k hkl
              have e4 : wrap64 ((k : Int) + 1) = ((k + 1 : Nat) : Int) := wrap_succ k (Nat.lt_trans hlk (Nat.lt_of_le_of_lt HS.out.2 (by decide)))
              have hS := And.intro HM.out.cell0 (And.intro HM.out.cell1 (And.intro (HM.out.s0 k hkl) (HM.out.w0 k hkl)))
              generalize b2[k].1 = sv at eS hS
              generalize b2[k].2 = wv at eS hS
              have HE := Lib.hid eS; clear eS
              have HSc := Lib.hid hS; clear hS
              go_wp2_with fail
              have hS := HSc.out; clear HSc
              replace HP := Lib.hid (show PoolAt wr.drew g r b2 from ⟨HP.out.head, HP.out.row, HP.out.ne, HP.out.max⟩)
              replace HM := Lib.hid (show RefAt wr.drew gm sa sb b2 from ⟨HM.out.head, HM.out.rowS, HM.out.rowW, HM.out.n1, HM.out.n2, HM.out.n3, HM.out.max⟩)
              replace HB := Lib.hid (show Below w.heap.size w wr.drew from below_drew1 HB.out)
              refine start_ (n := 28) (S := fun w' => w'.cell? ⟨gm, 0, none⟩ = some (.slice (some ⟨sa, 0, none⟩) b2.length b2.length) ∧ w'.cell? ⟨gm, 1, none⟩ = some (.slice (some ⟨sb, 0, none⟩) b2.length b2.length) ∧ w'.cell? ⟨sa, k, none⟩ = some (.int .i64 sv) ∧ w'.cell? ⟨sb, k, none⟩ = some (.int .i64 wv)) (ds := []) #[false, false, false, false, false, false, false, false, false, false, false, false, false, false, false, false, false, false, false, false, false, false, false, false, false, false, false, false] (by kernel_rfl) rfl rfl hS (fun hHeld => ?_)
              refine with_tabW rg5_27.tab rg5_27.bits (fun HT_ HW_ => ?_)
              generalize wr.drew = w' at HB HP HM hHeld ⊢
              refine pure_ (i := 0) (N := some 136) (v := ?_) (a' := ?_) #[true, false, false, false, false, false, false, false, false, false, false, false, false, false, false, false, false, false, false, false, false, false, false, false, false, false, false, false] rfl rfl (any_of HT_.out (by kernel_rfl)) (fun _ _ _ h => h) (Or.inl ⟨by rfl, ?_⟩) ?_ ?_
              rotate_left
              · intro w'
                go_simp
                try with_reducible rfl
              rotate_left
              · simp (maxSteps := 4000000) only [Act.put, List.setIfInBounds_toArray, List.set_cons_zero, List.set_cons_succ, i64_w, i32_w]
                try rfl
              refine pure_ (i := 1) (N := some 137) (v := ?_) (a' := ?_) #[true, true, false, false, false, false, false, false, false, false, false, false, false, false, false, false, false, false, false, false, false, false, false, false, false, false, false, false] rfl rfl (any_of HT_.out (by kernel_rfl)) (fun _ _ _ h => h) (Or.inl ⟨by rfl, ?_⟩) ?_ ?_
              rotate_left
              · intro w'
                go_simp
                try with_reducible rfl
              rotate_left
              · simp (maxSteps := 4000000) only [Act.put, List.setIfInBounds_toArray, List.set_cons_zero, List.set_cons_succ, i64_w, i32_w]
                try rfl
              refine pure_ (i := 2) (N := some 138) (v := ?_) (a' := ?_) #[true, true, true, false, false, false, false, false, false, false, false, false, false, false, false, false, false, false, false, false, false, false, false, false, false, false, false, false] rfl rfl (any_of HT_.out (by kernel_rfl)) (fun _ _ _ h => h) (Or.inl ⟨by rfl, ?_⟩) ?_ ?_
              rotate_left
              · intro w'
                go_simp
                try with_reducible rfl
              rotate_left
              · simp (maxSteps := 4000000) only [Act.put, List.setIfInBounds_toArray, List.set_cons_zero, List.set_cons_succ, i64_w, i32_w]
                try rfl
              refine pure_ (i := 3) (N := some 139) (v := ?_) (a' := ?_) #[true, true, true, true, false, false, false, false, false, false, false, false, false, false, false, false, false, false, false, false, false, false, false, false, false, false, false, false] rfl rfl (any_of HT_.out (by kernel_rfl)) (fun _ _ _ h => h) (Or.inl ⟨by rfl, ?_⟩) ?_ ?_
              rotate_left
              · intro w'
                go_simp
                try with_reducible rfl
              rotate_left
              · simp (maxSteps := 4000000) only [Act.put, List.setIfInBounds_toArray, List.set_cons_zero, List.set_cons_succ, i64_w, i32_w]
                try rfl
              refine pure_ (i := 5) (N := some 141) (v := ?_) (a' := ?_) #[true, true, true, true, false, true, false, false, false, false, false, false, false, false, false, false, false, false, false, false, false, false, false, false, false, false, false, false] rfl rfl (any_of HT_.out (by kernel_rfl)) (fun _ _ _ h => h) (Or.inl ⟨by rfl, ?_⟩) ?_ ?_
              rotate_left
              · intro w'
                go_simp
                try with_reducible rfl
              rotate_left
              · simp (maxSteps := 4000000) only [Act.put, List.setIfInBounds_toArray, List.set_cons_zero, List.set_cons_succ, i64_w, i32_w]
                try rfl
              refine pure_ (i := 6) (N := some 142) (v := ?_) (a' := ?_) #[true, true, true, true, false, true, true, false, false, false, false, false, false, false, false, false, false, false, false, false, false, false, false, false, false, false, false, false] rfl rfl (any_of HT_.out (by kernel_rfl)) (fun _ _ _ h => h) (Or.inl ⟨by rfl, ?_⟩) ?_ ?_
              rotate_left
              · intro w'
                go_simp
                try with_reducible rfl
              rotate_left
              · simp (maxSteps := 4000000) only [Act.put, List.setIfInBounds_toArray, List.set_cons_zero, List.set_cons_succ, i64_w, i32_w]
                try rfl
              refine pure_ (i := 7) (N := some 143) (v := ?_) (a' := ?_) #[true, true, true, true, false, true, true, true, false, false, false, false, false, false, false, false, false, false, false, false, false, false, false, false, false, false, false, false] rfl rfl (any_of HT_.out (by kernel_rfl)) (fun _ _ _ h => h) (Or.inl ⟨by rfl, ?_⟩) ?_ ?_
              rotate_left
              · intro w'
                go_simp
                try with_reducible rfl
              rotate_left
              · simp (maxSteps := 4000000) only [Act.put, List.setIfInBounds_toArray, List.set_cons_zero, List.set_cons_succ, i64_w, i32_w]
                try rfl
              refine pure_ (i := 9) (N := some 145) (v := ?_) (a' := ?_) #[true, true, true, true, false, true, true, true, false, true, false, false, false, false, false, false, false, false, false, false, false, false, false, false, false, false, false, false] rfl rfl (any_of HT_.out (by kernel_rfl)) (fun _ _ _ h => h) (Or.inl ⟨by rfl, ?_⟩) ?_ ?_
              rotate_left
              · intro w'
                go_simp
                try with_reducible rfl
              rotate_left
              · simp (maxSteps := 4000000) only [Act.put, List.setIfInBounds_toArray, List.set_cons_zero, List.set_cons_succ, i64_w, i32_w]
                try rfl
              refine take_ (i := 8) (N := some 144) (v := ?_) (a' := ?_) #[true, true, true, true, false, true, true, true, true, true, false, false, false, false, false, false, false, false, false, false, false, false, false, false, false, false, false, false] rfl rfl (take_ofW HT_.out HW_.out (by kernel_rfl)) (fun _ _ _ h => h) (Or.inl ⟨by rfl, ?_⟩) hHeld ?_ ?_
              rotate_left
              · intro w' hw_
                try dsimp only at hw_
                go_simp
                try with_reducible rfl
              rotate_left
              · simp (maxSteps := 4000000) only [Act.put, List.setIfInBounds_toArray, List.set_cons_zero, List.set_cons_succ, i64_w, i32_w]
                try rfl
              refine pure_ (i := 10) (N := some 146) (v := ?_) (a' := ?_) #[true, true, true, true, false, true, true, true, true, true, true, false, false, false, false, false, false, false, false, false, false, false, false, false, false, false, false, false] rfl rfl (any_of HT_.out (by kernel_rfl)) (fun _ _ _ h => h) (Or.inl ⟨by rfl, ?_⟩) ?_ ?_
              rotate_left
              · intro w'
                go_simp
                try with_reducible rfl
              rotate_left
              · simp (maxSteps := 4000000) only [Act.put, List.setIfInBounds_toArray, List.set_cons_zero, List.set_cons_succ, i64_w, i32_w]
                try rfl
              refine take_ (i := 11) (N := some 147) (v := ?_) (a' := ?_) #[true, true, true, true, false, true, true, true, true, true, true, true, false, false, false, false, false, false, false, false, false, false, false, false, false, false, false, false] rfl rfl (take_ofW HT_.out HW_.out (by kernel_rfl)) (fun _ _ _ h => h) (Or.inl ⟨by rfl, ?_⟩) hHeld ?_ ?_
              rotate_left
              · intro w' hw_
                try dsimp only at hw_
                go_simp
                try with_reducible rfl
              rotate_left
              · simp (maxSteps := 4000000) only [Act.put, List.setIfInBounds_toArray, List.set_cons_zero, List.set_cons_succ, i64_w, i32_w]
                try rfl
              refine one_ (i := 4) (N := some 140) #[true, true, true, true, true, true, true, true, true, true, true, true, false, false, false, false, false, false, false, false, false, false, false, false, false, false, false, false] rfl rfl (one_of HT_.out (by kernel_rfl)) (by decide) (fun K hK => ?_)
              refine goes_ Try.func11 (by kernel_rfl) rfl #[(.pointer (some ⟨g, 0, none⟩)), (.int .i64 (k : Int))] (by rfl) rfl rfl (by (try simp only [List.map_toArray, List.map_cons, List.map_nil]); first | done | rfl) ?_
              refine (pool_state g r b2 (k : Int) w' HP.out).mono ?_
              rintro e w' ⟨rfl, rfl⟩
              refine ⟨_, rfl, ?_⟩
              rw [HE.out.1]
              refine hK.out _ _ (hHeld) (fun hHeld => ?_)
              clear hK K
              refine norm_ (a' := ?_) ?_ ?_
              rotate_left
              · show Act.put _ (some 140) _ = _
                simp (maxSteps := 4000000) only [Act.put, List.setIfInBounds_toArray, List.set_cons_zero, List.set_cons_succ, i64_w, i32_w]
                try rfl
              refine pure_ (i := 12) (N := some 148) (v := ?_) (a' := ?_) #[true, true, true, true, true, true, true, true, true, true, true, true, true, false, false, false, false, false, false, false, false, false, false, false, false, false, false, false] rfl rfl (any_of HT_.out (by kernel_rfl)) (fun _ _ _ h => h) (Or.inl ⟨by rfl, ?_⟩) ?_ ?_
              rotate_left
              · intro w'
                go_simp
                try with_reducible rfl
              rotate_left
              · simp (maxSteps := 4000000) only [Act.put, List.setIfInBounds_toArray, List.set_cons_zero, List.set_cons_succ, i64_w, i32_w]
                try rfl
              refine pure_ (i := 13) (N := some 149) (v := ?_) (a' := ?_) #[true, true, true, true, true, true, true, true, true, true, true, true, true, true, false, false, false, false, false, false, false, false, false, false, false, false, false, false] rfl rfl (any_of HT_.out (by kernel_rfl)) (fun _ _ _ h => h) (Or.inl ⟨by rfl, ?_⟩) ?_ ?_
              rotate_left
              · intro w'
                go_simp
                try with_reducible rfl
              rotate_left
              · simp (maxSteps := 4000000) only [Act.put, List.setIfInBounds_toArray, List.set_cons_zero, List.set_cons_succ, i64_w, i32_w]
                try rfl
              refine pure_ (i := 14) (N := some 150) (v := ?_) (a' := ?_) #[true, true, true, true, true, true, true, true, true, true, true, true, true, true, true, false, false, false, false, false, false, false, false, false, false, false, false, false] rfl rfl (any_of HT_.out (by kernel_rfl)) (fun _ _ _ h => h) (Or.inl ⟨by rfl, ?_⟩) ?_ ?_
              rotate_left
              · intro w'
                go_simp
                try with_reducible rfl
              rotate_left
              · simp (maxSteps := 4000000) only [Act.put, List.setIfInBounds_toArray, List.set_cons_zero, List.set_cons_succ, i64_w, i32_w]
                try rfl
              refine pure_ (i := 15) (N := some 151) (v := ?_) (a' := ?_) #[true, true, true, true, true, true, true, true, true, true, true, true, true, true, true, true, false, false, false, false, false, false, false, false, false, false, false, false] rfl rfl (any_of HT_.out (by kernel_rfl)) (fun _ _ _ h => h) (Or.inl ⟨by rfl, ?_⟩) ?_ ?_
              rotate_left
              · intro w'
                go_simp
                try with_reducible rfl
              rotate_left
              · simp (maxSteps := 4000000) only [Act.put, List.setIfInBounds_toArray, List.set_cons_zero, List.set_cons_succ, i64_w, i32_w]
                try rfl
              refine pure_ (i := 16) (N := some 152) (v := ?_) (a' := ?_) #[true, true, true, true, true, true, true, true, true, true, true, true, true, true, true, true, true, false, false, false, false, false, false, false, false, false, false, false] rfl rfl (any_of HT_.out (by kernel_rfl)) (fun _ _ _ h => h) (Or.inl ⟨by rfl, ?_⟩) ?_ ?_
              rotate_left
              · intro w'
                go_simp
                try with_reducible rfl
              rotate_left
              · simp (maxSteps := 4000000) only [Act.put, List.setIfInBounds_toArray, List.set_cons_zero, List.set_cons_succ, i64_w, i32_w]
                try rfl
              refine pure_ (i := 18) (N := some 154) (v := ?_) (a' := ?_) #[true, true, true, true, true, true, true, true, true, true, true, true, true, true, true, true, true, false, true, false, false, false, false, false, false, false, false, false] rfl rfl (any_of HT_.out (by kernel_rfl)) (fun _ _ _ h => h) (Or.inl ⟨by rfl, ?_⟩) ?_ ?_
              rotate_left
              · intro w'
                go_simp
                try with_reducible rfl
              rotate_left
              · simp (maxSteps := 4000000) only [Act.put, List.setIfInBounds_toArray, List.set_cons_zero, List.set_cons_succ, i64_w, i32_w]
                try rfl
              refine pure_ (i := 19) (N := some 155) (v := ?_) (a' := ?_) #[true, true, true, true, true, true, true, true, true, true, true, true, true, true, true, true, true, false, true, true, false, false, false, false, false, false, false, false] rfl rfl (any_of HT_.out (by kernel_rfl)) (fun _ _ _ h => h) (Or.inl ⟨by rfl, ?_⟩) ?_ ?_
              rotate_left
              · intro w'
                go_simp
                try with_reducible rfl
              rotate_left
              · simp (maxSteps := 4000000) only [Act.put, List.setIfInBounds_toArray, List.set_cons_zero, List.set_cons_succ, i64_w, i32_w]
                try rfl
              refine pure_ (i := 20) (N := some 156) (v := ?_) (a' := ?_) #[true, true, true, true, true, true, true, true, true, true, true, true, true, true, true, true, true, false, true, true, true, false, false, false, false, false, false, false] rfl rfl (any_of HT_.out (by kernel_rfl)) (fun _ _ _ h => h) (Or.inl ⟨by rfl, ?_⟩) ?_ ?_
              rotate_left
              · intro w'
                go_simp
                try with_reducible rfl
              rotate_left
              · simp (maxSteps := 4000000) only [Act.put, List.setIfInBounds_toArray, List.set_cons_zero, List.set_cons_succ, i64_w, i32_w]
                try rfl
              refine pure_ (i := 22) (N := some 158) (v := ?_) (a' := ?_) #[true, true, true, true, true, true, true, true, true, true, true, true, true, true, true, true, true, false, true, true, true, false, true, false, false, false, false, false] rfl rfl (any_of HT_.out (by kernel_rfl)) (fun _ _ _ h => h) (Or.inl ⟨by rfl, ?_⟩) ?_ ?_
              rotate_left
              · intro w'
                go_simp
                try with_reducible rfl
              rotate_left
              · simp (maxSteps := 4000000) only [Act.put, List.setIfInBounds_toArray, List.set_cons_zero, List.set_cons_succ, i64_w, i32_w]
                try rfl
              refine take_ (i := 21) (N := some 157) (v := ?_) (a' := ?_) #[true, true, true, true, true, true, true, true, true, true, true, true, true, true, true, true, true, false, true, true, true, true, true, false, false, false, false, false] rfl rfl (take_ofW HT_.out HW_.out (by kernel_rfl)) (fun _ _ _ h => h) (Or.inl ⟨by rfl, ?_⟩) hHeld ?_ ?_
              rotate_left
              · intro w' hw_
                try dsimp only at hw_
                go_simp
                try with_reducible rfl
              rotate_left
              · simp (maxSteps := 4000000) only [Act.put, List.setIfInBounds_toArray, List.set_cons_zero, List.set_cons_succ, i64_w, i32_w]
                try rfl
              refine pure_ (i := 23) (N := some 159) (v := ?_) (a' := ?_) #[true, true, true, true, true, true, true, true, true, true, true, true, true, true, true, true, true, false, true, true, true, true, true, true, false, false, false, false] rfl rfl (any_of HT_.out (by kernel_rfl)) (fun _ _ _ h => h) (Or.inl ⟨by rfl, ?_⟩) ?_ ?_
              rotate_left
              · intro w'
                go_simp
                try with_reducible rfl
              rotate_left
              · simp (maxSteps := 4000000) only [Act.put, List.setIfInBounds_toArray, List.set_cons_zero, List.set_cons_succ, i64_w, i32_w]
                try rfl
              refine take_ (i := 24) (N := some 160) (v := ?_) (a' := ?_) #[true, true, true, true, true, true, true, true, true, true, true, true, true, true, true, true, true, false, true, true, true, true, true, true, true, false, false, false] rfl rfl (take_ofW HT_.out HW_.out (by kernel_rfl)) (fun _ _ _ h => h) (Or.inl ⟨by rfl, ?_⟩) hHeld ?_ ?_
              rotate_left
              · intro w' hw_
                try dsimp only at hw_
                go_simp
                try with_reducible rfl
              rotate_left
              · simp (maxSteps := 4000000) only [Act.put, List.setIfInBounds_toArray, List.set_cons_zero, List.set_cons_succ, i64_w, i32_w]
                try rfl
              refine one_ (i := 17) (N := some 153) #[true, true, true, true, true, true, true, true, true, true, true, true, true, true, true, true, true, true, true, true, true, true, true, true, true, false, false, false] rfl rfl (one_of HT_.out (by kernel_rfl)) (by decide) (fun K hK => ?_)
              refine goes_ Try.func14 (by kernel_rfl) rfl #[(.pointer (some ⟨g, 0, none⟩)), (.int .i64 (k : Int))] (by rfl) rfl rfl (by (try simp only [List.map_toArray, List.map_cons, List.map_nil]); first | done | rfl) ?_
              refine (pool_wear g r b2 (k : Int) w' HP.out).mono ?_
              rintro e w' ⟨rfl, rfl⟩
              refine ⟨_, rfl, ?_⟩
              rw [HE.out.2]
              refine hK.out _ _ (hHeld) (fun hHeld => ?_)
              clear hK K
              refine norm_ (a' := ?_) ?_ ?_
              rotate_left
              · show Act.put _ (some 153) _ = _
                simp (maxSteps := 4000000) only [Act.put, List.setIfInBounds_toArray, List.set_cons_zero, List.set_cons_succ, i64_w, i32_w]
                try rfl
              refine pure_ (i := 25) (N := some 161) (v := ?_) (a' := ?_) #[true, true, true, true, true, true, true, true, true, true, true, true, true, true, true, true, true, true, true, true, true, true, true, true, true, true, false, false] rfl rfl (any_of HT_.out (by kernel_rfl)) (fun _ _ _ h => h) (Or.inl ⟨by rfl, ?_⟩) ?_ ?_
              rotate_left
              · intro w'
                go_simp
                try with_reducible rfl
              rotate_left
              · simp (maxSteps := 4000000) only [Act.put, List.setIfInBounds_toArray, List.set_cons_zero, List.set_cons_succ, i64_w, i32_w]
                try rfl
              refine pure_ (i := 26) (N := some 162) (v := ?_) (a' := ?_) #[true, true, true, true, true, true, true, true, true, true, true, true, true, true, true, true, true, true, true, true, true, true, true, true, true, true, true, false] rfl rfl (any_of HT_.out (by kernel_rfl)) (fun _ _ _ h => h) (Or.inl ⟨by rfl, ?_⟩) ?_ ?_
              rotate_left
              · intro w'
                go_simp
                try with_reducible rfl
              rotate_left
              · simp (maxSteps := 4000000) only [Act.put, List.setIfInBounds_toArray, List.set_cons_zero, List.set_cons_succ, i64_w, i32_w]
                try rfl
              refine pure_ (i := 27) (N := some 11) (v := ?_) (a' := ?_) #[true, true, true, true, true, true, true, true, true, true, true, true, true, true, true, true, true, true, true, true, true, true, true, true, true, true, true, true] rfl rfl (any_of HT_.out (by kernel_rfl)) (fun _ _ _ h => h) (Or.inl ⟨by rfl, ?_⟩) ?_ ?_
              rotate_left
              · intro w'
                go_simp
                try with_reducible rfl
              rotate_left
              · simp (maxSteps := 4000000) only [Act.put, List.setIfInBounds_toArray, List.set_cons_zero, List.set_cons_succ, i64_w, i32_w]
                try rfl
              refine done_ (done_of HT_.out (by kernel_rfl)) ?_
              go_wp2
              go_roundw
              case rel => exact ⟨k + 1, hlk, by rw [e4], rfl, HP.out, HM.out, HB.out⟩
              case measure => rw [e4]; simp only [RowKit.intOf, Int.toNat_natCast]; exact Nat.sub_lt_sub_left hlk (Nat.lt_succ_self k)
            · obtain rfl : k = n := Nat.le_antisymm hk (Nat.le_of_not_lt hlk)
              go_wp2_with fail
              go_loopw [11, 164] (fun ok i wr => ∃ s : Nat, s ≤ 5 ∧ i = .int .i64 (s : Int) ∧ ok = .bool true ∧ PoolAt wr g r b2 ∧ RefAt wr gm sa sb b2 ∧ Below w.heap.size w wr) (fun _ i _ => 5 - (RowKit.intOf i).toNat)
              case atStart => exact ⟨0, Nat.zero_le _, rfl, rfl, HP.out, HM.out, HB.out⟩
              case round =>
                clear HP HM HB
                obtain ⟨s, hs, rfl, rfl, h1, h2, h3⟩ := hrel
                have HP := Lib.hid h1; clear h1
                have HM := Lib.hid h2; clear h2
                have HB := Lib.hid h3; clear h3
                by_cases hls : s < 5
                · have e5 : wrap64 ((s : Int) + 1) = ((s + 1 : Nat) : Int) := wrap_succ s (Nat.lt_trans hls (by decide))
                  go_wp2_with fail
                  refine (pool_count g r b2 (s : Int) wr HP.out).mono ?_
                  rintro e wF ⟨rfl, hd⟩
                  replace HP := Lib.hid (HP.out.below hd)
                  replace HM := Lib.hid (HM.out.below hd)
                  replace HB := Lib.hid (chainC HB.out hd); clear hd
                  go_wp2_with fail
                  refine (ref_count gm sa sb b2 (s : Int) wF HM.out).mono ?_
                  rintro e wF ⟨rfl, rfl⟩
                  generalize countB b2 (s : Int) = cv
                  go_wp2
                  go_roundw
                  case rel => exact ⟨s + 1, hls, by first | rw [e5] | rfl, rfl, HP.out, HM.out, HB.out⟩
                  case measure => (first | rw [e5] | rw [show (s : Int) + 1 = ((s + 1 : Nat) : Int) from rfl]); simp only [RowKit.intOf, Int.toNat_natCast]; exact Nat.sub_lt_sub_left hls (Nat.lt_succ_self s)
                · obtain rfl : s = 5 := Nat.le_antisymm hs (Nat.le_of_not_lt hls)
                  go_wp2_with fail
                  refine (pool_spread g r b2 wr HP.out).mono ?_
                  rintro e wF ⟨rfl, hd⟩
                  replace HP := Lib.hid (HP.out.below hd)
                  replace HM := Lib.hid (HM.out.below hd)
                  replace HB := Lib.hid (chainC HB.out hd); clear hd
                  rw [(spr_spread b2 HG2.out.2).1, (spr_spread b2 HG2.out.2).2]
                  go_wp2_with fail
                  refine (ref_spread gm sa sb b2 wF HM.out).mono ?_
                  rintro e wF ⟨rfl, rfl⟩
                  generalize sprR b2 = sp
                  obtain ⟨lo, hi, fi⟩ := sp
                  have HO1 := Lib.hid (stB_out b2 (k : Int) (.inr (by rw [HG2.out.1]; exact Int.le_refl _)))
                  have HO2 := Lib.hid (stB_out b2 (-1) (.inl (by decide)))
                  go_wp2_with fail
                  refine (pool_state g r b2 (k : Int) _ HP.out).mono ?_
                  rintro e wF ⟨rfl, rfl⟩
                  rw [HO1.out.1]
                  go_wp2_with fail
                  refine (pool_state g r b2 (-1) _ HP.out).mono ?_
                  rintro e wF ⟨rfl, rfl⟩
                  rw [HO2.out.1]
                  go_wp2_with fail
                  refine (pool_wear g r b2 (k : Int) _ HP.out).mono ?_
                  rintro e wF ⟨rfl, rfl⟩
                  rw [HO1.out.2]
                  go_wp2
                  go_roundw
                  case rel => exact ⟨j + 1, b2, hlt, by rw [e3], HG2.out, HP.out, HM.out, HB.out⟩
                  case measure => rw [e3]; simp only [RowKit.intOf, Int.toNat_natCast]; exact Nat.sub_lt_sub_left hlt (Nat.lt_succ_self j)
      · as_aux_lemma =>
          go_wp2_with fail
          clear k0 k1 k2 s0 s1 s2 hmod hmod2 hd0
          generalize (wr.alloc (Obj.cells #[Value.int IntKind.i64 x, Value.int IntKind.i64 y, Value.int IntKind.i64 z] 46)) = wA at HP HM HB HSB ⊢
          generalize wr.heap.size = bx at HSB HNb ⊢
          clear HSB
          refine (pool_most g r bs wA HP.out).mono ?_
          rintro e wB ⟨rfl, hp, hd⟩
          replace HM := Lib.hid (HM.out.grown hd HNe.out.2.1 HNe.out.2.2.2.1 HNe.out.2.2.2.2.2)
          replace HB := Lib.hid (below_row HB.out HG.out.2 hd HB.out.size)
          replace HP := Lib.hid hp
          clear hp hd
          go_wp2_with fail
          refine (ref_take true gm sa sb bs wB HM.out).mono ?_
          rintro e wC ⟨rfl, hm, hd⟩
          rw [show cmpR true = cmpM from rfl] at hm ⊢
          replace HP := Lib.hid (HP.out.grown' hd (Ne.symm HNe.out.2.2.1) (Ne.symm HNe.out.2.2.2.1))
          replace HB := Lib.hid (below_row HB.out HGm.out.2.1 hd HB.out.size)
          replace HM := Lib.hid hm
          clear hm hd
          generalize takeV cmpM bs = v
          obtain ⟨v1, v2⟩ := v
          have HG2 := Lib.hid (good_take HGd.out cmpM)
          clear HGd
          generalize takeL cmpM bs = b2 at HP HM HG2
          go_wp2_with fail
          go_loopw [11, 133] (fun ok i wr => ∃ k : Nat, k ≤ n ∧ i = .int .i64 (k : Int) ∧ ok = .bool true ∧ PoolAt wr g r b2 ∧ RefAt wr gm sa sb b2 ∧ Below w.heap.size w wr) (fun _ i _ => n - (RowKit.intOf i).toNat)
          case atStart => exact ⟨0, Nat.zero_le _, rfl, rfl, HP.out, HM.out, HB.out⟩
          case round =>
            clear HP HM HB
            obtain ⟨k, hk, rfl, rfl, h1, h2, h3⟩ := hrel
            have HP := Lib.hid h1; clear h1
            have HM := Lib.hid h2; clear h2
            have HB := Lib.hid h3; clear h3
            by_cases hlk : k < n
            · have hkl : k < b2.length := by rw [HG2.out.1]; exact hlk
              have eS := stB_in b2 k hkl
              have e4 : wrap64 ((k : Int) + 1) = ((k + 1 : Nat) : Int) := wrap_succ k (Nat.lt_trans hlk (Nat.lt_of_le_of_lt HS.out.2 (by decide)))
              have hS := And.intro HM.out.cell0 (And.intro HM.out.cell1 (And.intro (HM.out.s0 k hkl) (HM.out.w0 k hkl)))
              generalize b2[k].1 = sv at eS hS
              generalize b2[k].2 = wv at eS hS
              have HE := Lib.hid eS; clear eS
              have HSc := Lib.hid hS; clear hS
              go_wp2_with fail
              have hS := HSc.out; clear HSc
              replace HP := Lib.hid (show PoolAt wr.drew g r b2 from ⟨HP.out.head, HP.out.row, HP.out.ne, HP.out.max⟩)
              replace HM := Lib.hid (show RefAt wr.drew gm sa sb b2 from ⟨HM.out.head, HM.out.rowS, HM.out.rowW, HM.out.n1, HM.out.n2, HM.out.n3, HM.out.max⟩)
              replace HB := Lib.hid (show Below w.heap.size w wr.drew from below_drew1 HB.out)
              refine start_ (n := 28) (S := fun w' => w'.cell? ⟨gm, 0, none⟩ = some (.slice (some ⟨sa, 0, none⟩) b2.length b2.length) ∧ w'.cell? ⟨gm, 1, none⟩ = some (.slice (some ⟨sb, 0, none⟩) b2.length b2.length) ∧ w'.cell? ⟨sa, k, none⟩ = some (.int .i64 sv) ∧ w'.cell? ⟨sb, k, none⟩ = some (.int .i64 wv)) (ds := []) #[false, false, false, false, false, false, false, false, false, false, false, false, false, false, false, false, false, false, false, false, false, false, false, false, false, false, false, false] (by kernel_rfl) rfl rfl hS (fun hHeld => ?_)
              refine with_tabW rg5_27.tab rg5_27.bits (fun HT_ HW_ => ?_)
              generalize wr.drew = w' at HB HP HM hHeld ⊢
              refine pure_ (i := 0) (N := some 136) (v := ?_) (a' := ?_) #[true, false, false, false, false, false, false, false, false, false, false, false, false, false, false, false, false, false, false, false, false, false, false, false, false, false, false, false] rfl rfl (any_of HT_.out (by kernel_rfl)) (fun _ _ _ h => h) (Or.inl ⟨by rfl, ?_⟩) ?_ ?_
              rotate_left
              · intro w'
                go_simp
                try with_reducible rfl
              rotate_left
              · simp (maxSteps := 4000000) only [Act.put, List.setIfInBounds_toArray, List.set_cons_zero, List.set_cons_succ, i64_w, i32_w]
                try rfl
              refine pure_ (i := 1) (N := some 137) (v := ?_) (a' := ?_) #[true, true, false, false, false, false, false, false, false, false, false, false, false, false, false, false, false, false, false, false, false, false, false, false, false, false, false, false] rfl rfl (any_of HT_.out (by kernel_rfl)) (fun _ _ _ h => h) (Or.inl ⟨by rfl, ?_⟩) ?_ ?_
              rotate_left
              · intro w'
                go_simp
                try with_reducible rfl
              rotate_left
              · simp (maxSteps := 4000000) only [Act.put, List.setIfInBounds_toArray, List.set_cons_zero, List.set_cons_succ, i64_w, i32_w]
                try rfl
              refine pure_ (i := 2) (N := some 138) (v := ?_) (a' := ?_) #[true, true, true, false, false, false, false, false, false, false, false, false, false, false, false, false, false, false, false, false, false, false, false, false, false, false, false, false] rfl rfl (any_of HT_.out (by kernel_rfl)) (fun _ _ _ h => h) (Or.inl ⟨by rfl, ?_⟩) ?_ ?_
              rotate_left
              · intro w'
                go_simp
                try with_reducible rfl
              rotate_left
              · simp (maxSteps := 4000000) only [Act.put, List.setIfInBounds_toArray, List.set_cons_zero, List.set_cons_succ, i64_w, i32_w]
                try rfl
              refine pure_ (i := 3) (N := some 139) (v := ?_) (a' := ?_) #[true, true, true, true, false, false, false, false, false, false, false, false, false, false, false, false, false, false, false, false, false, false, false, false, false, false, false, false] rfl rfl (any_of HT_.out (by kernel_rfl)) (fun _ _ _ h => h) (Or.inl ⟨by rfl, ?_⟩) ?_ ?_
              rotate_left
              · intro w'
                go_simp
                try with_reducible rfl
              rotate_left
              · simp (maxSteps := 4000000) only [Act.put, List.setIfInBounds_toArray, List.set_cons_zero, List.set_cons_succ, i64_w, i32_w]
                try rfl
              refine pure_ (i := 5) (N := some 141) (v := ?_) (a' := ?_) #[true, true, true, true, false, true, false, false, false, false, false, false, false, false, false, false, false, false, false, false, false, false, false, false, false, false, false, false] rfl rfl (any_of HT_.out (by kernel_rfl)) (fun _ _ _ h => h) (Or.inl ⟨by rfl, ?_⟩) ?_ ?_
              rotate_left
              · intro w'
                go_simp
                try with_reducible rfl
              rotate_left
              · simp (maxSteps := 4000000) only [Act.put, List.setIfInBounds_toArray, List.set_cons_zero, List.set_cons_succ, i64_w, i32_w]
                try rfl
              refine pure_ (i := 6) (N := some 142) (v := ?_) (a' := ?_) #[true, true, true, true, false, true, true, false, false, false, false, false, false, false, false, false, false, false, false, false, false, false, false, false, false, false, false, false] rfl rfl (any_of HT_.out (by kernel_rfl)) (fun _ _ _ h => h) (Or.inl ⟨by rfl, ?_⟩) ?_ ?_
              rotate_left
              · intro w'
                go_simp
                try with_reducible rfl
              rotate_left
              · simp (maxSteps := 4000000) only [Act.put, List.setIfInBounds_toArray, List.set_cons_zero, List.set_cons_succ, i64_w, i32_w]
                try rfl
              refine pure_ (i := 7) (N := some 143) (v := ?_) (a' := ?_) #[true, true, true, true, false, true, true, true, false, false, false, false, false, false, false, false, false, false, false, false, false, false, false, false, false, false, false, false] rfl rfl (any_of HT_.out (by kernel_rfl)) (fun _ _ _ h => h) (Or.inl ⟨by rfl, ?_⟩) ?_ ?_
              rotate_left
              · intro w'
                go_simp
                try with_reducible rfl
              rotate_left
              · simp (maxSteps := 4000000) only [Act.put, List.setIfInBounds_toArray, List.set_cons_zero, List.set_cons_succ, i64_w, i32_w]
                try rfl
              refine pure_ (i := 9) (N := some 145) (v := ?_) (a' := ?_) #[true, true, true, true, false, true, true, true, false, true, false, false, false, false, false, false, false, false, false, false, false, false, false, false, false, false, false, false] rfl rfl (any_of HT_.out (by kernel_rfl)) (fun _ _ _ h => h) (Or.inl ⟨by rfl, ?_⟩) ?_ ?_
              rotate_left
              · intro w'
                go_simp
                try with_reducible rfl
              rotate_left
              · simp (maxSteps := 4000000) only [Act.put, List.setIfInBounds_toArray, List.set_cons_zero, List.set_cons_succ, i64_w, i32_w]
                try rfl
              refine take_ (i := 8) (N := some 144) (v := ?_) (a' := ?_) #[true, true, true, true, false, true, true, true, true, true, false, false, false, false, false, false, false, false, false, false, false, false, false, false, false, false, false, false] rfl rfl (take_ofW HT_.out HW_.out (by kernel_rfl)) (fun _ _ _ h => h) (Or.inl ⟨by rfl, ?_⟩) hHeld ?_ ?_
              rotate_left
              · intro w' hw_
                try dsimp only at hw_
                go_simp
                try with_reducible rfl
              rotate_left
              · simp (maxSteps := 4000000) only [Act.put, List.setIfInBounds_toArray, List.set_cons_zero, List.set_cons_succ, i64_w, i32_w]
                try rfl
              refine pure_ (i := 10) (N := some 146) (v := ?_) (a' := ?_) #[true, true, true, true, false, true, true, true, true, true, true, false, false, false, false, false, false, false, false, false, false, false, false, false, false, false, false, false] rfl rfl (any_of HT_.out (by kernel_rfl)) (fun _ _ _ h => h) (Or.inl ⟨by rfl, ?_⟩) ?_ ?_
              rotate_left
              · intro w'
                go_simp
                try with_reducible rfl
              rotate_left
              · simp (maxSteps := 4000000) only [Act.put, List.setIfInBounds_toArray, List.set_cons_zero, List.set_cons_succ, i64_w, i32_w]
                try rfl
              refine take_ (i := 11) (N := some 147) (v := ?_) (a' := ?_) #[true, true, true, true, false, true, true, true, true, true, true, true, false, false, false, false, false, false, false, false, false, false, false, false, false, false, false, false] rfl rfl (take_ofW HT_.out HW_.out (by kernel_rfl)) (fun _ _ _ h => h) (Or.inl ⟨by rfl, ?_⟩) hHeld ?_ ?_
              rotate_left
              · intro w' hw_
                try dsimp only at hw_
                go_simp
                try with_reducible rfl
              rotate_left
              · simp (maxSteps := 4000000) only [Act.put, List.setIfInBounds_toArray, List.set_cons_zero, List.set_cons_succ, i64_w, i32_w]
                try rfl
              refine one_ (i := 4) (N := some 140) #[true, true, true, true, true, true, true, true, true, true, true, true, false, false, false, false, false, false, false, false, false, false, false, false, false, false, false, false] rfl rfl (one_of HT_.out (by kernel_rfl)) (by decide) (fun K hK => ?_)
              refine goes_ Try.func11 (by kernel_rfl) rfl #[(.pointer (some ⟨g, 0, none⟩)), (.int .i64 (k : Int))] (by rfl) rfl rfl (by (try simp only [List.map_toArray, List.map_cons, List.map_nil]); first | done | rfl) ?_
              refine (pool_state g r b2 (k : Int) w' HP.out).mono ?_
              rintro e w' ⟨rfl, rfl⟩
              refine ⟨_, rfl, ?_⟩
              rw [HE.out.1]
              refine hK.out _ _ (hHeld) (fun hHeld => ?_)
              clear hK K
              refine norm_ (a' := ?_) ?_ ?_
              rotate_left
              · show Act.put _ (some 140) _ = _
                simp (maxSteps := 4000000) only [Act.put, List.setIfInBounds_toArray, List.set_cons_zero, List.set_cons_succ, i64_w, i32_w]
                try rfl
              refine pure_ (i := 12) (N := some 148) (v := ?_) (a' := ?_) #[true, true, true, true, true, true, true, true, true, true, true, true, true, false, false, false, false, false, false, false, false, false, false, false, false, false, false, false] rfl rfl (any_of HT_.out (by kernel_rfl)) (fun _ _ _ h => h) (Or.inl ⟨by rfl, ?_⟩) ?_ ?_
              rotate_left
              · intro w'
                go_simp
                try with_reducible rfl
              rotate_left
              · simp (maxSteps := 4000000) only [Act.put, List.setIfInBounds_toArray, List.set_cons_zero, List.set_cons_succ, i64_w, i32_w]
                try rfl
              refine pure_ (i := 13) (N := some 149) (v := ?_) (a' := ?_) #[true, true, true, true, true, true, true, true, true, true, true, true, true, true, false, false, false, false, false, false, false, false, false, false, false, false, false, false] rfl rfl (any_of HT_.out (by kernel_rfl)) (fun _ _ _ h => h) (Or.inl ⟨by rfl, ?_⟩) ?_ ?_
              rotate_left
              · intro w'
                go_simp
                try with_reducible rfl
              rotate_left
              · simp (maxSteps := 4000000) only [Act.put, List.setIfInBounds_toArray, List.set_cons_zero, List.set_cons_succ, i64_w, i32_w]
                try rfl
              refine pure_ (i := 14) (N := some 150) (v := ?_) (a' := ?_) #[true, true, true, true, true, true, true, true, true, true, true, true, true, true, true, false, false, false, false, false, false, false, false, false, false, false, false, false] rfl rfl (any_of HT_.out (by kernel_rfl)) (fun _ _ _ h => h) (Or.inl ⟨by rfl, ?_⟩) ?_ ?_
              rotate_left
              · intro w'
                go_simp
                try with_reducible rfl
              rotate_left
              · simp (maxSteps := 4000000) only [Act.put, List.setIfInBounds_toArray, List.set_cons_zero, List.set_cons_succ, i64_w, i32_w]
                try rfl
              refine pure_ (i := 15) (N := some 151) (v := ?_) (a' := ?_) #[true, true, true, true, true, true, true, true, true, true, true, true, true, true, true, true, false, false, false, false, false, false, false, false, false, false, false, false] rfl rfl (any_of HT_.out (by kernel_rfl)) (fun _ _ _ h => h) (Or.inl ⟨by rfl, ?_⟩) ?_ ?_
              rotate_left
              · intro w'
                go_simp
                try with_reducible rfl
              rotate_left
              · simp (maxSteps := 4000000) only [Act.put, List.setIfInBounds_toArray, List.set_cons_zero, List.set_cons_succ, i64_w, i32_w]
                try rfl
              refine pure_ (i := 16) (N := some 152) (v := ?_) (a' := ?_) #[true, true, true, true, true, true, true, true, true, true, true, true, true, true, true, true, true, false, false, false, false, false, false, false, false, false, false, false] rfl rfl (any_of HT_.out (by kernel_rfl)) (fun _ _ _ h => h) (Or.inl ⟨by rfl, ?_⟩) ?_ ?_
              rotate_left
              · intro w'
                go_simp
                try with_reducible rfl
              rotate_left
              · simp (maxSteps := 4000000) only [Act.put, List.setIfInBounds_toArray, List.set_cons_zero, List.set_cons_succ, i64_w, i32_w]
                try rfl
              refine pure_ (i := 18) (N := some 154) (v := ?_) (a' := ?_) #[true, true, true, true, true, true, true, true, true, true, true, true, true, true, true, true, true, false, true, false, false, false, false, false, false, false, false, false] rfl rfl (any_of HT_.out (by kernel_rfl)) (fun _ _ _ h => h) (Or.inl ⟨by rfl, ?_⟩) ?_ ?_
              rotate_left
              · intro w'
                go_simp
                try with_reducible rfl
              rotate_left
              · simp (maxSteps := 4000000) only [Act.put, List.setIfInBounds_toArray, List.set_cons_zero, List.set_cons_succ, i64_w, i32_w]
                try rfl
              refine pure_ (i := 19) (N := some 155) (v := ?_) (a' := ?_) #[true, true, true, true, true, true, true, true, true, true, true, true, true, true, true, true, true, false, true, true, false, false, false, false, false, false, false, false] rfl rfl (any_of HT_.out (by kernel_rfl)) (fun _ _ _ h => h) (Or.inl ⟨by rfl, ?_⟩) ?_ ?_
              rotate_left
              · intro w'
                go_simp
                try with_reducible rfl
              rotate_left
              · simp (maxSteps := 4000000) only [Act.put, List.setIfInBounds_toArray, List.set_cons_zero, List.set_cons_succ, i64_w, i32_w]
                try rfl
              refine pure_ (i := 20) (N := some 156) (v := ?_) (a' := ?_) #[true, true, true, true, true, true, true, true, true, true, true, true, true, true, true, true, true, false, true, true, true, false, false, false, false, false, false, false] rfl rfl (any_of HT_.out (by kernel_rfl)) (fun _ _ _ h => h) (Or.inl ⟨by rfl, ?_⟩) ?_ ?_
              rotate_left
              · intro w'
                go_simp
                try with_reducible rfl
              rotate_left
              · simp (maxSteps := 4000000) only [Act.put, List.setIfInBounds_toArray, List.set_cons_zero, List.set_cons_succ, i64_w, i32_w]
                try rfl
              refine pure_ (i := 22) (N := some 158) (v := ?_) (a' := ?_) #[true, true, true, true, true, true, true, true, true, true, true, true, true, true, true, true, true, false, true, true, true, false, true, false, false, false, false, false] rfl rfl (any_of HT_.out (by kernel_rfl)) (fun _ _ _ h => h) (Or.inl ⟨by rfl, ?_⟩) ?_ ?_
              rotate_left
              · intro w'
                go_simp
                try with_reducible rfl
              rotate_left
              · simp (maxSteps := 4000000) only [Act.put, List.setIfInBounds_toArray, List.set_cons_zero, List.set_cons_succ, i64_w, i32_w]
                try rfl
              refine take_ (i := 21) (N := some 157) (v := ?_) (a' := ?_) #[true, true, true, true, true, true, true, true, true, true, true, true, true, true, true, true, true, false, true, true, true, true, true, false, false, false, false, false] rfl rfl (take_ofW HT_.out HW_.out (by kernel_rfl)) (fun _ _ _ h => h) (Or.inl ⟨by rfl, ?_⟩) hHeld ?_ ?_
              rotate_left
              · intro w' hw_
                try dsimp only at hw_
                go_simp
                try with_reducible rfl
              rotate_left
              · simp (maxSteps := 4000000) only [Act.put, List.setIfInBounds_toArray, List.set_cons_zero, List.set_cons_succ, i64_w, i32_w]
                try rfl
              refine pure_ (i := 23) (N := some 159) (v := ?_) (a' := ?_) #[true, true, true, true, true, true, true, true, true, true, true, true, true, true, true, true, true, false, true, true, true, true, true, true, false, false, false, false] rfl rfl (any_of HT_.out (by kernel_rfl)) (fun _ _ _ h => h) (Or.inl ⟨by rfl, ?_⟩) ?_ ?_
              rotate_left
              · intro w'
                go_simp
                try with_reducible rfl
              rotate_left
              · simp (maxSteps := 4000000) only [Act.put, List.setIfInBounds_toArray, List.set_cons_zero, List.set_cons_succ, i64_w, i32_w]
                try rfl
              refine take_ (i := 24) (N := some 160) (v := ?_) (a' := ?_) #[true, true, true, true, true, true, true, true, true, true, true, true, true, true, true, true, true, false, true, true, true, true, true, true, true, false, false, false] rfl rfl (take_ofW HT_.out HW_.out (by kernel_rfl)) (fun _ _ _ h => h) (Or.inl ⟨by rfl, ?_⟩) hHeld ?_ ?_
              rotate_left
              · intro w' hw_
                try dsimp only at hw_
                go_simp
                try with_reducible rfl
              rotate_left
              · simp (maxSteps := 4000000) only [Act.put, List.setIfInBounds_toArray, List.set_cons_zero, List.set_cons_succ, i64_w, i32_w]
                try rfl
              refine one_ (i := 17) (N := some 153) #[true, true, true, true, true, true, true, true, true, true, true, true, true, true, true, true, true, true, true, true, true, true, true, true, true, false, false, false] rfl rfl (one_of HT_.out (by kernel_rfl)) (by decide) (fun K hK => ?_)
              refine goes_ Try.func14 (by kernel_rfl) rfl #[(.pointer (some ⟨g, 0, none⟩)), (.int .i64 (k : Int))] (by rfl) rfl rfl (by (try simp only [List.map_toArray, List.map_cons, List.map_nil]); first | done | rfl) ?_
              refine (pool_wear g r b2 (k : Int) w' HP.out).mono ?_
              rintro e w' ⟨rfl, rfl⟩
              refine ⟨_, rfl, ?_⟩
              rw [HE.out.2]
              refine hK.out _ _ (hHeld) (fun hHeld => ?_)
              clear hK K
              refine norm_ (a' := ?_) ?_ ?_
              rotate_left
              · show Act.put _ (some 153) _ = _
                simp (maxSteps := 4000000) only [Act.put, List.setIfInBounds_toArray, List.set_cons_zero, List.set_cons_succ, i64_w, i32_w]
                try rfl
              refine pure_ (i := 25) (N := some 161) (v := ?_) (a' := ?_) #[true, true, true, true, true, true, true, true, true, true, true, true, true, true, true, true, true, true, true, true, true, true, true, true, true, true, false, false] rfl rfl (any_of HT_.out (by kernel_rfl)) (fun _ _ _ h => h) (Or.inl ⟨by rfl, ?_⟩) ?_ ?_
              rotate_left
              · intro w'
                go_simp
                try with_reducible rfl
              rotate_left
              · simp (maxSteps := 4000000) only [Act.put, List.setIfInBounds_toArray, List.set_cons_zero, List.set_cons_succ, i64_w, i32_w]
                try rfl
              refine pure_ (i := 26) (N := some 162) (v := ?_) (a' := ?_) #[true, true, true, true, true, true, true, true, true, true, true, true, true, true, true, true, true, true, true, true, true, true, true, true, true, true, true, false] rfl rfl (any_of HT_.out (by kernel_rfl)) (fun _ _ _ h => h) (Or.inl ⟨by rfl, ?_⟩) ?_ ?_
              rotate_left
              · intro w'
                go_simp
                try with_reducible rfl
              rotate_left
              · simp (maxSteps := 4000000) only [Act.put, List.setIfInBounds_toArray, List.set_cons_zero, List.set_cons_succ, i64_w, i32_w]
                try rfl
              refine pure_ (i := 27) (N := some 11) (v := ?_) (a' := ?_) #[true, true, true, true, true, true, true, true, true, true, true, true, true, true, true, true, true, true, true, true, true, true, true, true, true, true, true, true] rfl rfl (any_of HT_.out (by kernel_rfl)) (fun _ _ _ h => h) (Or.inl ⟨by rfl, ?_⟩) ?_ ?_
              rotate_left
              · intro w'
                go_simp
                try with_reducible rfl
              rotate_left
              · simp (maxSteps := 4000000) only [Act.put, List.setIfInBounds_toArray, List.set_cons_zero, List.set_cons_succ, i64_w, i32_w]
                try rfl
              refine done_ (done_of HT_.out (by kernel_rfl)) ?_
              go_wp2
              go_roundw
              case rel => exact ⟨k + 1, hlk, by rw [e4], rfl, HP.out, HM.out, HB.out⟩
              case measure => rw [e4]; simp only [RowKit.intOf, Int.toNat_natCast]; exact Nat.sub_lt_sub_left hlk (Nat.lt_succ_self k)
            · obtain rfl : k = n := Nat.le_antisymm hk (Nat.le_of_not_lt hlk)
              go_wp2_with fail
              go_loopw [11, 164] (fun ok i wr => ∃ s : Nat, s ≤ 5 ∧ i = .int .i64 (s : Int) ∧ ok = .bool true ∧ PoolAt wr g r b2 ∧ RefAt wr gm sa sb b2 ∧ Below w.heap.size w wr) (fun _ i _ => 5 - (RowKit.intOf i).toNat)
              case atStart => exact ⟨0, Nat.zero_le _, rfl, rfl, HP.out, HM.out, HB.out⟩
              case round =>
                clear HP HM HB
                obtain ⟨s, hs, rfl, rfl, h1, h2, h3⟩ := hrel
                have HP := Lib.hid h1; clear h1
                have HM := Lib.hid h2; clear h2
                have HB := Lib.hid h3; clear h3
                by_cases hls : s < 5
                · have e5 : wrap64 ((s : Int) + 1) = ((s + 1 : Nat) : Int) := wrap_succ s (Nat.lt_trans hls (by decide))
                  go_wp2_with fail
                  refine (pool_count g r b2 (s : Int) wr HP.out).mono ?_
                  rintro e wF ⟨rfl, hd⟩
                  replace HP := Lib.hid (HP.out.below hd)
                  replace HM := Lib.hid (HM.out.below hd)
                  replace HB := Lib.hid (chainC HB.out hd); clear hd
                  go_wp2_with fail
                  refine (ref_count gm sa sb b2 (s : Int) wF HM.out).mono ?_
                  rintro e wF ⟨rfl, rfl⟩
                  generalize countB b2 (s : Int) = cv
                  go_wp2
                  go_roundw
                  case rel => exact ⟨s + 1, hls, by first | rw [e5] | rfl, rfl, HP.out, HM.out, HB.out⟩
                  case measure => (first | rw [e5] | rw [show (s : Int) + 1 = ((s + 1 : Nat) : Int) from rfl]); simp only [RowKit.intOf, Int.toNat_natCast]; exact Nat.sub_lt_sub_left hls (Nat.lt_succ_self s)
                · obtain rfl : s = 5 := Nat.le_antisymm hs (Nat.le_of_not_lt hls)
                  go_wp2_with fail
                  refine (pool_spread g r b2 wr HP.out).mono ?_
                  rintro e wF ⟨rfl, hd⟩
                  replace HP := Lib.hid (HP.out.below hd)
                  replace HM := Lib.hid (HM.out.below hd)
                  replace HB := Lib.hid (chainC HB.out hd); clear hd
                  rw [(spr_spread b2 HG2.out.2).1, (spr_spread b2 HG2.out.2).2]
                  go_wp2_with fail
                  refine (ref_spread gm sa sb b2 wF HM.out).mono ?_
                  rintro e wF ⟨rfl, rfl⟩
                  generalize sprR b2 = sp
                  obtain ⟨lo, hi, fi⟩ := sp
                  have HO1 := Lib.hid (stB_out b2 (k : Int) (.inr (by rw [HG2.out.1]; exact Int.le_refl _)))
                  have HO2 := Lib.hid (stB_out b2 (-1) (.inl (by decide)))
                  go_wp2_with fail
                  refine (pool_state g r b2 (k : Int) _ HP.out).mono ?_
                  rintro e wF ⟨rfl, rfl⟩
                  rw [HO1.out.1]
                  go_wp2_with fail
                  refine (pool_state g r b2 (-1) _ HP.out).mono ?_
                  rintro e wF ⟨rfl, rfl⟩
                  rw [HO2.out.1]
                  go_wp2_with fail
                  refine (pool_wear g r b2 (k : Int) _ HP.out).mono ?_
                  rintro e wF ⟨rfl, rfl⟩
                  rw [HO1.out.2]
                  go_wp2
                  go_roundw
                  case rel => exact ⟨j + 1, b2, hlt, by rw [e3], HG2.out, HP.out, HM.out, HB.out⟩
                  case measure => rw [e3]; simp only [RowKit.intOf, Int.toNat_natCast]; exact Nat.sub_lt_sub_left hlt (Nat.lt_succ_self j)
    · obtain rfl : j = N := Nat.le_antisymm hj (Nat.le_of_not_lt hlt)
      go_wp2
      go_ret
      exact ⟨rfl, HB.out⟩
theorem poolPlays_law (a0 : Int) (a1 : Option Addr) (len1 cap1 : Nat) (W : World) (w0 : (Lit.int .i64 a0).wf = true) (w1 : RowIn W [.int .i64, .int .i64, .int .i64] a1 len1) (y1 : len1 ≤ cap1 ∧ cap1 ≤ maxLen) :
    Calls Try.prog 5 #[.int .i64 a0, .slice a1 len1 cap1] W fun e w' => e = .returned (.bool true) ∧ Below W.heap.size W w' := by
  obtain ⟨fs, rfl, h⟩ := acts_of w1
  exact poolPlays_walk a0 a1 fs cap1 y1 W h
end Go.Proofs.Ytgebiiekofpihaa
