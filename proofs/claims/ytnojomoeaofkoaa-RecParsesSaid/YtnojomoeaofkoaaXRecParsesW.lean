/- RecParses: the records of all bytes, of records with some turned or left out, too, are the document's, or its error: the walk. No conditions beyond the form's own reach. -/
import Derived.Test.YtnojomoeaofkoaaXRecFramesW
import Derived.Test.YtnojomoeaofkoaaXBytes
namespace Go.Proofs.Ytnojomoeaofkoaa
open Go.RowKit Go.Lib Go.Proofs.Ytnojomoeaofkoaa.P Go.Proofs.Ytnojomoeaofkoaa.BeS Go.Proofs.Ytnojomoeaofkoaa.PoS Go.Proofs.YtnojomoeaofkoaaW.PrintWords Go.Proofs.YtnojomoeaofkoaaW.PrintLast Go.Proofs.YtnojomoeaofkoaaW.PrintMore
set_option linter.unusedVariables false
set_option linter.unusedSimpArgs false
def rg4_6.T : Bool × List (List Nat × List Nat) := (true, [([], []), ([], []), ([1], [1]), ([2], [2]), ([], []), ([4], [4]), ([3, 5], [3, 5]), ([0, 6], [0, 6]), ([7], [7]), ([], []), ([9], [9]), ([10], [10]), ([8, 11], [8, 11]), ([0, 6, 0, 1, 2, 3, 4, 5, 6, 7, 8, 9, 10, 11, 12], [0, 6]), ([13, 12, 0, 1, 2, 3, 4, 5, 6, 7, 8, 9, 10, 11, 12], [12, 13])])
def rg4_6.B : List Nat := [0, 0, 2, 6, 0, 16, 62, 127, 255, 0, 512, 1536, 4095, 8191, 16383]
theorem rg4_6.tab : rtab .any (opsOf Try.f4 6) = rg4_6.T := by kernel_rfl
theorem rg4_6.bits : waitsOk rg4_6.T.2 rg4_6.B = true := by kernel_rfl
def rg4_7.T : Bool × List (List Nat × List Nat) := (true, [([], []), ([], []), ([], []), ([], []), ([2, 3], [2, 3]), ([], []), ([5], [5]), ([], []), ([], []), ([8], [8]), ([9], [9]), ([7, 10], [7, 10]), ([11], [11]), ([], []), ([], []), ([14], [14]), ([15], [15]), ([], []), ([17], [17]), ([18], [18]), ([16, 19], [16, 19]), ([13, 20], [13, 20]), ([0, 1, 4, 6, 12, 21], [0, 1, 4, 6, 12, 21]), ([22], [22]), ([], [])])
def rg4_7.B : List Nat := [0, 0, 0, 0, 12, 0, 32, 0, 0, 256, 768, 1920, 3968, 0, 0, 16384, 49152, 0, 131072, 393216, 1032192, 2088960, 4194303, 8388607, 0]
theorem rg4_7.tab : rtab .any (opsOf Try.f4 7) = rg4_7.T := by kernel_rfl
theorem rg4_7.bits : waitsOk rg4_7.T.2 rg4_7.B = true := by kernel_rfl
def rg4_17.T : Bool × List (List Nat × List Nat) := (true, [([], []), ([], []), ([0, 1], [0, 1]), ([2], [2]), ([], []), ([], []), ([4, 5], [4, 5]), ([6], [6]), ([3, 7], [3, 7])])
def rg4_17.B : List Nat := [0, 0, 3, 7, 0, 0, 48, 112, 255]
theorem rg4_17.tab : rtab .any (opsOf Try.f4 17) = rg4_17.T := by kernel_rfl
theorem rg4_17.bits : waitsOk rg4_17.T.2 rg4_17.B = true := by kernel_rfl
theorem rec_parse_nil (s : ByteArray) (w : World) :
    Calls Try.prog 14 #[.pointer none, .string s] w fun e w' => e = .returned (.tuple #[.slice none 0 0, .int .i64 1]) ∧ w' = w := by
  go_enter Try.func14, Try.ntmps14
  go_wp2
  go_ret2
  exact ⟨rfl, rfl⟩
theorem frameV_size6 (rs : List Rc) (h1 : rs.length ≤ 6) (h2 : ∀ r ∈ rs, RcIn r) : (frameV rs).1.size ≤ 24042 := by
  have := frameL_len rs h2
  unfold frameV
  split
  · show (str (frameL rs)).size ≤ _; rw [str_size]; omega
  · exact Nat.zero_le _
theorem TabAt.set {w : World} {g b i : Nat} (h : TabAt w g) (hne : g ≠ b) (v : Value) : TabAt (w.setCell ⟨b, i, none⟩ v) g := fun j hj => by
  rw [World.cell?_setCell_other _ _ _ _ (by intro e; injection e with e1; exact hne e1.symm)]
  exact h j hj
theorem wrap_succB (p : Nat) (h : p < 1000000) : wrap64 ((p : Int) + 1) = ((p + 1 : Nat) : Int) := by unfold wrap64; omega
theorem parseF_len (f : Nat) : ∀ s : ByteArray, (parseF f s).1.length * 7 ≤ s.size := by
  induction f with
  | zero => intro s; simp [parseF]
  | succ f ih =>
    intro s
    rw [parseF]
    by_cases h0 : s.size = 0
    · rw [if_pos h0]; simp
    · rw [if_neg h0]
      by_cases h1 : (firstR s).2 = 0
      · rw [if_pos h1]
        have h3 := ih (restR s)
        have h4 := (first_good s h1).1
        unfold restR at h3
        rw [ByteArray.size_extract] at h3
        by_cases h2 : (parseF f (restR s)).2 = 0
        · rw [if_pos h2]
          unfold restR
          simp only [List.length_cons]
          omega
        · rw [if_neg h2]; simp
      · rw [if_neg h1]; simp
theorem ar_cells {w : World} {b T : Nat} {u v : Value} (h : w.heap[b]? = some (.cells #[u, v] T (0, 0))) : w.cell? ⟨b, 0, none⟩ = some u ∧ w.cell? ⟨b, 1, none⟩ = some v := by
  constructor <;> (unfold World.cell?; rw [h]; rfl)
set_option maxHeartbeats 16000000 in
set_option maxRecDepth 100000 in
theorem recParses_walk (a : Option Addr) (rs : List Rc) (cap : Nat) (hcap : rs.length ≤ cap ∧ cap ≤ maxLen) (raw : ByteArray) (hraw : raw.size ≤ 140737488351232) (a0 a1 : Nat) (ha0 : a0 < 65536) (ha1 : a1 < 65536) (w : World) (h : RsAt w a rs) :
    Calls Try.prog 4 #[.slice a rs.length cap, .string raw, .agg #[.int .u16 (a0 : Int), .int .u16 (a1 : Int)]] w fun e w' => e = .returned (.bool true) ∧ Below w.heap.size w w' := by
  have HF := Lib.hid h; clear h
  have HA0 := Lib.hid (And.intro ha0 ha1); clear ha0 ha1
  have HC := Lib.hid hcap; clear hcap
  have hz := make_zero
  go_enter Try.func4, Try.ntmps4
  go_wp2_with fail
  have HX := Lib.hid (heap_alloc_new w (.cells #[.int .u16 (a0 : Int), .int .u16 (a1 : Int)] 43))
  have ha := below_alloc (Below.refl w.heap.size w) (.cells #[.int .u16 (a0 : Int), .int .u16 (a1 : Int)] 43)
  have HB := Lib.hid ha
  replace HF := Lib.hid (HF.out.below ha); clear ha
  have HG0 := Lib.hid (show w.heap.size < (w.alloc (.cells #[.int .u16 (a0 : Int), .int .u16 (a1 : Int)] 43)).heap.size by simp)
  generalize w.alloc (.cells #[.int .u16 (a0 : Int), .int .u16 (a1 : Int)] 43) = w0 at HX HB HF HG0 ⊢
  obtain ⟨ba, hba⟩ : ∃ ba, w.heap.size = ba := ⟨_, rfl⟩
  rw [hba] at HX ⊢
  clear hba HG0
  refine (poly_Make.calls _).mono ?_
  rintro e w1 ⟨rfl, hb1⟩
  have Hb1 := Lib.hid hb1; clear hb1
  obtain ⟨N, hN, hN1, hN2⟩ : ∃ N : Nat, (if 200 < (raw.size : Int) then 200 else (raw.size : Int)) = (N : Int) ∧ N ≤ raw.size ∧ N ≤ 200 := ⟨min 200 raw.size, by split <;> omega, by omega, by omega⟩
  have hNm : min (raw.size : Int) 200 = (N : Int) := by rw [← hN]; split <;> omega
  have pa1 : (0 ≤ (N : Int)) = True := eq_true (by omega)
  have pa2 : ((N : Int) ≤ (raw.size : Int)) = True := eq_true (by omega)
  have pa3 : (N ≤ raw.size) = True := eq_true (by omega)
  have pa4 : decide (N ≤ raw.size) = true := decide_eq_true (by omega)
  go_wp2_with (refine wpList_store_row rfl 25 _ _ rfl w1.heap.size (tabCells 256) rfl rfl 25 (tabCells 0) (heap_alloc_new w1 _) make_info (by rw [tabCells_size, tabCells_size]) (tabCells_one _) ?_)
  clear hz
  obtain ⟨hT, hB2, hS⟩ := made_facts Hb1.out _ rfl
  generalize (w1.alloc (.cells (tabCells 0) 25)).setRow w1.heap.size (tabCells 256) = wx at hT hB2 ⊢
  generalize w1.heap.size = g at hT ⊢
  have HT := Lib.hid hT; clear hT
  replace HX := Lib.hid (blk_below HX.out hB2)
  replace HF := Lib.hid (HF.out.below hB2)
  replace HB := Lib.hid (chain2 HB.out hB2); clear hB2 hS Hb1
  have hrz : (raw.extract 0 N).size ≤ 200 := by rw [ByteArray.size_extract]; omega
  generalize raw.extract 0 N = raw' at hrz ⊢
  clear hN hNm pa1 pa2 pa3 pa4 hN1 hN2 hraw
  have HRz := Lib.hid hrz; clear hrz
  refine (records_ok a rs cap HC.out wx HF.out).mono ?_
  rintro e w2 ⟨va, vb, rfl, h1, h2, hd⟩
  have HD := Lib.hid (h2.s); clear h1 h2
  replace HX := Lib.hid (blk_below HX.out hd)
  replace HT := Lib.hid (HT.out.below hd)
  replace HB := Lib.hid (chain2 HB.out hd)
  clear hd
  have HL := Lib.hid (recsR_len rs)
  have HI := Lib.hid (recsR_in HF.out)
  clear HF HC
  generalize recsR rs = ms at HD HL HI
  have HSz := Lib.hid (frameV_size6 ms HL.out HI.out)
  go_wp2_with fail
  refine (ref_frame ms (Nat.le_trans HL.out (by decide)) HI.out vb w2 HD.out).mono ?_
  rintro e wx ⟨rfl, hd⟩
  replace HX := Lib.hid (blk_below HX.out hd)
  replace HT := Lib.hid (HT.out.below hd)
  replace HB := Lib.hid (chain2 HB.out hd)
  clear hd
  clear HD HL HI
  generalize (frameV ms).2 = ef
  generalize (frameV ms).1 = s at HSz ⊢
  have hl1 : ¬ 9223372036854775807 < s.size + 1 := by have := HSz.out; omega
  have hcv := fun W => Lib.run_convert_string_bytes (P := Try.prog) W 9 44 5 (s ++ str [120]) Try.underlying9 Try.underlying44 Try.underlying5
  rw [show str [120] = { data := #[120] } from rfl] at hcv
  go_wp2_with fail
  clear hcv hl1
  generalize hS0 : s ++ ({ data := #[120] } : ByteArray) = S0
  have hS1 : S0.size = s.size + 1 := by rw [← hS0, ByteArray.size_append]; rfl
  clear hS0
  have hA : ByAt (Lib.bytesWorld wx 5 S0) wx.heap.size S0.data.toList := ByAt.made wx S0
  have hd : Below wx.heap.size wx (Lib.bytesWorld wx 5 S0) := bytes_below (Below.refl _ _) (Nat.le_refl _) S0
  have hcp : s.size + 1 ≤ grownCap wx (s.size + 1) 0 5 := grownCap_ge wx (s.size + 1) 0 5
  have HGt := Lib.hid HB.out.size
  have HNe := Lib.hid (And.intro (Nat.ne_of_lt (blk_lt HX.out)) (Nat.ne_of_lt (World.block_lt_of_cell? _ _ (HT.out 0 (by decide)))))
  replace HX := Lib.hid (blk_below HX.out hd)
  replace HT := Lib.hid (HT.out.below hd)
  replace HB := Lib.hid (chain2 HB.out hd)
  clear hd
  generalize grownCap wx (s.size + 1) 0 5 = cp at hcp ⊢
  generalize Lib.bytesWorld wx 5 S0 = w2 at hA HX HT HB ⊢
  generalize wx.heap.size = gt at hA HGt HNe ⊢
  have hll : S0.data.toList.length = s.size + 1 := by rw [Array.length_toList]; exact hS1
  clear hS1
  generalize S0.data.toList = l at hA hll
  have HA := Lib.hid hA; clear hA
  have HLl := Lib.hid hll; clear hll
  obtain ⟨q, hq⟩ : ∃ q, a0 % (s.size + 1) = q := ⟨_, rfl⟩
  have hql : q < s.size + 1 := by rw [← hq]; exact Nat.mod_lt _ (Nat.succ_pos _)
  obtain ⟨m, hm⟩ : ∃ m, a1 % 256 = m := ⟨_, rfl⟩
  have hm2 : m < 256 := by omega
  have hsz := HSz.out
  have hcp2 := hcp
  have HCp := Lib.hid hcp; clear hcp
  have hw1 : wrap64 (a0 : Int) = (a0 : Int) := by have := HA0.out.1; clear hq hm; unfold wrap64; omega
  have hw2 : wrap64 (q : Int) = (q : Int) := by clear hq hm; unfold wrap64; omega
  have hw3 : wrap64 ((s.size : Int) + 1) = (s.size : Int) + 1 := by clear hq hm hw1 hw2; unfold wrap64; omega
  have hw4 : wrap64 (s.size : Int) = (s.size : Int) := by clear hq hm hw1 hw2 hw3; unfold wrap64; omega
  have hw5 : wrap64 ((s.size : Int) + 1 - 1) = (s.size : Int) := by clear hq hm hw1 hw2 hw3 hw4; unfold wrap64; omega
  have hr3 : IntKind.u8.wrap (a1 : Int) = (m : Int) := by clear hq hw1 hw2 hw3 hw4 hw5; simp [IntKind.wrap, IntKind.bits, IntKind.signed]; omega
  have HW := Lib.hid (And.intro hw1 (And.intro hw2 (And.intro hw3 (And.intro hw4 (And.intro hw5 hr3))))); clear hw1 hw2 hw3 hw4 hw5 hr3
  have nz1 : ((s.size : Int) + 1 == 0) = false := by simp; omega
  have nz2 : ¬ ((s.size : Int) + 1 = 0) := by omega
  have hq1 : ((0 : Int) ≤ (q : Int)) = True := eq_true (by omega)
  have hq2 : ((q : Int) < (s.size : Int) + 1) = True := eq_true (by omega)
  have hq3 : (q < s.size + 1) = True := eq_true hql
  have hq4 : ((q : Int) ≤ (s.size : Int)) = True := eq_true (by omega)
  have hq5 : (q ≤ s.size) = True := eq_true (by omega)
  have hq6 : decide (q ≤ s.size) = true := decide_eq_true (by omega)
  have hq7 : decide (q < s.size + 1) = true := decide_eq_true hql
  have hs1 : ((s.size : Int) ≤ (cp : Int)) = True := eq_true (by omega)
  have hs2 : (s.size ≤ cp) = True := eq_true (by omega)
  have hs3 : decide (s.size ≤ cp) = true := decide_eq_true (by omega)
  have hr1 : Int.tmod (a0 : Int) ((s.size : Int) + 1) = (q : Int) := by rw [Int.tmod_eq_emod_of_nonneg (by omega), ← hq]; simp
  have hr2 : (a0 : Int) % ((s.size : Int) + 1) = (q : Int) := by rw [← hq]; simp
  obtain ⟨hw1, hw2, hw3, hw4, hw5, hr3⟩ := HW.out
  have HQ := Lib.hid (And.intro hq hql); clear hq hql hm HW
  obtain ⟨x, hx⟩ : ∃ x, l.getD q 0 = x := ⟨_, rfl⟩
  have e8 := xor8_v x m hm2
  obtain ⟨y, hy⟩ : ∃ y, x ^^^ UInt8.ofNat m = y := ⟨_, rfl⟩
  rw [hy] at e8
  have HXY := Lib.hid (And.intro hx hy); clear hx hy hm2 hsz hcp2
  replace HX := Lib.hid (show w2.drew.heap[ba]? = some (.cells #[.int .u16 (a0 : Int), .int .u16 (a1 : Int)] 43 (0, 0)) from HX.out)
  replace HA := Lib.hid (show ByAt w2.drew gt l from HA.out)
  replace HT := Lib.hid (show TabAt w2.drew g from HT.out)
  replace HB := Lib.hid (below_drew1 HB.out)
  have hS : w2.drew.heap[ba]? = some (.cells #[.int .u16 (a0 : Int), .int .u16 (a1 : Int)] 43 (0, 0)) ∧ w2.drew.cell? ⟨gt, q, none⟩ = some (.int .u8 ((x.toNat : Nat) : Int)) := ⟨HX.out, by have := (HA.out q (by rw [HLl.out]; exact HQ.out.2)).1; rwa [HXY.out.1] at this⟩
  refine start_ (n := 15) (S := fun w' => w'.heap[ba]? = some (.cells #[.int .u16 (a0 : Int), .int .u16 (a1 : Int)] 43 (0, 0)) ∧ w'.cell? ⟨gt, q, none⟩ = some (.int .u8 ((x.toNat : Nat) : Int))) (ds := [14]) #[false, false, false, false, false, false, false, false, false, false, false, false, false, false, false] (by kernel_rfl) rfl rfl hS (fun hHeld => ?_)
  refine with_tabW rg4_6.tab rg4_6.bits (fun HT_ HW_ => ?_)
  generalize w2.drew = w' at HX HA HT HB hHeld ⊢
  refine pure_ (i := 0) (N := some 41) (v := ?_) (a' := ?_) #[true, false, false, false, false, false, false, false, false, false, false, false, false, false, false] rfl rfl (any_of HT_.out (by kernel_rfl)) (fun _ _ _ h => h) (Or.inl ⟨by rfl, ?_⟩) ?_ ?_
  rotate_left
  · intro w'
    go_simp
    try with_reducible rfl
  rotate_left
  · simp (maxSteps := 4000000) only [Act.put, List.setIfInBounds_toArray, List.set_cons_zero, List.set_cons_succ, i64_w, i32_w]
    try rfl
  refine pure_ (i := 1) (N := some 42) (v := ?_) (a' := ?_) #[true, true, false, false, false, false, false, false, false, false, false, false, false, false, false] rfl rfl (any_of HT_.out (by kernel_rfl)) (fun _ _ _ h => h) (Or.inl ⟨by rfl, ?_⟩) ?_ ?_
  rotate_left
  · intro w'
    go_simp
    try with_reducible rfl
  rotate_left
  · simp (maxSteps := 4000000) only [Act.put, List.setIfInBounds_toArray, List.set_cons_zero, List.set_cons_succ, i64_w, i32_w]
    try rfl
  refine pure_ (i := 4) (N := some 45) (v := ?_) (a' := ?_) #[true, true, false, false, true, false, false, false, false, false, false, false, false, false, false] rfl rfl (any_of HT_.out (by kernel_rfl)) (fun _ _ _ h => h) (Or.inl ⟨by rfl, ?_⟩) ?_ ?_
  rotate_left
  · intro w'
    go_simp
    try with_reducible rfl
  rotate_left
  · simp (maxSteps := 4000000) only [Act.put, List.setIfInBounds_toArray, List.set_cons_zero, List.set_cons_succ, i64_w, i32_w]
    try rfl
  refine pure_ (i := 5) (N := some 46) (v := ?_) (a' := ?_) #[true, true, false, false, true, true, false, false, false, false, false, false, false, false, false] rfl rfl (any_of HT_.out (by kernel_rfl)) (fun _ _ _ h => h) (Or.inl ⟨by rfl, ?_⟩) ?_ ?_
  rotate_left
  · intro w'
    go_simp
    try with_reducible rfl
  rotate_left
  · simp (maxSteps := 4000000) only [Act.put, List.setIfInBounds_toArray, List.set_cons_zero, List.set_cons_succ, i64_w, i32_w]
    try rfl
  refine pure_ (i := 9) (N := some 50) (v := ?_) (a' := ?_) #[true, true, false, false, true, true, false, false, false, true, false, false, false, false, false] rfl rfl (any_of HT_.out (by kernel_rfl)) (fun _ _ _ h => h) (Or.inl ⟨by rfl, ?_⟩) ?_ ?_
  rotate_left
  · intro w'
    go_simp
    try with_reducible rfl
  rotate_left
  · simp (maxSteps := 4000000) only [Act.put, List.setIfInBounds_toArray, List.set_cons_zero, List.set_cons_succ, i64_w, i32_w]
    try rfl
  refine take_ (i := 2) (N := some 43) (v := ?_) (a' := ?_) #[true, true, true, false, true, true, false, false, false, true, false, false, false, false, false] rfl rfl (take_ofW HT_.out HW_.out (by kernel_rfl)) (fun _ _ _ h => h) (Or.inl ⟨by rfl, ?_⟩) hHeld ?_ ?_
  rotate_left
  · intro w' hw_
    try dsimp only at hw_
    obtain ⟨g0, g1⟩ := ar_cells hw_.1
    go_simp
    try with_reducible rfl
  rotate_left
  · simp (maxSteps := 4000000) only [Act.put, List.setIfInBounds_toArray, List.set_cons_zero, List.set_cons_succ, i64_w, i32_w]
    try rfl
  refine pure_ (i := 3) (N := some 44) (v := ?_) (a' := ?_) #[true, true, true, true, true, true, false, false, false, true, false, false, false, false, false] rfl rfl (any_of HT_.out (by kernel_rfl)) (fun _ _ _ h => h) (Or.inl ⟨by rfl, ?_⟩) ?_ ?_
  rotate_left
  · intro w'
    go_simp
    try with_reducible rfl
  rotate_left
  · simp (maxSteps := 4000000) only [Act.put, List.setIfInBounds_toArray, List.set_cons_zero, List.set_cons_succ, i64_w, i32_w]
    try rfl
  refine pure_ (i := 6) (N := some 47) (v := ?_) (a' := ?_) #[true, true, true, true, true, true, true, false, false, true, false, false, false, false, false] rfl rfl (any_of HT_.out (by kernel_rfl)) (fun _ _ _ h => h) (Or.inl ⟨by rfl, ?_⟩) ?_ ?_
  rotate_left
  · intro w'
    go_simp
    try with_reducible rfl
  rotate_left
  · simp (maxSteps := 4000000) only [Act.put, List.setIfInBounds_toArray, List.set_cons_zero, List.set_cons_succ, i64_w, i32_w]
    try rfl
  refine pure_ (i := 7) (N := some 48) (v := ?_) (a' := ?_) #[true, true, true, true, true, true, true, true, false, true, false, false, false, false, false] rfl rfl (any_of HT_.out (by kernel_rfl)) (fun _ _ _ h => h) (Or.inl ⟨by rfl, ?_⟩) ?_ ?_
  rotate_left
  · intro w'
    go_simp
    try with_reducible rfl
  rotate_left
  · simp (maxSteps := 4000000) only [Act.put, List.setIfInBounds_toArray, List.set_cons_zero, List.set_cons_succ, i64_w, i32_w]
    try rfl
  refine take_ (i := 8) (N := some 49) (v := ?_) (a' := ?_) #[true, true, true, true, true, true, true, true, true, true, false, false, false, false, false] rfl rfl (take_ofW HT_.out HW_.out (by kernel_rfl)) (fun _ _ _ h => h) (Or.inl ⟨by rfl, ?_⟩) hHeld ?_ ?_
  rotate_left
  · intro w' hw_
    try dsimp only at hw_
    have g2 := hw_.2
    go_simp
    try with_reducible rfl
  rotate_left
  · simp (maxSteps := 4000000) only [Act.put, List.setIfInBounds_toArray, List.set_cons_zero, List.set_cons_succ, i64_w, i32_w]
    try rfl
  refine take_ (i := 10) (N := some 51) (v := ?_) (a' := ?_) #[true, true, true, true, true, true, true, true, true, true, true, false, false, false, false] rfl rfl (take_ofW HT_.out HW_.out (by kernel_rfl)) (fun _ _ _ h => h) (Or.inl ⟨by rfl, ?_⟩) hHeld ?_ ?_
  rotate_left
  · intro w' hw_
    try dsimp only at hw_
    obtain ⟨g0, g1⟩ := ar_cells hw_.1
    go_simp
    try with_reducible rfl
  rotate_left
  · simp (maxSteps := 4000000) only [Act.put, List.setIfInBounds_toArray, List.set_cons_zero, List.set_cons_succ, i64_w, i32_w]
    try rfl
  refine pure_ (i := 11) (N := some 52) (v := ?_) (a' := ?_) #[true, true, true, true, true, true, true, true, true, true, true, true, false, false, false] rfl rfl (any_of HT_.out (by kernel_rfl)) (fun _ _ _ h => h) (Or.inl ⟨by rfl, ?_⟩) ?_ ?_
  rotate_left
  · intro w'
    go_simp
    try with_reducible rfl
  rotate_left
  · simp (maxSteps := 4000000) only [Act.put, List.setIfInBounds_toArray, List.set_cons_zero, List.set_cons_succ, i64_w, i32_w]
    try rfl
  refine pure_ (i := 12) (N := some 53) (v := ?_) (a' := ?_) #[true, true, true, true, true, true, true, true, true, true, true, true, true, false, false] rfl rfl (any_of HT_.out (by kernel_rfl)) (fun _ _ _ h => h) (Or.inl ⟨by rfl, ?_⟩) ?_ ?_
  rotate_left
  · intro w'
    go_simp
    try with_reducible rfl
  rotate_left
  · simp (maxSteps := 4000000) only [Act.put, List.setIfInBounds_toArray, List.set_cons_zero, List.set_cons_succ, i64_w, i32_w]
    try rfl
  refine pure_ (i := 13) (N := some 54) (v := ?_) (a' := ?_) #[true, true, true, true, true, true, true, true, true, true, true, true, true, true, false] rfl rfl (any_of HT_.out (by kernel_rfl)) (fun _ _ _ h => h) (Or.inl ⟨by rfl, ?_⟩) ?_ ?_
  rotate_left
  · intro w'
    go_simp
    try with_reducible rfl
  rotate_left
  · simp (maxSteps := 4000000) only [Act.put, List.setIfInBounds_toArray, List.set_cons_zero, List.set_cons_succ, i64_w, i32_w]
    try rfl
  refine last_ (i := 14) (N := none) #[true, true, true, true, true, true, true, true, true, true, true, true, true, true, true] rfl rfl (one_of HT_.out (by kernel_rfl)) (by decide) (fun K hK => ?_)
  refine skip_ (w1 := w'.setCell ⟨gt, q, none⟩ (.int .u8 ((y.toNat : Nat) : Int))) (by rfl) rfl ?_ ?_
  · (have g2 := hHeld.2; have f2 := (HA.out q (by rw [HLl.out]; exact HQ.out.2)).2; go_simp)
  refine hK.out _ _ ?_
  clear hK K
  refine done_ (done_of HT_.out (by kernel_rfl)) ?_
  replace HX := Lib.hid (show (w'.setCell ⟨gt, q, none⟩ (.int .u8 ((y.toNat : Nat) : Int))).heap[ba]? = some (.cells #[.int .u16 (a0 : Int), .int .u16 (a1 : Int)] 43 (0, 0)) from rc_other HX.out HNe.out.1 _)
  replace HT := Lib.hid (HT.out.set (b := gt) (i := q) HNe.out.2 (.int .u8 ((y.toNat : Nat) : Int)))
  replace HA := Lib.hid (HA.out.set (q := q) (by rw [HLl.out]; exact HQ.out.2) y)
  replace HB := Lib.hid (HB.out.setCell (p := ⟨gt, q, none⟩) HGt.out (.int .u8 ((y.toNat : Nat) : Int)))
  generalize w'.setCell ⟨gt, q, none⟩ (.int .u8 ((y.toNat : Nat) : Int)) = w3 at HX HT HA HB ⊢
  replace HLl := Lib.hid (show (l.set q y).length = s.size + 1 by rw [List.length_set]; exact HLl.out)
  generalize l.set q y = l2 at HA HLl
  clear e8 hHeld hS HXY
  obtain ⟨tS, htS⟩ : ∃ tS : ByteArray, (⟨l2.toArray⟩ : ByteArray) = tS := ⟨_, rfl⟩
  obtain ⟨tS1, htS1⟩ : ∃ tS : ByteArray, (⟨(l2.take s.size).toArray⟩ : ByteArray) = tS := ⟨_, rfl⟩
  obtain ⟨sq, hsq⟩ : ∃ sq, s.extract 0 q = sq := ⟨_, rfl⟩
  have HZ := Lib.hid (show tS.size ≤ 100000 ∧ tS1.size ≤ 100000 ∧ sq.size ≤ 100000 ∧ (s ++ raw').size ≤ 100000 ∧ raw'.size ≤ 100000 ∧ s.size ≤ 100000 by
    have h1 := HSz.out
    have h2 := HRz.out
    have h3 := HLl.out
    refine ⟨?_, ?_, ?_, ?_, by omega, by omega⟩
    · rw [← htS]; show l2.toArray.size ≤ _; rw [List.size_toArray]; omega
    · rw [← htS1]; show (l2.take s.size).toArray.size ≤ _; rw [List.size_toArray, List.length_take]; omega
    · rw [← hsq, ByteArray.size_extract]; omega
    · rw [ByteArray.size_append]; omega)
  have HTS := Lib.hid (And.intro htS htS1); clear htS htS1
  have HSq := Lib.hid hsq
  have hl2 : ¬ 9223372036854775807 < s.size + raw'.size := by have := HSz.out; have := HRz.out; omega
  go_wp2_with fail
  replace HX := Lib.hid (show w3.drew.heap[ba]? = some (.cells #[.int .u16 (a0 : Int), .int .u16 (a1 : Int)] 43 (0, 0)) from HX.out)
  replace HA := Lib.hid (show ByAt w3.drew gt l2 from HA.out)
  replace HT := Lib.hid (show TabAt w3.drew g from HT.out)
  replace HB := Lib.hid (below_drew1 HB.out)
  have hS : w3.drew.heap[ba]? = some (.cells #[.int .u16 (a0 : Int), .int .u16 (a1 : Int)] 43 (0, 0)) ∧ ByAt w3.drew gt l2 := ⟨HX.out, HA.out⟩
  refine start_ (n := 25) (S := fun w' => w'.heap[ba]? = some (.cells #[.int .u16 (a0 : Int), .int .u16 (a1 : Int)] 43 (0, 0)) ∧ ByAt w' gt l2) (ds := []) #[false, false, false, false, false, false, false, false, false, false, false, false, false, false, false, false, false, false, false, false, false, false, false, false, false] (by kernel_rfl) rfl rfl hS (fun hHeld => ?_)
  refine with_tabW rg4_7.tab rg4_7.bits (fun HT_ HW_ => ?_)
  generalize w3.drew = w' at HT HB hHeld ⊢
  refine pure_ (i := 0) (N := some 55) (v := ?_) (a' := ?_) #[true, false, false, false, false, false, false, false, false, false, false, false, false, false, false, false, false, false, false, false, false, false, false, false, false] rfl rfl (any_of HT_.out (by kernel_rfl)) (fun _ _ _ h => h) (Or.inl ⟨by rfl, ?_⟩) ?_ ?_
  rotate_left
  · intro w'
    go_simp
    try with_reducible rfl
  rotate_left
  · simp (maxSteps := 4000000) only [Act.put, List.setIfInBounds_toArray, List.set_cons_zero, List.set_cons_succ, i64_w, i32_w]
    try rfl
  refine pure_ (i := 1) (N := some 56) (v := ?_) (a' := ?_) #[true, true, false, false, false, false, false, false, false, false, false, false, false, false, false, false, false, false, false, false, false, false, false, false, false] rfl rfl (any_of HT_.out (by kernel_rfl)) (fun _ _ _ h => h) (Or.inl ⟨by rfl, ?_⟩) ?_ ?_
  rotate_left
  · intro w'
    go_simp
    try with_reducible rfl
  rotate_left
  · simp (maxSteps := 4000000) only [Act.put, List.setIfInBounds_toArray, List.set_cons_zero, List.set_cons_succ, i64_w, i32_w]
    try rfl
  refine pure_ (i := 2) (N := some 57) (v := ?_) (a' := ?_) #[true, true, true, false, false, false, false, false, false, false, false, false, false, false, false, false, false, false, false, false, false, false, false, false, false] rfl rfl (any_of HT_.out (by kernel_rfl)) (fun _ _ _ h => h) (Or.inl ⟨by rfl, ?_⟩) ?_ ?_
  rotate_left
  · intro w'
    go_simp
    try with_reducible rfl
  rotate_left
  · simp (maxSteps := 4000000) only [Act.put, List.setIfInBounds_toArray, List.set_cons_zero, List.set_cons_succ, i64_w, i32_w]
    try rfl
  refine pure_ (i := 3) (N := some 58) (v := ?_) (a' := ?_) #[true, true, true, true, false, false, false, false, false, false, false, false, false, false, false, false, false, false, false, false, false, false, false, false, false] rfl rfl (any_of HT_.out (by kernel_rfl)) (fun _ _ _ h => h) (Or.inl ⟨by rfl, ?_⟩) ?_ ?_
  rotate_left
  · intro w'
    go_simp
    try with_reducible rfl
  rotate_left
  · simp (maxSteps := 4000000) only [Act.put, List.setIfInBounds_toArray, List.set_cons_zero, List.set_cons_succ, i64_w, i32_w]
    try rfl
  refine pure_ (i := 4) (N := some 59) (v := ?_) (a' := ?_) #[true, true, true, true, true, false, false, false, false, false, false, false, false, false, false, false, false, false, false, false, false, false, false, false, false] rfl rfl (any_of HT_.out (by kernel_rfl)) (fun _ _ _ h => h) (Or.inl ⟨by rfl, ?_⟩) ?_ ?_
  rotate_left
  · intro w'
    go_simp
    try with_reducible rfl
  rotate_left
  · simp (maxSteps := 4000000) only [Act.put, List.setIfInBounds_toArray, List.set_cons_zero, List.set_cons_succ, i64_w, i32_w]
    try rfl
  refine pure_ (i := 5) (N := some 60) (v := ?_) (a' := ?_) #[true, true, true, true, true, true, false, false, false, false, false, false, false, false, false, false, false, false, false, false, false, false, false, false, false] rfl rfl (any_of HT_.out (by kernel_rfl)) (fun _ _ _ h => h) (Or.inl ⟨by rfl, ?_⟩) ?_ ?_
  rotate_left
  · intro w'
    go_simp
    try with_reducible rfl
  rotate_left
  · simp (maxSteps := 4000000) only [Act.put, List.setIfInBounds_toArray, List.set_cons_zero, List.set_cons_succ, i64_w, i32_w]
    try rfl
  refine pure_ (i := 7) (N := some 62) (v := ?_) (a' := ?_) #[true, true, true, true, true, true, false, true, false, false, false, false, false, false, false, false, false, false, false, false, false, false, false, false, false] rfl rfl (any_of HT_.out (by kernel_rfl)) (fun _ _ _ h => h) (Or.inl ⟨by rfl, ?_⟩) ?_ ?_
  rotate_left
  · intro w'
    go_simp
    try with_reducible rfl
  rotate_left
  · simp (maxSteps := 4000000) only [Act.put, List.setIfInBounds_toArray, List.set_cons_zero, List.set_cons_succ, i64_w, i32_w]
    try rfl
  refine pure_ (i := 8) (N := some 63) (v := ?_) (a' := ?_) #[true, true, true, true, true, true, false, true, true, false, false, false, false, false, false, false, false, false, false, false, false, false, false, false, false] rfl rfl (any_of HT_.out (by kernel_rfl)) (fun _ _ _ h => h) (Or.inl ⟨by rfl, ?_⟩) ?_ ?_
  rotate_left
  · intro w'
    go_simp
    try with_reducible rfl
  rotate_left
  · simp (maxSteps := 4000000) only [Act.put, List.setIfInBounds_toArray, List.set_cons_zero, List.set_cons_succ, i64_w, i32_w]
    try rfl
  refine pure_ (i := 9) (N := some 64) (v := ?_) (a' := ?_) #[true, true, true, true, true, true, false, true, true, true, false, false, false, false, false, false, false, false, false, false, false, false, false, false, false] rfl rfl (any_of HT_.out (by kernel_rfl)) (fun _ _ _ h => h) (Or.inl ⟨by rfl, ?_⟩) ?_ ?_
  rotate_left
  · intro w'
    go_simp
    try with_reducible rfl
  rotate_left
  · simp (maxSteps := 4000000) only [Act.put, List.setIfInBounds_toArray, List.set_cons_zero, List.set_cons_succ, i64_w, i32_w]
    try rfl
  refine pure_ (i := 10) (N := some 65) (v := ?_) (a' := ?_) #[true, true, true, true, true, true, false, true, true, true, true, false, false, false, false, false, false, false, false, false, false, false, false, false, false] rfl rfl (any_of HT_.out (by kernel_rfl)) (fun _ _ _ h => h) (Or.inl ⟨by rfl, ?_⟩) ?_ ?_
  rotate_left
  · intro w'
    go_simp
    try with_reducible rfl
  rotate_left
  · simp (maxSteps := 4000000) only [Act.put, List.setIfInBounds_toArray, List.set_cons_zero, List.set_cons_succ, i64_w, i32_w]
    try rfl
  refine pure_ (i := 11) (N := some 66) (v := ?_) (a' := ?_) #[true, true, true, true, true, true, false, true, true, true, true, true, false, false, false, false, false, false, false, false, false, false, false, false, false] rfl rfl (any_of HT_.out (by kernel_rfl)) (fun _ _ _ h => h) (Or.inl ⟨by rfl, ?_⟩) ?_ ?_
  rotate_left
  · intro w'
    go_simp
    try with_reducible rfl
  rotate_left
  · simp (maxSteps := 4000000) only [Act.put, List.setIfInBounds_toArray, List.set_cons_zero, List.set_cons_succ, i64_w, i32_w]
    try rfl
  refine pure_ (i := 13) (N := some 68) (v := ?_) (a' := ?_) #[true, true, true, true, true, true, false, true, true, true, true, true, false, true, false, false, false, false, false, false, false, false, false, false, false] rfl rfl (any_of HT_.out (by kernel_rfl)) (fun _ _ _ h => h) (Or.inl ⟨by rfl, ?_⟩) ?_ ?_
  rotate_left
  · intro w'
    go_simp
    try with_reducible rfl
  rotate_left
  · simp (maxSteps := 4000000) only [Act.put, List.setIfInBounds_toArray, List.set_cons_zero, List.set_cons_succ, i64_w, i32_w]
    try rfl
  refine pure_ (i := 14) (N := some 69) (v := ?_) (a' := ?_) #[true, true, true, true, true, true, false, true, true, true, true, true, false, true, true, false, false, false, false, false, false, false, false, false, false] rfl rfl (any_of HT_.out (by kernel_rfl)) (fun _ _ _ h => h) (Or.inl ⟨by rfl, ?_⟩) ?_ ?_
  rotate_left
  · intro w'
    go_simp
    try with_reducible rfl
  rotate_left
  · simp (maxSteps := 4000000) only [Act.put, List.setIfInBounds_toArray, List.set_cons_zero, List.set_cons_succ, i64_w, i32_w]
    try rfl
  refine pure_ (i := 17) (N := some 72) (v := ?_) (a' := ?_) #[true, true, true, true, true, true, false, true, true, true, true, true, false, true, true, false, false, true, false, false, false, false, false, false, false] rfl rfl (any_of HT_.out (by kernel_rfl)) (fun _ _ _ h => h) (Or.inl ⟨by rfl, ?_⟩) ?_ ?_
  rotate_left
  · intro w'
    go_simp
    try with_reducible rfl
  rotate_left
  · simp (maxSteps := 4000000) only [Act.put, List.setIfInBounds_toArray, List.set_cons_zero, List.set_cons_succ, i64_w, i32_w]
    try rfl
  refine pure_ (i := 18) (N := some 73) (v := ?_) (a' := ?_) #[true, true, true, true, true, true, false, true, true, true, true, true, false, true, true, false, false, true, true, false, false, false, false, false, false] rfl rfl (any_of HT_.out (by kernel_rfl)) (fun _ _ _ h => h) (Or.inl ⟨by rfl, ?_⟩) ?_ ?_
  rotate_left
  · intro w'
    go_simp
    try with_reducible rfl
  rotate_left
  · simp (maxSteps := 4000000) only [Act.put, List.setIfInBounds_toArray, List.set_cons_zero, List.set_cons_succ, i64_w, i32_w]
    try rfl
  refine pure_ (i := 19) (N := some 74) (v := ?_) (a' := ?_) #[true, true, true, true, true, true, false, true, true, true, true, true, false, true, true, false, false, true, true, true, false, false, false, false, false] rfl rfl (any_of HT_.out (by kernel_rfl)) (fun _ _ _ h => h) (Or.inl ⟨by rfl, ?_⟩) ?_ ?_
  rotate_left
  · intro w'
    go_simp
    try with_reducible rfl
  rotate_left
  · simp (maxSteps := 4000000) only [Act.put, List.setIfInBounds_toArray, List.set_cons_zero, List.set_cons_succ, i64_w, i32_w]
    try rfl
  refine pure_ (i := 24) (N := some 79) (v := ?_) (a' := ?_) #[true, true, true, true, true, true, false, true, true, true, true, true, false, true, true, false, false, true, true, true, false, false, false, false, true] rfl rfl (any_of HT_.out (by kernel_rfl)) (fun _ _ _ h => h) (Or.inl ⟨by rfl, ?_⟩) ?_ ?_
  rotate_left
  · intro w'
    go_simp
    try with_reducible rfl
  rotate_left
  · simp (maxSteps := 4000000) only [Act.put, List.setIfInBounds_toArray, List.set_cons_zero, List.set_cons_succ, i64_w, i32_w]
    try rfl
  refine take_ (i := 6) (N := some 61) (v := ?_) (a' := ?_) #[true, true, true, true, true, true, true, true, true, true, true, true, false, true, true, false, false, true, true, true, false, false, false, false, true] rfl rfl (take_ofW HT_.out HW_.out (by kernel_rfl)) (fun _ _ _ h => h) (Or.inl ⟨by rfl, ?_⟩) hHeld ?_ ?_
  rotate_left
  · intro w' hw_
    try dsimp only at hw_
    have hcv := (hw_.2).conv (cap := cp); rw [HLl.out, HTS.out.1] at hcv
    go_simp
    try with_reducible rfl
  rotate_left
  · simp (maxSteps := 4000000) only [Act.put, List.setIfInBounds_toArray, List.set_cons_zero, List.set_cons_succ, i64_w, i32_w]
    try rfl
  refine take_ (i := 12) (N := some 67) (v := ?_) (a' := ?_) #[true, true, true, true, true, true, true, true, true, true, true, true, true, true, true, false, false, true, true, true, false, false, false, false, true] rfl rfl (take_ofW HT_.out HW_.out (by kernel_rfl)) (fun _ _ _ h => h) (Or.inl ⟨by rfl, ?_⟩) hHeld ?_ ?_
  rotate_left
  · intro w' hw_
    try dsimp only at hw_
    have hcv := (hw_.2).convN (cap := cp) (n := s.size) (by rw [HLl.out]; exact Nat.le_succ _); rw [HTS.out.2] at hcv
    go_simp
    try with_reducible rfl
  rotate_left
  · simp (maxSteps := 4000000) only [Act.put, List.setIfInBounds_toArray, List.set_cons_zero, List.set_cons_succ, i64_w, i32_w]
    try rfl
  refine take_ (i := 15) (N := some 70) (v := ?_) (a' := ?_) #[true, true, true, true, true, true, true, true, true, true, true, true, true, true, true, true, false, true, true, true, false, false, false, false, true] rfl rfl (take_ofW HT_.out HW_.out (by kernel_rfl)) (fun _ _ _ h => h) (Or.inl ⟨by rfl, ?_⟩) hHeld ?_ ?_
  rotate_left
  · intro w' hw_
    try dsimp only at hw_
    obtain ⟨g0, g1⟩ := ar_cells hw_.1
    go_simp
    try with_reducible rfl
  rotate_left
  · simp (maxSteps := 4000000) only [Act.put, List.setIfInBounds_toArray, List.set_cons_zero, List.set_cons_succ, i64_w, i32_w]
    try rfl
  refine pure_ (i := 16) (N := some 71) (v := ?_) (a' := ?_) #[true, true, true, true, true, true, true, true, true, true, true, true, true, true, true, true, true, true, true, true, false, false, false, false, true] rfl rfl (any_of HT_.out (by kernel_rfl)) (fun _ _ _ h => h) (Or.inl ⟨by rfl, ?_⟩) ?_ ?_
  rotate_left
  · intro w'
    go_simp
    try with_reducible rfl
  rotate_left
  · simp (maxSteps := 4000000) only [Act.put, List.setIfInBounds_toArray, List.set_cons_zero, List.set_cons_succ, i64_w, i32_w]
    try rfl
  refine pure_ (i := 20) (N := some 75) (v := ?_) (a' := ?_) #[true, true, true, true, true, true, true, true, true, true, true, true, true, true, true, true, true, true, true, true, true, false, false, false, true] rfl rfl (any_of HT_.out (by kernel_rfl)) (fun _ _ _ h => h) (Or.inl ⟨by rfl, ?_⟩) ?_ ?_
  rotate_left
  · intro w'
    go_simp
    try with_reducible rfl
  rotate_left
  · simp (maxSteps := 4000000) only [Act.put, List.setIfInBounds_toArray, List.set_cons_zero, List.set_cons_succ, i64_w, i32_w]
    try rfl
  refine pure_ (i := 21) (N := some 76) (v := ?_) (a' := ?_) #[true, true, true, true, true, true, true, true, true, true, true, true, true, true, true, true, true, true, true, true, true, true, false, false, true] rfl rfl (any_of HT_.out (by kernel_rfl)) (fun _ _ _ h => h) (Or.inl ⟨by rfl, ?_⟩) ?_ ?_
  rotate_left
  · intro w'
    go_simp
    try with_reducible rfl
  rotate_left
  · simp (maxSteps := 4000000) only [Act.put, List.setIfInBounds_toArray, List.set_cons_zero, List.set_cons_succ, i64_w, i32_w]
    try rfl
  refine one_ (i := 22) (N := some 77) #[true, true, true, true, true, true, true, true, true, true, true, true, true, true, true, true, true, true, true, true, true, true, true, false, true] rfl rfl (one_of HT_.out (by kernel_rfl)) (by decide) (fun K hK => ?_)
  refine value_ (v := .slice (some ⟨w'.heap.size, 0, none⟩) 6 6) (w1 := w'.alloc (.cells #[.string raw', .string s, .string (s ++ raw'), .string tS, .string tS1, .string sq] 9)) (by rfl) rfl ?_ ?_
  · (go_simp)
  have HN := Lib.hid (heap_alloc_new w' (.cells #[.string raw', .string s, .string (s ++ raw'), .string tS, .string tS1, .string sq] 9))
  have hd := below_alloc (Below.refl w'.heap.size w') (.cells #[.string raw', .string s, .string (s ++ raw'), .string tS, .string tS1, .string sq] 9)
  replace HT := Lib.hid (HT.out.below hd)
  replace HB := Lib.hid (chain2 HB.out hd)
  clear hd
  refine hK.out _ _ (⟨blk_alloc hHeld.1 (.cells #[.string raw', .string s, .string (s ++ raw'), .string tS, .string tS1, .string sq] 9), hHeld.2.below (below_alloc (Below.refl w'.heap.size w') (.cells #[.string raw', .string s, .string (s ++ raw'), .string tS, .string tS1, .string sq] 9))⟩) (fun hHeld => ?_)
  clear hK K
  refine norm_ (a' := ?_) ?_ ?_
  rotate_left
  · show Act.put _ (some 77) _ = _
    simp (maxSteps := 4000000) only [Act.put, List.setIfInBounds_toArray, List.set_cons_zero, List.set_cons_succ, i64_w, i32_w]
    try rfl
  refine pure_ (i := 23) (N := some 78) (v := ?_) (a' := ?_) #[true, true, true, true, true, true, true, true, true, true, true, true, true, true, true, true, true, true, true, true, true, true, true, true, true] rfl rfl (any_of HT_.out (by kernel_rfl)) (fun _ _ _ h => h) (Or.inl ⟨by rfl, ?_⟩) ?_ ?_
  rotate_left
  · intro w'
    go_simp
    try with_reducible rfl
  rotate_left
  · simp (maxSteps := 4000000) only [Act.put, List.setIfInBounds_toArray, List.set_cons_zero, List.set_cons_succ, i64_w, i32_w]
    try rfl
  refine done_ (done_of HT_.out (by kernel_rfl)) ?_
  generalize w'.heap.size = bs at HN ⊢
  generalize w'.alloc (.cells #[.string raw', .string s, .string (s ++ raw'), .string tS, .string tS1, .string sq] 9) = w4 at HN HT HB ⊢
  clear hHeld hS
  have HSt := Lib.hid (show ∀ j, ∀ h : j < 6, ∃ t : ByteArray, t.size ≤ 100000 ∧ w4.cell? ⟨bs, j, none⟩ = some (.string t) by
    intro j h
    have hb := HN.out
    unfold World.cell?
    rw [hb]
    obtain ⟨z1, z2, z3, z4, z5, z6⟩ := HZ.out
    match j, h with
    | 0, _ => exact ⟨raw', z5, rfl⟩
    | 1, _ => exact ⟨s, z6, rfl⟩
    | 2, _ => exact ⟨s ++ raw', z4, rfl⟩
    | 3, _ => exact ⟨tS, z1, rfl⟩
    | 4, _ => exact ⟨tS1, z2, rfl⟩
    | 5, _ => exact ⟨sq, z3, rfl⟩)
  clear HN HZ HTS HSq hl2 hsq HA HX hs1 hs2 hs3 nz1 nz2 hr1 hr2 hr3 hq1 hq2 hq3 hq4 hq5 hq6 hq7 hw1 hw2 hw3 hw4 hw5
  go_wp2_with fail
  go_loopw [79] (fun i wr => ∃ j : Nat, j ≤ 6 ∧ i = .int .i64 (j : Int) ∧ Below w4.heap.size w4 wr) (fun i _ => 6 - (RowKit.intOf i).toNat)
  case atStart => exact ⟨0, Nat.zero_le _, rfl, Below.refl _ _⟩
  case round =>
    obtain ⟨j, hj, rfl, h1⟩ := hrel
    have HB2 := Lib.hid h1; clear h1
    by_cases hlt : j < 6
    · obtain ⟨t, htz, hc⟩ := HSt.out j hlt
      have k0 := pw_cell_below HB2.out hc
      have HTz := Lib.hid htz; clear htz hc
      have e3 : wrap64 ((j : Int) + 1) = ((j + 1 : Nat) : Int) := wrap_succR j (Nat.lt_trans hlt (by decide))
      go_wp2_with fail
      refine (parse_ok g t HTz.out wr (HT.out.below HB2.out)).mono ?_
      rintro e w5 ⟨v1, rfl, h1, hd⟩
      replace HB2 := Lib.hid (chain2 HB2.out hd)
      clear hd
      have HP := Lib.hid h1; clear h1 k0
      go_wp2_with fail
      refine (ref_parse t HTz.out w5).mono ?_
      rintro e w6 ⟨v2, rfl, h1, hd⟩
      replace HP := Lib.hid (HP.out.below hd)
      replace HB2 := Lib.hid (chain2 HB2.out hd)
      clear hd
      have HQ2 := Lib.hid h1; clear h1
      have HPl := Lib.hid (show (parseV t).1.length * 7 ≤ 100000 from Nat.le_trans (parseF_len t.size t) HTz.out)
      generalize (parseV t).1 = ps at HP HQ2 HPl
      generalize (parseV t).2 = ev
      obtain ⟨pa, pc, rfl⟩ := HP.out.form
      obtain ⟨qa, qc, rfl⟩ := HQ2.out.form
      go_wp2_with fail
      go_loopw [105] (fun i wi => ∃ j : Nat, j ≤ ps.length ∧ i = .int .i64 (j : Int) ∧ Below w6.heap.size w6 wi) (fun i _ => ps.length - (RowKit.intOf i).toNat)
      case atStart => exact ⟨0, Nat.zero_le _, rfl, Below.refl _ _⟩
      case round =>
        obtain ⟨i, hi, rfl, h1⟩ := hrel
        have HB3 := Lib.hid h1; clear h1
        by_cases hlt2 : i < ps.length
        · obtain ⟨g1, of1, cp1, hv1, k0, k1⟩ := row_at (HP.out.below HB3.out).s i hlt2
          obtain ⟨g2, of2, cp2, hv2, k2, k3⟩ := row_at (HQ2.out.below HB3.out).s i hlt2
          simp only [Value.slice.injEq, true_and] at hv1 hv2
          obtain ⟨rfl, rfl⟩ := hv1
          obtain ⟨rfl, rfl⟩ := hv2
          have e4 : wrap64 ((i : Int) + 1) = ((i + 1 : Nat) : Int) := wrap_succB i (Nat.lt_of_lt_of_le hlt2 (Nat.le_trans (Nat.le_mul_of_pos_right _ (by decide)) (Nat.le_trans HPl.out (by decide))))
          generalize ps[i] = r at k0 k1 k2 k3
          obtain ⟨k, b⟩ := r
          simp only at k0 k1 k2 k3
          have q1 : (b.toList == b.toList) = true := beq_self_eq_true _
          go_wp2_with fail
          replace HB3 := Lib.hid (below_drew1 HB3.out)
          have hS : wr.drew.cell? ⟨g1, of1 + i * 2, none⟩ = some (.int .u8 (k : Int)) ∧ wr.drew.cell? ⟨g1, of1 + i * 2 + 1, none⟩ = some (.string b) ∧ wr.drew.cell? ⟨g2, of2 + i * 2, none⟩ = some (.int .u8 (k : Int)) ∧ wr.drew.cell? ⟨g2, of2 + i * 2 + 1, none⟩ = some (.string b) := ⟨k0, k1, k2, k3⟩
          refine start_ (n := 9) (S := fun w' => w'.cell? ⟨g1, of1 + i * 2, none⟩ = some (.int .u8 (k : Int)) ∧ w'.cell? ⟨g1, of1 + i * 2 + 1, none⟩ = some (.string b) ∧ w'.cell? ⟨g2, of2 + i * 2, none⟩ = some (.int .u8 (k : Int)) ∧ w'.cell? ⟨g2, of2 + i * 2 + 1, none⟩ = some (.string b)) (ds := []) #[false, false, false, false, false, false, false, false, false] (by kernel_rfl) rfl rfl hS (fun hHeld => ?_)
          refine with_tabW rg4_17.tab rg4_17.bits (fun HT_ HW_ => ?_)
          generalize wr.drew = w' at HB3 hHeld ⊢
          refine pure_ (i := 0) (N := some 108) (v := ?_) (a' := ?_) #[true, false, false, false, false, false, false, false, false] rfl rfl (any_of HT_.out (by kernel_rfl)) (fun _ _ _ h => h) (Or.inl ⟨by rfl, ?_⟩) ?_ ?_
          rotate_left
          · intro w'
            go_simp
            try with_reducible rfl
          rotate_left
          · simp (maxSteps := 4000000) only [Act.put, List.setIfInBounds_toArray, List.set_cons_zero, List.set_cons_succ, i64_w, i32_w]
            try rfl
          refine pure_ (i := 1) (N := some 109) (v := ?_) (a' := ?_) #[true, true, false, false, false, false, false, false, false] rfl rfl (any_of HT_.out (by kernel_rfl)) (fun _ _ _ h => h) (Or.inl ⟨by rfl, ?_⟩) ?_ ?_
          rotate_left
          · intro w'
            go_simp
            try with_reducible rfl
          rotate_left
          · simp (maxSteps := 4000000) only [Act.put, List.setIfInBounds_toArray, List.set_cons_zero, List.set_cons_succ, i64_w, i32_w]
            try rfl
          refine pure_ (i := 2) (N := some 110) (v := ?_) (a' := ?_) #[true, true, true, false, false, false, false, false, false] rfl rfl (any_of HT_.out (by kernel_rfl)) (fun _ _ _ h => h) (Or.inl ⟨by rfl, ?_⟩) ?_ ?_
          rotate_left
          · intro w'
            go_simp
            try with_reducible rfl
          rotate_left
          · simp (maxSteps := 4000000) only [Act.put, List.setIfInBounds_toArray, List.set_cons_zero, List.set_cons_succ, i64_w, i32_w]
            try rfl
          refine pure_ (i := 4) (N := some 112) (v := ?_) (a' := ?_) #[true, true, true, false, true, false, false, false, false] rfl rfl (any_of HT_.out (by kernel_rfl)) (fun _ _ _ h => h) (Or.inl ⟨by rfl, ?_⟩) ?_ ?_
          rotate_left
          · intro w'
            go_simp
            try with_reducible rfl
          rotate_left
          · simp (maxSteps := 4000000) only [Act.put, List.setIfInBounds_toArray, List.set_cons_zero, List.set_cons_succ, i64_w, i32_w]
            try rfl
          refine pure_ (i := 5) (N := some 113) (v := ?_) (a' := ?_) #[true, true, true, false, true, true, false, false, false] rfl rfl (any_of HT_.out (by kernel_rfl)) (fun _ _ _ h => h) (Or.inl ⟨by rfl, ?_⟩) ?_ ?_
          rotate_left
          · intro w'
            go_simp
            try with_reducible rfl
          rotate_left
          · simp (maxSteps := 4000000) only [Act.put, List.setIfInBounds_toArray, List.set_cons_zero, List.set_cons_succ, i64_w, i32_w]
            try rfl
          refine pure_ (i := 6) (N := some 114) (v := ?_) (a' := ?_) #[true, true, true, false, true, true, true, false, false] rfl rfl (any_of HT_.out (by kernel_rfl)) (fun _ _ _ h => h) (Or.inl ⟨by rfl, ?_⟩) ?_ ?_
          rotate_left
          · intro w'
            go_simp
            try with_reducible rfl
          rotate_left
          · simp (maxSteps := 4000000) only [Act.put, List.setIfInBounds_toArray, List.set_cons_zero, List.set_cons_succ, i64_w, i32_w]
            try rfl
          refine take_ (i := 3) (N := some 111) (v := ?_) (a' := ?_) #[true, true, true, true, true, true, true, false, false] rfl rfl (take_ofW HT_.out HW_.out (by kernel_rfl)) (fun _ _ _ h => h) (Or.inl ⟨by rfl, ?_⟩) hHeld ?_ ?_
          rotate_left
          · intro w' hw_
            try dsimp only at hw_
            obtain ⟨x0, x1, x2, x3⟩ := hw_
            go_simp
            try with_reducible rfl
          rotate_left
          · simp (maxSteps := 4000000) only [Act.put, List.setIfInBounds_toArray, List.set_cons_zero, List.set_cons_succ, i64_w, i32_w]
            try rfl
          refine take_ (i := 7) (N := some 115) (v := ?_) (a' := ?_) #[true, true, true, true, true, true, true, true, false] rfl rfl (take_ofW HT_.out HW_.out (by kernel_rfl)) (fun _ _ _ h => h) (Or.inl ⟨by rfl, ?_⟩) hHeld ?_ ?_
          rotate_left
          · intro w' hw_
            try dsimp only at hw_
            obtain ⟨x0, x1, x2, x3⟩ := hw_
            go_simp
            try with_reducible rfl
          rotate_left
          · simp (maxSteps := 4000000) only [Act.put, List.setIfInBounds_toArray, List.set_cons_zero, List.set_cons_succ, i64_w, i32_w]
            try rfl
          refine pure_ (i := 8) (N := some 116) (v := ?_) (a' := ?_) #[true, true, true, true, true, true, true, true, true] rfl rfl (any_of HT_.out (by kernel_rfl)) (fun _ _ _ h => h) (Or.inl ⟨by rfl, ?_⟩) ?_ ?_
          rotate_left
          · intro w'
            go_simp
            try with_reducible rfl
          rotate_left
          · simp (maxSteps := 4000000) only [Act.put, List.setIfInBounds_toArray, List.set_cons_zero, List.set_cons_succ, i64_w, i32_w]
            try rfl
          refine done_ (done_of HT_.out (by kernel_rfl)) ?_
          go_wp2
          go_roundw
          case rel => exact ⟨i + 1, hlt2, by rw [e4], HB3.out⟩
          case measure => rw [e4]; simp only [RowKit.intOf, Int.toNat_natCast]; exact Nat.sub_lt_sub_left hlt2 (Nat.lt_succ_self i)
        · obtain rfl : i = ps.length := Nat.le_antisymm hi (Nat.le_of_not_lt hlt2)
          go_wp2
          go_roundw
          case rel => exact ⟨j + 1, hlt, by rw [show ((j : Int) + 1) = ((j + 1 : Nat) : Int) from rfl], chain2 HB2.out HB3.out⟩
          case measure => rw [show ((j : Int) + 1) = ((j + 1 : Nat) : Int) from rfl]; simp only [RowKit.intOf, Int.toNat_natCast]; exact Nat.sub_lt_sub_left hlt (Nat.lt_succ_self j)
    · obtain rfl : j = 6 := Nat.le_antisymm hj (Nat.le_of_not_lt hlt)
      go_wp2_with fail
      refine (rec_parse_nil _ wr).mono ?_
      rintro e w5 ⟨rfl, rfl⟩
      go_wp2_with fail
      refine (wakes_ok _).mono ?_
      rintro e w6 ⟨rfl, hd⟩
      replace HB2 := Lib.hid (chain2 HB2.out hd)
      clear hd
      go_wp2
      go_ret
      exact ⟨rfl, chain2 HB.out HB2.out⟩
theorem recParses_law (a0 : Option Addr) (len0 cap0 : Nat) (a1 : ByteArray) (a20 a21 : Int) (W : World) (w0 : RowIn W [.int .u8, .str] a0 len0) (y0 : len0 ≤ cap0 ∧ cap0 ≤ maxLen) (w1 : a1.size ≤ 140737488351232) (w20 : (Lit.int .u16 a20).wf = true) (w21 : (Lit.int .u16 a21).wf = true) :
    Calls Try.prog 4 #[.slice a0 len0 cap0, .string a1, .agg #[.int .u16 a20, .int .u16 a21]] W fun e w' => e = .returned (.bool true) ∧ Below W.heap.size W w' := by
  obtain ⟨rs, rfl, h⟩ := rs_of w0
  obtain ⟨m, rfl, hm⟩ := wf_u16 w20
  obtain ⟨n, rfl, hn⟩ := wf_u16 w21
  exact recParses_walk a0 rs cap0 y0 a1 w1 m n hm hn W h
end Go.Proofs.Ytnojomoeaofkoaa
