/- TagBack: the bytes of a tag that may be are it again; with one byte another one, of the data or beside it, they aren't one. No conditions beyond the form's own reach. -/
import Derived.Test.YtfomgljhcegjdaaXTagC
import Derived.Test.YtfomgljhcegjdaaXBytes
import Derived.Test.YtfomgljhcegjdaaXStr
import Derived.Test.YtfomgljhcegjdaaXArr
import Derived.Deep.Cut
namespace Go.Proofs.Ytfomgljhcegjdaa
open Go.RowKit Go.Lib Go.Proofs.Ytfomgljhcegjdaa.P Go.Proofs.Ytfomgljhcegjdaa.BeS Go.Proofs.Ytfomgljhcegjdaa.PoS Go.Proofs.YtfomgljhcegjdaaW.PrintWords Go.Proofs.YtfomgljhcegjdaaW.PrintLast Go.Proofs.YtfomgljhcegjdaaW.PrintMore
set_option linter.unusedVariables false
set_option linter.unusedSimpArgs false
def rg4_11.T : Bool × List (List Nat × List Nat) := (true, [([], []), ([], []), ([1], [1]), ([2], [2]), ([], []), ([4], [4]), ([3, 5], [3, 5]), ([0, 6], [0, 6]), ([7], [7]), ([], []), ([9], [9]), ([10], [10]), ([8, 11], [8, 11]), ([0, 6, 0, 1, 2, 3, 4, 5, 6, 7, 8, 9, 10, 11, 12], [0, 6]), ([13, 12, 0, 1, 2, 3, 4, 5, 6, 7, 8, 9, 10, 11, 12], [12, 13])])
def rg4_11.B : List Nat := [0, 0, 2, 6, 0, 16, 62, 127, 255, 0, 512, 1536, 4095, 8191, 16383]
theorem rg4_11.tab : rtab .any (opsOf Try.f4 11) = rg4_11.T := by kernel_rfl
theorem rg4_11.bits : waitsOk rg4_11.T.2 rg4_11.B = true := by kernel_rfl
def rg4_12.T : Bool × List (List Nat × List Nat) := (true, [([], []), ([], []), ([1], [1]), ([0, 2], [0, 2]), ([3], [3]), ([], []), ([], []), ([6], [6]), ([5, 7], [5, 7]), ([8], [8]), ([4, 9], [4, 9]), ([10], [10]), ([11], [11]), ([11], [11]), ([], []), ([14, 12, 10, 0, 1, 2, 3, 4, 5, 6, 7, 8, 9, 10, 11, 12, 14], [12, 14]), ([13, 15, 0, 1, 2, 3, 4, 5, 6, 7, 8, 9, 10, 11, 12, 13, 14, 15], [13])])
def rg4_12.B : List Nat := [0, 0, 2, 7, 15, 0, 0, 64, 224, 480, 1023, 2047, 4095, 4095, 0, 24575, 65535]
theorem rg4_12.tab : rtab .any (opsOf Try.f4 12) = rg4_12.T := by kernel_rfl
theorem rg4_12.bits : waitsOk rg4_12.T.2 rg4_12.B = true := by kernel_rfl
theorem cells2T {w : World} {b : Nat} {u v : Value} {T : Nat} (h : w.heap[b]? = some (.cells #[u, v] T (0, 0))) : w.cell? ⟨b, 0, none⟩ = some u ∧ w.cell? ⟨b, 1, none⟩ = some v := by
  unfold World.cell?
  rw [h]
  exact ⟨rfl, rfl⟩
theorem xor_ne8 (x : UInt8) (m : Nat) (hm : m < 256) (h : m ≠ 0) : x ^^^ UInt8.ofNat m ≠ x := by
  intro e
  have h1 : x ^^^ (x ^^^ UInt8.ofNat m) = x ^^^ x := by rw [e]
  rw [← UInt8.xor_assoc, UInt8.xor_self, UInt8.zero_xor] at h1
  have h2 := congrArg UInt8.toNat h1
  rw [UInt8.toNat_ofNat_of_lt' (by simpa using hm)] at h2
  exact h h2
set_option maxHeartbeats 16000000 in
set_option maxRecDepth 100000 in
theorem tagBack_walk (x : Tg) (hx : x.Ok) (d : ByteArray) (hd0 : d.size ≤ 140737488351232) (m n : Nat) (hm : m < 65536) (hn : n < 65536) (w : World) :
    Calls Try.prog 4 #[tgV x, .string d, .agg #[.int .u16 (m : Int), .int .u16 (n : Int)]] w fun e w' => e = .returned (.bool true) ∧ Below w.heap.size w w' := by
  have HO := Lib.hid hx; clear hx
  have HMN := Lib.hid (And.intro hm hn); clear hm hn
  obtain ⟨N, hN, hN1, hN2, hN3, hN4⟩ : ∃ N : Nat, (if 300 < (d.size : Int) then 300 else (d.size : Int)) = (N : Int) ∧ N ≤ d.size ∧ N ≤ 300 ∧ N ≤ d.size ∧ min 300 d.size = N := ⟨min 300 d.size, by split <;> omega, by omega, by omega, by omega, rfl⟩
  have c1 : (0 ≤ (N : Int)) = True := eq_true (by omega)
  have c2 : ((N : Int) ≤ (d.size : Int)) = True := eq_true (by omega)
  have c3 : (N ≤ d.size) = True := eq_true hN3
  have c4 : decide (N ≤ d.size) = true := decide_eq_true hN3
  have hNm : min (d.size : Int) 300 = (N : Int) := by rw [← hN]; split <;> omega
  have HN := Lib.hid (And.intro hN1 hN2); clear hN1 hN2 hN3 hN4 hd0
  have hz := make_zero
  have HX := Lib.hid ((TgAt.new w 24 x).below (below_alloc (Below.refl _ _) (.cells #[.int .u16 (m : Int), .int .u16 (n : Int)] 51)))
  have HY := Lib.hid (heap_alloc_new (w.alloc (.cells #[.int .u8 (x.kind : Int), .int .i64 x.log, .int .u64 (x.seq : Int), .int .i64 x.pos, .int .i64 x.len] 24)) (.cells #[.int .u16 (m : Int), .int .u16 (n : Int)] 51))
  have HB := Lib.hid (below_then (below_alloc (Below.refl w.heap.size w) (.cells #[.int .u8 (x.kind : Int), .int .i64 x.log, .int .u64 (x.seq : Int), .int .i64 x.pos, .int .i64 x.len] 24)) (by simp) (below_alloc (Below.refl _ _) (.cells #[.int .u16 (m : Int), .int .u16 (n : Int)] 51)))
  rw [show (w.alloc (.cells #[.int .u8 (x.kind : Int), .int .i64 x.log, .int .u64 (x.seq : Int), .int .i64 x.pos, .int .i64 x.len] 24)).heap.size = w.heap.size + 1 by simp] at HY
  obtain ⟨dd, hdd⟩ : ∃ dd, dd = d.extract 0 N := ⟨_, rfl⟩
  have HDd := Lib.hid (show dd.size ≤ 300 by rw [hdd, ByteArray.size_extract]; have := HN.out; omega)
  have hA1 : ¬ (9223372036854775807 : Int) < 1 + ((d.extract 0 N).size : Int) := by rw [← hdd]; have := HDd.out; omega
  have hA2 : ¬ (9223372036854775807 : Int) < (({ data := #[100] } : ByteArray).size : Int) + ((d.extract 0 N).size : Int) := by rw [← hdd]; have := HDd.out; show ¬ _ < (1 : Int) + _; omega
  unfold tgV
  go_enter Try.func4, Try.ntmps4
  go_wp2_with fail
  generalize (w.alloc (.cells #[.int .u8 (x.kind : Int), .int .i64 x.log, .int .u64 (x.seq : Int), .int .i64 x.pos, .int .i64 x.len] 24)).alloc (.cells #[.int .u16 (m : Int), .int .u16 (n : Int)] 51) = w0 at HX HY HB ⊢
  obtain ⟨bx, hbx⟩ : ∃ bx, bx = w.heap.size := ⟨_, rfl⟩
  rw [← hbx] at HX HY ⊢
  generalize bx + 1 = byy at HY ⊢
  clear hbx hA1 hA2
  rw [← hdd]
  obtain ⟨dt, hdt⟩ : ∃ dt, dt = ({ data := #[100] } : ByteArray) ++ dd := ⟨_, rfl⟩
  rw [← hdt]
  have HDt := Lib.hid (show 1 ≤ dt.size ∧ dt.size ≤ 301 by rw [hdt, ByteArray.size_append]; have := HDd.out; exact ⟨Nat.le_add_right 1 _, by show 1 + dd.size ≤ 301; omega⟩)
  clear hdd hdt hN hNm c1 c2 c3 c4 HDd
  refine (poly_Make.calls _).mono ?_
  rintro e w1 ⟨rfl, hd⟩
  replace HX := Lib.hid (HX.out.below hd)
  replace HY := Lib.hid (blk_below HY.out hd)
  replace HB := Lib.hid (chain2 HB.out hd); clear hd
  have hd : Below w1.heap.size w1 ((w1.alloc (.cells (tabCells 0) 27)).setRow w1.heap.size (tabCells 256)) := below_setRow (below_alloc (Below.refl w1.heap.size w1) _) (Nat.le_refl _) _
  have hT := (made_facts (Below.refl w1.heap.size w1) _ rfl).1
  replace HX := Lib.hid (HX.out.below hd)
  replace HY := Lib.hid (blk_below HY.out hd)
  replace HB := Lib.hid (chain2 HB.out hd); clear hd
  obtain ⟨x0, x1, x2, x3, x4⟩ := tg_cells HX.out
  go_wp2_with (refine wpList_store_row rfl 27 _ _ rfl w1.heap.size (tabCells 256) rfl rfl 27 (tabCells 0) (heap_alloc_new w1 _) make_info (by rw [tabCells_size, tabCells_size]) (tabCells_one _) ?_)
  clear hz x0 x1 x2 x3 x4
  generalize (w1.alloc (.cells (tabCells 0) 27)).setRow w1.heap.size (tabCells 256) = w2 at HX HY HB hT ⊢
  generalize w1.heap.size = gp at hT ⊢
  have HT := Lib.hid hT; clear hT
  refine (tame_ok x HO.out.kind w2).mono ?_
  rintro e w3 ⟨rfl, hd⟩
  replace HX := Lib.hid (HX.out.below hd)
  replace HY := Lib.hid (blk_below HY.out hd)
  replace HB := Lib.hid (chain2 HB.out hd)
  replace HT := Lib.hid (HT.out.below hd); clear hd
  obtain ⟨tt, htt⟩ : ∃ tt, tt = tameT x := ⟨_, rfl⟩
  rw [← htt]
  have HTt := Lib.hid (show tt.right = true ∧ tt.seq < 18446744073709551616 from ⟨by rw [htt]; exact tame_right x, by rw [htt]; exact HO.out.seq⟩)
  clear htt
  go_wp2_with fail
  refine (of_ok tt w3).mono ?_
  rintro e w4 ⟨rfl, hd⟩
  replace HY := Lib.hid (blk_below HY.out hd)
  replace HT := Lib.hid (HT.out.below hd)
  replace HB := Lib.hid (chain2 HB.out hd); clear hd HX
  have H8 := Lib.hid (TgAt.new w4 37 tt)
  have hd := below_alloc (Below.refl w4.heap.size w4) (.cells #[.int .u8 (tt.kind : Int), .int .i64 tt.log, .int .u64 (tt.seq : Int), .int .i64 tt.pos, .int .i64 tt.len] 37)
  replace HY := Lib.hid (blk_below HY.out hd)
  replace HT := Lib.hid (HT.out.below hd)
  replace HB := Lib.hid (chain2 HB.out hd); clear hd
  have HFr := Lib.hid (show frV tt dt.data.toList = (frameT tt dt.data.toList, 0) from if_pos HTt.out.1)
  have HPa := Lib.hid (parse_frame tt HTt.out.1 HTt.out.2 dt.data.toList)
  have HFl := Lib.hid (fun i hi y hy l hl => flip_parse tt dt.data.toList i hi y hy l hl)
  have HFL := Lib.hid (frameT_len tt dt.data.toList)
  have HFo := Lib.hid (frame_ok gp tt HTt.out.2 dt (by have := HDt.out; omega))
  rw [HFr.out] at HFo
  clear HFr
  generalize frameT tt dt.data.toList = fT at HFo HPa HFl HFL
  unfold tgV
  unfold tgV at HFo
  go_wp2_with fail
  generalize w4.alloc (.cells #[.int .u8 (tt.kind : Int), .int .i64 tt.log, .int .u64 (tt.seq : Int), .int .i64 tt.pos, .int .i64 tt.len] 37) = w5 at H8 HY HT HB ⊢
  generalize w4.heap.size = b8 at H8 ⊢
  refine (HFo.out w5 HT.out).mono ?_
  rintro e w6 ⟨rfl, ht, hd⟩
  clear HFo
  replace H8 := Lib.hid (H8.out.below hd)
  replace HY := Lib.hid (blk_below HY.out hd)
  replace HT := Lib.hid ht; clear ht
  replace HB := Lib.hid (chain2 HB.out hd); clear hd
  have HE := Lib.hid (show (str fT).data.toList = fT from str_data _)
  have HSz := Lib.hid (show (str fT).size = 32 by rw [str_size, HFL.out])
  simp only
  generalize str fT = S at HE HSz ⊢
  go_wp2_with fail
  refine (parse_ok gp dt S (by have := HDt.out; omega) (by rw [HSz.out]; decide) w6 HT.out).mono ?_
  rintro e w7 ⟨rfl, ht, hd⟩
  rw [HE.out, HPa.out]
  replace H8 := Lib.hid (H8.out.below hd)
  replace HY := Lib.hid (blk_below HY.out hd)
  replace HT := Lib.hid ht; clear ht
  replace HB := Lib.hid (chain2 HB.out hd); clear hd
  unfold tgV
  simp only
  have H11 := Lib.hid (TgAt.new w7 37 tt)
  have hd := below_alloc (Below.refl w7.heap.size w7) (.cells #[.int .u8 (tt.kind : Int), .int .i64 tt.log, .int .u64 (tt.seq : Int), .int .i64 tt.pos, .int .i64 tt.len] 37)
  replace H8 := Lib.hid (H8.out.below hd)
  replace HY := Lib.hid (blk_below HY.out hd)
  replace HT := Lib.hid (HT.out.below hd)
  replace HB := Lib.hid (chain2 HB.out hd); clear hd
  go_wp2_with fail
  generalize w7.alloc (.cells #[.int .u8 (tt.kind : Int), .int .i64 tt.log, .int .u64 (tt.seq : Int), .int .i64 tt.pos, .int .i64 tt.len] 37) = w8 at H8 H11 HY HT HB ⊢
  generalize w7.heap.size = b11 at H11 ⊢
  refine (wakes_ok6 w8).mono ?_
  rintro e w9 ⟨rfl, hd⟩
  replace H8 := Lib.hid (H8.out.below hd)
  replace H11 := Lib.hid (H11.out.below hd)
  replace HY := Lib.hid (blk_below HY.out hd)
  replace HT := Lib.hid (HT.out.below hd)
  replace HB := Lib.hid (chain2 HB.out hd); clear hd
  obtain ⟨x0, x1, x2, x3, x4⟩ := tg_cells H8.out
  obtain ⟨y0, y1, y2, y3, y4⟩ := tg_cells H11.out
  obtain ⟨a0, a1⟩ := cells2T HY.out
  have hsz : (S.size : Int) = 32 := by rw [HSz.out]; rfl
  have hsz2 := HSz.out
  have b0 : (0 : Int) ≤ (m : Int) := Int.natCast_nonneg m
  have b1 : (0 : Int) ≤ (n : Int) := Int.natCast_nonneg n
  by_cases hn0 : n % 256 = 0
  · have e0 : (n : Int) % 256 = 0 := by omega
    have e1 : Int.tmod (n : Int) 256 = 0 := by rw [Int.tmod_eq_emod_of_nonneg (by omega)]; omega
    clear hn0
    go_wp2_with fail
    go_ret
    exact ⟨rfl, HB.out⟩
  · have e0 : ((n : Int) % 256 == 0) = false := by simp; omega
    have e1 : (Int.tmod (n : Int) 256 == 0) = false := by rw [Int.tmod_eq_emod_of_nonneg (by omega)]; exact e0
    have e2 : ((n : Int) % 256 = 0) = False := eq_false (by omega)
    have HN0 := Lib.hid hn0; clear hn0
    have hA1 : ¬ (9223372036854775807 : Int) < (dt.size : Int) + 32 := by have := HDt.out; omega
    have hA2 : ¬ 9223372036854775807 < dt.size + S.size := by have := HDt.out; have := HSz.out; omega
    have hA3 : ¬ 9223372036854775807 < dt.size + 32 := by have := HDt.out; omega
    go_wp2_with fail
    clear x0 x1 x2 x3 x4 y0 y1 y2 y3 y4 a0 a1 e0 e1 e2 hA1 hA2 hA3 hsz hsz2
    obtain ⟨S0, hS0⟩ : ∃ S0, S0 = dt ++ S := ⟨_, rfl⟩
    rw [← hS0]
    have hS1 : S0.size = dt.size + 32 := by rw [hS0, ByteArray.size_append, HSz.out]
    have HLd := Lib.hid (show S0.data.toList = dt.data.toList ++ fT by rw [hS0, ← HE.out]; simp)
    clear hS0
    have HK := Lib.hid (show dt.size < S0.size ∧ S0.size ≤ 400 ∧ S0.size = dt.size + 32 by have := HDt.out; omega)
    clear hS1
    have hcv := fun W => Lib.run_convert_string_bytes (P := Try.prog) W 9 52 5 S0 Try.underlying9 Try.underlying52 Try.underlying5
    rw [hcv w9]
    clear hcv
    have hA := Lib.hid (ByAt.made w9 S0)
    have hd : Below w9.heap.size w9 (Lib.bytesWorld w9 5 S0) := bytes_below (Below.refl _ _) (Nat.le_refl _) S0
    have HGt := Lib.hid HB.out.size
    have HNe := Lib.hid (And.intro (Nat.ne_of_lt (blk_lt HY.out)) (Nat.ne_of_lt HT.out.lt))
    replace HY := Lib.hid (blk_below HY.out hd)
    replace HT := Lib.hid (HT.out.below hd)
    replace HB := Lib.hid (chain2 HB.out hd); clear hd H8 H11
    go_wp2_with fail
    have hcp : S0.size ≤ grownCap w9 S0.size 0 5 := grownCap_ge w9 S0.size 0 5
    generalize grownCap w9 S0.size 0 5 = cp at hcp ⊢
    generalize Lib.bytesWorld w9 5 S0 = wA at hA HY HT HB ⊢
    generalize w9.heap.size = gt at hA HGt HNe ⊢
    have hll : S0.data.toList.length = S0.size := Array.length_toList
    have HLl := Lib.hid hll; clear hll
    generalize S0.size = K at HK hcp HLl ⊢
    generalize S0.data.toList = l at hA HLl HLd
    have HCp := Lib.hid hcp
    obtain ⟨q, hq⟩ : ∃ q, m % K = q := ⟨_, rfl⟩
    have hql : q < K := by rw [← hq]; exact Nat.mod_lt _ (by have := HK.out; omega)
    obtain ⟨mm, hmm⟩ : ∃ mm, n % 256 = mm := ⟨_, rfl⟩
    have hm2 : mm < 256 := by omega
    have hm3 : mm ≠ 0 := by rw [← hmm]; exact HN0.out
    have hKb := HK.out
    have hMb := HMN.out
    have hw1 : wrap64 (m : Int) = (m : Int) := by clear hq hmm; unfold wrap64; omega
    have hw2 : wrap64 (q : Int) = (q : Int) := by clear hq hmm; unfold wrap64; omega
    have hr3 : IntKind.u8.wrap (n : Int) = (mm : Int) := by clear hq hw1 hw2; simp [IntKind.wrap, IntKind.bits, IntKind.signed]; omega
    have HW := Lib.hid (And.intro hw1 (And.intro hw2 hr3)); clear hw1 hw2 hr3
    have nz1 : ((K : Int) == 0) = false := by simp; omega
    have nz2 : ¬ ((K : Int) = 0) := by omega
    have nz3 : (K = 0) = False := eq_false (by omega)
    have nz4 : (K == 0) = false := by simp; omega
    have hq1 : ((0 : Int) ≤ (q : Int)) = True := eq_true (by omega)
    have hq2 : ((q : Int) < (K : Int)) = True := eq_true (by omega)
    have hq3 : (q < K) = True := eq_true hql
    have hq7 : decide (q < K) = true := decide_eq_true hql
    have hr1 : Int.tmod (m : Int) (K : Int) = (q : Int) := by rw [Int.tmod_eq_emod_of_nonneg (by omega), ← hq]; simp
    have hr2 : (m : Int) % (K : Int) = (q : Int) := by rw [← hq]; simp
    obtain ⟨hw1, hw2, hr3⟩ := HW.out
    have HQ := Lib.hid (And.intro hq hql); clear hq hql hmm HW hKb hMb hcp
    obtain ⟨xb, hxb⟩ : ∃ xb, l.getD q 0 = xb := ⟨_, rfl⟩
    have e8 := xor8_v xb mm hm2
    obtain ⟨yb, hyb⟩ : ∃ yb, xb ^^^ UInt8.ofNat mm = yb := ⟨_, rfl⟩
    rw [hyb] at e8
    have HYX := Lib.hid (show yb ≠ xb by rw [← hyb]; exact xor_ne8 xb mm hm2 hm3)
    have HXb := Lib.hid hxb; clear hxb hyb hm2 hm3 HN0
    replace HY := Lib.hid (show wA.drew.heap[byy]? = some (.cells #[.int .u16 (m : Int), .int .u16 (n : Int)] 51 (0, 0)) from HY.out)
    have HA := Lib.hid (show ByAt wA.drew gt l from hA.out); clear hA
    replace HT := Lib.hid (show TabAt wA.drew gp from HT.out)
    replace HB := Lib.hid (show Below w.heap.size w wA.drew from below_drew1 HB.out)
    have hS : wA.drew.heap[byy]? = some (.cells #[.int .u16 (m : Int), .int .u16 (n : Int)] 51 (0, 0)) ∧ wA.drew.cell? ⟨gt, q, none⟩ = some (.int .u8 ((xb.toNat : Nat) : Int)) := ⟨HY.out, by have := (HA.out q (by rw [HLl.out]; exact HQ.out.2)).1; rwa [HXb.out] at this⟩
    refine start_ (n := 15) (S := fun w' => w'.heap[byy]? = some (.cells #[.int .u16 (m : Int), .int .u16 (n : Int)] 51 (0, 0)) ∧ w'.cell? ⟨gt, q, none⟩ = some (.int .u8 ((xb.toNat : Nat) : Int))) (ds := [14]) #[false, false, false, false, false, false, false, false, false, false, false, false, false, false, false] (by kernel_rfl) rfl rfl hS (fun hHeld => ?_)
    refine with_tabW rg4_11.tab rg4_11.bits (fun HT_ HW_ => ?_)
    generalize wA.drew = w' at HY HA HT HB hHeld ⊢
    refine pure_ (i := 0) (N := some 66) (v := ?_) (a' := ?_) #[true, false, false, false, false, false, false, false, false, false, false, false, false, false, false] rfl rfl (any_of HT_.out (by kernel_rfl)) (fun _ _ _ h => h) (Or.inl ⟨by rfl, ?_⟩) ?_ ?_
    rotate_left
    · intro w'
      go_simp
      try with_reducible rfl
    rotate_left
    · simp (maxSteps := 4000000) only [Act.put, List.setIfInBounds_toArray, List.set_cons_zero, List.set_cons_succ, i64_w, i32_w]
      try rfl
    refine pure_ (i := 1) (N := some 67) (v := ?_) (a' := ?_) #[true, true, false, false, false, false, false, false, false, false, false, false, false, false, false] rfl rfl (any_of HT_.out (by kernel_rfl)) (fun _ _ _ h => h) (Or.inl ⟨by rfl, ?_⟩) ?_ ?_
    rotate_left
    · intro w'
      go_simp
      try with_reducible rfl
    rotate_left
    · simp (maxSteps := 4000000) only [Act.put, List.setIfInBounds_toArray, List.set_cons_zero, List.set_cons_succ, i64_w, i32_w]
      try rfl
    refine pure_ (i := 4) (N := some 70) (v := ?_) (a' := ?_) #[true, true, false, false, true, false, false, false, false, false, false, false, false, false, false] rfl rfl (any_of HT_.out (by kernel_rfl)) (fun _ _ _ h => h) (Or.inl ⟨by rfl, ?_⟩) ?_ ?_
    rotate_left
    · intro w'
      go_simp
      try with_reducible rfl
    rotate_left
    · simp (maxSteps := 4000000) only [Act.put, List.setIfInBounds_toArray, List.set_cons_zero, List.set_cons_succ, i64_w, i32_w]
      try rfl
    refine pure_ (i := 5) (N := some 71) (v := ?_) (a' := ?_) #[true, true, false, false, true, true, false, false, false, false, false, false, false, false, false] rfl rfl (any_of HT_.out (by kernel_rfl)) (fun _ _ _ h => h) (Or.inl ⟨by rfl, ?_⟩) ?_ ?_
    rotate_left
    · intro w'
      go_simp
      try with_reducible rfl
    rotate_left
    · simp (maxSteps := 4000000) only [Act.put, List.setIfInBounds_toArray, List.set_cons_zero, List.set_cons_succ, i64_w, i32_w]
      try rfl
    refine pure_ (i := 9) (N := some 75) (v := ?_) (a' := ?_) #[true, true, false, false, true, true, false, false, false, true, false, false, false, false, false] rfl rfl (any_of HT_.out (by kernel_rfl)) (fun _ _ _ h => h) (Or.inl ⟨by rfl, ?_⟩) ?_ ?_
    rotate_left
    · intro w'
      go_simp
      try with_reducible rfl
    rotate_left
    · simp (maxSteps := 4000000) only [Act.put, List.setIfInBounds_toArray, List.set_cons_zero, List.set_cons_succ, i64_w, i32_w]
      try rfl
    refine take_ (i := 2) (N := some 68) (v := ?_) (a' := ?_) #[true, true, true, false, true, true, false, false, false, true, false, false, false, false, false] rfl rfl (take_ofW HT_.out HW_.out (by kernel_rfl)) (fun _ _ _ h => h) (Or.inl ⟨by rfl, ?_⟩) hHeld ?_ ?_
    rotate_left
    · intro w' hw_
      try dsimp only at hw_
      obtain ⟨g0, g1⟩ := cells2T hw_.1
      go_simp
      try with_reducible rfl
    rotate_left
    · simp (maxSteps := 4000000) only [Act.put, List.setIfInBounds_toArray, List.set_cons_zero, List.set_cons_succ, i64_w, i32_w]
      try rfl
    refine pure_ (i := 3) (N := some 69) (v := ?_) (a' := ?_) #[true, true, true, true, true, true, false, false, false, true, false, false, false, false, false] rfl rfl (any_of HT_.out (by kernel_rfl)) (fun _ _ _ h => h) (Or.inl ⟨by rfl, ?_⟩) ?_ ?_
    rotate_left
    · intro w'
      go_simp
      try with_reducible rfl
    rotate_left
    · simp (maxSteps := 4000000) only [Act.put, List.setIfInBounds_toArray, List.set_cons_zero, List.set_cons_succ, i64_w, i32_w]
      try rfl
    refine pure_ (i := 6) (N := some 72) (v := ?_) (a' := ?_) #[true, true, true, true, true, true, true, false, false, true, false, false, false, false, false] rfl rfl (any_of HT_.out (by kernel_rfl)) (fun _ _ _ h => h) (Or.inl ⟨by rfl, ?_⟩) ?_ ?_
    rotate_left
    · intro w'
      go_simp
      try with_reducible rfl
    rotate_left
    · simp (maxSteps := 4000000) only [Act.put, List.setIfInBounds_toArray, List.set_cons_zero, List.set_cons_succ, i64_w, i32_w]
      try rfl
    refine pure_ (i := 7) (N := some 73) (v := ?_) (a' := ?_) #[true, true, true, true, true, true, true, true, false, true, false, false, false, false, false] rfl rfl (any_of HT_.out (by kernel_rfl)) (fun _ _ _ h => h) (Or.inl ⟨by rfl, ?_⟩) ?_ ?_
    rotate_left
    · intro w'
      go_simp
      try with_reducible rfl
    rotate_left
    · simp (maxSteps := 4000000) only [Act.put, List.setIfInBounds_toArray, List.set_cons_zero, List.set_cons_succ, i64_w, i32_w]
      try rfl
    refine take_ (i := 8) (N := some 74) (v := ?_) (a' := ?_) #[true, true, true, true, true, true, true, true, true, true, false, false, false, false, false] rfl rfl (take_ofW HT_.out HW_.out (by kernel_rfl)) (fun _ _ _ h => h) (Or.inl ⟨by rfl, ?_⟩) hHeld ?_ ?_
    rotate_left
    · intro w' hw_
      try dsimp only at hw_
      have g2 := hw_.2
      go_simp
      try with_reducible rfl
    rotate_left
    · simp (maxSteps := 4000000) only [Act.put, List.setIfInBounds_toArray, List.set_cons_zero, List.set_cons_succ, i64_w, i32_w]
      try rfl
    refine take_ (i := 10) (N := some 76) (v := ?_) (a' := ?_) #[true, true, true, true, true, true, true, true, true, true, true, false, false, false, false] rfl rfl (take_ofW HT_.out HW_.out (by kernel_rfl)) (fun _ _ _ h => h) (Or.inl ⟨by rfl, ?_⟩) hHeld ?_ ?_
    rotate_left
    · intro w' hw_
      try dsimp only at hw_
      obtain ⟨g0, g1⟩ := cells2T hw_.1
      go_simp
      try with_reducible rfl
    rotate_left
    · simp (maxSteps := 4000000) only [Act.put, List.setIfInBounds_toArray, List.set_cons_zero, List.set_cons_succ, i64_w, i32_w]
      try rfl
    refine pure_ (i := 11) (N := some 77) (v := ?_) (a' := ?_) #[true, true, true, true, true, true, true, true, true, true, true, true, false, false, false] rfl rfl (any_of HT_.out (by kernel_rfl)) (fun _ _ _ h => h) (Or.inl ⟨by rfl, ?_⟩) ?_ ?_
    rotate_left
    · intro w'
      go_simp
      try with_reducible rfl
    rotate_left
    · simp (maxSteps := 4000000) only [Act.put, List.setIfInBounds_toArray, List.set_cons_zero, List.set_cons_succ, i64_w, i32_w]
      try rfl
    refine pure_ (i := 12) (N := some 78) (v := ?_) (a' := ?_) #[true, true, true, true, true, true, true, true, true, true, true, true, true, false, false] rfl rfl (any_of HT_.out (by kernel_rfl)) (fun _ _ _ h => h) (Or.inl ⟨by rfl, ?_⟩) ?_ ?_
    rotate_left
    · intro w'
      go_simp
      try with_reducible rfl
    rotate_left
    · simp (maxSteps := 4000000) only [Act.put, List.setIfInBounds_toArray, List.set_cons_zero, List.set_cons_succ, i64_w, i32_w]
      try rfl
    refine pure_ (i := 13) (N := some 79) (v := ?_) (a' := ?_) #[true, true, true, true, true, true, true, true, true, true, true, true, true, true, false] rfl rfl (any_of HT_.out (by kernel_rfl)) (fun _ _ _ h => h) (Or.inl ⟨by rfl, ?_⟩) ?_ ?_
    rotate_left
    · intro w'
      go_simp
      try with_reducible rfl
    rotate_left
    · simp (maxSteps := 4000000) only [Act.put, List.setIfInBounds_toArray, List.set_cons_zero, List.set_cons_succ, i64_w, i32_w]
      try rfl
    refine last_ (i := 14) (N := none) #[true, true, true, true, true, true, true, true, true, true, true, true, true, true, true] rfl rfl (one_of HT_.out (by kernel_rfl)) (by decide) (fun K hK => ?_)
    refine skip_ (w1 := w'.setCell ⟨gt, q, none⟩ (.int .u8 ((yb.toNat : Nat) : Int))) (by rfl) rfl ?_ ?_
    · (have g2 := hHeld.2; have f2 := (HA.out q (by rw [HLl.out]; exact HQ.out.2)).2; go_simp)
    refine hK.out _ _ ?_
    clear hK K
    refine done_ (done_of HT_.out (by kernel_rfl)) ?_
    replace HY := Lib.hid (show (w'.setCell ⟨gt, q, none⟩ (.int .u8 ((yb.toNat : Nat) : Int))).heap[byy]? = some (.cells #[.int .u16 (m : Int), .int .u16 (n : Int)] 51 (0, 0)) by rw [heap_setCell_other _ _ byy _ HNe.out.1]; exact HY.out)
    replace HT := Lib.hid (HT.out.setT (b := gt) (i := q) (v := .int .u8 ((yb.toNat : Nat) : Int)) HNe.out.2)
    replace HA := Lib.hid (HA.out.set (q := q) (by rw [HLl.out]; exact HQ.out.2) yb)
    replace HB := Lib.hid (HB.out.setCell (p := ⟨gt, q, none⟩) HGt.out (.int .u8 ((yb.toNat : Nat) : Int)))
    generalize w'.setCell ⟨gt, q, none⟩ (.int .u8 ((yb.toNat : Nat) : Int)) = w3 at HY HT HA HB ⊢
    clear e8 hHeld hS nz1 nz2 nz3 nz4 hq1 hq2 hq3 hq7 hr1 hr2 hw1 hw2 hr3
    have hqf : q < (dt.data.toList ++ fT).length := by rw [← HLd.out, HLl.out]; exact HQ.out.2
    have hyf : yb ≠ (dt.data.toList ++ fT)[q] := by
      have h1 : l.getD q 0 = (dt.data.toList ++ fT)[q] := by
        rw [HLd.out, List.getD_eq_getElem?_getD, List.getElem?_eq_getElem hqf]; rfl
      rw [← h1, HXb.out]
      exact HYX.out
    have HFp := Lib.hid (HFl.out q hqf yb hyf ((dt.data.toList ++ fT).set q yb) rfl)
    clear HFl hqf hyf
    rw [← HLd.out] at HFp
    replace HLl := Lib.hid (show (l.set q yb).length = K by rw [List.length_set]; exact HLl.out)
    generalize l.set q yb = l2 at HA HLl HFp
    clear HXb HYX HLd HE HPa HQ HFL HMN HSz
    obtain ⟨tS, htS⟩ : ∃ tS : ByteArray, (⟨(l2.take dt.size).toArray⟩ : ByteArray) = tS := ⟨_, rfl⟩
    obtain ⟨tU, htU⟩ : ∃ tS : ByteArray, (⟨(l2.drop dt.size).toArray⟩ : ByteArray) = tS := ⟨_, rfl⟩
    have HZ := Lib.hid (show tS.size ≤ 1000 ∧ tU.size ≤ 1000 by
      have h3 := HLl.out
      have h4 := HK.out
      refine ⟨?_, ?_⟩
      · rw [← htS]; show (l2.take dt.size).toArray.size ≤ _; rw [List.size_toArray, List.length_take]; omega
      · rw [← htU]; show (l2.drop dt.size).toArray.size ≤ _; rw [List.size_toArray, List.length_drop]; omega)
    have HFq := Lib.hid (show (parseT tS.data.toList tU.data.toList).2 = 4 ∨ (parseT tS.data.toList tU.data.toList).2 = 5 by
      rw [← htS, ← htU]
      have h := HFp.out
      rw [Array.length_toList] at h
      exact h)
    clear HFp
    have HTS := Lib.hid (And.intro htS htU); clear htS htU
    go_wp2_with fail
    go_cut [15] from 16 (fun s15 wx => ∃ c : Int, (c = 4 ∨ c = 5) ∧ s15 = .int .i64 c ∧ Below w.heap.size w wx)
    case first =>
      have hk := HK.out
      have hcp := HCp.out
      have p1 : ((dt.size : Int) ≤ (cp : Int)) = True := eq_true (by omega)
      have p2 : (dt.size ≤ cp) = True := eq_true (by omega)
      have p3 : decide (dt.size ≤ cp) = true := decide_eq_true (by omega)
      have p4 : ((0 : Int) ≤ (dt.size : Int)) = True := eq_true (by omega)
      have p5 : ((dt.size : Int) ≤ (K : Int)) = True := eq_true (by omega)
      have p6 : (dt.size ≤ K) = True := eq_true (by omega)
      have p7 : decide (dt.size ≤ K) = true := decide_eq_true (by omega)
      have p8 : ¬ cp = dt.size := by omega
      have p9 : ((K : Int) ≤ (cp : Int)) = True := eq_true (by omega)
      have p10 : (K ≤ cp) = True := eq_true (by omega)
      clear hk hcp
      replace HA := Lib.hid (show ByAt w3.drew gt l2 from HA.out)
      replace HT := Lib.hid (show TabAt w3.drew gp from HT.out)
      replace HB := Lib.hid (show Below w.heap.size w w3.drew from below_drew1 HB.out)
      have hS : ByAt w3.drew gt l2 := HA.out
      refine start_ (n := 17) (S := fun w' => ByAt w' gt l2) (ds := [15]) #[false, false, false, false, false, false, false, false, false, false, false, false, false, false, false, false, false] (by kernel_rfl) rfl rfl hS (fun hHeld => ?_)
      refine with_tabW rg4_12.tab rg4_12.bits (fun HT_ HW_ => ?_)
      generalize w3.drew = w' at HA HT HB hHeld ⊢
      refine pure_ (i := 0) (N := some 81) (v := ?_) (a' := ?_) #[true, false, false, false, false, false, false, false, false, false, false, false, false, false, false, false, false] rfl rfl (any_of HT_.out (by kernel_rfl)) (fun _ _ _ h => h) (Or.inl ⟨by rfl, ?_⟩) ?_ ?_
      rotate_left
      · intro w'
        go_simp
        try with_reducible rfl
      rotate_left
      · simp (maxSteps := 4000000) only [Act.put, List.setIfInBounds_toArray, List.set_cons_zero, List.set_cons_succ, i64_w, i32_w]
        try rfl
      refine pure_ (i := 1) (N := some 82) (v := ?_) (a' := ?_) #[true, true, false, false, false, false, false, false, false, false, false, false, false, false, false, false, false] rfl rfl (any_of HT_.out (by kernel_rfl)) (fun _ _ _ h => h) (Or.inl ⟨by rfl, ?_⟩) ?_ ?_
      rotate_left
      · intro w'
        go_simp
        try with_reducible rfl
      rotate_left
      · simp (maxSteps := 4000000) only [Act.put, List.setIfInBounds_toArray, List.set_cons_zero, List.set_cons_succ, i64_w, i32_w]
        try rfl
      refine pure_ (i := 2) (N := some 83) (v := ?_) (a' := ?_) #[true, true, true, false, false, false, false, false, false, false, false, false, false, false, false, false, false] rfl rfl (any_of HT_.out (by kernel_rfl)) (fun _ _ _ h => h) (Or.inl ⟨by rfl, ?_⟩) ?_ ?_
      rotate_left
      · intro w'
        go_simp
        try with_reducible rfl
      rotate_left
      · simp (maxSteps := 4000000) only [Act.put, List.setIfInBounds_toArray, List.set_cons_zero, List.set_cons_succ, i64_w, i32_w]
        try rfl
      refine pure_ (i := 3) (N := some 84) (v := ?_) (a' := ?_) #[true, true, true, true, false, false, false, false, false, false, false, false, false, false, false, false, false] rfl rfl (any_of HT_.out (by kernel_rfl)) (fun _ _ _ h => h) (Or.inl ⟨by rfl, ?_⟩) ?_ ?_
      rotate_left
      · intro w'
        go_simp
        try with_reducible rfl
      rotate_left
      · simp (maxSteps := 4000000) only [Act.put, List.setIfInBounds_toArray, List.set_cons_zero, List.set_cons_succ, i64_w, i32_w]
        try rfl
      refine pure_ (i := 5) (N := some 86) (v := ?_) (a' := ?_) #[true, true, true, true, false, true, false, false, false, false, false, false, false, false, false, false, false] rfl rfl (any_of HT_.out (by kernel_rfl)) (fun _ _ _ h => h) (Or.inl ⟨by rfl, ?_⟩) ?_ ?_
      rotate_left
      · intro w'
        go_simp
        try with_reducible rfl
      rotate_left
      · simp (maxSteps := 4000000) only [Act.put, List.setIfInBounds_toArray, List.set_cons_zero, List.set_cons_succ, i64_w, i32_w]
        try rfl
      refine pure_ (i := 6) (N := some 87) (v := ?_) (a' := ?_) #[true, true, true, true, false, true, true, false, false, false, false, false, false, false, false, false, false] rfl rfl (any_of HT_.out (by kernel_rfl)) (fun _ _ _ h => h) (Or.inl ⟨by rfl, ?_⟩) ?_ ?_
      rotate_left
      · intro w'
        go_simp
        try with_reducible rfl
      rotate_left
      · simp (maxSteps := 4000000) only [Act.put, List.setIfInBounds_toArray, List.set_cons_zero, List.set_cons_succ, i64_w, i32_w]
        try rfl
      refine pure_ (i := 7) (N := some 88) (v := ?_) (a' := ?_) #[true, true, true, true, false, true, true, true, false, false, false, false, false, false, false, false, false] rfl rfl (any_of HT_.out (by kernel_rfl)) (fun _ _ _ h => h) (Or.inl ⟨by rfl, ?_⟩) ?_ ?_
      rotate_left
      · intro w'
        go_simp
        try with_reducible rfl
      rotate_left
      · simp (maxSteps := 4000000) only [Act.put, List.setIfInBounds_toArray, List.set_cons_zero, List.set_cons_succ, i64_w, i32_w]
        try rfl
      refine pure_ (i := 8) (N := some 89) (v := ?_) (a' := ?_) #[true, true, true, true, false, true, true, true, true, false, false, false, false, false, false, false, false] rfl rfl (any_of HT_.out (by kernel_rfl)) (fun _ _ _ h => h) (Or.inl ⟨by rfl, ?_⟩) ?_ ?_
      rotate_left
      · intro w'
        go_simp
        try with_reducible rfl
      rotate_left
      · simp (maxSteps := 4000000) only [Act.put, List.setIfInBounds_toArray, List.set_cons_zero, List.set_cons_succ, i64_w, i32_w]
        try rfl
      refine take_ (i := 4) (N := some 85) (v := ?_) (a' := ?_) #[true, true, true, true, true, true, true, true, true, false, false, false, false, false, false, false, false] rfl rfl (take_ofW HT_.out HW_.out (by kernel_rfl)) (fun _ _ _ h => h) (Or.inl ⟨by rfl, ?_⟩) hHeld ?_ ?_
      rotate_left
      · intro w' hw_
        try dsimp only at hw_
        have hcv := hw_.convN (cap := cp) (n := dt.size) (by rw [HLl.out]; have := HK.out; omega); rw [HTS.out.1] at hcv
        go_simp
        try with_reducible rfl
      rotate_left
      · simp (maxSteps := 4000000) only [Act.put, List.setIfInBounds_toArray, List.set_cons_zero, List.set_cons_succ, i64_w, i32_w]
        try rfl
      refine take_ (i := 9) (N := some 90) (v := ?_) (a' := ?_) #[true, true, true, true, true, true, true, true, true, true, false, false, false, false, false, false, false] rfl rfl (take_ofW HT_.out HW_.out (by kernel_rfl)) (fun _ _ _ h => h) (Or.inl ⟨by rfl, ?_⟩) hHeld ?_ ?_
      rotate_left
      · intro w' hw_
        try dsimp only at hw_
        have hcv := hw_.convAt (cap := cp - dt.size) dt.size (K - dt.size) (by rw [List.length_drop, HLl.out]); rw [HTS.out.2] at hcv
        go_simp
        try with_reducible rfl
      rotate_left
      · simp (maxSteps := 4000000) only [Act.put, List.setIfInBounds_toArray, List.set_cons_zero, List.set_cons_succ, i64_w, i32_w]
        try rfl
      refine two_ (i := 10) (j := 14) (Ni := some 91) (Nj := some 14) #[true, true, true, true, true, true, true, true, true, true, true, false, false, false, false, false, false] #[true, true, true, true, true, true, true, true, true, true, false, false, false, false, true, false, false] rfl rfl rfl rfl  (two_of HT_.out (by kernel_rfl)) (by decide) (by decide)  (fun K hK => ?_) (fun K hK => ?_) 
      · refine goes_ Try.func14 (by kernel_rfl) rfl #[(.pointer (some ⟨gp, 0, none⟩)), (.string tS), (.string tU)] (by rfl) rfl rfl (by (try simp only [List.map_toArray, List.map_cons, List.map_nil]); first | done | rfl) ?_
        refine (parse_ok gp tS tU (by have := HZ.out; omega) (by have := HZ.out; omega) _ HT.out).mono ?_
        rintro e w' ⟨rfl, ht, hd⟩
        refine ⟨_, rfl, ?_⟩
        have hSS := hHeld.below hd
        (try replace HZt := Lib.hid (blk_below HZt.out hd))
        replace HT := Lib.hid ht
        replace HB := Lib.hid (chain2 HB.out hd)
        clear ht hd
        refine hK.out _ _ (hSS) (fun hHeld => ?_)
        clear hK K
        refine norm_ (a' := ?_) ?_ ?_
        rotate_left
        · show Act.put _ (some 91) _ = _
          simp (maxSteps := 4000000) only [Act.put, List.setIfInBounds_toArray, List.set_cons_zero, List.set_cons_succ, i64_w, i32_w]
          try rfl
        refine pure_ (i := 11) (N := some 80) (v := ?_) (a' := ?_) #[true, true, true, true, true, true, true, true, true, true, true, true, false, false, false, false, false] rfl rfl (any_of HT_.out (by kernel_rfl)) (fun _ _ _ h => h) (Or.inl ⟨by rfl, ?_⟩) ?_ ?_
        rotate_left
        · intro w'
          go_simp
          try with_reducible rfl
        rotate_left
        · simp (maxSteps := 4000000) only [Act.put, List.setIfInBounds_toArray, List.set_cons_zero, List.set_cons_succ, i64_w, i32_w]
          try rfl
        refine pure_ (i := 12) (N := some 92) (v := ?_) (a' := ?_) #[true, true, true, true, true, true, true, true, true, true, true, true, true, false, false, false, false] rfl rfl (any_of HT_.out (by kernel_rfl)) (fun _ _ _ h => h) (Or.inl ⟨by rfl, ?_⟩) ?_ ?_
        rotate_left
        · intro w'
          go_simp
          try with_reducible rfl
        rotate_left
        · simp (maxSteps := 4000000) only [Act.put, List.setIfInBounds_toArray, List.set_cons_zero, List.set_cons_succ, i64_w, i32_w]
          try rfl
        refine pure_ (i := 13) (N := some 93) (v := ?_) (a' := ?_) #[true, true, true, true, true, true, true, true, true, true, true, true, true, true, false, false, false] rfl rfl (any_of HT_.out (by kernel_rfl)) (fun _ _ _ h => h) (Or.inl ⟨by rfl, ?_⟩) ?_ ?_
        rotate_left
        · intro w'
          go_simp
          try with_reducible rfl
        rotate_left
        · simp (maxSteps := 4000000) only [Act.put, List.setIfInBounds_toArray, List.set_cons_zero, List.set_cons_succ, i64_w, i32_w]
          try rfl
        refine one_ (i := 14) (N := some 14) #[true, true, true, true, true, true, true, true, true, true, true, true, true, true, true, false, false] rfl rfl (one_of HT_.out (by kernel_rfl)) (by decide) (fun K hK => ?_)
        refine value_ (v := (.pointer (some ⟨w'.heap.size, 0, none⟩))) (w1 := w'.alloc (.cells #[.int .u8 0, .int .i64 0, .int .u64 0, .int .i64 0, .int .i64 0] 37)) (by rfl) rfl ?_ ?_
        · (go_simp)
        have HZt := Lib.hid (heap_alloc_new w' (.cells #[.int .u8 0, .int .i64 0, .int .u64 0, .int .i64 0, .int .i64 0] 37))
        have hd := below_alloc (Below.refl w'.heap.size w') (.cells #[.int .u8 0, .int .i64 0, .int .u64 0, .int .i64 0, .int .i64 0] 37)
        have HGz := Lib.hid HB.out.size
        replace HT := Lib.hid (HT.out.below hd)
        replace HB := Lib.hid (chain2 HB.out hd)
        have hSS := hHeld.below hd
        clear hd
        generalize w'.heap.size = bz at HZt HGz ⊢
        generalize w'.alloc (.cells #[.int .u8 0, .int .i64 0, .int .u64 0, .int .i64 0, .int .i64 0] 37) = w' at HZt HT HB hSS ⊢
        refine hK.out _ _ (hSS) (fun hHeld => ?_)
        clear hK K
        refine norm_ (a' := ?_) ?_ ?_
        rotate_left
        · show Act.put _ (some 14) _ = _
          simp (maxSteps := 4000000) only [Act.put, List.setIfInBounds_toArray, List.set_cons_zero, List.set_cons_succ, i64_w, i32_w]
          try rfl
        refine last_ (i := 15) (N := none) #[true, true, true, true, true, true, true, true, true, true, true, true, true, true, true, true, false] rfl rfl (one_of HT_.out (by kernel_rfl)) (by decide) (fun K hK => ?_)
        refine skip_ (w1 := ((((w'.setCell ⟨bz, 0, none⟩ (.int .u8 ((parseT tS.data.toList tU.data.toList).1.kind : Int))).setCell ⟨bz, 1, none⟩ (.int .i64 (parseT tS.data.toList tU.data.toList).1.log)).setCell ⟨bz, 2, none⟩ (.int .u64 ((parseT tS.data.toList tU.data.toList).1.seq : Int))).setCell ⟨bz, 3, none⟩ (.int .i64 (parseT tS.data.toList tU.data.toList).1.pos)).setCell ⟨bz, 4, none⟩ (.int .i64 (parseT tS.data.toList tU.data.toList).1.len)) (by rfl) rfl ?_ ?_
        · (obtain ⟨y0, y1, y2, y3, y4⟩ := tg_cells HZt.out; have f0 := fun i => pl_frozenT HZt.out i; unfold tgV; go_simp)
        refine hK.out _ _ ?_
        clear hK K
        refine pure_ (i := 16) (N := some 15) (v := ?_) (a' := ?_) #[true, true, true, true, true, true, true, true, true, true, true, true, true, true, true, true, true] rfl rfl (any_of HT_.out (by kernel_rfl)) (fun _ _ _ h => h) (Or.inl ⟨by rfl, ?_⟩) ?_ ?_
        rotate_left
        · intro w'
          go_simp
          try with_reducible rfl
        rotate_left
        · simp (maxSteps := 4000000) only [Act.put, List.setIfInBounds_toArray, List.set_cons_zero, List.set_cons_succ, i64_w, i32_w]
          try rfl
        refine done_ (done_of HT_.out (by kernel_rfl)) ?_
        go_wp2_with fail
        go_meet
        case rel => exact ⟨_, HFq.out, rfl, ((((HB.out.setCell (p := ⟨bz, 0, none⟩) HGz.out _).setCell (p := ⟨bz, 1, none⟩) HGz.out _).setCell (p := ⟨bz, 2, none⟩) HGz.out _).setCell (p := ⟨bz, 3, none⟩) HGz.out _).setCell (p := ⟨bz, 4, none⟩) HGz.out _⟩
      · refine value_ (v := (.pointer (some ⟨w'.heap.size, 0, none⟩))) (w1 := w'.alloc (.cells #[.int .u8 0, .int .i64 0, .int .u64 0, .int .i64 0, .int .i64 0] 37)) (by rfl) rfl ?_ ?_
        · (go_simp)
        have HZt := Lib.hid (heap_alloc_new w' (.cells #[.int .u8 0, .int .i64 0, .int .u64 0, .int .i64 0, .int .i64 0] 37))
        have hd := below_alloc (Below.refl w'.heap.size w') (.cells #[.int .u8 0, .int .i64 0, .int .u64 0, .int .i64 0, .int .i64 0] 37)
        have HGz := Lib.hid HB.out.size
        replace HT := Lib.hid (HT.out.below hd)
        replace HB := Lib.hid (chain2 HB.out hd)
        have hSS := hHeld.below hd
        clear hd
        generalize w'.heap.size = bz at HZt HGz ⊢
        generalize w'.alloc (.cells #[.int .u8 0, .int .i64 0, .int .u64 0, .int .i64 0, .int .i64 0] 37) = w' at HZt HT HB hSS ⊢
        refine hK.out _ _ (hSS) (fun hHeld => ?_)
        clear hK K
        refine norm_ (a' := ?_) ?_ ?_
        rotate_left
        · show Act.put _ (some 14) _ = _
          simp (maxSteps := 4000000) only [Act.put, List.setIfInBounds_toArray, List.set_cons_zero, List.set_cons_succ, i64_w, i32_w]
          try rfl
        refine one_ (i := 10) (N := some 91) #[true, true, true, true, true, true, true, true, true, true, true, false, false, false, true, false, false] rfl rfl (one_of HT_.out (by kernel_rfl)) (by decide) (fun K hK => ?_)
        refine goes_ Try.func14 (by kernel_rfl) rfl #[(.pointer (some ⟨gp, 0, none⟩)), (.string tS), (.string tU)] (by rfl) rfl rfl (by (try simp only [List.map_toArray, List.map_cons, List.map_nil]); first | done | rfl) ?_
        refine (parse_ok gp tS tU (by have := HZ.out; omega) (by have := HZ.out; omega) _ HT.out).mono ?_
        rintro e w' ⟨rfl, ht, hd⟩
        refine ⟨_, rfl, ?_⟩
        have hSS := hHeld.below hd
        (try replace HZt := Lib.hid (blk_below HZt.out hd))
        replace HT := Lib.hid ht
        replace HB := Lib.hid (chain2 HB.out hd)
        clear ht hd
        refine hK.out _ _ (hSS) (fun hHeld => ?_)
        clear hK K
        refine norm_ (a' := ?_) ?_ ?_
        rotate_left
        · show Act.put _ (some 91) _ = _
          simp (maxSteps := 4000000) only [Act.put, List.setIfInBounds_toArray, List.set_cons_zero, List.set_cons_succ, i64_w, i32_w]
          try rfl
        refine pure_ (i := 11) (N := some 80) (v := ?_) (a' := ?_) #[true, true, true, true, true, true, true, true, true, true, true, true, false, false, true, false, false] rfl rfl (any_of HT_.out (by kernel_rfl)) (fun _ _ _ h => h) (Or.inl ⟨by rfl, ?_⟩) ?_ ?_
        rotate_left
        · intro w'
          go_simp
          try with_reducible rfl
        rotate_left
        · simp (maxSteps := 4000000) only [Act.put, List.setIfInBounds_toArray, List.set_cons_zero, List.set_cons_succ, i64_w, i32_w]
          try rfl
        refine pure_ (i := 12) (N := some 92) (v := ?_) (a' := ?_) #[true, true, true, true, true, true, true, true, true, true, true, true, true, false, true, false, false] rfl rfl (any_of HT_.out (by kernel_rfl)) (fun _ _ _ h => h) (Or.inl ⟨by rfl, ?_⟩) ?_ ?_
        rotate_left
        · intro w'
          go_simp
          try with_reducible rfl
        rotate_left
        · simp (maxSteps := 4000000) only [Act.put, List.setIfInBounds_toArray, List.set_cons_zero, List.set_cons_succ, i64_w, i32_w]
          try rfl
        refine pure_ (i := 13) (N := some 93) (v := ?_) (a' := ?_) #[true, true, true, true, true, true, true, true, true, true, true, true, true, true, true, false, false] rfl rfl (any_of HT_.out (by kernel_rfl)) (fun _ _ _ h => h) (Or.inl ⟨by rfl, ?_⟩) ?_ ?_
        rotate_left
        · intro w'
          go_simp
          try with_reducible rfl
        rotate_left
        · simp (maxSteps := 4000000) only [Act.put, List.setIfInBounds_toArray, List.set_cons_zero, List.set_cons_succ, i64_w, i32_w]
          try rfl
        refine last_ (i := 15) (N := none) #[true, true, true, true, true, true, true, true, true, true, true, true, true, true, true, true, false] rfl rfl (one_of HT_.out (by kernel_rfl)) (by decide) (fun K hK => ?_)
        refine skip_ (w1 := ((((w'.setCell ⟨bz, 0, none⟩ (.int .u8 ((parseT tS.data.toList tU.data.toList).1.kind : Int))).setCell ⟨bz, 1, none⟩ (.int .i64 (parseT tS.data.toList tU.data.toList).1.log)).setCell ⟨bz, 2, none⟩ (.int .u64 ((parseT tS.data.toList tU.data.toList).1.seq : Int))).setCell ⟨bz, 3, none⟩ (.int .i64 (parseT tS.data.toList tU.data.toList).1.pos)).setCell ⟨bz, 4, none⟩ (.int .i64 (parseT tS.data.toList tU.data.toList).1.len)) (by rfl) rfl ?_ ?_
        · (obtain ⟨y0, y1, y2, y3, y4⟩ := tg_cells HZt.out; have f0 := fun i => pl_frozenT HZt.out i; unfold tgV; go_simp)
        refine hK.out _ _ ?_
        clear hK K
        refine pure_ (i := 16) (N := some 15) (v := ?_) (a' := ?_) #[true, true, true, true, true, true, true, true, true, true, true, true, true, true, true, true, true] rfl rfl (any_of HT_.out (by kernel_rfl)) (fun _ _ _ h => h) (Or.inl ⟨by rfl, ?_⟩) ?_ ?_
        rotate_left
        · intro w'
          go_simp
          try with_reducible rfl
        rotate_left
        · simp (maxSteps := 4000000) only [Act.put, List.setIfInBounds_toArray, List.set_cons_zero, List.set_cons_succ, i64_w, i32_w]
          try rfl
        refine done_ (done_of HT_.out (by kernel_rfl)) ?_
        go_wp2_with fail
        go_meet
        case rel => exact ⟨_, HFq.out, rfl, ((((HB.out.setCell (p := ⟨bz, 0, none⟩) HGz.out _).setCell (p := ⟨bz, 1, none⟩) HGz.out _).setCell (p := ⟨bz, 2, none⟩) HGz.out _).setCell (p := ⟨bz, 3, none⟩) HGz.out _).setCell (p := ⟨bz, 4, none⟩) HGz.out _⟩
    case rest =>
      obtain ⟨c, hc, rfl, hb⟩ := hcut
      have HB := Lib.hid hb; clear hb
      rcases hc with rfl | rfl
      · go_wp2
        go_ret
        exact ⟨rfl, HB.out⟩
      · go_wp2
        go_ret
        exact ⟨rfl, HB.out⟩
theorem tagBack_law (a00 a01 a02 a03 a04 : Int) (a1 : ByteArray) (a20 a21 : Int) (W : World) (w00 : (Lit.int .u8 a00).wf = true) (w01 : (Lit.int .i64 a01).wf = true) (w02 : (Lit.int .u64 a02).wf = true) (w03 : (Lit.int .i64 a03).wf = true) (w04 : (Lit.int .i64 a04).wf = true) (w1 : a1.size ≤ 140737488351232) (w20 : (Lit.int .u16 a20).wf = true) (w21 : (Lit.int .u16 a21).wf = true) :
    Calls Try.prog 4 #[.agg #[.int .u8 a00, .int .i64 a01, .int .u64 a02, .int .i64 a03, .int .i64 a04], .string a1, .agg #[.int .u16 a20, .int .u16 a21]] W fun e w' => e = .returned (.bool true) ∧ Below W.heap.size W w' := by
  obtain ⟨k, rfl, hk⟩ := wf_u8 w00
  obtain ⟨s, rfl, hs⟩ := wf_u64 w02
  obtain ⟨m, rfl, hm⟩ := wf_u16 w20
  obtain ⟨n, rfl, hn⟩ := wf_u16 w21
  exact tagBack_walk ⟨k, a01, s, a03, a04⟩ ⟨hk, hs⟩ a1 w1 m n hm hn W
end Go.Proofs.Ytfomgljhcegjdaa
