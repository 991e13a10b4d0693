/- PolyTable: each place of the table is what eight bits do to the state 0: the walk. No conditions beyond the form's own reach. -/
import Derived.Test.YtbfmdfolboankaaXPolyWakes
import Derived.Test.YtbfmdfolboankaaXPolyRef
namespace Go.Proofs.Ytbfmdfolboankaa
open Go.RowKit Go.Proofs.YtbfmdfolboankaaW.PrintWords Go.Proofs.YtbfmdfolboankaaW.PrintLast Go.Proofs.YtbfmdfolboankaaW.PrintMore Go.Proofs.Ytbfmdfolboankaa.P Go.Proofs.Ytbfmdfolboankaa.PoS
set_option linter.unusedVariables false
set_option linter.unusedSimpArgs false
def rg4_5.T : Bool × List (List Nat × List Nat) := (true, [([], []), ([0], [0]), ([1], [1]), ([2], [2]), ([], []), ([4], [4]), ([5], [5]), ([6], [6]), ([7], [7]), ([3, 8], [3, 8])])
def rg4_5.B : List Nat := [0, 1, 3, 7, 0, 16, 48, 112, 240, 511]
theorem rg4_5.tab : rtab .any (opsOf Try.f4 5) = rg4_5.T := by kernel_rfl
theorem rg4_5.bits : waitsOk rg4_5.T.2 rg4_5.B = true := by kernel_rfl
def rg4_8.T : Bool × List (List Nat × List Nat) := (true, [([], []), ([0, 0], [0]), ([1], [1]), ([2, 1], [1, 2]), ([3, 1], [1, 3]), ([1], [1]), ([5, 1], [1, 5]), ([6, 1], [1, 6]), ([7, 1, 1], [1, 7]), ([4, 8, 1], [1, 4, 8]), ([1, 9], [1, 9]), ([10, 8, 0, 1, 2, 3, 4, 5, 6, 7, 8, 9, 10], [10])])
def rg4_8.B : List Nat := [0, 1, 3, 7, 15, 3, 35, 99, 227, 511, 1023, 2047]
theorem rg4_8.tab : rtab .any (opsOf Try.f4 8) = rg4_8.T := by kernel_rfl
theorem rg4_8.bits : waitsOk rg4_8.T.2 rg4_8.B = true := by kernel_rfl
theorem one_byte (w : World) (k : Nat) (hk : k < 256) : (convert 36 9 (.slice (some ⟨w.heap.size, 0, none⟩) 1 1)).run Try.prog (w.alloc (.cells #[.int .u8 (k : Int)] 5)) = .ok (.string ⟨#[UInt8.ofNat k]⟩) (w.alloc (.cells #[.int .u8 (k : Int)] 5)) := by
  have h := run_convert_bytes_arg (P := Try.prog) (w.alloc (.cells #[.int .u8 (k : Int)] 5)) 36 5 Try.underlying36 Try.underlying5 w.heap.size 0 1 1 [(k : Int)] rfl (fun i hi => by
    obtain rfl : i = 0 := by omega
    rw [World.cell?_alloc_at _ _ _ _ rfl]; rfl) 9 Try.underlying9
  rw [h]
  simp [strOfNums]
theorem more_one (k : Nat) (hk : k < 256) : more 0#32 [UInt8.ofNat k] = tabN k := by
  rw [more_cons, more_nil]
  unfold next
  have h1 : (0#32) <<< 8 = 0#32 := by decide
  have h2 : idx 0#32 (UInt8.ofNat k) = BitVec.ofNat 8 k := by
    unfold idx
    rw [show ((0#32) >>> 24).setWidth 8 = 0#8 from by decide, BitVec.zero_xor]
    apply BitVec.eq_of_toNat_eq
    rw [BitVec.toNat_ofNat]
    show (UInt8.ofNat k).toNat = _
    simp
  rw [h1, h2, BitVec.zero_xor]
  rfl

set_option maxHeartbeats 4000000 in
set_option maxRecDepth 100000 in
theorem polyTable_walk (b : Nat) (hb : b < 256) (w : World) :
    Calls Try.prog 4 #[.int .u8 (b : Int)] w fun e w' => e = .returned (.bool true) ∧ Below w.heap.size w w' := by
  have hz := make_zero
  go_enter Try.func4, Try.ntmps4
  go_wp2_with fail
  refine (poly_Make.calls _).mono ?_
  rintro e w1 ⟨rfl, hb1⟩
  have Hb1 := Lib.hid hb1; clear hb1
  go_wp2_with (refine wpList_store_row rfl 24 _ _ rfl w1.heap.size (tabCells 256) rfl rfl 24 (tabCells 0) (heap_alloc_new w1 _) make_info (by rw [tabCells_size, tabCells_size]) (tabCells_one _) ?_)
  clear hz
  obtain ⟨hT, hB, hS⟩ := made_facts Hb1.out _ rfl
  generalize (w1.alloc (.cells (tabCells 0) 24)).setRow w1.heap.size (tabCells 256) = w2 at hT hB ⊢
  have HT := Lib.hid hT; clear hT
  have HB := Lib.hid hB; clear hB
  clear hS
  have Hg := Lib.hid (HB.out.size)
  generalize hg : w1.heap.size = g at *
  clear hg
  go_loopw [4, 6] (fun _ i wr => ∃ k : Nat, k ≤ 256 ∧ i = .int .i64 (k : Int) ∧ TabAt wr g ∧ Below w.heap.size w wr) (fun _ i _ => 256 - (intOf i).toNat)
  case atStart => exact ⟨0, Nat.zero_le _, rfl, HT.out, HB.out⟩
  case round =>
    obtain ⟨k, hk, rfl, h1, h2⟩ := hrel
    have H1 := Lib.hid h1; clear h1
    have H2 := Lib.hid h2; clear h2
    by_cases hlt : k < 256
    · go_wp2_with fail
      have r1 := v32_range (tabN k)
      have ew : IntKind.u8.wrap (k : Int) = (k : Int) := by rw [IntKind.wrap_u8]; omega
      have ew2 : IntKind.u64.wrap (v32 (tabN k)) = v32 (tabN k) := xu_in _ (by omega) (by omega)
      have R1 := Lib.hid r1; clear r1
      have hS : wr.drew.cell? ⟨g, k, none⟩ = some (.int .u32 (v32 (tabN k))) := H1.out k hlt
      have Hb2 := Lib.hid (below_drew1 H2.out)
      have Ht2 := Lib.hid (show TabAt wr.drew g from H1.out)
      refine start_ (n := 10) (S := fun w' => w'.cell? ⟨g, k, none⟩ = some (.int .u32 (v32 (tabN k)))) (ds := []) #[false, false, false, false, false, false, false, false, false, false] (by kernel_rfl) rfl rfl hS (fun hHeld => ?_)
      refine with_tabW rg4_5.tab rg4_5.bits (fun HT_ HW_ => ?_)
      generalize wr.drew = wd at hS hHeld Hb2 Ht2 ⊢
      have hcv := one_byte wd k hlt
      refine pure_ (i := 0) (N := some 9) (v := ?_) (a' := ?_) #[true, false, false, false, false, false, false, false, false, false] rfl rfl (any_of HT_.out (by kernel_rfl)) (fun _ _ _ h => h) (Or.inl ⟨by rfl, ?_⟩) ?_ ?_
      rotate_left
      · intro w'
        go_simp
        try with_reducible rfl
      rotate_left
      · simp only [Act.put, List.setIfInBounds_toArray, List.set_cons_zero, List.set_cons_succ, i64_w, i32_w]
        try rfl
      refine pure_ (i := 1) (N := some 10) (v := ?_) (a' := ?_) #[true, true, false, false, false, false, false, false, false, false] rfl rfl (any_of HT_.out (by kernel_rfl)) (fun _ _ _ h => h) (Or.inl ⟨by rfl, ?_⟩) ?_ ?_
      rotate_left
      · intro w'
        go_simp
        try with_reducible rfl
      rotate_left
      · simp only [Act.put, List.setIfInBounds_toArray, List.set_cons_zero, List.set_cons_succ, i64_w, i32_w]
        try rfl
      refine pure_ (i := 4) (N := some 13) (v := ?_) (a' := ?_) #[true, true, false, false, true, false, false, false, false, false] rfl rfl (any_of HT_.out (by kernel_rfl)) (fun _ _ _ h => h) (Or.inl ⟨by rfl, ?_⟩) ?_ ?_
      rotate_left
      · intro w'
        go_simp
        try with_reducible rfl
      rotate_left
      · simp only [Act.put, List.setIfInBounds_toArray, List.set_cons_zero, List.set_cons_succ, i64_w, i32_w]
        try rfl
      refine pure_ (i := 5) (N := some 14) (v := ?_) (a' := ?_) #[true, true, false, false, true, true, false, false, false, false] rfl rfl (any_of HT_.out (by kernel_rfl)) (fun _ _ _ h => h) (Or.inl ⟨by rfl, ?_⟩) ?_ ?_
      rotate_left
      · intro w'
        go_simp
        try with_reducible rfl
      rotate_left
      · simp only [Act.put, List.setIfInBounds_toArray, List.set_cons_zero, List.set_cons_succ, i64_w, i32_w]
        try rfl
      refine take_ (i := 2) (N := some 11) (v := ?_) (a' := ?_) #[true, true, true, false, true, true, false, false, false, false] rfl rfl (take_ofW HT_.out HW_.out (by kernel_rfl)) (fun _ _ _ h => h) (Or.inl ⟨by rfl, ?_⟩) hHeld ?_ ?_
      rotate_left
      · intro w' hw_
        try dsimp only at hw_
        go_simp
        try with_reducible rfl
      rotate_left
      · simp only [Act.put, List.setIfInBounds_toArray, List.set_cons_zero, List.set_cons_succ, i64_w, i32_w]
        try rfl
      refine pure_ (i := 3) (N := some 12) (v := ?_) (a' := ?_) #[true, true, true, true, true, true, false, false, false, false] rfl rfl (any_of HT_.out (by kernel_rfl)) (fun _ _ _ h => h) (Or.inl ⟨by rfl, ?_⟩) ?_ ?_
      rotate_left
      · intro w'
        go_simp
        try with_reducible rfl
      rotate_left
      · simp only [Act.put, List.setIfInBounds_toArray, List.set_cons_zero, List.set_cons_succ, i64_w, i32_w]
        try rfl
      refine one_ (i := 6) (N := some 15) #[true, true, true, true, true, true, true, false, false, false] rfl rfl (one_of HT_.out (by kernel_rfl)) (by decide) (fun K hK => ?_)
      refine value_ (v := .slice (some ⟨wd.heap.size, 0, none⟩) 1 1) (w1 := wd.alloc (.cells #[.int .u8 (k : Int)] 5)) (by rfl) rfl ?_ ?_
      · (go_simp)
      refine hK.out _ _ (pw_cell_below (below_alloc (Below.refl _ _) _) hS) (fun hHeld => ?_)
      clear hK K
      refine norm_ (a' := ?_) ?_ ?_
      rotate_left
      · show Act.put _ (some 15) _ = _
        simp only [Act.put, List.setIfInBounds_toArray, List.set_cons_zero, List.set_cons_succ, i64_w, i32_w]
        try rfl
      refine one_ (i := 7) (N := some 16) #[true, true, true, true, true, true, true, true, false, false] rfl rfl (one_of HT_.out (by kernel_rfl)) (by decide) (fun K hK => ?_)
      refine value_ (v := .string ⟨#[UInt8.ofNat k]⟩) (w1 := wd.alloc (.cells #[.int .u8 (k : Int)] 5)) (by rfl) rfl ?_ ?_
      · (go_simp)
      refine hK.out _ _ (pw_cell_below (below_alloc (Below.refl _ _) _) hS) (fun hHeld => ?_)
      clear hK K
      refine norm_ (a' := ?_) ?_ ?_
      rotate_left
      · show Act.put _ (some 16) _ = _
        simp only [Act.put, List.setIfInBounds_toArray, List.set_cons_zero, List.set_cons_succ, i64_w, i32_w]
        try rfl
      refine one_ (i := 8) (N := some 17) #[true, true, true, true, true, true, true, true, true, false] rfl rfl (one_of HT_.out (by kernel_rfl)) (by decide) (fun K hK => ?_)
      refine goes_ Try.func13 (by kernel_rfl) rfl #[.int .u64 0, .string ⟨#[UInt8.ofNat k]⟩] (by rfl) rfl rfl (by (try simp only [List.map_toArray, List.map_cons, List.map_nil]); first | done | rfl) ?_
      refine (tillrollref02_More.calls 100 0 _ _ _ (ref_more_f ⟨#[UInt8.ofNat k]⟩ (show 1 ≤ _ by omega) 0#32 100 (show 1 * 10 + 60 < 100 by omega))).mono ?_
      rintro e w' ⟨rfl, hd⟩
      refine ⟨_, rfl, ?_⟩
      have Hd := Lib.hid hd
      clear hd
      rw [show (⟨#[UInt8.ofNat k]⟩ : ByteArray).data.toList = [UInt8.ofNat k] from rfl, more_one k hlt]
      refine hK.out _ _ ((by obtain ⟨n, rfl⟩ := Hd.out.out; exact hHeld)) (fun hHeld => ?_)
      clear hK K
      refine norm_ (a' := ?_) ?_ ?_
      rotate_left
      · show Act.put _ (some 17) _ = _
        simp only [Act.put, List.setIfInBounds_toArray, List.set_cons_zero, List.set_cons_succ, i64_w, i32_w]
        try rfl
      refine pure_ (i := 9) (N := some 18) (v := ?_) (a' := ?_) #[true, true, true, true, true, true, true, true, true, true] rfl rfl (any_of HT_.out (by kernel_rfl)) (fun _ _ _ h => h) (Or.inl ⟨by rfl, ?_⟩) ?_ ?_
      rotate_left
      · intro w'
        go_simp
        try with_reducible rfl
      rotate_left
      · simp only [Act.put, List.setIfInBounds_toArray, List.set_cons_zero, List.set_cons_succ, i64_w, i32_w]
        try rfl
      refine done_ (done_of HT_.out (by kernel_rfl)) ?_
      have Hb3 := Lib.hid (chainD (Hb2.out.alloc Hb2.out.size _) Hd.out)
      have Ht3 := Lib.hid ((Ht2.out.below (below_alloc (Below.refl _ _) _)).drawn Hd.out)
      go_wp2
      go_roundw
      case rel => exact ⟨k + 1, by omega, by go_num, Ht3.out, Hb3.out⟩
      case measure => simp [intOf]; omega
    · go_wp2_with fail
      have hS : wr.drew.cell? ⟨g, b, none⟩ = some (.int .u32 (v32 (tabN b))) := H1.out b hb
      have ew : IntKind.u8.wrap (b : Int) = (b : Int) := by rw [IntKind.wrap_u8]; omega
      have q0 : (0 : Int) ≤ (b : Int) := by omega
      have q1 : (b : Int) < 256 := by omega
      have Hb2 := Lib.hid (below_drew1 H2.out)
      have Ht2 := Lib.hid (show TabAt wr.drew g from H1.out)
      refine start_ (n := 12) (S := fun w' => w'.cell? ⟨g, b, none⟩ = some (.int .u32 (v32 (tabN b)))) (ds := []) #[false, false, false, false, false, false, false, false, false, false, false, false] (by kernel_rfl) rfl rfl hS (fun hHeld => ?_)
      refine with_tabW rg4_8.tab rg4_8.bits (fun HT_ HW_ => ?_)
      generalize wr.drew = wd at hS hHeld Hb2 Ht2 ⊢
      refine one_ (i := 0) (N := some 20) #[true, false, false, false, false, false, false, false, false, false, false, false] rfl rfl (one_of HT_.out (by kernel_rfl)) (by decide) (fun K hK => ?_)
      refine goes_ Try.func9 (by kernel_rfl) rfl #[] (by rfl) rfl rfl (by (try simp only [List.map_toArray, List.map_cons, List.map_nil]); first | done | rfl) ?_
      refine (wakes_ok wd).mono ?_
      rintro e w' ⟨rfl, hbw⟩
      refine ⟨_, rfl, ?_⟩
      have Hbw := Lib.hid hbw
      clear hbw
      generalize hw4 : w' = w4 at *
      have hcv := one_byte w4 b hb
      refine hK.out _ _ (pw_cell_below Hbw.out hS) (fun hHeld => ?_)
      clear hK K
      refine norm_ (a' := ?_) ?_ ?_
      rotate_left
      · show Act.put _ (some 20) _ = _
        simp only [Act.put, List.setIfInBounds_toArray, List.set_cons_zero, List.set_cons_succ, i64_w, i32_w]
        try rfl
      refine pure_ (i := 1) (N := some 21) (v := ?_) (a' := ?_) #[true, true, false, false, false, false, false, false, false, false, false, false] rfl rfl (any_of HT_.out (by kernel_rfl)) (fun _ _ _ h => h) (Or.inl ⟨by rfl, ?_⟩) ?_ ?_
      rotate_left
      · intro w'
        go_simp
        try with_reducible rfl
      rotate_left
      · simp only [Act.put, List.setIfInBounds_toArray, List.set_cons_zero, List.set_cons_succ, i64_w, i32_w]
        try rfl
      refine pure_ (i := 2) (N := some 22) (v := ?_) (a' := ?_) #[true, true, true, false, false, false, false, false, false, false, false, false] rfl rfl (any_of HT_.out (by kernel_rfl)) (fun _ _ _ h => h) (Or.inl ⟨by rfl, ?_⟩) ?_ ?_
      rotate_left
      · intro w'
        go_simp
        try with_reducible rfl
      rotate_left
      · simp only [Act.put, List.setIfInBounds_toArray, List.set_cons_zero, List.set_cons_succ, i64_w, i32_w]
        try rfl
      refine pure_ (i := 3) (N := some 23) (v := ?_) (a' := ?_) #[true, true, true, true, false, false, false, false, false, false, false, false] rfl rfl (any_of HT_.out (by kernel_rfl)) (fun _ _ _ h => h) (Or.inl ⟨by rfl, ?_⟩) ?_ ?_
      rotate_left
      · intro w'
        go_simp
        try with_reducible rfl
      rotate_left
      · simp only [Act.put, List.setIfInBounds_toArray, List.set_cons_zero, List.set_cons_succ, i64_w, i32_w]
        try rfl
      refine pure_ (i := 5) (N := some 25) (v := ?_) (a' := ?_) #[true, true, true, true, false, true, false, false, false, false, false, false] rfl rfl (any_of HT_.out (by kernel_rfl)) (fun _ _ _ h => h) (Or.inl ⟨by rfl, ?_⟩) ?_ ?_
      rotate_left
      · intro w'
        go_simp
        try with_reducible rfl
      rotate_left
      · simp only [Act.put, List.setIfInBounds_toArray, List.set_cons_zero, List.set_cons_succ, i64_w, i32_w]
        try rfl
      refine take_ (i := 4) (N := some 24) (v := ?_) (a' := ?_) #[true, true, true, true, true, true, false, false, false, false, false, false] rfl rfl (take_ofW HT_.out HW_.out (by kernel_rfl)) (fun _ _ _ h => h) (Or.inl ⟨by rfl, ?_⟩) hHeld ?_ ?_
      rotate_left
      · intro w' hw_
        try dsimp only at hw_
        go_simp
        try with_reducible rfl
      rotate_left
      · simp only [Act.put, List.setIfInBounds_toArray, List.set_cons_zero, List.set_cons_succ, i64_w, i32_w]
        try rfl
      refine one_ (i := 6) (N := some 26) #[true, true, true, true, true, true, true, false, false, false, false, false] rfl rfl (one_of HT_.out (by kernel_rfl)) (by decide) (fun K hK => ?_)
      refine value_ (v := .slice (some ⟨w4.heap.size, 0, none⟩) 1 1) (w1 := w4.alloc (.cells #[.int .u8 (b : Int)] 5)) (by rfl) rfl ?_ ?_
      · (go_simp)
      refine hK.out _ _ (pw_cell_below (below_alloc (Below.refl _ _) _) hHeld) (fun hHeld => ?_)
      clear hK K
      refine norm_ (a' := ?_) ?_ ?_
      rotate_left
      · show Act.put _ (some 26) _ = _
        simp only [Act.put, List.setIfInBounds_toArray, List.set_cons_zero, List.set_cons_succ, i64_w, i32_w]
        try rfl
      refine one_ (i := 7) (N := some 27) #[true, true, true, true, true, true, true, true, false, false, false, false] rfl rfl (one_of HT_.out (by kernel_rfl)) (by decide) (fun K hK => ?_)
      refine value_ (v := .string ⟨#[UInt8.ofNat b]⟩) (w1 := w4.alloc (.cells #[.int .u8 (b : Int)] 5)) (by rfl) rfl ?_ ?_
      · (go_simp)
      refine hK.out _ _ (hHeld) (fun hHeld => ?_)
      clear hK K
      refine norm_ (a' := ?_) ?_ ?_
      rotate_left
      · show Act.put _ (some 27) _ = _
        simp only [Act.put, List.setIfInBounds_toArray, List.set_cons_zero, List.set_cons_succ, i64_w, i32_w]
        try rfl
      refine one_ (i := 8) (N := some 28) #[true, true, true, true, true, true, true, true, true, false, false, false] rfl rfl (one_of HT_.out (by kernel_rfl)) (by decide) (fun K hK => ?_)
      refine goes_ Try.func12 (by kernel_rfl) rfl #[.pointer (some ⟨g, 0, none⟩), .int .u32 0, .string ⟨#[UInt8.ofNat b]⟩] (by rfl) rfl rfl (by (try simp only [List.map_toArray, List.map_cons, List.map_nil]); first | done | rfl) ?_
      refine (poly_More.calls g 0#32 ⟨#[UInt8.ofNat b]⟩ (show 1 ≤ _ by omega) _ ((Ht2.out.below Hbw.out).below (below_alloc (Below.refl _ _) _))).mono ?_
      rintro e w' ⟨rfl, hd⟩
      refine ⟨_, rfl, ?_⟩
      have Hd := Lib.hid hd
      clear hd
      rw [show (⟨#[UInt8.ofNat b]⟩ : ByteArray).data.toList = [UInt8.ofNat b] from rfl, more_one b hb]
      refine hK.out _ _ ((by obtain ⟨n, rfl⟩ := Hd.out.out; exact hHeld)) (fun hHeld => ?_)
      clear hK K
      refine norm_ (a' := ?_) ?_ ?_
      rotate_left
      · show Act.put _ (some 28) _ = _
        simp only [Act.put, List.setIfInBounds_toArray, List.set_cons_zero, List.set_cons_succ, i64_w, i32_w]
        try rfl
      refine pure_ (i := 9) (N := some 29) (v := ?_) (a' := ?_) #[true, true, true, true, true, true, true, true, true, true, false, false] rfl rfl (any_of HT_.out (by kernel_rfl)) (fun _ _ _ h => h) (Or.inl ⟨by rfl, ?_⟩) ?_ ?_
      rotate_left
      · intro w'
        go_simp
        try with_reducible rfl
      rotate_left
      · simp only [Act.put, List.setIfInBounds_toArray, List.set_cons_zero, List.set_cons_succ, i64_w, i32_w]
        try rfl
      refine pure_ (i := 10) (N := some 30) (v := ?_) (a' := ?_) #[true, true, true, true, true, true, true, true, true, true, true, false] rfl rfl (any_of HT_.out (by kernel_rfl)) (fun _ _ _ h => h) (Or.inl ⟨by rfl, ?_⟩) ?_ ?_
      rotate_left
      · intro w'
        go_simp
        try with_reducible rfl
      rotate_left
      · simp only [Act.put, List.setIfInBounds_toArray, List.set_cons_zero, List.set_cons_succ, i64_w, i32_w]
        try rfl
      refine pure_ (i := 11) (N := some 2) (v := ?_) (a' := ?_) #[true, true, true, true, true, true, true, true, true, true, true, true] rfl rfl (any_of HT_.out (by kernel_rfl)) (fun _ _ _ h => h) (Or.inl ⟨by rfl, ?_⟩) ?_ ?_
      rotate_left
      · intro w'
        go_simp
        try with_reducible rfl
      rotate_left
      · simp only [Act.put, List.setIfInBounds_toArray, List.set_cons_zero, List.set_cons_succ, i64_w, i32_w]
        try rfl
      refine done_ (done_of HT_.out (by kernel_rfl)) ?_
      have Hb3 := Lib.hid (chainD ((chain2 Hb2.out Hbw.out).alloc (chain2 Hb2.out Hbw.out).size _) Hd.out)
      go_wp2
      go_ret
      exact ⟨by simp, Hb3.out⟩

theorem polyTable_law (a0 : Int) (W : World) (w0 : (Lit.int .u8 a0).wf = true) :
    Calls Try.prog 4 #[.int .u8 a0] W fun e w' => e = .returned (.bool true) ∧ Below W.heap.size W w' := by
  have b0 : 0 ≤ a0 ∧ a0 < 256 := by simp [Lit.wf, IntKind.min, IntKind.max, IntKind.signed, IntKind.bits] at w0; omega
  obtain ⟨n, rfl⟩ := Int.eq_ofNat_of_zero_le b0.1
  exact polyTable_walk n (by omega) W
end Go.Proofs.Ytbfmdfolboankaa
