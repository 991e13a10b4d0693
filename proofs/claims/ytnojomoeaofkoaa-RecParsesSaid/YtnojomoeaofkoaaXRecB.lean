/- rec: a record's bytes. No conditions beyond the form's own reach. -/
import Derived.Test.YtnojomoeaofkoaaXRec
import Derived.Laws.BytesArg
namespace Go.Proofs.Ytnojomoeaofkoaa
open Go.RowKit Go.Lib Go.Proofs.Ytnojomoeaofkoaa.P Go.Proofs.Ytnojomoeaofkoaa.BeS Go.Proofs.Ytnojomoeaofkoaa.PoS Go.Proofs.YtnojomoeaofkoaaW.PrintWords Go.Proofs.YtnojomoeaofkoaaW.PrintLast Go.Proofs.YtnojomoeaofkoaaW.PrintMore
set_option linter.unusedVariables false
set_option linter.unusedSimpArgs false
def rg18_1.T : Bool × List (List Nat × List Nat) := (true, [([], []), ([0], [0]), ([1], [1]), ([2], [2]), ([3], [3]), ([], []), ([5], [5]), ([6], [6]), ([7], [7]), ([4, 8], [4, 8]), ([], []), ([10], [10]), ([9, 11], [9, 11]), ([12, 4, 0, 1, 2, 3, 4, 5, 6, 7, 8, 9, 10, 11, 12], [12])])
def rg18_1.B : List Nat := [0, 1, 3, 7, 15, 0, 32, 96, 224, 511, 0, 1024, 4095, 8191]
theorem rg18_1.tab : rtab .any (opsOf Try.f18 1) = rg18_1.T := by kernel_rfl
theorem rg18_1.bits : waitsOk rg18_1.T.2 rg18_1.B = true := by kernel_rfl
def headR (k : Nat) (b : ByteArray) : ByteArray := str (putL b.size 2) ++ str [UInt8.ofNat k] ++ b
def sumR (k : Nat) (b : ByteArray) : Nat := (sum (headR k b).data.toList).toNat
def recB (k : Nat) (b : ByteArray) : ByteArray := headR k b ++ str (putL (sumR k b) 4)
theorem headR_size (k : Nat) (b : ByteArray) : (headR k b).size = 3 + b.size := by
  unfold headR
  rw [ByteArray.size_append, ByteArray.size_append, str_size, str_size, putL_length]
  simp only [List.length_cons, List.length_nil]
theorem recB_size (k : Nat) (b : ByteArray) : (recB k b).size = 7 + b.size := by
  unfold recB
  rw [ByteArray.size_append, headR_size, str_size, putL_length]
  omega
theorem one_conv (w : World) (c h : Nat) (hc : c < 256) (hw : w.cell? ⟨h, 0, none⟩ = some (.int .u8 (c : Int))) :
    (convert 44 9 (.slice (some ⟨h, 0, none⟩) 1 1)).run Try.prog w = .ok (.string (str [UInt8.ofNat c])) w := by
  have e : str [UInt8.ofNat c] = strOfNums [(c : Int)] := by rw [strOfNums_cons]; rfl
  rw [e]
  refine run_convert_bytes_arg _ 44 5 Try.underlying44 Try.underlying5 h 0 1 1 [(c : Int)] rfl (fun i hi => ?_) 9 Try.underlying9
  obtain rfl : i = 0 := by omega
  exact hw

set_option maxHeartbeats 8000000 in
set_option maxRecDepth 100000 in
theorem rec_bytes (k : Nat) (hk : k < 256) (b : ByteArray) (hb : b.size ≤ 4000) (g : Nat) (w : World) (ht : TabAt w g) :
    Calls Try.prog 18 #[.agg #[.int .u8 (k : Int), .string b], .pointer (some ⟨g, 0, none⟩)] w fun e w' => e = .returned (.string (recB k b)) ∧ Below w.heap.size w w' := by
  obtain ⟨p2, hp2⟩ : ∃ p2, str (putL b.size 2) = p2 := ⟨_, rfl⟩
  obtain ⟨q1, hq1⟩ : ∃ q1, str [UInt8.ofNat k] = q1 := ⟨_, rfl⟩
  have z2 : p2.size = 2 := by rw [← hp2, str_size, putL_length]
  have z1 : q1.size = 1 := by rw [← hq1, str_size]; rfl
  have HP2 := Lib.hid (show be_Put.f (b.size : Int) ((2 : Nat) : Int) = some p2 by rw [← hp2]; exact put_in b.size (by omega) 2 (by decide) (by decide))
  have HQ1 := Lib.hid (show ∀ (w : World) (h : Nat), w.cell? ⟨h, 0, none⟩ = some (.int .u8 (k : Int)) → (convert 44 9 (.slice (some ⟨h, 0, none⟩) 1 1)).run Try.prog w = .ok (.string q1) w from fun w h hw => by rw [← hq1]; exact one_conv w k h hk hw)
  have hw1 : IntKind.u64.wrap (b.size : Int) = (b.size : Int) := wrap_u64_in _ (by omega) (by omega)
  have l1 : ¬ 9223372036854775807 < p2.size + q1.size := by omega
  have l2 : ¬ 9223372036854775807 < (p2 ++ q1).size + b.size := by rw [ByteArray.size_append]; omega
  have l3 : ¬ 9223372036854775807 < p2.size + q1.size + b.size := by omega
  have HT := Lib.hid ht; clear ht
  have HZ := Lib.hid (And.intro z1 z2); clear z1 z2
  have ha := (Below.refl w.heap.size w).alloc (Nat.le_refl _) (Obj.cells #[Value.int IntKind.u8 (k : Int), Value.string b] 38)
  have hS : (w.alloc (Obj.cells #[Value.int IntKind.u8 (k : Int), Value.string b] 38)).cell? ⟨w.heap.size, 0, none⟩ = some (.int .u8 (k : Int)) ∧ (w.alloc (Obj.cells #[Value.int IntKind.u8 (k : Int), Value.string b] 38)).cell? ⟨w.heap.size, 1, none⟩ = some (.string b) := by
    constructor <;> simp
  replace HT := Lib.hid (HT.out.below ha)
  have HB := Lib.hid (below_then (Below.refl w.heap.size w) (Nat.le_refl _) ha); clear ha
  go_enter Try.func18, Try.ntmps18
  go_wp2_with fail
  generalize (w.alloc (Obj.cells #[Value.int IntKind.u8 (k : Int), Value.string b] 38)) = w1 at HT hS HB ⊢
  obtain ⟨bx, hbx⟩ : ∃ bx, w.heap.size = bx := ⟨_, rfl⟩
  rw [hbx] at hS ⊢
  have HBX := Lib.hid hbx; clear hbx
  replace HT := Lib.hid (show TabAt w1.drew g from HT.out)
  replace HB := Lib.hid (show Below w.heap.size w w1.drew from below_drew1 HB.out)
  refine start_ (n := 14) (S := fun w' => w'.cell? ⟨bx, 0, none⟩ = some (.int .u8 (k : Int)) ∧ w'.cell? ⟨bx, 1, none⟩ = some (.string b)) (ds := []) #[false, false, false, false, false, false, false, false, false, false, false, false, false, false] (by kernel_rfl) rfl rfl hS (fun hHeld => ?_)
  refine with_tabW rg18_1.tab rg18_1.bits (fun HT_ HW_ => ?_)
  generalize w1.drew = w' at HT HB hHeld ⊢
  refine pure_ (i := 0) (N := some 6) (v := ?_) (a' := ?_) #[true, false, false, false, false, false, false, false, false, false, false, false, false, false] rfl rfl (any_of HT_.out (by kernel_rfl)) (fun _ _ _ h => h) (Or.inl ⟨by rfl, ?_⟩) ?_ ?_
  rotate_left
  · intro w'
    go_simp
    try with_reducible rfl
  rotate_left
  · simp (maxSteps := 4000000) only [Act.put, List.setIfInBounds_toArray, List.set_cons_zero, List.set_cons_succ, i64_w, i32_w]
    try rfl
  refine pure_ (i := 5) (N := some 11) (v := ?_) (a' := ?_) #[true, false, false, false, false, true, false, false, false, false, false, false, false, false] rfl rfl (any_of HT_.out (by kernel_rfl)) (fun _ _ _ h => h) (Or.inl ⟨by rfl, ?_⟩) ?_ ?_
  rotate_left
  · intro w'
    go_simp
    try with_reducible rfl
  rotate_left
  · simp (maxSteps := 4000000) only [Act.put, List.setIfInBounds_toArray, List.set_cons_zero, List.set_cons_succ, i64_w, i32_w]
    try rfl
  refine pure_ (i := 10) (N := some 16) (v := ?_) (a' := ?_) #[true, false, false, false, false, true, false, false, false, false, true, false, false, false] rfl rfl (any_of HT_.out (by kernel_rfl)) (fun _ _ _ h => h) (Or.inl ⟨by rfl, ?_⟩) ?_ ?_
  rotate_left
  · intro w'
    go_simp
    try with_reducible rfl
  rotate_left
  · simp (maxSteps := 4000000) only [Act.put, List.setIfInBounds_toArray, List.set_cons_zero, List.set_cons_succ, i64_w, i32_w]
    try rfl
  refine take_ (i := 1) (N := some 7) (v := ?_) (a' := ?_) #[true, true, false, false, false, true, false, false, false, false, true, false, false, false] rfl rfl (take_ofW HT_.out HW_.out (by kernel_rfl)) (fun _ _ _ h => h) (Or.inl ⟨by rfl, ?_⟩) hHeld ?_ ?_
  rotate_left
  · intro w' hw_
    try dsimp only at hw_
    go_simp
    try with_reducible rfl
  rotate_left
  · simp (maxSteps := 4000000) only [Act.put, List.setIfInBounds_toArray, List.set_cons_zero, List.set_cons_succ, i64_w, i32_w]
    try rfl
  refine pure_ (i := 2) (N := some 8) (v := ?_) (a' := ?_) #[true, true, true, false, false, true, false, false, false, false, true, false, false, false] rfl rfl (any_of HT_.out (by kernel_rfl)) (fun _ _ _ h => h) (Or.inl ⟨by rfl, ?_⟩) ?_ ?_
  rotate_left
  · intro w'
    go_simp
    try with_reducible rfl
  rotate_left
  · simp (maxSteps := 4000000) only [Act.put, List.setIfInBounds_toArray, List.set_cons_zero, List.set_cons_succ, i64_w, i32_w]
    try rfl
  refine pure_ (i := 3) (N := some 9) (v := ?_) (a' := ?_) #[true, true, true, true, false, true, false, false, false, false, true, false, false, false] rfl rfl (any_of HT_.out (by kernel_rfl)) (fun _ _ _ h => h) (Or.inl ⟨by rfl, ?_⟩) ?_ ?_
  rotate_left
  · intro w'
    go_simp
    try with_reducible rfl
  rotate_left
  · simp (maxSteps := 4000000) only [Act.put, List.setIfInBounds_toArray, List.set_cons_zero, List.set_cons_succ, i64_w, i32_w]
    try rfl
  refine take_ (i := 6) (N := some 12) (v := ?_) (a' := ?_) #[true, true, true, true, false, true, true, false, false, false, true, false, false, false] rfl rfl (take_ofW HT_.out HW_.out (by kernel_rfl)) (fun _ _ _ h => h) (Or.inl ⟨by rfl, ?_⟩) hHeld ?_ ?_
  rotate_left
  · intro w' hw_
    try dsimp only at hw_
    go_simp
    try with_reducible rfl
  rotate_left
  · simp (maxSteps := 4000000) only [Act.put, List.setIfInBounds_toArray, List.set_cons_zero, List.set_cons_succ, i64_w, i32_w]
    try rfl
  refine take_ (i := 11) (N := some 17) (v := ?_) (a' := ?_) #[true, true, true, true, false, true, true, false, false, false, true, true, false, false] rfl rfl (take_ofW HT_.out HW_.out (by kernel_rfl)) (fun _ _ _ h => h) (Or.inl ⟨by rfl, ?_⟩) hHeld ?_ ?_
  rotate_left
  · intro w' hw_
    try dsimp only at hw_
    go_simp
    try with_reducible rfl
  rotate_left
  · simp (maxSteps := 4000000) only [Act.put, List.setIfInBounds_toArray, List.set_cons_zero, List.set_cons_succ, i64_w, i32_w]
    try rfl
  refine two_ (i := 4) (j := 7) (Ni := some 10) (Nj := some 13) #[true, true, true, true, true, true, true, false, false, false, true, true, false, false] #[true, true, true, true, false, true, true, true, false, false, true, true, false, false] rfl rfl rfl rfl  (two_of HT_.out (by kernel_rfl)) (by decide) (by decide)  (fun K hK => ?_) (fun K hK => ?_) 
  · refine goes_ Try.func24 (by kernel_rfl) rfl #[(.int .u64 (b.size : Int)), (.int .i64 2)] (by rfl) rfl rfl (by (try simp only [List.map_toArray, List.map_cons, List.map_nil]); first | done | rfl) ?_
    refine (be_Put.calls _ _ _ w' HP2.out).mono ?_
    rintro e w' ⟨rfl, hd⟩
    refine ⟨_, rfl, ?_⟩
    have hSS := And.intro (pw_cell_below hd hHeld.1) (pw_cell_below hd hHeld.2)
    replace HT := Lib.hid (HT.out.below hd)
    (try replace HO := Lib.hid (pw_cell_below hd HO.out))
    replace HB := Lib.hid (chain2 HB.out hd)
    clear hd
    refine hK.out _ _ (hSS) (fun hHeld => ?_)
    clear hK K
    refine norm_ (a' := ?_) ?_ ?_
    rotate_left
    · show Act.put _ (some 10) _ = _
      simp (maxSteps := 4000000) only [Act.put, List.setIfInBounds_toArray, List.set_cons_zero, List.set_cons_succ, i64_w, i32_w]
      try rfl
    refine one_ (i := 7) (N := some 13) #[true, true, true, true, true, true, true, true, false, false, true, true, false, false] rfl rfl (one_of HT_.out (by kernel_rfl)) (by decide) (fun K hK => ?_)
    refine value_ (v := .slice (some ⟨w'.heap.size, 0, none⟩) 1 1) (w1 := w'.alloc (.cells #[.int .u8 (k : Int)] 5)) (by rfl) rfl ?_ ?_
    · (go_simp)
    have HO := Lib.hid (show (w'.alloc (.cells #[.int .u8 (k : Int)] 5)).cell? ⟨w'.heap.size, 0, none⟩ = some (.int .u8 (k : Int)) by simp)
    have hd := below_alloc (Below.refl w'.heap.size w') (.cells #[.int .u8 (k : Int)] 5)
    have hSS := And.intro (pw_cell_below hd hHeld.1) (pw_cell_below hd hHeld.2)
    replace HT := Lib.hid (HT.out.below hd)
    replace HB := Lib.hid (chain2 HB.out hd)
    clear hd
    generalize w'.heap.size = bo at HO ⊢
    generalize w'.alloc (.cells #[.int .u8 (k : Int)] 5) = w' at HO HT HB hSS ⊢
    refine hK.out _ _ (hSS) (fun hHeld => ?_)
    clear hK K
    refine norm_ (a' := ?_) ?_ ?_
    rotate_left
    · show Act.put _ (some 13) _ = _
      simp (maxSteps := 4000000) only [Act.put, List.setIfInBounds_toArray, List.set_cons_zero, List.set_cons_succ, i64_w, i32_w]
      try rfl
    refine one_ (i := 8) (N := some 14) #[true, true, true, true, true, true, true, true, true, false, true, true, false, false] rfl rfl (one_of HT_.out (by kernel_rfl)) (by decide) (fun K hK => ?_)
    refine value_ (v := .string q1) (w1 := w') (by rfl) rfl ?_ ?_
    · (have hcv := HQ1.out w' bo HO.out; go_simp)
    refine hK.out _ _ (hHeld) (fun hHeld => ?_)
    clear hK K
    refine norm_ (a' := ?_) ?_ ?_
    rotate_left
    · show Act.put _ (some 14) _ = _
      simp (maxSteps := 4000000) only [Act.put, List.setIfInBounds_toArray, List.set_cons_zero, List.set_cons_succ, i64_w, i32_w]
      try rfl
    refine pure_ (i := 9) (N := some 15) (v := ?_) (a' := ?_) #[true, true, true, true, true, true, true, true, true, true, true, true, false, false] rfl rfl (any_of HT_.out (by kernel_rfl)) (fun _ _ _ h => h) (Or.inl ⟨by rfl, ?_⟩) ?_ ?_
    rotate_left
    · intro w'
      go_simp
      try with_reducible rfl
    rotate_left
    · simp (maxSteps := 4000000) only [Act.put, List.setIfInBounds_toArray, List.set_cons_zero, List.set_cons_succ, i64_w, i32_w]
      try rfl
    refine pure_ (i := 12) (N := some 18) (v := ?_) (a' := ?_) #[true, true, true, true, true, true, true, true, true, true, true, true, true, false] rfl rfl (any_of HT_.out (by kernel_rfl)) (fun _ _ _ h => h) (Or.inl ⟨by rfl, ?_⟩) ?_ ?_
    rotate_left
    · intro w'
      go_simp
      try with_reducible rfl
    rotate_left
    · simp (maxSteps := 4000000) only [Act.put, List.setIfInBounds_toArray, List.set_cons_zero, List.set_cons_succ, i64_w, i32_w]
      try rfl
    refine pure_ (i := 13) (N := some 5) (v := ?_) (a' := ?_) #[true, true, true, true, true, true, true, true, true, true, true, true, true, true] rfl rfl (any_of HT_.out (by kernel_rfl)) (fun _ _ _ h => h) (Or.inl ⟨by rfl, ?_⟩) ?_ ?_
    rotate_left
    · intro w'
      go_simp
      try with_reducible rfl
    rotate_left
    · simp (maxSteps := 4000000) only [Act.put, List.setIfInBounds_toArray, List.set_cons_zero, List.set_cons_succ, i64_w, i32_w]
      try rfl
    refine done_ (done_of HT_.out (by kernel_rfl)) ?_
    clear hw1 l1 l2 l3 hS
    go_wp2_with fail
    obtain ⟨hd, hhd⟩ : ∃ hd, p2 ++ q1 ++ b = hd := ⟨_, rfl⟩
    have HHd := Lib.hid (show headR k b = hd by unfold headR; rw [hp2, hq1]; exact hhd)
    have hz : hd.size = 3 + b.size := by rw [← HHd.out]; exact headR_size k b
    rw [hhd]
    clear hhd hp2 hq1
    refine (poly_Sum.calls g hd (by omega) w' HT.out).mono ?_
    rintro e w2 ⟨rfl, hdr⟩
    replace HB := Lib.hid (chainD HB.out hdr); clear hdr
    have HSm := Lib.hid (show sumR k b = (sum hd.data.toList).toNat by unfold sumR; rw [HHd.out])
    have hlt : (sum hd.data.toList).toNat < 4294967296 := (sum hd.data.toList).isLt
    unfold v32
    generalize (sum hd.data.toList).toNat = sm at HSm hlt ⊢
    obtain ⟨p4, hp4⟩ : ∃ p4, str (putL sm 4) = p4 := ⟨_, rfl⟩
    have z4 : p4.size = 4 := by rw [← hp4, str_size, putL_length]
    have HP4 := Lib.hid (show be_Put.f (sm : Int) ((4 : Nat) : Int) = some p4 by rw [← hp4]; exact put_in sm (by omega) 4 (by decide) (by decide))
    have hw2 : IntKind.u64.wrap (sm : Int) = (sm : Int) := wrap_u64_in _ (by omega) (by omega)
    have l4 : ¬ 9223372036854775807 < hd.size + p4.size := by omega
    have HR := Lib.hid (show recB k b = hd ++ p4 by unfold recB; rw [HHd.out, HSm.out, hp4])
    clear hz hlt hp4 z4
    go_wp2_with fail
    refine (be_Put.calls _ _ _ _ HP4.out).mono ?_
    rintro e w3 ⟨rfl, hdb⟩
    replace HB := Lib.hid (chain2 HB.out hdb); clear hdb
    go_wp2
    go_ret
    exact ⟨by rw [HR.out]; rfl, HB.out⟩
  · refine value_ (v := .slice (some ⟨w'.heap.size, 0, none⟩) 1 1) (w1 := w'.alloc (.cells #[.int .u8 (k : Int)] 5)) (by rfl) rfl ?_ ?_
    · (go_simp)
    have HO := Lib.hid (show (w'.alloc (.cells #[.int .u8 (k : Int)] 5)).cell? ⟨w'.heap.size, 0, none⟩ = some (.int .u8 (k : Int)) by simp)
    have hd := below_alloc (Below.refl w'.heap.size w') (.cells #[.int .u8 (k : Int)] 5)
    have hSS := And.intro (pw_cell_below hd hHeld.1) (pw_cell_below hd hHeld.2)
    replace HT := Lib.hid (HT.out.below hd)
    replace HB := Lib.hid (chain2 HB.out hd)
    clear hd
    generalize w'.heap.size = bo at HO ⊢
    generalize w'.alloc (.cells #[.int .u8 (k : Int)] 5) = w' at HO HT HB hSS ⊢
    refine hK.out _ _ (hSS) (fun hHeld => ?_)
    clear hK K
    refine norm_ (a' := ?_) ?_ ?_
    rotate_left
    · show Act.put _ (some 13) _ = _
      simp (maxSteps := 4000000) only [Act.put, List.setIfInBounds_toArray, List.set_cons_zero, List.set_cons_succ, i64_w, i32_w]
      try rfl
    refine two_ (i := 4) (j := 8) (Ni := some 10) (Nj := some 14) #[true, true, true, true, true, true, true, true, false, false, true, true, false, false] #[true, true, true, true, false, true, true, true, true, false, true, true, false, false] rfl rfl rfl rfl  (two_of HT_.out (by kernel_rfl)) (by decide) (by decide)  (fun K hK => ?_) (fun K hK => ?_) 
    · refine goes_ Try.func24 (by kernel_rfl) rfl #[(.int .u64 (b.size : Int)), (.int .i64 2)] (by rfl) rfl rfl (by (try simp only [List.map_toArray, List.map_cons, List.map_nil]); first | done | rfl) ?_
      refine (be_Put.calls _ _ _ w' HP2.out).mono ?_
      rintro e w' ⟨rfl, hd⟩
      refine ⟨_, rfl, ?_⟩
      have hSS := And.intro (pw_cell_below hd hHeld.1) (pw_cell_below hd hHeld.2)
      replace HT := Lib.hid (HT.out.below hd)
      (try replace HO := Lib.hid (pw_cell_below hd HO.out))
      replace HB := Lib.hid (chain2 HB.out hd)
      clear hd
      refine hK.out _ _ (hSS) (fun hHeld => ?_)
      clear hK K
      refine norm_ (a' := ?_) ?_ ?_
      rotate_left
      · show Act.put _ (some 10) _ = _
        simp (maxSteps := 4000000) only [Act.put, List.setIfInBounds_toArray, List.set_cons_zero, List.set_cons_succ, i64_w, i32_w]
        try rfl
      refine one_ (i := 8) (N := some 14) #[true, true, true, true, true, true, true, true, true, false, true, true, false, false] rfl rfl (one_of HT_.out (by kernel_rfl)) (by decide) (fun K hK => ?_)
      refine value_ (v := .string q1) (w1 := w') (by rfl) rfl ?_ ?_
      · (have hcv := HQ1.out w' bo HO.out; go_simp)
      refine hK.out _ _ (hHeld) (fun hHeld => ?_)
      clear hK K
      refine norm_ (a' := ?_) ?_ ?_
      rotate_left
      · show Act.put _ (some 14) _ = _
        simp (maxSteps := 4000000) only [Act.put, List.setIfInBounds_toArray, List.set_cons_zero, List.set_cons_succ, i64_w, i32_w]
        try rfl
      refine pure_ (i := 9) (N := some 15) (v := ?_) (a' := ?_) #[true, true, true, true, true, true, true, true, true, true, true, true, false, false] rfl rfl (any_of HT_.out (by kernel_rfl)) (fun _ _ _ h => h) (Or.inl ⟨by rfl, ?_⟩) ?_ ?_
      rotate_left
      · intro w'
        go_simp
        try with_reducible rfl
      rotate_left
      · simp (maxSteps := 4000000) only [Act.put, List.setIfInBounds_toArray, List.set_cons_zero, List.set_cons_succ, i64_w, i32_w]
        try rfl
      refine pure_ (i := 12) (N := some 18) (v := ?_) (a' := ?_) #[true, true, true, true, true, true, true, true, true, true, true, true, true, false] rfl rfl (any_of HT_.out (by kernel_rfl)) (fun _ _ _ h => h) (Or.inl ⟨by rfl, ?_⟩) ?_ ?_
      rotate_left
      · intro w'
        go_simp
        try with_reducible rfl
      rotate_left
      · simp (maxSteps := 4000000) only [Act.put, List.setIfInBounds_toArray, List.set_cons_zero, List.set_cons_succ, i64_w, i32_w]
        try rfl
      refine pure_ (i := 13) (N := some 5) (v := ?_) (a' := ?_) #[true, true, true, true, true, true, true, true, true, true, true, true, true, true] rfl rfl (any_of HT_.out (by kernel_rfl)) (fun _ _ _ h => h) (Or.inl ⟨by rfl, ?_⟩) ?_ ?_
      rotate_left
      · intro w'
        go_simp
        try with_reducible rfl
      rotate_left
      · simp (maxSteps := 4000000) only [Act.put, List.setIfInBounds_toArray, List.set_cons_zero, List.set_cons_succ, i64_w, i32_w]
        try rfl
      refine done_ (done_of HT_.out (by kernel_rfl)) ?_
      clear hw1 l1 l2 l3 hS
      go_wp2_with fail
      obtain ⟨hd, hhd⟩ : ∃ hd, p2 ++ q1 ++ b = hd := ⟨_, rfl⟩
      have HHd := Lib.hid (show headR k b = hd by unfold headR; rw [hp2, hq1]; exact hhd)
      have hz : hd.size = 3 + b.size := by rw [← HHd.out]; exact headR_size k b
      rw [hhd]
      clear hhd hp2 hq1
      refine (poly_Sum.calls g hd (by omega) w' HT.out).mono ?_
      rintro e w2 ⟨rfl, hdr⟩
      replace HB := Lib.hid (chainD HB.out hdr); clear hdr
      have HSm := Lib.hid (show sumR k b = (sum hd.data.toList).toNat by unfold sumR; rw [HHd.out])
      have hlt : (sum hd.data.toList).toNat < 4294967296 := (sum hd.data.toList).isLt
      unfold v32
      generalize (sum hd.data.toList).toNat = sm at HSm hlt ⊢
      obtain ⟨p4, hp4⟩ : ∃ p4, str (putL sm 4) = p4 := ⟨_, rfl⟩
      have z4 : p4.size = 4 := by rw [← hp4, str_size, putL_length]
      have HP4 := Lib.hid (show be_Put.f (sm : Int) ((4 : Nat) : Int) = some p4 by rw [← hp4]; exact put_in sm (by omega) 4 (by decide) (by decide))
      have hw2 : IntKind.u64.wrap (sm : Int) = (sm : Int) := wrap_u64_in _ (by omega) (by omega)
      have l4 : ¬ 9223372036854775807 < hd.size + p4.size := by omega
      have HR := Lib.hid (show recB k b = hd ++ p4 by unfold recB; rw [HHd.out, HSm.out, hp4])
      clear hz hlt hp4 z4
      go_wp2_with fail
      refine (be_Put.calls _ _ _ _ HP4.out).mono ?_
      rintro e w3 ⟨rfl, hdb⟩
      replace HB := Lib.hid (chain2 HB.out hdb); clear hdb
      go_wp2
      go_ret
      exact ⟨by rw [HR.out]; rfl, HB.out⟩
    · refine value_ (v := .string q1) (w1 := w') (by rfl) rfl ?_ ?_
      · (have hcv := HQ1.out w' bo HO.out; go_simp)
      refine hK.out _ _ (hHeld) (fun hHeld => ?_)
      clear hK K
      refine norm_ (a' := ?_) ?_ ?_
      rotate_left
      · show Act.put _ (some 14) _ = _
        simp (maxSteps := 4000000) only [Act.put, List.setIfInBounds_toArray, List.set_cons_zero, List.set_cons_succ, i64_w, i32_w]
        try rfl
      refine one_ (i := 4) (N := some 10) #[true, true, true, true, true, true, true, true, true, false, true, true, false, false] rfl rfl (one_of HT_.out (by kernel_rfl)) (by decide) (fun K hK => ?_)
      refine goes_ Try.func24 (by kernel_rfl) rfl #[(.int .u64 (b.size : Int)), (.int .i64 2)] (by rfl) rfl rfl (by (try simp only [List.map_toArray, List.map_cons, List.map_nil]); first | done | rfl) ?_
      refine (be_Put.calls _ _ _ w' HP2.out).mono ?_
      rintro e w' ⟨rfl, hd⟩
      refine ⟨_, rfl, ?_⟩
      have hSS := And.intro (pw_cell_below hd hHeld.1) (pw_cell_below hd hHeld.2)
      replace HT := Lib.hid (HT.out.below hd)
      (try replace HO := Lib.hid (pw_cell_below hd HO.out))
      replace HB := Lib.hid (chain2 HB.out hd)
      clear hd
      refine hK.out _ _ (hSS) (fun hHeld => ?_)
      clear hK K
      refine norm_ (a' := ?_) ?_ ?_
      rotate_left
      · show Act.put _ (some 10) _ = _
        simp (maxSteps := 4000000) only [Act.put, List.setIfInBounds_toArray, List.set_cons_zero, List.set_cons_succ, i64_w, i32_w]
        try rfl
      refine pure_ (i := 9) (N := some 15) (v := ?_) (a' := ?_) #[true, true, true, true, true, true, true, true, true, true, true, true, false, false] rfl rfl (any_of HT_.out (by kernel_rfl)) (fun _ _ _ h => h) (Or.inl ⟨by rfl, ?_⟩) ?_ ?_
      rotate_left
      · intro w'
        go_simp
        try with_reducible rfl
      rotate_left
      · simp (maxSteps := 4000000) only [Act.put, List.setIfInBounds_toArray, List.set_cons_zero, List.set_cons_succ, i64_w, i32_w]
        try rfl
      refine pure_ (i := 12) (N := some 18) (v := ?_) (a' := ?_) #[true, true, true, true, true, true, true, true, true, true, true, true, true, false] rfl rfl (any_of HT_.out (by kernel_rfl)) (fun _ _ _ h => h) (Or.inl ⟨by rfl, ?_⟩) ?_ ?_
      rotate_left
      · intro w'
        go_simp
        try with_reducible rfl
      rotate_left
      · simp (maxSteps := 4000000) only [Act.put, List.setIfInBounds_toArray, List.set_cons_zero, List.set_cons_succ, i64_w, i32_w]
        try rfl
      refine pure_ (i := 13) (N := some 5) (v := ?_) (a' := ?_) #[true, true, true, true, true, true, true, true, true, true, true, true, true, true] rfl rfl (any_of HT_.out (by kernel_rfl)) (fun _ _ _ h => h) (Or.inl ⟨by rfl, ?_⟩) ?_ ?_
      rotate_left
      · intro w'
        go_simp
        try with_reducible rfl
      rotate_left
      · simp (maxSteps := 4000000) only [Act.put, List.setIfInBounds_toArray, List.set_cons_zero, List.set_cons_succ, i64_w, i32_w]
        try rfl
      refine done_ (done_of HT_.out (by kernel_rfl)) ?_
      clear hw1 l1 l2 l3 hS
      go_wp2_with fail
      obtain ⟨hd, hhd⟩ : ∃ hd, p2 ++ q1 ++ b = hd := ⟨_, rfl⟩
      have HHd := Lib.hid (show headR k b = hd by unfold headR; rw [hp2, hq1]; exact hhd)
      have hz : hd.size = 3 + b.size := by rw [← HHd.out]; exact headR_size k b
      rw [hhd]
      clear hhd hp2 hq1
      refine (poly_Sum.calls g hd (by omega) w' HT.out).mono ?_
      rintro e w2 ⟨rfl, hdr⟩
      replace HB := Lib.hid (chainD HB.out hdr); clear hdr
      have HSm := Lib.hid (show sumR k b = (sum hd.data.toList).toNat by unfold sumR; rw [HHd.out])
      have hlt : (sum hd.data.toList).toNat < 4294967296 := (sum hd.data.toList).isLt
      unfold v32
      generalize (sum hd.data.toList).toNat = sm at HSm hlt ⊢
      obtain ⟨p4, hp4⟩ : ∃ p4, str (putL sm 4) = p4 := ⟨_, rfl⟩
      have z4 : p4.size = 4 := by rw [← hp4, str_size, putL_length]
      have HP4 := Lib.hid (show be_Put.f (sm : Int) ((4 : Nat) : Int) = some p4 by rw [← hp4]; exact put_in sm (by omega) 4 (by decide) (by decide))
      have hw2 : IntKind.u64.wrap (sm : Int) = (sm : Int) := wrap_u64_in _ (by omega) (by omega)
      have l4 : ¬ 9223372036854775807 < hd.size + p4.size := by omega
      have HR := Lib.hid (show recB k b = hd ++ p4 by unfold recB; rw [HHd.out, HSm.out, hp4])
      clear hz hlt hp4 z4
      go_wp2_with fail
      refine (be_Put.calls _ _ _ _ HP4.out).mono ?_
      rintro e w3 ⟨rfl, hdb⟩
      replace HB := Lib.hid (chain2 HB.out hdb); clear hdb
      go_wp2
      go_ret
      exact ⟨by rw [HR.out]; rfl, HB.out⟩
end Go.Proofs.Ytnojomoeaofkoaa
