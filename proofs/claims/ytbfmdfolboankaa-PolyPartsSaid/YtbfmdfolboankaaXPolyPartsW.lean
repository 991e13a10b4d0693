/- PolyParts: bytes in parts; of three texts of one length: the walk. No conditions beyond the form's own reach. -/
import Derived.Test.YtbfmdfolboankaaXPolyTellsW
import Derived.Test.YtbfmdfolboankaaXPolyWakes
import Derived.Test.YtbfmdfolboankaaXPolyRef
import Derived.Lib.ConvBytes
import Derived.Laws.MakeOwn
import Derived.Laws.OwnMore
namespace Go.Proofs.Ytbfmdfolboankaa
open Go.RowKit Go.Proofs.YtbfmdfolboankaaW.PrintWords Go.Proofs.YtbfmdfolboankaaW.PrintLast Go.Proofs.YtbfmdfolboankaaW.PrintMore Go.Proofs.Ytbfmdfolboankaa.P Go.Proofs.Ytbfmdfolboankaa.PoS
set_option linter.unusedVariables false
set_option linter.unusedSimpArgs false
def rg5_2.T : Bool × List (List Nat × List Nat) := (true, [([], []), ([0], [0]), ([], []), ([1, 2], [1, 2]), ([], []), ([4], [4]), ([], []), ([5, 6], [5, 6]), ([], []), ([8], [8]), ([], []), ([9, 10], [9, 10]), ([3, 0, 1, 2, 3], [3]), ([7, 12, 0, 1, 2, 3, 4, 5, 6, 7, 12], [7]), ([11, 13, 0, 1, 2, 3, 4, 5, 6, 7, 8, 9, 10, 11, 12, 13], [11])])
def rg5_2.B : List Nat := [0, 1, 0, 7, 0, 16, 0, 112, 0, 256, 0, 1792, 15, 4351, 16383]
theorem rg5_2.tab : rtab .any (opsOf Try.f5 2) = rg5_2.T := by kernel_rfl
theorem rg5_2.bits : waitsOk rg5_2.T.2 rg5_2.B = true := by kernel_rfl
def rg5_9.T : Bool × List (List Nat × List Nat) := (true, [([], []), ([], []), ([], []), ([], []), ([2, 3], [2, 3]), ([], []), ([], []), ([5, 6], [5, 6]), ([4, 7], [4, 7]), ([], []), ([], []), ([9, 10], [9, 10]), ([8, 11], [8, 11]), ([0, 1, 0, 1, 2, 3, 4, 5, 6, 7, 8, 9, 10, 11, 12], [0, 1]), ([13, 12, 0, 1, 2, 3, 4, 5, 6, 7, 8, 9, 10, 11, 12], [12, 13])])
def rg5_9.B : List Nat := [0, 0, 0, 0, 12, 0, 0, 96, 252, 0, 0, 1536, 4092, 8191, 16383]
theorem rg5_9.tab : rtab .any (opsOf Try.f5 9) = rg5_9.T := by kernel_rfl
theorem rg5_9.bits : waitsOk rg5_9.T.2 rg5_9.B = true := by kernel_rfl
def rg5_11.T : Bool × List (List Nat × List Nat) := (true, [([], []), ([0, 0], [0]), ([1, 1], [1]), ([1], [1]), ([1], [1]), ([3, 4, 1], [1, 3, 4]), ([2, 5, 2, 1], [1, 2, 5]), ([1], [1]), ([1], [1]), ([7, 8, 1], [1, 7, 8]), ([6, 9, 6, 1], [1, 6, 9]), ([10, 10, 1], [1, 10]), ([1], [1]), ([12, 11, 1], [1, 12]), ([11, 13, 1], [1, 11, 13]), ([1, 14], [1, 14]), ([15, 13], [15]), ([16], [16]), ([17, 16], [16, 17]), ([18, 16, 16], [16, 18]), ([16], [16]), ([20, 19, 16], [16, 20]), ([16], [16]), ([22, 21, 16], [16, 22]), ([21, 23, 16], [16, 21, 23]), ([16], [16]), ([25, 23, 16], [16, 25]), ([24, 26, 16], [16, 24, 26]), ([19, 27, 16], [16, 19, 27]), ([16, 28], [16, 28]), ([29, 26, 0, 1, 2, 3, 4, 5, 6, 7, 8, 9, 10, 11, 12, 13, 14, 15, 16, 17, 18, 19, 20, 21, 22, 23, 24, 25, 26, 27, 28, 29], [29])])
def rg5_11.B : List Nat := [0, 1, 3, 3, 3, 27, 63, 3, 3, 387, 1023, 2047, 3, 8191, 16383, 32767, 65535, 131071, 262143, 524287, 131071, 2097151, 131071, 8388607, 16777215, 131071, 50331647, 134217727, 268435455, 536870911, 1073741823]
theorem rg5_11.tab : rtab .any (opsOf Try.f5 11) = rg5_11.T := by kernel_rfl
theorem rg5_11.bits : waitsOk rg5_11.T.2 rg5_11.B = true := by kernel_rfl

theorem run_min2 (P : Program) (w : World) (a b : Int) : (Builtin.min2 (.int .i64 a) (.int .i64 b)).run P w = .ok (.int .i64 (if b < a then b else a)) w := by
  unfold Builtin.min2; rfl
theorem run_min4 (P : Program) (w : World) (ts : Array TypeId) (t : TypeId) (a b c d : Int) : ∃ n : Int, (n ≤ a ∧ n ≤ b ∧ n ≤ c ∧ n ≤ d) ∧ (n = a ∨ n = b ∨ n = c ∨ n = d) ∧ ∀ w, (Builtin.min_ ts t #[.int .i64 a, .int .i64 b, .int .i64 c, .int .i64 d]).run P w = .ok (.int .i64 n) w := by
  have e := fun w => (show (Builtin.min_ ts t #[.int .i64 a, .int .i64 b, .int .i64 c, .int .i64 d]).run P w = .ok (.int .i64 (if d < (if c < (if b < a then b else a) then c else (if b < a then b else a)) then d else (if c < (if b < a then b else a) then c else (if b < a then b else a)))) w by
    unfold Builtin.min_
    simp [run_min2, Result.andThen])
  refine ⟨_, ?_, ?_, e⟩
  · split <;> split <;> split <;> omega
  · split <;> split <;> split <;> simp

theorem u8_info : (Try.prog.info? 5).map (fun i => (i.size, i.bytes, i.zero)) = some (1, 1, some (.int .u8 0)) := by kernel_rfl
/-- 'make([]byte, n)'. -/
def zeros (n : Nat) : Array Value := madeCells #[.int .u8 0] n
theorem make_bytes (w : World) (n : Nat) (hn : n ≤ 400) : (Instr.makeSlice 36 (.int .i64 (n : Int)) (.int .i64 (n : Int))).run Try.prog w = .ok (.slice (some ⟨w.heap.size, 0, none⟩) n n) (w.alloc (.cells (zeros n) 5)) := by
  obtain ⟨i, hi, h0⟩ := Option.map_eq_some_iff.mp u8_info
  simp only [Prod.mk.injEq] at h0
  obtain ⟨h1, h2, h3⟩ := h0
  have h := run_make (P := Try.prog) w 36 5 i (.int .u8 0) Try.underlying36 hi h3 .i64 .i64 n n (by omega) (by omega) (by rw [h2]; omega) (by omega)
  rw [h1, Nat.mul_one] at h
  exact h
theorem zeros_at (w : World) (n : Nat) : ByAt (w.alloc (.cells (zeros n) 5)) w.heap.size (List.replicate n 0) := by
  intro j hj
  rw [List.length_replicate] at hj
  have hz : (zeros n)[j]? = some (.int .u8 0) := by
    unfold zeros
    rw [← Array.getElem?_toList, toList_madeCells_one]
    simp [hj]
  refine ⟨?_, ?_⟩
  · rw [World.cell?_alloc_new, hz]
    simp [List.getD_eq_getElem?_getD, hj]
  · unfold World.frozen?
    rw [heap_alloc_new]
    have h1 : ¬ (zeros n).size ≤ j := by unfold zeros; rw [size_madeCells]; omega
    simp [h1]
theorem xor8_u (x y : UInt8) : Go.bits .xor .u8 ((x.toNat : Nat) : Int) ((y.toNat : Nat) : Int) = (((x ^^^ y).toNat : Nat) : Int) := by
  have h := xor8_v x y.toNat y.toNat_lt
  rwa [show UInt8.ofNat y.toNat = y from by simp] at h
namespace PoS
/-- The first j bytes of the three texts' sum. -/
def xl (a b c : List UInt8) (n j : Nat) : List UInt8 := (List.range n).map fun p => if p < j then a.getD p 0 ^^^ b.getD p 0 ^^^ c.getD p 0 else 0
theorem xl_length (a b c : List UInt8) (n j : Nat) : (xl a b c n j).length = n := by simp [xl]
theorem xl_zero (a b c : List UInt8) (n : Nat) : xl a b c n 0 = List.replicate n 0 := by
  apply List.ext_getElem
  · simp [xl]
  · intro i h1 h2
    simp [xl]
theorem xl_succ (a b c : List UInt8) (n j : Nat) (hj : j < n) : xl a b c n (j + 1) = (xl a b c n j).set j (a.getD j 0 ^^^ b.getD j 0 ^^^ c.getD j 0) := by
  apply List.ext_getElem
  · simp [xl]
  · intro i h1 h2
    rw [List.getElem_set]
    simp only [xl, List.getElem_map, List.getElem_range]
    by_cases e : j = i
    · subst e
      simp
    · rw [if_neg e]
      by_cases h : i < j
      · rw [if_pos h, if_pos (by omega)]
      · rw [if_neg h, if_neg (by omega)]
theorem xl_all (a b c : List UInt8) (n : Nat) (ha : a.length = n) (hb : b.length = n) (hc : c.length = n) : xl a b c n n = List.zipWith (· ^^^ ·) (List.zipWith (· ^^^ ·) a b) c := by
  apply List.ext_getElem
  · simp [xl, ha, hb, hc]
  · intro i h1 h2
    rw [xl_length] at h1
    simp only [xl, List.getElem_map, List.getElem_range, List.getElem_zipWith, if_pos h1, List.getD_eq_getElem?_getD]
    rw [List.getElem?_eq_getElem (by omega), List.getElem?_eq_getElem (by omega), List.getElem?_eq_getElem (by omega)]
    rfl
theorem sum_xl (a b c : List UInt8) (n : Nat) (ha : a.length = n) (hb : b.length = n) (hc : c.length = n) : sum (xl a b c n n) = sum a ^^^ sum b ^^^ sum c := by
  rw [xl_all a b c n ha hb hc]
  unfold sum
  have h1 := more_zip (List.zipWith (· ^^^ ·) a b) c (BitVec.allOnes 32 ^^^ BitVec.allOnes 32) (BitVec.allOnes 32) (by simp [ha, hb, hc])
  have h2 := more_zip a b (BitVec.allOnes 32) (BitVec.allOnes 32) (by rw [ha, hb])
  rw [h2, BitVec.xor_self, BitVec.zero_xor] at h1
  rw [h1]
  generalize more (BitVec.allOnes 32) a = x
  generalize more (BitVec.allOnes 32) b = y
  generalize more (BitVec.allOnes 32) c = z
  apply BitVec.eq_of_getLsbD_eq
  intro i hi
  simp only [BitVec.getLsbD_xor, BitVec.getLsbD_not, hi, decide_true, Bool.true_and]
  cases x.getLsbD i <;> cases y.getLsbD i <;> cases z.getLsbD i <;> rfl
theorem more_split (s : ByteArray) (x : BitVec 32) (k : Nat) (hk : k ≤ s.size) : more (more x (s.extract 0 k).data.toList) (s.extract k s.size).data.toList = more x s.data.toList := by
  rw [← more_append]
  congr 1
  rw [ByteArray.data_extract, ByteArray.data_extract, Array.toList_extract, Array.toList_extract]
  simp only [List.extract]
  have hl : s.data.toList.length = s.size := Array.length_toList
  rw [List.drop_zero, Nat.sub_zero, List.take_of_length_le (l := List.drop k _) (by rw [List.length_drop]; omega), List.take_append_drop]
end PoS

theorem TabAt.set {w : World} {g : Nat} (h : TabAt w g) {g' q : Nat} (hne : g' ≠ g) (v : Value) : TabAt (w.setCell ⟨g', q, none⟩ v) g := fun b hb => by
  rw [World.cell?_setCell_other _ _ _ _ (by intro e; injection e with e1 _ _; exact hne e1)]
  exact h b hb

set_option maxHeartbeats 4000000 in
set_option maxRecDepth 100000 in
theorem polyParts_walk (s0 s1 s2 : ByteArray) (at_ : Nat) (hat : at_ < 65536) (w : World) :
    Calls Try.prog 5 #[.agg #[.string s0, .string s1, .string s2], .int .u16 (at_ : Int)] w fun e w' => e = .returned (.bool true) ∧ Below w.heap.size w w' := by
  have hz := make_zero
  obtain ⟨N, ⟨l0, l1, l2, l3⟩, lo, hm⟩ := run_min4 Try.prog w #[3, 3, 3, 3] 3 (s0.size : Int) (s1.size : Int) (s2.size : Int) 400
  have l4 : 0 ≤ N := by omega
  have a0 : (0 ≤ N) = True := eq_true l4
  have a1 : decide (0 ≤ N) = true := decide_eq_true l4
  have b0 : (N ≤ (s0.size : Int)) = True := eq_true l0
  have b1 : decide (N ≤ (s0.size : Int)) = true := decide_eq_true l0
  have b2 : (N ≤ (s1.size : Int)) = True := eq_true l1
  have b3 : decide (N ≤ (s1.size : Int)) = true := decide_eq_true l1
  have b4 : (N ≤ (s2.size : Int)) = True := eq_true l2
  have b5 : decide (N ≤ (s2.size : Int)) = true := decide_eq_true l2
  have HN := Lib.hid (And.intro l4 (And.intro l0 (And.intro l1 (And.intro l2 l3))))
  clear l0 l1 l2 l3 l4 lo
  go_enter Try.func5, Try.ntmps5
  go_wp2_with fail
  have hc0 := World.cell?_alloc_new w #[Value.string s0, Value.string s1, Value.string s2] 38 0
  have hc1 := World.cell?_alloc_new w #[Value.string s0, Value.string s1, Value.string s2] 38 1
  have hc2 := World.cell?_alloc_new w #[Value.string s0, Value.string s1, Value.string s2] 38 2
  have HB := Lib.hid (below_drew1 (below_alloc (Below.refl w.heap.size w) (Obj.cells #[Value.string s0, Value.string s1, Value.string s2] 38)))
  replace hc0 : (w.alloc (Obj.cells #[Value.string s0, Value.string s1, Value.string s2] 38)).drew.cell? ⟨w.heap.size, 0, none⟩ = some (.string s0) := hc0
  replace hc1 : (w.alloc (Obj.cells #[Value.string s0, Value.string s1, Value.string s2] 38)).drew.cell? ⟨w.heap.size, 1, none⟩ = some (.string s1) := hc1
  replace hc2 : (w.alloc (Obj.cells #[Value.string s0, Value.string s1, Value.string s2] 38)).drew.cell? ⟨w.heap.size, 2, none⟩ = some (.string s2) := hc2
  generalize w.heap.size = g0 at hc0 hc1 hc2 ⊢
  have hS := And.intro hc0 (And.intro hc1 hc2)
  clear hc0 hc1 hc2
  refine start_ (n := 15) (S := fun w' => w'.cell? ⟨g0, 0, none⟩ = some (.string s0) ∧ w'.cell? ⟨g0, 1, none⟩ = some (.string s1) ∧ w'.cell? ⟨g0, 2, none⟩ = some (.string s2)) (ds := []) #[false, false, false, false, false, false, false, false, false, false, false, false, false, false, false] (by kernel_rfl) rfl rfl hS (fun hHeld => ?_)
  refine with_tabW rg5_2.tab rg5_2.bits (fun HT_ HW_ => ?_)
  generalize (w.alloc (Obj.cells #[Value.string s0, Value.string s1, Value.string s2] 38)).drew = wd at HB hS hHeld ⊢
  refine pure_ (i := 0) (N := some 23) (v := ?_) (a' := ?_) #[true, false, false, false, false, false, false, false, false, false, false, false, false, false, false] rfl rfl (any_of HT_.out (by kernel_rfl)) (fun _ _ _ h => h) (Or.inl ⟨by rfl, ?_⟩) ?_ ?_
  rotate_left
  · intro w'
    go_simp
    try with_reducible rfl
  rotate_left
  · simp only [Act.put, List.setIfInBounds_toArray, List.set_cons_zero, List.set_cons_succ, i64_w, i32_w]
    try rfl
  refine pure_ (i := 2) (N := some 25) (v := ?_) (a' := ?_) #[true, false, true, false, false, false, false, false, false, false, false, false, false, false, false] rfl rfl (any_of HT_.out (by kernel_rfl)) (fun _ _ _ h => h) (Or.inl ⟨by rfl, ?_⟩) ?_ ?_
  rotate_left
  · intro w'
    go_simp
    try with_reducible rfl
  rotate_left
  · simp only [Act.put, List.setIfInBounds_toArray, List.set_cons_zero, List.set_cons_succ, i64_w, i32_w]
    try rfl
  refine pure_ (i := 4) (N := some 27) (v := ?_) (a' := ?_) #[true, false, true, false, true, false, false, false, false, false, false, false, false, false, false] rfl rfl (any_of HT_.out (by kernel_rfl)) (fun _ _ _ h => h) (Or.inl ⟨by rfl, ?_⟩) ?_ ?_
  rotate_left
  · intro w'
    go_simp
    try with_reducible rfl
  rotate_left
  · simp only [Act.put, List.setIfInBounds_toArray, List.set_cons_zero, List.set_cons_succ, i64_w, i32_w]
    try rfl
  refine pure_ (i := 6) (N := some 29) (v := ?_) (a' := ?_) #[true, false, true, false, true, false, true, false, false, false, false, false, false, false, false] rfl rfl (any_of HT_.out (by kernel_rfl)) (fun _ _ _ h => h) (Or.inl ⟨by rfl, ?_⟩) ?_ ?_
  rotate_left
  · intro w'
    go_simp
    try with_reducible rfl
  rotate_left
  · simp only [Act.put, List.setIfInBounds_toArray, List.set_cons_zero, List.set_cons_succ, i64_w, i32_w]
    try rfl
  refine pure_ (i := 8) (N := some 31) (v := ?_) (a' := ?_) #[true, false, true, false, true, false, true, false, true, false, false, false, false, false, false] rfl rfl (any_of HT_.out (by kernel_rfl)) (fun _ _ _ h => h) (Or.inl ⟨by rfl, ?_⟩) ?_ ?_
  rotate_left
  · intro w'
    go_simp
    try with_reducible rfl
  rotate_left
  · simp only [Act.put, List.setIfInBounds_toArray, List.set_cons_zero, List.set_cons_succ, i64_w, i32_w]
    try rfl
  refine pure_ (i := 10) (N := some 33) (v := ?_) (a' := ?_) #[true, false, true, false, true, false, true, false, true, false, true, false, false, false, false] rfl rfl (any_of HT_.out (by kernel_rfl)) (fun _ _ _ h => h) (Or.inl ⟨by rfl, ?_⟩) ?_ ?_
  rotate_left
  · intro w'
    go_simp
    try with_reducible rfl
  rotate_left
  · simp only [Act.put, List.setIfInBounds_toArray, List.set_cons_zero, List.set_cons_succ, i64_w, i32_w]
    try rfl
  refine take_ (i := 1) (N := some 24) (v := ?_) (a' := ?_) #[true, true, true, false, true, false, true, false, true, false, true, false, false, false, false] rfl rfl (take_ofW HT_.out HW_.out (by kernel_rfl)) (fun _ _ _ h => h) (Or.inl ⟨by rfl, ?_⟩) hHeld ?_ ?_
  rotate_left
  · intro w' hw_
    try dsimp only at hw_
    go_simp
    try with_reducible rfl
  rotate_left
  · simp only [Act.put, List.setIfInBounds_toArray, List.set_cons_zero, List.set_cons_succ, i64_w, i32_w]
    try rfl
  refine pure_ (i := 3) (N := some 26) (v := ?_) (a' := ?_) #[true, true, true, true, true, false, true, false, true, false, true, false, false, false, false] rfl rfl (any_of HT_.out (by kernel_rfl)) (fun _ _ _ h => h) (Or.inl ⟨by rfl, ?_⟩) ?_ ?_
  rotate_left
  · intro w'
    go_simp
    try with_reducible rfl
  rotate_left
  · simp only [Act.put, List.setIfInBounds_toArray, List.set_cons_zero, List.set_cons_succ, i64_w, i32_w]
    try rfl
  refine pure_ (i := 12) (N := some 6) (v := ?_) (a' := ?_) #[true, true, true, true, true, false, true, false, true, false, true, false, true, false, false] rfl rfl (any_of HT_.out (by kernel_rfl)) (fun _ _ _ h => h) (Or.inl ⟨by rfl, ?_⟩) ?_ ?_
  rotate_left
  · intro w'
    go_simp
    try with_reducible rfl
  rotate_left
  · simp only [Act.put, List.setIfInBounds_toArray, List.set_cons_zero, List.set_cons_succ, i64_w, i32_w]
    try rfl
  refine take_ (i := 5) (N := some 28) (v := ?_) (a' := ?_) #[true, true, true, true, true, true, true, false, true, false, true, false, true, false, false] rfl rfl (take_ofW HT_.out HW_.out (by kernel_rfl)) (fun _ _ _ h => h) (Or.inl ⟨by rfl, ?_⟩) hHeld ?_ ?_
  rotate_left
  · intro w' hw_
    try dsimp only at hw_
    go_simp
    try with_reducible rfl
  rotate_left
  · simp only [Act.put, List.setIfInBounds_toArray, List.set_cons_zero, List.set_cons_succ, i64_w, i32_w]
    try rfl
  refine pure_ (i := 7) (N := some 30) (v := ?_) (a' := ?_) #[true, true, true, true, true, true, true, true, true, false, true, false, true, false, false] rfl rfl (any_of HT_.out (by kernel_rfl)) (fun _ _ _ h => h) (Or.inl ⟨by rfl, ?_⟩) ?_ ?_
  rotate_left
  · intro w'
    go_simp
    try with_reducible rfl
  rotate_left
  · simp only [Act.put, List.setIfInBounds_toArray, List.set_cons_zero, List.set_cons_succ, i64_w, i32_w]
    try rfl
  refine pure_ (i := 13) (N := some 7) (v := ?_) (a' := ?_) #[true, true, true, true, true, true, true, true, true, false, true, false, true, true, false] rfl rfl (any_of HT_.out (by kernel_rfl)) (fun _ _ _ h => h) (Or.inl ⟨by rfl, ?_⟩) ?_ ?_
  rotate_left
  · intro w'
    go_simp
    try with_reducible rfl
  rotate_left
  · simp only [Act.put, List.setIfInBounds_toArray, List.set_cons_zero, List.set_cons_succ, i64_w, i32_w]
    try rfl
  refine take_ (i := 9) (N := some 32) (v := ?_) (a' := ?_) #[true, true, true, true, true, true, true, true, true, true, true, false, true, true, false] rfl rfl (take_ofW HT_.out HW_.out (by kernel_rfl)) (fun _ _ _ h => h) (Or.inl ⟨by rfl, ?_⟩) hHeld ?_ ?_
  rotate_left
  · intro w' hw_
    try dsimp only at hw_
    go_simp
    try with_reducible rfl
  rotate_left
  · simp only [Act.put, List.setIfInBounds_toArray, List.set_cons_zero, List.set_cons_succ, i64_w, i32_w]
    try rfl
  refine pure_ (i := 11) (N := some 34) (v := ?_) (a' := ?_) #[true, true, true, true, true, true, true, true, true, true, true, true, true, true, false] rfl rfl (any_of HT_.out (by kernel_rfl)) (fun _ _ _ h => h) (Or.inl ⟨by rfl, ?_⟩) ?_ ?_
  rotate_left
  · intro w'
    go_simp
    try with_reducible rfl
  rotate_left
  · simp only [Act.put, List.setIfInBounds_toArray, List.set_cons_zero, List.set_cons_succ, i64_w, i32_w]
    try rfl
  refine pure_ (i := 14) (N := some 8) (v := ?_) (a' := ?_) #[true, true, true, true, true, true, true, true, true, true, true, true, true, true, true] rfl rfl (any_of HT_.out (by kernel_rfl)) (fun _ _ _ h => h) (Or.inl ⟨by rfl, ?_⟩) ?_ ?_
  rotate_left
  · intro w'
    go_simp
    try with_reducible rfl
  rotate_left
  · simp only [Act.put, List.setIfInBounds_toArray, List.set_cons_zero, List.set_cons_succ, i64_w, i32_w]
    try rfl
  refine done_ (done_of HT_.out (by kernel_rfl)) ?_
  obtain ⟨n, rfl⟩ := Int.eq_ofNat_of_zero_le HN.out.1
  have HN2 := HN.out
  have n0 : n ≤ 400 := by omega
  have sz0 : (s0.extract 0 (n : Int).toNat).size = n := by rw [ByteArray.size_extract]; omega
  have sz1 : (s1.extract 0 (n : Int).toNat).size = n := by rw [ByteArray.size_extract]; omega
  have sz2 : (s2.extract 0 (n : Int).toNat).size = n := by rw [ByteArray.size_extract]; omega
  clear HN HN2 a0 a1 b0 b1 b2 b3 b4 b5 hm hS hHeld HW_
  generalize s0.extract 0 (n : Int).toNat = ta at sz0 ⊢
  generalize s1.extract 0 (n : Int).toNat = tb at sz1 ⊢
  generalize s2.extract 0 (n : Int).toNat = tc at sz2 ⊢
  have Z0 := Lib.hid sz0; clear sz0
  have Z1 := Lib.hid sz1; clear sz1
  have Z2 := Lib.hid sz2; clear sz2
  have e1 : wrap64 ((n : Int) + 1) = ((n + 1 : Nat) : Int) := by unfold wrap64; omega
  obtain ⟨k, ek, hk⟩ : ∃ k : Nat, ((at_ : Int) % ((n : Int) + 1)) = (k : Int) ∧ k ≤ n := by
    refine ⟨at_ % (n + 1), ?_, by have := Nat.mod_lt at_ (show 0 < n + 1 by omega); omega⟩
    rw [Int.natCast_emod]; rfl
  go_wp2_with fail
  rw [ek]
  clear ek e1
  refine (poly_Make.calls _).mono ?_
  rintro e w1 ⟨rfl, hb1⟩
  replace HB := Lib.hid (chain2 HB.out hb1); clear hb1
  go_wp2_with (refine wpList_store_row rfl 24 _ _ rfl w1.heap.size (tabCells 256) rfl rfl 24 (tabCells 0) (heap_alloc_new w1 _) make_info (by rw [tabCells_size, tabCells_size]) (tabCells_one _) ?_)
  clear hz
  obtain ⟨hT, hB, hS⟩ := made_facts HB.out _ rfl
  clear hS HB
  generalize (w1.alloc (.cells (tabCells 0) 24)).setRow w1.heap.size (tabCells 256) = w2 at hT hB ⊢
  generalize w1.heap.size = gt at hT ⊢
  have HT := Lib.hid hT; clear hT
  have HB := Lib.hid hB; clear hB
  have hmk := make_bytes w2 n n0
  go_wp2_with fail
  rw [hmk]
  clear hmk
  have HX := Lib.hid (zeros_at w2 n)
  have hgt : w2.heap.size ≠ gt := by have := World.block_lt_of_cell? w2 _ (HT.out 0 (by decide)); simp only at this; omega
  replace HT := Lib.hid (HT.out.below (below_alloc (Below.refl _ w2) (.cells (zeros n) 5)))
  have hg := HB.out.size
  replace HB := Lib.hid (HB.out.alloc HB.out.size (.cells (zeros n) 5))
  generalize w2.alloc (.cells (zeros n) 5) = w3 at HT HX HB ⊢
  generalize w2.heap.size = gx at HX hg hgt ⊢
  have L0 := Lib.hid (show ta.data.toList.length = n from Array.length_toList.trans Z0.out)
  have L1 := Lib.hid (show tb.data.toList.length = n from Array.length_toList.trans Z1.out)
  have L2 := Lib.hid (show tc.data.toList.length = n from Array.length_toList.trans Z2.out)
  go_wp2_with fail
  go_loopw [12, 45] (fun _ i wr => ∃ j : Nat, j ≤ n ∧ i = .int .i64 (j : Int) ∧ ByAt wr gx (xl ta.data.toList tb.data.toList tc.data.toList n j) ∧ TabAt wr gt ∧ Below w.heap.size w wr) (fun _ i _ => n - (intOf i).toNat)
  case atStart => exact ⟨0, Nat.zero_le _, rfl, by rw [xl_zero]; exact HX.out, HT.out, HB.out⟩
  case round =>
    clear HX HT HB
    obtain ⟨j, hj, rfl, h1, h2, h3⟩ := hrel
    have HX := Lib.hid h1; clear h1
    have HT := Lib.hid h2; clear h2
    have HB := Lib.hid h3; clear h3
    by_cases hlt : j < n
    · have q0 : j < ta.size := by rw [Z0.out]; exact hlt
      have q1 : j < tb.size := by rw [Z1.out]; exact hlt
      have q2 : j < tc.size := by rw [Z2.out]; exact hlt
      have hx := HX.out j (by rw [xl_length]; exact hlt)
      have hs : (xl ta.data.toList tb.data.toList tc.data.toList n j).set j (ta[j] ^^^ tb[j] ^^^ tc[j]) = xl ta.data.toList tb.data.toList tc.data.toList n (j + 1) := by
        rw [xl_succ _ _ _ _ _ hlt, List.getD_eq_getElem?_getD, List.getD_eq_getElem?_getD, List.getD_eq_getElem?_getD, List.getElem?_eq_getElem (by rw [L0.out]; exact hlt), List.getElem?_eq_getElem (by rw [L1.out]; exact hlt), List.getElem?_eq_getElem (by rw [L2.out]; exact hlt)]
        rfl
      have x1 := xor8_u ta[j] tb[j]
      have x2 := xor8_u (ta[j] ^^^ tb[j]) tc[j]
      generalize ta[j] ^^^ tb[j] = y at x1 x2 hs
      generalize y ^^^ tc[j] = z at x2 hs
      have Hs := Lib.hid hs; clear hs
      generalize hX : (xl ta.data.toList tb.data.toList tc.data.toList n j).getD j 0 = x at hx
      clear hX
      have hS : wr.drew.cell? ⟨gx, j, none⟩ = some (.int .u8 ((x.toNat : Nat) : Int)) := hx.1
      have hF : wr.drew.frozen? ⟨gx, j, none⟩ = false := hx.2
      clear hx
      replace HX := Lib.hid (show ByAt wr.drew gx (xl ta.data.toList tb.data.toList tc.data.toList n j) from HX.out)
      replace HT := Lib.hid (show TabAt wr.drew gt from HT.out)
      replace HB := Lib.hid (below_drew1 HB.out)
      go_wp2_with fail
      refine start_ (n := 15) (S := fun w' => w'.cell? ⟨gx, j, none⟩ = some (.int .u8 ((x.toNat : Nat) : Int))) (ds := [14]) #[false, false, false, false, false, false, false, false, false, false, false, false, false, false, false] (by kernel_rfl) rfl rfl hS (fun hHeld => ?_)
      refine with_tabW rg5_9.tab rg5_9.bits (fun HT_ HW_ => ?_)
      generalize wr.drew = wd at HX HT HB hS hF hHeld ⊢
      refine pure_ (i := 0) (N := some 48) (v := ?_) (a' := ?_) #[true, false, false, false, false, false, false, false, false, false, false, false, false, false, false] rfl rfl (any_of HT_.out (by kernel_rfl)) (fun _ _ _ h => h) (Or.inl ⟨by rfl, ?_⟩) ?_ ?_
      rotate_left
      · intro w'
        go_simp
        try with_reducible rfl
      rotate_left
      · simp only [Act.put, List.setIfInBounds_toArray, List.set_cons_zero, List.set_cons_succ, i64_w, i32_w]
        try rfl
      refine pure_ (i := 1) (N := some 49) (v := ?_) (a' := ?_) #[true, true, false, false, false, false, false, false, false, false, false, false, false, false, false] rfl rfl (any_of HT_.out (by kernel_rfl)) (fun _ _ _ h => h) (Or.inl ⟨by rfl, ?_⟩) ?_ ?_
      rotate_left
      · intro w'
        go_simp
        try with_reducible rfl
      rotate_left
      · simp only [Act.put, List.setIfInBounds_toArray, List.set_cons_zero, List.set_cons_succ, i64_w, i32_w]
        try rfl
      refine pure_ (i := 2) (N := some 50) (v := ?_) (a' := ?_) #[true, true, true, false, false, false, false, false, false, false, false, false, false, false, false] rfl rfl (any_of HT_.out (by kernel_rfl)) (fun _ _ _ h => h) (Or.inl ⟨by rfl, ?_⟩) ?_ ?_
      rotate_left
      · intro w'
        go_simp
        try with_reducible rfl
      rotate_left
      · simp only [Act.put, List.setIfInBounds_toArray, List.set_cons_zero, List.set_cons_succ, i64_w, i32_w]
        try rfl
      refine pure_ (i := 3) (N := some 51) (v := ?_) (a' := ?_) #[true, true, true, true, false, false, false, false, false, false, false, false, false, false, false] rfl rfl (any_of HT_.out (by kernel_rfl)) (fun _ _ _ h => h) (Or.inl ⟨by rfl, ?_⟩) ?_ ?_
      rotate_left
      · intro w'
        go_simp
        try with_reducible rfl
      rotate_left
      · simp only [Act.put, List.setIfInBounds_toArray, List.set_cons_zero, List.set_cons_succ, i64_w, i32_w]
        try rfl
      refine pure_ (i := 4) (N := some 52) (v := ?_) (a' := ?_) #[true, true, true, true, true, false, false, false, false, false, false, false, false, false, false] rfl rfl (any_of HT_.out (by kernel_rfl)) (fun _ _ _ h => h) (Or.inl ⟨by rfl, ?_⟩) ?_ ?_
      rotate_left
      · intro w'
        go_simp
        try with_reducible rfl
      rotate_left
      · simp only [Act.put, List.setIfInBounds_toArray, List.set_cons_zero, List.set_cons_succ, i64_w, i32_w]
        try rfl
      refine pure_ (i := 5) (N := some 53) (v := ?_) (a' := ?_) #[true, true, true, true, true, true, false, false, false, false, false, false, false, false, false] rfl rfl (any_of HT_.out (by kernel_rfl)) (fun _ _ _ h => h) (Or.inl ⟨by rfl, ?_⟩) ?_ ?_
      rotate_left
      · intro w'
        go_simp
        try with_reducible rfl
      rotate_left
      · simp only [Act.put, List.setIfInBounds_toArray, List.set_cons_zero, List.set_cons_succ, i64_w, i32_w]
        try rfl
      refine pure_ (i := 6) (N := some 54) (v := ?_) (a' := ?_) #[true, true, true, true, true, true, true, false, false, false, false, false, false, false, false] rfl rfl (any_of HT_.out (by kernel_rfl)) (fun _ _ _ h => h) (Or.inl ⟨by rfl, ?_⟩) ?_ ?_
      rotate_left
      · intro w'
        go_simp
        try with_reducible rfl
      rotate_left
      · simp only [Act.put, List.setIfInBounds_toArray, List.set_cons_zero, List.set_cons_succ, i64_w, i32_w]
        try rfl
      refine pure_ (i := 7) (N := some 55) (v := ?_) (a' := ?_) #[true, true, true, true, true, true, true, true, false, false, false, false, false, false, false] rfl rfl (any_of HT_.out (by kernel_rfl)) (fun _ _ _ h => h) (Or.inl ⟨by rfl, ?_⟩) ?_ ?_
      rotate_left
      · intro w'
        go_simp
        try with_reducible rfl
      rotate_left
      · simp only [Act.put, List.setIfInBounds_toArray, List.set_cons_zero, List.set_cons_succ, i64_w, i32_w]
        try rfl
      refine pure_ (i := 8) (N := some 56) (v := ?_) (a' := ?_) #[true, true, true, true, true, true, true, true, true, false, false, false, false, false, false] rfl rfl (any_of HT_.out (by kernel_rfl)) (fun _ _ _ h => h) (Or.inl ⟨by rfl, ?_⟩) ?_ ?_
      rotate_left
      · intro w'
        go_simp
        try with_reducible rfl
      rotate_left
      · simp only [Act.put, List.setIfInBounds_toArray, List.set_cons_zero, List.set_cons_succ, i64_w, i32_w]
        try rfl
      refine pure_ (i := 9) (N := some 57) (v := ?_) (a' := ?_) #[true, true, true, true, true, true, true, true, true, true, false, false, false, false, false] rfl rfl (any_of HT_.out (by kernel_rfl)) (fun _ _ _ h => h) (Or.inl ⟨by rfl, ?_⟩) ?_ ?_
      rotate_left
      · intro w'
        go_simp
        try with_reducible rfl
      rotate_left
      · simp only [Act.put, List.setIfInBounds_toArray, List.set_cons_zero, List.set_cons_succ, i64_w, i32_w]
        try rfl
      refine pure_ (i := 10) (N := some 58) (v := ?_) (a' := ?_) #[true, true, true, true, true, true, true, true, true, true, true, false, false, false, false] rfl rfl (any_of HT_.out (by kernel_rfl)) (fun _ _ _ h => h) (Or.inl ⟨by rfl, ?_⟩) ?_ ?_
      rotate_left
      · intro w'
        go_simp
        try with_reducible rfl
      rotate_left
      · simp only [Act.put, List.setIfInBounds_toArray, List.set_cons_zero, List.set_cons_succ, i64_w, i32_w]
        try rfl
      refine pure_ (i := 11) (N := some 59) (v := ?_) (a' := ?_) #[true, true, true, true, true, true, true, true, true, true, true, true, false, false, false] rfl rfl (any_of HT_.out (by kernel_rfl)) (fun _ _ _ h => h) (Or.inl ⟨by rfl, ?_⟩) ?_ ?_
      rotate_left
      · intro w'
        go_simp
        try with_reducible rfl
      rotate_left
      · simp only [Act.put, List.setIfInBounds_toArray, List.set_cons_zero, List.set_cons_succ, i64_w, i32_w]
        try rfl
      refine pure_ (i := 12) (N := some 60) (v := ?_) (a' := ?_) #[true, true, true, true, true, true, true, true, true, true, true, true, true, false, false] rfl rfl (any_of HT_.out (by kernel_rfl)) (fun _ _ _ h => h) (Or.inl ⟨by rfl, ?_⟩) ?_ ?_
      rotate_left
      · intro w'
        go_simp
        try with_reducible rfl
      rotate_left
      · simp only [Act.put, List.setIfInBounds_toArray, List.set_cons_zero, List.set_cons_succ, i64_w, i32_w]
        try rfl
      refine pure_ (i := 13) (N := some 61) (v := ?_) (a' := ?_) #[true, true, true, true, true, true, true, true, true, true, true, true, true, true, false] rfl rfl (any_of HT_.out (by kernel_rfl)) (fun _ _ _ h => h) (Or.inl ⟨by rfl, ?_⟩) ?_ ?_
      rotate_left
      · intro w'
        go_simp
        try with_reducible rfl
      rotate_left
      · simp only [Act.put, List.setIfInBounds_toArray, List.set_cons_zero, List.set_cons_succ, i64_w, i32_w]
        try rfl
      refine last_ (i := 14) (N := none) #[true, true, true, true, true, true, true, true, true, true, true, true, true, true, true] rfl rfl (one_of HT_.out (by kernel_rfl)) (by decide) (fun K hK => ?_)
      refine skip_ (w1 := wd.setCell ⟨gx, j, none⟩ (.int .u8 ((z.toNat : Nat) : Int))) (by rfl) rfl ?_ ?_
      · (go_simp)
      refine hK.out _ _ ?_
      clear hK K
      refine done_ (done_of HT_.out (by kernel_rfl)) ?_
      have hX2 := HX.out.set (q := j) (by rw [xl_length]; exact hlt) z
      rw [Hs.out] at hX2
      replace HT := Lib.hid (HT.out.set (g' := gx) (q := j) hgt (.int .u8 ((z.toNat : Nat) : Int)))
      replace HB := Lib.hid (HB.out.setCell (p := ⟨gx, j, none⟩) hg (.int .u8 ((z.toNat : Nat) : Int)))
      replace HX := Lib.hid hX2
      clear hX2
      go_wp2
      go_roundw
      case rel => exact ⟨j + 1, by omega, by go_num, HX.out, HT.out, HB.out⟩
      case measure => simp [intOf]; omega
    · obtain rfl : j = n := by omega
      obtain ⟨tx, htx⟩ : ∃ tx : ByteArray, tx = ⟨(xl ta.data.toList tb.data.toList tc.data.toList j j).toArray⟩ := ⟨_, rfl⟩
      have hsx : tx.size = j := by rw [htx]; show (xl ta.data.toList tb.data.toList tc.data.toList j j).toArray.size = j; rw [List.size_toArray, xl_length]
      have hsm : sum tx.data.toList = sum ta.data.toList ^^^ sum tb.data.toList ^^^ sum tc.data.toList := by
        rw [htx]
        show sum (xl ta.data.toList tb.data.toList tc.data.toList j j) = _
        exact sum_xl _ _ _ j L0.out L1.out L2.out
      have HTX := Lib.hid htx; clear htx
      have HS := Lib.hid hsx; clear hsx
      have HM := Lib.hid hsm; clear hsm
      have Hk := Lib.hid hk; clear hk
      have N0 := Lib.hid n0; clear n0
      have k0 : (k ≤ ta.size) := by rw [Z0.out]; exact Hk.out
      have k1 : ((k : Int) ≤ (ta.size : Int)) := Int.ofNat_le.mpr k0
      have k2 : (0 : Int) ≤ (k : Int) := Int.natCast_nonneg k
      have y1 := xor_v (sum ta.data.toList) (sum tb.data.toList)
      have y2 := xor_v (sum ta.data.toList ^^^ sum tb.data.toList) (sum tc.data.toList)
      replace HT := Lib.hid (show TabAt wr.drew gt from HT.out)
      replace HX := Lib.hid (show ByAt wr.drew gx _ from HX.out)
      replace HB := Lib.hid (below_drew1 HB.out)
      go_wp2_with fail
      refine start_ (n := 31) (S := fun _ => True) (ds := []) #[false, false, false, false, false, false, false, false, false, false, false, false, false, false, false, false, false, false, false, false, false, false, false, false, false, false, false, false, false, false, false] (by kernel_rfl) rfl rfl trivial (fun hHeld => ?_)
      refine with_tabW rg5_11.tab rg5_11.bits (fun HT_ HW_ => ?_)
      generalize wr.drew = w' at HT HX HB ⊢
      refine one_ (i := 0) (N := some 63) #[true, false, false, false, false, false, false, false, false, false, false, false, false, false, false, false, false, false, false, false, false, false, false, false, false, false, false, false, false, false, false] rfl rfl (one_of HT_.out (by kernel_rfl)) (by decide) (fun K hK => ?_)
      refine goes_ Try.func9 (by kernel_rfl) rfl #[] (by rfl) rfl rfl (by (try simp only [List.map_toArray, List.map_cons, List.map_nil]); first | done | rfl) ?_
      refine (wakes_ok w').mono ?_
      rintro e w' ⟨rfl, hd⟩
      refine ⟨_, rfl, ?_⟩
      replace HT := Lib.hid (HT.out.below hd)
      replace HX := Lib.hid (HX.out.below hd)
      replace HB := Lib.hid (chain2 HB.out hd)
      clear hd
      refine hK.out _ _ (trivial) (fun hHeld => ?_)
      clear hK K
      refine norm_ (a' := ?_) ?_ ?_
      rotate_left
      · show Act.put _ (some 63) _ = _
        simp only [Act.put, List.setIfInBounds_toArray, List.set_cons_zero, List.set_cons_succ, i64_w, i32_w]
        try rfl
      refine pure_ (i := 1) (N := some 64) (v := ?_) (a' := ?_) #[true, true, false, false, false, false, false, false, false, false, false, false, false, false, false, false, false, false, false, false, false, false, false, false, false, false, false, false, false, false, false] rfl rfl (any_of HT_.out (by kernel_rfl)) (fun _ _ _ h => h) (Or.inl ⟨by rfl, ?_⟩) ?_ ?_
      rotate_left
      · intro w'
        go_simp
        try with_reducible rfl
      rotate_left
      · simp only [Act.put, List.setIfInBounds_toArray, List.set_cons_zero, List.set_cons_succ, i64_w, i32_w]
        try rfl
      refine pure_ (i := 3) (N := some 66) (v := ?_) (a' := ?_) #[true, true, false, true, false, false, false, false, false, false, false, false, false, false, false, false, false, false, false, false, false, false, false, false, false, false, false, false, false, false, false] rfl rfl (any_of HT_.out (by kernel_rfl)) (fun _ _ _ h => h) (Or.inl ⟨by rfl, ?_⟩) ?_ ?_
      rotate_left
      · intro w'
        go_simp
        try with_reducible rfl
      rotate_left
      · simp only [Act.put, List.setIfInBounds_toArray, List.set_cons_zero, List.set_cons_succ, i64_w, i32_w]
        try rfl
      refine pure_ (i := 4) (N := some 67) (v := ?_) (a' := ?_) #[true, true, false, true, true, false, false, false, false, false, false, false, false, false, false, false, false, false, false, false, false, false, false, false, false, false, false, false, false, false, false] rfl rfl (any_of HT_.out (by kernel_rfl)) (fun _ _ _ h => h) (Or.inl ⟨by rfl, ?_⟩) ?_ ?_
      rotate_left
      · intro w'
        go_simp
        try with_reducible rfl
      rotate_left
      · simp only [Act.put, List.setIfInBounds_toArray, List.set_cons_zero, List.set_cons_succ, i64_w, i32_w]
        try rfl
      refine pure_ (i := 5) (N := some 68) (v := ?_) (a' := ?_) #[true, true, false, true, true, true, false, false, false, false, false, false, false, false, false, false, false, false, false, false, false, false, false, false, false, false, false, false, false, false, false] rfl rfl (any_of HT_.out (by kernel_rfl)) (fun _ _ _ h => h) (Or.inl ⟨by rfl, ?_⟩) ?_ ?_
      rotate_left
      · intro w'
        go_simp
        try with_reducible rfl
      rotate_left
      · simp only [Act.put, List.setIfInBounds_toArray, List.set_cons_zero, List.set_cons_succ, i64_w, i32_w]
        try rfl
      refine pure_ (i := 7) (N := some 70) (v := ?_) (a' := ?_) #[true, true, false, true, true, true, false, true, false, false, false, false, false, false, false, false, false, false, false, false, false, false, false, false, false, false, false, false, false, false, false] rfl rfl (any_of HT_.out (by kernel_rfl)) (fun _ _ _ h => h) (Or.inl ⟨by rfl, ?_⟩) ?_ ?_
      rotate_left
      · intro w'
        go_simp
        try with_reducible rfl
      rotate_left
      · simp only [Act.put, List.setIfInBounds_toArray, List.set_cons_zero, List.set_cons_succ, i64_w, i32_w]
        try rfl
      refine pure_ (i := 8) (N := some 71) (v := ?_) (a' := ?_) #[true, true, false, true, true, true, false, true, true, false, false, false, false, false, false, false, false, false, false, false, false, false, false, false, false, false, false, false, false, false, false] rfl rfl (any_of HT_.out (by kernel_rfl)) (fun _ _ _ h => h) (Or.inl ⟨by rfl, ?_⟩) ?_ ?_
      rotate_left
      · intro w'
        go_simp
        try with_reducible rfl
      rotate_left
      · simp only [Act.put, List.setIfInBounds_toArray, List.set_cons_zero, List.set_cons_succ, i64_w, i32_w]
        try rfl
      refine pure_ (i := 9) (N := some 72) (v := ?_) (a' := ?_) #[true, true, false, true, true, true, false, true, true, true, false, false, false, false, false, false, false, false, false, false, false, false, false, false, false, false, false, false, false, false, false] rfl rfl (any_of HT_.out (by kernel_rfl)) (fun _ _ _ h => h) (Or.inl ⟨by rfl, ?_⟩) ?_ ?_
      rotate_left
      · intro w'
        go_simp
        try with_reducible rfl
      rotate_left
      · simp only [Act.put, List.setIfInBounds_toArray, List.set_cons_zero, List.set_cons_succ, i64_w, i32_w]
        try rfl
      refine pure_ (i := 12) (N := some 75) (v := ?_) (a' := ?_) #[true, true, false, true, true, true, false, true, true, true, false, false, true, false, false, false, false, false, false, false, false, false, false, false, false, false, false, false, false, false, false] rfl rfl (any_of HT_.out (by kernel_rfl)) (fun _ _ _ h => h) (Or.inl ⟨by rfl, ?_⟩) ?_ ?_
      rotate_left
      · intro w'
        go_simp
        try with_reducible rfl
      rotate_left
      · simp only [Act.put, List.setIfInBounds_toArray, List.set_cons_zero, List.set_cons_succ, i64_w, i32_w]
        try rfl
      refine one_ (i := 2) (N := some 65) #[true, true, true, true, true, true, false, true, true, true, false, false, true, false, false, false, false, false, false, false, false, false, false, false, false, false, false, false, false, false, false] rfl rfl (one_of HT_.out (by kernel_rfl)) (by decide) (fun K hK => ?_)
      refine goes_ Try.func16 (by kernel_rfl) rfl #[] (by rfl) rfl rfl (by (try simp only [List.map_toArray, List.map_cons, List.map_nil]); first | done | rfl) ?_
      refine (poly_First.calls _ w' rfl).mono ?_
      rintro e w' ⟨rfl, hd⟩
      refine ⟨_, rfl, ?_⟩
      replace HT := Lib.hid (HT.out.drawn hd)
      replace HX := Lib.hid (HX.out.below hd.below)
      replace HB := Lib.hid (chainD HB.out hd)
      clear hd
      refine hK.out _ _ (trivial) (fun hHeld => ?_)
      clear hK K
      refine norm_ (a' := ?_) ?_ ?_
      rotate_left
      · show Act.put _ (some 65) _ = _
        simp only [Act.put, List.setIfInBounds_toArray, List.set_cons_zero, List.set_cons_succ, i64_w, i32_w]
        try rfl
      refine one_ (i := 6) (N := some 69) #[true, true, true, true, true, true, true, true, true, true, false, false, true, false, false, false, false, false, false, false, false, false, false, false, false, false, false, false, false, false, false] rfl rfl (one_of HT_.out (by kernel_rfl)) (by decide) (fun K hK => ?_)
      refine goes_ Try.func12 (by kernel_rfl) rfl #[.pointer (some ⟨gt, 0, none⟩), .int .u32 (v32 (BitVec.allOnes 32)), .string (ta.extract 0 k)] (by rfl) rfl rfl (by (try simp only [List.map_toArray, List.map_cons, List.map_nil]); first | done | rfl) ?_
      refine (poly_More.calls gt (BitVec.allOnes 32) (ta.extract 0 k) (by rw [ByteArray.size_extract]; have := N0.out; have := Hk.out; omega) w' HT.out).mono ?_
      rintro e w' ⟨rfl, hd⟩
      refine ⟨_, rfl, ?_⟩
      replace HT := Lib.hid (HT.out.drawn hd)
      replace HX := Lib.hid (HX.out.below hd.below)
      replace HB := Lib.hid (chainD HB.out hd)
      clear hd
      refine hK.out _ _ (trivial) (fun hHeld => ?_)
      clear hK K
      refine norm_ (a' := ?_) ?_ ?_
      rotate_left
      · show Act.put _ (some 69) _ = _
        simp only [Act.put, List.setIfInBounds_toArray, List.set_cons_zero, List.set_cons_succ, i64_w, i32_w]
        try rfl
      refine one_ (i := 10) (N := some 73) #[true, true, true, true, true, true, true, true, true, true, true, false, true, false, false, false, false, false, false, false, false, false, false, false, false, false, false, false, false, false, false] rfl rfl (one_of HT_.out (by kernel_rfl)) (by decide) (fun K hK => ?_)
      refine goes_ Try.func12 (by kernel_rfl) rfl #[.pointer (some ⟨gt, 0, none⟩), .int .u32 (v32 (more (BitVec.allOnes 32) (ta.extract 0 k).data.toList)), .string (ta.extract k ta.size)] (by rfl) rfl rfl (by (try simp only [List.map_toArray, List.map_cons, List.map_nil]); first | done | rfl) ?_
      refine (poly_More.calls gt (more (BitVec.allOnes 32) (ta.extract 0 k).data.toList) (ta.extract k ta.size) (by rw [ByteArray.size_extract]; have := N0.out; have := Hk.out; have := Z0.out; omega) w' HT.out).mono ?_
      rintro e w' ⟨rfl, hd⟩
      refine ⟨_, rfl, ?_⟩
      replace HT := Lib.hid (HT.out.drawn hd)
      replace HX := Lib.hid (HX.out.below hd.below)
      replace HB := Lib.hid (chainD HB.out hd)
      clear hd
      rw [more_split ta _ k k0]
      refine hK.out _ _ (trivial) (fun hHeld => ?_)
      clear hK K
      refine norm_ (a' := ?_) ?_ ?_
      rotate_left
      · show Act.put _ (some 73) _ = _
        simp only [Act.put, List.setIfInBounds_toArray, List.set_cons_zero, List.set_cons_succ, i64_w, i32_w]
        try rfl
      refine one_ (i := 11) (N := some 74) #[true, true, true, true, true, true, true, true, true, true, true, true, true, false, false, false, false, false, false, false, false, false, false, false, false, false, false, false, false, false, false] rfl rfl (one_of HT_.out (by kernel_rfl)) (by decide) (fun K hK => ?_)
      refine goes_ Try.func14 (by kernel_rfl) rfl #[.int .u32 (v32 (more (BitVec.allOnes 32) ta.data.toList))] (by rfl) rfl rfl (by (try simp only [List.map_toArray, List.map_cons, List.map_nil]); first | done | rfl) ?_
      refine (poly_Last.calls (more (BitVec.allOnes 32) ta.data.toList) w').mono ?_
      rintro e w' ⟨rfl, hd⟩
      refine ⟨_, rfl, ?_⟩
      replace HT := Lib.hid (HT.out.drawn hd)
      replace HX := Lib.hid (HX.out.below hd.below)
      replace HB := Lib.hid (chainD HB.out hd)
      clear hd
      rw [show (~~~(more (BitVec.allOnes 32) ta.data.toList)) = sum ta.data.toList from rfl]
      refine hK.out _ _ (trivial) (fun hHeld => ?_)
      clear hK K
      refine norm_ (a' := ?_) ?_ ?_
      rotate_left
      · show Act.put _ (some 74) _ = _
        simp only [Act.put, List.setIfInBounds_toArray, List.set_cons_zero, List.set_cons_succ, i64_w, i32_w]
        try rfl
      refine one_ (i := 13) (N := some 76) #[true, true, true, true, true, true, true, true, true, true, true, true, true, true, false, false, false, false, false, false, false, false, false, false, false, false, false, false, false, false, false] rfl rfl (one_of HT_.out (by kernel_rfl)) (by decide) (fun K hK => ?_)
      refine goes_ Try.func10 (by kernel_rfl) rfl #[.pointer (some ⟨gt, 0, none⟩), .string ta] (by rfl) rfl rfl (by (try simp only [List.map_toArray, List.map_cons, List.map_nil]); first | done | rfl) ?_
      refine (poly_Sum.calls gt ta (by have := N0.out; have := Z0.out; omega) w' HT.out).mono ?_
      rintro e w' ⟨rfl, hd⟩
      refine ⟨_, rfl, ?_⟩
      replace HT := Lib.hid (HT.out.drawn hd)
      replace HX := Lib.hid (HX.out.below hd.below)
      replace HB := Lib.hid (chainD HB.out hd)
      clear hd
      refine hK.out _ _ (trivial) (fun hHeld => ?_)
      clear hK K
      refine norm_ (a' := ?_) ?_ ?_
      rotate_left
      · show Act.put _ (some 76) _ = _
        simp only [Act.put, List.setIfInBounds_toArray, List.set_cons_zero, List.set_cons_succ, i64_w, i32_w]
        try rfl
      refine pure_ (i := 14) (N := some 77) (v := ?_) (a' := ?_) #[true, true, true, true, true, true, true, true, true, true, true, true, true, true, true, false, false, false, false, false, false, false, false, false, false, false, false, false, false, false, false] rfl rfl (any_of HT_.out (by kernel_rfl)) (fun _ _ _ h => h) (Or.inl ⟨by rfl, ?_⟩) ?_ ?_
      rotate_left
      · intro w'
        go_simp
        try with_reducible rfl
      rotate_left
      · simp only [Act.put, List.setIfInBounds_toArray, List.set_cons_zero, List.set_cons_succ, i64_w, i32_w]
        try rfl
      refine pure_ (i := 15) (N := some 78) (v := ?_) (a' := ?_) #[true, true, true, true, true, true, true, true, true, true, true, true, true, true, true, true, false, false, false, false, false, false, false, false, false, false, false, false, false, false, false] rfl rfl (any_of HT_.out (by kernel_rfl)) (fun _ _ _ h => h) (Or.inl ⟨by rfl, ?_⟩) ?_ ?_
      rotate_left
      · intro w'
        go_simp
        try with_reducible rfl
      rotate_left
      · simp only [Act.put, List.setIfInBounds_toArray, List.set_cons_zero, List.set_cons_succ, i64_w, i32_w]
        try rfl
      refine pure_ (i := 16) (N := some 79) (v := ?_) (a' := ?_) #[true, true, true, true, true, true, true, true, true, true, true, true, true, true, true, true, true, false, false, false, false, false, false, false, false, false, false, false, false, false, false] rfl rfl (any_of HT_.out (by kernel_rfl)) (fun _ _ _ h => h) (Or.inl ⟨by rfl, ?_⟩) ?_ ?_
      rotate_left
      · intro w'
        go_simp
        try with_reducible rfl
      rotate_left
      · simp only [Act.put, List.setIfInBounds_toArray, List.set_cons_zero, List.set_cons_succ, i64_w, i32_w]
        try rfl
      refine pure_ (i := 17) (N := some 80) (v := ?_) (a' := ?_) #[true, true, true, true, true, true, true, true, true, true, true, true, true, true, true, true, true, true, false, false, false, false, false, false, false, false, false, false, false, false, false] rfl rfl (any_of HT_.out (by kernel_rfl)) (fun _ _ _ h => h) (Or.inl ⟨by rfl, ?_⟩) ?_ ?_
      rotate_left
      · intro w'
        go_simp
        try with_reducible rfl
      rotate_left
      · simp only [Act.put, List.setIfInBounds_toArray, List.set_cons_zero, List.set_cons_succ, i64_w, i32_w]
        try rfl
      refine pure_ (i := 20) (N := some 83) (v := ?_) (a' := ?_) #[true, true, true, true, true, true, true, true, true, true, true, true, true, true, true, true, true, true, false, false, true, false, false, false, false, false, false, false, false, false, false] rfl rfl (any_of HT_.out (by kernel_rfl)) (fun _ _ _ h => h) (Or.inl ⟨by rfl, ?_⟩) ?_ ?_
      rotate_left
      · intro w'
        go_simp
        try with_reducible rfl
      rotate_left
      · simp only [Act.put, List.setIfInBounds_toArray, List.set_cons_zero, List.set_cons_succ, i64_w, i32_w]
        try rfl
      refine pure_ (i := 22) (N := some 85) (v := ?_) (a' := ?_) #[true, true, true, true, true, true, true, true, true, true, true, true, true, true, true, true, true, true, false, false, true, false, true, false, false, false, false, false, false, false, false] rfl rfl (any_of HT_.out (by kernel_rfl)) (fun _ _ _ h => h) (Or.inl ⟨by rfl, ?_⟩) ?_ ?_
      rotate_left
      · intro w'
        go_simp
        try with_reducible rfl
      rotate_left
      · simp only [Act.put, List.setIfInBounds_toArray, List.set_cons_zero, List.set_cons_succ, i64_w, i32_w]
        try rfl
      refine pure_ (i := 25) (N := some 88) (v := ?_) (a' := ?_) #[true, true, true, true, true, true, true, true, true, true, true, true, true, true, true, true, true, true, false, false, true, false, true, false, false, true, false, false, false, false, false] rfl rfl (any_of HT_.out (by kernel_rfl)) (fun _ _ _ h => h) (Or.inl ⟨by rfl, ?_⟩) ?_ ?_
      rotate_left
      · intro w'
        go_simp
        try with_reducible rfl
      rotate_left
      · simp only [Act.put, List.setIfInBounds_toArray, List.set_cons_zero, List.set_cons_succ, i64_w, i32_w]
        try rfl
      refine one_ (i := 18) (N := some 81) #[true, true, true, true, true, true, true, true, true, true, true, true, true, true, true, true, true, true, true, false, true, false, true, false, false, true, false, false, false, false, false] rfl rfl (one_of HT_.out (by kernel_rfl)) (by decide) (fun K hK => ?_)
      refine value_ (v := .string tx) (w1 := w') (by rfl) rfl ?_ ?_
      · (have hcv := HX.out.conv (cap := j); rw [xl_length, ← HTX.out] at hcv; go_simp)
      refine hK.out _ _ (trivial) (fun hHeld => ?_)
      clear hK K
      refine norm_ (a' := ?_) ?_ ?_
      rotate_left
      · show Act.put _ (some 81) _ = _
        simp only [Act.put, List.setIfInBounds_toArray, List.set_cons_zero, List.set_cons_succ, i64_w, i32_w]
        try rfl
      refine one_ (i := 19) (N := some 82) #[true, true, true, true, true, true, true, true, true, true, true, true, true, true, true, true, true, true, true, true, true, false, true, false, false, true, false, false, false, false, false] rfl rfl (one_of HT_.out (by kernel_rfl)) (by decide) (fun K hK => ?_)
      refine goes_ Try.func10 (by kernel_rfl) rfl #[.pointer (some ⟨gt, 0, none⟩), .string tx] (by rfl) rfl rfl (by (try simp only [List.map_toArray, List.map_cons, List.map_nil]); first | done | rfl) ?_
      refine (poly_Sum.calls gt tx (by have := N0.out; have := HS.out; omega) w' HT.out).mono ?_
      rintro e w' ⟨rfl, hd⟩
      refine ⟨_, rfl, ?_⟩
      replace HT := Lib.hid (HT.out.drawn hd)
      replace HX := Lib.hid (HX.out.below hd.below)
      replace HB := Lib.hid (chainD HB.out hd)
      clear hd
      rw [HM.out]
      refine hK.out _ _ (trivial) (fun hHeld => ?_)
      clear hK K
      refine norm_ (a' := ?_) ?_ ?_
      rotate_left
      · show Act.put _ (some 82) _ = _
        simp only [Act.put, List.setIfInBounds_toArray, List.set_cons_zero, List.set_cons_succ, i64_w, i32_w]
        try rfl
      refine one_ (i := 21) (N := some 84) #[true, true, true, true, true, true, true, true, true, true, true, true, true, true, true, true, true, true, true, true, true, true, true, false, false, true, false, false, false, false, false] rfl rfl (one_of HT_.out (by kernel_rfl)) (by decide) (fun K hK => ?_)
      refine goes_ Try.func10 (by kernel_rfl) rfl #[.pointer (some ⟨gt, 0, none⟩), .string ta] (by rfl) rfl rfl (by (try simp only [List.map_toArray, List.map_cons, List.map_nil]); first | done | rfl) ?_
      refine (poly_Sum.calls gt ta (by have := N0.out; have := Z0.out; omega) w' HT.out).mono ?_
      rintro e w' ⟨rfl, hd⟩
      refine ⟨_, rfl, ?_⟩
      replace HT := Lib.hid (HT.out.drawn hd)
      replace HX := Lib.hid (HX.out.below hd.below)
      replace HB := Lib.hid (chainD HB.out hd)
      clear hd
      refine hK.out _ _ (trivial) (fun hHeld => ?_)
      clear hK K
      refine norm_ (a' := ?_) ?_ ?_
      rotate_left
      · show Act.put _ (some 84) _ = _
        simp only [Act.put, List.setIfInBounds_toArray, List.set_cons_zero, List.set_cons_succ, i64_w, i32_w]
        try rfl
      refine one_ (i := 23) (N := some 86) #[true, true, true, true, true, true, true, true, true, true, true, true, true, true, true, true, true, true, true, true, true, true, true, true, false, true, false, false, false, false, false] rfl rfl (one_of HT_.out (by kernel_rfl)) (by decide) (fun K hK => ?_)
      refine goes_ Try.func10 (by kernel_rfl) rfl #[.pointer (some ⟨gt, 0, none⟩), .string tb] (by rfl) rfl rfl (by (try simp only [List.map_toArray, List.map_cons, List.map_nil]); first | done | rfl) ?_
      refine (poly_Sum.calls gt tb (by have := N0.out; have := Z1.out; omega) w' HT.out).mono ?_
      rintro e w' ⟨rfl, hd⟩
      refine ⟨_, rfl, ?_⟩
      replace HT := Lib.hid (HT.out.drawn hd)
      replace HX := Lib.hid (HX.out.below hd.below)
      replace HB := Lib.hid (chainD HB.out hd)
      clear hd
      refine hK.out _ _ (trivial) (fun hHeld => ?_)
      clear hK K
      refine norm_ (a' := ?_) ?_ ?_
      rotate_left
      · show Act.put _ (some 86) _ = _
        simp only [Act.put, List.setIfInBounds_toArray, List.set_cons_zero, List.set_cons_succ, i64_w, i32_w]
        try rfl
      refine pure_ (i := 24) (N := some 87) (v := ?_) (a' := ?_) #[true, true, true, true, true, true, true, true, true, true, true, true, true, true, true, true, true, true, true, true, true, true, true, true, true, true, false, false, false, false, false] rfl rfl (any_of HT_.out (by kernel_rfl)) (fun _ _ _ h => h) (Or.inl ⟨by rfl, ?_⟩) ?_ ?_
      rotate_left
      · intro w'
        go_simp
        try with_reducible rfl
      rotate_left
      · simp only [Act.put, List.setIfInBounds_toArray, List.set_cons_zero, List.set_cons_succ, i64_w, i32_w]
        try rfl
      refine one_ (i := 26) (N := some 89) #[true, true, true, true, true, true, true, true, true, true, true, true, true, true, true, true, true, true, true, true, true, true, true, true, true, true, true, false, false, false, false] rfl rfl (one_of HT_.out (by kernel_rfl)) (by decide) (fun K hK => ?_)
      refine goes_ Try.func10 (by kernel_rfl) rfl #[.pointer (some ⟨gt, 0, none⟩), .string tc] (by rfl) rfl rfl (by (try simp only [List.map_toArray, List.map_cons, List.map_nil]); first | done | rfl) ?_
      refine (poly_Sum.calls gt tc (by have := N0.out; have := Z2.out; omega) w' HT.out).mono ?_
      rintro e w' ⟨rfl, hd⟩
      refine ⟨_, rfl, ?_⟩
      replace HT := Lib.hid (HT.out.drawn hd)
      replace HX := Lib.hid (HX.out.below hd.below)
      replace HB := Lib.hid (chainD HB.out hd)
      clear hd
      refine hK.out _ _ (trivial) (fun hHeld => ?_)
      clear hK K
      refine norm_ (a' := ?_) ?_ ?_
      rotate_left
      · show Act.put _ (some 89) _ = _
        simp only [Act.put, List.setIfInBounds_toArray, List.set_cons_zero, List.set_cons_succ, i64_w, i32_w]
        try rfl
      refine pure_ (i := 27) (N := some 90) (v := ?_) (a' := ?_) #[true, true, true, true, true, true, true, true, true, true, true, true, true, true, true, true, true, true, true, true, true, true, true, true, true, true, true, true, false, false, false] rfl rfl (any_of HT_.out (by kernel_rfl)) (fun _ _ _ h => h) (Or.inl ⟨by rfl, ?_⟩) ?_ ?_
      rotate_left
      · intro w'
        go_simp
        try with_reducible rfl
      rotate_left
      · simp only [Act.put, List.setIfInBounds_toArray, List.set_cons_zero, List.set_cons_succ, i64_w, i32_w]
        try rfl
      refine pure_ (i := 28) (N := some 91) (v := ?_) (a' := ?_) #[true, true, true, true, true, true, true, true, true, true, true, true, true, true, true, true, true, true, true, true, true, true, true, true, true, true, true, true, true, false, false] rfl rfl (any_of HT_.out (by kernel_rfl)) (fun _ _ _ h => h) (Or.inl ⟨by rfl, ?_⟩) ?_ ?_
      rotate_left
      · intro w'
        go_simp
        try with_reducible rfl
      rotate_left
      · simp only [Act.put, List.setIfInBounds_toArray, List.set_cons_zero, List.set_cons_succ, i64_w, i32_w]
        try rfl
      refine pure_ (i := 29) (N := some 92) (v := ?_) (a' := ?_) #[true, true, true, true, true, true, true, true, true, true, true, true, true, true, true, true, true, true, true, true, true, true, true, true, true, true, true, true, true, true, false] rfl rfl (any_of HT_.out (by kernel_rfl)) (fun _ _ _ h => h) (Or.inl ⟨by rfl, ?_⟩) ?_ ?_
      rotate_left
      · intro w'
        go_simp
        try with_reducible rfl
      rotate_left
      · simp only [Act.put, List.setIfInBounds_toArray, List.set_cons_zero, List.set_cons_succ, i64_w, i32_w]
        try rfl
      refine pure_ (i := 30) (N := some 4) (v := ?_) (a' := ?_) #[true, true, true, true, true, true, true, true, true, true, true, true, true, true, true, true, true, true, true, true, true, true, true, true, true, true, true, true, true, true, true] rfl rfl (any_of HT_.out (by kernel_rfl)) (fun _ _ _ h => h) (Or.inl ⟨by rfl, ?_⟩) ?_ ?_
      rotate_left
      · intro w'
        go_simp
        try with_reducible rfl
      rotate_left
      · simp only [Act.put, List.setIfInBounds_toArray, List.set_cons_zero, List.set_cons_succ, i64_w, i32_w]
        try rfl
      refine done_ (done_of HT_.out (by kernel_rfl)) ?_
      go_wp2
      go_ret
      exact ⟨by simp, HB.out⟩

/-- The walk, as the row takes it. -/
theorem polyParts_law (s0 s1 s2 : ByteArray) (a1 : Int) (W : World) (w1 : (Lit.int .u16 a1).wf = true) :
    Calls Try.prog 5 #[.agg #[.string s0, .string s1, .string s2], .int .u16 a1] W fun e w' => e = .returned (.bool true) ∧ Below W.heap.size W w' := by
  have b1 : 0 ≤ a1 ∧ a1 < 65536 := by simp [Lit.wf, IntKind.min, IntKind.max, IntKind.signed, IntKind.bits] at w1; omega
  obtain ⟨n, rfl⟩ := Int.eq_ofNat_of_zero_le b1.1
  exact polyParts_walk s0 s1 s2 n (by omega) W
end Go.Proofs.Ytbfmdfolboankaa
