/- PolyRest: behind a text and the bytes of its check, most significant first, the state is the same, whatever the text: the walk. No conditions beyond the form's own reach. -/
import Derived.Test.YtbfmdfolboankaaXPolyWakes
import Derived.Test.YtbfmdfolboankaaXPolyRef
namespace Go.Proofs.Ytbfmdfolboankaa
open Go.RowKit Go.Proofs.YtbfmdfolboankaaW.PrintWords Go.Proofs.YtbfmdfolboankaaW.PrintLast Go.Proofs.YtbfmdfolboankaaW.PrintMore Go.Proofs.Ytbfmdfolboankaa.P Go.Proofs.Ytbfmdfolboankaa.PoS
set_option linter.unusedVariables false
set_option linter.unusedSimpArgs false
def rg17_2.T : Bool × List (List Nat × List Nat) := (true, [([], []), ([], []), ([0, 1, 0], [0, 1]), ([], []), ([3], [3]), ([4], [4]), ([], []), ([6], [6]), ([7], [7]), ([], []), ([9], [9]), ([10], [10]), ([], []), ([12], [12]), ([5, 8, 11, 13], [5, 8, 11, 13]), ([14], [14]), ([2, 15, 2], [2, 15]), ([16, 16, 0, 1, 2, 3, 4, 5, 6, 7, 8, 9, 10, 11, 12, 13, 14, 15, 16], [16])])
def rg17_2.B : List Nat := [0, 0, 3, 0, 8, 24, 0, 64, 192, 0, 512, 1536, 0, 4096, 16376, 32760, 65535, 131071]
theorem rg17_2.tab : rtab .any (opsOf Try.f17 2) = rg17_2.T := by kernel_rfl
theorem rg17_2.bits : waitsOk rg17_2.T.2 rg17_2.B = true := by kernel_rfl
def rg7_3.T : Bool × List (List Nat × List Nat) := (true, [([], []), ([0, 0], [0]), ([1], [1]), ([1], [1]), ([1], [1]), ([4, 1], [1, 4]), ([5, 1], [1, 5]), ([3, 6, 1], [1, 3, 6]), ([2, 7, 1, 1], [1, 2, 7]), ([1], [1]), ([1], [1]), ([1], [1]), ([11, 1], [1, 11]), ([12, 1], [1, 12]), ([10, 13, 1], [1, 10, 13]), ([9, 14, 8, 1], [1, 9, 14]), ([8, 15, 1], [1, 8, 15]), ([1, 16], [1, 16]), ([17, 15, 0, 1, 2, 3, 4, 5, 6, 7, 8, 9, 10, 11, 12, 13, 14, 15, 16, 17], [17])])
def rg7_3.B : List Nat := [0, 1, 3, 3, 3, 19, 51, 123, 255, 3, 3, 3, 2051, 6147, 15363, 32767, 65535, 131071, 262143]
theorem rg7_3.tab : rtab .any (opsOf Try.f7 3) = rg7_3.T := by kernel_rfl
theorem rg7_3.bits : waitsOk rg7_3.T.2 rg7_3.B = true := by kernel_rfl
namespace PoS
def byteOf (y : BitVec 32) (k : Nat) : UInt8 := UInt8.ofNat (y.toNat / 2 ^ k % 256)
theorem up_shift (c : UInt8) (k : Nat) (hk : k ≤ 24) : up (c.toBitVec.setWidth 32 <<< (24 - k)) k = c.toBitVec.setWidth 32 <<< 24 := by
  have hc := c.toNat_lt
  have e : c.toBitVec.toNat = c.toNat := rfl
  rw [up_low _ k k (Nat.le_refl _) ?_ (by omega), ← BitVec.shiftLeft_add, show 24 - k + k = 24 from by omega]
  rw [BitVec.toNat_shiftLeft, BitVec.toNat_setWidth, e, Nat.shiftLeft_eq, Nat.mod_eq_of_lt (show c.toNat < 2 ^ 32 by omega)]
  refine Nat.lt_of_le_of_lt (Nat.mod_le _ _) ?_
  have h1 : 2 ^ 8 * 2 ^ (24 - k) = 2 ^ (32 - k) := by rw [← Nat.pow_add]; congr 1; omega
  rw [← h1]
  exact Nat.mul_lt_mul_of_pos_right hc (Nat.two_pow_pos _)
theorem next_at (x : BitVec 32) (c : UInt8) (k : Nat) (hk : k ≤ 24) : next (up x k) c = up (x ^^^ (c.toBitVec.setWidth 32 <<< (24 - k))) (k + 8) := by
  rw [next_up, ← up_shift c k hk, ← up_xor, ← up_add]
theorem byte_bv (y : BitVec 32) (k : Nat) : (byteOf y k).toBitVec.setWidth 32 = (y >>> k) &&& 255#32 := by
  apply BitVec.eq_of_toNat_eq
  have e : (byteOf y k).toBitVec.toNat = y.toNat / 2 ^ k % 256 := by
    show (UInt8.ofNat (y.toNat / 2 ^ k % 256)).toNat = _
    simp
  rw [BitVec.toNat_setWidth, e, BitVec.toNat_and, BitVec.toNat_ushiftRight, Nat.shiftRight_eq_div_pow]
  have h1 : (255#32).toNat = 2 ^ 8 - 1 := rfl
  rw [h1, Nat.and_two_pow_sub_one_eq_mod]
  omega
theorem parts_bv (y : BitVec 32) : ((y >>> 24) &&& 255#32) <<< 24 ^^^ ((y >>> 16) &&& 255#32) <<< 16 ^^^ ((y >>> 8) &&& 255#32) <<< 8 ^^^ ((y >>> 0) &&& 255#32) <<< 0 = y := by
  have hm : ∀ i : Fin 32, (255#32).getLsbD i.val = decide (i.val < 8) := by decide
  have hm2 : ∀ i, i < 32 → (255#32).getLsbD i = decide (i < 8) := fun i hi => hm ⟨i, hi⟩
  apply BitVec.eq_of_getLsbD_eq
  intro i hi
  simp only [BitVec.getLsbD_xor, BitVec.getLsbD_and, BitVec.getLsbD_shiftLeft, BitVec.getLsbD_ushiftRight, hm2 i hi, hm2 (i - 8) (by omega), hm2 (i - 16) (by omega), hm2 (i - 24) (by omega), hm2 (i - 0) (by omega)]
  obtain h | h | h | h : i < 8 ∨ (8 ≤ i ∧ i < 16) ∨ (16 ≤ i ∧ i < 24) ∨ 24 ≤ i := by omega
  · simp [h, show i < 16 from by omega, show i < 24 from by omega, hi]
  · simp [show ¬ i < 8 from by omega, h.2, show i < 24 from by omega, hi, show i - 8 < 8 from by omega, show 8 + (i - 8) = i from by omega]
  · simp [show ¬ i < 8 from by omega, show ¬ i < 16 from by omega, h.2, hi, show ¬ i - 8 < 8 from by omega, show i - 16 < 8 from by omega, show 16 + (i - 16) = i from by omega]
  · simp [show ¬ i < 8 from by omega, show ¬ i < 16 from by omega, show ¬ i < 24 from by omega, hi, show ¬ i - 8 < 8 from by omega, show ¬ i - 16 < 8 from by omega, show i - 24 < 8 from by omega, show 24 + (i - 24) = i from by omega]
theorem more_four (x y : BitVec 32) : more x [byteOf y 24, byteOf y 16, byteOf y 8, byteOf y 0] = up (x ^^^ y) 32 := by
  have h := parts_bv y
  rw [← byte_bv, ← byte_bv, ← byte_bv, ← byte_bv] at h
  have s1 : next x (byteOf y 24) = up (x ^^^ (byteOf y 24).toBitVec.setWidth 32 <<< 24) 8 := next_at x _ 0 (by omega)
  generalize (byteOf y 24).toBitVec.setWidth 32 <<< 24 = A at *
  have s2 : next (up (x ^^^ A) 8) (byteOf y 16) = up (x ^^^ A ^^^ (byteOf y 16).toBitVec.setWidth 32 <<< 16) 16 := next_at _ _ 8 (by omega)
  generalize (byteOf y 16).toBitVec.setWidth 32 <<< 16 = B at *
  have s3 : next (up (x ^^^ A ^^^ B) 16) (byteOf y 8) = up (x ^^^ A ^^^ B ^^^ (byteOf y 8).toBitVec.setWidth 32 <<< 8) 24 := next_at _ _ 16 (by omega)
  generalize (byteOf y 8).toBitVec.setWidth 32 <<< 8 = C at *
  have s4 : next (up (x ^^^ A ^^^ B ^^^ C) 24) (byteOf y 0) = up (x ^^^ A ^^^ B ^^^ C ^^^ (byteOf y 0).toBitVec.setWidth 32 <<< 0) 32 := next_at _ _ 24 (by omega)
  generalize (byteOf y 0).toBitVec.setWidth 32 <<< 0 = D at *
  rw [more_cons, more_cons, more_cons, more_cons, more_nil, s1, s2, s3, s4]
  have e : x ^^^ A ^^^ B ^^^ C ^^^ D = x ^^^ (A ^^^ B ^^^ C ^^^ D) := by ac_rfl
  rw [e, h]
theorem xor_not (x : BitVec 32) : x ^^^ ~~~x = BitVec.allOnes 32 := by
  apply BitVec.eq_of_getLsbD_eq
  intro i hi
  rw [BitVec.getLsbD_xor, BitVec.getLsbD_not, BitVec.getLsbD_allOnes]
  cases x.getLsbD i <;> simp [hi]
theorem rest_const (l : List UInt8) : more (more (BitVec.allOnes 32) l) [byteOf (sum l) 24, byteOf (sum l) 16, byteOf (sum l) 8, byteOf (sum l) 0] = up (BitVec.allOnes 32) 32 := by
  rw [more_four]
  unfold sum
  rw [xor_not]
theorem byte_v (y : BitVec 32) (k : Nat) (m : Int) (hm : m = ((2 ^ k : Nat) : Int)) : IntKind.u8.wrap (v32 y / m) = (((byteOf y k).toNat : Nat) : Int) := by
  subst hm
  rw [IntKind.wrap_u8]
  unfold byteOf v32
  rw [← Int.natCast_ediv]
  simp
theorem byte_v0 (y : BitVec 32) : IntKind.u8.wrap (v32 y) = (((byteOf y 0).toNat : Nat) : Int) := by
  have h := byte_v y 0 1 rfl
  rwa [Int.ediv_one] at h
end PoS
/-- Four bytes in a new block. -/
def four (b3 b2 b1 b0 : UInt8) : Obj := .cells #[.int .u8 ((b3.toNat : Nat) : Int), .int .u8 ((b2.toNat : Nat) : Int), .int .u8 ((b1.toNat : Nat) : Int), .int .u8 ((b0.toNat : Nat) : Int)] 5
def FourAt (w : World) (g : Nat) (b3 b2 b1 b0 : UInt8) : Prop := ∀ i, i < 4 → w.cell? ⟨g, i, none⟩ = some (.int .u8 (([((b3.toNat : Nat) : Int), ((b2.toNat : Nat) : Int), ((b1.toNat : Nat) : Int), ((b0.toNat : Nat) : Int)] : List Int).getD i 0))
theorem FourAt.new (w : World) (b3 b2 b1 b0 : UInt8) : FourAt (w.alloc (four b3 b2 b1 b0)) w.heap.size b3 b2 b1 b0 := by
  intro i hi
  unfold four
  rw [World.cell?_alloc_at _ _ _ _ rfl]
  obtain rfl | rfl | rfl | rfl : i = 0 ∨ i = 1 ∨ i = 2 ∨ i = 3 := by omega
  all_goals rfl
theorem FourAt.below {w w' : World} {g : Nat} {b3 b2 b1 b0 : UInt8} (h : FourAt w g b3 b2 b1 b0) (hb : Below w.heap.size w w') : FourAt w' g b3 b2 b1 b0 := fun i hi => pw_cell_below hb (h i hi)
theorem FourAt.conv {w : World} {g : Nat} {b3 b2 b1 b0 : UInt8} (h : FourAt w g b3 b2 b1 b0) : (convert 36 9 (.slice (some ⟨g, 0, none⟩) 4 4)).run Try.prog w = .ok (.string ⟨#[b3, b2, b1, b0]⟩) w := by
  have e := run_convert_bytes_arg (P := Try.prog) w 36 5 Try.underlying36 Try.underlying5 g 0 4 4 [((b3.toNat : Nat) : Int), ((b2.toNat : Nat) : Int), ((b1.toNat : Nat) : Int), ((b0.toNat : Nat) : Int)] rfl (fun i hi => by rw [Nat.zero_add]; exact h i hi) 9 Try.underlying9
  rw [e]
  simp [strOfNums]

set_option maxHeartbeats 4000000 in
set_option maxRecDepth 100000 in
theorem rest_walk (g : Nat) (s : ByteArray) (hs : s.size ≤ 300) (w : World) (hT : TabAt w g) :
    Calls Try.prog 17 #[.string s, .pointer (some ⟨g, 0, none⟩)] w fun e w' => e = .returned (.int .u32 (v32 (up (BitVec.allOnes 32) 32))) ∧ Below w.heap.size w w' := by
  have HA := Lib.hid hT; clear hT
  have Hs := Lib.hid hs; clear hs
  go_enter Try.func17, Try.ntmps17
  go_wp2_with fail
  refine (poly_Sum.calls g s (by have := Hs.out; omega) w HA.out).mono ?_
  rintro e w' ⟨rfl, hd⟩
  have HB := Lib.hid hd.below
  replace HA := Lib.hid (HA.out.drawn hd)
  clear hd
  have hrc := rest_const s.data.toList
  generalize hc : sum s.data.toList = c at hrc ⊢
  clear hc
  have Hrc := Lib.hid hrc; clear hrc
  go_wp2_with fail
  have e24 := byte_v c 24 16777216 rfl
  have e16 := byte_v c 16 65536 rfl
  have e8 := byte_v c 8 256 rfl
  have e0 := byte_v0 c
  generalize PoS.byteOf c 24 = b3 at *
  generalize PoS.byteOf c 16 = b2 at *
  generalize PoS.byteOf c 8 = b1 at *
  generalize PoS.byteOf c 0 = b0 at *
  replace HA := Lib.hid (show TabAt w'.drew g from HA.out)
  replace HB := Lib.hid (below_drew1 HB.out)
  refine start_ (n := 18) (S := fun _ => True) (ds := []) #[false, false, false, false, false, false, false, false, false, false, false, false, false, false, false, false, false, false] (by kernel_rfl) rfl rfl trivial (fun hHeld => ?_)
  refine with_tabW rg17_2.tab rg17_2.bits (fun HT_ HW_ => ?_)
  generalize w'.drew = w' at HA HB ⊢
  refine pure_ (i := 1) (N := some 8) (v := ?_) (a' := ?_) #[false, true, false, false, false, false, false, false, false, false, false, false, false, false, false, false, false, false] rfl rfl (any_of HT_.out (by kernel_rfl)) (fun _ _ _ h => h) (Or.inl ⟨by rfl, ?_⟩) ?_ ?_
  rotate_left
  · intro w'
    go_simp
    try with_reducible rfl
  rotate_left
  · simp only [Act.put, List.setIfInBounds_toArray, List.set_cons_zero, List.set_cons_succ, i64_w, i32_w]
    try rfl
  refine pure_ (i := 3) (N := some 10) (v := ?_) (a' := ?_) #[false, true, false, true, false, false, false, false, false, false, false, false, false, false, false, false, false, false] rfl rfl (any_of HT_.out (by kernel_rfl)) (fun _ _ _ h => h) (Or.inl ⟨by rfl, ?_⟩) ?_ ?_
  rotate_left
  · intro w'
    go_simp
    try with_reducible rfl
  rotate_left
  · simp only [Act.put, List.setIfInBounds_toArray, List.set_cons_zero, List.set_cons_succ, i64_w, i32_w]
    try rfl
  refine pure_ (i := 4) (N := some 11) (v := ?_) (a' := ?_) #[false, true, false, true, true, false, false, false, false, false, false, false, false, false, false, false, false, false] rfl rfl (any_of HT_.out (by kernel_rfl)) (fun _ _ _ h => h) (Or.inl ⟨by rfl, ?_⟩) ?_ ?_
  rotate_left
  · intro w'
    go_simp
    try with_reducible rfl
  rotate_left
  · simp only [Act.put, List.setIfInBounds_toArray, List.set_cons_zero, List.set_cons_succ, i64_w, i32_w]
    try rfl
  refine pure_ (i := 5) (N := some 12) (v := ?_) (a' := ?_) #[false, true, false, true, true, true, false, false, false, false, false, false, false, false, false, false, false, false] rfl rfl (any_of HT_.out (by kernel_rfl)) (fun _ _ _ h => h) (Or.inl ⟨by rfl, ?_⟩) ?_ ?_
  rotate_left
  · intro w'
    go_simp
    try with_reducible rfl
  rotate_left
  · simp only [Act.put, List.setIfInBounds_toArray, List.set_cons_zero, List.set_cons_succ, i64_w, i32_w]
    try rfl
  refine pure_ (i := 6) (N := some 13) (v := ?_) (a' := ?_) #[false, true, false, true, true, true, true, false, false, false, false, false, false, false, false, false, false, false] rfl rfl (any_of HT_.out (by kernel_rfl)) (fun _ _ _ h => h) (Or.inl ⟨by rfl, ?_⟩) ?_ ?_
  rotate_left
  · intro w'
    go_simp
    try with_reducible rfl
  rotate_left
  · simp only [Act.put, List.setIfInBounds_toArray, List.set_cons_zero, List.set_cons_succ, i64_w, i32_w]
    try rfl
  refine pure_ (i := 7) (N := some 14) (v := ?_) (a' := ?_) #[false, true, false, true, true, true, true, true, false, false, false, false, false, false, false, false, false, false] rfl rfl (any_of HT_.out (by kernel_rfl)) (fun _ _ _ h => h) (Or.inl ⟨by rfl, ?_⟩) ?_ ?_
  rotate_left
  · intro w'
    go_simp
    try with_reducible rfl
  rotate_left
  · simp only [Act.put, List.setIfInBounds_toArray, List.set_cons_zero, List.set_cons_succ, i64_w, i32_w]
    try rfl
  refine pure_ (i := 8) (N := some 15) (v := ?_) (a' := ?_) #[false, true, false, true, true, true, true, true, true, false, false, false, false, false, false, false, false, false] rfl rfl (any_of HT_.out (by kernel_rfl)) (fun _ _ _ h => h) (Or.inl ⟨by rfl, ?_⟩) ?_ ?_
  rotate_left
  · intro w'
    go_simp
    try with_reducible rfl
  rotate_left
  · simp only [Act.put, List.setIfInBounds_toArray, List.set_cons_zero, List.set_cons_succ, i64_w, i32_w]
    try rfl
  refine pure_ (i := 9) (N := some 16) (v := ?_) (a' := ?_) #[false, true, false, true, true, true, true, true, true, true, false, false, false, false, false, false, false, false] rfl rfl (any_of HT_.out (by kernel_rfl)) (fun _ _ _ h => h) (Or.inl ⟨by rfl, ?_⟩) ?_ ?_
  rotate_left
  · intro w'
    go_simp
    try with_reducible rfl
  rotate_left
  · simp only [Act.put, List.setIfInBounds_toArray, List.set_cons_zero, List.set_cons_succ, i64_w, i32_w]
    try rfl
  refine pure_ (i := 10) (N := some 17) (v := ?_) (a' := ?_) #[false, true, false, true, true, true, true, true, true, true, true, false, false, false, false, false, false, false] rfl rfl (any_of HT_.out (by kernel_rfl)) (fun _ _ _ h => h) (Or.inl ⟨by rfl, ?_⟩) ?_ ?_
  rotate_left
  · intro w'
    go_simp
    try with_reducible rfl
  rotate_left
  · simp only [Act.put, List.setIfInBounds_toArray, List.set_cons_zero, List.set_cons_succ, i64_w, i32_w]
    try rfl
  refine pure_ (i := 11) (N := some 18) (v := ?_) (a' := ?_) #[false, true, false, true, true, true, true, true, true, true, true, true, false, false, false, false, false, false] rfl rfl (any_of HT_.out (by kernel_rfl)) (fun _ _ _ h => h) (Or.inl ⟨by rfl, ?_⟩) ?_ ?_
  rotate_left
  · intro w'
    go_simp
    try with_reducible rfl
  rotate_left
  · simp only [Act.put, List.setIfInBounds_toArray, List.set_cons_zero, List.set_cons_succ, i64_w, i32_w]
    try rfl
  refine pure_ (i := 12) (N := some 19) (v := ?_) (a' := ?_) #[false, true, false, true, true, true, true, true, true, true, true, true, true, false, false, false, false, false] rfl rfl (any_of HT_.out (by kernel_rfl)) (fun _ _ _ h => h) (Or.inl ⟨by rfl, ?_⟩) ?_ ?_
  rotate_left
  · intro w'
    go_simp
    try with_reducible rfl
  rotate_left
  · simp only [Act.put, List.setIfInBounds_toArray, List.set_cons_zero, List.set_cons_succ, i64_w, i32_w]
    try rfl
  refine pure_ (i := 13) (N := some 20) (v := ?_) (a' := ?_) #[false, true, false, true, true, true, true, true, true, true, true, true, true, true, false, false, false, false] rfl rfl (any_of HT_.out (by kernel_rfl)) (fun _ _ _ h => h) (Or.inl ⟨by rfl, ?_⟩) ?_ ?_
  rotate_left
  · intro w'
    go_simp
    try with_reducible rfl
  rotate_left
  · simp only [Act.put, List.setIfInBounds_toArray, List.set_cons_zero, List.set_cons_succ, i64_w, i32_w]
    try rfl
  refine two_ (i := 0) (j := 14) (Ni := some 7) (Nj := some 21) #[true, true, false, true, true, true, true, true, true, true, true, true, true, true, false, false, false, false] #[false, true, false, true, true, true, true, true, true, true, true, true, true, true, true, false, false, false] rfl rfl rfl rfl  (two_of HT_.out (by kernel_rfl)) (by decide) (by decide)  (fun K hK => ?_) (fun K hK => ?_) 
  · refine goes_ Try.func16 (by kernel_rfl) rfl #[] (by rfl) rfl rfl (by (try simp only [List.map_toArray, List.map_cons, List.map_nil]); first | done | rfl) ?_
    refine (poly_First.calls _ w' rfl).mono ?_
    rintro e w' ⟨rfl, hd⟩
    refine ⟨_, rfl, ?_⟩
    replace HA := Lib.hid (HA.out.drawn hd)
    replace HB := Lib.hid (chainD HB.out hd)
    (try replace HC := Lib.hid (HC.out.below hd.below))
    clear hd
    refine hK.out _ _ (trivial) (fun hHeld => ?_)
    clear hK K
    refine norm_ (a' := ?_) ?_ ?_
    rotate_left
    · show Act.put _ (some 7) _ = _
      simp only [Act.put, List.setIfInBounds_toArray, List.set_cons_zero, List.set_cons_succ, i64_w, i32_w]
      try rfl
    refine two_ (i := 2) (j := 14) (Ni := some 9) (Nj := some 21) #[true, true, true, true, true, true, true, true, true, true, true, true, true, true, false, false, false, false] #[true, true, false, true, true, true, true, true, true, true, true, true, true, true, true, false, false, false] rfl rfl rfl rfl  (two_of HT_.out (by kernel_rfl)) (by decide) (by decide)  (fun K hK => ?_) (fun K hK => ?_) 
    · refine goes_ Try.func12 (by kernel_rfl) rfl #[.pointer (some ⟨g, 0, none⟩), .int .u32 (v32 (BitVec.allOnes 32)), .string s] (by rfl) rfl rfl (by (try simp only [List.map_toArray, List.map_cons, List.map_nil]); first | done | rfl) ?_
      refine (poly_More.calls g (BitVec.allOnes 32) s (by have := Hs.out; omega) w' HA.out).mono ?_
      rintro e w' ⟨rfl, hd⟩
      refine ⟨_, rfl, ?_⟩
      replace HA := Lib.hid (HA.out.drawn hd)
      replace HB := Lib.hid (chainD HB.out hd)
      (try replace HC := Lib.hid (HC.out.below hd.below))
      clear hd
      refine hK.out _ _ (trivial) (fun hHeld => ?_)
      clear hK K
      refine norm_ (a' := ?_) ?_ ?_
      rotate_left
      · show Act.put _ (some 9) _ = _
        simp only [Act.put, List.setIfInBounds_toArray, List.set_cons_zero, List.set_cons_succ, i64_w, i32_w]
        try rfl
      refine one_ (i := 14) (N := some 21) #[true, true, true, true, true, true, true, true, true, true, true, true, true, true, true, false, false, false] rfl rfl (one_of HT_.out (by kernel_rfl)) (by decide) (fun K hK => ?_)
      refine value_ (v := .slice (some ⟨w'.heap.size, 0, none⟩) 4 4) (w1 := w'.alloc (four b3 b2 b1 b0)) (by rfl) rfl ?_ ?_
      · (unfold four; go_simp)
      have HC := Lib.hid (FourAt.new w' b3 b2 b1 b0)
      replace HA := Lib.hid (HA.out.below (below_alloc (Below.refl _ _) (four b3 b2 b1 b0)))
      replace HB := Lib.hid (HB.out.alloc HB.out.size (four b3 b2 b1 b0))
      generalize w'.heap.size = ga at HC ⊢
      generalize w'.alloc (four b3 b2 b1 b0) = w' at HA HB HC ⊢
      refine hK.out _ _ (trivial) (fun hHeld => ?_)
      clear hK K
      refine norm_ (a' := ?_) ?_ ?_
      rotate_left
      · show Act.put _ (some 21) _ = _
        simp only [Act.put, List.setIfInBounds_toArray, List.set_cons_zero, List.set_cons_succ, i64_w, i32_w]
        try rfl
      refine one_ (i := 15) (N := some 22) #[true, true, true, true, true, true, true, true, true, true, true, true, true, true, true, true, false, false] rfl rfl (one_of HT_.out (by kernel_rfl)) (by decide) (fun K hK => ?_)
      refine value_ (v := .string ⟨#[b3, b2, b1, b0]⟩) (w1 := w') (by rfl) rfl ?_ ?_
      · (have hcv := HC.out.conv; go_simp)
      refine hK.out _ _ (trivial) (fun hHeld => ?_)
      clear hK K
      refine norm_ (a' := ?_) ?_ ?_
      rotate_left
      · show Act.put _ (some 22) _ = _
        simp only [Act.put, List.setIfInBounds_toArray, List.set_cons_zero, List.set_cons_succ, i64_w, i32_w]
        try rfl
      refine one_ (i := 16) (N := some 23) #[true, true, true, true, true, true, true, true, true, true, true, true, true, true, true, true, true, false] rfl rfl (one_of HT_.out (by kernel_rfl)) (by decide) (fun K hK => ?_)
      refine goes_ Try.func12 (by kernel_rfl) rfl #[.pointer (some ⟨g, 0, none⟩), .int .u32 (v32 (more (BitVec.allOnes 32) s.data.toList)), .string ⟨#[b3, b2, b1, b0]⟩] (by rfl) rfl rfl (by (try simp only [List.map_toArray, List.map_cons, List.map_nil]); first | done | rfl) ?_
      refine (poly_More.calls g (more (BitVec.allOnes 32) s.data.toList) ⟨#[b3, b2, b1, b0]⟩ (show 4 ≤ _ by omega) w' HA.out).mono ?_
      rintro e w' ⟨rfl, hd⟩
      refine ⟨_, rfl, ?_⟩
      replace HB := Lib.hid (chainD HB.out hd)
      clear hd
      rw [show (⟨#[b3, b2, b1, b0]⟩ : ByteArray).data.toList = [b3, b2, b1, b0] from rfl, Hrc.out]
      refine hK.out _ _ (trivial) (fun hHeld => ?_)
      clear hK K
      refine norm_ (a' := ?_) ?_ ?_
      rotate_left
      · show Act.put _ (some 23) _ = _
        simp only [Act.put, List.setIfInBounds_toArray, List.set_cons_zero, List.set_cons_succ, i64_w, i32_w]
        try rfl
      refine pure_ (i := 17) (N := some 3) (v := ?_) (a' := ?_) #[true, true, true, true, true, true, true, true, true, true, true, true, true, true, true, true, true, true] rfl rfl (any_of HT_.out (by kernel_rfl)) (fun _ _ _ h => h) (Or.inl ⟨by rfl, ?_⟩) ?_ ?_
      rotate_left
      · intro w'
        go_simp
        try with_reducible rfl
      rotate_left
      · simp only [Act.put, List.setIfInBounds_toArray, List.set_cons_zero, List.set_cons_succ, i64_w, i32_w]
        try rfl
      refine done_ (done_of HT_.out (by kernel_rfl)) ?_
      go_wp2
      go_ret
      exact ⟨rfl, HB.out⟩
    · refine value_ (v := .slice (some ⟨w'.heap.size, 0, none⟩) 4 4) (w1 := w'.alloc (four b3 b2 b1 b0)) (by rfl) rfl ?_ ?_
      · (unfold four; go_simp)
      have HC := Lib.hid (FourAt.new w' b3 b2 b1 b0)
      replace HA := Lib.hid (HA.out.below (below_alloc (Below.refl _ _) (four b3 b2 b1 b0)))
      replace HB := Lib.hid (HB.out.alloc HB.out.size (four b3 b2 b1 b0))
      generalize w'.heap.size = ga at HC ⊢
      generalize w'.alloc (four b3 b2 b1 b0) = w' at HA HB HC ⊢
      refine hK.out _ _ (trivial) (fun hHeld => ?_)
      clear hK K
      refine norm_ (a' := ?_) ?_ ?_
      rotate_left
      · show Act.put _ (some 21) _ = _
        simp only [Act.put, List.setIfInBounds_toArray, List.set_cons_zero, List.set_cons_succ, i64_w, i32_w]
        try rfl
      refine two_ (i := 2) (j := 15) (Ni := some 9) (Nj := some 22) #[true, true, true, true, true, true, true, true, true, true, true, true, true, true, true, false, false, false] #[true, true, false, true, true, true, true, true, true, true, true, true, true, true, true, true, false, false] rfl rfl rfl rfl  (two_of HT_.out (by kernel_rfl)) (by decide) (by decide)  (fun K hK => ?_) (fun K hK => ?_) 
      · refine goes_ Try.func12 (by kernel_rfl) rfl #[.pointer (some ⟨g, 0, none⟩), .int .u32 (v32 (BitVec.allOnes 32)), .string s] (by rfl) rfl rfl (by (try simp only [List.map_toArray, List.map_cons, List.map_nil]); first | done | rfl) ?_
        refine (poly_More.calls g (BitVec.allOnes 32) s (by have := Hs.out; omega) w' HA.out).mono ?_
        rintro e w' ⟨rfl, hd⟩
        refine ⟨_, rfl, ?_⟩
        replace HA := Lib.hid (HA.out.drawn hd)
        replace HB := Lib.hid (chainD HB.out hd)
        (try replace HC := Lib.hid (HC.out.below hd.below))
        clear hd
        refine hK.out _ _ (trivial) (fun hHeld => ?_)
        clear hK K
        refine norm_ (a' := ?_) ?_ ?_
        rotate_left
        · show Act.put _ (some 9) _ = _
          simp only [Act.put, List.setIfInBounds_toArray, List.set_cons_zero, List.set_cons_succ, i64_w, i32_w]
          try rfl
        refine one_ (i := 15) (N := some 22) #[true, true, true, true, true, true, true, true, true, true, true, true, true, true, true, true, false, false] rfl rfl (one_of HT_.out (by kernel_rfl)) (by decide) (fun K hK => ?_)
        refine value_ (v := .string ⟨#[b3, b2, b1, b0]⟩) (w1 := w') (by rfl) rfl ?_ ?_
        · (have hcv := HC.out.conv; go_simp)
        refine hK.out _ _ (trivial) (fun hHeld => ?_)
        clear hK K
        refine norm_ (a' := ?_) ?_ ?_
        rotate_left
        · show Act.put _ (some 22) _ = _
          simp only [Act.put, List.setIfInBounds_toArray, List.set_cons_zero, List.set_cons_succ, i64_w, i32_w]
          try rfl
        refine one_ (i := 16) (N := some 23) #[true, true, true, true, true, true, true, true, true, true, true, true, true, true, true, true, true, false] rfl rfl (one_of HT_.out (by kernel_rfl)) (by decide) (fun K hK => ?_)
        refine goes_ Try.func12 (by kernel_rfl) rfl #[.pointer (some ⟨g, 0, none⟩), .int .u32 (v32 (more (BitVec.allOnes 32) s.data.toList)), .string ⟨#[b3, b2, b1, b0]⟩] (by rfl) rfl rfl (by (try simp only [List.map_toArray, List.map_cons, List.map_nil]); first | done | rfl) ?_
        refine (poly_More.calls g (more (BitVec.allOnes 32) s.data.toList) ⟨#[b3, b2, b1, b0]⟩ (show 4 ≤ _ by omega) w' HA.out).mono ?_
        rintro e w' ⟨rfl, hd⟩
        refine ⟨_, rfl, ?_⟩
        replace HB := Lib.hid (chainD HB.out hd)
        clear hd
        rw [show (⟨#[b3, b2, b1, b0]⟩ : ByteArray).data.toList = [b3, b2, b1, b0] from rfl, Hrc.out]
        refine hK.out _ _ (trivial) (fun hHeld => ?_)
        clear hK K
        refine norm_ (a' := ?_) ?_ ?_
        rotate_left
        · show Act.put _ (some 23) _ = _
          simp only [Act.put, List.setIfInBounds_toArray, List.set_cons_zero, List.set_cons_succ, i64_w, i32_w]
          try rfl
        refine pure_ (i := 17) (N := some 3) (v := ?_) (a' := ?_) #[true, true, true, true, true, true, true, true, true, true, true, true, true, true, true, true, true, true] rfl rfl (any_of HT_.out (by kernel_rfl)) (fun _ _ _ h => h) (Or.inl ⟨by rfl, ?_⟩) ?_ ?_
        rotate_left
        · intro w'
          go_simp
          try with_reducible rfl
        rotate_left
        · simp only [Act.put, List.setIfInBounds_toArray, List.set_cons_zero, List.set_cons_succ, i64_w, i32_w]
          try rfl
        refine done_ (done_of HT_.out (by kernel_rfl)) ?_
        go_wp2
        go_ret
        exact ⟨rfl, HB.out⟩
      · refine value_ (v := .string ⟨#[b3, b2, b1, b0]⟩) (w1 := w') (by rfl) rfl ?_ ?_
        · (have hcv := HC.out.conv; go_simp)
        refine hK.out _ _ (trivial) (fun hHeld => ?_)
        clear hK K
        refine norm_ (a' := ?_) ?_ ?_
        rotate_left
        · show Act.put _ (some 22) _ = _
          simp only [Act.put, List.setIfInBounds_toArray, List.set_cons_zero, List.set_cons_succ, i64_w, i32_w]
          try rfl
        refine one_ (i := 2) (N := some 9) #[true, true, true, true, true, true, true, true, true, true, true, true, true, true, true, true, false, false] rfl rfl (one_of HT_.out (by kernel_rfl)) (by decide) (fun K hK => ?_)
        refine goes_ Try.func12 (by kernel_rfl) rfl #[.pointer (some ⟨g, 0, none⟩), .int .u32 (v32 (BitVec.allOnes 32)), .string s] (by rfl) rfl rfl (by (try simp only [List.map_toArray, List.map_cons, List.map_nil]); first | done | rfl) ?_
        refine (poly_More.calls g (BitVec.allOnes 32) s (by have := Hs.out; omega) w' HA.out).mono ?_
        rintro e w' ⟨rfl, hd⟩
        refine ⟨_, rfl, ?_⟩
        replace HA := Lib.hid (HA.out.drawn hd)
        replace HB := Lib.hid (chainD HB.out hd)
        (try replace HC := Lib.hid (HC.out.below hd.below))
        clear hd
        refine hK.out _ _ (trivial) (fun hHeld => ?_)
        clear hK K
        refine norm_ (a' := ?_) ?_ ?_
        rotate_left
        · show Act.put _ (some 9) _ = _
          simp only [Act.put, List.setIfInBounds_toArray, List.set_cons_zero, List.set_cons_succ, i64_w, i32_w]
          try rfl
        refine one_ (i := 16) (N := some 23) #[true, true, true, true, true, true, true, true, true, true, true, true, true, true, true, true, true, false] rfl rfl (one_of HT_.out (by kernel_rfl)) (by decide) (fun K hK => ?_)
        refine goes_ Try.func12 (by kernel_rfl) rfl #[.pointer (some ⟨g, 0, none⟩), .int .u32 (v32 (more (BitVec.allOnes 32) s.data.toList)), .string ⟨#[b3, b2, b1, b0]⟩] (by rfl) rfl rfl (by (try simp only [List.map_toArray, List.map_cons, List.map_nil]); first | done | rfl) ?_
        refine (poly_More.calls g (more (BitVec.allOnes 32) s.data.toList) ⟨#[b3, b2, b1, b0]⟩ (show 4 ≤ _ by omega) w' HA.out).mono ?_
        rintro e w' ⟨rfl, hd⟩
        refine ⟨_, rfl, ?_⟩
        replace HB := Lib.hid (chainD HB.out hd)
        clear hd
        rw [show (⟨#[b3, b2, b1, b0]⟩ : ByteArray).data.toList = [b3, b2, b1, b0] from rfl, Hrc.out]
        refine hK.out _ _ (trivial) (fun hHeld => ?_)
        clear hK K
        refine norm_ (a' := ?_) ?_ ?_
        rotate_left
        · show Act.put _ (some 23) _ = _
          simp only [Act.put, List.setIfInBounds_toArray, List.set_cons_zero, List.set_cons_succ, i64_w, i32_w]
          try rfl
        refine pure_ (i := 17) (N := some 3) (v := ?_) (a' := ?_) #[true, true, true, true, true, true, true, true, true, true, true, true, true, true, true, true, true, true] rfl rfl (any_of HT_.out (by kernel_rfl)) (fun _ _ _ h => h) (Or.inl ⟨by rfl, ?_⟩) ?_ ?_
        rotate_left
        · intro w'
          go_simp
          try with_reducible rfl
        rotate_left
        · simp only [Act.put, List.setIfInBounds_toArray, List.set_cons_zero, List.set_cons_succ, i64_w, i32_w]
          try rfl
        refine done_ (done_of HT_.out (by kernel_rfl)) ?_
        go_wp2
        go_ret
        exact ⟨rfl, HB.out⟩
  · refine value_ (v := .slice (some ⟨w'.heap.size, 0, none⟩) 4 4) (w1 := w'.alloc (four b3 b2 b1 b0)) (by rfl) rfl ?_ ?_
    · (unfold four; go_simp)
    have HC := Lib.hid (FourAt.new w' b3 b2 b1 b0)
    replace HA := Lib.hid (HA.out.below (below_alloc (Below.refl _ _) (four b3 b2 b1 b0)))
    replace HB := Lib.hid (HB.out.alloc HB.out.size (four b3 b2 b1 b0))
    generalize w'.heap.size = ga at HC ⊢
    generalize w'.alloc (four b3 b2 b1 b0) = w' at HA HB HC ⊢
    refine hK.out _ _ (trivial) (fun hHeld => ?_)
    clear hK K
    refine norm_ (a' := ?_) ?_ ?_
    rotate_left
    · show Act.put _ (some 21) _ = _
      simp only [Act.put, List.setIfInBounds_toArray, List.set_cons_zero, List.set_cons_succ, i64_w, i32_w]
      try rfl
    refine two_ (i := 0) (j := 15) (Ni := some 7) (Nj := some 22) #[true, true, false, true, true, true, true, true, true, true, true, true, true, true, true, false, false, false] #[false, true, false, true, true, true, true, true, true, true, true, true, true, true, true, true, false, false] rfl rfl rfl rfl  (two_of HT_.out (by kernel_rfl)) (by decide) (by decide)  (fun K hK => ?_) (fun K hK => ?_) 
    · refine goes_ Try.func16 (by kernel_rfl) rfl #[] (by rfl) rfl rfl (by (try simp only [List.map_toArray, List.map_cons, List.map_nil]); first | done | rfl) ?_
      refine (poly_First.calls _ w' rfl).mono ?_
      rintro e w' ⟨rfl, hd⟩
      refine ⟨_, rfl, ?_⟩
      replace HA := Lib.hid (HA.out.drawn hd)
      replace HB := Lib.hid (chainD HB.out hd)
      (try replace HC := Lib.hid (HC.out.below hd.below))
      clear hd
      refine hK.out _ _ (trivial) (fun hHeld => ?_)
      clear hK K
      refine norm_ (a' := ?_) ?_ ?_
      rotate_left
      · show Act.put _ (some 7) _ = _
        simp only [Act.put, List.setIfInBounds_toArray, List.set_cons_zero, List.set_cons_succ, i64_w, i32_w]
        try rfl
      refine two_ (i := 2) (j := 15) (Ni := some 9) (Nj := some 22) #[true, true, true, true, true, true, true, true, true, true, true, true, true, true, true, false, false, false] #[true, true, false, true, true, true, true, true, true, true, true, true, true, true, true, true, false, false] rfl rfl rfl rfl  (two_of HT_.out (by kernel_rfl)) (by decide) (by decide)  (fun K hK => ?_) (fun K hK => ?_) 
      · refine goes_ Try.func12 (by kernel_rfl) rfl #[.pointer (some ⟨g, 0, none⟩), .int .u32 (v32 (BitVec.allOnes 32)), .string s] (by rfl) rfl rfl (by (try simp only [List.map_toArray, List.map_cons, List.map_nil]); first | done | rfl) ?_
        refine (poly_More.calls g (BitVec.allOnes 32) s (by have := Hs.out; omega) w' HA.out).mono ?_
        rintro e w' ⟨rfl, hd⟩
        refine ⟨_, rfl, ?_⟩
        replace HA := Lib.hid (HA.out.drawn hd)
        replace HB := Lib.hid (chainD HB.out hd)
        (try replace HC := Lib.hid (HC.out.below hd.below))
        clear hd
        refine hK.out _ _ (trivial) (fun hHeld => ?_)
        clear hK K
        refine norm_ (a' := ?_) ?_ ?_
        rotate_left
        · show Act.put _ (some 9) _ = _
          simp only [Act.put, List.setIfInBounds_toArray, List.set_cons_zero, List.set_cons_succ, i64_w, i32_w]
          try rfl
        refine one_ (i := 15) (N := some 22) #[true, true, true, true, true, true, true, true, true, true, true, true, true, true, true, true, false, false] rfl rfl (one_of HT_.out (by kernel_rfl)) (by decide) (fun K hK => ?_)
        refine value_ (v := .string ⟨#[b3, b2, b1, b0]⟩) (w1 := w') (by rfl) rfl ?_ ?_
        · (have hcv := HC.out.conv; go_simp)
        refine hK.out _ _ (trivial) (fun hHeld => ?_)
        clear hK K
        refine norm_ (a' := ?_) ?_ ?_
        rotate_left
        · show Act.put _ (some 22) _ = _
          simp only [Act.put, List.setIfInBounds_toArray, List.set_cons_zero, List.set_cons_succ, i64_w, i32_w]
          try rfl
        refine one_ (i := 16) (N := some 23) #[true, true, true, true, true, true, true, true, true, true, true, true, true, true, true, true, true, false] rfl rfl (one_of HT_.out (by kernel_rfl)) (by decide) (fun K hK => ?_)
        refine goes_ Try.func12 (by kernel_rfl) rfl #[.pointer (some ⟨g, 0, none⟩), .int .u32 (v32 (more (BitVec.allOnes 32) s.data.toList)), .string ⟨#[b3, b2, b1, b0]⟩] (by rfl) rfl rfl (by (try simp only [List.map_toArray, List.map_cons, List.map_nil]); first | done | rfl) ?_
        refine (poly_More.calls g (more (BitVec.allOnes 32) s.data.toList) ⟨#[b3, b2, b1, b0]⟩ (show 4 ≤ _ by omega) w' HA.out).mono ?_
        rintro e w' ⟨rfl, hd⟩
        refine ⟨_, rfl, ?_⟩
        replace HB := Lib.hid (chainD HB.out hd)
        clear hd
        rw [show (⟨#[b3, b2, b1, b0]⟩ : ByteArray).data.toList = [b3, b2, b1, b0] from rfl, Hrc.out]
        refine hK.out _ _ (trivial) (fun hHeld => ?_)
        clear hK K
        refine norm_ (a' := ?_) ?_ ?_
        rotate_left
        · show Act.put _ (some 23) _ = _
          simp only [Act.put, List.setIfInBounds_toArray, List.set_cons_zero, List.set_cons_succ, i64_w, i32_w]
          try rfl
        refine pure_ (i := 17) (N := some 3) (v := ?_) (a' := ?_) #[true, true, true, true, true, true, true, true, true, true, true, true, true, true, true, true, true, true] rfl rfl (any_of HT_.out (by kernel_rfl)) (fun _ _ _ h => h) (Or.inl ⟨by rfl, ?_⟩) ?_ ?_
        rotate_left
        · intro w'
          go_simp
          try with_reducible rfl
        rotate_left
        · simp only [Act.put, List.setIfInBounds_toArray, List.set_cons_zero, List.set_cons_succ, i64_w, i32_w]
          try rfl
        refine done_ (done_of HT_.out (by kernel_rfl)) ?_
        go_wp2
        go_ret
        exact ⟨rfl, HB.out⟩
      · refine value_ (v := .string ⟨#[b3, b2, b1, b0]⟩) (w1 := w') (by rfl) rfl ?_ ?_
        · (have hcv := HC.out.conv; go_simp)
        refine hK.out _ _ (trivial) (fun hHeld => ?_)
        clear hK K
        refine norm_ (a' := ?_) ?_ ?_
        rotate_left
        · show Act.put _ (some 22) _ = _
          simp only [Act.put, List.setIfInBounds_toArray, List.set_cons_zero, List.set_cons_succ, i64_w, i32_w]
          try rfl
        refine one_ (i := 2) (N := some 9) #[true, true, true, true, true, true, true, true, true, true, true, true, true, true, true, true, false, false] rfl rfl (one_of HT_.out (by kernel_rfl)) (by decide) (fun K hK => ?_)
        refine goes_ Try.func12 (by kernel_rfl) rfl #[.pointer (some ⟨g, 0, none⟩), .int .u32 (v32 (BitVec.allOnes 32)), .string s] (by rfl) rfl rfl (by (try simp only [List.map_toArray, List.map_cons, List.map_nil]); first | done | rfl) ?_
        refine (poly_More.calls g (BitVec.allOnes 32) s (by have := Hs.out; omega) w' HA.out).mono ?_
        rintro e w' ⟨rfl, hd⟩
        refine ⟨_, rfl, ?_⟩
        replace HA := Lib.hid (HA.out.drawn hd)
        replace HB := Lib.hid (chainD HB.out hd)
        (try replace HC := Lib.hid (HC.out.below hd.below))
        clear hd
        refine hK.out _ _ (trivial) (fun hHeld => ?_)
        clear hK K
        refine norm_ (a' := ?_) ?_ ?_
        rotate_left
        · show Act.put _ (some 9) _ = _
          simp only [Act.put, List.setIfInBounds_toArray, List.set_cons_zero, List.set_cons_succ, i64_w, i32_w]
          try rfl
        refine one_ (i := 16) (N := some 23) #[true, true, true, true, true, true, true, true, true, true, true, true, true, true, true, true, true, false] rfl rfl (one_of HT_.out (by kernel_rfl)) (by decide) (fun K hK => ?_)
        refine goes_ Try.func12 (by kernel_rfl) rfl #[.pointer (some ⟨g, 0, none⟩), .int .u32 (v32 (more (BitVec.allOnes 32) s.data.toList)), .string ⟨#[b3, b2, b1, b0]⟩] (by rfl) rfl rfl (by (try simp only [List.map_toArray, List.map_cons, List.map_nil]); first | done | rfl) ?_
        refine (poly_More.calls g (more (BitVec.allOnes 32) s.data.toList) ⟨#[b3, b2, b1, b0]⟩ (show 4 ≤ _ by omega) w' HA.out).mono ?_
        rintro e w' ⟨rfl, hd⟩
        refine ⟨_, rfl, ?_⟩
        replace HB := Lib.hid (chainD HB.out hd)
        clear hd
        rw [show (⟨#[b3, b2, b1, b0]⟩ : ByteArray).data.toList = [b3, b2, b1, b0] from rfl, Hrc.out]
        refine hK.out _ _ (trivial) (fun hHeld => ?_)
        clear hK K
        refine norm_ (a' := ?_) ?_ ?_
        rotate_left
        · show Act.put _ (some 23) _ = _
          simp only [Act.put, List.setIfInBounds_toArray, List.set_cons_zero, List.set_cons_succ, i64_w, i32_w]
          try rfl
        refine pure_ (i := 17) (N := some 3) (v := ?_) (a' := ?_) #[true, true, true, true, true, true, true, true, true, true, true, true, true, true, true, true, true, true] rfl rfl (any_of HT_.out (by kernel_rfl)) (fun _ _ _ h => h) (Or.inl ⟨by rfl, ?_⟩) ?_ ?_
        rotate_left
        · intro w'
          go_simp
          try with_reducible rfl
        rotate_left
        · simp only [Act.put, List.setIfInBounds_toArray, List.set_cons_zero, List.set_cons_succ, i64_w, i32_w]
          try rfl
        refine done_ (done_of HT_.out (by kernel_rfl)) ?_
        go_wp2
        go_ret
        exact ⟨rfl, HB.out⟩
    · refine value_ (v := .string ⟨#[b3, b2, b1, b0]⟩) (w1 := w') (by rfl) rfl ?_ ?_
      · (have hcv := HC.out.conv; go_simp)
      refine hK.out _ _ (trivial) (fun hHeld => ?_)
      clear hK K
      refine norm_ (a' := ?_) ?_ ?_
      rotate_left
      · show Act.put _ (some 22) _ = _
        simp only [Act.put, List.setIfInBounds_toArray, List.set_cons_zero, List.set_cons_succ, i64_w, i32_w]
        try rfl
      refine one_ (i := 0) (N := some 7) #[true, true, false, true, true, true, true, true, true, true, true, true, true, true, true, true, false, false] rfl rfl (one_of HT_.out (by kernel_rfl)) (by decide) (fun K hK => ?_)
      refine goes_ Try.func16 (by kernel_rfl) rfl #[] (by rfl) rfl rfl (by (try simp only [List.map_toArray, List.map_cons, List.map_nil]); first | done | rfl) ?_
      refine (poly_First.calls _ w' rfl).mono ?_
      rintro e w' ⟨rfl, hd⟩
      refine ⟨_, rfl, ?_⟩
      replace HA := Lib.hid (HA.out.drawn hd)
      replace HB := Lib.hid (chainD HB.out hd)
      (try replace HC := Lib.hid (HC.out.below hd.below))
      clear hd
      refine hK.out _ _ (trivial) (fun hHeld => ?_)
      clear hK K
      refine norm_ (a' := ?_) ?_ ?_
      rotate_left
      · show Act.put _ (some 7) _ = _
        simp only [Act.put, List.setIfInBounds_toArray, List.set_cons_zero, List.set_cons_succ, i64_w, i32_w]
        try rfl
      refine one_ (i := 2) (N := some 9) #[true, true, true, true, true, true, true, true, true, true, true, true, true, true, true, true, false, false] rfl rfl (one_of HT_.out (by kernel_rfl)) (by decide) (fun K hK => ?_)
      refine goes_ Try.func12 (by kernel_rfl) rfl #[.pointer (some ⟨g, 0, none⟩), .int .u32 (v32 (BitVec.allOnes 32)), .string s] (by rfl) rfl rfl (by (try simp only [List.map_toArray, List.map_cons, List.map_nil]); first | done | rfl) ?_
      refine (poly_More.calls g (BitVec.allOnes 32) s (by have := Hs.out; omega) w' HA.out).mono ?_
      rintro e w' ⟨rfl, hd⟩
      refine ⟨_, rfl, ?_⟩
      replace HA := Lib.hid (HA.out.drawn hd)
      replace HB := Lib.hid (chainD HB.out hd)
      (try replace HC := Lib.hid (HC.out.below hd.below))
      clear hd
      refine hK.out _ _ (trivial) (fun hHeld => ?_)
      clear hK K
      refine norm_ (a' := ?_) ?_ ?_
      rotate_left
      · show Act.put _ (some 9) _ = _
        simp only [Act.put, List.setIfInBounds_toArray, List.set_cons_zero, List.set_cons_succ, i64_w, i32_w]
        try rfl
      refine one_ (i := 16) (N := some 23) #[true, true, true, true, true, true, true, true, true, true, true, true, true, true, true, true, true, false] rfl rfl (one_of HT_.out (by kernel_rfl)) (by decide) (fun K hK => ?_)
      refine goes_ Try.func12 (by kernel_rfl) rfl #[.pointer (some ⟨g, 0, none⟩), .int .u32 (v32 (more (BitVec.allOnes 32) s.data.toList)), .string ⟨#[b3, b2, b1, b0]⟩] (by rfl) rfl rfl (by (try simp only [List.map_toArray, List.map_cons, List.map_nil]); first | done | rfl) ?_
      refine (poly_More.calls g (more (BitVec.allOnes 32) s.data.toList) ⟨#[b3, b2, b1, b0]⟩ (show 4 ≤ _ by omega) w' HA.out).mono ?_
      rintro e w' ⟨rfl, hd⟩
      refine ⟨_, rfl, ?_⟩
      replace HB := Lib.hid (chainD HB.out hd)
      clear hd
      rw [show (⟨#[b3, b2, b1, b0]⟩ : ByteArray).data.toList = [b3, b2, b1, b0] from rfl, Hrc.out]
      refine hK.out _ _ (trivial) (fun hHeld => ?_)
      clear hK K
      refine norm_ (a' := ?_) ?_ ?_
      rotate_left
      · show Act.put _ (some 23) _ = _
        simp only [Act.put, List.setIfInBounds_toArray, List.set_cons_zero, List.set_cons_succ, i64_w, i32_w]
        try rfl
      refine pure_ (i := 17) (N := some 3) (v := ?_) (a' := ?_) #[true, true, true, true, true, true, true, true, true, true, true, true, true, true, true, true, true, true] rfl rfl (any_of HT_.out (by kernel_rfl)) (fun _ _ _ h => h) (Or.inl ⟨by rfl, ?_⟩) ?_ ?_
      rotate_left
      · intro w'
        go_simp
        try with_reducible rfl
      rotate_left
      · simp only [Act.put, List.setIfInBounds_toArray, List.set_cons_zero, List.set_cons_succ, i64_w, i32_w]
        try rfl
      refine done_ (done_of HT_.out (by kernel_rfl)) ?_
      go_wp2
      go_ret
      exact ⟨rfl, HB.out⟩

set_option maxHeartbeats 4000000 in
set_option maxRecDepth 100000 in
theorem polyRest_law (a b : ByteArray) (w : World) (hsa : a.size ≤ 140737488351232) (hsb : b.size ≤ 140737488351232) :
    Calls Try.prog 7 #[.string a, .string b] w fun e w' => e = .returned (.bool true) ∧ Below w.heap.size w w' := by
  have hz := make_zero
  clear hsa hsb
  obtain ⟨ja, hja⟩ : ∃ ji : Int, (if 300 < (a.size : Int) then 300 else (a.size : Int)) = ji := ⟨_, rfl⟩
  have c0 : 0 ≤ ja ∧ ja ≤ a.size ∧ ja ≤ 300 := by rw [← hja]; split <;> omega
  have a0 : (0 ≤ ja) = True := eq_true c0.1
  have a1 : decide (0 ≤ ja) = true := decide_eq_true c0.1
  have a2 : (ja ≤ (a.size : Int)) = True := eq_true c0.2.1
  have a3 : decide (ja ≤ (a.size : Int)) = true := decide_eq_true c0.2.1
  have HA0 := Lib.hid c0; clear c0
  obtain ⟨jb, hjb⟩ : ∃ ji : Int, (if 300 < (b.size : Int) then 300 else (b.size : Int)) = ji := ⟨_, rfl⟩
  have c0 : 0 ≤ jb ∧ jb ≤ b.size ∧ jb ≤ 300 := by rw [← hjb]; split <;> omega
  have b0 : (0 ≤ jb) = True := eq_true c0.1
  have b1 : decide (0 ≤ jb) = true := decide_eq_true c0.1
  have b2 : (jb ≤ (b.size : Int)) = True := eq_true c0.2.1
  have b3 : decide (jb ≤ (b.size : Int)) = true := decide_eq_true c0.2.1
  have HB0 := Lib.hid c0; clear c0
  have hma : (a.extract 0 ja.toNat).size ≤ 300 := by rw [ByteArray.size_extract]; have := HA0.out; omega
  have hmb : (b.extract 0 jb.toNat).size ≤ 300 := by rw [ByteArray.size_extract]; have := HB0.out; omega
  have HMa := Lib.hid hma; clear hma
  have HMb := Lib.hid hmb; clear hmb
  go_enter Try.func7, Try.ntmps7
  go_wp2_with fail
  refine (poly_Make.calls _).mono ?_
  rintro e w1 ⟨rfl, hb1⟩
  have Hb1 := Lib.hid hb1; clear hb1
  go_wp2_with (refine wpList_store_row rfl 24 _ _ rfl w1.heap.size (tabCells 256) rfl rfl 24 (tabCells 0) (heap_alloc_new w1 _) make_info (by rw [tabCells_size, tabCells_size]) (tabCells_one _) ?_)
  clear hz
  obtain ⟨hT, hB, hS⟩ := made_facts Hb1.out _ rfl
  clear hS
  generalize (w1.alloc (.cells (tabCells 0) 24)).setRow w1.heap.size (tabCells 256) = w2 at hT hB ⊢
  generalize w1.heap.size = g at hT hB ⊢
  have HA := Lib.hid (show TabAt w2.drew g from hT); clear hT
  have HB := Lib.hid (below_drew1 hB); clear hB
  refine start_ (n := 19) (S := fun _ => True) (ds := []) #[false, false, false, false, false, false, false, false, false, false, false, false, false, false, false, false, false, false, false] (by kernel_rfl) rfl rfl trivial (fun hHeld => ?_)
  refine with_tabW rg7_3.tab rg7_3.bits (fun HT_ HW_ => ?_)
  generalize w2.drew = w' at HA HB ⊢
  refine one_ (i := 0) (N := some 9) #[true, false, false, false, false, false, false, false, false, false, false, false, false, false, false, false, false, false, false] rfl rfl (one_of HT_.out (by kernel_rfl)) (by decide) (fun K hK => ?_)
  refine goes_ Try.func9 (by kernel_rfl) rfl #[] (by rfl) rfl rfl (by (try simp only [List.map_toArray, List.map_cons, List.map_nil]); first | done | rfl) ?_
  refine (wakes_ok w').mono ?_
  rintro e w' ⟨rfl, hd⟩
  refine ⟨_, rfl, ?_⟩
  replace HA := Lib.hid (HA.out.below hd)
  replace HB := Lib.hid (chain2 HB.out hd)
  clear hd
  refine hK.out _ _ (trivial) (fun hHeld => ?_)
  clear hK K
  refine norm_ (a' := ?_) ?_ ?_
  rotate_left
  · show Act.put _ (some 9) _ = _
    simp only [Act.put, List.setIfInBounds_toArray, List.set_cons_zero, List.set_cons_succ, i64_w, i32_w]
    try rfl
  refine pure_ (i := 1) (N := some 10) (v := ?_) (a' := ?_) #[true, true, false, false, false, false, false, false, false, false, false, false, false, false, false, false, false, false, false] rfl rfl (any_of HT_.out (by kernel_rfl)) (fun _ _ _ h => h) (Or.inl ⟨by rfl, ?_⟩) ?_ ?_
  rotate_left
  · intro w'
    go_simp
    try with_reducible rfl
  rotate_left
  · simp only [Act.put, List.setIfInBounds_toArray, List.set_cons_zero, List.set_cons_succ, i64_w, i32_w]
    try rfl
  refine pure_ (i := 2) (N := some 11) (v := ?_) (a' := ?_) #[true, true, true, false, false, false, false, false, false, false, false, false, false, false, false, false, false, false, false] rfl rfl (any_of HT_.out (by kernel_rfl)) (fun _ _ _ h => h) (Or.inl ⟨by rfl, ?_⟩) ?_ ?_
  rotate_left
  · intro w'
    go_simp
    try with_reducible rfl
  rotate_left
  · simp only [Act.put, List.setIfInBounds_toArray, List.set_cons_zero, List.set_cons_succ, i64_w, i32_w]
    try rfl
  refine pure_ (i := 3) (N := some 12) (v := ?_) (a' := ?_) #[true, true, true, true, false, false, false, false, false, false, false, false, false, false, false, false, false, false, false] rfl rfl (any_of HT_.out (by kernel_rfl)) (fun _ _ _ h => h) (Or.inl ⟨by rfl, ?_⟩) ?_ ?_
  rotate_left
  · intro w'
    go_simp
    try with_reducible rfl
  rotate_left
  · simp only [Act.put, List.setIfInBounds_toArray, List.set_cons_zero, List.set_cons_succ, i64_w, i32_w]
    try rfl
  refine pure_ (i := 4) (N := some 13) (v := ?_) (a' := ?_) #[true, true, true, true, true, false, false, false, false, false, false, false, false, false, false, false, false, false, false] rfl rfl (any_of HT_.out (by kernel_rfl)) (fun _ _ _ h => h) (Or.inl ⟨by rfl, ?_⟩) ?_ ?_
  rotate_left
  · intro w'
    go_simp
    try with_reducible rfl
  rotate_left
  · simp only [Act.put, List.setIfInBounds_toArray, List.set_cons_zero, List.set_cons_succ, i64_w, i32_w]
    try rfl
  refine pure_ (i := 5) (N := some 14) (v := ?_) (a' := ?_) #[true, true, true, true, true, true, false, false, false, false, false, false, false, false, false, false, false, false, false] rfl rfl (any_of HT_.out (by kernel_rfl)) (fun _ _ _ h => h) (Or.inl ⟨by rfl, ?_⟩) ?_ ?_
  rotate_left
  · intro w'
    go_simp
    try with_reducible rfl
  rotate_left
  · simp only [Act.put, List.setIfInBounds_toArray, List.set_cons_zero, List.set_cons_succ, i64_w, i32_w]
    try rfl
  refine pure_ (i := 6) (N := some 15) (v := ?_) (a' := ?_) #[true, true, true, true, true, true, true, false, false, false, false, false, false, false, false, false, false, false, false] rfl rfl (any_of HT_.out (by kernel_rfl)) (fun _ _ _ h => h) (Or.inl ⟨by rfl, ?_⟩) ?_ ?_
  rotate_left
  · intro w'
    go_simp
    try with_reducible rfl
  rotate_left
  · simp only [Act.put, List.setIfInBounds_toArray, List.set_cons_zero, List.set_cons_succ, i64_w, i32_w]
    try rfl
  refine pure_ (i := 7) (N := some 16) (v := ?_) (a' := ?_) #[true, true, true, true, true, true, true, true, false, false, false, false, false, false, false, false, false, false, false] rfl rfl (any_of HT_.out (by kernel_rfl)) (fun _ _ _ h => h) (Or.inl ⟨by rfl, ?_⟩) ?_ ?_
  rotate_left
  · intro w'
    go_simp
    try with_reducible rfl
  rotate_left
  · simp only [Act.put, List.setIfInBounds_toArray, List.set_cons_zero, List.set_cons_succ, i64_w, i32_w]
    try rfl
  refine pure_ (i := 9) (N := some 18) (v := ?_) (a' := ?_) #[true, true, true, true, true, true, true, true, false, true, false, false, false, false, false, false, false, false, false] rfl rfl (any_of HT_.out (by kernel_rfl)) (fun _ _ _ h => h) (Or.inl ⟨by rfl, ?_⟩) ?_ ?_
  rotate_left
  · intro w'
    go_simp
    try with_reducible rfl
  rotate_left
  · simp only [Act.put, List.setIfInBounds_toArray, List.set_cons_zero, List.set_cons_succ, i64_w, i32_w]
    try rfl
  refine pure_ (i := 10) (N := some 19) (v := ?_) (a' := ?_) #[true, true, true, true, true, true, true, true, false, true, true, false, false, false, false, false, false, false, false] rfl rfl (any_of HT_.out (by kernel_rfl)) (fun _ _ _ h => h) (Or.inl ⟨by rfl, ?_⟩) ?_ ?_
  rotate_left
  · intro w'
    go_simp
    try with_reducible rfl
  rotate_left
  · simp only [Act.put, List.setIfInBounds_toArray, List.set_cons_zero, List.set_cons_succ, i64_w, i32_w]
    try rfl
  refine pure_ (i := 11) (N := some 20) (v := ?_) (a' := ?_) #[true, true, true, true, true, true, true, true, false, true, true, true, false, false, false, false, false, false, false] rfl rfl (any_of HT_.out (by kernel_rfl)) (fun _ _ _ h => h) (Or.inl ⟨by rfl, ?_⟩) ?_ ?_
  rotate_left
  · intro w'
    go_simp
    try with_reducible rfl
  rotate_left
  · simp only [Act.put, List.setIfInBounds_toArray, List.set_cons_zero, List.set_cons_succ, i64_w, i32_w]
    try rfl
  refine pure_ (i := 12) (N := some 21) (v := ?_) (a' := ?_) #[true, true, true, true, true, true, true, true, false, true, true, true, true, false, false, false, false, false, false] rfl rfl (any_of HT_.out (by kernel_rfl)) (fun _ _ _ h => h) (Or.inl ⟨by rfl, ?_⟩) ?_ ?_
  rotate_left
  · intro w'
    go_simp
    try with_reducible rfl
  rotate_left
  · simp only [Act.put, List.setIfInBounds_toArray, List.set_cons_zero, List.set_cons_succ, i64_w, i32_w]
    try rfl
  refine pure_ (i := 13) (N := some 22) (v := ?_) (a' := ?_) #[true, true, true, true, true, true, true, true, false, true, true, true, true, true, false, false, false, false, false] rfl rfl (any_of HT_.out (by kernel_rfl)) (fun _ _ _ h => h) (Or.inl ⟨by rfl, ?_⟩) ?_ ?_
  rotate_left
  · intro w'
    go_simp
    try with_reducible rfl
  rotate_left
  · simp only [Act.put, List.setIfInBounds_toArray, List.set_cons_zero, List.set_cons_succ, i64_w, i32_w]
    try rfl
  refine pure_ (i := 14) (N := some 23) (v := ?_) (a' := ?_) #[true, true, true, true, true, true, true, true, false, true, true, true, true, true, true, false, false, false, false] rfl rfl (any_of HT_.out (by kernel_rfl)) (fun _ _ _ h => h) (Or.inl ⟨by rfl, ?_⟩) ?_ ?_
  rotate_left
  · intro w'
    go_simp
    try with_reducible rfl
  rotate_left
  · simp only [Act.put, List.setIfInBounds_toArray, List.set_cons_zero, List.set_cons_succ, i64_w, i32_w]
    try rfl
  refine one_ (i := 8) (N := some 17) #[true, true, true, true, true, true, true, true, true, true, true, true, true, true, true, false, false, false, false] rfl rfl (one_of HT_.out (by kernel_rfl)) (by decide) (fun K hK => ?_)
  refine call_ 17 #[.string (a.extract 0 ja.toNat), .pointer (some ⟨g, 0, none⟩)] (by rfl) rfl (by go_simp) ?_
  refine (rest_walk g _ HMa.out w' HA.out).mono ?_
  rintro e w' ⟨rfl, hd⟩
  refine ⟨_, rfl, ?_⟩
  replace HA := Lib.hid (HA.out.below hd)
  replace HB := Lib.hid (chain2 HB.out hd)
  clear hd
  refine hK.out _ _ (trivial) (fun hHeld => ?_)
  clear hK K
  refine norm_ (a' := ?_) ?_ ?_
  rotate_left
  · show Act.put _ (some 17) _ = _
    simp only [Act.put, List.setIfInBounds_toArray, List.set_cons_zero, List.set_cons_succ, i64_w, i32_w]
    try rfl
  refine one_ (i := 15) (N := some 24) #[true, true, true, true, true, true, true, true, true, true, true, true, true, true, true, true, false, false, false] rfl rfl (one_of HT_.out (by kernel_rfl)) (by decide) (fun K hK => ?_)
  refine call_ 17 #[.string (b.extract 0 jb.toNat), .pointer (some ⟨g, 0, none⟩)] (by rfl) rfl (by go_simp) ?_
  refine (rest_walk g _ HMb.out w' HA.out).mono ?_
  rintro e w' ⟨rfl, hd⟩
  refine ⟨_, rfl, ?_⟩
  replace HB := Lib.hid (chain2 HB.out hd)
  clear hd
  refine hK.out _ _ (trivial) (fun hHeld => ?_)
  clear hK K
  refine norm_ (a' := ?_) ?_ ?_
  rotate_left
  · show Act.put _ (some 24) _ = _
    simp only [Act.put, List.setIfInBounds_toArray, List.set_cons_zero, List.set_cons_succ, i64_w, i32_w]
    try rfl
  refine pure_ (i := 16) (N := some 25) (v := ?_) (a' := ?_) #[true, true, true, true, true, true, true, true, true, true, true, true, true, true, true, true, true, false, false] rfl rfl (any_of HT_.out (by kernel_rfl)) (fun _ _ _ h => h) (Or.inl ⟨by rfl, ?_⟩) ?_ ?_
  rotate_left
  · intro w'
    go_simp
    try with_reducible rfl
  rotate_left
  · simp only [Act.put, List.setIfInBounds_toArray, List.set_cons_zero, List.set_cons_succ, i64_w, i32_w]
    try rfl
  refine pure_ (i := 17) (N := some 26) (v := ?_) (a' := ?_) #[true, true, true, true, true, true, true, true, true, true, true, true, true, true, true, true, true, true, false] rfl rfl (any_of HT_.out (by kernel_rfl)) (fun _ _ _ h => h) (Or.inl ⟨by rfl, ?_⟩) ?_ ?_
  rotate_left
  · intro w'
    go_simp
    try with_reducible rfl
  rotate_left
  · simp only [Act.put, List.setIfInBounds_toArray, List.set_cons_zero, List.set_cons_succ, i64_w, i32_w]
    try rfl
  refine pure_ (i := 18) (N := some 4) (v := ?_) (a' := ?_) #[true, true, true, true, true, true, true, true, true, true, true, true, true, true, true, true, true, true, true] rfl rfl (any_of HT_.out (by kernel_rfl)) (fun _ _ _ h => h) (Or.inl ⟨by rfl, ?_⟩) ?_ ?_
  rotate_left
  · intro w'
    go_simp
    try with_reducible rfl
  rotate_left
  · simp only [Act.put, List.setIfInBounds_toArray, List.set_cons_zero, List.set_cons_succ, i64_w, i32_w]
    try rfl
  refine done_ (done_of HT_.out (by kernel_rfl)) ?_
  go_wp2
  go_ret
  exact ⟨by simp, HB.out⟩
end Go.Proofs.Ytbfmdfolboankaa
