/- PolyTells: a text in which bits less than 32 apart are others has another check: the walk. No conditions beyond the form's own reach. -/
import Derived.Test.YtbfmdfolboankaaXPolyWakes
import Derived.Test.YtbfmdfolboankaaXPolyTells
import Derived.Test.YtbfmdfolboankaaXPolyRef
import Derived.Lib.ConvBytes
namespace Go.Proofs.Ytbfmdfolboankaa
open Go.RowKit Go.Proofs.YtbfmdfolboankaaW.PrintWords Go.Proofs.YtbfmdfolboankaaW.PrintLast Go.Proofs.YtbfmdfolboankaaW.PrintMore Go.Proofs.Ytbfmdfolboankaa.P Go.Proofs.Ytbfmdfolboankaa.PoS
set_option linter.unusedVariables false
set_option linter.unusedSimpArgs false
def rg6_10.T : Bool × List (List Nat × List Nat) := (true, [([], []), ([], []), ([], []), ([1, 2], [1, 2]), ([3], [3]), ([0, 4], [0, 4]), ([5], [5]), ([], []), ([], []), ([7, 8], [7, 8]), ([9], [9]), ([10], [10]), ([6, 11], [6, 11]), ([0, 4, 0, 1, 2, 3, 4, 5, 6, 7, 8, 9, 10, 11, 12], [0, 4]), ([13, 12, 0, 1, 2, 3, 4, 5, 6, 7, 8, 9, 10, 11, 12], [12, 13])])
def rg6_10.B : List Nat := [0, 0, 0, 6, 14, 31, 63, 0, 0, 384, 896, 1920, 4095, 8191, 16383]
theorem rg6_10.tab : rtab .any (opsOf Try.f6 10) = rg6_10.T := by kernel_rfl
theorem rg6_10.bits : waitsOk rg6_10.T.2 rg6_10.B = true := by kernel_rfl

/-- Bytes in a block, to be read and written. -/
def ByAt (w : World) (g : Nat) (l : List UInt8) : Prop := ∀ j, j < l.length → w.cell? ⟨g, j, none⟩ = some (.int .u8 (((l.getD j 0).toNat : Nat) : Int)) ∧ w.frozen? ⟨g, j, none⟩ = false

theorem ByAt.set {w : World} {g : Nat} {l : List UInt8} (h : ByAt w g l) {q : Nat} (hq : q < l.length) (y : UInt8) : ByAt (w.setCell ⟨g, q, none⟩ (.int .u8 ((y.toNat : Nat) : Int))) g (l.set q y) := by
  intro j hj
  rw [List.length_set] at hj
  refine ⟨?_, by rw [World.frozen?_setCell]; exact (h j hj).2⟩
  by_cases c : q = j
  · subst c
    rw [World.cell?_setCell_same' _ _ _ (by rw [(h q hq).1]; rfl)]
    simp [List.getD_eq_getElem?_getD, hq]
  · rw [World.cell?_setCell_other _ _ _ _ (by intro e; injection e with _ e2 _; exact c e2), (h j hj).1]
    simp [List.getD_eq_getElem?_getD, c]
theorem ByAt.below {w w' : World} {g : Nat} {l : List UInt8} (h : ByAt w g l) (hb : Below w.heap.size w w') : ByAt w' g l := fun j hj =>
  ⟨pw_cell_below hb (h j hj).1, (hb.frozen (p := ⟨g, j, none⟩) (World.block_lt_of_cell? w _ (h j hj).1)).trans (h j hj).2⟩
theorem ByAt.made (w : World) (s : ByteArray) : ByAt (Lib.bytesWorld w 5 s) w.heap.size s.data.toList := by
  intro j hj
  have hj2 : j < s.size := by rw [Array.length_toList] at hj; exact hj
  refine ⟨Lib.bytesWorld_cell w 5 s j hj2, ?_⟩
  unfold World.frozen?
  rw [Lib.bytesWorld_at_new]
  have hs : s.size ≤ (Lib.bytesCells w 5 s).size := by
    unfold Lib.bytesCells
    rw [Array.size_append, Array.size_map]
    exact Nat.le_add_right _ _
  have h1 : ¬ (Lib.bytesCells w 5 s).size ≤ j := by omega
  simp [h1]
theorem bytes_below {B : Nat} {a w : World} (h : Below B a w) (hB : B ≤ w.heap.size) (s : ByteArray) : Below B a (Lib.bytesWorld w 5 s) :=
  h.trans ⟨rfl, rfl, rfl, by rw [Lib.bytesWorld_size]; omega, fun k hk => Lib.bytesWorld_at_old w 5 s k (by omega)⟩
theorem ByAt.conv {w : World} {g cap : Nat} {l : List UInt8} (h : ByAt w g l) : (convert 36 9 (.slice (some ⟨g, 0, none⟩) l.length cap)).run Try.prog w = .ok (.string ⟨l.toArray⟩) w := by
  have e := run_convert_bytes_arg (P := Try.prog) w 36 5 Try.underlying36 Try.underlying5 g 0 l.length cap (l.map fun b => ((b.toNat : Nat) : Int)) (by simp) (fun i hi => by
    rw [Nat.zero_add, (h i hi).1]
    simp [List.getD_eq_getElem?_getD, hi]) 9 Try.underlying9
  rw [e]
  unfold strOfNums
  rw [List.map_map]
  have hid : (fun n : Int => UInt8.ofNat n.toNat) ∘ (fun b : UInt8 => ((b.toNat : Nat) : Int)) = id := by
    funext b
    simp [Function.comp]
  rw [hid, List.map_id]

theorem bit_test (n k : Nat) (hn : n < 4294967296) : Go.bits .and .u32 ((n : Int) / 2 ^ k) 1 = if n.testBit k then 1 else 0 := by
  have e : ((n : Int) / 2 ^ k) = ((n / 2 ^ k : Nat) : Int) := by rw [Int.natCast_ediv, Int.natCast_pow]; rfl
  have hq : n / 2 ^ k ≤ n := Nat.div_le_self _ _
  have b := bit_mod n k
  rw [e]
  generalize n / 2 ^ k = y at hq b ⊢
  have m : Go.bits .and .u32 (y : Int) 1 = (y : Int) % 2 := bits_mask .u32 32 (by decide) (fun n h0 h1 => by rw [IntKind.wrap_u32]; omega) 1 (by decide) (y : Int) (by omega) (by omega)
  rw [m]
  cases h : n.testBit k
  · rw [h, if_neg (by decide)] at b
    rw [if_neg (by decide)]; omega
  · rw [h, if_pos rfl] at b
    rw [if_pos rfl]; omega
theorem xor8_v (x : UInt8) (m : Nat) (hm : m < 256) : Go.bits .xor .u8 ((x.toNat : Nat) : Int) ((m : Nat) : Int) = (((x ^^^ UInt8.ofNat m).toNat : Nat) : Int) := by
  have h1 : BitVec.ofNat 8 x.toNat = x.toBitVec := by
    apply BitVec.eq_of_toNat_eq
    rw [BitVec.toNat_ofNat]
    exact Nat.mod_eq_of_lt x.toNat_lt
  unfold Go.bits
  simp only [IntKind.bits, BitVec.ofInt_natCast]
  rw [IntKind.wrap_u8, h1]
  have := (x.toBitVec ^^^ BitVec.ofNat 8 m).isLt
  change (((x.toBitVec ^^^ BitVec.ofNat 8 m).toNat : Nat) : Int) % 256 = (((x.toBitVec ^^^ BitVec.ofNat 8 m).toNat : Nat) : Int)
  omega

theorem add_w (f k : Nat) (h : f + k < 1000000) : IntKind.i64.wrap ((f : Int) + (k : Int)) = ((f + k : Nat) : Int) := by rw [IntKind.wrap_i64]; omega
theorem div8_w (p : Nat) (h : p < 1000000) : wrap64 ((p : Int) / 8) = ((p / 8 : Nat) : Int) := by unfold wrap64; omega
theorem mod8_w (p : Nat) : Int.tmod (p : Int) 8 = ((p % 8 : Nat) : Int) := by rw [Int.tmod_eq_emod_of_nonneg (by omega)]; omega
theorem place_w {f k n : Nat} (hf : f < 8 * (n - 4)) (hk : k < 32) : (f + k) / 8 < n := by omega
theorem place_s {f k n : Nat} (hf : f < 8 * (n - 4)) (hk : k < 32) (hn : n ≤ 400) : f + k < 1000000 := by omega

set_option maxHeartbeats 4000000 in
set_option maxRecDepth 100000 in
theorem polyTells_walk (s : ByteArray) (at_ : Nat) (hat : at_ < 65536) (bits : Nat) (hbits : bits < 4294967296) (w : World) :
    Calls Try.prog 6 #[.string s, .int .u16 (at_ : Int), .int .u32 (bits : Int)] w fun e w' => e = .returned (.bool true) ∧ Below w.heap.size w w' := by
  have hz := make_zero
  obtain ⟨ja, hja⟩ : ∃ ji : Int, (if 400 < (s.size : Int) then 400 else (s.size : Int)) = ji := ⟨_, rfl⟩
  have c0 : 0 ≤ ja ∧ ja ≤ s.size ∧ ja ≤ 400 := by rw [← hja]; split <;> omega
  have a0 : (0 ≤ ja) = True := eq_true c0.1
  have a1 : decide (0 ≤ ja) = true := decide_eq_true c0.1
  have a2 : (ja ≤ (s.size : Int)) = True := eq_true c0.2.1
  have a3 : decide (ja ≤ (s.size : Int)) = true := decide_eq_true c0.2.1
  have HA0 := Lib.hid c0; clear c0
  have hma : (s.extract 0 ja.toNat).size ≤ 400 := by rw [ByteArray.size_extract]; have := HA0.out; omega
  have HMa := Lib.hid hma; clear hma
  have Hbits := Lib.hid hbits; clear hbits
  go_enter Try.func6, Try.ntmps6
  go_wp2_with fail
  clear a0 a1 a2 a3 hja HA0
  have HMt := HMa.out
  clear HMa
  generalize s.extract 0 ja.toNat = t at HMt ⊢
  refine (wakes_ok _).mono ?_
  rintro e w' ⟨rfl, hb⟩
  have HB := Lib.hid hb; clear hb
  by_cases h5 : t.size < 5
  · have z1 : decide ((t.size : Int) < 5) = true := decide_eq_true (by omega)
    go_wp2_with fail
    refine (wakes_ok _).mono ?_
    rintro e w' ⟨rfl, hb⟩
    replace HB := Lib.hid (chain2 HB.out hb)
    go_wp2
    go_ret
    exact ⟨rfl, HB.out⟩
  by_cases h0 : bits = 0
  · subst h0
    have z1 : decide ((t.size : Int) < 5) = false := decide_eq_false (by omega)
    go_wp2_with fail
    refine (wakes_ok _).mono ?_
    rintro e w' ⟨rfl, hb⟩
    replace HB := Lib.hid (chain2 HB.out hb)
    go_wp2
    go_ret
    exact ⟨rfl, HB.out⟩
  have z1 : decide ((t.size : Int) < 5) = false := decide_eq_false (by omega)
  have z2 : ((bits : Int) == 0) = false := by rw [beq_eq_false_iff_ne]; omega
  have hcv := fun W => Lib.run_convert_string_bytes (P := Try.prog) W 9 36 5 t Try.underlying9 Try.underlying36 Try.underlying5
  go_wp2_with fail
  clear hcv
  obtain ⟨f, hf, hf2⟩ : ∃ f : Nat, ((at_ : Int) % (8 * ((t.size : Int) - 4))) = (f : Int) ∧ f < 8 * (t.size - 4) := by
    refine ⟨at_ % (8 * (t.size - 4)), ?_, Nat.mod_lt _ (by omega)⟩
    have e : (8 * ((t.size : Int) - 4)) = ((8 * (t.size - 4) : Nat) : Int) := by omega
    rw [e]; rfl
  rw [hf]
  clear hf
  have hA : ByAt (Lib.bytesWorld w' 5 t) w'.heap.size t.data.toList := ByAt.made w' t
  have hBB : Below w.heap.size w (Lib.bytesWorld w' 5 t) := bytes_below HB.out HB.out.size t
  generalize grownCap w' t.size 0 5 = cp
  generalize Lib.bytesWorld w' 5 t = w2 at hA hBB ⊢
  have hg := HB.out.size
  generalize w'.heap.size = g at hA hg ⊢
  clear HB
  have hl : t.data.toList.length = t.size := Array.length_toList
  generalize hl0 : t.data.toList = l at hA hl
  have HL := Lib.hid hl; clear hl
  have HL0 := Lib.hid hl0; clear hl0
  have HA := Lib.hid hA; clear hA
  have HB := Lib.hid hBB; clear hBB
  go_loopw [9, 37] (fun _ i wr => ∃ k : Nat, k ≤ 32 ∧ i = .int .i64 (k : Int) ∧ ByAt wr g (flips l f bits k) ∧ Below w.heap.size w wr) (fun _ i _ => 32 - (intOf i).toNat)
  case atStart => exact ⟨0, Nat.zero_le _, rfl, HA.out, HB.out⟩
  case round =>
    clear HA HB
    obtain ⟨k, hk, rfl, h1, h2⟩ := hrel
    have HA := Lib.hid h1; clear h1
    have HB := Lib.hid h2; clear h2
    by_cases hlt : k < 32
    · cases tb : bits.testBit k with
      | true =>
        have hb := bit_test bits k Hbits.out
        rw [tb] at hb
        have hb1 : (Go.bits .and .u32 ((bits : Int) / 2 ^ k) 1 == 1) = true := by rw [hb]; rfl
        clear hb
        obtain ⟨p, hp, e1, hps⟩ : ∃ p, p = f + k ∧ IntKind.i64.wrap ((f : Int) + (k : Int)) = (p : Int) ∧ p < 1000000 := ⟨f + k, rfl, add_w f k (place_s hf2 hlt HMt), place_s hf2 hlt HMt⟩
        obtain ⟨q, hq, e2⟩ : ∃ q, q = p / 8 ∧ wrap64 ((p : Int) / 8) = (q : Int) := ⟨p / 8, rfl, div8_w p hps⟩
        obtain ⟨r, hr, e3⟩ : ∃ r, r = p % 8 ∧ Int.tmod (p : Int) 8 = (r : Int) := ⟨p % 8, rfl, mod8_w p⟩
        have hql : q < l.length := by rw [HL.out, hq, hp]; exact place_w hf2 hlt
        have hr8 : r < 8 := by rw [hr]; exact Nat.mod_lt _ (by decide)
        clear hps
        have hx := HA.out q (by rw [flips_length]; exact hql)
        generalize hX : (flips l f bits k).getD q 0 = x at hx
        have HX := Lib.hid hX; clear hX
        have e4 : (0 : Int) ≤ (q : Int) := Int.natCast_nonneg q
        have e5 : (q : Int) < (t.size : Int) := by rw [← HL.out]; exact Int.ofNat_lt.mpr hql
        have e6 : (0 : Int) ≤ (r : Int) := Int.natCast_nonneg r
        obtain ⟨m, e7, hm, hm2⟩ : ∃ m : Nat, (128 : Int) / 2 ^ r = (m : Int) ∧ m = 128 / 2 ^ r ∧ m < 256 := ⟨128 / 2 ^ r, by rw [Int.natCast_ediv, Int.natCast_pow]; rfl, rfl, Nat.lt_of_le_of_lt (Nat.div_le_self _ _) (by decide)⟩
        have e8 := xor8_v x m hm2
        have Hm := Lib.hid hm; clear hm
        have Hp := Lib.hid hp; clear hp
        have Hq := Lib.hid hq; clear hq
        have Hr := Lib.hid hr; clear hr
        have Ht := Lib.hid tb; clear tb
        have hS : wr.drew.cell? ⟨g, q, none⟩ = some (.int .u8 ((x.toNat : Nat) : Int)) := hx.1
        have hF : wr.drew.frozen? ⟨g, q, none⟩ = false := hx.2
        clear hx
        replace HA := Lib.hid (show ByAt wr.drew g (flips l f bits k) from HA.out)
        replace HB := Lib.hid (below_drew1 HB.out)
        go_wp2_with fail
        refine start_ (n := 15) (S := fun w' => w'.cell? ⟨g, q, none⟩ = some (.int .u8 ((x.toNat : Nat) : Int))) (ds := [14]) #[false, false, false, false, false, false, false, false, false, false, false, false, false, false, false] (by kernel_rfl) rfl rfl hS (fun hHeld => ?_)
        refine with_tabW rg6_10.tab rg6_10.bits (fun HT_ HW_ => ?_)
        generalize wr.drew = wd at HA HB hS hF hHeld ⊢
        refine pure_ (i := 0) (N := some 45) (v := ?_) (a' := ?_) #[true, false, false, false, false, false, false, false, false, false, false, false, false, false, false] rfl rfl (any_of HT_.out (by kernel_rfl)) (fun _ _ _ h => h) (Or.inl ⟨by rfl, ?_⟩) ?_ ?_
        rotate_left
        · intro w'
          go_simp
          try with_reducible rfl
        rotate_left
        · simp only [Act.put, List.setIfInBounds_toArray, List.set_cons_zero, List.set_cons_succ, i64_w, i32_w]
          try rfl
        refine pure_ (i := 1) (N := some 46) (v := ?_) (a' := ?_) #[true, true, false, false, false, false, false, false, false, false, false, false, false, false, false] rfl rfl (any_of HT_.out (by kernel_rfl)) (fun _ _ _ h => h) (Or.inl ⟨by rfl, ?_⟩) ?_ ?_
        rotate_left
        · intro w'
          go_simp
          try with_reducible rfl
        rotate_left
        · simp only [Act.put, List.setIfInBounds_toArray, List.set_cons_zero, List.set_cons_succ, i64_w, i32_w]
          try rfl
        refine pure_ (i := 2) (N := some 47) (v := ?_) (a' := ?_) #[true, true, true, false, false, false, false, false, false, false, false, false, false, false, false] rfl rfl (any_of HT_.out (by kernel_rfl)) (fun _ _ _ h => h) (Or.inl ⟨by rfl, ?_⟩) ?_ ?_
        rotate_left
        · intro w'
          go_simp
          try with_reducible rfl
        rotate_left
        · simp only [Act.put, List.setIfInBounds_toArray, List.set_cons_zero, List.set_cons_succ, i64_w, i32_w]
          try rfl
        refine pure_ (i := 3) (N := some 48) (v := ?_) (a' := ?_) #[true, true, true, true, false, false, false, false, false, false, false, false, false, false, false] rfl rfl (any_of HT_.out (by kernel_rfl)) (fun _ _ _ h => h) (Or.inl ⟨by rfl, ?_⟩) ?_ ?_
        rotate_left
        · intro w'
          go_simp
          try with_reducible rfl
        rotate_left
        · simp only [Act.put, List.setIfInBounds_toArray, List.set_cons_zero, List.set_cons_succ, i64_w, i32_w]
          try rfl
        refine pure_ (i := 4) (N := some 49) (v := ?_) (a' := ?_) #[true, true, true, true, true, false, false, false, false, false, false, false, false, false, false] rfl rfl (any_of HT_.out (by kernel_rfl)) (fun _ _ _ h => h) (Or.inl ⟨by rfl, ?_⟩) ?_ ?_
        rotate_left
        · intro w'
          go_simp
          try with_reducible rfl
        rotate_left
        · simp only [Act.put, List.setIfInBounds_toArray, List.set_cons_zero, List.set_cons_succ, i64_w, i32_w]
          try rfl
        refine pure_ (i := 5) (N := some 50) (v := ?_) (a' := ?_) #[true, true, true, true, true, true, false, false, false, false, false, false, false, false, false] rfl rfl (any_of HT_.out (by kernel_rfl)) (fun _ _ _ h => h) (Or.inl ⟨by rfl, ?_⟩) ?_ ?_
        rotate_left
        · intro w'
          go_simp
          try with_reducible rfl
        rotate_left
        · simp only [Act.put, List.setIfInBounds_toArray, List.set_cons_zero, List.set_cons_succ, i64_w, i32_w]
          try rfl
        refine pure_ (i := 7) (N := some 52) (v := ?_) (a' := ?_) #[true, true, true, true, true, true, false, true, false, false, false, false, false, false, false] rfl rfl (any_of HT_.out (by kernel_rfl)) (fun _ _ _ h => h) (Or.inl ⟨by rfl, ?_⟩) ?_ ?_
        rotate_left
        · intro w'
          go_simp
          try with_reducible rfl
        rotate_left
        · simp only [Act.put, List.setIfInBounds_toArray, List.set_cons_zero, List.set_cons_succ, i64_w, i32_w]
          try rfl
        refine pure_ (i := 8) (N := some 53) (v := ?_) (a' := ?_) #[true, true, true, true, true, true, false, true, true, false, false, false, false, false, false] rfl rfl (any_of HT_.out (by kernel_rfl)) (fun _ _ _ h => h) (Or.inl ⟨by rfl, ?_⟩) ?_ ?_
        rotate_left
        · intro w'
          go_simp
          try with_reducible rfl
        rotate_left
        · simp only [Act.put, List.setIfInBounds_toArray, List.set_cons_zero, List.set_cons_succ, i64_w, i32_w]
          try rfl
        refine pure_ (i := 9) (N := some 54) (v := ?_) (a' := ?_) #[true, true, true, true, true, true, false, true, true, true, false, false, false, false, false] rfl rfl (any_of HT_.out (by kernel_rfl)) (fun _ _ _ h => h) (Or.inl ⟨by rfl, ?_⟩) ?_ ?_
        rotate_left
        · intro w'
          go_simp
          try with_reducible rfl
        rotate_left
        · simp only [Act.put, List.setIfInBounds_toArray, List.set_cons_zero, List.set_cons_succ, i64_w, i32_w]
          try rfl
        refine pure_ (i := 10) (N := some 55) (v := ?_) (a' := ?_) #[true, true, true, true, true, true, false, true, true, true, true, false, false, false, false] rfl rfl (any_of HT_.out (by kernel_rfl)) (fun _ _ _ h => h) (Or.inl ⟨by rfl, ?_⟩) ?_ ?_
        rotate_left
        · intro w'
          go_simp
          try with_reducible rfl
        rotate_left
        · simp only [Act.put, List.setIfInBounds_toArray, List.set_cons_zero, List.set_cons_succ, i64_w, i32_w]
          try rfl
        refine pure_ (i := 11) (N := some 56) (v := ?_) (a' := ?_) #[true, true, true, true, true, true, false, true, true, true, true, true, false, false, false] rfl rfl (any_of HT_.out (by kernel_rfl)) (fun _ _ _ h => h) (Or.inl ⟨by rfl, ?_⟩) ?_ ?_
        rotate_left
        · intro w'
          go_simp
          try with_reducible rfl
        rotate_left
        · simp only [Act.put, List.setIfInBounds_toArray, List.set_cons_zero, List.set_cons_succ, i64_w, i32_w]
          try rfl
        refine take_ (i := 6) (N := some 51) (v := ?_) (a' := ?_) #[true, true, true, true, true, true, true, true, true, true, true, true, false, false, false] rfl rfl (take_ofW HT_.out HW_.out (by kernel_rfl)) (fun _ _ _ h => h) (Or.inl ⟨by rfl, ?_⟩) hHeld ?_ ?_
        rotate_left
        · intro w' hw_
          try dsimp only at hw_
          go_simp
          try with_reducible rfl
        rotate_left
        · simp only [Act.put, List.setIfInBounds_toArray, List.set_cons_zero, List.set_cons_succ, i64_w, i32_w]
          try rfl
        refine pure_ (i := 12) (N := some 57) (v := ?_) (a' := ?_) #[true, true, true, true, true, true, true, true, true, true, true, true, true, false, false] rfl rfl (any_of HT_.out (by kernel_rfl)) (fun _ _ _ h => h) (Or.inl ⟨by rfl, ?_⟩) ?_ ?_
        rotate_left
        · intro w'
          go_simp
          try with_reducible rfl
        rotate_left
        · simp only [Act.put, List.setIfInBounds_toArray, List.set_cons_zero, List.set_cons_succ, i64_w, i32_w]
          try rfl
        refine pure_ (i := 13) (N := some 58) (v := ?_) (a' := ?_) #[true, true, true, true, true, true, true, true, true, true, true, true, true, true, false] rfl rfl (any_of HT_.out (by kernel_rfl)) (fun _ _ _ h => h) (Or.inl ⟨by rfl, ?_⟩) ?_ ?_
        rotate_left
        · intro w'
          go_simp
          try with_reducible rfl
        rotate_left
        · simp only [Act.put, List.setIfInBounds_toArray, List.set_cons_zero, List.set_cons_succ, i64_w, i32_w]
          try rfl
        refine last_ (i := 14) (N := none) #[true, true, true, true, true, true, true, true, true, true, true, true, true, true, true] rfl rfl (one_of HT_.out (by kernel_rfl)) (by decide) (fun K hK => ?_)
        refine skip_ (w1 := wd.setCell ⟨g, q, none⟩ (.int .u8 (((x ^^^ UInt8.ofNat m).toNat : Nat) : Int))) (by rfl) rfl ?_ ?_
        · (go_simp)
        refine hK.out _ _ ?_
        clear hK K
        refine done_ (done_of HT_.out (by kernel_rfl)) ?_
        have hB2 := Lib.hid (HB.out.setCell (p := ⟨g, q, none⟩) hg (.int .u8 (((x ^^^ UInt8.ofNat m).toNat : Nat) : Int)))
        have hA2 : ByAt (wd.setCell ⟨g, q, none⟩ (.int .u8 (((x ^^^ UInt8.ofNat m).toNat : Nat) : Int))) g (flips l f bits (k + 1)) := by
          have h1 := HA.out.set (q := q) (by rw [flips_length]; exact hql) (x ^^^ UInt8.ofNat m)
          have h2 : flips l f bits (k + 1) = (flips l f bits k).set q (x ^^^ UInt8.ofNat m) := by
            show (if bits.testBit k = true then flip1 (flips l f bits k) (f + k) else _) = _
            rw [Ht.out, if_pos rfl]
            unfold flip1
            rw [← Hp.out, ← Hq.out, ← Hr.out, HX.out, Hm.out]
          rw [h2]
          exact h1
        have HA2 := Lib.hid hA2; clear hA2
        go_wp2
        go_roundw
        case rel => exact ⟨k + 1, by omega, by go_num, HA2.out, hB2.out⟩
        case measure => simp [intOf]; omega
      | false =>
        have hb := bit_test bits k Hbits.out
        rw [tb] at hb
        have hb1 : (Go.bits .and .u32 ((bits : Int) / 2 ^ k) 1 == 1) = false := by rw [hb]; rfl
        clear hb
        have hn : flips l f bits (k + 1) = flips l f bits k := by show (if bits.testBit k = true then _ else _) = _; rw [tb]; rfl
        have Hn := Lib.hid hn; clear hn tb
        go_wp2
        go_roundw
        case rel => exact ⟨k + 1, by omega, by go_num, by rw [Hn.out]; exact HA.out, HB.out⟩
        case measure => simp [intOf]; omega
    · obtain rfl : k = 32 := by omega
      go_wp2_with fail
      have hz := make_zero
      refine (poly_Make.calls _).mono ?_
      rintro e w1 ⟨rfl, hb1⟩
      replace HA := Lib.hid (HA.out.below hb1)
      have HB1 := Lib.hid hb1; clear hb1
      go_wp2_with (refine wpList_store_row rfl 24 _ _ rfl w1.heap.size (tabCells 256) rfl rfl 24 (tabCells 0) (heap_alloc_new w1 _) make_info (by rw [tabCells_size, tabCells_size]) (tabCells_one _) ?_)
      clear hz
      obtain ⟨hT, hB2, hS⟩ := made_facts HB1.out _ rfl
      have hA2 : ByAt ((w1.alloc (.cells (tabCells 0) 24)).setRow w1.heap.size (tabCells 256)) g (flips l f bits 32) :=
        HA.out.below (below_setRow (below_alloc (Below.refl _ _) _) (Nat.le_refl _) _)
      clear hS HA
      generalize (w1.alloc (.cells (tabCells 0) 24)).setRow w1.heap.size (tabCells 256) = w2 at hT hB2 hA2 ⊢
      generalize w1.heap.size = gt at hT ⊢
      have hcv := hA2.conv (cap := cp)
      rw [flips_length, HL.out] at hcv
      have HT2 := Lib.hid hT; clear hT
      have HB2 := Lib.hid (chain2 HB.out hB2); clear hB2 hA2
      have hne : (v32 (sum (flips l f bits 32)) != v32 (sum l)) = true := by
        rw [bne_iff_ne]
        intro h
        exact tells l f bits (by rw [HL.out]; omega) (by rw [HL.out]; omega) Hbits.out h0 (v32_inj h)
      go_wp2_with fail
      rw [hcv]
      go_wp2_with fail
      refine (poly_Sum.calls gt ⟨(flips l f bits 32).toArray⟩ (by show (flips l f bits 32).toArray.size ≤ _; rw [List.size_toArray, flips_length, HL.out]; omega) _ HT2.out).mono ?_
      rintro e w3 ⟨rfl, hd⟩
      have HT3 := Lib.hid (HT2.out.drawn hd)
      have HB3 := Lib.hid (chainD HB2.out hd)
      clear hd
      go_wp2_with fail
      refine (poly_Sum.calls gt t (by omega) _ HT3.out).mono ?_
      rintro e w4 ⟨rfl, hd⟩
      have HB4 := Lib.hid (chainD HB3.out hd)
      clear hd
      rw [HL0.out]
      go_wp2
      go_ret
      exact ⟨by simp, HB4.out⟩

theorem polyTells_law (a0 : ByteArray) (a1 a2 : Int) (W : World) (w0 : a0.size ≤ 140737488351232) (w1 : (Lit.int .u16 a1).wf = true) (w2 : (Lit.int .u32 a2).wf = true) :
    Calls Try.prog 6 #[.string a0, .int .u16 a1, .int .u32 a2] W fun e w' => e = .returned (.bool true) ∧ Below W.heap.size W w' := by
  have b1 : 0 ≤ a1 ∧ a1 < 65536 := by simp [Lit.wf, IntKind.min, IntKind.max, IntKind.signed, IntKind.bits] at w1; omega
  have b2 : 0 ≤ a2 ∧ a2 < 4294967296 := by simp [Lit.wf, IntKind.min, IntKind.max, IntKind.signed, IntKind.bits] at w2; omega
  obtain ⟨n, rfl⟩ := Int.eq_ofNat_of_zero_le b1.1
  obtain ⟨m, rfl⟩ := Int.eq_ofNat_of_zero_le b2.1
  exact polyTells_walk a0 n (by omega) m (by omega) W
end Go.Proofs.Ytbfmdfolboankaa
