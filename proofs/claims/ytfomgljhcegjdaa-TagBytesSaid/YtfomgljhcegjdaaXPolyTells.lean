/- A text in which bits less than 32 apart are others has another check: plain words over 32 bits, no program in sight. -/
import Derived.Test.YtfomgljhcegjdaaXPolyLin
namespace Go.Proofs.Ytfomgljhcegjdaa
set_option linter.unusedVariables false
set_option linter.unusedSimpArgs false
namespace PoS
/-- One bit of a text turned. -/
def flip1 (l : List UInt8) (p : Nat) : List UInt8 := l.set (p / 8) (l.getD (p / 8) 0 ^^^ UInt8.ofNat (128 / 2 ^ (p % 8)))
def flips (l : List UInt8) (f bits : Nat) : Nat → List UInt8
  | 0 => l
  | k + 1 => if bits.testBit k then flip1 (flips l f bits k) (f + k) else flips l f bits k
theorem flip1_length (l : List UInt8) (p : Nat) : (flip1 l p).length = l.length := by simp [flip1]
theorem flips_length (l : List UInt8) (f bits k : Nat) : (flips l f bits k).length = l.length := by
  induction k with
  | zero => rfl
  | succ k ih => unfold flips; split <;> simp [flip1_length, ih]

/-- What is added to byte j. -/
def del (f bits : Nat) : Nat → Nat → UInt8
  | 0, _ => 0
  | k + 1, j => if bits.testBit k ∧ (f + k) / 8 = j then del f bits k j ^^^ UInt8.ofNat (128 / 2 ^ ((f + k) % 8)) else del f bits k j
theorem flips_del (l : List UInt8) (f bits : Nat) (k j : Nat) (hj : j < l.length) : (flips l f bits k).getD j 0 = l.getD j 0 ^^^ del f bits k j := by
  induction k with
  | zero => simp [flips, del]
  | succ k ih =>
    unfold flips del
    cases hb : bits.testBit k with
    | false => simp only [Bool.false_eq_true, if_false, false_and]; exact ih
    | true =>
      simp only [if_true, true_and]
      by_cases c : (f + k) / 8 = j
      · rw [if_pos c]
        unfold flip1
        rw [c]
        have hl : j < (flips l f bits k).length := by rw [flips_length]; exact hj
        rw [List.getD_eq_getElem?_getD, List.getElem?_set_self hl, Option.getD_some, ih]
        exact UInt8.xor_assoc ..
      · rw [if_neg c]
        unfold flip1
        rw [List.getD_eq_getElem?_getD, List.getElem?_set_ne c, ← List.getD_eq_getElem?_getD, ih]
def delL (n f bits : Nat) : List UInt8 := (List.range n).map (del f bits 32)
theorem flips_zip (l : List UInt8) (f bits : Nat) : flips l f bits 32 = List.zipWith (· ^^^ ·) l (delL l.length f bits) := by
  apply List.ext_getElem?
  intro j
  by_cases hj : j < l.length
  · have h1 : j < (flips l f bits 32).length := by rw [flips_length]; exact hj
    have h := flips_del l f bits 32 j hj
    rw [List.getD_eq_getElem?_getD, List.getElem?_eq_getElem h1, Option.getD_some, List.getD_eq_getElem?_getD, List.getElem?_eq_getElem hj, Option.getD_some] at h
    rw [List.getElem?_eq_getElem h1, h, List.getElem?_zipWith, List.getElem?_eq_getElem hj]
    simp [delL, hj]
  · rw [List.getElem?_eq_none (by rw [flips_length]; omega), List.getElem?_eq_none (by rw [List.length_zipWith]; omega)]
theorem more_zip (l : List UInt8) : ∀ (d : List UInt8) (s t : BitVec 32), l.length = d.length → more (s ^^^ t) (List.zipWith (· ^^^ ·) l d) = more s l ^^^ more t d := by
  induction l with
  | nil => intro d s t h; cases d with
    | nil => rfl
    | cons _ _ => simp at h
  | cons c l ih => intro d s t h; cases d with
    | nil => simp at h
    | cons e d =>
      rw [List.zipWith_cons_cons, more_cons, more_cons, more_cons, next_xor]
      exact ih d _ _ (by simpa using h)
theorem next_zero (x : BitVec 32) : next x 0 = up x 8 := by
  rw [next_up]
  congr 1
  have : ((0 : UInt8).toBitVec.setWidth 32 <<< 24) = 0#32 := by decide
  rw [this, BitVec.xor_zero]
theorem more_zeros (l : List UInt8) (h : ∀ c ∈ l, c = 0) : ∀ x, more x l = up x (8 * l.length) := by
  induction l with
  | nil => intro x; rfl
  | cons c l ih =>
    intro x
    rw [more_cons, h c (by simp), next_zero, ih (fun c hc => h c (by simp [hc])), ← up_add, List.length_cons]
    congr 1
    omega
theorem up1_zero (x : BitVec 32) (h : up1 x = 0#32) : x = 0#32 := by
  unfold up1 at h
  cases hm : x.msb with
  | true =>
    rw [hm, if_pos rfl] at h
    have h0 : ((x <<< 1) ^^^ 0x04C11DB7#32).getLsbD 0 = true := by
      rw [BitVec.getLsbD_xor, BitVec.getLsbD_shiftLeft]
      have : (0x04C11DB7#32).getLsbD 0 = true := by decide
      rw [this]; simp
    rw [h] at h0
    simp at h0
  | false =>
    rw [hm, if_neg (by decide), BitVec.xor_zero] at h
    have h1 := congrArg BitVec.toNat h
    rw [BitVec.toNat_shiftLeft, Nat.shiftLeft_eq] at h1
    rw [BitVec.msb_eq_decide, decide_eq_false_iff_not] at hm
    apply BitVec.eq_of_toNat_eq
    have e0 : (0#32).toNat = 0 := rfl
    rw [e0] at h1 ⊢
    omega
theorem up_zero_iff (x : BitVec 32) (k : Nat) (h : up x k = 0#32) : x = 0#32 := by
  induction k with
  | zero => exact h
  | succ k ih => exact ih (up1_zero _ h)
theorem up_inj (a b : BitVec 32) (k : Nat) (h : up a k = up b k) : a = b := by
  have h1 : up (a ^^^ b) k = 0#32 := by rw [up_xor, h, BitVec.xor_self]
  have h2 := up_zero_iff _ k h1
  have h3 : a ^^^ b ^^^ b = b := by rw [h2, BitVec.zero_xor]
  rwa [BitVec.xor_assoc, BitVec.xor_self, BitVec.xor_zero] at h3
/-- The bits of what is added. -/
theorem mask_bit : ∀ m : Fin 8, ∀ i : Fin 8, (UInt8.ofNat (128 / 2 ^ m.val)).toBitVec.getLsbD i.val = decide (i.val + m.val = 7) := by decide
theorem del_bit (f bits j i : Nat) (hi : i < 8) : ∀ k, (del f bits k j).toBitVec.getLsbD i = decide (f ≤ 8 * j + (7 - i) ∧ 8 * j + (7 - i) < f + k ∧ bits.testBit (8 * j + (7 - i) - f) = true) := by
  intro k
  induction k with
  | zero =>
    have : ¬ (f ≤ 8 * j + (7 - i) ∧ 8 * j + (7 - i) < f + 0 ∧ bits.testBit (8 * j + (7 - i) - f) = true) := by rintro ⟨h1, h2, _⟩; omega
    rw [decide_eq_false this]
    simp [del]
  | succ k ih =>
    unfold del
    by_cases c : bits.testBit k = true ∧ (f + k) / 8 = j
    · rw [if_pos c, UInt8.toBitVec_xor, BitVec.getLsbD_xor, ih, mask_bit ⟨(f + k) % 8, by omega⟩ ⟨i, hi⟩]
      by_cases e : i + (f + k) % 8 = 7
      · have h1 : 8 * j + (7 - i) = f + k := by omega
        rw [h1, show f + k - f = k from by omega]
        simp [e, c.1]
      · have h2 : ∀ x : Bool, (f ≤ 8 * j + (7 - i) ∧ 8 * j + (7 - i) < f + k ∧ x = true) ↔ (f ≤ 8 * j + (7 - i) ∧ 8 * j + (7 - i) < f + (k + 1) ∧ x = true) := by
          intro x
          constructor
          · rintro ⟨a, b, d⟩; exact ⟨a, by omega, d⟩
          · rintro ⟨a, b, d⟩; exact ⟨a, by omega, d⟩
        simp only [e, decide_false, Bool.xor_false, decide_eq_decide]
        exact h2 _
    · rw [if_neg c, ih]
      simp only [decide_eq_decide]
      constructor
      · rintro ⟨a, b, d⟩; exact ⟨a, by omega, d⟩
      · rintro ⟨a, b, d⟩
        refine ⟨a, ?_, d⟩
        rcases Nat.lt_or_ge (8 * j + (7 - i)) (f + k) with h | h
        · exact h
        · have h1 : 8 * j + (7 - i) = f + k := by omega
          rw [h1, show f + k - f = k from by omega] at d
          exact absurd ⟨d, by omega⟩ c
theorem up_shift' (c : UInt8) (k : Nat) (hk : k ≤ 24) : up (c.toBitVec.setWidth 32 <<< (24 - k)) k = c.toBitVec.setWidth 32 <<< 24 := by
  have hc := c.toNat_lt
  have e : c.toBitVec.toNat = c.toNat := rfl
  rw [up_low _ k k (Nat.le_refl _) ?_ (by omega), ← BitVec.shiftLeft_add, show 24 - k + k = 24 from by omega]
  rw [BitVec.toNat_shiftLeft, BitVec.toNat_setWidth, e, Nat.shiftLeft_eq, Nat.mod_eq_of_lt (show c.toNat < 2 ^ 32 by omega)]
  refine Nat.lt_of_le_of_lt (Nat.mod_le _ _) ?_
  have h1 : 2 ^ 8 * 2 ^ (24 - k) = 2 ^ (32 - k) := by rw [← Nat.pow_add]; congr 1; omega
  rw [← h1]
  exact Nat.mul_lt_mul_of_pos_right hc (Nat.two_pow_pos _)
theorem next_at' (x : BitVec 32) (c : UInt8) (k : Nat) (hk : k ≤ 24) : next (up x k) c = up (x ^^^ (c.toBitVec.setWidth 32 <<< (24 - k))) (k + 8) := by
  rw [next_up, ← up_shift' c k hk, ← up_xor, ← up_add]
def word (d0 d1 d2 d3 : UInt8) : BitVec 32 := d0.toBitVec.setWidth 32 <<< 24 ^^^ d1.toBitVec.setWidth 32 <<< 16 ^^^ d2.toBitVec.setWidth 32 <<< 8 ^^^ d3.toBitVec.setWidth 32
theorem more_word (d0 d1 d2 d3 : UInt8) : more 0#32 [d0, d1, d2, d3] = up (word d0 d1 d2 d3) 32 := by
  have s1 : next 0#32 d0 = up (0#32 ^^^ d0.toBitVec.setWidth 32 <<< 24) 8 := next_at' 0#32 d0 0 (by omega)
  rw [BitVec.zero_xor] at s1
  unfold word
  generalize d0.toBitVec.setWidth 32 <<< 24 = A at *
  have s2 : next (up A 8) d1 = up (A ^^^ d1.toBitVec.setWidth 32 <<< 16) 16 := next_at' _ _ 8 (by omega)
  generalize d1.toBitVec.setWidth 32 <<< 16 = B at *
  have s3 : next (up (A ^^^ B) 16) d2 = up (A ^^^ B ^^^ d2.toBitVec.setWidth 32 <<< 8) 24 := next_at' _ _ 16 (by omega)
  generalize d2.toBitVec.setWidth 32 <<< 8 = C at *
  have s4 : next (up (A ^^^ B ^^^ C) 24) d3 = up (A ^^^ B ^^^ C ^^^ d3.toBitVec.setWidth 32 <<< 0) 32 := next_at' _ _ 24 (by omega)
  rw [BitVec.shiftLeft_zero] at s4
  rw [more_cons, more_cons, more_cons, more_cons, more_nil, s1, s2, s3, s4]
theorem word_bit (d0 d1 d2 d3 : UInt8) (i : Nat) (hi : i < 32) : (word d0 d1 d2 d3).getLsbD i = if i < 8 then d3.toBitVec.getLsbD i else if i < 16 then d2.toBitVec.getLsbD (i - 8) else if i < 24 then d1.toBitVec.getLsbD (i - 16) else d0.toBitVec.getLsbD (i - 24) := by
  unfold word
  have hz : ∀ (d : UInt8) (m : Nat), 8 ≤ m → d.toBitVec.getLsbD m = false := fun d m hm => BitVec.getLsbD_of_ge _ _ hm
  simp only [BitVec.getLsbD_xor, BitVec.getLsbD_shiftLeft, BitVec.getLsbD_setWidth]
  obtain h | h | h | h : i < 8 ∨ (8 ≤ i ∧ i < 16) ∨ (16 ≤ i ∧ i < 24) ∨ 24 ≤ i := by omega
  · simp [h, show i < 16 from by omega, show i < 24 from by omega, hi]
  · simp [show ¬ i < 8 from by omega, h.2, show i < 24 from by omega, hi, show i - 8 < 32 from by omega, hz d3 i (by omega)]
  · simp [show ¬ i < 8 from by omega, show ¬ i < 16 from by omega, h.2, hi, show i - 8 < 32 from by omega, show i - 16 < 32 from by omega, hz d3 i (by omega), hz d2 (i - 8) (by omega)]
  · simp [show ¬ i < 8 from by omega, show ¬ i < 16 from by omega, show ¬ i < 24 from by omega, hi, show i - 8 < 32 from by omega, show i - 16 < 32 from by omega, show i - 24 < 32 from by omega, hz d3 i (by omega), hz d2 (i - 8) (by omega), hz d1 (i - 16) (by omega)]
theorem bv_lt (x : BitVec 32) (n : Nat) (h : ∀ i, n ≤ i → i < 32 → x.getLsbD i = false) : x.toNat < 2 ^ n := by
  apply Nat.lt_pow_two_of_testBit
  intro i hi
  by_cases c : i < 32
  · have := h i hi c
    simpa [BitVec.getLsbD] using this
  · exact Nat.testBit_lt_two_pow (Nat.lt_of_lt_of_le x.isLt (Nat.pow_le_pow_right (by decide) (by omega)))
/-- Five bytes, of which the first r bits and all behind the 32 next are 0: if they come to the state 0, all are 0. -/
theorem five_zero (d0 d1 d2 d3 d4 : UInt8) (r : Nat) (hr : r < 8) (h0 : ∀ i, 8 - r ≤ i → i < 8 → d0.toBitVec.getLsbD i = false) (h4 : ∀ i, i < 8 - r → d4.toBitVec.getLsbD i = false)
    (h : more 0#32 [d0, d1, d2, d3, d4] = 0#32) : word d0 d1 d2 d3 = 0#32 ∧ d4.toBitVec = 0#8 := by
  have hs : more 0#32 [d0, d1, d2, d3, d4] = next (more 0#32 [d0, d1, d2, d3]) d4 := rfl
  rw [hs, more_word, next_up] at h
  have h1 := up_zero_iff _ _ h
  have hlow : (word d0 d1 d2 d3).toNat < 2 ^ (32 - r) := by
    apply bv_lt
    intro i hi1 hi2
    rw [word_bit _ _ _ _ i hi2, if_neg (by omega), if_neg (by omega), if_neg (by omega)]
    exact h0 _ (by omega) (by omega)
  generalize word d0 d1 d2 d3 = y at *
  have h2 : up y 32 = d4.toBitVec.setWidth 32 <<< 24 := by
    have : up y 32 ^^^ d4.toBitVec.setWidth 32 <<< 24 ^^^ d4.toBitVec.setWidth 32 <<< 24 = d4.toBitVec.setWidth 32 <<< 24 := by rw [h1, BitVec.zero_xor]
    rwa [BitVec.xor_assoc, BitVec.xor_self, BitVec.xor_zero] at this
  have hd : d4.toBitVec.toNat % 2 ^ (8 - r) = 0 := by
    apply Nat.eq_of_testBit_eq
    intro i
    rw [Nat.testBit_mod_two_pow, Nat.zero_testBit]
    by_cases c : i < 8 - r
    · have := h4 i c
      simp only [BitVec.getLsbD] at this
      rw [this, Bool.and_false]
    · simp [c]
  have hdl := d4.toBitVec.isLt
  obtain ⟨t, ht⟩ : ∃ t, d4.toBitVec.toNat = 2 ^ (8 - r) * t := ⟨d4.toBitVec.toNat / 2 ^ (8 - r), by have := Nat.div_add_mod d4.toBitVec.toNat (2 ^ (8 - r)); omega⟩
  have hpp : 2 ^ (8 - r) * 2 ^ r = 256 := by rw [← Nat.pow_add, show 8 - r + r = 8 from by omega]
  have htl : t < 2 ^ r := by
    rw [ht] at hdl
    have : 2 ^ (8 - r) * t < 2 ^ (8 - r) * 2 ^ r := by rw [hpp]; exact hdl
    exact Nat.lt_of_mul_lt_mul_left this
  have hr2 : 2 ^ r ≤ 128 := by
    have : (2 : Nat) ^ r ≤ 2 ^ 7 := Nat.pow_le_pow_right (by decide) (by omega)
    simpa using this
  have htn : (BitVec.ofNat 32 t).toNat = t := by rw [BitVec.toNat_ofNat]; exact Nat.mod_eq_of_lt (by omega)
  have h3 : d4.toBitVec.setWidth 32 <<< 24 = up (BitVec.ofNat 32 t) (32 - r) := by
    rw [up_low _ (32 - r) (32 - r) (Nat.le_refl _) (by rw [htn, show 32 - (32 - r) = r from by omega]; exact htl) (by omega)]
    apply BitVec.eq_of_toNat_eq
    rw [BitVec.toNat_shiftLeft, BitVec.toNat_shiftLeft, htn, BitVec.toNat_setWidth, Nat.shiftLeft_eq, Nat.shiftLeft_eq, Nat.mod_eq_of_lt (show d4.toBitVec.toNat < 2 ^ 32 by omega), ht]
    have e : 2 ^ (8 - r) * t * 2 ^ 24 = t * 2 ^ (32 - r) := by
      rw [Nat.mul_comm (2 ^ (8 - r)) t, Nat.mul_assoc, ← Nat.pow_add, show 8 - r + 24 = 32 - r from by omega]
    rw [e]
  have h5 : up y 32 = up (up y r) (32 - r) := by rw [← up_add, show r + (32 - r) = 32 from by omega]
  rw [h5, h3] at h2
  have h6 := up_inj _ _ _ h2
  rw [up_low y r r (Nat.le_refl _) hlow (by omega)] at h6
  have h7 := congrArg BitVec.toNat h6
  rw [BitVec.toNat_shiftLeft, Nat.shiftLeft_eq, htn, Nat.mod_eq_of_lt] at h7
  · have hy : y.toNat = 0 := by
      rcases Nat.eq_zero_or_pos y.toNat with c | c
      · exact c
      · have := Nat.mul_le_mul_right (2 ^ r) c
        omega
    rw [hy, Nat.zero_mul] at h7
    refine ⟨BitVec.eq_of_toNat_eq hy, BitVec.eq_of_toNat_eq ?_⟩
    rw [ht, ← h7, Nat.mul_zero]; rfl
  · have := Nat.mul_lt_mul_of_pos_right hlow (Nat.two_pow_pos r)
    rwa [← Nat.pow_add, show 32 - r + r = 32 from by omega] at this

theorem tells (l : List UInt8) (f bits : Nat) (h5 : 5 ≤ l.length) (hf : f < 8 * (l.length - 4)) (hb : bits < 4294967296) (h0 : ¬ bits = 0) : ¬ sum (flips l f bits 32) = sum l := by
  intro hs
  unfold sum at hs
  have hs1 : more (BitVec.allOnes 32) (flips l f bits 32) = more (BitVec.allOnes 32) l := by
    have := congrArg (fun x => ~~~x) hs
    simpa using this
  have hz := more_zip l (delL l.length f bits) (BitVec.allOnes 32) 0#32 (by simp [delL])
  rw [BitVec.xor_zero, ← flips_zip, hs1] at hz
  have hD : more 0#32 (delL l.length f bits) = 0#32 := by
    have : more (BitVec.allOnes 32) l ^^^ more (BitVec.allOnes 32) l = more (BitVec.allOnes 32) l ^^^ (more (BitVec.allOnes 32) l ^^^ more 0#32 (delL l.length f bits)) := by rw [← hz]
    rw [BitVec.xor_self, ← BitVec.xor_assoc, BitVec.xor_self, BitVec.zero_xor] at this
    exact this.symm
  have hzero : ∀ j, (j < f / 8 ∨ f / 8 + 4 < j) → del f bits 32 j = 0 := by
    intro j hj
    apply UInt8.toBitVec_inj.1
    apply BitVec.eq_of_getLsbD_eq
    intro i hi
    rw [del_bit f bits j i hi 32]
    have : ¬ (f ≤ 8 * j + (7 - i) ∧ 8 * j + (7 - i) < f + 32 ∧ bits.testBit (8 * j + (7 - i) - f) = true) := by rintro ⟨a, b, _⟩; omega
    rw [decide_eq_false this]
    simp
  obtain ⟨q, hq⟩ : ∃ q, q = f / 8 := ⟨_, rfl⟩
  have hql : q + 5 ≤ l.length := by omega
  have hlen : (delL l.length f bits).length = l.length := by simp [delL]
  have hget : ∀ j (h : j < (delL l.length f bits).length), (delL l.length f bits)[j] = del f bits 32 j := by intro j h; simp [delL]
  have htake : more 0#32 ((delL l.length f bits).take q) = 0#32 := by
    rw [more_zeros _ ?_, up_zero]
    intro c hc
    obtain ⟨j, hj, rfl⟩ := List.mem_iff_getElem.1 hc
    rw [List.length_take] at hj
    rw [List.getElem_take, hget]
    exact hzero j (Or.inl (by omega))
  have hsplit : (delL l.length f bits).drop q = del f bits 32 q :: del f bits 32 (q + 1) :: del f bits 32 (q + 2) :: del f bits 32 (q + 3) :: del f bits 32 (q + 4) :: (delL l.length f bits).drop (q + 5) := by
    rw [List.drop_eq_getElem_cons (by omega), List.drop_eq_getElem_cons (i := q + 1) (by omega), List.drop_eq_getElem_cons (i := q + 1 + 1) (by omega), List.drop_eq_getElem_cons (i := q + 1 + 1 + 1) (by omega), List.drop_eq_getElem_cons (i := q + 1 + 1 + 1 + 1) (by omega)]
    simp only [hget]
  have hX : more 0#32 [del f bits 32 q, del f bits 32 (q + 1), del f bits 32 (q + 2), del f bits 32 (q + 3), del f bits 32 (q + 4)] = 0#32 := by
    have e : delL l.length f bits = (delL l.length f bits).take q ++ ([del f bits 32 q, del f bits 32 (q + 1), del f bits 32 (q + 2), del f bits 32 (q + 3), del f bits 32 (q + 4)] ++ (delL l.length f bits).drop (q + 5)) := by
      conv => lhs; rw [← List.take_append_drop q (delL l.length f bits), hsplit]
      rfl
    rw [e, more_append, htake, more_append, more_zeros _ ?_] at hD
    · exact up_zero_iff _ _ hD
    · intro c hc
      obtain ⟨j, hj, rfl⟩ := List.mem_iff_getElem.1 hc
      rw [List.getElem_drop, hget]
      exact hzero _ (Or.inr (by omega))
  have hfive := five_zero _ _ _ _ _ (f % 8) (by omega) ?_ ?_ hX
  · obtain ⟨hw, hd4⟩ := hfive
    have hall : ∀ m, m < 5 → ∀ i, i < 8 → (del f bits 32 (q + m)).toBitVec.getLsbD i = false := by
      intro m hm i hi
      have w := fun k (hk : k < 32) => (word_bit (del f bits 32 q) (del f bits 32 (q + 1)) (del f bits 32 (q + 2)) (del f bits 32 (q + 3)) k hk).symm.trans (by rw [hw]; simp : (word (del f bits 32 q) (del f bits 32 (q + 1)) (del f bits 32 (q + 2)) (del f bits 32 (q + 3))).getLsbD k = false)
      obtain rfl | rfl | rfl | rfl | rfl : m = 0 ∨ m = 1 ∨ m = 2 ∨ m = 3 ∨ m = 4 := by omega
      · have := w (i + 24) (by omega)
        rwa [if_neg (by omega), if_neg (by omega), if_neg (by omega), show i + 24 - 24 = i from by omega] at this
      · have := w (i + 16) (by omega)
        rwa [if_neg (by omega), if_neg (by omega), if_pos (by omega), show i + 16 - 16 = i from by omega] at this
      · have := w (i + 8) (by omega)
        rwa [if_neg (by omega), if_pos (by omega), show i + 8 - 8 = i from by omega] at this
      · have := w i (by omega)
        rwa [if_pos hi] at this
      · rw [hd4]; simp
    apply h0
    apply Nat.eq_of_testBit_eq
    intro k
    rw [Nat.zero_testBit]
    by_cases hk : k < 32
    · have hb1 := hall ((f + k) / 8 - q) (by omega) (7 - (f + k) % 8) (by omega)
      rw [del_bit f bits _ _ (by omega) 32, decide_eq_false_iff_not] at hb1
      have e : 8 * (q + ((f + k) / 8 - q)) + (7 - (7 - (f + k) % 8)) = f + k := by omega
      rw [e, show f + k - f = k from by omega] at hb1
      cases hc : bits.testBit k with
      | false => rfl
      | true => exact absurd ⟨by omega, by omega, hc⟩ hb1
    · exact Nat.testBit_lt_two_pow (Nat.lt_of_lt_of_le (show bits < 2 ^ 32 from hb) (Nat.pow_le_pow_right (by decide) (by omega)))
  · intro i hi1 hi2
    rw [del_bit f bits _ i hi2 32, decide_eq_false_iff_not]
    rintro ⟨a, _, _⟩
    omega
  · intro i hi
    rw [del_bit f bits _ i (by omega) 32, decide_eq_false_iff_not]
    rintro ⟨_, b, _⟩
    omega
end PoS
end Go.Proofs.Ytfomgljhcegjdaa
