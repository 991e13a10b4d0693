/- Tags, plainly: what is written, what is read, and that no byte may be another one. No conditions. -/
import Derived.Test.YtfomgljhcegjdaaXPolyTells
import Derived.Test.YtfomgljhcegjdaaXBeSpec
namespace Go.Proofs.Ytfomgljhcegjdaa
open Go.RowKit Go.Proofs.Ytfomgljhcegjdaa.BeS Go.Proofs.Ytfomgljhcegjdaa.PoS
set_option linter.unusedVariables false
set_option linter.unusedSimpArgs false
structure Tg where
  kind : Nat
  log : Int
  seq : Nat
  pos : Int
  len : Int
def Tg.right (t : Tg) : Bool := decide ((1 ≤ t.kind ∧ t.kind ≤ 3) ∧ (0 ≤ t.log ∧ t.log ≤ 65535) ∧ (1 ≤ t.len ∧ t.len ≤ 255) ∧ 0 ≤ t.pos ∧ t.pos < t.len)
def Tg.zero : Tg := ⟨0, 0, 0, 0, 0⟩
structure Tg.In (t : Tg) : Prop where
  kind : t.kind < 256
  log : -9223372036854775808 ≤ t.log ∧ t.log < 9223372036854775808
  seq : t.seq < 18446744073709551616
  pos : -9223372036854775808 ≤ t.pos ∧ t.pos < 9223372036854775808
  len : -9223372036854775808 ≤ t.len ∧ t.len < 9223372036854775808
def bytesT (t : Tg) : List UInt8 := 255 :: (putL t.kind 1 ++ (putL t.log.toNat 2 ++ (putL t.seq 8 ++ (putL t.pos.toNat 1 ++ (putL t.len.toNat 1 ++ List.replicate 14 0)))))
def sumT (d b : List UInt8) : List UInt8 := putL (sum (d ++ b)).toNat 4
def frameT (t : Tg) (d : List UInt8) : List UInt8 := bytesT t ++ sumT d (bytesT t)
def readT (s : List UInt8) : Tg := ⟨getN ((s.drop 1).take 1), (getN ((s.drop 2).take 2) : Int), getN ((s.drop 4).take 8), (getN ((s.drop 12).take 1) : Int), (getN ((s.drop 13).take 1) : Int)⟩
def parseT (d s : List UInt8) : Tg × Int :=
  if s.length ≠ 32 then (Tg.zero, 4)
  else if (readT s).right = false ∨ bytesT (readT s) ≠ s.take 28 then (Tg.zero, 4)
  else if sumT d (s.take 28) ≠ s.drop 28 then (Tg.zero, 5)
  else (readT s, 0)
theorem bytesT_len (t : Tg) : (bytesT t).length = 28 := by simp [bytesT, putL_length]
theorem sumT_len (d b : List UInt8) : (sumT d b).length = 4 := putL_length _ _
theorem frameT_len (t : Tg) (d : List UInt8) : (frameT t d).length = 32 := by rw [frameT, List.length_append, bytesT_len, sumT_len]
theorem right_iff (t : Tg) : t.right = true ↔ (1 ≤ t.kind ∧ t.kind ≤ 3) ∧ (0 ≤ t.log ∧ t.log ≤ 65535) ∧ (1 ≤ t.len ∧ t.len ≤ 255) ∧ 0 ≤ t.pos ∧ t.pos < t.len := by unfold Tg.right; exact decide_eq_true_iff
theorem part_take (A B : List UInt8) (n : Nat) (h : A.length = n) : (A ++ B).take n = A := by subst h; exact List.take_left ..
theorem part_drop (A B : List UInt8) (n : Nat) (h : A.length = n) : (A ++ B).drop n = B := by subst h; exact List.drop_left ..
theorem read_bytes (t : Tg) (hr : t.right = true) (hs : t.seq < 18446744073709551616) (c : List UInt8) : readT (bytesT t ++ c) = t := by
  obtain ⟨hk, hl, hn, hp⟩ := (right_iff t).1 hr
  obtain ⟨k, l, s, p, n⟩ := t
  simp only at hk hl hn hp hs
  have e1 : (bytesT ⟨k, l, s, p, n⟩ ++ c).drop 1 = putL k 1 ++ (putL l.toNat 2 ++ (putL s 8 ++ (putL p.toNat 1 ++ (putL n.toNat 1 ++ (List.replicate 14 0 ++ c))))) := by simp [bytesT]
  have e2 : (bytesT ⟨k, l, s, p, n⟩ ++ c).drop 2 = putL l.toNat 2 ++ (putL s 8 ++ (putL p.toNat 1 ++ (putL n.toNat 1 ++ (List.replicate 14 0 ++ c)))) := by
    rw [show (2 : Nat) = 1 + 1 from rfl, ← List.drop_drop, e1, part_drop _ _ 1 (putL_length _ _)]
  have e3 : (bytesT ⟨k, l, s, p, n⟩ ++ c).drop 4 = putL s 8 ++ (putL p.toNat 1 ++ (putL n.toNat 1 ++ (List.replicate 14 0 ++ c))) := by
    rw [show (4 : Nat) = 2 + 2 from rfl, ← List.drop_drop, e2, part_drop _ _ 2 (putL_length _ _)]
  have e4 : (bytesT ⟨k, l, s, p, n⟩ ++ c).drop 12 = putL p.toNat 1 ++ (putL n.toNat 1 ++ (List.replicate 14 0 ++ c)) := by
    rw [show (12 : Nat) = 4 + 8 from rfl, ← List.drop_drop, e3, part_drop _ _ 8 (putL_length _ _)]
  have e5 : (bytesT ⟨k, l, s, p, n⟩ ++ c).drop 13 = putL n.toNat 1 ++ (List.replicate 14 0 ++ c) := by
    rw [show (13 : Nat) = 12 + 1 from rfl, ← List.drop_drop, e4, part_drop _ _ 1 (putL_length _ _)]
  unfold readT
  rw [e1, e2, e3, e4, e5, part_take _ _ 1 (putL_length _ _), part_take _ _ 2 (putL_length _ _), part_take _ _ 8 (putL_length _ _), part_take _ _ 1 (putL_length _ _), part_take _ _ 1 (putL_length _ _), getN_putL, getN_putL, getN_putL, getN_putL, getN_putL]
  have h1 : k % 256 ^ 1 = k := Nat.mod_eq_of_lt (by omega)
  have h2 : ((l.toNat % 256 ^ 2 : Nat) : Int) = l := by rw [Nat.mod_eq_of_lt (by omega)]; omega
  have h3 : s % 256 ^ 8 = s := Nat.mod_eq_of_lt (by simpa using hs)
  have h4 : ((p.toNat % 256 ^ 1 : Nat) : Int) = p := by rw [Nat.mod_eq_of_lt (by omega)]; omega
  have h5 : ((n.toNat % 256 ^ 1 : Nat) : Int) = n := by rw [Nat.mod_eq_of_lt (by omega)]; omega
  rw [h1, h2, h3, h4, h5]
theorem frame_take (t : Tg) (d : List UInt8) : (frameT t d).take 28 = bytesT t := part_take _ _ 28 (bytesT_len t)
theorem frame_drop (t : Tg) (d : List UInt8) : (frameT t d).drop 28 = sumT d (bytesT t) := part_drop _ _ 28 (bytesT_len t)
theorem parse_frame (t : Tg) (hr : t.right = true) (hs : t.seq < 18446744073709551616) (d : List UInt8) : parseT d (frameT t d) = (t, 0) := by
  have e : readT (frameT t d) = t := read_bytes t hr hs _
  unfold parseT
  rw [if_neg (by rw [frameT_len]; simp), e, frame_take, frame_drop, if_neg (by rintro (h | h); exact absurd hr (by rw [h]; decide); exact h rfl), if_neg (by simp)]
theorem frame_inj (a b : Tg) (ha : a.right = true) (hb : b.right = true) (sa : a.seq < 18446744073709551616) (sb : b.seq < 18446744073709551616) (d : List UInt8) : frameT a d = frameT b d ↔ a = b := by
  constructor
  · intro h
    have h1 := read_bytes a ha sa (sumT d (bytesT a))
    have h2 := read_bytes b hb sb (sumT d (bytesT b))
    have h3 : bytesT a ++ sumT d (bytesT a) = bytesT b ++ sumT d (bytesT b) := h
    rw [h3, h2] at h1
    exact h1.symm
  · rintro rfl; rfl
theorem xor_right_inj (a b c : BitVec 32) (h : a ^^^ c = b ^^^ c) : a = b := by
  have := congrArg (· ^^^ c) h
  simpa [BitVec.xor_assoc] using this
theorem xor_left_inj (a b c : BitVec 32) (h : c ^^^ a = c ^^^ b) : a = b := by
  rw [BitVec.xor_comm c a, BitVec.xor_comm c b] at h
  exact xor_right_inj a b c h
theorem next_eq (x : BitVec 32) (c : UInt8) : next x c = up (x ^^^ (c.toBitVec.setWidth 32 <<< 24)) 8 := by
  have := next_at' x c 0 (by decide)
  exact this
theorem next_inj_state (s t : BitVec 32) (c : UInt8) (h : next s c = next t c) : s = t := by
  rw [next_eq, next_eq] at h
  exact xor_right_inj _ _ _ (up_inj _ _ 8 h)
theorem next_inj_byte (s : BitVec 32) (c d : UInt8) (h : next s c = next s d) : c = d := by
  rw [next_eq, next_eq] at h
  have h1 := xor_left_inj _ _ _ (up_inj _ _ 8 h)
  have h2 := congrArg BitVec.toNat h1
  have hc := c.toNat_lt
  have hd := d.toNat_lt
  have ec : c.toBitVec.toNat = c.toNat := rfl
  have ed : d.toBitVec.toNat = d.toNat := rfl
  rw [BitVec.toNat_shiftLeft, BitVec.toNat_shiftLeft, BitVec.toNat_setWidth, BitVec.toNat_setWidth, ec, ed, Nat.shiftLeft_eq, Nat.shiftLeft_eq] at h2
  apply UInt8.toNat_inj.1
  omega
theorem more_inj (l : List UInt8) : ∀ s t : BitVec 32, more s l = more t l → s = t := by
  induction l with
  | nil => intro s t h; exact h
  | cons c l ih => intro s t h; exact next_inj_state s t c (ih _ _ h)
theorem sum_inj {l m : List UInt8} (h : sum l = sum m) : more (BitVec.allOnes 32) l = more (BitVec.allOnes 32) m := by
  unfold sum at h
  have := congrArg (~~~ ·) h
  simpa using this
theorem sum_one (l : List UInt8) (i : Nat) (hi : i < l.length) (y : UInt8) (hy : y ≠ l[i]) : sum (l.set i y) ≠ sum l := by
  intro h
  have h1 := sum_inj h
  rw [List.set_eq_take_append_cons_drop, if_pos hi, more_append, more_cons] at h1
  have h2 : l = l.take i ++ l[i] :: l.drop (i + 1) := by rw [← List.drop_eq_getElem_cons hi, List.take_append_drop]
  have h3 : more (BitVec.allOnes 32) l = more (next (more (BitVec.allOnes 32) (l.take i)) l[i]) (l.drop (i + 1)) := by
    conv => lhs; rw [h2]
    rw [more_append, more_cons]
  rw [h3] at h1
  exact hy (next_inj_byte _ _ _ (more_inj _ _ _ h1))
theorem sum4_inj (x y : BitVec 32) (h : putL x.toNat 4 = putL y.toNat 4) : x = y := by
  have h1 := congrArg getN h
  rw [getN_putL, getN_putL] at h1
  have hx := x.isLt
  have hy := y.isLt
  rw [Nat.mod_eq_of_lt (by simpa using hx), Nat.mod_eq_of_lt (by simpa using hy)] at h1
  exact BitVec.eq_of_toNat_eq h1
theorem set_left (A B : List UInt8) (i : Nat) (y : UInt8) (h : i < A.length) : (A ++ B).set i y = A.set i y ++ B := by
  rw [List.set_append]; simp [h]
theorem set_right (A B : List UInt8) (i : Nat) (y : UInt8) (h : A.length ≤ i) : (A ++ B).set i y = A ++ B.set (i - A.length) y := by
  rw [List.set_append, if_neg (by omega)]
theorem flip_parse (t : Tg) (d : List UInt8) (i : Nat) (hi : i < (d ++ frameT t d).length) (y : UInt8) (hy : y ≠ (d ++ frameT t d)[i]) (l : List UInt8) (hl : l = (d ++ frameT t d).set i y) :
    (parseT (l.take d.length) (l.drop d.length)).2 = 4 ∨ (parseT (l.take d.length) (l.drop d.length)).2 = 5 := by
  have hlen : l.length = d.length + 32 := by rw [hl, List.length_set, List.length_append, frameT_len]
  unfold parseT
  rw [if_neg (by rw [List.length_drop, hlen]; simp)]
  split
  · exact .inl rfl
  split
  · exact .inr rfl
  exfalso
  rename_i h1 h2
  have h3 : sumT (l.take d.length) ((l.drop d.length).take 28) = (l.drop d.length).drop 28 := Classical.not_not.1 h2
  clear h1 h2
  have hM : d ++ frameT t d = (d ++ bytesT t) ++ sumT d (bytesT t) := by rw [frameT, List.append_assoc]
  have hML : (d ++ bytesT t).length = d.length + 28 := by rw [List.length_append, bytesT_len]
  have e1 : l.take d.length ++ (l.drop d.length).take 28 = l.take (d.length + 28) := (List.take_add ..).symm
  have e2 : (l.drop d.length).drop 28 = l.drop (d.length + 28) := by rw [List.drop_drop]
  unfold sumT at h3
  rw [e1, e2] at h3
  by_cases hc : i < d.length + 28
  · have hs : l = (d ++ bytesT t).set i y ++ sumT d (bytesT t) := by rw [hl, hM, set_left _ _ _ _ (by rw [hML]; exact hc)]
    rw [hs, part_take _ _ (d.length + 28) (by rw [List.length_set, hML]), part_drop _ _ (d.length + 28) (by rw [List.length_set, hML])] at h3
    have h4 := sum4_inj _ _ h3
    refine sum_one (d ++ bytesT t) i (by rw [hML]; exact hc) y ?_ h4
    intro e
    apply hy
    rw [e]
    have : (d ++ frameT t d)[i]? = (d ++ bytesT t)[i]? := by rw [hM, List.getElem?_append_left (by rw [hML]; exact hc)]
    rw [List.getElem?_eq_getElem hi, List.getElem?_eq_getElem (by rw [hML]; exact hc)] at this
    exact (Option.some.inj this).symm
  · have hc' : d.length + 28 ≤ i := Nat.le_of_not_lt hc
    have hs : l = (d ++ bytesT t) ++ (sumT d (bytesT t)).set (i - (d.length + 28)) y := by rw [hl, hM, set_right _ _ _ _ (by rw [hML]; exact hc'), hML]
    rw [hs, part_take _ _ (d.length + 28) hML, part_drop _ _ (d.length + 28) hML] at h3
    have hi2 : i - (d.length + 28) < (sumT d (bytesT t)).length := by
      rw [sumT_len]
      rw [List.length_append, frameT_len] at hi
      omega
    have h4 : ((sumT d (bytesT t)).set (i - (d.length + 28)) y)[i - (d.length + 28)]? = some y := by rw [List.getElem?_set_self hi2]
    have h5 : sumT d (bytesT t) = (sumT d (bytesT t)).set (i - (d.length + 28)) y := h3
    rw [← h5] at h4
    apply hy
    have : (d ++ frameT t d)[i]? = (sumT d (bytesT t))[i - (d.length + 28)]? := by rw [hM, List.getElem?_append_right (by rw [hML]; exact hc'), hML]
    rw [h4, List.getElem?_eq_getElem hi] at this
    exact (Option.some.inj this).symm
theorem parse_len (d s : List UInt8) (h : s.length ≠ 32) : parseT d s = (Tg.zero, 4) := if_pos h
theorem parse_first (d s : List UInt8) (h : s.length = 32) (h0 : s[0]'(by omega) ≠ 255) : parseT d s = (Tg.zero, 4) := by
  unfold parseT
  rw [if_neg (by simp [h])]
  refine if_pos (.inr (fun e => h0 ?_))
  have h1 : (bytesT (readT s))[0]? = (s.take 28)[0]? := by rw [e]
  have h2 : (s.take 28)[0]? = s[0]? := by simp
  rw [h2, List.getElem?_eq_getElem (show 0 < s.length by omega)] at h1
  have h3 : (bytesT (readT s))[0]? = some 255 := rfl
  rw [h3] at h1
  exact (Option.some.inj h1).symm
theorem parse_blank (d s : List UInt8) (h : ∀ c ∈ s, c = 255) : parseT d s = (Tg.zero, 4) := by
  by_cases hl : s.length = 32
  · have e : s = List.replicate 32 255 := List.eq_replicate_iff.2 ⟨hl, h⟩
    unfold parseT
    rw [if_neg (by simp [hl])]
    refine if_pos (.inl ?_)
    rw [e]
    decide
  · exact parse_len d s hl
end Go.Proofs.Ytfomgljhcegjdaa
