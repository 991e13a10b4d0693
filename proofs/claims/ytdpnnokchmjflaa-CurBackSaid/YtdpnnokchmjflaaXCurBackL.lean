/- CurBack: the plain law: what is read of what was written, and of a part of it. No conditions. -/
import Derived.Test.YtdpnnokchmjflaaXCurRd
namespace Go.Proofs.Ytdpnnokchmjflaa
open Go.RowKit Go.Lib Go.Proofs.Ytdpnnokchmjflaa.P Go.Proofs.Ytdpnnokchmjflaa.BeS Go.Proofs.YtdpnnokchmjflaaW.PrintWords Go.Proofs.YtdpnnokchmjflaaW.PrintLast Go.Proofs.YtdpnnokchmjflaaW.PrintMore
set_option linter.unusedVariables false
set_option linter.unusedSimpArgs false
/-- The law's own cut of a field. -/
def bkW (f : Fd) : Int := 1 + (max 0 f.width) % 8
def bkN (f : Fd) : Nat := if bkW f < 8 then f.n % 256 ^ (bkW f).toNat else f.n
def bkF (f : Fd) : Fd := if (ofF f).kind = 0 then ⟨0, bkW f, bkN f, (ofF f).s.extract 0 (min (ofF f).s.size 200)⟩ else ⟨(ofF f).kind, f.width, f.n, (ofF f).s.extract 0 (min (ofF f).s.size 200)⟩
/-- What a field is that can be written. -/
structure Fd.Fine (f : Fd) : Prop extends f.Ok where
  w : f.kind = 0 → 1 ≤ f.width ∧ f.width ≤ 8 ∧ f.n < 256 ^ f.width.toNat
  s2 : f.s.size ≤ 200
theorem ofF_ok {f : Fd} (h : f.In) : (ofF f).Ok := by
  obtain ⟨h1, h2, h3, h4, h5⟩ := h
  refine ⟨⟨?_, ?_, h3, h4, h5⟩, ?_, ?_⟩
  · show -9223372036854775808 ≤ (max 0 f.kind) % 3; omega
  · show (max 0 f.kind) % 3 < 9223372036854775808; omega
  · show (max 0 f.kind) % 3 = 0 ∨ (max 0 f.kind) % 3 = 1 ∨ (max 0 f.kind) % 3 = 2; omega
  · show (f.s.extract 0 (min f.s.size 300)).size ≤ 300
    rw [ByteArray.size_extract]; omega
theorem bkF_fine {f : Fd} (h : f.In) : (bkF f).Fine := by
  obtain ⟨h1, h3, h4⟩ := ofF_ok h
  have hs : ((ofF f).s.extract 0 (min (ofF f).s.size 200)).size ≤ 200 := by rw [ByteArray.size_extract]; omega
  unfold bkF
  split
  · rename_i hk
    have hw : 1 ≤ bkW f ∧ bkW f ≤ 8 := by unfold bkW; omega
    have hn : bkN f < 256 ^ (bkW f).toNat := by
      unfold bkN
      split
      · exact Nat.mod_lt _ (Nat.pow_pos (by decide))
      · have : bkW f = 8 := by omega
        rw [this]
        simpa using h.n1
    have hn2 : bkN f < 18446744073709551616 := by
      unfold bkN
      split
      · exact Nat.lt_of_le_of_lt (Nat.mod_le _ _) h.n1
      · exact h.n1
    exact ⟨⟨⟨by simp only; omega, by simp only; omega, by simp only; omega, by simp only; omega, hn2⟩, .inl rfl, by simp only; omega⟩, fun _ => ⟨hw.1, hw.2, hn⟩, hs⟩
  · rename_i hk
    exact ⟨⟨⟨h1.k0, h1.k1, h.w0, h.w1, h.n1⟩, h3, by simp only; omega⟩, fun e => absurd e hk, hs⟩
theorem fine_ok {f : Fd} (h : f.Fine) : okF f = true := by
  unfold okF
  split
  · rename_i hk
    obtain ⟨h1, h2, h3⟩ := h.w hk
    unfold fits
    rw [decide_eq_true_iff]
    exact ⟨h1, h2, h3⟩
  · split
    · rfl
    · have := h.s2
      rw [decide_eq_true_iff]
      omega
theorem fine_bad {fs : List Fd} (h : ∀ f ∈ fs, f.Fine) : badFs fs = false := by
  unfold badFs
  rw [List.any_eq_false]
  intro f hf
  rw [fine_ok (h f hf)]
  decide
theorem tk_part (A B : List UInt8) (n : Int) (h : n = (A.length : Int)) : tkN (A ++ B, false) n = true ∧ tkS (A ++ B, false) n = A ∧ tkR (A ++ B, false) n = (B, false) := by
  subst h
  have ht : tkN (A ++ B, false) (A.length : Int) = true := by
    unfold tkN
    rw [decide_eq_true (by simp only [List.length_append]; omega)]
    rfl
  unfold tkS tkR
  rw [if_pos ht, if_pos ht]
  refine ⟨ht, ?_, ?_⟩ <;> simp
theorem rd_part (A B : List UInt8) (wd : Int) (h : wd = (A.length : Int)) (h1 : 1 ≤ A.length) (h8 : A.length ≤ 8) : rdN (A ++ B, false) wd = getN A ∧ tkR (A ++ B, false) (numW wd) = (B, false) := by
  have hn : numW wd = wd := if_pos (by omega)
  obtain ⟨h1, h2, h3⟩ := tk_part A B wd h
  unfold rdN
  rw [hn, h2, h3]
  exact ⟨rfl, rfl⟩
/-- A field's own bytes, read. -/
theorem rd_fine {f : Fd} (h : f.Fine) (R : List UInt8) : (f.kind = 2 → (rdF (bytesF f ++ R, false) f).s = f.s) ∧ (f.kind ≠ 2 → (rdF (bytesF f ++ R, false) f).n = f.n) ∧ rdFR (bytesF f ++ R, false) f = (R, false) := by
  rcases h.k with hk | hk | hk
  · obtain ⟨h1, h2, h3⟩ := h.w hk
    have hb : bytesF f = putL f.n f.width.toNat := by unfold bytesF putB; rw [if_pos hk, if_pos ⟨h1, h2⟩]
    obtain ⟨e1, e2⟩ := rd_part (putL f.n f.width.toNat) R f.width (by rw [putL_length]; omega) (by rw [putL_length]; omega) (by rw [putL_length]; omega)
    unfold rdF rdFR
    rw [if_pos hk, if_pos hk, hb]
    exact ⟨fun e => by omega, fun _ => by rw [e1, getN_putL, Nat.mod_eq_of_lt h3], e2⟩
  · have hb : bytesF f = putL f.n 8 := by unfold bytesF; rw [if_neg (by omega), if_pos hk]
    obtain ⟨e1, e2⟩ := rd_part (putL f.n 8) R 8 (by rw [putL_length]; rfl) (by rw [putL_length]; decide) (by rw [putL_length]; decide)
    unfold rdF rdFR
    rw [if_neg (by omega), if_pos hk, if_neg (by omega), if_pos hk, hb]
    exact ⟨fun e => by omega, fun _ => by rw [e1, getN_putL, Nat.mod_eq_of_lt (by simpa using h.n1)], e2⟩
  · have hs := h.s2
    have hb : bytesF f = [UInt8.ofNat f.s.size] ++ f.s.data.toList := by unfold bytesF; rw [if_neg (by omega), if_neg (by omega), if_pos (by omega)]; rfl
    obtain ⟨e1, e2⟩ := rd_part [UInt8.ofNat f.s.size] (f.s.data.toList ++ R) 1 (by rfl) (by rw [List.length_singleton]; decide) (by rw [List.length_singleton]; decide)
    rw [show numW 1 = 1 from rfl] at e2
    have e3 : getN [UInt8.ofNat f.s.size] = f.s.size := by
      unfold getN
      simp
      omega
    obtain ⟨_, t2, t3⟩ := tk_part f.s.data.toList R (f.s.size : Int) (by rw [Array.length_toList]; rfl)
    unfold rdF rdFR rdT rdTR
    rw [if_neg (by omega), if_neg (by omega), if_neg (by omega), if_neg (by omega), hb, List.append_assoc, e2, e1, e3, t2, t3, ← of_data]
    exact ⟨fun _ => rfl, fun e => absurd hk e, rfl⟩
theorem wrong_stays (f : Fd) : rdFR ([], true) f = ([], true) := by
  unfold rdFR rdTR
  have : ∀ n, tkR ([], true) n = ([], true) := fun n => rfl
  split
  · exact this _
  · split
    · exact this _
    · rw [this, this]
theorem tk_short (l : List UInt8) (n : Int) (h : (l.length : Int) < n) : tkR (l, false) n = ([], true) := by
  unfold tkR
  rw [if_neg]
  unfold tkN
  simp only [Bool.and_eq_true, decide_eq_true_eq, not_and]
  intro _ _
  omega
/-- A beginning of a field's own bytes is wrong. -/
theorem rd_short {f : Fd} (h : f.Fine) (R : List UInt8) (c : Nat) (hc : c < (bytesF f).length) : rdFR ((bytesF f ++ R).take c, false) f = ([], true) := by
  have hl : ((bytesF f ++ R).take c).length = c := by rw [List.length_take, List.length_append]; omega
  rcases h.k with hk | hk | hk
  · obtain ⟨h1, h2, h3⟩ := h.w hk
    have hb : bytesF f = putL f.n f.width.toNat := by unfold bytesF putB; rw [if_pos hk, if_pos ⟨h1, h2⟩]
    rw [hb, putL_length] at hc
    unfold rdFR
    rw [if_pos hk]
    refine tk_short _ _ ?_
    rw [hl]
    unfold numW
    rw [if_pos ⟨h1, h2⟩]
    omega
  · have hb : bytesF f = putL f.n 8 := by unfold bytesF; rw [if_neg (by omega), if_pos hk]
    rw [hb, putL_length] at hc
    unfold rdFR
    rw [if_neg (by omega), if_pos hk]
    refine tk_short _ _ ?_
    rw [hl]
    omega
  · have hs := h.s2
    have hb : bytesF f = [UInt8.ofNat f.s.size] ++ f.s.data.toList := by unfold bytesF; rw [if_neg (by omega), if_neg (by omega), if_pos (by omega)]; rfl
    have hsl : f.s.data.toList.length = f.s.size := Array.length_toList
    unfold rdFR rdTR
    rw [if_neg (by omega), if_neg (by omega)]
    cases c with
    | zero =>
      rw [List.take_zero, tk_short [] 1 (by decide)]
      rfl
    | succ c =>
      rw [hb, List.length_append, List.length_singleton, hsl] at hc
      have ht : (bytesF f ++ R).take (c + 1) = [UInt8.ofNat f.s.size] ++ (f.s.data.toList ++ R).take c := by rw [hb]; rfl
      obtain ⟨e1, e2⟩ := rd_part [UInt8.ofNat f.s.size] ((f.s.data.toList ++ R).take c) 1 (by rfl) (by rw [List.length_singleton]; decide) (by rw [List.length_singleton]; decide)
      rw [show numW 1 = 1 from rfl] at e2
      have e3 : getN [UInt8.ofNat f.s.size] = f.s.size := by
        unfold getN
        simp
        omega
      rw [ht, e2, e1, e3]
      refine tk_short _ _ ?_
      rw [List.length_take, List.length_append, hsl]
      omega
/-- The reader's state behind all fields. -/
def rdAll (r : RdS) (fs : List Fd) : RdS := fs.foldl rdFR r
theorem rdAll_take (r : RdS) (fs : List Fd) (i : Nat) (h : i < fs.length) : rdAll r (fs.take (i + 1)) = rdFR (rdAll r (fs.take i)) fs[i] := by
  unfold rdAll
  rw [List.take_succ_eq_append_getElem h, List.foldl_append]
  rfl
theorem rdAll_wrong (fs : List Fd) : rdAll ([], true) fs = ([], true) := by
  unfold rdAll
  induction fs with
  | nil => rfl
  | cons f fs ih => rw [List.foldl_cons, wrong_stays, ih]
theorem rdAll_cut (fs : List Fd) (hf : ∀ f ∈ fs, f.Fine) : ∀ c, c < (bytesFs fs).length → rdAll ((bytesFs fs).take c, false) fs = ([], true) := by
  induction fs with
  | nil => intro c hc; exact absurd hc (Nat.not_lt_zero _)
  | cons f fs ih =>
    intro c hc
    have hff := hf f (List.mem_cons_self ..)
    have e : bytesFs (f :: fs) = bytesF f ++ bytesFs fs := by unfold bytesFs; rw [List.flatMap_cons]
    show rdAll (rdFR ((bytesFs (f :: fs)).take c, false) f) fs = _
    rw [e] at hc ⊢
    by_cases h : c < (bytesF f).length
    · rw [rd_short hff _ c h, rdAll_wrong]
    · have e2 : (bytesF f ++ bytesFs fs).take c = bytesF f ++ (bytesFs fs).take (c - (bytesF f).length) := by
        rw [List.take_append, List.take_of_length_le (by omega)]
      rw [e2, (rd_fine hff _).2.2]
      refine ih (fun g hg => hf g (List.mem_cons_of_mem _ hg)) _ ?_
      rw [List.length_append] at hc
      omega
/-- The whole bytes: behind the first i fields the others' bytes are left. -/
theorem rdAll_whole (fs : List Fd) (hf : ∀ f ∈ fs, f.Fine) : ∀ i, i ≤ fs.length → rdAll (bytesFs fs, false) (fs.take i) = (bytesFs (fs.drop i), false) := by
  intro i
  induction i with
  | zero => intro _; rfl
  | succ i ih =>
    intro hi
    rw [rdAll_take _ _ _ hi, ih (by omega), List.drop_eq_getElem_cons hi]
    have e : bytesFs (fs[i] :: fs.drop (i + 1)) = bytesF fs[i] ++ bytesFs (fs.drop (i + 1)) := by unfold bytesFs; rw [List.flatMap_cons]
    rw [e, (rd_fine (hf _ (List.getElem_mem hi)) _).2.2]
end Go.Proofs.Ytdpnnokchmjflaa
