/- rec: the plain law: records are told again of their bytes, and of a beginning of these. No program in sight. -/
import Derived.Test.YtnojomoeaofkoaaXRecH
namespace Go.Proofs.Ytnojomoeaofkoaa
open Go.RowKit Go.Lib Go.Proofs.Ytnojomoeaofkoaa.P Go.Proofs.Ytnojomoeaofkoaa.BeS Go.Proofs.Ytnojomoeaofkoaa.PoS
set_option linter.unusedVariables false
set_option linter.unusedSimpArgs false
theorem ext_of_append (x t : ByteArray) (a b : Nat) (h : b ≤ x.size) : (x ++ t).extract a b = x.extract a b := by
  conv => lhs; rw [of_data x, of_data t, str_append, str_extract]
  conv => rhs; rw [of_data x, str_extract]
  congr 2
  rw [List.take_append_of_le_length (by rw [Array.length_toList]; exact h)]
theorem ext_tail (x t : ByteArray) : (x ++ t).extract x.size (x ++ t).size = t := by
  have hl : x.data.toList.length = x.size := by rw [Array.length_toList]; rfl
  have ht : t.data.toList.length = t.size := by rw [Array.length_toList]; rfl
  conv => lhs; rw [of_data x, of_data t, str_append, str_extract, str_size, str_size]
  rw [List.take_of_length_le (Nat.le_refl _), List.drop_left]
  exact (of_data t).symm
theorem ext_ext (x : ByteArray) (m a b : Nat) (h : b ≤ m) : (x.extract 0 m).extract a b = x.extract a b := by
  conv => lhs; rw [of_data x, str_extract, str_extract]
  conv => rhs; rw [of_data x, str_extract]
  congr 2
  rw [List.drop_zero, List.take_take, Nat.min_eq_left h]
theorem ext_all (x : ByteArray) : x.extract 0 x.size = x := by
  conv => lhs; rw [of_data x, str_extract, str_size, List.take_of_length_le (Nat.le_refl _), List.drop_zero]
  exact (of_data x).symm
theorem lenR_of (s x : ByteArray) (h : s.extract 0 2 = x.extract 0 2) : lenR s = lenR x := by unfold lenR; rw [h]
theorem kindR_ext (s : ByteArray) (h : 2 < s.size) : str [UInt8.ofNat (kindR s)] = s.extract 2 3 := by
  rw [ext_one s 2 h]; unfold kindR; rw [dif_pos h, UInt8.ofNat_toNat]
theorem ofNat_inj {a b : Nat} (ha : a < 256) (hb : b < 256) (h : str [UInt8.ofNat a] = str [UInt8.ofNat b]) : a = b := by
  have := congrArg (fun s : ByteArray => s.data.toList) h
  simp only [str_data, List.cons.injEq, and_true] at this
  have := congrArg UInt8.toNat this
  rw [UInt8.toNat_ofNat_of_lt' ha, UInt8.toNat_ofNat_of_lt' hb] at this
  exact this
theorem kindR_of (s x : ByteArray) (hs : 2 < s.size) (hx : 2 < x.size) (h : s.extract 2 3 = x.extract 2 3) : kindR s = kindR x :=
  ofNat_inj (kindR_lt s) (kindR_lt x) (by rw [kindR_ext s hs, kindR_ext x hx, h])
theorem recB_len (k : Nat) (b : ByteArray) (hb : b.size ≤ 2048) : lenR (recB k b) = b.size := by
  unfold lenR recB headR
  have h2 : (str (putL b.size 2)).size = 2 := by rw [str_size, putL_length]
  rw [ByteArray.append_assoc, ByteArray.append_assoc, ext_of_append _ _ 0 2 (by omega)]
  have : (str (putL b.size 2)).extract 0 2 = str (putL b.size 2) := by
    have := ext_all (str (putL b.size 2))
    rwa [h2] at this
  rw [this, str_data, getN_putL]
  have : b.size < 256 ^ 2 := by have : (256 : Nat) ^ 2 = 65536 := by decide
                                omega
  exact Nat.mod_eq_of_lt this
theorem recB_kind (k : Nat) (hk : k < 256) (b : ByteArray) : kindR (recB k b) = k := by
  refine ofNat_inj (kindR_lt _) hk ?_
  rw [kindR_ext _ (by rw [recB_size]; omega)]
  have h2 : (str (putL b.size 2)).size = 2 := by rw [str_size, putL_length]
  unfold recB headR
  rw [ByteArray.append_assoc, ext_of_append _ _ 2 3 (by rw [ByteArray.size_append, h2, str_size]; exact Nat.le_refl 3)]
  have h3 : (str (putL b.size 2) ++ str [UInt8.ofNat k]).size = 3 := by rw [ByteArray.size_append, h2, str_size]; rfl
  have := ext_tail (str (putL b.size 2)) (str [UInt8.ofNat k])
  rw [h3, h2] at this
  exact this
theorem recB_body (k : Nat) (b : ByteArray) : (recB k b).extract 3 (3 + b.size) = b := by
  have h2 : (str (putL b.size 2)).size = 2 := by rw [str_size, putL_length]
  have h3 : (str (putL b.size 2) ++ str [UInt8.ofNat k]).size = 3 := by rw [ByteArray.size_append, h2, str_size]; rfl
  unfold recB
  rw [ext_of_append _ _ 3 (3 + b.size) (by rw [headR_size]; exact Nat.le_refl _)]
  unfold headR
  have := ext_tail (str (putL b.size 2) ++ str [UInt8.ofNat k]) b
  rw [ByteArray.size_append (a := str (putL b.size 2) ++ str [UInt8.ofNat k]) (b := b), h3] at this
  exact this
theorem good_parts {r : Rc} (h : goodR r = true) : r.1 ≠ 0 ∧ r.2.size ≤ 2048 := by
  unfold goodR at h
  simp only [Bool.and_eq_true, decide_eq_true_eq] at h
  exact h
theorem firstR_rec (k : Nat) (hk : k < 256) (b t : ByteArray) (hg : goodR (k, b) = true) : firstR (recB k b ++ t) = ((k, b), 0) := by
  obtain ⟨h0, h1⟩ := good_parts hg
  have hz := recB_size k b
  have hl : lenR (recB k b ++ t) = b.size := by rw [lenR_of _ (recB k b) (ext_of_append _ _ 0 2 (by omega)), recB_len k b h1]
  have hkk : kindR (recB k b ++ t) = k := by rw [kindR_of _ (recB k b) (by rw [ByteArray.size_append]; omega) (by omega) (ext_of_append _ _ 2 3 (by omega)), recB_kind k hk]
  have hbd : (recB k b ++ t).extract 3 (3 + b.size) = b := by rw [ext_of_append _ _ _ _ (by omega), recB_body]
  have hal : (recB k b ++ t).extract 0 (7 + b.size) = recB k b := by rw [ext_of_append _ _ _ _ (by omega), ← hz, ext_all]
  unfold firstR
  rw [hl, hkk, hbd, hal]
  rw [if_neg (by rw [ByteArray.size_append]; omega), if_neg (by rw [ByteArray.size_append]; intro e; rcases e with e | e | e; · exact absurd h1 (by simp only; omega)
                                                                · exact h0 e
                                                                · omega), if_pos rfl]
theorem firstR_cut (k : Nat) (hk : k < 256) (b : ByteArray) (hg : goodR (k, b) = true) (m : Nat) (hm : m < 7 + b.size) : firstR ((recB k b).extract 0 m) = (noR, 4) := by
  obtain ⟨h0, h1⟩ := good_parts hg
  have hz := recB_size k b
  have hs : ((recB k b).extract 0 m).size = m := by rw [ByteArray.size_extract]; omega
  unfold firstR
  by_cases h7 : m < 7
  · rw [if_pos (by omega)]
  · rw [if_neg (by omega), if_pos]
    right; right
    rw [lenR_of _ (recB k b) (ext_ext _ _ 0 2 (by omega)), recB_len k b h1, hs]
    exact hm
theorem frameL_cons (r : Rc) (rs : List Rc) : str (frameL (r :: rs)) = recB r.1 r.2 ++ str (frameL rs) := by
  unfold frameL
  rw [List.flatMap_cons, ← str_append, ← of_data]
theorem restR_rec (k : Nat) (hk : k < 256) (b t : ByteArray) (hg : goodR (k, b) = true) : restR (recB k b ++ t) = t := by
  unfold restR
  rw [firstR_rec k hk b t hg]
  show (recB k b ++ t).extract (7 + b.size) _ = t
  rw [← recB_size k b, ext_tail]
/-- How many bytes the first n records take. -/
def totR (rs : List Rc) (n : Nat) : Nat := (frameL (rs.take n)).length
theorem totR_zero (rs : List Rc) : totR rs 0 = 0 := rfl
theorem totR_cons (r : Rc) (rs : List Rc) (n : Nat) : totR (r :: rs) (n + 1) = 7 + r.2.size + totR rs n := by
  unfold totR frameL
  rw [List.take_succ_cons, List.flatMap_cons, List.length_append]
  congr 1
  rw [Array.length_toList]; exact recB_size _ _
def GoodL (rs : List Rc) : Prop := ∀ r ∈ rs, r.1 < 256 ∧ goodR r = true
theorem parse_cut (rs : List Rc) : GoodL rs → ∀ (m f : Nat), m ≤ totR rs rs.length → m ≤ f →
    (∃ n, n ≤ rs.length ∧ m = totR rs n ∧ parseF f ((str (frameL rs)).extract 0 m) = (rs.take n, 0)) ∨ ((∀ n, n ≤ rs.length → m ≠ totR rs n) ∧ parseF f ((str (frameL rs)).extract 0 m) = ([], 4)) := by
  induction rs with
  | nil =>
    intro _ m f hm hf
    have hm0 : m = 0 := by have : totR [] 0 = 0 := rfl; simp only [List.length_nil] at hm; omega
    subst hm0
    refine .inl ⟨0, Nat.le_refl _, rfl, ?_⟩
    have hz : ((str (frameL [])).extract 0 0).size = 0 := by rw [ByteArray.size_extract]; omega
    cases f with
    | zero => rfl
    | succ f => rw [parseF, if_pos hz]; rfl
  | cons r rs ih =>
    intro hg m f hm hf
    obtain ⟨k, b⟩ := r
    obtain ⟨hk, hgd⟩ := hg (k, b) (List.mem_cons_self ..)
    simp only at hk
    have ih := ih (fun x hx => hg x (List.mem_cons_of_mem _ hx))
    rw [List.length_cons, totR_cons] at hm
    simp only at hm
    have hsz : (str (frameL rs)).size = totR rs rs.length := by rw [str_size]; unfold totR; rw [List.take_length]
    have hall : (str (frameL ((k, b) :: rs))).size = 7 + b.size + totR rs rs.length := by rw [frameL_cons, ByteArray.size_append, recB_size, hsz]
    have hxz : ((str (frameL ((k, b) :: rs))).extract 0 m).size = m := by rw [ByteArray.size_extract]; omega
    by_cases h0 : m = 0
    · refine .inl ⟨0, Nat.zero_le _, h0, ?_⟩
      cases f with
      | zero => rfl
      | succ f => rw [parseF, if_pos (by omega)]; rfl
    · obtain ⟨f, rfl⟩ : ∃ f', f = f' + 1 := ⟨f - 1, by omega⟩
      by_cases hc : m < 7 + b.size
      · have hx : (str (frameL ((k, b) :: rs))).extract 0 m = (recB k b).extract 0 m := by rw [frameL_cons, ext_of_append _ _ _ _ (by show m ≤ (recB k b).size; rw [recB_size]; omega)]
        have hfr := firstR_cut k hk b hgd m hc
        refine .inr ⟨fun n hn => ?_, ?_⟩
        · cases n with
          | zero => exact h0
          | succ n => rw [totR_cons]; show m ≠ 7 + b.size + totR rs n; omega
        · rw [hx] at hxz ⊢
          rw [parseF, if_neg (by omega), hfr, if_neg (by decide)]
      · have hx : (str (frameL ((k, b) :: rs))).extract 0 m = recB k b ++ (str (frameL rs)).extract 0 (m - (7 + b.size)) := by
          rw [frameL_cons, ← ext_join _ 0 (7 + b.size) m (Nat.zero_le _) (by omega)]
          congr 1
          · rw [ext_of_append _ _ _ _ (by rw [recB_size]; exact Nat.le_refl _), ← recB_size k b, ext_all]
          · conv => lhs; rw [of_data (recB k b), of_data (str (frameL rs)), str_append, str_extract]
            conv => rhs; rw [of_data (str (frameL rs)), str_extract]
            congr 1
            have hl : (recB k b).data.toList.length = 7 + b.size := by rw [Array.length_toList]; exact recB_size k b
            rw [List.drop_zero, List.drop_take, ← hl, List.drop_left]
        have hfr := firstR_rec k hk b ((str (frameL rs)).extract 0 (m - (7 + b.size))) hgd
        have hrr := restR_rec k hk b ((str (frameL rs)).extract 0 (m - (7 + b.size))) hgd
        rw [hx] at hxz ⊢
        rcases ih (m - (7 + b.size)) f (by omega) (by omega) with ⟨n, h1, h2, h3⟩ | ⟨h1, h2⟩
        · refine .inl ⟨n + 1, by simp only [List.length_cons]; omega, by rw [totR_cons]; simp only; omega, ?_⟩
          rw [parseF, if_neg (by omega), hfr, if_pos rfl, hrr, h3, if_pos rfl, List.take_succ_cons]
        · refine .inr ⟨fun n hn => ?_, ?_⟩
          · cases n with
            | zero => exact h0
            | succ n =>
              rw [totR_cons]
              have := h1 n (by simp only [List.length_cons] at hn; omega)
              simp only
              omega
          · rw [parseF, if_neg (by omega), hfr, if_pos rfl, hrr, h2, if_neg (by decide)]
theorem totR_mono (rs : List Rc) : ∀ n, n + 1 ≤ rs.length → totR rs n + 7 ≤ totR rs (n + 1) := by
  induction rs with
  | nil => intro n h; simp at h
  | cons r rs ih =>
    intro n h
    cases n with
    | zero => rw [totR_zero, totR_cons]; omega
    | succ n => rw [totR_cons, totR_cons]; have := ih n (by simp only [List.length_cons] at h; omega); omega
theorem totR_lt (rs : List Rc) {a b : Nat} (h : a < b) (hb : b ≤ rs.length) : totR rs a < totR rs b := by
  induction b with
  | zero => omega
  | succ b ih =>
    have := totR_mono rs b hb
    by_cases e : a = b
    · subst e; omega
    · have := ih (by omega) (by omega); omega
theorem totR_inj (rs : List Rc) {a b : Nat} (ha : a ≤ rs.length) (hb : b ≤ rs.length) (h : totR rs a = totR rs b) : a = b := by
  rcases Nat.lt_trichotomy a b with c | c | c
  · have := totR_lt rs c hb; omega
  · exact c
  · have := totR_lt rs c ha; omega
theorem parse_frame (rs : List Rc) (h : GoodL rs) : parseV (str (frameL rs)) = (rs, 0) := by
  have hsz : (str (frameL rs)).size = totR rs rs.length := by rw [str_size]; unfold totR; rw [List.take_length]
  rcases parse_cut rs h (str (frameL rs)).size (str (frameL rs)).size (by omega) (Nat.le_refl _) with ⟨n, h1, h2, h3⟩ | ⟨h1, h2⟩
  · rw [ext_all] at h3
    have := totR_inj rs h1 (Nat.le_refl _) (h2.symm.trans hsz)
    subst this
    rw [List.take_length] at h3
    exact h3
  · exact absurd hsz (h1 rs.length (Nat.le_refl _))
theorem good_all {rs : List Rc} (h : GoodL rs) : rs.all goodR = true := List.all_eq_true.mpr fun r hr => (h r hr).2
theorem frameV_good {rs : List Rc} (h : GoodL rs) : frameV rs = (str (frameL rs), 0) := by unfold frameV; rw [good_all h]; rfl
end Go.Proofs.Ytnojomoeaofkoaa
