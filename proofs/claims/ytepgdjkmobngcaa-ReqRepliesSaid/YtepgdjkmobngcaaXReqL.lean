/- req: requests as fields, plainly: what is decoded of what was encoded, and what was encoded of what is decoded. No conditions beyond the kinds of the numbers. -/
import Derived.Test.YtepgdjkmobngcaaXPostRL
namespace Go.Proofs.Ytepgdjkmobngcaa
open Go.RowKit Go.Lib Go.Proofs.Ytepgdjkmobngcaa.P Go.Proofs.Ytepgdjkmobngcaa.BeS Go.Proofs.YtepgdjkmobngcaaW.PrintWords Go.Proofs.YtepgdjkmobngcaaW.PrintLast Go.Proofs.YtepgdjkmobngcaaW.PrintMore
set_option linter.unusedVariables false
set_option linter.unusedSimpArgs false
/-- A request, but for its lines: kind, the event's kind, key, ref, amount, the account's code, kind and name, n. -/
structure RQ where
  k : Nat
  ek : Nat
  key : Nat
  ref : Int
  amt : Int
  code : Int
  ak : Nat
  name : ByteArray
  n : Int
structure RQ.In (q : RQ) : Prop where
  k : q.k < 256
  key : q.key < 18446744073709551616
  ak : q.ak < 256
  name : q.name.size ≤ 1000
def reqFs (q : RQ) : List Fl :=
  if q.k = 1 then [.num (uN q.code) 2, .num q.ak 1, .txt q.name]
  else if q.k = 4 ∨ q.k = 9 then [.num q.key 8]
  else if q.k = 5 then [.num q.key 8, .num (uN q.ref) 4]
  else if q.k = 6 then [.num q.key 8, .num (uN q.ref) 4, .sig (uN q.amt)]
  else if q.k = 7 ∨ q.k = 8 then [.num q.key 8, .sig (uN q.amt), .num (uN q.code) 2]
  else if q.k = 10 then [.num (uN q.n) 2]
  else if q.k = 11 ∨ q.k = 12 then [.num (uN q.n) 4]
  else []
def hasL (k : Nat) : Prop := k = 4 ∨ k = 9
instance (k : Nat) : Decidable (hasL k) := inferInstanceAs (Decidable (k = 4 ∨ k = 9))
def isK (k : Nat) : Prop := 1 ≤ k ∧ k ≤ 14
instance (k : Nat) : Decidable (isK k) := inferInstanceAs (Decidable (1 ≤ k ∧ k ≤ 14))
def encF (q : RQ) (xs : List Ln) : List Fl := .num q.k 1 :: (reqFs q ++ if hasL q.k then linesF xs else [])
def encV (q : RQ) (xs : List Ln) : ByteArray × Int := if isK q.k then (if flOk (encF q xs) = true then (str (flBytes (encF q xs)), 0) else (⟨#[]⟩, 2)) else (⟨#[]⟩, 2)
def reqKs (k : Nat) : List FK :=
  if k = 1 then [.num 2, .num 1, .txt]
  else if k = 4 ∨ k = 9 then [.num 8]
  else if k = 5 then [.num 8, .num 4]
  else if k = 6 then [.num 8, .num 4, .sig]
  else if k = 7 ∨ k = 8 then [.num 8, .sig, .num 2]
  else if k = 10 then [.num 2]
  else if k = 11 ∨ k = 12 then [.num 4]
  else []
theorem reqFs_kd (q : RQ) : (reqFs q).map Fl.kd = reqKs q.k := by
  unfold reqFs reqKs
  repeat' split
  all_goals rfl
theorem reqKs_ok (k : Nat) : ∀ x ∈ reqKs k, x.Ok := by
  intro x hx
  unfold reqKs at hx
  repeat' split at hx
  all_goals (simp only [List.mem_cons, List.not_mem_nil, or_false] at hx)
  all_goals (first | (rcases hx with rfl | rfl | rfl) | (rcases hx with rfl | rfl) | subst hx | exact hx.elim)
  all_goals (first | exact trivial | exact ⟨by decide, by decide⟩)
theorem reqFs_in (q : RQ) (h : q.In) : ∀ f ∈ reqFs q, f.In := by
  intro f hf
  unfold reqFs at hf
  repeat' split at hf
  all_goals (simp only [List.mem_cons, List.not_mem_nil, or_false] at hf)
  all_goals (first | (rcases hf with rfl | rfl | rfl) | (rcases hf with rfl | rfl) | subst hf | exact hf.elim)
  all_goals (first | exact ⟨uN_lt _, by decide⟩ | exact uN_lt _ | exact ⟨h.key, by decide⟩ | exact ⟨by have := h.ak; omega, by decide⟩ | exact h.name)
def nAt (fs : List Fl) (i : Nat) : Nat := match fs[i]? with
  | some (.num n _) => n
  | some (.sig n) => n
  | _ => 0
def tAt (fs : List Fl) (i : Nat) : ByteArray := match fs[i]? with
  | some (.txt s) => s
  | _ => ⟨#[]⟩
def rq0 (k : Nat) : RQ := ⟨k, if k ≤ 9 then k else 0, 0, 0, 0, 0, 0, ⟨#[]⟩, 0⟩
/-- The request of a kind and its fields. -/
def rqOf (k : Nat) (fs : List Fl) : RQ :=
  if k = 1 then { rq0 k with code := (nAt fs 0 : Int), ak := nAt fs 1, name := tAt fs 2 }
  else if k = 4 ∨ k = 9 then { rq0 k with key := nAt fs 0 }
  else if k = 5 then { rq0 k with key := nAt fs 0, ref := (nAt fs 1 : Int) }
  else if k = 6 then { rq0 k with key := nAt fs 0, ref := (nAt fs 1 : Int), amt := wrap64 (nAt fs 2 : Int) }
  else if k = 7 ∨ k = 8 then { rq0 k with key := nAt fs 0, amt := wrap64 (nAt fs 1 : Int), code := (nAt fs 2 : Int) }
  else if k = 10 then { rq0 k with n := (nAt fs 0 : Int) }
  else if k = 11 ∨ k = 12 then { rq0 k with n := (nAt fs 0 : Int) }
  else rq0 k
theorem rqOf_k (k : Nat) (fs : List Fl) : (rqOf k fs).k = k := by
  unfold rqOf
  repeat' split
  all_goals rfl
theorem kd_num {f : Fl} {wd : Nat} (h : f.kd = .num wd) (hf : f.Fine) : ∃ n, f = .num n wd ∧ n < 256 ^ wd := by
  cases f with
  | num n w =>
    have : w = wd := FK.num.inj h
    subst this
    exact ⟨n, rfl, hf.2.2⟩
  | sig n => cases h
  | txt s => cases h
theorem kd_sig {f : Fl} (h : f.kd = .sig) (hf : f.Fine) : ∃ n, f = .sig n ∧ n < 18446744073709551616 := by
  cases f with
  | num n w => cases h
  | sig n => exact ⟨n, rfl, hf⟩
  | txt s => cases h
theorem kd_txt {f : Fl} (h : f.kd = .txt) (hf : f.Fine) : ∃ s, f = .txt s ∧ s.size ≤ 255 := by
  cases f with
  | num n w => cases h
  | sig n => cases h
  | txt s => exact ⟨s, rfl, hf⟩
theorem kds_one {fs : List Fl} {a : FK} (h : fs.map Fl.kd = [a]) : ∃ x, fs = [x] ∧ x.kd = a := by
  match fs, h with
  | [x], h => simp only [List.map_cons, List.map_nil, List.cons.injEq, and_true] at h; exact ⟨x, rfl, h⟩
theorem kds_two {fs : List Fl} {a b : FK} (h : fs.map Fl.kd = [a, b]) : ∃ x y, fs = [x, y] ∧ x.kd = a ∧ y.kd = b := by
  match fs, h with
  | [x, y], h => simp only [List.map_cons, List.map_nil, List.cons.injEq, and_true] at h; exact ⟨x, y, rfl, h⟩
theorem kds_three {fs : List Fl} {a b c : FK} (h : fs.map Fl.kd = [a, b, c]) : ∃ x y z, fs = [x, y, z] ∧ x.kd = a ∧ y.kd = b ∧ z.kd = c := by
  match fs, h with
  | [x, y, z], h => simp only [List.map_cons, List.map_nil, List.cons.injEq, and_true] at h; exact ⟨x, y, z, rfl, h⟩
theorem pow_le8 (wd : Nat) (h : wd ≤ 8) (n : Nat) (hn : n < 256 ^ wd) : n < 18446744073709551616 :=
  Nat.lt_of_lt_of_le hn (Nat.le_trans (Nat.pow_le_pow_right (by decide) h) (by decide))
theorem reqFs_of1 (fs : List Fl) (hf : ∀ f ∈ fs, f.Fine) (hk : fs.map Fl.kd = [.num 2, .num 1, .txt]) : reqFs (rqOf 1 fs) = fs := by
  obtain ⟨x, y, z, rfl, h1, h2, h3⟩ := kds_three hk
  obtain ⟨a, rfl, ha⟩ := kd_num h1 (hf _ (by simp))
  obtain ⟨b, rfl, hb⟩ := kd_num h2 (hf _ (by simp))
  obtain ⟨s, rfl, hs⟩ := kd_txt h3 (hf _ (by simp))
  show [Fl.num (uN (a : Int)) 2, Fl.num b 1, Fl.txt s] = _
  rw [uN_back a (pow_le8 2 (by decide) a ha)]
theorem reqFs_of4 (fs : List Fl) (hf : ∀ f ∈ fs, f.Fine) (hk : fs.map Fl.kd = [.num 8]) : reqFs (rqOf 4 fs) = fs ∧ reqFs (rqOf 9 fs) = fs := by
  obtain ⟨x, rfl, h1⟩ := kds_one hk
  obtain ⟨a, rfl, ha⟩ := kd_num h1 (hf _ (by simp))
  exact ⟨rfl, rfl⟩
theorem reqFs_of5 (fs : List Fl) (hf : ∀ f ∈ fs, f.Fine) (hk : fs.map Fl.kd = [.num 8, .num 4]) : reqFs (rqOf 5 fs) = fs := by
  obtain ⟨x, y, rfl, h1, h2⟩ := kds_two hk
  obtain ⟨a, rfl, ha⟩ := kd_num h1 (hf _ (by simp))
  obtain ⟨b, rfl, hb⟩ := kd_num h2 (hf _ (by simp))
  show [Fl.num a 8, Fl.num (uN (b : Int)) 4] = _
  rw [uN_back b (pow_le8 4 (by decide) b hb)]
theorem reqFs_of6 (fs : List Fl) (hf : ∀ f ∈ fs, f.Fine) (hk : fs.map Fl.kd = [.num 8, .num 4, .sig]) : reqFs (rqOf 6 fs) = fs := by
  obtain ⟨x, y, z, rfl, h1, h2, h3⟩ := kds_three hk
  obtain ⟨a, rfl, ha⟩ := kd_num h1 (hf _ (by simp))
  obtain ⟨b, rfl, hb⟩ := kd_num h2 (hf _ (by simp))
  obtain ⟨c, rfl, hc⟩ := kd_sig h3 (hf _ (by simp))
  show [Fl.num a 8, Fl.num (uN (b : Int)) 4, Fl.sig (uN (wrap64 (c : Int)))] = _
  rw [uN_back b (pow_le8 4 (by decide) b hb), uN_wrap_back c hc]
theorem reqFs_of7 (fs : List Fl) (hf : ∀ f ∈ fs, f.Fine) (hk : fs.map Fl.kd = [.num 8, .sig, .num 2]) : reqFs (rqOf 7 fs) = fs ∧ reqFs (rqOf 8 fs) = fs := by
  obtain ⟨x, y, z, rfl, h1, h2, h3⟩ := kds_three hk
  obtain ⟨a, rfl, ha⟩ := kd_num h1 (hf _ (by simp))
  obtain ⟨c, rfl, hc⟩ := kd_sig h2 (hf _ (by simp))
  obtain ⟨b, rfl, hb⟩ := kd_num h3 (hf _ (by simp))
  show [Fl.num a 8, Fl.sig (uN (wrap64 (c : Int))), Fl.num (uN (b : Int)) 2] = _ ∧ [Fl.num a 8, Fl.sig (uN (wrap64 (c : Int))), Fl.num (uN (b : Int)) 2] = _
  rw [uN_back b (pow_le8 2 (by decide) b hb), uN_wrap_back c hc]
  exact ⟨rfl, rfl⟩
theorem reqFs_of10 (fs : List Fl) (hf : ∀ f ∈ fs, f.Fine) (hk : fs.map Fl.kd = [.num 2]) : reqFs (rqOf 10 fs) = fs := by
  obtain ⟨x, rfl, h1⟩ := kds_one hk
  obtain ⟨a, rfl, ha⟩ := kd_num h1 (hf _ (by simp))
  show [Fl.num (uN (a : Int)) 2] = _
  rw [uN_back a (pow_le8 2 (by decide) a ha)]
theorem reqFs_of11 (fs : List Fl) (hf : ∀ f ∈ fs, f.Fine) (hk : fs.map Fl.kd = [.num 4]) : reqFs (rqOf 11 fs) = fs ∧ reqFs (rqOf 12 fs) = fs := by
  obtain ⟨x, rfl, h1⟩ := kds_one hk
  obtain ⟨a, rfl, ha⟩ := kd_num h1 (hf _ (by simp))
  show [Fl.num (uN (a : Int)) 4] = _ ∧ [Fl.num (uN (a : Int)) 4] = _
  rw [uN_back a (pow_le8 4 (by decide) a ha)]
  exact ⟨rfl, rfl⟩
/-- The fields of the request of fields are these. -/
theorem reqFs_of (k : Nat) (fs : List Fl) (hf : ∀ f ∈ fs, f.Fine) (hk : fs.map Fl.kd = reqKs k) : reqFs (rqOf k fs) = fs := by
  by_cases h1 : k = 1
  · subst h1; exact reqFs_of1 fs hf hk
  by_cases h4 : k = 4
  · subst h4; exact (reqFs_of4 fs hf hk).1
  by_cases h9 : k = 9
  · subst h9; exact (reqFs_of4 fs hf hk).2
  by_cases h5 : k = 5
  · subst h5; exact reqFs_of5 fs hf hk
  by_cases h6 : k = 6
  · subst h6; exact reqFs_of6 fs hf hk
  by_cases h7 : k = 7
  · subst h7; exact (reqFs_of7 fs hf hk).1
  by_cases h8 : k = 8
  · subst h8; exact (reqFs_of7 fs hf hk).2
  by_cases h10 : k = 10
  · subst h10; exact reqFs_of10 fs hf hk
  by_cases h11 : k = 11
  · subst h11; exact (reqFs_of11 fs hf hk).1
  by_cases h12 : k = 12
  · subst h12; exact (reqFs_of11 fs hf hk).2
  have e1 : reqKs k = [] := by
    unfold reqKs
    rw [if_neg h1, if_neg (by omega), if_neg h5, if_neg h6, if_neg (by omega), if_neg h10, if_neg (by omega)]
  rw [e1] at hk
  have hq := rqOf_k k fs
  generalize rqOf k fs = q at hq
  unfold reqFs
  rw [hq, if_neg h1, if_neg (by omega), if_neg h5, if_neg h6, if_neg (by omega), if_neg h10, if_neg (by omega)]
  exact (List.map_eq_nil_iff.1 hk).symm
/-- What is read behind the kind: the request, its lines, an error, what is left. -/
def rqRd (k : Nat) (r : RdS) : RQ × List Ln × Int × RdS :=
  if hasL k then (rqOf k (rdKs (reqKs k) r).1, (prd (rdKs (reqKs k) r).2).1, (prd (rdKs (reqKs k) r).2).2.1, (prd (rdKs (reqKs k) r).2).2.2)
  else (rqOf k (rdKs (reqKs k) r).1, [], 0, (rdKs (reqKs k) r).2)
def fin (r : RdS) : Prop := r.2 = false ∧ r.1 = []
instance (r : RdS) : Decidable (fin r) := inferInstanceAs (Decidable (r.2 = false ∧ r.1 = []))
/-- The request of bytes, if there is one. -/
def decV (l : List UInt8) : Option (RQ × List Ln) :=
  if isK (rdN (l, false) 1) then (if (rqRd (rdN (l, false) 1) (tkR (l, false) 1)).2.2.1 = 0 ∧ fin (rqRd (rdN (l, false) 1) (tkR (l, false) 1)).2.2.2 then some ((rqRd (rdN (l, false) 1) (tkR (l, false) 1)).1, (rqRd (rdN (l, false) 1) (tkR (l, false) 1)).2.1) else none) else none
theorem fin_is {r : RdS} (h : fin r) : r = ([], false) := Prod.ext h.2 h.1
theorem rdN1 (l : List UInt8) : rdK (.num 1) (l, false) = (.num (rdN (l, false) 1) 1, tkR (l, false) 1) := rfl
theorem rqRd_wrong (k : Nat) (l : List UInt8) (h : (rqRd k (l, true)).2.2.1 = 0) (h2 : fin (rqRd k (l, true)).2.2.2) : False := by
  unfold rqRd at h h2
  have hw := rdKs_wrong (reqKs k) l
  split at h
  · have : ∃ l', (rdKs (reqKs k) (l, true)).2 = (l', true) := ⟨_, Prod.ext rfl hw⟩
    obtain ⟨l', e⟩ := this
    simp only at h
    rw [e, prd_wrong] at h
    cases h
  · rename_i hl
    rw [if_neg hl] at h2
    simp only at h2
    have := h2.1
    rw [hw] at this
    cases this
theorem fine_okAll {fs : List Fl} (h : ∀ f ∈ fs, f.Fine) : flOk fs = true := by
  unfold flOk
  rw [List.all_eq_true]
  exact fun f hf => ok_of_fine (h f hf)
theorem okAll_fine {fs : List Fl} (h : ∀ f ∈ fs, f.In) (ho : flOk fs = true) : ∀ f ∈ fs, f.Fine := by
  unfold flOk at ho
  rw [List.all_eq_true] at ho
  exact fun f hf => fine_of_ok (h f hf) (ho f hf)
theorem rqRd_forth (k : Nat) (l : List UInt8) (h : (rqRd k (l, false)).2.2.1 = 0) (h2 : fin (rqRd k (l, false)).2.2.2) :
    l = flBytes (reqFs (rqRd k (l, false)).1 ++ if hasL k then linesF (rqRd k (l, false)).2.1 else []) ∧ flOk (reqFs (rqRd k (l, false)).1 ++ if hasL k then linesF (rqRd k (l, false)).2.1 else []) = true ∧ (rqRd k (l, false)).1.k = k ∧ LnIn (rqRd k (l, false)).2.1 := by
  unfold rqRd at h h2 ⊢
  obtain ⟨fs, l1, b, hr⟩ : ∃ fs l1 b, rdKs (reqKs k) (l, false) = (fs, (l1, b)) := ⟨_, _, _, rfl⟩
  rw [hr] at h h2 ⊢
  by_cases hl : hasL k
  · rw [if_pos hl] at h h2 ⊢
    simp only at h h2 ⊢
    rw [if_pos hl]
    cases b with
    | true => rw [prd_wrong] at h; cases h
    | false =>
      obtain ⟨a1, a2, a3⟩ := rdKs_forth (reqKs k) (reqKs_ok k) l l1 fs hr
      have hp : prd (l1, false) = ((prd (l1, false)).1, 0, ([], false)) := Prod.ext rfl (Prod.ext h (fin_is h2))
      obtain ⟨_, b2, b3, b4⟩ := prd_forth l1 [] (prd (l1, false)).1 false hp
      rw [reqFs_of k fs a2 a3]
      refine ⟨?_, ?_, rqOf_k _ _, b4⟩
      · rw [flBytes_append]
        rw [List.append_nil] at b2
        rw [← b2]
        exact a1
      · rw [flOk_append, b3, fine_okAll a2]; rfl
  · rw [if_neg hl] at h h2 ⊢
    simp only at h h2 ⊢
    rw [if_neg hl]
    have e := fin_is h2
    simp only [Prod.mk.injEq] at e
    obtain ⟨rfl, rfl⟩ := e
    obtain ⟨a1, a2, a3⟩ := rdKs_forth (reqKs k) (reqKs_ok k) l [] fs hr
    rw [reqFs_of k fs a2 a3]
    refine ⟨?_, ?_, rqOf_k _ _, fun p hp => by simp at hp⟩
    · rw [List.append_nil] at a1 ⊢
      exact a1
    · rw [List.append_nil]; exact fine_okAll a2
/-- What is decoded has these bytes. -/
theorem dec_forth (l : List UInt8) (q : RQ) (xs : List Ln) (h : decV l = some (q, xs)) : isK q.k ∧ l = flBytes (encF q xs) ∧ flOk (encF q xs) = true ∧ LnIn xs := by
  unfold decV at h
  split at h
  · rename_i hk
    split at h
    · rename_i hf
      obtain ⟨l1, c, hs⟩ : ∃ l1 c, tkR (l, false) 1 = (l1, c) := ⟨_, _, rfl⟩
      have hr := rdN1 l
      rw [hs] at hf h hr
      cases c with
      | true => exact (rqRd_wrong _ _ hf.1 hf.2).elim
      | false =>
        obtain ⟨a1, a2, a3⟩ := rdK_forth (.num 1) ⟨by decide, by decide⟩ l l1 _ hr
        obtain ⟨b1, b2, b3, b4⟩ := rqRd_forth _ l1 hf.1 hf.2
        generalize rdN (l, false) 1 = k at h a1 a2 b1 b2 b3 b4 hk
        simp only [Option.some.injEq, Prod.mk.injEq] at h
        obtain ⟨rfl, rfl⟩ := h
        unfold encF
        rw [b3]
        refine ⟨hk, ?_, ?_, b4⟩
        · rw [flBytes_cons, ← b1, a1]
        · rw [flOk_cons, b2]
          exact (Bool.and_true _).trans (ok_of_fine a2)
    · cases h
  · cases h
theorem rqRd_back (q : RQ) (xs : List Ln) (hq : q.In) (hin : LnIn xs) (ho : flOk (encF q xs) = true) (R : List UInt8) :
    ∃ q', rqRd q.k (flBytes (reqFs q ++ if hasL q.k then linesF xs else []) ++ R, false) = (q', (if hasL q.k then xs else []), 0, (R, false)) ∧ q'.k = q.k ∧ reqFs q' = reqFs q := by
  unfold encF at ho
  rw [flOk_cons, flOk_append, Bool.and_eq_true, Bool.and_eq_true] at ho
  obtain ⟨_, ho1, ho2⟩ := ho
  have hf := okAll_fine (reqFs_in q hq) ho1
  have hb := rdKs_back (reqFs q) hf
  rw [reqFs_kd] at hb
  refine ⟨rqOf q.k (reqFs q), ?_, rqOf_k _ _, reqFs_of _ _ hf (reqFs_kd q)⟩
  unfold rqRd
  rw [flBytes_append, List.append_assoc, hb]
  by_cases hl : hasL q.k
  · rw [if_pos hl, if_pos hl, if_pos hl]
    rw [if_pos hl] at ho2
    simp only
    rw [prd_back xs hin ho2 R]
  · rw [if_neg hl, if_neg hl, if_neg hl]
    rfl
/-- What was encoded is decoded, with its bytes again; with more behind it isn't. -/
theorem dec_back (q : RQ) (xs : List Ln) (hq : q.In) (hin : LnIn xs) (hk : isK q.k) (ho : flOk (encF q xs) = true) (R : List UInt8) :
    (R = [] → ∃ q', decV (flBytes (encF q xs) ++ R) = some (q', if hasL q.k then xs else []) ∧ q'.k = q.k ∧ encF q' (if hasL q.k then xs else []) = encF q xs) ∧ (R ≠ [] → decV (flBytes (encF q xs) ++ R) = none) := by
  obtain ⟨q', e1, e2, e3⟩ := rqRd_back q xs hq hin ho R
  have hof := ho
  unfold encF at ho
  rw [flOk_cons, Bool.and_eq_true] at ho
  have hf : Fl.Fine (.num q.k 1) := fine_of_ok ⟨by have := hq.k; omega, by decide⟩ ho.1
  have hb := rdK_back _ hf (flBytes (reqFs q ++ if hasL q.k then linesF xs else []) ++ R)
  have hl : flBytes (encF q xs) ++ R = (Fl.num q.k 1).bytes ++ (flBytes (reqFs q ++ if hasL q.k then linesF xs else []) ++ R) := by unfold encF; rw [flBytes_cons, List.append_assoc]
  have n1 : rdN (flBytes (encF q xs) ++ R, false) 1 = q.k := by rw [hl]; exact (Fl.num.inj (congrArg Prod.fst hb)).1
  have s1 : tkR (flBytes (encF q xs) ++ R, false) 1 = (flBytes (reqFs q ++ if hasL q.k then linesF xs else []) ++ R, false) := by rw [hl]; exact congrArg Prod.snd hb
  unfold decV
  rw [n1, s1, if_pos hk, e1]
  simp only
  refine ⟨fun hR => ⟨q', ?_, e2, ?_⟩, fun hR => ?_⟩
  · rw [if_pos ⟨trivial, rfl, hR⟩]
  · unfold encF
    rw [e2, e3]
    by_cases hl : hasL q.k
    · rw [if_pos hl, if_pos hl, if_pos hl]
    · rw [if_neg hl, if_neg hl]
  · rw [if_neg]
    rintro ⟨_, _, h⟩
    exact hR h
theorem num_len (n wd : Nat) : (Fl.num n wd).bytes.length ≤ 8 := putB_len n (wd : Int)
theorem sig_len (n : Nat) : (Fl.sig n).bytes.length = 8 := putL_length n 8
theorem txt_len (s : ByteArray) : (Fl.txt s).bytes.length = s.size + 1 := rfl
theorem linesF_len (xs : List Ln) : (flBytes (linesF xs)).length ≤ 8 + 16 * xs.length := by
  rw [linesF_bytes]
  unfold textL
  rw [List.length_append]
  have h1 := putB_len (cntP xs.length) 1
  have h2 := lnB_flat xs
  omega
theorem reqFs_len (q : RQ) : (q.k = 1 ∧ (flBytes (reqFs q)).length ≤ 17 + q.name.size) ∨ (q.k ≠ 1 ∧ (flBytes (reqFs q)).length ≤ 24) := by
  unfold reqFs
  by_cases h1 : q.k = 1
  · left
    rw [if_pos h1]
    refine ⟨h1, ?_⟩
    have a1 := num_len (uN q.code) 2
    have a2 := num_len q.ak 1
    rw [flBytes_cons, flBytes_cons, flBytes_cons, List.length_append, List.length_append, List.length_append, txt_len]
    show _ + (_ + (_ + 0)) ≤ _
    omega
  · right
    rw [if_neg h1]
    refine ⟨h1, ?_⟩
    have a1 := num_len q.key 8
    have a2 := num_len (uN q.ref) 4
    have a3 := sig_len (uN q.amt)
    have a4 := num_len (uN q.code) 2
    have a5 := num_len (uN q.n) 2
    have a6 := num_len (uN q.n) 4
    repeat' split
    all_goals (try simp only [flBytes_cons, List.length_append])
    all_goals (have a0 : (flBytes []).length = 0 := rfl)
    all_goals omega
theorem enc_len (q : RQ) (xs : List Ln) : (flBytes (encF q xs)).length ≤ 25 + q.name.size ∨ (flBytes (encF q xs)).length ≤ 40 + 16 * xs.length := by
  have h1 := num_len q.k 1
  have h3 := linesF_len xs
  unfold encF
  rw [flBytes_cons, flBytes_append, List.length_append, List.length_append]
  rcases reqFs_len q with ⟨hk, h2⟩ | ⟨hk, h2⟩
  · left
    rw [if_neg (by unfold hasL; omega)]
    show _ + (_ + 0) ≤ _
    omega
  · right
    split
    · omega
    · show _ + (_ + 0) ≤ _
      omega
theorem nAt_lt (fs : List Fl) (hf : ∀ f ∈ fs, f.Fine) (i : Nat) : nAt fs i < 18446744073709551616 := by
  unfold nAt
  cases h : fs[i]? with
  | none => simp
  | some f =>
    have hm := hf f (List.mem_of_getElem? h)
    cases f with
    | num n wd => exact pow_le8 wd hm.2.1 n hm.2.2
    | sig n => exact hm
    | txt s => simp
theorem tAt_le (fs : List Fl) (hf : ∀ f ∈ fs, f.Fine) (i : Nat) : (tAt fs i).size ≤ 255 := by
  unfold tAt
  cases h : fs[i]? with
  | none => exact Nat.zero_le _
  | some f =>
    have hm := hf f (List.mem_of_getElem? h)
    cases f with
    | num n wd => exact Nat.zero_le _
    | sig n => exact Nat.zero_le _
    | txt s => exact hm
theorem rqOf_in (k : Nat) (hk : isK k) (fs : List Fl) (hf : ∀ f ∈ fs, f.Fine) (hd : fs.map Fl.kd = reqKs k) : (rqOf k fs).In ∧ (rqOf k fs).name.size ≤ 255 := by
  have hk2 := hk.2
  have h0 := nAt_lt fs hf 0
  have hz : (rq0 k).In ∧ (rq0 k).name.size ≤ 255 := ⟨⟨show k < 256 by omega, show (0 : Nat) < _ by decide, show (0 : Nat) < _ by decide, Nat.zero_le _⟩, Nat.zero_le _⟩
  by_cases h1 : k = 1
  · subst h1
    obtain ⟨x, y, z, rfl, e1, e2, e3⟩ := kds_three (show fs.map Fl.kd = [.num 2, .num 1, .txt] from hd)
    obtain ⟨b, rfl, hb⟩ := kd_num e2 (hf _ (by simp))
    obtain ⟨s, rfl, hs⟩ := kd_txt e3 (hf _ (by simp))
    exact ⟨⟨show (1 : Nat) < 256 by decide, show (0 : Nat) < _ by decide, show b < 256 by simpa using hb, show s.size ≤ 1000 by omega⟩, hs⟩
  · unfold rqOf
    rw [if_neg h1]
    repeat' split
    all_goals first | exact hz | exact ⟨⟨hz.1.k, h0, hz.1.ak, hz.1.name⟩, hz.2⟩ | exact ⟨⟨hz.1.k, hz.1.key, hz.1.ak, hz.1.name⟩, hz.2⟩
theorem ok8 (xs : List Ln) (h : flOk (linesF xs) = true) : xs.length ≤ 8 := by
  unfold linesF at h
  rw [flOk_cons, Bool.and_eq_true] at h
  rcases Nat.lt_or_ge 8 xs.length with h8 | h8
  · have h1 : fits (cntP xs.length) 1 = true := h.1
    unfold cntP at h1
    rw [if_pos h8] at h1
    exact absurd h1 (by decide)
  · exact h8
theorem rqRd_in (k : Nat) (hk : isK k) (l : List UInt8) (h : (rqRd k (l, false)).2.2.1 = 0) (h2 : fin (rqRd k (l, false)).2.2.2) :
    (rqRd k (l, false)).1.In ∧ (rqRd k (l, false)).1.name.size ≤ 255 ∧ (rqRd k (l, false)).2.1.length ≤ 8 := by
  obtain ⟨fs, l1, b, hr⟩ : ∃ fs l1 b, rdKs (reqKs k) (l, false) = (fs, (l1, b)) := ⟨_, _, _, rfl⟩
  unfold rqRd at h h2 ⊢
  rw [hr] at h h2 ⊢
  by_cases hl : hasL k
  · rw [if_pos hl] at h h2 ⊢
    simp only at h h2 ⊢
    cases b with
    | true => rw [prd_wrong] at h; cases h
    | false =>
      obtain ⟨a1, a2, a3⟩ := rdKs_forth (reqKs k) (reqKs_ok k) l l1 fs hr
      have hp : prd (l1, false) = ((prd (l1, false)).1, 0, ([], false)) := Prod.ext rfl (Prod.ext h (fin_is h2))
      obtain ⟨_, b2, b3, b4⟩ := prd_forth l1 [] (prd (l1, false)).1 false hp
      have := rqOf_in k hk fs a2 a3
      exact ⟨this.1, this.2, ok8 _ b3⟩
  · rw [if_neg hl] at h h2 ⊢
    simp only at h h2 ⊢
    have e := fin_is h2
    simp only [Prod.mk.injEq] at e
    obtain ⟨rfl, rfl⟩ := e
    obtain ⟨a1, a2, a3⟩ := rdKs_forth (reqKs k) (reqKs_ok k) l [] fs hr
    have := rqOf_in k hk fs a2 a3
    exact ⟨this.1, this.2, Nat.zero_le _⟩
theorem dec_in (l : List UInt8) (q : RQ) (xs : List Ln) (h : decV l = some (q, xs)) : q.In ∧ q.name.size ≤ 255 ∧ xs.length ≤ 8 := by
  unfold decV at h
  split at h
  · rename_i hk
    split at h
    · rename_i hf
      obtain ⟨l1, c, hs⟩ : ∃ l1 c, tkR (l, false) 1 = (l1, c) := ⟨_, _, rfl⟩
      rw [hs] at hf h
      cases c with
      | true => exact (rqRd_wrong _ _ hf.1 hf.2).elim
      | false =>
        have := rqRd_in _ hk l1 hf.1 hf.2
        simp only [Option.some.injEq, Prod.mk.injEq] at h
        obtain ⟨rfl, rfl⟩ := h
        exact this
    · cases h
  · cases h
/-- What was decoded is encoded again as it was. -/
theorem enc_dec (l : List UInt8) (q : RQ) (xs : List Ln) (h : decV l = some (q, xs)) : encV q xs = (str l, 0) ∧ l.length < 300 := by
  obtain ⟨h1, h2, h3, h4⟩ := dec_forth l q xs h
  obtain ⟨i1, i2, i3⟩ := dec_in l q xs h
  refine ⟨?_, ?_⟩
  · unfold encV
    rw [if_pos h1, if_pos h3, ← h2]
  · have := enc_len q xs
    rw [← h2] at this
    omega
theorem enc_cases (q : RQ) (xs : List Ln) (hq : q.In) (hin : LnIn xs) : encV q xs = (⟨#[]⟩, 2) ∨ ∃ B q' ys, encV q xs = (str B, 0) ∧ decV B = some (q', ys) ∧ q'.k = q.k ∧ (∀ R, R ≠ [] → decV (B ++ R) = none) ∧ B = putL q.k 1 ++ B.drop 1 ∧ 1 ≤ B.length ∧ q.k < 256 := by
  unfold encV
  by_cases hk : isK q.k
  · rw [if_pos hk]
    cases ho : flOk (encF q xs) with
    | false => left; rw [if_neg (by decide)]
    | true =>
      right
      rw [if_pos rfl]
      have hb := fun R => dec_back q xs hq hin hk ho R
      obtain ⟨q', e1, e2, _⟩ := (hb []).1 rfl
      rw [List.append_nil] at e1
      have hB : flBytes (encF q xs) = putL q.k 1 ++ flBytes (reqFs q ++ if hasL q.k then linesF xs else []) := by unfold encF; rw [flBytes_cons]; rfl
      have hl : (putL q.k 1).length = 1 := putL_length _ _
      refine ⟨_, q', _, rfl, e1, e2, fun R hR => (hb R).2 hR, ?_, ?_, hq.k⟩
      · rw [hB, List.drop_append_of_le_length (by omega), List.drop_of_length_le (by omega)]; rfl
      · rw [hB, List.length_append]; omega
  · left; rw [if_neg hk]
end Go.Proofs.Ytepgdjkmobngcaa
