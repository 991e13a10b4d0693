/- Texts of one chapter, joined: XRepL, XRep, XRepD, XRepE, XRepF, XRepO, XReqRepliesW. Each says what it proves, and its conditions. -/
import Derived.Test.YtepgdjkmobngcaaXReqL
import Derived.Test.YtepgdjkmobngcaaXReqWk
import Derived.Deep.CutBlock
import Derived.Test.YtepgdjkmobngcaaPx2
import Derived.Deep.CutRange
import Derived.Test.YtepgdjkmobngcaaXReqBackW
import Derived.Deep.QuietTactic
/-! req: replies as fields, plainly: what is told of what was written, and what was written of what is told. No conditions beyond the kinds of the numbers. -/
namespace Go.Proofs.Ytepgdjkmobngcaa
open Go.RowKit Go.Lib Go.Proofs.Ytepgdjkmobngcaa.P Go.Proofs.Ytepgdjkmobngcaa.BeS Go.Proofs.YtepgdjkmobngcaaW.PrintWords Go.Proofs.YtepgdjkmobngcaaW.PrintLast Go.Proofs.YtepgdjkmobngcaaW.PrintMore
set_option linter.unusedVariables false
set_option linter.unusedSimpArgs false
/-- A reply, but for its lines: error, number; totals; transaction; sums; read. -/
structure RP where
  err : Int
  num : Int
  cnt : Int
  s0 : Int
  s1 : Int
  s2 : Int
  s3 : Int
  s4 : Int
  tn : Int
  tk : Nat
  tsh : Int
  tref : Int
  tamt : Int
  tleft : Int
  tvoid : Bool
  a0 : Int
  a1 : Int
  rd : Bool
def bitN (b : Bool) : Nat := if b = true then 1 else 0
def totF (r : RP) : List Fl := [.num (uN r.cnt) 4, .sig (uN r.s0), .sig (uN r.s1), .sig (uN r.s2), .sig (uN r.s3), .sig (uN r.s4)]
def repFs (k : Nat) (r : RP) : List Fl :=
  if k = 3 then .num (uN r.num) 4 :: totF r
  else if k ≤ 9 then [.num (uN r.num) 4]
  else if k = 10 then [.sig (uN r.a0)]
  else if k = 11 then [.num r.tk 1, .num (uN r.tsh) 4, .num (uN r.tref) 4, .sig (uN r.tamt), .sig (uN r.tleft), .num (bitN r.tvoid) 1]
  else if k = 12 then totF r
  else if k = 13 then [.sig (uN r.a0), .sig (uN r.a1)]
  else [.num (uN r.num) 4, .num (uN r.tn) 5, .num (bitN r.rd) 1]
def repTail (k : Nat) (xs : List Ln) : List Fl := if k = 11 then linesF xs else []
def repF (k : Nat) (r : RP) (xs : List Ln) : List Fl := .num (uN r.err) 1 :: (if r.err = 0 then repFs k r ++ repTail k xs else [])
/-- A reply's bytes; none, if it can't be written. -/
def repV (k : Nat) (r : RP) (xs : List Ln) : ByteArray := if isK k then (if flOk (repF k r xs) = true then str (flBytes (repF k r xs)) else ⟨#[]⟩) else ⟨#[]⟩
def totKs : List FK := [.num 4, .sig, .sig, .sig, .sig, .sig]
def repKs (k : Nat) : List FK :=
  if k = 3 then .num 4 :: totKs
  else if k ≤ 9 then [.num 4]
  else if k = 10 then [.sig]
  else if k = 11 then [.num 1, .num 4, .num 4, .sig, .sig, .num 1]
  else if k = 12 then totKs
  else if k = 13 then [.sig, .sig]
  else [.num 4, .num 5, .num 1]
theorem repFs_kd (k : Nat) (r : RP) : (repFs k r).map Fl.kd = repKs k := by
  unfold repFs repKs
  repeat' split
  all_goals rfl
theorem totKs_ok : ∀ x ∈ totKs, x.Ok := by
  intro x hx
  simp only [totKs, List.mem_cons, List.not_mem_nil, or_false] at hx
  rcases hx with rfl | rfl | rfl | rfl | rfl | rfl
  all_goals (first | exact trivial | exact ⟨by decide, by decide⟩)
theorem repKs_ok (k : Nat) : ∀ x ∈ repKs k, x.Ok := by
  intro x hx
  unfold repKs at hx
  split at hx
  · rcases List.mem_cons.1 hx with rfl | h
    · exact ⟨by decide, by decide⟩
    · exact totKs_ok x h
  · repeat' split at hx
    all_goals (first | exact totKs_ok x hx | skip)
    all_goals (simp only [List.mem_cons, List.not_mem_nil, or_false] at hx)
    all_goals (first | (rcases hx with rfl | rfl | rfl | rfl | rfl | rfl) | (rcases hx with rfl | rfl | rfl) | (rcases hx with rfl | rfl) | subst hx)
    all_goals (first | exact trivial | exact ⟨by decide, by decide⟩)
theorem bitN_lt (b : Bool) : bitN b < 18446744073709551616 := by cases b <;> decide
theorem totF_in (r : RP) : ∀ f ∈ totF r, f.In := by
  intro f hf
  simp only [totF, List.mem_cons, List.not_mem_nil, or_false] at hf
  rcases hf with rfl | rfl | rfl | rfl | rfl | rfl
  all_goals (first | exact ⟨uN_lt _, by decide⟩ | exact uN_lt _)
theorem repFs_in (k : Nat) (r : RP) (h : r.tk < 256) : ∀ f ∈ repFs k r, f.In := by
  intro f hf
  unfold repFs at hf
  split at hf
  · rcases List.mem_cons.1 hf with rfl | h
    · exact ⟨uN_lt _, by decide⟩
    · exact totF_in r f h
  · repeat' split at hf
    all_goals (first | exact totF_in r f hf | skip)
    all_goals (simp only [List.mem_cons, List.not_mem_nil, or_false] at hf)
    all_goals (first | (rcases hf with rfl | rfl | rfl | rfl | rfl | rfl) | (rcases hf with rfl | rfl | rfl) | (rcases hf with rfl | rfl) | subst hf)
    all_goals (first | exact ⟨uN_lt _, by decide⟩ | exact uN_lt _ | exact ⟨bitN_lt _, by decide⟩ | exact ⟨by omega, by decide⟩)
def rp0 (e : Int) : RP := ⟨e, 0, 0, 0, 0, 0, 0, 0, 0, 0, 0, 0, 0, 0, false, 0, 0, false⟩
def totOf (r : RP) (fs : List Fl) (i : Nat) : RP := { r with cnt := (nAt fs i : Int), s0 := wrap64 (nAt fs (i + 1) : Int), s1 := wrap64 (nAt fs (i + 2) : Int), s2 := wrap64 (nAt fs (i + 3) : Int), s3 := wrap64 (nAt fs (i + 4) : Int), s4 := wrap64 (nAt fs (i + 5) : Int) }
/-- The reply of a kind and its fields. -/
def rpOf (k : Nat) (fs : List Fl) : RP :=
  if k = 3 then totOf { rp0 0 with num := (nAt fs 0 : Int) } fs 1
  else if k ≤ 9 then { rp0 0 with num := (nAt fs 0 : Int) }
  else if k = 10 then { rp0 0 with a0 := wrap64 (nAt fs 0 : Int) }
  else if k = 11 then { rp0 0 with tk := nAt fs 0, tsh := (nAt fs 1 : Int), tref := (nAt fs 2 : Int), tamt := wrap64 (nAt fs 3 : Int), tleft := wrap64 (nAt fs 4 : Int), tvoid := (nAt fs 5 == 1) }
  else if k = 12 then totOf (rp0 0) fs 0
  else if k = 13 then { rp0 0 with a0 := wrap64 (nAt fs 0 : Int), a1 := wrap64 (nAt fs 1 : Int) }
  else { rp0 0 with num := (nAt fs 0 : Int), tn := (nAt fs 1 : Int), rd := (nAt fs 2 == 1) }
/-- Is the flag one? -/
def flagOk (k : Nat) (fs : List Fl) : Bool := if k = 11 then decide (nAt fs 5 ≤ 1) else if k = 14 then decide (nAt fs 2 ≤ 1) else true
theorem kds_six {fs : List Fl} {a b c d e f : FK} (h : fs.map Fl.kd = [a, b, c, d, e, f]) : ∃ u v w x y z, fs = [u, v, w, x, y, z] ∧ u.kd = a ∧ v.kd = b ∧ w.kd = c ∧ x.kd = d ∧ y.kd = e ∧ z.kd = f := by
  match fs, h with
  | [u, v, w, x, y, z], h => simp only [List.map_cons, List.map_nil, List.cons.injEq, and_true] at h; exact ⟨u, v, w, x, y, z, rfl, h⟩
theorem bit_back (n : Nat) (h : n ≤ 1) : bitN (n == 1) = n := by
  match n, h with
  | 0, _ => rfl
  | 1, _ => rfl
theorem tot_back (r : RP) (fs : List Fl) (hf : ∀ f ∈ fs, f.Fine) (hk : fs.map Fl.kd = totKs) (g : Fl) : totF (totOf r fs 0) = fs ∧ totF (totOf r (g :: fs) 1) = fs := by
  obtain ⟨u, v, w, x, y, z, rfl, h1, h2, h3, h4, h5, h6⟩ := kds_six hk
  obtain ⟨n, rfl, hn⟩ := kd_num h1 (hf _ (by simp))
  obtain ⟨a, rfl, ha⟩ := kd_sig h2 (hf _ (by simp))
  obtain ⟨b, rfl, hb⟩ := kd_sig h3 (hf _ (by simp))
  obtain ⟨c, rfl, hc⟩ := kd_sig h4 (hf _ (by simp))
  obtain ⟨d, rfl, hd⟩ := kd_sig h5 (hf _ (by simp))
  obtain ⟨e, rfl, he⟩ := kd_sig h6 (hf _ (by simp))
  have h := show [Fl.num (uN (n : Int)) 4, .sig (uN (wrap64 (a : Int))), .sig (uN (wrap64 (b : Int))), .sig (uN (wrap64 (c : Int))), .sig (uN (wrap64 (d : Int))), .sig (uN (wrap64 (e : Int)))] = [.num n 4, .sig a, .sig b, .sig c, .sig d, .sig e] by
    rw [uN_back n (pow_le8 4 (by decide) n hn), uN_wrap_back a ha, uN_wrap_back b hb, uN_wrap_back c hc, uN_wrap_back d hd, uN_wrap_back e he]
  exact ⟨h, h⟩
theorem repFs_of (k : Nat) (hk : isK k) (fs : List Fl) (hf : ∀ f ∈ fs, f.Fine) (hd : fs.map Fl.kd = repKs k) (ho : flagOk k fs = true) : repFs k (rpOf k fs) = fs := by
  have hk2 := hk.2
  by_cases h3 : k = 3
  · subst h3
    match fs, hf, hd with
    | f :: fs, hf, hd =>
      have hd2 : f.kd = .num 4 ∧ fs.map Fl.kd = totKs := by
        have : (f.kd :: fs.map Fl.kd) = .num 4 :: totKs := hd
        exact List.cons.inj this
      obtain ⟨n, rfl, hn⟩ := kd_num hd2.1 (hf _ (by simp))
      show Fl.num (uN (n : Int)) 4 :: totF (totOf { rp0 0 with num := (n : Int) } (Fl.num n 4 :: fs) 1) = _
      rw [uN_back n (pow_le8 4 (by decide) n hn), (tot_back _ fs (fun x hx => hf x (by simp [hx])) hd2.2 _).2]
  by_cases h9 : k ≤ 9
  · have e1 : repKs k = [.num 4] := by unfold repKs; rw [if_neg h3, if_pos h9]
    rw [e1] at hd
    obtain ⟨x, rfl, h1⟩ := kds_one hd
    obtain ⟨n, rfl, hn⟩ := kd_num h1 (hf _ (by simp))
    unfold repFs rpOf
    rw [if_neg h3, if_pos h9, if_neg h3, if_pos h9]
    show [Fl.num (uN (n : Int)) 4] = _
    rw [uN_back n (pow_le8 4 (by decide) n hn)]
  by_cases h10 : k = 10
  · subst h10
    obtain ⟨x, rfl, h1⟩ := kds_one (show fs.map Fl.kd = [.sig] from hd)
    obtain ⟨n, rfl, hn⟩ := kd_sig h1 (hf _ (by simp))
    show [Fl.sig (uN (wrap64 (n : Int)))] = _
    rw [uN_wrap_back n hn]
  by_cases h11 : k = 11
  · subst h11
    obtain ⟨u, v, w, x, y, z, rfl, h1, h2, h3, h4, h5, h6⟩ := kds_six (show fs.map Fl.kd = [.num 1, .num 4, .num 4, .sig, .sig, .num 1] from hd)
    obtain ⟨a, rfl, ha⟩ := kd_num h1 (hf _ (by simp))
    obtain ⟨b, rfl, hb⟩ := kd_num h2 (hf _ (by simp))
    obtain ⟨c, rfl, hc⟩ := kd_num h3 (hf _ (by simp))
    obtain ⟨d, rfl, hd'⟩ := kd_sig h4 (hf _ (by simp))
    obtain ⟨e, rfl, he⟩ := kd_sig h5 (hf _ (by simp))
    obtain ⟨f, rfl, hf'⟩ := kd_num h6 (hf _ (by simp))
    have hf1 : f ≤ 1 := of_decide_eq_true (show decide (f ≤ 1) = true from ho)
    show [Fl.num a 1, .num (uN (b : Int)) 4, .num (uN (c : Int)) 4, .sig (uN (wrap64 (d : Int))), .sig (uN (wrap64 (e : Int))), .num (bitN (f == 1)) 1] = _
    rw [uN_back b (pow_le8 4 (by decide) b hb), uN_back c (pow_le8 4 (by decide) c hc), uN_wrap_back d hd', uN_wrap_back e he, bit_back f hf1]
  by_cases h12 : k = 12
  · subst h12
    exact (tot_back _ fs hf hd (.sig 0)).1
  by_cases h13 : k = 13
  · subst h13
    obtain ⟨x, y, rfl, h1, h2⟩ := kds_two (show fs.map Fl.kd = [.sig, .sig] from hd)
    obtain ⟨a, rfl, ha⟩ := kd_sig h1 (hf _ (by simp))
    obtain ⟨b, rfl, hb⟩ := kd_sig h2 (hf _ (by simp))
    show [Fl.sig (uN (wrap64 (a : Int))), .sig (uN (wrap64 (b : Int)))] = _
    rw [uN_wrap_back a ha, uN_wrap_back b hb]
  · obtain rfl : k = 14 := by omega
    obtain ⟨x, y, z, rfl, h1, h2, h3⟩ := kds_three (show fs.map Fl.kd = [.num 4, .num 5, .num 1] from hd)
    obtain ⟨a, rfl, ha⟩ := kd_num h1 (hf _ (by simp))
    obtain ⟨b, rfl, hb⟩ := kd_num h2 (hf _ (by simp))
    obtain ⟨c, rfl, hc⟩ := kd_num h3 (hf _ (by simp))
    have hc1 : c ≤ 1 := of_decide_eq_true (show decide (c ≤ 1) = true from ho)
    show [Fl.num (uN (a : Int)) 4, .num (uN (b : Int)) 5, .num (bitN (c == 1)) 1] = _
    rw [uN_back a (pow_le8 4 (by decide) a ha), uN_back b (pow_le8 5 (by decide) b hb), bit_back c hc1]
theorem rpOf_err (k : Nat) (fs : List Fl) : (rpOf k fs).err = 0 := by
  unfold rpOf
  repeat' split
  all_goals rfl
theorem rpOf_tk (k : Nat) (fs : List Fl) (hf : ∀ f ∈ fs, f.Fine) (hd : fs.map Fl.kd = repKs k) : (rpOf k fs).tk < 256 := by
  by_cases h11 : k = 11
  · subst h11
    obtain ⟨u, v, w, x, y, z, rfl, h1, _⟩ := kds_six (show fs.map Fl.kd = [.num 1, .num 4, .num 4, .sig, .sig, .num 1] from hd)
    obtain ⟨a, rfl, ha⟩ := kd_num h1 (hf _ (by simp))
    show a < 256
    simpa using ha
  · unfold rpOf
    have hz : (0 : Nat) < 256 := by decide
    repeat' split
    all_goals (first | exact absurd ‹k = 11› h11 | exact hz)
/-- What is read behind a reply's error: the reply, its lines, whether it is so, what is left. -/
def rpRd (k : Nat) (r : RdS) : RP × List Ln × Bool × RdS :=
  if k = 11 then (rpOf k (rdKs (repKs k) r).1, (prd (rdKs (repKs k) r).2).1, flagOk k (rdKs (repKs k) r).1 && decide ((prd (rdKs (repKs k) r).2).2.1 = 0), (prd (rdKs (repKs k) r).2).2.2)
  else (rpOf k (rdKs (repKs k) r).1, [], flagOk k (rdKs (repKs k) r).1, (rdKs (repKs k) r).2)
/-- The reply of bytes, if there is one. -/
def parV (k : Nat) (l : List UInt8) : Option (RP × List Ln) :=
  if rdN (l, false) 1 = 0 then (if (rpRd k (tkR (l, false) 1)).2.2.1 = true ∧ fin (rpRd k (tkR (l, false) 1)).2.2.2 then some ((rpRd k (tkR (l, false) 1)).1, (rpRd k (tkR (l, false) 1)).2.1) else none)
  else if fin (tkR (l, false) 1) then some (rp0 (rdN (l, false) 1 : Int), []) else none
theorem rpRd_wrong (k : Nat) (l : List UInt8) (h : (rpRd k (l, true)).2.2.1 = true) (h2 : fin (rpRd k (l, true)).2.2.2) : False := by
  unfold rpRd at h h2
  have hw := rdKs_wrong (repKs k) l
  split at h
  · have : ∃ l', (rdKs (repKs k) (l, true)).2 = (l', true) := ⟨_, Prod.ext rfl hw⟩
    obtain ⟨l', e⟩ := this
    simp only at h
    rw [e, prd_wrong] at h
    simp at h
  · rename_i hl
    rw [if_neg hl] at h2
    simp only at h2
    have := h2.1
    rw [hw] at this
    cases this
theorem rpRd_forth (k : Nat) (hk : isK k) (l : List UInt8) (h : (rpRd k (l, false)).2.2.1 = true) (h2 : fin (rpRd k (l, false)).2.2.2) :
    l = flBytes (repFs k (rpRd k (l, false)).1 ++ repTail k (rpRd k (l, false)).2.1) ∧ flOk (repFs k (rpRd k (l, false)).1 ++ repTail k (rpRd k (l, false)).2.1) = true ∧ (rpRd k (l, false)).1.err = 0 ∧ LnIn (rpRd k (l, false)).2.1 ∧ (rpRd k (l, false)).1.tk < 256 ∧ (rpRd k (l, false)).2.1.length ≤ 8 := by
  unfold rpRd at h h2 ⊢
  unfold repTail
  obtain ⟨fs, l1, b, hr⟩ : ∃ fs l1 b, rdKs (repKs k) (l, false) = (fs, (l1, b)) := ⟨_, _, _, rfl⟩
  rw [hr] at h h2 ⊢
  by_cases hl : k = 11
  · rw [if_pos hl] at h h2 ⊢
    simp only at h h2 ⊢
    rw [if_pos hl]
    rw [Bool.and_eq_true, decide_eq_true_iff] at h
    cases b with
    | true => rw [prd_wrong] at h; exact absurd h.2 (by decide)
    | false =>
      obtain ⟨a1, a2, a3⟩ := rdKs_forth (repKs k) (repKs_ok k) l l1 fs hr
      have hp : prd (l1, false) = ((prd (l1, false)).1, 0, ([], false)) := Prod.ext rfl (Prod.ext h.2 (fin_is h2))
      obtain ⟨_, b2, b3, b4⟩ := prd_forth l1 [] (prd (l1, false)).1 false hp
      rw [repFs_of k hk fs a2 a3 h.1]
      refine ⟨?_, ?_, rpOf_err _ _, b4, rpOf_tk k fs a2 a3, ok8 _ b3⟩
      · rw [flBytes_append]
        rw [List.append_nil] at b2
        rw [← b2]
        exact a1
      · rw [flOk_append, b3, fine_okAll a2]; rfl
  · rw [if_neg hl] at h h2 ⊢
    simp only at h h2 ⊢
    rw [if_neg hl]
    have e := fin_is h2
    simp only [Prod.mk.injEq] at e
    obtain ⟨rfl, rfl⟩ := e
    obtain ⟨a1, a2, a3⟩ := rdKs_forth (repKs k) (repKs_ok k) l [] fs hr
    rw [repFs_of k hk fs a2 a3 h]
    refine ⟨?_, ?_, rpOf_err _ _, fun p hp => by simp at hp, rpOf_tk k fs a2 a3, Nat.zero_le _⟩
    · rw [List.append_nil] at a1 ⊢
      exact a1
    · rw [List.append_nil]; exact fine_okAll a2
theorem rp0_F (k : Nat) (n : Nat) (hn : 0 < n) (h8 : n < 256) : repF k (rp0 (n : Int)) [] = [.num n 1] ∧ flOk [Fl.num n 1] = true := by
  refine ⟨?_, fine_okAll (fun f hf => by rw [List.mem_singleton] at hf; subst hf; exact ⟨by decide, by decide, by simpa using h8⟩)⟩
  unfold repF
  rw [if_neg (show ¬ (rp0 (n : Int)).err = 0 from fun e => by have : (n : Int) = 0 := e; omega)]
  show [Fl.num (uN (n : Int)) 1] = _
  rw [uN_back n (by omega)]
/-- What is told has these bytes. -/
theorem par_forth (k : Nat) (hk : isK k) (l : List UInt8) (r : RP) (xs : List Ln) (h : parV k l = some (r, xs)) : repV k r xs = str l ∧ r.tk < 256 ∧ xs.length ≤ 8 ∧ LnIn xs := by
  unfold parV at h
  obtain ⟨l1, c, hs⟩ : ∃ l1 c, tkR (l, false) 1 = (l1, c) := ⟨_, _, rfl⟩
  have hr := rdN1 l
  rw [hs] at h hr
  split at h
  · rename_i he
    split at h
    · rename_i hf
      cases c with
      | true => exact (rpRd_wrong _ _ hf.1 hf.2).elim
      | false =>
        obtain ⟨a1, a2, a3⟩ := rdK_forth (.num 1) ⟨by decide, by decide⟩ l l1 _ hr
        obtain ⟨b1, b2, b3, b4, b5, b6⟩ := rpRd_forth k hk l1 hf.1 hf.2
        simp only [Option.some.injEq, Prod.mk.injEq] at h
        obtain ⟨rfl, rfl⟩ := h
        have hF : repF k (rpRd k (l1, false)).1 (rpRd k (l1, false)).2.1 = .num 0 1 :: (repFs k (rpRd k (l1, false)).1 ++ repTail k (rpRd k (l1, false)).2.1) := by
          unfold repF
          rw [if_pos b3, b3]
          rfl
        refine ⟨?_, b5, b6, b4⟩
        unfold repV
        rw [if_pos hk, hF, flOk_cons, b2, flBytes_cons, ← b1]
        rw [he] at a1 a2
        rw [if_pos (by rw [ok_of_fine a2]; rfl), a1]
    · cases h
  · rename_i he
    split at h
    · rename_i hf
      simp only [Option.some.injEq, Prod.mk.injEq] at h
      obtain ⟨rfl, rfl⟩ := h
      have e := fin_is hf
      simp only [Prod.mk.injEq] at e
      obtain ⟨rfl, rfl⟩ := e
      obtain ⟨a1, a2, a3⟩ := rdK_forth (.num 1) ⟨by decide, by decide⟩ l [] _ hr
      have hn : rdN (l, false) 1 < 256 := by have := a2.2.2; simpa using this
      obtain ⟨f1, f2⟩ := rp0_F k (rdN (l, false) 1) (Nat.pos_of_ne_zero he) hn
      refine ⟨?_, show (0 : Nat) < 256 by decide, Nat.zero_le _, fun p hp => by simp at hp⟩
      unfold repV
      rw [if_pos hk, f1, if_pos f2]
      rw [List.append_nil] at a1
      show str ((Fl.num (rdN (l, false) 1) 1).bytes ++ []) = _
      rw [List.append_nil, ← a1]
    · cases h
theorem flag_back (k : Nat) (r : RP) : flagOk k (repFs k r) = true := by
  unfold flagOk
  by_cases h11 : k = 11
  · subst h11
    show decide (bitN r.tvoid ≤ 1) = true
    cases r.tvoid <;> rfl
  · rw [if_neg h11]
    by_cases h14 : k = 14
    · subst h14
      show decide (bitN r.rd ≤ 1) = true
      cases r.rd <;> rfl
    · rw [if_neg h14]
theorem rpRd_back (k : Nat) (hk : isK k) (r : RP) (xs : List Ln) (ht : r.tk < 256) (hin : LnIn xs) (ho : flOk (repFs k r ++ repTail k xs) = true) (R : List UInt8) :
    ∃ r', rpRd k (flBytes (repFs k r ++ repTail k xs) ++ R, false) = (r', (if k = 11 then xs else []), true, (R, false)) ∧ r'.err = 0 ∧ repFs k r' = repFs k r := by
  rw [flOk_append, Bool.and_eq_true] at ho
  have hf := okAll_fine (repFs_in k r ht) ho.1
  have hb := rdKs_back (repFs k r) hf
  rw [repFs_kd] at hb
  refine ⟨rpOf k (repFs k r), ?_, rpOf_err _ _, repFs_of k hk _ hf (repFs_kd k r) (flag_back k r)⟩
  unfold rpRd
  rw [flBytes_append, List.append_assoc, hb]
  have ho2 := ho.2
  unfold repTail at ho2 ⊢
  by_cases hl : k = 11
  · rw [if_pos hl, if_pos hl, if_pos hl]
    rw [if_pos hl] at ho2
    simp only
    rw [prd_back xs hin ho2 R, flag_back]
    rfl
  · rw [if_neg hl, if_neg hl, if_neg hl, flag_back]
    rfl
/-- What was written is told again, with its bytes and its error; with more behind it isn't. -/
theorem par_back (k : Nat) (hk : isK k) (r : RP) (xs : List Ln) (ht : r.tk < 256) (he : -9223372036854775808 ≤ r.err ∧ r.err < 9223372036854775808) (hin : LnIn xs) (ho : flOk (repF k r xs) = true) (R : List UInt8) :
    (R = [] → ∃ r' ys, parV k (flBytes (repF k r xs) ++ R) = some (r', ys) ∧ r'.err = r.err) ∧ (R ≠ [] → parV k (flBytes (repF k r xs) ++ R) = none) := by
  unfold repF at ho ⊢
  rw [flOk_cons, Bool.and_eq_true] at ho
  have hf : Fl.Fine (.num (uN r.err) 1) := fine_of_ok ⟨uN_lt _, by decide⟩ ho.1
  have he2 : (uN r.err : Int) = r.err := uN_small r.err 256 (by decide) he.1 he.2 (by have := hf.2.2; simpa using this)
  generalize hT : (if r.err = 0 then repFs k r ++ repTail k xs else []) = T at ho ⊢
  have hb := rdK_back _ hf (flBytes T ++ R)
  have hl : flBytes (Fl.num (uN r.err) 1 :: T) ++ R = (Fl.num (uN r.err) 1).bytes ++ (flBytes T ++ R) := by rw [flBytes_cons, List.append_assoc]
  have n1 : rdN (flBytes (Fl.num (uN r.err) 1 :: T) ++ R, false) 1 = uN r.err := by rw [hl]; exact (Fl.num.inj (congrArg Prod.fst hb)).1
  have s1 : tkR (flBytes (Fl.num (uN r.err) 1 :: T) ++ R, false) 1 = (flBytes T ++ R, false) := by rw [hl]; exact congrArg Prod.snd hb
  unfold parV
  rw [n1, s1]
  by_cases h0 : r.err = 0
  · rw [if_pos h0] at hT
    subst hT
    obtain ⟨r', e1, e2, e3⟩ := rpRd_back k hk r xs ht hin ho.2 R
    rw [if_pos (by omega), e1]
    simp only
    refine ⟨fun hR => ⟨r', _, if_pos ⟨trivial, rfl, hR⟩, by rw [e2, h0]⟩, fun hR => if_neg ?_⟩
    rintro ⟨_, _, h⟩
    exact hR h
  · rw [if_neg h0] at hT
    subst hT
    rw [if_neg (by omega)]
    show (R = [] → ∃ r' ys, (if fin (R, false) then some (rp0 (uN r.err : Int), []) else none) = some (r', ys) ∧ r'.err = r.err) ∧ (R ≠ [] → (if fin (R, false) then some (rp0 (uN r.err : Int), []) else none) = none)
    refine ⟨fun hR => ⟨_, _, if_pos ⟨rfl, hR⟩, he2⟩, fun hR => if_neg ?_⟩
    rintro ⟨_, h⟩
    exact hR h
end Go.Proofs.Ytepgdjkmobngcaa

/-! req: a reply's bytes. No conditions beyond those that are written. -/
namespace Go.Proofs.Ytepgdjkmobngcaa
open Go.RowKit Go.Lib Go.Proofs.Ytepgdjkmobngcaa.P Go.Proofs.Ytepgdjkmobngcaa.BeS Go.Proofs.YtepgdjkmobngcaaW.PrintWords Go.Proofs.YtepgdjkmobngcaaW.PrintLast Go.Proofs.YtepgdjkmobngcaaW.PrintMore
set_option linter.unusedVariables false
set_option linter.unusedSimpArgs false
def rg34_10.T : Bool × List (List Nat × List Nat) := (true, [([], []), ([], []), ([1], [1]), ([2], [2]), ([0, 3], [0, 3]), ([], []), ([5], [5]), ([6], [6]), ([4, 7, 4], [4, 7]), ([], []), ([9], [9]), ([10], [10]), ([8, 11, 8], [8, 11])])
def rg34_10.B : List Nat := [0, 0, 2, 6, 15, 0, 32, 96, 255, 0, 512, 1536, 4095]
theorem rg34_10.tab : rtab .any (opsOf Try.f34 10) = rg34_10.T := by kernel_rfl
theorem rg34_10.bits : waitsOk rg34_10.T.2 rg34_10.B = true := by kernel_rfl
def rg34_11.T : Bool × List (List Nat × List Nat) := (true, [([], []), ([], []), ([1], [1]), ([0, 2], [0, 2]), ([], []), ([4], [4]), ([3, 5, 3], [3, 5]), ([], []), ([7], [7]), ([8, 6], [8]), ([6, 9, 9], [6, 9])])
def rg34_11.B : List Nat := [0, 0, 2, 7, 0, 16, 63, 0, 128, 511, 1023]
theorem rg34_11.tab : rtab .any (opsOf Try.f34 11) = rg34_11.T := by kernel_rfl
theorem rg34_11.bits : waitsOk rg34_11.T.2 rg34_11.B = true := by kernel_rfl
def rg34_16.T : Bool × List (List Nat × List Nat) := (true, [([], []), ([], []), ([1], [1]), ([2], [2]), ([0, 3], [0, 3]), ([], []), ([5], [5]), ([6], [6]), ([4, 7, 4], [4, 7])])
def rg34_16.B : List Nat := [0, 0, 2, 6, 15, 0, 32, 96, 255]
theorem rg34_16.tab : rtab .any (opsOf Try.f34 16) = rg34_16.T := by kernel_rfl
theorem rg34_16.bits : waitsOk rg34_16.T.2 rg34_16.B = true := by kernel_rfl
def rg34_2.T : Bool × List (List Nat × List Nat) := (true, [([], []), ([], []), ([1], [1]), ([2], [2]), ([0, 3], [0, 3]), ([], []), ([5], [5]), ([6], [6]), ([4, 7, 4], [4, 7]), ([], []), ([9], [9]), ([10, 8], [10]), ([8, 11, 11], [8, 11])])
def rg34_2.B : List Nat := [0, 0, 2, 6, 15, 0, 32, 96, 255, 0, 512, 2047, 4095]
theorem rg34_2.tab : rtab .any (opsOf Try.f34 2) = rg34_2.T := by kernel_rfl
theorem rg34_2.bits : waitsOk rg34_2.T.2 rg34_2.B = true := by kernel_rfl
def rpC (r : RP) (v : Value) : Array Value := #[.int .i64 r.err, .int .i64 r.num, .int .i64 r.cnt, .int .i64 r.s0, .int .i64 r.s1, .int .i64 r.s2, .int .i64 r.s3, .int .i64 r.s4, .int .i64 r.tn, .int .u8 (r.tk : Int), .int .i64 r.tsh, .int .i64 r.tref, .int .i64 r.tamt, .int .i64 r.tleft, .bool r.tvoid, v, .int .i64 r.a0, .int .i64 r.a1, .bool r.rd]
def RpAt (w : World) (b : Nat) (r : RP) (v : Value) : Prop := w.heap[b]? = some (.cells (rpC r v) 71 (0, 0))
theorem RpAt.cells {w : World} {b : Nat} {r : RP} {v : Value} (h : RpAt w b r v) : w.cell? ⟨b, 0, none⟩ = some (.int .i64 r.err) ∧ w.cell? ⟨b, 1, none⟩ = some (.int .i64 r.num) ∧ w.cell? ⟨b, 2, none⟩ = some (.int .i64 r.cnt) ∧ w.cell? ⟨b, 3, none⟩ = some (.int .i64 r.s0) ∧ w.cell? ⟨b, 4, none⟩ = some (.int .i64 r.s1) ∧ w.cell? ⟨b, 5, none⟩ = some (.int .i64 r.s2) ∧ w.cell? ⟨b, 6, none⟩ = some (.int .i64 r.s3) ∧ w.cell? ⟨b, 7, none⟩ = some (.int .i64 r.s4) ∧ w.cell? ⟨b, 8, none⟩ = some (.int .i64 r.tn) ∧ w.cell? ⟨b, 9, none⟩ = some (.int .u8 (r.tk : Int)) ∧ w.cell? ⟨b, 10, none⟩ = some (.int .i64 r.tsh) ∧ w.cell? ⟨b, 11, none⟩ = some (.int .i64 r.tref) ∧ w.cell? ⟨b, 12, none⟩ = some (.int .i64 r.tamt) ∧ w.cell? ⟨b, 13, none⟩ = some (.int .i64 r.tleft) ∧ w.cell? ⟨b, 14, none⟩ = some (.bool r.tvoid) ∧ w.cell? ⟨b, 15, none⟩ = some (v) ∧ w.cell? ⟨b, 16, none⟩ = some (.int .i64 r.a0) ∧ w.cell? ⟨b, 17, none⟩ = some (.int .i64 r.a1) ∧ w.cell? ⟨b, 18, none⟩ = some (.bool r.rd) := by
  unfold RpAt at h
  refine ⟨?_, ?_, ?_, ?_, ?_, ?_, ?_, ?_, ?_, ?_, ?_, ?_, ?_, ?_, ?_, ?_, ?_, ?_, ?_⟩ <;> (unfold World.cell?; rw [h]; rfl)
def TxB (w : World) (b : Nat) (r : RP) (v : Value) : Prop := w.heap[b]? = some (.cells #[.int .i64 r.tn, .int .u8 (r.tk : Int), .int .i64 r.tsh, .int .i64 r.tref, .int .i64 r.tamt, .int .i64 r.tleft, .bool r.tvoid, v] 68 (0, 0))
theorem TxB.cells {w : World} {b : Nat} {r : RP} {v : Value} (h : TxB w b r v) : w.cell? ⟨b, 0, none⟩ = some (.int .i64 r.tn) ∧ w.cell? ⟨b, 1, none⟩ = some (.int .u8 (r.tk : Int)) ∧ w.cell? ⟨b, 2, none⟩ = some (.int .i64 r.tsh) ∧ w.cell? ⟨b, 3, none⟩ = some (.int .i64 r.tref) ∧ w.cell? ⟨b, 4, none⟩ = some (.int .i64 r.tamt) ∧ w.cell? ⟨b, 5, none⟩ = some (.int .i64 r.tleft) ∧ w.cell? ⟨b, 6, none⟩ = some (.bool r.tvoid) ∧ w.cell? ⟨b, 7, none⟩ = some (v) := by
  unfold TxB at h
  refine ⟨?_, ?_, ?_, ?_, ?_, ?_, ?_, ?_⟩ <;> (unfold World.cell?; rw [h]; rfl)
theorem bit_ok (b : Bool) (w : World) : Calls Try.prog 47 #[.bool b] w fun e w' => e = .returned (.int .u64 (bitN b : Int)) ∧ Drawn0 w w' :=
  req_bit.calls b _ w (by unfold req_bit.f bitN; cases b <;> rfl)
def sumL (r : RP) : List Int := [r.s0, r.s1, r.s2, r.s3, r.s4]
theorem sums_at {w : World} {b : Nat} {r : RP} {T : TypeId} (h : w.heap[b]? = some (.cells #[.int .i64 r.s0, .int .i64 r.s1, .int .i64 r.s2, .int .i64 r.s3, .int .i64 r.s4] T (0, 0))) (j : Nat) (hj : j < (sumL r).length) : w.cell? ⟨b, j, none⟩ = some (.int .i64 (sumL r)[j]) := by
  unfold World.cell?
  rw [h]
  match j, hj with
  | 0, _ => rfl
  | 1, _ => rfl
  | 2, _ => rfl
  | 3, _ => rfl
  | 4, _ => rfl
def sigs (l : List Int) : List Fl := l.map fun x => .sig (uN x)
theorem sigs_snoc (l : List Int) (j : Nat) (h : j < l.length) : sigs (l.take (j + 1)) = sigs (l.take j) ++ [.sig (uN l[j])] := by unfold sigs; rw [List.take_succ_eq_append_getElem h, List.map_append]; rfl
set_option maxHeartbeats 8000000 in
set_option maxRecDepth 8000 in
theorem rep_totals (base g : Nat) (fs : List Fl) (r : RP) (w : World) (h : WrF w base g fs) (hl : fs.length ≤ 500) :
    Calls Try.prog 46 #[.pointer (some ⟨g, 0, none⟩), .agg #[.int .i64 r.cnt, .int .i64 r.s0, .int .i64 r.s1, .int .i64 r.s2, .int .i64 r.s3, .int .i64 r.s4]] w fun x w' => x = .returned (.tuple #[]) ∧ WrF w' base g (fs ++ totF r) ∧ Below base w w' ∧ TouchU (some g) w w' := by
  have hwr : (some g : Option Nat) ≠ some w.heap.size := WrO.ne_new h
  have ha := below_alloc (Below.refl w.heap.size w) (.cells #[.int .i64 r.cnt, .int .i64 r.s0, .int .i64 r.s1, .int .i64 r.s2, .int .i64 r.s3, .int .i64 r.s4] 65)
  have HX := Lib.hid (heap_alloc_new w (.cells #[.int .i64 r.cnt, .int .i64 r.s0, .int .i64 r.s1, .int .i64 r.s2, .int .i64 r.s3, .int .i64 r.s4] 65))
  have HNe := Lib.hid hwr; clear hwr
  have HBs := Lib.hid h.1
  have HW := Lib.hid (h.below ha)
  have HB := Lib.hid (show Below base w _ from ha.mono h.1)
  have HT := Lib.hid (TouchU.of (o := some g) ha); clear ha h
  have HL := Lib.hid hl; clear hl
  have HF := Lib.hid (show totF r = .num (uN r.cnt) 4 :: sigs (sumL r) from rfl)
  have HSl := Lib.hid (show (sumL r).length = 5 from rfl)
  have HSa := Lib.hid (fun (w : World) (b : Nat) (T : TypeId) (h : w.heap[b]? = some (.cells #[.int .i64 r.s0, .int .i64 r.s1, .int .i64 r.s2, .int .i64 r.s3, .int .i64 r.s4] T (0, 0))) => sums_at (r := r) h)
  generalize totF r = FF at HF ⊢
  generalize sumL r = S at HF HSl HSa
  obtain ⟨z0, z1, z2, z3, z4, z5⟩ := (show _ ∧ _ ∧ _ ∧ _ ∧ _ ∧ _ from ⟨cell_of_row _ _ 0 _ _ (0, 0) HX.out, cell_of_row _ _ 1 _ _ (0, 0) HX.out, cell_of_row _ _ 2 _ _ (0, 0) HX.out, cell_of_row _ _ 3 _ _ (0, 0) HX.out, cell_of_row _ _ 4 _ _ (0, 0) HX.out, cell_of_row _ _ 5 _ _ (0, 0) HX.out⟩)
  have c1 : IntKind.u64.wrap r.cnt = (uN r.cnt : Int) := uN_wrap _
  go_enter Try.func46, Try.ntmps46
  go_wp2_with fail
  clear z0 z1 z2 z3 z4 z5 c1
  generalize w.alloc (.cells #[.int .i64 r.cnt, .int .i64 r.s0, .int .i64 r.s1, .int .i64 r.s2, .int .i64 r.s3, .int .i64 r.s4] 65) = w1 at HX HW HB HT ⊢
  generalize w.heap.size = bx at HX HNe ⊢
  refine (wrF_num base g fs (uN r.cnt) 4 4 rfl w1 HW.out (by have := HL.out; omega) (uN_lt _) (by decide)).mono ?_
  rintro e w2 ⟨rfl, hw, hd, ht⟩
  replace HX := Lib.hid (ht.blk HX.out HNe.out (by decide))
  replace HW := Lib.hid hw; clear hw
  replace HB := Lib.hid (HB.out.trans hd); clear hd
  replace HT := Lib.hid (HT.out.trans ht); clear ht
  obtain ⟨z0, z1, z2, z3, z4, z5⟩ := (show _ ∧ _ ∧ _ ∧ _ ∧ _ ∧ _ from ⟨cell_of_row _ _ 0 _ _ (0, 0) HX.out, cell_of_row _ _ 1 _ _ (0, 0) HX.out, cell_of_row _ _ 2 _ _ (0, 0) HX.out, cell_of_row _ _ 3 _ _ (0, 0) HX.out, cell_of_row _ _ 4 _ _ (0, 0) HX.out, cell_of_row _ _ 5 _ _ (0, 0) HX.out⟩)
  have HA := Lib.hid (heap_alloc_new w2 (.cells #[.int .i64 r.s0, .int .i64 r.s1, .int .i64 r.s2, .int .i64 r.s3, .int .i64 r.s4] 30))
  have HNa := Lib.hid (WrO.ne_new HW.out)
  have hd := below_alloc (Below.refl w2.heap.size w2) (.cells #[.int .i64 r.s0, .int .i64 r.s1, .int .i64 r.s2, .int .i64 r.s3, .int .i64 r.s4] 30)
  replace HB := Lib.hid (chainB HB.out HW.out.1 hd)
  replace HT := Lib.hid (HT.out.trans (TouchU.of hd))
  replace HW := Lib.hid (HW.out.below hd); clear hd
  go_upto_block 0 with (fail)
  clear z0 z1 z2 z3 z4 z5 HX HNe
  generalize w2.alloc (.cells #[.int .i64 r.s0, .int .i64 r.s1, .int .i64 r.s2, .int .i64 r.s3, .int .i64 r.s4] 30) = w3 at HA HW HB HT ⊢
  generalize w2.heap.size = ba at HA HNa ⊢
  go_wp2_with fail
  go_loopw [23] (fun i wr => ∃ j : Nat, j ≤ 5 ∧ i = .int .i64 (j : Int) ∧ WrF wr base g (fs ++ [.num (uN r.cnt) 4] ++ sigs (S.take j)) ∧ Below base w wr ∧ TouchU (some g) w wr ∧ wr.heap[ba]? = some (.cells #[.int .i64 r.s0, .int .i64 r.s1, .int .i64 r.s2, .int .i64 r.s3, .int .i64 r.s4] 30 (0, 0))) (fun i _ => 5 - (RowKit.intOf i).toNat)
  case atStart => exact ⟨0, by decide, rfl, by rw [List.take_zero]; unfold sigs; rw [List.map_nil, List.append_nil]; exact HW.out, HB.out, HT.out, HA.out⟩
  case round =>
    clear HW HB HT HA
    obtain ⟨j, hj, rfl, hw, hb, ht, ha⟩ := hrel
    have HW := Lib.hid hw; clear hw
    have HB := Lib.hid hb; clear hb
    have HT := Lib.hid ht; clear ht
    have HA := Lib.hid ha; clear ha
    by_cases hlt : j < 5
    · have e3 : wrap64 ((j : Int) + 1) = ((j + 1 : Nat) : Int) := wrap_succP j (by omega)
      have x0 := HSa.out wr ba _ HA.out j (by rw [HSl.out]; exact hlt)
      have HSn := Lib.hid (sigs_snoc S j (by rw [HSl.out]; exact hlt))
      generalize S[j]'(by rw [HSl.out]; exact hlt) = sj at x0 HSn
      have q1 : decide (j < 5) = true := decide_eq_true hlt
      have q2 : decide ((j : Int) < 5) = true := decide_eq_true (by omega)
      have q5 : (0 ≤ (j : Int)) = True := eq_true (by omega)
      have q6 : ((j : Int) < 5) = True := eq_true (by omega)
      have q7 : (j < 5) = True := eq_true hlt
      have Hlt := Lib.hid hlt; clear hlt hj
      go_wp2_with fail
      clear x0 q1 q2 q5 q6 q7
      refine (wrF_sig base g _ sj wr HW.out (by have h1 := HL.out; have h2 : (sigs (S.take j)).length ≤ 5 := by { unfold sigs; rw [List.length_map, List.length_take]; have := HSl.out; omega }; rw [List.length_append, List.length_append]; simp only [List.length_cons, List.length_nil]; omega)).mono ?_
      rintro e w5 ⟨rfl, hw, hd, ht⟩
      replace HA := Lib.hid (ht.blk HA.out HNa.out (by decide))
      replace HW := Lib.hid hw; clear hw
      replace HB := Lib.hid (HB.out.trans hd); clear hd
      replace HT := Lib.hid (HT.out.trans ht); clear ht
      go_wp2_with fail
      go_roundw
      case rel => exact ⟨j + 1, Hlt.out, by first | rw [e3] | rfl, by rw [HSn.out, ← List.append_assoc]; exact HW.out, HB.out, HT.out, HA.out⟩
      case measure => (first | rw [e3] | rw [show ((j : Int) + 1) = ((j + 1 : Nat) : Int) from rfl]); simp only [RowKit.intOf, Int.toNat_natCast]; exact Nat.sub_lt_sub_left Hlt.out (Nat.lt_succ_self j)
    · obtain rfl : j = 5 := Nat.le_antisymm hj (Nat.le_of_not_lt hlt)
      have hw := HW.out
      rw [List.take_of_length_le (by rw [HSl.out]; exact Nat.le_refl _)] at hw
      go_wp2_with fail
      go_end0
      exact ⟨by rfl, by rw [HF.out, List.append_cons]; exact hw, HB.out, HT.out⟩
theorem RpAt.am {w : World} {b : Nat} {r : RP} {v : Value} (h : RpAt w b r v) : w.cell? ⟨b, 16, none⟩ = some (.int .i64 r.a0) ∧ w.cell? ⟨b, 17, none⟩ = some (.int .i64 r.a1) := ⟨h.cells.2.2.2.2.2.2.2.2.2.2.2.2.2.2.2.2.1, h.cells.2.2.2.2.2.2.2.2.2.2.2.2.2.2.2.2.2.1⟩
theorem RpAt.nr {w : World} {b : Nat} {r : RP} {v : Value} (h : RpAt w b r v) : w.cell? ⟨b, 1, none⟩ = some (.int .i64 r.num) ∧ w.cell? ⟨b, 18, none⟩ = some (.bool r.rd) := ⟨h.cells.2.1, h.cells.2.2.2.2.2.2.2.2.2.2.2.2.2.2.2.2.2.2⟩
set_option maxHeartbeats 32000000 in
set_option maxRecDepth 20000 in
theorem rep_write (k : Nat) (hk : isK k) (base g : Nat) (fs : List Fl) (r : RP) (htk : r.tk < 256) (xs : List Ln) (hx : xs.length ≤ 100) (v : Value) (w0 w : World) (hr : RowS encL w0 v xs) (h0 : Below w0.heap.size w0 w) (hb : w0.heap.size ≤ base) (h : WrF w base g fs) (hl : fs.length ≤ 100) :
    Calls Try.prog 34 #[.agg (rpC r v), .pointer (some ⟨g, 0, none⟩), .int .u8 (k : Int)] w fun x w' => x = .returned (.tuple #[]) ∧ WrF w' base g (fs ++ (repFs k r ++ repTail k xs)) ∧ Below base w w' := by
  obtain ⟨va, vc, rfl⟩ : ∃ a c, v = .slice a xs.length c := by obtain ⟨a, c, h, _⟩ := hr.len; exact ⟨a, c, h⟩
  have HRow := Lib.hid hr; clear hr
  have H0 := Lib.hid h0; clear h0
  have Hb := Lib.hid hb; clear hb
  have HN := Lib.hid hx; clear hx
  have HTk := Lib.hid htk; clear htk
  have HL := Lib.hid hl; clear hl
  have HF := Lib.hid (show repFs k r ++ repTail k xs = repFs k r ++ repTail k xs from rfl)
  generalize hFF : repFs k r ++ repTail k xs = FF at HF ⊢
  replace HF := Lib.hid hFF; clear hFF
  have HNx := Lib.hid (WrO.ne_new h)
  have ha := below_alloc (Below.refl w.heap.size w) (.cells (rpC r (.slice va xs.length vc)) 71)
  have HX := Lib.hid (show RpAt _ w.heap.size r (.slice va xs.length vc) from heap_alloc_new w (.cells (rpC r (.slice va xs.length vc)) 71))
  have HW := Lib.hid (h.below ha)
  have HB := Lib.hid (show Below base w _ from ha.mono h.1); clear ha h
  obtain ⟨z0, z1, z2, z3, z4, z5, z6, z7, z8, z9, z10, z11, z12, z13, z14, z15, z16, z17, z18⟩ := HX.out.cells
  generalize hC : rpC r (.slice va xs.length vc) = C at HX HW HB z0 z1 z2 z3 z4 z5 z6 z7 z8 z9 z10 z11 z12 z13 z14 z15 z16 z17 z18
  go_enter Try.func34, Try.ntmps34
  go_upto_block 0 with (fail)
  clear z0 z1 z2 z3 z4 z5 z6 z7 z8 z9 z10 z11 z12 z13 z14 z15 z16 z17 z18
  have HSz := Lib.hid (show (w.alloc (.cells C 71)).heap.size = w.heap.size + 1 from alloc_size _ _)
  generalize w.alloc (.cells C 71) = w1 at HX HW HB HSz ⊢
  generalize w.heap.size = bx at HX HNx HSz ⊢
  have HNt := Lib.hid (WrO.ne_new HW.out)
  have HY := Lib.hid (show TxB _ w1.heap.size r (.slice va xs.length vc) from heap_alloc_new w1 (.cells #[.int .i64 r.tn, .int .u8 (r.tk : Int), .int .i64 r.tsh, .int .i64 r.tref, .int .i64 r.tamt, .int .i64 r.tleft, .bool r.tvoid, .slice va xs.length vc] 68))
  have hd := below_alloc (Below.refl w1.heap.size w1) (.cells #[.int .i64 r.tn, .int .u8 (r.tk : Int), .int .i64 r.tsh, .int .i64 r.tref, .int .i64 r.tamt, .int .i64 r.tleft, .bool r.tvoid, .slice va xs.length vc] 68)
  replace HX := Lib.hid (show RpAt _ _ _ _ from blk_below HX.out hd)
  replace HB := Lib.hid (chainB HB.out HW.out.1 hd)
  replace HW := Lib.hid (HW.out.below hd); clear hd
  generalize w1.alloc (.cells #[.int .i64 r.tn, .int .u8 (r.tk : Int), .int .i64 r.tsh, .int .i64 r.tref, .int .i64 r.tamt, .int .i64 r.tleft, .bool r.tvoid, .slice va xs.length vc] 68) = w2 at HX HY HW HB ⊢
  rw [HSz.out] at HY HNt
  generalize bx + 1 = bt at HY HNt ⊢
  clear HSz
  clear hC
  go_wp2_with fail
  refine (event_ok k w2).mono ?_
  rintro e w3 ⟨rfl, hd⟩
  replace hd := hd.below
  replace HX := Lib.hid (show RpAt _ _ _ _ from blk_below HX.out hd)
  replace HY := Lib.hid (show TxB _ _ _ _ from blk_below HY.out hd)
  replace HB := Lib.hid (chainB HB.out HW.out.1 hd)
  replace HW := Lib.hid (HW.out.below hd); clear hd
  have hk1 := hk.1
  have hk2 := hk.2
  have hcase : k = 3 ∨ (k ≤ 9 ∧ k ≠ 3) ∨ k = 10 ∨ k = 11 ∨ k = 12 ∨ k = 13 ∨ k = 14 := by omega
  rcases hcase with rfl | ⟨h9, h3⟩ | rfl | rfl | rfl | rfl | rfl
  · skip
    rw [show decide (1 ≤ 3 ∧ 3 ≤ 9) = true from rfl]
    have c1 : IntKind.u64.wrap r.num = (uN r.num : Int) := uN_wrap _
    obtain ⟨z0, z1, z2, z3, z4, z5, z6, z7, z8, z9, z10, z11, z12, z13, z14, z15, z16, z17, z18⟩ := HX.out.cells
    go_wp2_with fail
    clear z0 z1 z2 z3 z4 z5 z6 z7 z8 z9 z10 z11 z12 z13 z14 z15 z16 z17 z18
    clear c1
    refine (wrF_num base g fs (uN r.num) 4 4 rfl w3 HW.out (by have := HL.out; omega) (uN_lt _) (by decide)).mono ?_
    rintro e w4 ⟨rfl, hw, hd, ht⟩
    replace HX := Lib.hid (show RpAt _ _ _ _ from ht.blk HX.out HNx.out (by decide))
    replace HY := Lib.hid (show TxB _ _ _ _ from ht.blk HY.out HNt.out (by decide))
    replace HW := Lib.hid hw
    replace HB := Lib.hid (HB.out.trans hd)
    clear hw hd ht
    obtain ⟨z0, z1, z2, z3, z4, z5, z6, z7, z8, z9, z10, z11, z12, z13, z14, z15, z16, z17, z18⟩ := HX.out.cells
    go_wp2_with fail
    clear z0 z1 z2 z3 z4 z5 z6 z7 z8 z9 z10 z11 z12 z13 z14 z15 z16 z17 z18
    refine (rep_totals base g _ r w4 HW.out (by rw [List.length_append]; have := HL.out; simp only [List.length_cons, List.length_nil]; omega)).mono ?_
    rintro e w5 ⟨rfl, hw, hd, ht⟩
    replace HX := Lib.hid (show RpAt _ _ _ _ from ht.blk HX.out HNx.out (by decide))
    replace HY := Lib.hid (show TxB _ _ _ _ from ht.blk HY.out HNt.out (by decide))
    replace HW := Lib.hid hw
    replace HB := Lib.hid (HB.out.trans hd)
    clear hw hd ht
    go_wp2
    go_end0
    have hw := HW.out
    try simp only [List.append_assoc] at hw
    exact ⟨by rfl, by rw [← HF.out]; exact hw, HB.out⟩
  · skip
    rw [show decide (1 ≤ k ∧ k ≤ 9) = true from decide_eq_true ⟨hk1, h9⟩]
    have c2 : ((k : Int) == 3) = false := beq_eq_false_iff_ne.2 (by omega)
    have c1 : IntKind.u64.wrap r.num = (uN r.num : Int) := uN_wrap _
    obtain ⟨z0, z1, z2, z3, z4, z5, z6, z7, z8, z9, z10, z11, z12, z13, z14, z15, z16, z17, z18⟩ := HX.out.cells
    go_wp2_with fail
    clear z0 z1 z2 z3 z4 z5 z6 z7 z8 z9 z10 z11 z12 z13 z14 z15 z16 z17 z18
    clear c1
    refine (wrF_num base g fs (uN r.num) 4 4 rfl w3 HW.out (by have := HL.out; omega) (uN_lt _) (by decide)).mono ?_
    rintro e w4 ⟨rfl, hw, hd, ht⟩
    replace HX := Lib.hid (show RpAt _ _ _ _ from ht.blk HX.out HNx.out (by decide))
    replace HY := Lib.hid (show TxB _ _ _ _ from ht.blk HY.out HNt.out (by decide))
    replace HW := Lib.hid hw
    replace HB := Lib.hid (HB.out.trans hd)
    clear hw hd ht
    go_wp2
    go_end0
    exact ⟨by rfl, by rw [← HF.out]; unfold repFs repTail; rw [if_neg h3, if_pos h9, if_neg (by omega), List.append_nil]; exact HW.out, HB.out⟩
  · skip
    rw [show decide (1 ≤ 10 ∧ 10 ≤ 9) = false from rfl]
    obtain ⟨z0, z1, z2, z3, z4, z5, z6, z7, z8, z9, z10, z11, z12, z13, z14, z15, z16, z17, z18⟩ := HX.out.cells
    go_wp2_with fail
    clear z0 z1 z2 z3 z4 z5 z6 z7 z8 z9 z10 z11 z12 z13 z14 z15 z16 z17 z18
    refine (wrF_sig base g fs r.a0 w3 HW.out (by have := HL.out; omega)).mono ?_
    rintro e w4 ⟨rfl, hw, hd, ht⟩
    replace HX := Lib.hid (show RpAt _ _ _ _ from ht.blk HX.out HNx.out (by decide))
    replace HY := Lib.hid (show TxB _ _ _ _ from ht.blk HY.out HNt.out (by decide))
    replace HW := Lib.hid hw
    replace HB := Lib.hid (HB.out.trans hd)
    clear hw hd ht
    go_wp2
    go_end0
    have hw := HW.out
    try simp only [List.append_assoc] at hw
    exact ⟨by rfl, by rw [← HF.out]; exact hw, HB.out⟩
  · skip
    rw [show decide (1 ≤ 11 ∧ 11 ≤ 9) = false from rfl]
    have c1 : IntKind.u64.wrap (r.tk : Int) = (r.tk : Int) := u64_wrap_nat _ (by have := HTk.out; omega)
    have c2 : IntKind.u64.wrap r.tsh = (uN r.tsh : Int) := uN_wrap _
    have c3 : IntKind.u64.wrap r.tref = (uN r.tref : Int) := uN_wrap _
    go_upto_region 10 with (fail)
    have hS := HY.out.cells
    replace HX := Lib.hid (show RpAt w3.drew _ _ _ from HX.out)
    replace HY := Lib.hid (show TxB w3.drew _ _ _ from HY.out)
    replace HW := Lib.hid (show WrF w3.drew _ _ _ from HW.out)
    replace HB := Lib.hid (below_drew1 HB.out)
    refine start_ (n := 13) (S := fun w' => w'.cell? ⟨bt, 0, none⟩ = some (.int .i64 r.tn) ∧ w'.cell? ⟨bt, 1, none⟩ = some (.int .u8 (r.tk : Int)) ∧ w'.cell? ⟨bt, 2, none⟩ = some (.int .i64 r.tsh) ∧ w'.cell? ⟨bt, 3, none⟩ = some (.int .i64 r.tref) ∧ w'.cell? ⟨bt, 4, none⟩ = some (.int .i64 r.tamt) ∧ w'.cell? ⟨bt, 5, none⟩ = some (.int .i64 r.tleft) ∧ w'.cell? ⟨bt, 6, none⟩ = some (.bool r.tvoid) ∧ w'.cell? ⟨bt, 7, none⟩ = some (.slice va xs.length vc)) (ds := []) #[false, false, false, false, false, false, false, false, false, false, false, false, false] (by kernel_rfl) rfl rfl hS (fun hHeld => ?_)
    refine with_tabW rg34_10.tab rg34_10.bits (fun HT_ HW_ => ?_)
    generalize w3.drew = w' at HX HY HW HB hS hHeld ⊢
    refine pure_ (i := 0) (N := some 47) (v := ?_) (a' := ?_) #[true, false, false, false, false, false, false, false, false, false, false, false, false] rfl rfl (any_of HT_.out (by kernel_rfl)) (fun _ _ _ h => h) (Or.inl ⟨by rfl, ?_⟩) ?_ ?_
    rotate_left
    · intro w'
      go_simp
      try with_reducible rfl
    rotate_left
    · simp (maxSteps := 4000000) only [Act.put, List.setIfInBounds_toArray, List.set_cons_zero, List.set_cons_succ, i64_w, i32_w]
      try rfl
    refine pure_ (i := 1) (N := some 48) (v := ?_) (a' := ?_) #[true, true, false, false, false, false, false, false, false, false, false, false, false] rfl rfl (any_of HT_.out (by kernel_rfl)) (fun _ _ _ h => h) (Or.inl ⟨by rfl, ?_⟩) ?_ ?_
    rotate_left
    · intro w'
      go_simp
      try with_reducible rfl
    rotate_left
    · simp (maxSteps := 4000000) only [Act.put, List.setIfInBounds_toArray, List.set_cons_zero, List.set_cons_succ, i64_w, i32_w]
      try rfl
    refine pure_ (i := 5) (N := some 52) (v := ?_) (a' := ?_) #[true, true, false, false, false, true, false, false, false, false, false, false, false] rfl rfl (any_of HT_.out (by kernel_rfl)) (fun _ _ _ h => h) (Or.inl ⟨by rfl, ?_⟩) ?_ ?_
    rotate_left
    · intro w'
      go_simp
      try with_reducible rfl
    rotate_left
    · simp (maxSteps := 4000000) only [Act.put, List.setIfInBounds_toArray, List.set_cons_zero, List.set_cons_succ, i64_w, i32_w]
      try rfl
    refine pure_ (i := 9) (N := some 56) (v := ?_) (a' := ?_) #[true, true, false, false, false, true, false, false, false, true, false, false, false] rfl rfl (any_of HT_.out (by kernel_rfl)) (fun _ _ _ h => h) (Or.inl ⟨by rfl, ?_⟩) ?_ ?_
    rotate_left
    · intro w'
      go_simp
      try with_reducible rfl
    rotate_left
    · simp (maxSteps := 4000000) only [Act.put, List.setIfInBounds_toArray, List.set_cons_zero, List.set_cons_succ, i64_w, i32_w]
      try rfl
    refine take_ (i := 2) (N := some 49) (v := ?_) (a' := ?_) #[true, true, true, false, false, true, false, false, false, true, false, false, false] rfl rfl (take_ofW HT_.out HW_.out (by kernel_rfl)) (fun _ _ _ h => h) (Or.inl ⟨by rfl, ?_⟩) hHeld ?_ ?_
    rotate_left
    · intro w' hw_
      try dsimp only at hw_
      obtain ⟨y0, y1, y2, y3, y4, y5, y6, y7⟩ := hw_
      go_simp
      try with_reducible rfl
    rotate_left
    · simp (maxSteps := 4000000) only [Act.put, List.setIfInBounds_toArray, List.set_cons_zero, List.set_cons_succ, i64_w, i32_w]
      try rfl
    refine pure_ (i := 3) (N := some 50) (v := ?_) (a' := ?_) #[true, true, true, true, false, true, false, false, false, true, false, false, false] rfl rfl (any_of HT_.out (by kernel_rfl)) (fun _ _ _ h => h) (Or.inl ⟨by rfl, ?_⟩) ?_ ?_
    rotate_left
    · intro w'
      go_simp
      try with_reducible rfl
    rotate_left
    · simp (maxSteps := 4000000) only [Act.put, List.setIfInBounds_toArray, List.set_cons_zero, List.set_cons_succ, i64_w, i32_w]
      try rfl
    refine take_ (i := 6) (N := some 53) (v := ?_) (a' := ?_) #[true, true, true, true, false, true, true, false, false, true, false, false, false] rfl rfl (take_ofW HT_.out HW_.out (by kernel_rfl)) (fun _ _ _ h => h) (Or.inl ⟨by rfl, ?_⟩) hHeld ?_ ?_
    rotate_left
    · intro w' hw_
      try dsimp only at hw_
      obtain ⟨y0, y1, y2, y3, y4, y5, y6, y7⟩ := hw_
      go_simp
      try with_reducible rfl
    rotate_left
    · simp (maxSteps := 4000000) only [Act.put, List.setIfInBounds_toArray, List.set_cons_zero, List.set_cons_succ, i64_w, i32_w]
      try rfl
    refine pure_ (i := 7) (N := some 54) (v := ?_) (a' := ?_) #[true, true, true, true, false, true, true, true, false, true, false, false, false] rfl rfl (any_of HT_.out (by kernel_rfl)) (fun _ _ _ h => h) (Or.inl ⟨by rfl, ?_⟩) ?_ ?_
    rotate_left
    · intro w'
      go_simp
      try with_reducible rfl
    rotate_left
    · simp (maxSteps := 4000000) only [Act.put, List.setIfInBounds_toArray, List.set_cons_zero, List.set_cons_succ, i64_w, i32_w]
      try rfl
    refine take_ (i := 10) (N := some 57) (v := ?_) (a' := ?_) #[true, true, true, true, false, true, true, true, false, true, true, false, false] rfl rfl (take_ofW HT_.out HW_.out (by kernel_rfl)) (fun _ _ _ h => h) (Or.inl ⟨by rfl, ?_⟩) hHeld ?_ ?_
    rotate_left
    · intro w' hw_
      try dsimp only at hw_
      obtain ⟨y0, y1, y2, y3, y4, y5, y6, y7⟩ := hw_
      go_simp
      try with_reducible rfl
    rotate_left
    · simp (maxSteps := 4000000) only [Act.put, List.setIfInBounds_toArray, List.set_cons_zero, List.set_cons_succ, i64_w, i32_w]
      try rfl
    refine pure_ (i := 11) (N := some 58) (v := ?_) (a' := ?_) #[true, true, true, true, false, true, true, true, false, true, true, true, false] rfl rfl (any_of HT_.out (by kernel_rfl)) (fun _ _ _ h => h) (Or.inl ⟨by rfl, ?_⟩) ?_ ?_
    rotate_left
    · intro w'
      go_simp
      try with_reducible rfl
    rotate_left
    · simp (maxSteps := 4000000) only [Act.put, List.setIfInBounds_toArray, List.set_cons_zero, List.set_cons_succ, i64_w, i32_w]
      try rfl
    refine one_ (i := 4) (N := some 51) #[true, true, true, true, true, true, true, true, false, true, true, true, false] rfl rfl (one_of HT_.out (by kernel_rfl)) (by decide) (fun K hK => ?_)
    refine goes_ Try.func18 (by kernel_rfl) rfl #[.pointer (some ⟨g, 0, none⟩), .int .u64 (r.tk : Int), .int .i64 1] (by rfl) rfl rfl (by (try simp only [List.map_toArray, List.map_cons, List.map_nil]); first | done | rfl) ?_
    refine (wrF_num base g fs (r.tk) 1 1 rfl w' HW.out (by have := HL.out; first | omega | (simp only [List.length_append, List.length_cons, List.length_nil]; omega)) (by have := HTk.out; omega) (by decide)).mono ?_
    rintro e w' ⟨rfl, hw, hd, ht⟩
    refine ⟨_, rfl, ?_⟩
    replace HX := Lib.hid (show RpAt _ _ _ _ from ht.blk HX.out HNx.out (by decide))
    replace HY := Lib.hid (show TxB _ _ _ _ from ht.blk HY.out HNt.out (by decide))
    replace HW := Lib.hid hw
    replace HB := Lib.hid (HB.out.trans hd)
    clear hw hd ht
    refine hK.out _ _ (HY.out.cells) (fun hHeld => ?_)
    clear hK K
    refine norm_ (a' := ?_) ?_ ?_
    rotate_left
    · show Act.put _ (some 51) _ = _
      simp (maxSteps := 4000000) only [Act.put, List.setIfInBounds_toArray, List.set_cons_zero, List.set_cons_succ, i64_w, i32_w]
      try rfl
    refine one_ (i := 8) (N := some 55) #[true, true, true, true, true, true, true, true, true, true, true, true, false] rfl rfl (one_of HT_.out (by kernel_rfl)) (by decide) (fun K hK => ?_)
    refine goes_ Try.func18 (by kernel_rfl) rfl #[.pointer (some ⟨g, 0, none⟩), .int .u64 (uN r.tsh : Int), .int .i64 4] (by rfl) rfl rfl (by (try simp only [List.map_toArray, List.map_cons, List.map_nil]); first | done | rfl) ?_
    refine (wrF_num base g (fs ++ [.num r.tk 1]) (uN r.tsh) 4 4 rfl w' HW.out (by have := HL.out; first | omega | (simp only [List.length_append, List.length_cons, List.length_nil]; omega)) (uN_lt _) (by decide)).mono ?_
    rintro e w' ⟨rfl, hw, hd, ht⟩
    refine ⟨_, rfl, ?_⟩
    replace HX := Lib.hid (show RpAt _ _ _ _ from ht.blk HX.out HNx.out (by decide))
    replace HY := Lib.hid (show TxB _ _ _ _ from ht.blk HY.out HNt.out (by decide))
    replace HW := Lib.hid hw
    replace HB := Lib.hid (HB.out.trans hd)
    clear hw hd ht
    refine hK.out _ _ (HY.out.cells) (fun hHeld => ?_)
    clear hK K
    refine norm_ (a' := ?_) ?_ ?_
    rotate_left
    · show Act.put _ (some 55) _ = _
      simp (maxSteps := 4000000) only [Act.put, List.setIfInBounds_toArray, List.set_cons_zero, List.set_cons_succ, i64_w, i32_w]
      try rfl
    refine one_ (i := 12) (N := some 59) #[true, true, true, true, true, true, true, true, true, true, true, true, true] rfl rfl (one_of HT_.out (by kernel_rfl)) (by decide) (fun K hK => ?_)
    refine goes_ Try.func18 (by kernel_rfl) rfl #[.pointer (some ⟨g, 0, none⟩), .int .u64 (uN r.tref : Int), .int .i64 4] (by rfl) rfl rfl (by (try simp only [List.map_toArray, List.map_cons, List.map_nil]); first | done | rfl) ?_
    refine (wrF_num base g ((fs ++ [.num r.tk 1]) ++ [.num (uN r.tsh) 4]) (uN r.tref) 4 4 rfl w' HW.out (by have := HL.out; first | omega | (simp only [List.length_append, List.length_cons, List.length_nil]; omega)) (uN_lt _) (by decide)).mono ?_
    rintro e w' ⟨rfl, hw, hd, ht⟩
    refine ⟨_, rfl, ?_⟩
    replace HX := Lib.hid (show RpAt _ _ _ _ from ht.blk HX.out HNx.out (by decide))
    replace HY := Lib.hid (show TxB _ _ _ _ from ht.blk HY.out HNt.out (by decide))
    replace HW := Lib.hid hw
    replace HB := Lib.hid (HB.out.trans hd)
    clear hw hd ht
    refine hK.out _ _ (HY.out.cells) (fun hHeld => ?_)
    clear hK K
    refine norm_ (a' := ?_) ?_ ?_
    rotate_left
    · show Act.put _ (some 59) _ = _
      simp (maxSteps := 4000000) only [Act.put, List.setIfInBounds_toArray, List.set_cons_zero, List.set_cons_succ, i64_w, i32_w]
      try rfl
    refine done_ (done_of HT_.out (by kernel_rfl)) ?_
    clear c1 c2 c3
    go_upto_region 11 with (fail)
    have hS := HY.out.cells
    replace HX := Lib.hid (show RpAt w'.drew _ _ _ from HX.out)
    replace HY := Lib.hid (show TxB w'.drew _ _ _ from HY.out)
    replace HW := Lib.hid (show WrF w'.drew _ _ _ from HW.out)
    replace HB := Lib.hid (below_drew1 HB.out)
    refine start_ (n := 11) (S := fun w' => w'.cell? ⟨bt, 0, none⟩ = some (.int .i64 r.tn) ∧ w'.cell? ⟨bt, 1, none⟩ = some (.int .u8 (r.tk : Int)) ∧ w'.cell? ⟨bt, 2, none⟩ = some (.int .i64 r.tsh) ∧ w'.cell? ⟨bt, 3, none⟩ = some (.int .i64 r.tref) ∧ w'.cell? ⟨bt, 4, none⟩ = some (.int .i64 r.tamt) ∧ w'.cell? ⟨bt, 5, none⟩ = some (.int .i64 r.tleft) ∧ w'.cell? ⟨bt, 6, none⟩ = some (.bool r.tvoid) ∧ w'.cell? ⟨bt, 7, none⟩ = some (.slice va xs.length vc)) (ds := []) #[false, false, false, false, false, false, false, false, false, false, false] (by kernel_rfl) rfl rfl hS (fun hHeld => ?_)
    refine with_tabW rg34_11.tab rg34_11.bits (fun HT_ HW_ => ?_)
    generalize w'.drew = w' at HX HY HW HB hS hHeld ⊢
    refine pure_ (i := 0) (N := some 60) (v := ?_) (a' := ?_) #[true, false, false, false, false, false, false, false, false, false, false] rfl rfl (any_of HT_.out (by kernel_rfl)) (fun _ _ _ h => h) (Or.inl ⟨by rfl, ?_⟩) ?_ ?_
    rotate_left
    · intro w'
      go_simp
      try with_reducible rfl
    rotate_left
    · simp (maxSteps := 4000000) only [Act.put, List.setIfInBounds_toArray, List.set_cons_zero, List.set_cons_succ, i64_w, i32_w]
      try rfl
    refine pure_ (i := 1) (N := some 61) (v := ?_) (a' := ?_) #[true, true, false, false, false, false, false, false, false, false, false] rfl rfl (any_of HT_.out (by kernel_rfl)) (fun _ _ _ h => h) (Or.inl ⟨by rfl, ?_⟩) ?_ ?_
    rotate_left
    · intro w'
      go_simp
      try with_reducible rfl
    rotate_left
    · simp (maxSteps := 4000000) only [Act.put, List.setIfInBounds_toArray, List.set_cons_zero, List.set_cons_succ, i64_w, i32_w]
      try rfl
    refine pure_ (i := 4) (N := some 64) (v := ?_) (a' := ?_) #[true, true, false, false, true, false, false, false, false, false, false] rfl rfl (any_of HT_.out (by kernel_rfl)) (fun _ _ _ h => h) (Or.inl ⟨by rfl, ?_⟩) ?_ ?_
    rotate_left
    · intro w'
      go_simp
      try with_reducible rfl
    rotate_left
    · simp (maxSteps := 4000000) only [Act.put, List.setIfInBounds_toArray, List.set_cons_zero, List.set_cons_succ, i64_w, i32_w]
      try rfl
    refine pure_ (i := 7) (N := some 67) (v := ?_) (a' := ?_) #[true, true, false, false, true, false, false, true, false, false, false] rfl rfl (any_of HT_.out (by kernel_rfl)) (fun _ _ _ h => h) (Or.inl ⟨by rfl, ?_⟩) ?_ ?_
    rotate_left
    · intro w'
      go_simp
      try with_reducible rfl
    rotate_left
    · simp (maxSteps := 4000000) only [Act.put, List.setIfInBounds_toArray, List.set_cons_zero, List.set_cons_succ, i64_w, i32_w]
      try rfl
    refine take_ (i := 2) (N := some 62) (v := ?_) (a' := ?_) #[true, true, true, false, true, false, false, true, false, false, false] rfl rfl (take_ofW HT_.out HW_.out (by kernel_rfl)) (fun _ _ _ h => h) (Or.inl ⟨by rfl, ?_⟩) hHeld ?_ ?_
    rotate_left
    · intro w' hw_
      try dsimp only at hw_
      obtain ⟨y0, y1, y2, y3, y4, y5, y6, y7⟩ := hw_
      go_simp
      try with_reducible rfl
    rotate_left
    · simp (maxSteps := 4000000) only [Act.put, List.setIfInBounds_toArray, List.set_cons_zero, List.set_cons_succ, i64_w, i32_w]
      try rfl
    refine take_ (i := 5) (N := some 65) (v := ?_) (a' := ?_) #[true, true, true, false, true, true, false, true, false, false, false] rfl rfl (take_ofW HT_.out HW_.out (by kernel_rfl)) (fun _ _ _ h => h) (Or.inl ⟨by rfl, ?_⟩) hHeld ?_ ?_
    rotate_left
    · intro w' hw_
      try dsimp only at hw_
      obtain ⟨y0, y1, y2, y3, y4, y5, y6, y7⟩ := hw_
      go_simp
      try with_reducible rfl
    rotate_left
    · simp (maxSteps := 4000000) only [Act.put, List.setIfInBounds_toArray, List.set_cons_zero, List.set_cons_succ, i64_w, i32_w]
      try rfl
    refine take_ (i := 8) (N := some 68) (v := ?_) (a' := ?_) #[true, true, true, false, true, true, false, true, true, false, false] rfl rfl (take_ofW HT_.out HW_.out (by kernel_rfl)) (fun _ _ _ h => h) (Or.inl ⟨by rfl, ?_⟩) hHeld ?_ ?_
    rotate_left
    · intro w' hw_
      try dsimp only at hw_
      obtain ⟨y0, y1, y2, y3, y4, y5, y6, y7⟩ := hw_
      go_simp
      try with_reducible rfl
    rotate_left
    · simp (maxSteps := 4000000) only [Act.put, List.setIfInBounds_toArray, List.set_cons_zero, List.set_cons_succ, i64_w, i32_w]
      try rfl
    refine one_ (i := 3) (N := some 63) #[true, true, true, true, true, true, false, true, true, false, false] rfl rfl (one_of HT_.out (by kernel_rfl)) (by decide) (fun K hK => ?_)
    refine goes_ Try.func21 (by kernel_rfl) rfl #[.pointer (some ⟨g, 0, none⟩), .int .i64 r.tamt] (by rfl) rfl rfl (by (try simp only [List.map_toArray, List.map_cons, List.map_nil]); first | done | rfl) ?_
    refine (wrF_sig base g (((fs ++ [.num r.tk 1]) ++ [.num (uN r.tsh) 4]) ++ [.num (uN r.tref) 4]) r.tamt w' HW.out (by have := HL.out; first | omega | (simp only [List.length_append, List.length_cons, List.length_nil]; omega))).mono ?_
    rintro e w' ⟨rfl, hw, hd, ht⟩
    refine ⟨_, rfl, ?_⟩
    replace HX := Lib.hid (show RpAt _ _ _ _ from ht.blk HX.out HNx.out (by decide))
    replace HY := Lib.hid (show TxB _ _ _ _ from ht.blk HY.out HNt.out (by decide))
    replace HW := Lib.hid hw
    replace HB := Lib.hid (HB.out.trans hd)
    clear hw hd ht
    refine hK.out _ _ (HY.out.cells) (fun hHeld => ?_)
    clear hK K
    refine norm_ (a' := ?_) ?_ ?_
    rotate_left
    · show Act.put _ (some 63) _ = _
      simp (maxSteps := 4000000) only [Act.put, List.setIfInBounds_toArray, List.set_cons_zero, List.set_cons_succ, i64_w, i32_w]
      try rfl
    refine one_ (i := 6) (N := some 66) #[true, true, true, true, true, true, true, true, true, false, false] rfl rfl (one_of HT_.out (by kernel_rfl)) (by decide) (fun K hK => ?_)
    refine goes_ Try.func21 (by kernel_rfl) rfl #[.pointer (some ⟨g, 0, none⟩), .int .i64 r.tleft] (by rfl) rfl rfl (by (try simp only [List.map_toArray, List.map_cons, List.map_nil]); first | done | rfl) ?_
    refine (wrF_sig base g ((((fs ++ [.num r.tk 1]) ++ [.num (uN r.tsh) 4]) ++ [.num (uN r.tref) 4]) ++ [.sig (uN r.tamt)]) r.tleft w' HW.out (by have := HL.out; first | omega | (simp only [List.length_append, List.length_cons, List.length_nil]; omega))).mono ?_
    rintro e w' ⟨rfl, hw, hd, ht⟩
    refine ⟨_, rfl, ?_⟩
    replace HX := Lib.hid (show RpAt _ _ _ _ from ht.blk HX.out HNx.out (by decide))
    replace HY := Lib.hid (show TxB _ _ _ _ from ht.blk HY.out HNt.out (by decide))
    replace HW := Lib.hid hw
    replace HB := Lib.hid (HB.out.trans hd)
    clear hw hd ht
    refine hK.out _ _ (HY.out.cells) (fun hHeld => ?_)
    clear hK K
    refine norm_ (a' := ?_) ?_ ?_
    rotate_left
    · show Act.put _ (some 66) _ = _
      simp (maxSteps := 4000000) only [Act.put, List.setIfInBounds_toArray, List.set_cons_zero, List.set_cons_succ, i64_w, i32_w]
      try rfl
    refine one_ (i := 9) (N := some 69) #[true, true, true, true, true, true, true, true, true, true, false] rfl rfl (one_of HT_.out (by kernel_rfl)) (by decide) (fun K hK => ?_)
    refine goes_ Try.func47 (by kernel_rfl) rfl #[.bool r.tvoid] (by rfl) rfl rfl (by (try simp only [List.map_toArray, List.map_cons, List.map_nil]); first | done | rfl) ?_
    refine (bit_ok r.tvoid w').mono ?_
    rintro e w' ⟨rfl, hd0⟩
    refine ⟨_, rfl, ?_⟩
    have hd := hd0.below
    replace HX := Lib.hid (show RpAt _ _ _ _ from blk_below HX.out hd)
    replace HY := Lib.hid (show TxB _ _ _ _ from blk_below HY.out hd)
    replace HB := Lib.hid (chainB HB.out HW.out.1 hd)
    replace HW := Lib.hid (HW.out.below hd)
    clear hd hd0
    refine hK.out _ _ (HY.out.cells) (fun hHeld => ?_)
    clear hK K
    refine norm_ (a' := ?_) ?_ ?_
    rotate_left
    · show Act.put _ (some 69) _ = _
      simp (maxSteps := 4000000) only [Act.put, List.setIfInBounds_toArray, List.set_cons_zero, List.set_cons_succ, i64_w, i32_w]
      try rfl
    refine one_ (i := 10) (N := some 70) #[true, true, true, true, true, true, true, true, true, true, true] rfl rfl (one_of HT_.out (by kernel_rfl)) (by decide) (fun K hK => ?_)
    refine goes_ Try.func18 (by kernel_rfl) rfl #[.pointer (some ⟨g, 0, none⟩), .int .u64 (bitN r.tvoid : Int), .int .i64 1] (by rfl) rfl rfl (by (try simp only [List.map_toArray, List.map_cons, List.map_nil]); first | done | rfl) ?_
    refine (wrF_num base g (((((fs ++ [.num r.tk 1]) ++ [.num (uN r.tsh) 4]) ++ [.num (uN r.tref) 4]) ++ [.sig (uN r.tamt)]) ++ [.sig (uN r.tleft)]) (bitN r.tvoid) 1 1 rfl w' HW.out (by have := HL.out; first | omega | (simp only [List.length_append, List.length_cons, List.length_nil]; omega)) (bitN_lt _) (by decide)).mono ?_
    rintro e w' ⟨rfl, hw, hd, ht⟩
    refine ⟨_, rfl, ?_⟩
    replace HX := Lib.hid (show RpAt _ _ _ _ from ht.blk HX.out HNx.out (by decide))
    replace HY := Lib.hid (show TxB _ _ _ _ from ht.blk HY.out HNt.out (by decide))
    replace HW := Lib.hid hw
    replace HB := Lib.hid (HB.out.trans hd)
    clear hw hd ht
    refine hK.out _ _ (HY.out.cells) (fun hHeld => ?_)
    clear hK K
    refine norm_ (a' := ?_) ?_ ?_
    rotate_left
    · show Act.put _ (some 70) _ = _
      simp (maxSteps := 4000000) only [Act.put, List.setIfInBounds_toArray, List.set_cons_zero, List.set_cons_succ, i64_w, i32_w]
      try rfl
    refine done_ (done_of HT_.out (by kernel_rfl)) ?_
    obtain ⟨y0, y1, y2, y3, y4, y5, y6, y7⟩ := HY.out.cells
    go_wp2_with fail
    clear y0 y1 y2 y3 y4 y5 y6 y7
    refine (wrF_lines xs HN.out (.slice va xs.length vc) base g _ w0 w' HRow.out (H0.out.trans (HB.out.mono Hb.out)) Hb.out HW.out (by have := HL.out; simp only [List.length_append, List.length_cons, List.length_nil]; omega)).mono ?_
    rintro e w9 ⟨rfl, hw, hd, ht⟩
    replace HW := Lib.hid hw; clear hw
    replace HB := Lib.hid (HB.out.trans hd); clear hd ht
    go_wp2
    go_end0
    have hw := HW.out
    try simp only [List.append_assoc] at hw
    exact ⟨by rfl, by rw [← HF.out]; exact hw, HB.out⟩
  · skip
    rw [show decide (1 ≤ 12 ∧ 12 ≤ 9) = false from rfl]
    obtain ⟨z0, z1, z2, z3, z4, z5, z6, z7, z8, z9, z10, z11, z12, z13, z14, z15, z16, z17, z18⟩ := HX.out.cells
    go_wp2_with fail
    clear z0 z1 z2 z3 z4 z5 z6 z7 z8 z9 z10 z11 z12 z13 z14 z15 z16 z17 z18
    refine (rep_totals base g fs r w3 HW.out (by have := HL.out; omega)).mono ?_
    rintro e w5 ⟨rfl, hw, hd, ht⟩
    replace HX := Lib.hid (show RpAt _ _ _ _ from ht.blk HX.out HNx.out (by decide))
    replace HY := Lib.hid (show TxB _ _ _ _ from ht.blk HY.out HNt.out (by decide))
    replace HW := Lib.hid hw
    replace HB := Lib.hid (HB.out.trans hd)
    clear hw hd ht
    go_wp2
    go_end0
    exact ⟨by rfl, by rw [← HF.out]; show WrF _ _ _ (fs ++ (totF r ++ [])); rw [List.append_nil]; exact HW.out, HB.out⟩
  · skip
    rw [show decide (1 ≤ 13 ∧ 13 ≤ 9) = false from rfl]
    go_upto_region 16 with (fail)
    have hS := HX.out.am
    replace HX := Lib.hid (show RpAt w3.drew _ _ _ from HX.out)
    replace HY := Lib.hid (show TxB w3.drew _ _ _ from HY.out)
    replace HW := Lib.hid (show WrF w3.drew _ _ _ from HW.out)
    replace HB := Lib.hid (below_drew1 HB.out)
    refine start_ (n := 9) (S := fun w' => w'.cell? ⟨bx, 16, none⟩ = some (.int .i64 r.a0) ∧ w'.cell? ⟨bx, 17, none⟩ = some (.int .i64 r.a1)) (ds := []) #[false, false, false, false, false, false, false, false, false] (by kernel_rfl) rfl rfl hS (fun hHeld => ?_)
    refine with_tabW rg34_16.tab rg34_16.bits (fun HT_ HW_ => ?_)
    generalize w3.drew = w' at HX HY HW HB hS hHeld ⊢
    refine pure_ (i := 0) (N := some 85) (v := ?_) (a' := ?_) #[true, false, false, false, false, false, false, false, false] rfl rfl (any_of HT_.out (by kernel_rfl)) (fun _ _ _ h => h) (Or.inl ⟨by rfl, ?_⟩) ?_ ?_
    rotate_left
    · intro w'
      go_simp
      try with_reducible rfl
    rotate_left
    · simp (maxSteps := 4000000) only [Act.put, List.setIfInBounds_toArray, List.set_cons_zero, List.set_cons_succ, i64_w, i32_w]
      try rfl
    refine pure_ (i := 1) (N := some 86) (v := ?_) (a' := ?_) #[true, true, false, false, false, false, false, false, false] rfl rfl (any_of HT_.out (by kernel_rfl)) (fun _ _ _ h => h) (Or.inl ⟨by rfl, ?_⟩) ?_ ?_
    rotate_left
    · intro w'
      go_simp
      try with_reducible rfl
    rotate_left
    · simp (maxSteps := 4000000) only [Act.put, List.setIfInBounds_toArray, List.set_cons_zero, List.set_cons_succ, i64_w, i32_w]
      try rfl
    refine pure_ (i := 2) (N := some 87) (v := ?_) (a' := ?_) #[true, true, true, false, false, false, false, false, false] rfl rfl (any_of HT_.out (by kernel_rfl)) (fun _ _ _ h => h) (Or.inl ⟨by rfl, ?_⟩) ?_ ?_
    rotate_left
    · intro w'
      go_simp
      try with_reducible rfl
    rotate_left
    · simp (maxSteps := 4000000) only [Act.put, List.setIfInBounds_toArray, List.set_cons_zero, List.set_cons_succ, i64_w, i32_w]
      try rfl
    refine pure_ (i := 5) (N := some 90) (v := ?_) (a' := ?_) #[true, true, true, false, false, true, false, false, false] rfl rfl (any_of HT_.out (by kernel_rfl)) (fun _ _ _ h => h) (Or.inl ⟨by rfl, ?_⟩) ?_ ?_
    rotate_left
    · intro w'
      go_simp
      try with_reducible rfl
    rotate_left
    · simp (maxSteps := 4000000) only [Act.put, List.setIfInBounds_toArray, List.set_cons_zero, List.set_cons_succ, i64_w, i32_w]
      try rfl
    refine pure_ (i := 6) (N := some 91) (v := ?_) (a' := ?_) #[true, true, true, false, false, true, true, false, false] rfl rfl (any_of HT_.out (by kernel_rfl)) (fun _ _ _ h => h) (Or.inl ⟨by rfl, ?_⟩) ?_ ?_
    rotate_left
    · intro w'
      go_simp
      try with_reducible rfl
    rotate_left
    · simp (maxSteps := 4000000) only [Act.put, List.setIfInBounds_toArray, List.set_cons_zero, List.set_cons_succ, i64_w, i32_w]
      try rfl
    refine take_ (i := 3) (N := some 88) (v := ?_) (a' := ?_) #[true, true, true, true, false, true, true, false, false] rfl rfl (take_ofW HT_.out HW_.out (by kernel_rfl)) (fun _ _ _ h => h) (Or.inl ⟨by rfl, ?_⟩) hHeld ?_ ?_
    rotate_left
    · intro w' hw_
      try dsimp only at hw_
      obtain ⟨x0, x1⟩ := hw_
      go_simp
      try with_reducible rfl
    rotate_left
    · simp (maxSteps := 4000000) only [Act.put, List.setIfInBounds_toArray, List.set_cons_zero, List.set_cons_succ, i64_w, i32_w]
      try rfl
    refine take_ (i := 7) (N := some 92) (v := ?_) (a' := ?_) #[true, true, true, true, false, true, true, true, false] rfl rfl (take_ofW HT_.out HW_.out (by kernel_rfl)) (fun _ _ _ h => h) (Or.inl ⟨by rfl, ?_⟩) hHeld ?_ ?_
    rotate_left
    · intro w' hw_
      try dsimp only at hw_
      obtain ⟨x0, x1⟩ := hw_
      go_simp
      try with_reducible rfl
    rotate_left
    · simp (maxSteps := 4000000) only [Act.put, List.setIfInBounds_toArray, List.set_cons_zero, List.set_cons_succ, i64_w, i32_w]
      try rfl
    refine one_ (i := 4) (N := some 89) #[true, true, true, true, true, true, true, true, false] rfl rfl (one_of HT_.out (by kernel_rfl)) (by decide) (fun K hK => ?_)
    refine goes_ Try.func21 (by kernel_rfl) rfl #[.pointer (some ⟨g, 0, none⟩), .int .i64 r.a0] (by rfl) rfl rfl (by (try simp only [List.map_toArray, List.map_cons, List.map_nil]); first | done | rfl) ?_
    refine (wrF_sig base g fs r.a0 w' HW.out (by have := HL.out; first | omega | (simp only [List.length_append, List.length_cons, List.length_nil]; omega))).mono ?_
    rintro e w' ⟨rfl, hw, hd, ht⟩
    refine ⟨_, rfl, ?_⟩
    replace HX := Lib.hid (show RpAt _ _ _ _ from ht.blk HX.out HNx.out (by decide))
    replace HY := Lib.hid (show TxB _ _ _ _ from ht.blk HY.out HNt.out (by decide))
    replace HW := Lib.hid hw
    replace HB := Lib.hid (HB.out.trans hd)
    clear hw hd ht
    refine hK.out _ _ (HX.out.am) (fun hHeld => ?_)
    clear hK K
    refine norm_ (a' := ?_) ?_ ?_
    rotate_left
    · show Act.put _ (some 89) _ = _
      simp (maxSteps := 4000000) only [Act.put, List.setIfInBounds_toArray, List.set_cons_zero, List.set_cons_succ, i64_w, i32_w]
      try rfl
    refine one_ (i := 8) (N := some 93) #[true, true, true, true, true, true, true, true, true] rfl rfl (one_of HT_.out (by kernel_rfl)) (by decide) (fun K hK => ?_)
    refine goes_ Try.func21 (by kernel_rfl) rfl #[.pointer (some ⟨g, 0, none⟩), .int .i64 r.a1] (by rfl) rfl rfl (by (try simp only [List.map_toArray, List.map_cons, List.map_nil]); first | done | rfl) ?_
    refine (wrF_sig base g (fs ++ [.sig (uN r.a0)]) r.a1 w' HW.out (by have := HL.out; first | omega | (simp only [List.length_append, List.length_cons, List.length_nil]; omega))).mono ?_
    rintro e w' ⟨rfl, hw, hd, ht⟩
    refine ⟨_, rfl, ?_⟩
    replace HX := Lib.hid (show RpAt _ _ _ _ from ht.blk HX.out HNx.out (by decide))
    replace HY := Lib.hid (show TxB _ _ _ _ from ht.blk HY.out HNt.out (by decide))
    replace HW := Lib.hid hw
    replace HB := Lib.hid (HB.out.trans hd)
    clear hw hd ht
    refine hK.out _ _ (HX.out.am) (fun hHeld => ?_)
    clear hK K
    refine norm_ (a' := ?_) ?_ ?_
    rotate_left
    · show Act.put _ (some 93) _ = _
      simp (maxSteps := 4000000) only [Act.put, List.setIfInBounds_toArray, List.set_cons_zero, List.set_cons_succ, i64_w, i32_w]
      try rfl
    refine done_ (done_of HT_.out (by kernel_rfl)) ?_
    go_wp2
    go_end0
    have hw := HW.out
    try simp only [List.append_assoc] at hw
    exact ⟨by rfl, by rw [← HF.out]; exact hw, HB.out⟩
  · skip
    rw [show decide (1 ≤ 14 ∧ 14 ≤ 9) = false from rfl]
    have c1 : IntKind.u64.wrap r.num = (uN r.num : Int) := uN_wrap _
    have c2 : IntKind.u64.wrap r.tn = (uN r.tn : Int) := uN_wrap _
    go_upto_region 2 with (fail)
    have hS := And.intro HX.out.nr HY.out.cells.1
    replace HX := Lib.hid (show RpAt w3.drew _ _ _ from HX.out)
    replace HY := Lib.hid (show TxB w3.drew _ _ _ from HY.out)
    replace HW := Lib.hid (show WrF w3.drew _ _ _ from HW.out)
    replace HB := Lib.hid (below_drew1 HB.out)
    refine start_ (n := 13) (S := fun w' => (w'.cell? ⟨bx, 1, none⟩ = some (.int .i64 r.num) ∧ w'.cell? ⟨bx, 18, none⟩ = some (.bool r.rd)) ∧ w'.cell? ⟨bt, 0, none⟩ = some (.int .i64 r.tn)) (ds := []) #[false, false, false, false, false, false, false, false, false, false, false, false, false] (by kernel_rfl) rfl rfl hS (fun hHeld => ?_)
    refine with_tabW rg34_2.tab rg34_2.bits (fun HT_ HW_ => ?_)
    generalize w3.drew = w' at HX HY HW HB hS hHeld ⊢
    refine pure_ (i := 0) (N := some 9) (v := ?_) (a' := ?_) #[true, false, false, false, false, false, false, false, false, false, false, false, false] rfl rfl (any_of HT_.out (by kernel_rfl)) (fun _ _ _ h => h) (Or.inl ⟨by rfl, ?_⟩) ?_ ?_
    rotate_left
    · intro w'
      go_simp
      try with_reducible rfl
    rotate_left
    · simp (maxSteps := 4000000) only [Act.put, List.setIfInBounds_toArray, List.set_cons_zero, List.set_cons_succ, i64_w, i32_w]
      try rfl
    refine pure_ (i := 1) (N := some 10) (v := ?_) (a' := ?_) #[true, true, false, false, false, false, false, false, false, false, false, false, false] rfl rfl (any_of HT_.out (by kernel_rfl)) (fun _ _ _ h => h) (Or.inl ⟨by rfl, ?_⟩) ?_ ?_
    rotate_left
    · intro w'
      go_simp
      try with_reducible rfl
    rotate_left
    · simp (maxSteps := 4000000) only [Act.put, List.setIfInBounds_toArray, List.set_cons_zero, List.set_cons_succ, i64_w, i32_w]
      try rfl
    refine pure_ (i := 5) (N := some 14) (v := ?_) (a' := ?_) #[true, true, false, false, false, true, false, false, false, false, false, false, false] rfl rfl (any_of HT_.out (by kernel_rfl)) (fun _ _ _ h => h) (Or.inl ⟨by rfl, ?_⟩) ?_ ?_
    rotate_left
    · intro w'
      go_simp
      try with_reducible rfl
    rotate_left
    · simp (maxSteps := 4000000) only [Act.put, List.setIfInBounds_toArray, List.set_cons_zero, List.set_cons_succ, i64_w, i32_w]
      try rfl
    refine pure_ (i := 9) (N := some 18) (v := ?_) (a' := ?_) #[true, true, false, false, false, true, false, false, false, true, false, false, false] rfl rfl (any_of HT_.out (by kernel_rfl)) (fun _ _ _ h => h) (Or.inl ⟨by rfl, ?_⟩) ?_ ?_
    rotate_left
    · intro w'
      go_simp
      try with_reducible rfl
    rotate_left
    · simp (maxSteps := 4000000) only [Act.put, List.setIfInBounds_toArray, List.set_cons_zero, List.set_cons_succ, i64_w, i32_w]
      try rfl
    refine take_ (i := 2) (N := some 11) (v := ?_) (a' := ?_) #[true, true, true, false, false, true, false, false, false, true, false, false, false] rfl rfl (take_ofW HT_.out HW_.out (by kernel_rfl)) (fun _ _ _ h => h) (Or.inl ⟨by rfl, ?_⟩) hHeld ?_ ?_
    rotate_left
    · intro w' hw_
      try dsimp only at hw_
      obtain ⟨⟨x0, x1⟩, x2⟩ := hw_
      go_simp
      try with_reducible rfl
    rotate_left
    · simp (maxSteps := 4000000) only [Act.put, List.setIfInBounds_toArray, List.set_cons_zero, List.set_cons_succ, i64_w, i32_w]
      try rfl
    refine pure_ (i := 3) (N := some 12) (v := ?_) (a' := ?_) #[true, true, true, true, false, true, false, false, false, true, false, false, false] rfl rfl (any_of HT_.out (by kernel_rfl)) (fun _ _ _ h => h) (Or.inl ⟨by rfl, ?_⟩) ?_ ?_
    rotate_left
    · intro w'
      go_simp
      try with_reducible rfl
    rotate_left
    · simp (maxSteps := 4000000) only [Act.put, List.setIfInBounds_toArray, List.set_cons_zero, List.set_cons_succ, i64_w, i32_w]
      try rfl
    refine take_ (i := 6) (N := some 15) (v := ?_) (a' := ?_) #[true, true, true, true, false, true, true, false, false, true, false, false, false] rfl rfl (take_ofW HT_.out HW_.out (by kernel_rfl)) (fun _ _ _ h => h) (Or.inl ⟨by rfl, ?_⟩) hHeld ?_ ?_
    rotate_left
    · intro w' hw_
      try dsimp only at hw_
      obtain ⟨⟨x0, x1⟩, x2⟩ := hw_
      go_simp
      try with_reducible rfl
    rotate_left
    · simp (maxSteps := 4000000) only [Act.put, List.setIfInBounds_toArray, List.set_cons_zero, List.set_cons_succ, i64_w, i32_w]
      try rfl
    refine pure_ (i := 7) (N := some 16) (v := ?_) (a' := ?_) #[true, true, true, true, false, true, true, true, false, true, false, false, false] rfl rfl (any_of HT_.out (by kernel_rfl)) (fun _ _ _ h => h) (Or.inl ⟨by rfl, ?_⟩) ?_ ?_
    rotate_left
    · intro w'
      go_simp
      try with_reducible rfl
    rotate_left
    · simp (maxSteps := 4000000) only [Act.put, List.setIfInBounds_toArray, List.set_cons_zero, List.set_cons_succ, i64_w, i32_w]
      try rfl
    refine take_ (i := 10) (N := some 19) (v := ?_) (a' := ?_) #[true, true, true, true, false, true, true, true, false, true, true, false, false] rfl rfl (take_ofW HT_.out HW_.out (by kernel_rfl)) (fun _ _ _ h => h) (Or.inl ⟨by rfl, ?_⟩) hHeld ?_ ?_
    rotate_left
    · intro w' hw_
      try dsimp only at hw_
      obtain ⟨⟨x0, x1⟩, x2⟩ := hw_
      go_simp
      try with_reducible rfl
    rotate_left
    · simp (maxSteps := 4000000) only [Act.put, List.setIfInBounds_toArray, List.set_cons_zero, List.set_cons_succ, i64_w, i32_w]
      try rfl
    refine one_ (i := 4) (N := some 13) #[true, true, true, true, true, true, true, true, false, true, true, false, false] rfl rfl (one_of HT_.out (by kernel_rfl)) (by decide) (fun K hK => ?_)
    refine goes_ Try.func18 (by kernel_rfl) rfl #[.pointer (some ⟨g, 0, none⟩), .int .u64 (uN r.num : Int), .int .i64 4] (by rfl) rfl rfl (by (try simp only [List.map_toArray, List.map_cons, List.map_nil]); first | done | rfl) ?_
    refine (wrF_num base g fs (uN r.num) 4 4 rfl w' HW.out (by have := HL.out; first | omega | (simp only [List.length_append, List.length_cons, List.length_nil]; omega)) (uN_lt _) (by decide)).mono ?_
    rintro e w' ⟨rfl, hw, hd, ht⟩
    refine ⟨_, rfl, ?_⟩
    replace HX := Lib.hid (show RpAt _ _ _ _ from ht.blk HX.out HNx.out (by decide))
    replace HY := Lib.hid (show TxB _ _ _ _ from ht.blk HY.out HNt.out (by decide))
    replace HW := Lib.hid hw
    replace HB := Lib.hid (HB.out.trans hd)
    clear hw hd ht
    refine hK.out _ _ (And.intro HX.out.nr HY.out.cells.1) (fun hHeld => ?_)
    clear hK K
    refine norm_ (a' := ?_) ?_ ?_
    rotate_left
    · show Act.put _ (some 13) _ = _
      simp (maxSteps := 4000000) only [Act.put, List.setIfInBounds_toArray, List.set_cons_zero, List.set_cons_succ, i64_w, i32_w]
      try rfl
    refine one_ (i := 8) (N := some 17) #[true, true, true, true, true, true, true, true, true, true, true, false, false] rfl rfl (one_of HT_.out (by kernel_rfl)) (by decide) (fun K hK => ?_)
    refine goes_ Try.func18 (by kernel_rfl) rfl #[.pointer (some ⟨g, 0, none⟩), .int .u64 (uN r.tn : Int), .int .i64 5] (by rfl) rfl rfl (by (try simp only [List.map_toArray, List.map_cons, List.map_nil]); first | done | rfl) ?_
    refine (wrF_num base g (fs ++ [.num (uN r.num) 4]) (uN r.tn) 5 5 rfl w' HW.out (by have := HL.out; first | omega | (simp only [List.length_append, List.length_cons, List.length_nil]; omega)) (uN_lt _) (by decide)).mono ?_
    rintro e w' ⟨rfl, hw, hd, ht⟩
    refine ⟨_, rfl, ?_⟩
    replace HX := Lib.hid (show RpAt _ _ _ _ from ht.blk HX.out HNx.out (by decide))
    replace HY := Lib.hid (show TxB _ _ _ _ from ht.blk HY.out HNt.out (by decide))
    replace HW := Lib.hid hw
    replace HB := Lib.hid (HB.out.trans hd)
    clear hw hd ht
    refine hK.out _ _ (And.intro HX.out.nr HY.out.cells.1) (fun hHeld => ?_)
    clear hK K
    refine norm_ (a' := ?_) ?_ ?_
    rotate_left
    · show Act.put _ (some 17) _ = _
      simp (maxSteps := 4000000) only [Act.put, List.setIfInBounds_toArray, List.set_cons_zero, List.set_cons_succ, i64_w, i32_w]
      try rfl
    refine one_ (i := 11) (N := some 20) #[true, true, true, true, true, true, true, true, true, true, true, true, false] rfl rfl (one_of HT_.out (by kernel_rfl)) (by decide) (fun K hK => ?_)
    refine goes_ Try.func47 (by kernel_rfl) rfl #[.bool r.rd] (by rfl) rfl rfl (by (try simp only [List.map_toArray, List.map_cons, List.map_nil]); first | done | rfl) ?_
    refine (bit_ok r.rd w').mono ?_
    rintro e w' ⟨rfl, hd0⟩
    refine ⟨_, rfl, ?_⟩
    have hd := hd0.below
    replace HX := Lib.hid (show RpAt _ _ _ _ from blk_below HX.out hd)
    replace HY := Lib.hid (show TxB _ _ _ _ from blk_below HY.out hd)
    replace HB := Lib.hid (chainB HB.out HW.out.1 hd)
    replace HW := Lib.hid (HW.out.below hd)
    clear hd hd0
    refine hK.out _ _ (And.intro HX.out.nr HY.out.cells.1) (fun hHeld => ?_)
    clear hK K
    refine norm_ (a' := ?_) ?_ ?_
    rotate_left
    · show Act.put _ (some 20) _ = _
      simp (maxSteps := 4000000) only [Act.put, List.setIfInBounds_toArray, List.set_cons_zero, List.set_cons_succ, i64_w, i32_w]
      try rfl
    refine one_ (i := 12) (N := some 21) #[true, true, true, true, true, true, true, true, true, true, true, true, true] rfl rfl (one_of HT_.out (by kernel_rfl)) (by decide) (fun K hK => ?_)
    refine goes_ Try.func18 (by kernel_rfl) rfl #[.pointer (some ⟨g, 0, none⟩), .int .u64 (bitN r.rd : Int), .int .i64 1] (by rfl) rfl rfl (by (try simp only [List.map_toArray, List.map_cons, List.map_nil]); first | done | rfl) ?_
    refine (wrF_num base g (fs ++ [.num (uN r.num) 4] ++ [.num (uN r.tn) 5]) (bitN r.rd) 1 1 rfl w' HW.out (by have := HL.out; first | omega | (simp only [List.length_append, List.length_cons, List.length_nil]; omega)) (bitN_lt _) (by decide)).mono ?_
    rintro e w' ⟨rfl, hw, hd, ht⟩
    refine ⟨_, rfl, ?_⟩
    replace HX := Lib.hid (show RpAt _ _ _ _ from ht.blk HX.out HNx.out (by decide))
    replace HY := Lib.hid (show TxB _ _ _ _ from ht.blk HY.out HNt.out (by decide))
    replace HW := Lib.hid hw
    replace HB := Lib.hid (HB.out.trans hd)
    clear hw hd ht
    refine hK.out _ _ (And.intro HX.out.nr HY.out.cells.1) (fun hHeld => ?_)
    clear hK K
    refine norm_ (a' := ?_) ?_ ?_
    rotate_left
    · show Act.put _ (some 21) _ = _
      simp (maxSteps := 4000000) only [Act.put, List.setIfInBounds_toArray, List.set_cons_zero, List.set_cons_succ, i64_w, i32_w]
      try rfl
    refine done_ (done_of HT_.out (by kernel_rfl)) ?_
    clear c1 c2
    go_wp2
    go_end0
    have hw := HW.out
    try simp only [List.append_assoc] at hw
    exact ⟨by rfl, by rw [← HF.out]; exact hw, HB.out⟩
set_option maxHeartbeats 8000000 in
set_option maxRecDepth 8000 in
theorem rep_encode (k : Nat) (hk8 : k < 256) (r : RP) (htk : r.tk < 256) (xs : List Ln) (hx : xs.length ≤ 100) (v : Value) (w : World) (hr : RowS encL w v xs) :
    Calls Try.prog 15 #[.agg (rpC r v), .int .u8 (k : Int)] w fun x w' => x = .returned (.string (repV k r xs)) ∧ Below w.heap.size w w' := by
  have HRow := Lib.hid hr; clear hr
  have HN := Lib.hid hx; clear hx
  have HTk := Lib.hid htk; clear htk
  generalize hV : repV k r xs = V
  have HV := Lib.hid hV; clear hV
  unfold repV at HV
  have ha := below_alloc (Below.refl w.heap.size w) (.cells (rpC r v) 71)
  have HX := Lib.hid (show RpAt _ w.heap.size r v from heap_alloc_new w (.cells (rpC r v) 71))
  have HB := Lib.hid ha; clear ha
  have HSz := Lib.hid (show (Try.prog.info? 71).map (·.size) = some (rpC r v).size from rp_size)
  generalize hC : rpC r v = C at HX HB HSz
  have HC := Lib.hid hC; clear hC
  go_enter Try.func15, Try.ntmps15
  go_wp2_with fail
  generalize w.alloc (.cells C 71) = w1 at HX HB ⊢
  generalize hbx : w.heap.size = bx at HX ⊢
  have Hbx := Lib.hid hbx; clear hbx
  refine (is_ok k w1).mono ?_
  rintro e w2 ⟨rfl, hd⟩
  replace hd := hd.below
  replace HX := Lib.hid (show RpAt _ _ _ _ from blk_below HX.out hd)
  replace HB := Lib.hid (chain2 HB.out hd); clear hd
  by_cases hk : isK k
  · rw [decide_eq_true hk]
    have hV := HV.out
    rw [if_pos hk] at hV
    replace HV := Lib.hid hV; clear hV
    have HW := Lib.hid (WrF.new w2)
    have hd := below_alloc (Below.refl w2.heap.size w2) (.cells #[.slice none 0 0, .bool false] 84)
    have HB2 := Lib.hid hd
    have HXlt := Lib.hid (blk_lt HX.out)
    replace HX := Lib.hid (show RpAt _ _ _ _ from blk_below HX.out hd); clear hd
    have HBs := Lib.hid HB.out.size
    have x0 := HX.out.cells.1
    have c1 : IntKind.u64.wrap r.err = (uN r.err : Int) := uN_wrap _
    go_wp2_with fail
    clear x0 c1
    generalize w2.alloc (.cells #[.slice none 0 0, .bool false] 84) = w3 at HW HB2 HX ⊢
    have HNe := Lib.hid (show (some w2.heap.size : Option Nat) ≠ some bx from fun e => by have h1 := HXlt.out; have h2 := Option.some.inj e; omega)
    generalize w2.heap.size = g at HW HB2 HBs HNe ⊢
    refine (wrF_num g g [] (uN r.err) 1 1 rfl w3 HW.out (by decide) (uN_lt _) (by decide)).mono ?_
    rintro e w4 ⟨rfl, hw, hd, ht⟩
    rw [List.nil_append] at hw
    replace HX := Lib.hid (show RpAt _ _ _ _ from ht.blk HX.out HNe.out (by decide))
    replace HW := Lib.hid hw; clear hw
    replace HB2 := Lib.hid (HB2.out.trans hd); clear hd ht
    have x0 := HX.out.cells.1
    go_upto_if 17 with (fail)
    clear x0
    generalize hz : (r.err == 0) = bz
    have HZ0 := Lib.hid hz; clear hz
    go_cut [17] from 18 to 20 (fun _ wx => WrF wx g g (repF k r xs) ∧ Below g w2 wx)
    case first =>
      cases bz with
      | true =>
        have hrow := HX.out
        unfold RpAt at hrow
        rw [HC.out] at hrow
        go_wp2_with (refine wpList_load_row rfl 71 (.tmp 2) rfl bx rfl _ hrow Try.underlying71 HSz.out ?_)
        have hcon := rep_write k hk g g _ r HTk.out xs HN.out v w w4 HRow.out (HB.out.trans (HB2.out.mono HBs.out)) HBs.out HW.out (by simp)
        rw [HC.out] at hcon
        refine hcon.mono ?_
        rintro e w5 ⟨rfl, hw, hd⟩
        replace HW := Lib.hid hw; clear hw
        replace HB2 := Lib.hid (HB2.out.trans hd); clear hd
        go_wp2_with fail
        go_meet
        case rel => exact ⟨by unfold repF; rw [if_pos (beq_iff_eq.1 HZ0.out)]; exact HW.out, HB2.out⟩
      | false =>
        go_wp2_with fail
        go_meet
        case rel => exact ⟨by unfold repF; rw [if_neg (beq_eq_false_iff_ne.1 HZ0.out)]; exact HW.out, HB2.out⟩
    case rest =>
      obtain ⟨hw, hd⟩ := hcut
      have HW2 := Lib.hid hw; clear hw
      replace HB := Lib.hid (HB.out.trans (hd.mono HBs.out)); clear hd
      generalize repF k r xs = F at HW2 HV
      go_wp2_with fail
      refine (wrF_bytes g g F wc HW2.out).mono ?_
      rintro e w7 ⟨rfl, hd⟩
      replace HB := Lib.hid (chain2 HB.out hd); clear hd
      have hV := HV.out
      cases ho : flOk F with
      | true =>
        rw [ho, if_pos rfl] at hV
        subst hV
        rw [if_pos rfl, if_pos rfl]
        go_wp2
        go_ret
        exact ⟨rfl, HB.out⟩
      | false =>
        rw [ho, if_neg (by decide)] at hV
        subst hV
        rw [if_neg (by decide), if_neg (by decide)]
        go_wp2
        go_ret
        exact ⟨rfl, HB.out⟩
  · rw [decide_eq_false hk]
    have hV := HV.out
    rw [if_neg hk] at hV
    subst hV
    go_wp2
    go_ret
    exact ⟨rfl, HB.out⟩
end Go.Proofs.Ytepgdjkmobngcaa

/-! req: what is read of a reply: a flag, totals. No conditions beyond those that are written. -/
namespace Go.Proofs.Ytepgdjkmobngcaa
open Go.RowKit Go.Lib Go.Proofs.Ytepgdjkmobngcaa.P Go.Proofs.Ytepgdjkmobngcaa.BeS Go.Proofs.YtepgdjkmobngcaaW.PrintWords Go.Proofs.YtepgdjkmobngcaaW.PrintLast Go.Proofs.YtepgdjkmobngcaaW.PrintMore
set_option linter.unusedVariables false
set_option linter.unusedSimpArgs false
--@tables
set_option maxHeartbeats 4000000 in
theorem flag_ok (g : Nat) (r : RdS) (w : World) (h : RdO w (some g) r) :
    Calls Try.prog 49 #[.pointer (some ⟨g, 0, none⟩)] w fun x w' => x = .returned (.tuple #[.bool (rdN r 1 == 1), .bool (decide (rdN r 1 ≤ 1))]) ∧ RdO w' (some g) (tkR r 1) ∧ w.grownBy w' (some g) := by
  have HR := Lib.hid h; clear h
  go_enter Try.func49, Try.ntmps49
  go_wp2_with fail
  refine (rd_numberP (some g) (.pointer (some ⟨g, 0, none⟩)) rfl r 1 w HR.out (by decide) (by decide)).mono ?_
  rintro e w1 ⟨rfl, hr, hg⟩
  rw [show numW 1 = 1 from rfl] at hr
  replace HR := Lib.hid hr; clear hr
  have HG := Lib.hid hg; clear hg
  have HA := Lib.hid (show (((rdN r 1 : Nat) : Int) == 1) = (rdN r 1 == 1) by
    by_cases h : rdN r 1 = 1
    · rw [h]; rfl
    · rw [beq_eq_false_iff_ne.2 h]; exact beq_eq_false_iff_ne.2 (by omega))
  have HB := Lib.hid (show decide (((rdN r 1 : Nat) : Int) ≤ 1) = decide (rdN r 1 ≤ 1) by rw [decide_eq_decide]; omega)
  generalize hn : rdN r 1 = n at HA HB ⊢
  have HN := Lib.hid hn; clear hn
  go_wp2
  go_ret2
  refine ⟨?_, HR.out, HG.out⟩
  rw [HN.out]
  first
  | rfl
  | (rw [HA.out, HB.out]; done)
  | (rw [← HA.out, ← HB.out]; done)
  | (congr 2 <;> simp [← HA.out, ← HB.out])
/-- What is left behind so many signed numbers, and the next one. -/
def stp : Nat → RdS → RdS
  | 0, r => r
  | i + 1, r => tkR (stp i r) 8
def sgV (i : Nat) (r : RdS) : Int := wrap64 (rdN (stp i r) 8 : Int)
def totC (c : Int) (r : RdS) (j : Nat) : Array Value := #[.int .i64 c, .int .i64 (if 0 < j then sgV 0 r else 0), .int .i64 (if 1 < j then sgV 1 r else 0), .int .i64 (if 2 < j then sgV 2 r else 0), .int .i64 (if 3 < j then sgV 3 r else 0), .int .i64 (if 4 < j then sgV 4 r else 0)]
theorem totC_set (c : Int) (r : RdS) (j : Nat) (hj : j < 5) : (totC c r j).setIfInBounds (j + 1) (.int .i64 (sgV j r)) = totC c r (j + 1) := by
  have h : j = 0 ∨ j = 1 ∨ j = 2 ∨ j = 3 ∨ j = 4 := by omega
  rcases h with rfl | rfl | rfl | rfl | rfl <;> simp [totC]
theorem tot_size : (Try.prog.info? 65).map (·.size) = some 6 := by kernel_rfl
theorem totC_size (c : Int) (r : RdS) (j : Nat) : (totC c r j).size = 6 := by simp [totC]
theorem totC_one (c : Int) (r : RdS) (j : Nat) : (totC c r j).all (·.oneCell') = true := by simp [totC, Value.oneCell']
theorem totC_info (c : Int) (r : RdS) (j : Nat) : (Try.prog.info? 65).map (·.size) = some (totC c r j).size := by rw [totC_size]; exact tot_size
theorem zero6_size (c : Int) (r : RdS) (j : Nat) : (#[Value.int .i64 0, .int .i64 0, .int .i64 0, .int .i64 0, .int .i64 0, .int .i64 0] : Array Value).size = (totC c r j).size := by rw [totC_size]; simp
theorem ptr_at {w : World} {ba b : Nat} {T : TypeId} (h : w.heap[ba]? = some (.cells #[.pointer (some ⟨b, 1, none⟩), .pointer (some ⟨b, 2, none⟩), .pointer (some ⟨b, 3, none⟩), .pointer (some ⟨b, 4, none⟩), .pointer (some ⟨b, 5, none⟩)] T (0, 0))) (j : Nat) (hj : j < 5) : w.cell? ⟨ba, j, none⟩ = some (.pointer (some ⟨b, j + 1, none⟩)) := by
  unfold World.cell?
  rw [h]
  have h : j = 0 ∨ j = 1 ∨ j = 2 ∨ j = 3 ∨ j = 4 := by omega
  rcases h with rfl | rfl | rfl | rfl | rfl <;> rfl
theorem totC_cell {w : World} {b : Nat} {c : Int} {r : RdS} {T : TypeId} {n : Nat} (h : w.heap[b]? = some (.cells (totC c r n) T (0, 0))) (j : Nat) (hj : j < 5) : w.frozen? ⟨b, j + 1, none⟩ = false ∧ ∃ v, w.cell? ⟨b, j + 1, none⟩ = some v := by
  unfold World.cell? World.frozen?
  rw [h]
  have h : j = 0 ∨ j = 1 ∨ j = 2 ∨ j = 3 ∨ j = 4 := by omega
  rcases h with rfl | rfl | rfl | rfl | rfl <;> exact ⟨rfl, _, rfl⟩
set_option maxHeartbeats 8000000 in
set_option maxRecDepth 8000 in
theorem read_totals (g : Nat) (r : RdS) (w : World) (h : RdO w (some g) r) :
    Calls Try.prog 48 #[.pointer (some ⟨g, 0, none⟩)] w fun x w' => x = .returned (.agg (totC (rdN r 4 : Int) (tkR r 4) 5)) ∧ RdO w' (some g) (stp 5 (tkR r 4)) ∧ w.grownBy w' (some g) := by
  have ha := below_alloc (Below.refl w.heap.size w) (.cells #[.int .i64 0, .int .i64 0, .int .i64 0, .int .i64 0, .int .i64 0, .int .i64 0] 65)
  have HZ := Lib.hid (heap_alloc_new w (.cells #[.int .i64 0, .int .i64 0, .int .i64 0, .int .i64 0, .int .i64 0, .int .i64 0] 65))
  have HNz := Lib.hid (show w.heap.size ≠ g from fun e => by have := h.lt g rfl; omega)
  have HR := Lib.hid (h.below ha)
  have HG := Lib.hid (grown_of_below ha (some g)); clear ha h
  go_enter Try.func48, Try.ntmps48
  go_wp2_with fail
  generalize w.alloc (.cells #[.int .i64 0, .int .i64 0, .int .i64 0, .int .i64 0, .int .i64 0, .int .i64 0] 65) = w1 at HZ HR HG ⊢
  generalize hbz : w.heap.size = bz at HZ HNz ⊢
  have HBz := Lib.hid hbz; clear hbz
  refine (rd_numberP (some g) (.pointer (some ⟨g, 0, none⟩)) rfl r 4 w1 HR.out (by decide) (by decide)).mono ?_
  rintro e w2 ⟨rfl, hr, hg⟩
  rw [show numW 4 = 4 from rfl] at hr
  replace HR := Lib.hid hr; clear hr
  replace HZ := Lib.hid (blk_other HZ.out hg HNz.out)
  replace HG := Lib.hid (grown_two HG.out hg); clear hg
  have c1 := i64_small (rdN r 4) (by have := rdN4_lt r; omega)
  have c2 := w64_small (rdN r 4) (by have := rdN4_lt r; omega)
  generalize hcn : (rdN r 4 : Int) = cn at c1 c2 ⊢
  have HCn := Lib.hid hcn; clear hcn
  generalize hr1 : tkR r 4 = r1 at HR
  have HR1 := Lib.hid hr1; clear hr1
  have HBq0 := Lib.hid HG.out.size
  have HQ := Lib.hid (show (w2.alloc (.cells (totC cn r1 0) 65)).heap[w2.heap.size]? = some (.cells (totC cn r1 0) 65 (0, 0)) from heap_alloc_new w2 _)
  have HNq := Lib.hid (show w2.heap.size ≠ g from fun e => by have := HR.out.lt g rfl; omega)
  have HNzq := Lib.hid (show bz ≠ w2.heap.size from fun e => by have := blk_lt HZ.out; omega)
  have hd := below_alloc (Below.refl w2.heap.size w2) (.cells (totC cn r1 0) 65)
  replace HZ := Lib.hid (blk_below HZ.out hd)
  replace HR := Lib.hid (HR.out.below hd)
  replace HG := Lib.hid (grown_two HG.out (grown_of_below hd (some g))); clear hd
  go_upto_region 2 with (fail)
  clear c1 c2
  generalize hw3 : w2.alloc (.cells (totC cn r1 0) 65) = w3 at HQ HZ HR HG
  have hw3' : w2.alloc (.cells #[.int .i64 cn, .int .i64 0, .int .i64 0, .int .i64 0, .int .i64 0, .int .i64 0] 65) = w3 := hw3
  rw [hw3']
  clear hw3 hw3'
  generalize w2.heap.size = bq at HQ HNq HNzq HBq0 ⊢
  have HP := Lib.hid (heap_alloc_new w3 (.cells #[.pointer (some ⟨bq, 1, none⟩), .pointer (some ⟨bq, 2, none⟩), .pointer (some ⟨bq, 3, none⟩), .pointer (some ⟨bq, 4, none⟩), .pointer (some ⟨bq, 5, none⟩)] 130))
  have hd := below_alloc (Below.refl w3.heap.size w3) (.cells #[.pointer (some ⟨bq, 1, none⟩), .pointer (some ⟨bq, 2, none⟩), .pointer (some ⟨bq, 3, none⟩), .pointer (some ⟨bq, 4, none⟩), .pointer (some ⟨bq, 5, none⟩)] 130)
  have HNp := Lib.hid (show w3.heap.size ≠ g ∧ w3.heap.size ≠ bq from ⟨fun e => by have := HR.out.lt g rfl; omega, fun e => by have := blk_lt HQ.out; omega⟩)
  replace HZ := Lib.hid (blk_below HZ.out hd)
  replace HQ := Lib.hid (blk_below HQ.out hd)
  replace HR := Lib.hid (HR.out.below hd)
  replace HG := Lib.hid (grown_two HG.out (grown_of_below hd (some g))); clear hd
  go_upto_block 0 with (fail)
  generalize w3.alloc (.cells #[.pointer (some ⟨bq, 1, none⟩), .pointer (some ⟨bq, 2, none⟩), .pointer (some ⟨bq, 3, none⟩), .pointer (some ⟨bq, 4, none⟩), .pointer (some ⟨bq, 5, none⟩)] 130) = w4 at HP HZ HQ HR HG ⊢
  generalize w3.heap.size = bp at HP HNp ⊢
  go_cut [17] from 18 to 25 (fun _ wx => wx.heap[bq]? = some (.cells (totC cn r1 5) 65 (0, 0)) ∧ wx.heap[bz]? = some (.cells #[.int .i64 0, .int .i64 0, .int .i64 0, .int .i64 0, .int .i64 0, .int .i64 0] 65 (0, 0)) ∧ RdO wx (some g) (stp 5 r1) ∧ w.grownBy wx (some g))
  case first =>
    go_wp2_with fail
    go_loopw [17] (fun i wr => ∃ j : Nat, j ≤ 5 ∧ i = .int .i64 (j : Int) ∧ wr.heap[bp]? = some (.cells #[.pointer (some ⟨bq, 1, none⟩), .pointer (some ⟨bq, 2, none⟩), .pointer (some ⟨bq, 3, none⟩), .pointer (some ⟨bq, 4, none⟩), .pointer (some ⟨bq, 5, none⟩)] 130 (0, 0)) ∧ wr.heap[bq]? = some (.cells (totC cn r1 j) 65 (0, 0)) ∧ wr.heap[bz]? = some (.cells #[.int .i64 0, .int .i64 0, .int .i64 0, .int .i64 0, .int .i64 0, .int .i64 0] 65 (0, 0)) ∧ RdO wr (some g) (stp j r1) ∧ w.grownBy wr (some g)) (fun i _ => 5 - (RowKit.intOf i).toNat)
    case atStart => exact ⟨0, by decide, rfl, HP.out, HQ.out, HZ.out, HR.out, HG.out⟩
    case round =>
      clear HP HQ HZ HR HG
      obtain ⟨j, hj, rfl, hp, hq, hz, hr, hg⟩ := hrel
      have HP := Lib.hid hp; clear hp
      have HQ := Lib.hid hq; clear hq
      have HZ := Lib.hid hz; clear hz
      have HR := Lib.hid hr; clear hr
      have HG := Lib.hid hg; clear hg
      by_cases hlt : j < 5
      · have e3 : wrap64 ((j : Int) + 1) = ((j + 1 : Nat) : Int) := wrap_succP j (by omega)
        have x0 := ptr_at HP.out j hlt
        have q1 : decide (j < 5) = true := decide_eq_true hlt
        have q2 : decide ((j : Int) < 5) = true := decide_eq_true (by omega)
        have q5 : (0 ≤ (j : Int)) = True := eq_true (by omega)
        have q6 : ((j : Int) < 5) = True := eq_true (by omega)
        have q7 : (j < 5) = True := eq_true hlt
        have Hlt := Lib.hid hlt; clear hlt hj
        go_wp2_with fail
        clear x0 q1 q2 q5 q6 q7
        refine (rd_signedP (some g) (.pointer (some ⟨g, 0, none⟩)) rfl (stp j r1) wr HR.out).mono ?_
        rintro e w5 ⟨rfl, hr, hg⟩
        replace HR := Lib.hid hr; clear hr
        replace HP := Lib.hid (blk_other HP.out hg HNp.out.1)
        replace HQ := Lib.hid (blk_other HQ.out hg HNq.out)
        replace HZ := Lib.hid (blk_other HZ.out hg HNz.out)
        replace HG := Lib.hid (grown_two HG.out hg); clear hg
        obtain ⟨f0, v0, y0⟩ := totC_cell HQ.out j Hlt.out
        have HSv := Lib.hid (show wrap64 (rdN (stp j r1) 8 : Int) = sgV j r1 from rfl)
        rw [HSv.out]
        generalize hsv : sgV j r1 = sv
        have HSv2 := Lib.hid hsv; clear hsv
        go_wp2_with fail
        clear f0 y0
        have hg := Lib.grownBy_setCell w5 bq (j + 1) (.int .i64 sv)
        replace HP := Lib.hid (blk_other HP.out hg HNp.out.2)
        replace HZ := Lib.hid (blk_other HZ.out hg HNzq.out)
        replace HR := Lib.hid (HR.out.set HNq.out (i := j + 1) (.int .i64 sv))
        replace HG := Lib.hid (grown_own HG.out hg (fun k hk => by cases hk; exact HBq0.out))
        replace HQ := Lib.hid (show (w5.setCell ⟨bq, j + 1, none⟩ (.int .i64 sv)).heap[bq]? = some (.cells (totC cn r1 (j + 1)) 65 (0, 0)) by
          have h := heap_setCell_same w5 bq (j + 1) _ _ (.int .i64 sv) HQ.out
          rw [← HSv2.out, totC_set cn r1 j Hlt.out] at h
          rw [← HSv2.out]
          exact h); clear hg
        go_roundw
        case rel => exact ⟨j + 1, Hlt.out, by first | rw [e3] | rfl, HP.out, HQ.out, HZ.out, HR.out, HG.out⟩
        case measure => (first | rw [e3] | rw [show ((j : Int) + 1) = ((j + 1 : Nat) : Int) from rfl]); simp only [RowKit.intOf, Int.toNat_natCast]; exact Nat.sub_lt_sub_left Hlt.out (Nat.lt_succ_self j)
      · obtain rfl : j = 5 := Nat.le_antisymm hj (Nat.le_of_not_lt hlt)
        go_wp2_with fail
        go_meet
        case rel => exact ⟨HQ.out, HZ.out, HR.out, HG.out⟩
  case rest =>
    obtain ⟨hq, hz, hr, hg⟩ := hcut
    clear HQ HZ HR HG HP
    have HQ := Lib.hid hq; clear hq
    have HZ := Lib.hid hz; clear hz
    have HR := Lib.hid hr; clear hr
    have HG := Lib.hid hg; clear hg
    generalize hT : totC cn r1 5 = T at HQ
    have HT := Lib.hid (And.intro hT (show (Try.prog.info? 65).map (·.size) = some T.size ∧ T.all (·.oneCell') = true ∧ (#[Value.int .i64 0, .int .i64 0, .int .i64 0, .int .i64 0, .int .i64 0, .int .i64 0] : Array Value).size = T.size by subst hT; exact ⟨totC_info _ _ _, totC_one _ _ _, zero6_size _ _ _⟩)); clear hT
    go_wp2_with (first | refine wpList_load_row rfl 65 (.tmp 3) rfl bq rfl _ HQ.out Try.underlying65 HT.out.2.1 ?_ | refine wpList_store_row rfl 65 _ _ rfl bz T rfl rfl 65 _ HZ.out HT.out.2.1 HT.out.2.2.2 HT.out.2.2.1 ?_)
    have hz := setRow_heap wc bz _ T _ _ HZ.out
    refine bodyPost_ret (v := .agg T) (results_cell_row rfl _ _ bz 65 _ (0, 0) _ rfl hz Try.underlying65 rfl HT.out.2.1) rfl ⟨by rw [HCn.out, HR1.out, HT.out.1], ?_, ?_⟩
    · rw [HR1.out]; exact HR.out.grown (setRow_grown wc bz T) (fun k e1 e2 => HNz.out ((Option.some.inj e2).trans (Option.some.inj e1).symm))
    · exact grown_own HG.out (setRow_grown wc bz T) (fun k hk => by cases hk; rw [HBz.out]; exact Nat.le_refl _)
end Go.Proofs.Ytepgdjkmobngcaa

/-! req: what stands behind a reply's error, read. No conditions beyond those that are written. -/
namespace Go.Proofs.Ytepgdjkmobngcaa
open Go.RowKit Go.Lib Go.Proofs.Ytepgdjkmobngcaa.P Go.Proofs.Ytepgdjkmobngcaa.BeS Go.Proofs.YtepgdjkmobngcaaW.PrintWords Go.Proofs.YtepgdjkmobngcaaW.PrintLast Go.Proofs.YtepgdjkmobngcaaW.PrintMore
set_option linter.unusedVariables false
set_option linter.unusedSimpArgs false
def rg35_9.T : Bool × List (List Nat × List Nat) := (true, [([], []), ([], []), ([1], [1]), ([0], [0]), ([3], [3]), ([4, 0, 1, 2], [4]), ([5, 2, 2, 0, 1, 2], [2, 5])])
def rg35_9.B : List Nat := [0, 0, 2, 1, 9, 31, 63]
theorem rg35_9.tab : rtab .any (opsOf Try.f35 9) = rg35_9.T := by kernel_rfl
theorem rg35_9.bits : waitsOk rg35_9.T.2 rg35_9.B = true := by kernel_rfl
section
variable {w : World} {b : Nat} {r : RP} {v : Value}
theorem RpAt.s0 (h : RpAt w b r v) (x : Int) : RpAt (w.setCell ⟨b, 0, none⟩ (.int .i64 x)) b { r with err := x } v := by
  have h2 := heap_setCell_same w b 0 _ _ (.int .i64 x) h
  unfold RpAt
  rw [h2]
  simp [rpC]
theorem RpAt.s1 (h : RpAt w b r v) (x : Int) : RpAt (w.setCell ⟨b, 1, none⟩ (.int .i64 x)) b { r with num := x } v := by
  have h2 := heap_setCell_same w b 1 _ _ (.int .i64 x) h
  unfold RpAt
  rw [h2]
  simp [rpC]
theorem RpAt.s2 (h : RpAt w b r v) (x : Int) : RpAt (w.setCell ⟨b, 2, none⟩ (.int .i64 x)) b { r with cnt := x } v := by
  have h2 := heap_setCell_same w b 2 _ _ (.int .i64 x) h
  unfold RpAt
  rw [h2]
  simp [rpC]
theorem RpAt.s3 (h : RpAt w b r v) (x : Int) : RpAt (w.setCell ⟨b, 3, none⟩ (.int .i64 x)) b { r with s0 := x } v := by
  have h2 := heap_setCell_same w b 3 _ _ (.int .i64 x) h
  unfold RpAt
  rw [h2]
  simp [rpC]
theorem RpAt.s4 (h : RpAt w b r v) (x : Int) : RpAt (w.setCell ⟨b, 4, none⟩ (.int .i64 x)) b { r with s1 := x } v := by
  have h2 := heap_setCell_same w b 4 _ _ (.int .i64 x) h
  unfold RpAt
  rw [h2]
  simp [rpC]
theorem RpAt.s5 (h : RpAt w b r v) (x : Int) : RpAt (w.setCell ⟨b, 5, none⟩ (.int .i64 x)) b { r with s2 := x } v := by
  have h2 := heap_setCell_same w b 5 _ _ (.int .i64 x) h
  unfold RpAt
  rw [h2]
  simp [rpC]
theorem RpAt.s6 (h : RpAt w b r v) (x : Int) : RpAt (w.setCell ⟨b, 6, none⟩ (.int .i64 x)) b { r with s3 := x } v := by
  have h2 := heap_setCell_same w b 6 _ _ (.int .i64 x) h
  unfold RpAt
  rw [h2]
  simp [rpC]
theorem RpAt.s7 (h : RpAt w b r v) (x : Int) : RpAt (w.setCell ⟨b, 7, none⟩ (.int .i64 x)) b { r with s4 := x } v := by
  have h2 := heap_setCell_same w b 7 _ _ (.int .i64 x) h
  unfold RpAt
  rw [h2]
  simp [rpC]
theorem RpAt.s8 (h : RpAt w b r v) (x : Int) : RpAt (w.setCell ⟨b, 8, none⟩ (.int .i64 x)) b { r with tn := x } v := by
  have h2 := heap_setCell_same w b 8 _ _ (.int .i64 x) h
  unfold RpAt
  rw [h2]
  simp [rpC]
theorem RpAt.s9 (h : RpAt w b r v) (x : Nat) : RpAt (w.setCell ⟨b, 9, none⟩ (.int .u8 (x : Int))) b { r with tk := x } v := by
  have h2 := heap_setCell_same w b 9 _ _ (.int .u8 (x : Int)) h
  unfold RpAt
  rw [h2]
  simp [rpC]
theorem RpAt.s10 (h : RpAt w b r v) (x : Int) : RpAt (w.setCell ⟨b, 10, none⟩ (.int .i64 x)) b { r with tsh := x } v := by
  have h2 := heap_setCell_same w b 10 _ _ (.int .i64 x) h
  unfold RpAt
  rw [h2]
  simp [rpC]
theorem RpAt.s11 (h : RpAt w b r v) (x : Int) : RpAt (w.setCell ⟨b, 11, none⟩ (.int .i64 x)) b { r with tref := x } v := by
  have h2 := heap_setCell_same w b 11 _ _ (.int .i64 x) h
  unfold RpAt
  rw [h2]
  simp [rpC]
theorem RpAt.s12 (h : RpAt w b r v) (x : Int) : RpAt (w.setCell ⟨b, 12, none⟩ (.int .i64 x)) b { r with tamt := x } v := by
  have h2 := heap_setCell_same w b 12 _ _ (.int .i64 x) h
  unfold RpAt
  rw [h2]
  simp [rpC]
theorem RpAt.s13 (h : RpAt w b r v) (x : Int) : RpAt (w.setCell ⟨b, 13, none⟩ (.int .i64 x)) b { r with tleft := x } v := by
  have h2 := heap_setCell_same w b 13 _ _ (.int .i64 x) h
  unfold RpAt
  rw [h2]
  simp [rpC]
theorem RpAt.s14 (h : RpAt w b r v) (x : Bool) : RpAt (w.setCell ⟨b, 14, none⟩ (.bool x)) b { r with tvoid := x } v := by
  have h2 := heap_setCell_same w b 14 _ _ (.bool x) h
  unfold RpAt
  rw [h2]
  simp [rpC]
theorem RpAt.s15 (h : RpAt w b r v) (x : Value) : RpAt (w.setCell ⟨b, 15, none⟩ (x)) b r x := by
  have h2 := heap_setCell_same w b 15 _ _ (x) h
  unfold RpAt
  rw [h2]
  simp [rpC]
theorem RpAt.s16 (h : RpAt w b r v) (x : Int) : RpAt (w.setCell ⟨b, 16, none⟩ (.int .i64 x)) b { r with a0 := x } v := by
  have h2 := heap_setCell_same w b 16 _ _ (.int .i64 x) h
  unfold RpAt
  rw [h2]
  simp [rpC]
theorem RpAt.s17 (h : RpAt w b r v) (x : Int) : RpAt (w.setCell ⟨b, 17, none⟩ (.int .i64 x)) b { r with a1 := x } v := by
  have h2 := heap_setCell_same w b 17 _ _ (.int .i64 x) h
  unfold RpAt
  rw [h2]
  simp [rpC]
theorem RpAt.s18 (h : RpAt w b r v) (x : Bool) : RpAt (w.setCell ⟨b, 18, none⟩ (.bool x)) b { r with rd := x } v := by
  have h2 := heap_setCell_same w b 18 _ _ (.bool x) h
  unfold RpAt
  rw [h2]
  simp [rpC]
theorem TxB.s0 (h : TxB w b r v) (x : Int) : TxB (w.setCell ⟨b, 0, none⟩ (.int .i64 x)) b { r with tn := x } v := by
  have h2 := heap_setCell_same w b 0 _ _ (.int .i64 x) h
  unfold TxB
  rw [h2]
  simp
theorem TxB.s1 (h : TxB w b r v) (x : Nat) : TxB (w.setCell ⟨b, 1, none⟩ (.int .u8 (x : Int))) b { r with tk := x } v := by
  have h2 := heap_setCell_same w b 1 _ _ (.int .u8 (x : Int)) h
  unfold TxB
  rw [h2]
  simp
theorem TxB.s2 (h : TxB w b r v) (x : Int) : TxB (w.setCell ⟨b, 2, none⟩ (.int .i64 x)) b { r with tsh := x } v := by
  have h2 := heap_setCell_same w b 2 _ _ (.int .i64 x) h
  unfold TxB
  rw [h2]
  simp
theorem TxB.s3 (h : TxB w b r v) (x : Int) : TxB (w.setCell ⟨b, 3, none⟩ (.int .i64 x)) b { r with tref := x } v := by
  have h2 := heap_setCell_same w b 3 _ _ (.int .i64 x) h
  unfold TxB
  rw [h2]
  simp
theorem TxB.s4 (h : TxB w b r v) (x : Int) : TxB (w.setCell ⟨b, 4, none⟩ (.int .i64 x)) b { r with tamt := x } v := by
  have h2 := heap_setCell_same w b 4 _ _ (.int .i64 x) h
  unfold TxB
  rw [h2]
  simp
theorem TxB.s5 (h : TxB w b r v) (x : Int) : TxB (w.setCell ⟨b, 5, none⟩ (.int .i64 x)) b { r with tleft := x } v := by
  have h2 := heap_setCell_same w b 5 _ _ (.int .i64 x) h
  unfold TxB
  rw [h2]
  simp
theorem TxB.s6 (h : TxB w b r v) (x : Bool) : TxB (w.setCell ⟨b, 6, none⟩ (.bool x)) b { r with tvoid := x } v := by
  have h2 := heap_setCell_same w b 6 _ _ (.bool x) h
  unfold TxB
  rw [h2]
  simp
theorem TxB.s7 (h : TxB w b r v) (x : Value) : TxB (w.setCell ⟨b, 7, none⟩ (x)) b r x := by
  have h2 := heap_setCell_same w b 7 _ _ (x) h
  unfold TxB
  rw [h2]
  simp
theorem RpAt.free (h : RpAt w b r v) : w.frozen? ⟨b, 0, none⟩ = false ∧ w.frozen? ⟨b, 1, none⟩ = false ∧ w.frozen? ⟨b, 2, none⟩ = false ∧ w.frozen? ⟨b, 3, none⟩ = false ∧ w.frozen? ⟨b, 4, none⟩ = false ∧ w.frozen? ⟨b, 5, none⟩ = false ∧ w.frozen? ⟨b, 6, none⟩ = false ∧ w.frozen? ⟨b, 7, none⟩ = false ∧ w.frozen? ⟨b, 8, none⟩ = false ∧ w.frozen? ⟨b, 9, none⟩ = false ∧ w.frozen? ⟨b, 10, none⟩ = false ∧ w.frozen? ⟨b, 11, none⟩ = false ∧ w.frozen? ⟨b, 12, none⟩ = false ∧ w.frozen? ⟨b, 13, none⟩ = false ∧ w.frozen? ⟨b, 14, none⟩ = false ∧ w.frozen? ⟨b, 15, none⟩ = false ∧ w.frozen? ⟨b, 16, none⟩ = false ∧ w.frozen? ⟨b, 17, none⟩ = false ∧ w.frozen? ⟨b, 18, none⟩ = false := by
  unfold RpAt at h
  refine ⟨?_, ?_, ?_, ?_, ?_, ?_, ?_, ?_, ?_, ?_, ?_, ?_, ?_, ?_, ?_, ?_, ?_, ?_, ?_⟩ <;> (unfold World.frozen?; rw [h]; rfl)
theorem TxB.free (h : TxB w b r v) : w.frozen? ⟨b, 0, none⟩ = false ∧ w.frozen? ⟨b, 1, none⟩ = false ∧ w.frozen? ⟨b, 2, none⟩ = false ∧ w.frozen? ⟨b, 3, none⟩ = false ∧ w.frozen? ⟨b, 4, none⟩ = false ∧ w.frozen? ⟨b, 5, none⟩ = false ∧ w.frozen? ⟨b, 6, none⟩ = false ∧ w.frozen? ⟨b, 7, none⟩ = false := by
  unfold TxB at h
  refine ⟨?_, ?_, ?_, ?_, ?_, ?_, ?_, ?_⟩ <;> (unfold World.frozen?; rw [h]; rfl)
theorem RpAt.grown {w' : World} {g : Nat} (h : RpAt w b r v) (hg : w.grownBy w' (some g)) (hne : b ≠ g) : RpAt w' b r v := blk_other h hg hne
theorem TxB.grown {w' : World} {g : Nat} (h : TxB w b r v) (hg : w.grownBy w' (some g)) (hne : b ≠ g) : TxB w' b r v := blk_other h hg hne
end
theorem RpAt.at16 {w : World} {b : Nat} {v : Value} (h : RpAt w b (rp0 0) v) : w.frozen? ⟨b, 16, none⟩ = false ∧ w.cell? ⟨b, 16, none⟩ = some (.int .i64 0) := ⟨h.free.2.2.2.2.2.2.2.2.2.2.2.2.2.2.2.2.1, h.cells.2.2.2.2.2.2.2.2.2.2.2.2.2.2.2.2.1⟩
theorem prod4 {α β γ δ : Type} {p : α × β × γ × δ} {a : α} {b : β} {c : γ} {d : δ} (h : p = (a, b, c, d)) : p.1 = a ∧ p.2.1 = b ∧ p.2.2.1 = c ∧ p.2.2.2 = d := by subst h; exact ⟨rfl, rfl, rfl, rfl⟩
theorem totC5 (c : Int) (r : RdS) : totC c r 5 = #[.int .i64 c, .int .i64 (sgV 0 r), .int .i64 (sgV 1 r), .int .i64 (sgV 2 r), .int .i64 (sgV 3 r), .int .i64 (sgV 4 r)] := by simp [totC]
set_option maxHeartbeats 32000000 in
set_option maxRecDepth 20000 in
theorem rep_read (k : Nat) (hk : isK k) (bq g : Nat) (hne : bq ≠ g) (r : RdS) (w : World) (hX : RpAt w bq (rp0 0) (.slice none 0 0)) (hR : RdO w (some g) r) :
    Calls Try.prog 35 #[.pointer (some ⟨bq, 0, none⟩), .pointer (some ⟨g, 0, none⟩), .int .u8 (k : Int)] w fun x w' => ∃ v, x = .returned (.bool (rpRd k r).2.2.1) ∧ RpAt w' bq (rpRd k r).1 v ∧ LRow w' 81 w.heap.size v (rpRd k r).2.1 ∧ RdO w' (some g) (rpRd k r).2.2.2 ∧ Touch (fun i => i = bq ∨ i = g) w w' := by
  have HNe := Lib.hid hne; clear hne
  have HX := Lib.hid hX
  have HXb := Lib.hid (blk_lt hX); clear hX
  have HR := Lib.hid hR; clear hR
  generalize hP : rpRd k r = PP
  have HP := Lib.hid hP; clear hP
  obtain ⟨rp, xs, ok, re⟩ := PP
  simp only
  go_enter Try.func35, Try.ntmps35
  go_wp2_with fail
  refine (event_ok k w).mono ?_
  rintro e wx ⟨rfl, hd⟩
  replace hd := hd.below
  have HT := Lib.hid (Touch.of (fun i => i = bq ∨ i = g) hd)
  replace HX := Lib.hid (show RpAt _ _ _ _ from blk_below HX.out hd)
  replace HR := Lib.hid (HR.out.below hd); clear hd
  have hk1 := hk.1
  have hk2 := hk.2
  have hcase : k = 3 ∨ (k ≤ 9 ∧ k ≠ 3) ∨ k = 10 ∨ k = 11 ∨ k = 12 ∨ k = 13 ∨ k = 14 := by omega
  rcases hcase with rfl | ⟨h9, h3⟩ | rfl | rfl | rfl | rfl | rfl
  · skip
    rw [show decide (1 ≤ 3 ∧ 3 ≤ 9) = true from rfl]
    go_wp2_with fail
    refine (rd_numberP (some g) (.pointer (some ⟨g, 0, none⟩)) rfl r 4 wx HR.out (by decide) (by decide)).mono ?_
    rintro e wx ⟨rfl, hr, hg⟩
    rw [show numW 4 = 4 from rfl] at hr
    replace HR := Lib.hid hr; clear hr
    replace HX := Lib.hid (HX.out.grown hg HNe.out)
    replace HT := Lib.hid (HT.out.grown hg (fun k hk => .inl (.inr (Option.some.inj hk).symm))); clear hg
    have c14 := i64_small (rdN r 4) (by have := rdN4_lt r; omega)
    have c24 := w64_small (rdN r 4) (by have := rdN4_lt r; omega)
    obtain ⟨f0, f1, f2, f3, f4, f5, f6, f7, f8, f9, f10, f11, f12, f13, f14, f15, f16, f17, f18⟩ := HX.out.free
    obtain ⟨z0, z1, z2, z3, z4, z5, z6, z7, z8, z9, z10, z11, z12, z13, z14, z15, z16, z17, z18⟩ := HX.out.cells
    go_wp2_with fail
    clear f0 f1 f2 f3 f4 f5 f6 f7 f8 f9 f10 f11 f12 f13 f14 f15 f16 f17 f18 z0 z1 z2 z3 z4 z5 z6 z7 z8 z9 z10 z11 z12 z13 z14 z15 z16 z17 z18
    replace HX := Lib.hid (RpAt.s1 HX.out (rdN r 4 : Int))
    replace HR := Lib.hid (HR.out.set HNe.out (i := 1) (.int .i64 (rdN r 4 : Int)))
    replace HT := Lib.hid (Touch.set HT.out (i := 1) (.inl (.inl rfl)) (.int .i64 (rdN r 4 : Int)))
    generalize (wx.setCell ⟨bq, 1, none⟩ (.int .i64 (rdN r 4 : Int))) = wx at HX HR HT ⊢
    clear c14 c24
    refine (read_totals g (tkR r 4) wx HR.out).mono ?_
    rintro e wx ⟨rfl, hr, hg⟩
    rw [totC5]
    replace HR := Lib.hid hr; clear hr
    replace HX := Lib.hid (HX.out.grown hg HNe.out)
    replace HT := Lib.hid (HT.out.grown hg (fun k hk => .inl (.inr (Option.some.inj hk).symm))); clear hg
    have c14 := i64_small (rdN (tkR r 4) 4) (by have := rdN4_lt (tkR r 4); omega)
    have c24 := w64_small (rdN (tkR r 4) 4) (by have := rdN4_lt (tkR r 4); omega)
    obtain ⟨f0, f1, f2, f3, f4, f5, f6, f7, f8, f9, f10, f11, f12, f13, f14, f15, f16, f17, f18⟩ := HX.out.free
    obtain ⟨z0, z1, z2, z3, z4, z5, z6, z7, z8, z9, z10, z11, z12, z13, z14, z15, z16, z17, z18⟩ := HX.out.cells
    go_wp2
    go_ret
    obtain ⟨e1, e2, e3, e4⟩ := prod4 HP.out
    subst e1 e2 e3 e4
    exact ⟨.slice none 0 0, rfl, (RpAt.s7 (RpAt.s6 (RpAt.s5 (RpAt.s4 (RpAt.s3 (RpAt.s2 HX.out (rdN (tkR r 4) 4 : Int)) (sgV 0 (tkR (tkR r 4) 4))) (sgV 1 (tkR (tkR r 4) 4))) (sgV 2 (tkR (tkR r 4) 4))) (sgV 3 (tkR (tkR r 4) 4))) (sgV 4 (tkR (tkR r 4) 4))), World.ownsRow_nil _ _ _ _, ((((((HR.out.set HNe.out (i := 2) (.int .i64 (rdN (tkR r 4) 4 : Int))).set HNe.out (i := 3) (.int .i64 (sgV 0 (tkR (tkR r 4) 4)))).set HNe.out (i := 4) (.int .i64 (sgV 1 (tkR (tkR r 4) 4)))).set HNe.out (i := 5) (.int .i64 (sgV 2 (tkR (tkR r 4) 4)))).set HNe.out (i := 6) (.int .i64 (sgV 3 (tkR (tkR r 4) 4)))).set HNe.out (i := 7) (.int .i64 (sgV 4 (tkR (tkR r 4) 4)))), (Touch.set (Touch.set (Touch.set (Touch.set (Touch.set (Touch.set HT.out (i := 2) (.inl (.inl rfl)) (.int .i64 (rdN (tkR r 4) 4 : Int))) (i := 3) (.inl (.inl rfl)) (.int .i64 (sgV 0 (tkR (tkR r 4) 4)))) (i := 4) (.inl (.inl rfl)) (.int .i64 (sgV 1 (tkR (tkR r 4) 4)))) (i := 5) (.inl (.inl rfl)) (.int .i64 (sgV 2 (tkR (tkR r 4) 4)))) (i := 6) (.inl (.inl rfl)) (.int .i64 (sgV 3 (tkR (tkR r 4) 4)))) (i := 7) (.inl (.inl rfl)) (.int .i64 (sgV 4 (tkR (tkR r 4) 4))))⟩
  · skip
    rw [show decide (1 ≤ k ∧ k ≤ 9) = true from decide_eq_true ⟨hk1, h9⟩]
    have c2 : ((k : Int) == 3) = false := beq_eq_false_iff_ne.2 (by omega)
    go_wp2_with fail
    refine (rd_numberP (some g) (.pointer (some ⟨g, 0, none⟩)) rfl r 4 wx HR.out (by decide) (by decide)).mono ?_
    rintro e wx ⟨rfl, hr, hg⟩
    rw [show numW 4 = 4 from rfl] at hr
    replace HR := Lib.hid hr; clear hr
    replace HX := Lib.hid (HX.out.grown hg HNe.out)
    replace HT := Lib.hid (HT.out.grown hg (fun k hk => .inl (.inr (Option.some.inj hk).symm))); clear hg
    have c14 := i64_small (rdN r 4) (by have := rdN4_lt r; omega)
    have c24 := w64_small (rdN r 4) (by have := rdN4_lt r; omega)
    obtain ⟨f0, f1, f2, f3, f4, f5, f6, f7, f8, f9, f10, f11, f12, f13, f14, f15, f16, f17, f18⟩ := HX.out.free
    obtain ⟨z0, z1, z2, z3, z4, z5, z6, z7, z8, z9, z10, z11, z12, z13, z14, z15, z16, z17, z18⟩ := HX.out.cells
    go_wp2
    go_ret
    have hP := HP.out
    unfold rpRd rpOf repKs flagOk at hP
    rw [if_neg (show ¬ k = 11 by omega), if_neg h3, if_pos h9, if_neg h3, if_pos h9, if_neg (show ¬ k = 11 by omega), if_neg (show ¬ k = 14 by omega)] at hP
    simp only [Prod.mk.injEq] at hP
    obtain ⟨rfl, rfl, rfl, rfl⟩ := hP
    exact ⟨.slice none 0 0, rfl, RpAt.s1 HX.out (rdN r 4 : Int), World.ownsRow_nil _ _ _ _, HR.out.set HNe.out (i := 1) (.int .i64 (rdN r 4 : Int)), Touch.set HT.out (i := 1) (.inl (.inl rfl)) (.int .i64 (rdN r 4 : Int))⟩
  · skip
    rw [show decide (1 ≤ 10 ∧ 10 ≤ 9) = false from rfl]
    go_upto_region 9 with (fail)
    have hS := HX.out.at16
    replace HX := Lib.hid (show RpAt wx.drew _ _ _ from HX.out)
    replace HR := Lib.hid (show RdO wx.drew _ _ from HR.out)
    replace HT := Lib.hid HT.out.drew
    refine start_ (n := 7) (S := fun w' => w'.frozen? ⟨bq, 16, none⟩ = false ∧ w'.cell? ⟨bq, 16, none⟩ = some (.int .i64 0)) (ds := [6]) #[false, false, false, false, false, false, false] (by kernel_rfl) rfl rfl hS (fun hHeld => ?_)
    refine with_tabW rg35_9.tab rg35_9.bits (fun HT_ HW_ => ?_)
    generalize wx.drew = w' at HX HR HT hS hHeld ⊢
    refine pure_ (i := 0) (N := some 50) (v := ?_) (a' := ?_) #[true, false, false, false, false, false, false] rfl rfl (any_of HT_.out (by kernel_rfl)) (fun _ _ _ h => h) (Or.inl ⟨by rfl, ?_⟩) ?_ ?_
    rotate_left
    · intro w'
      go_simp
      try with_reducible rfl
    rotate_left
    · simp (maxSteps := 4000000) only [Act.put, List.setIfInBounds_toArray, List.set_cons_zero, List.set_cons_succ, i64_w, i32_w]
      try rfl
    refine pure_ (i := 1) (N := some 51) (v := ?_) (a' := ?_) #[true, true, false, false, false, false, false] rfl rfl (any_of HT_.out (by kernel_rfl)) (fun _ _ _ h => h) (Or.inl ⟨by rfl, ?_⟩) ?_ ?_
    rotate_left
    · intro w'
      go_simp
      try with_reducible rfl
    rotate_left
    · simp (maxSteps := 4000000) only [Act.put, List.setIfInBounds_toArray, List.set_cons_zero, List.set_cons_succ, i64_w, i32_w]
      try rfl
    refine pure_ (i := 3) (N := some 53) (v := ?_) (a' := ?_) #[true, true, false, true, false, false, false] rfl rfl (any_of HT_.out (by kernel_rfl)) (fun _ _ _ h => h) (Or.inl ⟨by rfl, ?_⟩) ?_ ?_
    rotate_left
    · intro w'
      go_simp
      try with_reducible rfl
    rotate_left
    · simp (maxSteps := 4000000) only [Act.put, List.setIfInBounds_toArray, List.set_cons_zero, List.set_cons_succ, i64_w, i32_w]
      try rfl
    refine pure_ (i := 4) (N := some 54) (v := ?_) (a' := ?_) #[true, true, false, true, true, false, false] rfl rfl (any_of HT_.out (by kernel_rfl)) (fun _ _ _ h => h) (Or.inl ⟨by rfl, ?_⟩) ?_ ?_
    rotate_left
    · intro w'
      go_simp
      try with_reducible rfl
    rotate_left
    · simp (maxSteps := 4000000) only [Act.put, List.setIfInBounds_toArray, List.set_cons_zero, List.set_cons_succ, i64_w, i32_w]
      try rfl
    refine one_ (i := 2) (N := some 52) #[true, true, true, true, true, false, false] rfl rfl (one_of HT_.out (by kernel_rfl)) (by decide) (fun K hK => ?_)
    refine goes_ Try.func45 (by kernel_rfl) rfl #[.pointer (some ⟨g, 0, none⟩)] (by rfl) rfl rfl (by (try simp only [List.map_toArray, List.map_cons, List.map_nil]); first | done | rfl) ?_
    refine (rd_signedP (some g) (.pointer (some ⟨g, 0, none⟩)) rfl r w' HR.out).mono ?_
    rintro e w' ⟨rfl, hr, hg⟩
    refine ⟨_, rfl, ?_⟩
    replace HX := Lib.hid (HX.out.grown hg HNe.out)
    replace HR := Lib.hid hr
    replace HT := Lib.hid (HT.out.grown hg (fun k hk => .inl (.inr (Option.some.inj hk).symm)))
    clear hr hg
    refine hK.out _ _ (HX.out.at16) (fun hHeld => ?_)
    clear hK K
    refine norm_ (a' := ?_) ?_ ?_
    rotate_left
    · show Act.put _ (some 52) _ = _
      simp (maxSteps := 4000000) only [Act.put, List.setIfInBounds_toArray, List.set_cons_zero, List.set_cons_succ, i64_w, i32_w]
      try rfl
    refine pure_ (i := 5) (N := some 55) (v := ?_) (a' := ?_) #[true, true, true, true, true, true, false] rfl rfl (any_of HT_.out (by kernel_rfl)) (fun _ _ _ h => h) (Or.inl ⟨by rfl, ?_⟩) ?_ ?_
    rotate_left
    · intro w'
      go_simp
      try with_reducible rfl
    rotate_left
    · simp (maxSteps := 4000000) only [Act.put, List.setIfInBounds_toArray, List.set_cons_zero, List.set_cons_succ, i64_w, i32_w]
      try rfl
    refine last_ (i := 6) (N := none) #[true, true, true, true, true, true, true] rfl rfl (one_of HT_.out (by kernel_rfl)) (by decide) (fun K hK => ?_)
    refine skip_ (w1 := w'.setCell ⟨bq, 16, none⟩ (.int .i64 (wrap64 (rdN r 8 : Int)))) (by rfl) rfl ?_ ?_
    · (obtain ⟨f0, x0⟩ := HX.out.at16; go_simp)
    refine hK.out _ _ ?_
    clear hK K
    refine done_ (done_of HT_.out (by kernel_rfl)) ?_
    go_wp2
    go_ret
    obtain ⟨e1, e2, e3, e4⟩ := prod4 HP.out
    subst e1 e2 e3 e4
    exact ⟨.slice none 0 0, rfl, RpAt.s16 HX.out (wrap64 (rdN r 8 : Int)), World.ownsRow_nil _ _ _ _, HR.out.set HNe.out (i := 16) (.int .i64 (wrap64 (rdN r 8 : Int))), Touch.set HT.out (i := 16) (.inl (.inl rfl)) (.int .i64 (wrap64 (rdN r 8 : Int)))⟩
  · skip
    rw [show decide (1 ≤ 11 ∧ 11 ≤ 9) = false from rfl]
    go_wp2_with fail
    refine (rd_numberP (some g) (.pointer (some ⟨g, 0, none⟩)) rfl r 1 wx HR.out (by decide) (by decide)).mono ?_
    rintro e wx ⟨rfl, hr, hg⟩
    rw [show numW 1 = 1 from rfl] at hr
    replace HR := Lib.hid hr; clear hr
    replace HX := Lib.hid (HX.out.grown hg HNe.out)
    replace HT := Lib.hid (HT.out.grown hg (fun k hk => .inl (.inr (Option.some.inj hk).symm))); clear hg
    have c8 := u8_small (rdN r 1) (rdN1_lt r)
    go_wp2_with fail
    refine (rd_numberP (some g) (.pointer (some ⟨g, 0, none⟩)) rfl (tkR r 1) 4 wx HR.out (by decide) (by decide)).mono ?_
    rintro e wx ⟨rfl, hr, hg⟩
    rw [show numW 4 = 4 from rfl] at hr
    replace HR := Lib.hid hr; clear hr
    replace HX := Lib.hid (HX.out.grown hg HNe.out)
    replace HT := Lib.hid (HT.out.grown hg (fun k hk => .inl (.inr (Option.some.inj hk).symm))); clear hg
    have c14 := i64_small (rdN (tkR r 1) 4) (by have := rdN4_lt (tkR r 1); omega)
    have c24 := w64_small (rdN (tkR r 1) 4) (by have := rdN4_lt (tkR r 1); omega)
    go_wp2_with fail
    refine (rd_numberP (some g) (.pointer (some ⟨g, 0, none⟩)) rfl (tkR (tkR r 1) 4) 4 wx HR.out (by decide) (by decide)).mono ?_
    rintro e wx ⟨rfl, hr, hg⟩
    rw [show numW 4 = 4 from rfl] at hr
    replace HR := Lib.hid hr; clear hr
    replace HX := Lib.hid (HX.out.grown hg HNe.out)
    replace HT := Lib.hid (HT.out.grown hg (fun k hk => .inl (.inr (Option.some.inj hk).symm))); clear hg
    have c34 := i64_small (rdN (tkR (tkR r 1) 4) 4) (by have := rdN4_lt (tkR (tkR r 1) 4); omega)
    have c44 := w64_small (rdN (tkR (tkR r 1) 4) 4) (by have := rdN4_lt (tkR (tkR r 1) 4); omega)
    have HY := Lib.hid (show TxB _ wx.heap.size { rp0 0 with tk := rdN r 1, tsh := (rdN (tkR r 1) 4 : Int), tref := (rdN (tkR (tkR r 1) 4) 4 : Int) } (.slice none 0 0) from heap_alloc_new wx (.cells #[.int .i64 0, .int .u8 (rdN r 1 : Int), .int .i64 (rdN (tkR r 1) 4 : Int), .int .i64 (rdN (tkR (tkR r 1) 4) 4 : Int), .int .i64 0, .int .i64 0, .bool false, .slice none 0 0] 68))
    have HNy := Lib.hid (show wx.heap.size ≠ g ∧ wx.heap.size ≠ bq ∧ w.heap.size ≤ wx.heap.size from ⟨fun e => by have := HR.out.lt g rfl; omega, fun e => by have := blk_lt HX.out; omega, HT.out.size⟩)
    have hd := below_alloc (Below.refl wx.heap.size wx) (.cells #[.int .i64 0, .int .u8 (rdN r 1 : Int), .int .i64 (rdN (tkR r 1) 4 : Int), .int .i64 (rdN (tkR (tkR r 1) 4) 4 : Int), .int .i64 0, .int .i64 0, .bool false, .slice none 0 0] 68)
    replace HX := Lib.hid (show RpAt _ _ _ _ from blk_below HX.out hd)
    replace HR := Lib.hid (HR.out.below hd)
    replace HT := Lib.hid (HT.out.then_ hd); clear hd
    go_upto_region 12 with (fail)
    clear c8 c14 c24 c34 c44
    generalize wx.heap.size = bt at HY HNy ⊢
    generalize wx.alloc (.cells #[.int .i64 0, .int .u8 (rdN r 1 : Int), .int .i64 (rdN (tkR r 1) 4 : Int), .int .i64 (rdN (tkR (tkR r 1) 4) 4 : Int), .int .i64 0, .int .i64 0, .bool false, .slice none 0 0] 68) = wx at HY HX HR HT ⊢
    go_wp2_with fail
    refine (rd_signedP (some g) (.pointer (some ⟨g, 0, none⟩)) rfl (tkR (tkR (tkR r 1) 4) 4) wx HR.out).mono ?_
    rintro e wx ⟨rfl, hr, hg⟩
    replace HR := Lib.hid hr; clear hr
    replace HY := Lib.hid (HY.out.grown hg HNy.out.1)
    replace HX := Lib.hid (HX.out.grown hg HNe.out)
    replace HT := Lib.hid (HT.out.grown hg (fun k hk => .inl (.inr (Option.some.inj hk).symm))); clear hg
    go_wp2_with fail
    refine (rd_signedP (some g) (.pointer (some ⟨g, 0, none⟩)) rfl (tkR (tkR (tkR (tkR r 1) 4) 4) 8) wx HR.out).mono ?_
    rintro e wx ⟨rfl, hr, hg⟩
    replace HR := Lib.hid hr; clear hr
    replace HY := Lib.hid (HY.out.grown hg HNy.out.1)
    replace HX := Lib.hid (HX.out.grown hg HNe.out)
    replace HT := Lib.hid (HT.out.grown hg (fun k hk => .inl (.inr (Option.some.inj hk).symm))); clear hg
    obtain ⟨p0, p1, p2, p3, p4, p5, p6, p7⟩ := HY.out.free
    obtain ⟨y0, y1, y2, y3, y4, y5, y6, y7⟩ := HY.out.cells
    go_upto_region 13 with (fail)
    clear p0 p1 p2 p3 p4 p5 p6 p7 y0 y1 y2 y3 y4 y5 y6 y7
    replace HX := Lib.hid (RpAt.grown (RpAt.grown HX.out (Lib.grownBy_setCell _ bt 4 (.int .i64 (wrap64 (rdN (tkR (tkR (tkR r 1) 4) 4) 8 : Int)))) (Ne.symm HNy.out.2.1)) (Lib.grownBy_setCell _ bt 5 (.int .i64 (wrap64 (rdN (tkR (tkR (tkR (tkR r 1) 4) 4) 8) 8 : Int)))) (Ne.symm HNy.out.2.1))
    replace HY := Lib.hid (TxB.s5 (TxB.s4 HY.out (wrap64 (rdN (tkR (tkR (tkR r 1) 4) 4) 8 : Int))) (wrap64 (rdN (tkR (tkR (tkR (tkR r 1) 4) 4) 8) 8 : Int)))
    replace HR := Lib.hid ((HR.out.set HNy.out.1 (i := 4) (.int .i64 (wrap64 (rdN (tkR (tkR (tkR r 1) 4) 4) 8 : Int)))).set HNy.out.1 (i := 5) (.int .i64 (wrap64 (rdN (tkR (tkR (tkR (tkR r 1) 4) 4) 8) 8 : Int))))
    replace HT := Lib.hid (Touch.set (Touch.set HT.out (i := 4) (.inr HNy.out.2.2) (.int .i64 (wrap64 (rdN (tkR (tkR (tkR r 1) 4) 4) 8 : Int)))) (i := 5) (.inr HNy.out.2.2) (.int .i64 (wrap64 (rdN (tkR (tkR (tkR (tkR r 1) 4) 4) 8) 8 : Int))))
    generalize ((wx.setCell ⟨bt, 4, none⟩ (.int .i64 (wrap64 (rdN (tkR (tkR (tkR r 1) 4) 4) 8 : Int)))).setCell ⟨bt, 5, none⟩ (.int .i64 (wrap64 (rdN (tkR (tkR (tkR (tkR r 1) 4) 4) 8) 8 : Int)))) = wx at HX HY HR HT ⊢
    go_wp2_with fail
    refine (flag_ok g (tkR (tkR (tkR (tkR (tkR r 1) 4) 4) 8) 8) wx HR.out).mono ?_
    rintro e wx ⟨rfl, hr, hg⟩
    replace HR := Lib.hid hr; clear hr
    replace HY := Lib.hid (HY.out.grown hg HNy.out.1)
    replace HX := Lib.hid (HX.out.grown hg HNe.out)
    replace HT := Lib.hid (HT.out.grown hg (fun k hk => .inl (.inr (Option.some.inj hk).symm))); clear hg
    generalize hfb : decide (rdN (tkR (tkR (tkR (tkR (tkR r 1) 4) 4) 8) 8) 1 ≤ 1) = fb
    have HFb := Lib.hid hfb; clear hfb
    obtain ⟨p0, p1, p2, p3, p4, p5, p6, p7⟩ := HY.out.free
    obtain ⟨y0, y1, y2, y3, y4, y5, y6, y7⟩ := HY.out.cells
    go_upto_region 15 with (fail)
    clear p0 p1 p2 p3 p4 p5 p6 p7 y0 y1 y2 y3 y4 y5 y6 y7
    replace HX := Lib.hid (RpAt.grown HX.out (Lib.grownBy_setCell _ bt 6 (.bool (rdN (tkR (tkR (tkR (tkR (tkR r 1) 4) 4) 8) 8) 1 == 1))) (Ne.symm HNy.out.2.1))
    replace HY := Lib.hid (TxB.s6 HY.out (rdN (tkR (tkR (tkR (tkR (tkR r 1) 4) 4) 8) 8) 1 == 1))
    replace HR := Lib.hid (HR.out.set HNy.out.1 (i := 6) (.bool (rdN (tkR (tkR (tkR (tkR (tkR r 1) 4) 4) 8) 8) 1 == 1)))
    replace HT := Lib.hid (Touch.set HT.out (i := 6) (.inr HNy.out.2.2) (.bool (rdN (tkR (tkR (tkR (tkR (tkR r 1) 4) 4) 8) 8) 1 == 1)))
    generalize (wx.setCell ⟨bt, 6, none⟩ (.bool (rdN (tkR (tkR (tkR (tkR (tkR r 1) 4) 4) 8) 8) 1 == 1))) = wx at HX HY HR HT ⊢
    go_wp2_with fail
    have HSz := Lib.hid HT.out.size
    refine (post_read (some g) (tkR (tkR (tkR (tkR (tkR (tkR r 1) 4) 4) 8) 8) 1) wx HR.out).mono ?_
    rintro e wx ⟨v, rfl, hl, hr, hg⟩
    have HL := Lib.hid (hl.mono HSz.out); clear hl
    obtain ⟨va, vc, rfl⟩ := HL.out.form
    replace HR := Lib.hid hr; clear hr
    replace HY := Lib.hid (HY.out.grown hg HNy.out.1)
    replace HX := Lib.hid (HX.out.grown hg HNe.out)
    replace HT := Lib.hid (HT.out.grown hg (fun k hk => .inl (.inr (Option.some.inj hk).symm))); clear hg
    generalize hpr : prd (tkR (tkR (tkR (tkR (tkR (tkR r 1) 4) 4) 8) 8) 1) = pr at HL HR ⊢
    have HPr := Lib.hid hpr; clear hpr
    obtain ⟨ls, er, re2⟩ := pr
    simp only at HL HR ⊢
    obtain ⟨p0, p1, p2, p3, p4, p5, p6, p7⟩ := HY.out.free
    obtain ⟨y0, y1, y2, y3, y4, y5, y6, y7⟩ := HY.out.cells
    go_upto_region 16 with (fail)
    clear p0 p1 p2 p3 p4 p5 p6 p7 y0 y1 y2 y3 y4 y5 y6 y7
    have HLt := Lib.hid (fun j (hv : (Value.slice va ls.length vc).ownBlock = some j) => (World.ownsRow.lt HL.out j hv))
    replace HL := Lib.hid (LRow.grown HL.out (Lib.grownBy_setCell _ bt 7 (.slice va ls.length vc)) (LRow.neB HL.out HY.out (by decide)))
    replace HX := Lib.hid (RpAt.grown HX.out (Lib.grownBy_setCell _ bt 7 (.slice va ls.length vc)) (Ne.symm HNy.out.2.1))
    replace HY := Lib.hid (TxB.s7 HY.out (.slice va ls.length vc))
    replace HR := Lib.hid (HR.out.set HNy.out.1 (i := 7) (.slice va ls.length vc))
    replace HT := Lib.hid (Touch.set HT.out (i := 7) (.inr HNy.out.2.2) (.slice va ls.length vc))
    generalize (wx.setCell ⟨bt, 7, none⟩ (.slice va ls.length vc)) = wx at HX HY HR HT HL ⊢
    have HNv := Lib.hid (LRow.neB HL.out HX.out (by decide))
    have hcall : ∀ ok', (fb && decide (er = 0)) = ok' → ∃ v', RpAt ((((((((wx.setCell ⟨bq, 8, none⟩ (.int .i64 0)).setCell ⟨bq, 9, none⟩ (.int .u8 (rdN r 1 : Int))).setCell ⟨bq, 10, none⟩ (.int .i64 (rdN (tkR r 1) 4 : Int))).setCell ⟨bq, 11, none⟩ (.int .i64 (rdN (tkR (tkR r 1) 4) 4 : Int))).setCell ⟨bq, 12, none⟩ (.int .i64 (wrap64 (rdN (tkR (tkR (tkR r 1) 4) 4) 8 : Int)))).setCell ⟨bq, 13, none⟩ (.int .i64 (wrap64 (rdN (tkR (tkR (tkR (tkR r 1) 4) 4) 8) 8 : Int)))).setCell ⟨bq, 14, none⟩ (.bool (rdN (tkR (tkR (tkR (tkR (tkR r 1) 4) 4) 8) 8) 1 == 1))).setCell ⟨bq, 15, none⟩ (.slice va ls.length vc)) bq (rpRd 11 r).1 v' ∧ LRow ((((((((wx.setCell ⟨bq, 8, none⟩ (.int .i64 0)).setCell ⟨bq, 9, none⟩ (.int .u8 (rdN r 1 : Int))).setCell ⟨bq, 10, none⟩ (.int .i64 (rdN (tkR r 1) 4 : Int))).setCell ⟨bq, 11, none⟩ (.int .i64 (rdN (tkR (tkR r 1) 4) 4 : Int))).setCell ⟨bq, 12, none⟩ (.int .i64 (wrap64 (rdN (tkR (tkR (tkR r 1) 4) 4) 8 : Int)))).setCell ⟨bq, 13, none⟩ (.int .i64 (wrap64 (rdN (tkR (tkR (tkR (tkR r 1) 4) 4) 8) 8 : Int)))).setCell ⟨bq, 14, none⟩ (.bool (rdN (tkR (tkR (tkR (tkR (tkR r 1) 4) 4) 8) 8) 1 == 1))).setCell ⟨bq, 15, none⟩ (.slice va ls.length vc)) 81 w.heap.size v' (rpRd 11 r).2.1 ∧ RdO ((((((((wx.setCell ⟨bq, 8, none⟩ (.int .i64 0)).setCell ⟨bq, 9, none⟩ (.int .u8 (rdN r 1 : Int))).setCell ⟨bq, 10, none⟩ (.int .i64 (rdN (tkR r 1) 4 : Int))).setCell ⟨bq, 11, none⟩ (.int .i64 (rdN (tkR (tkR r 1) 4) 4 : Int))).setCell ⟨bq, 12, none⟩ (.int .i64 (wrap64 (rdN (tkR (tkR (tkR r 1) 4) 4) 8 : Int)))).setCell ⟨bq, 13, none⟩ (.int .i64 (wrap64 (rdN (tkR (tkR (tkR (tkR r 1) 4) 4) 8) 8 : Int)))).setCell ⟨bq, 14, none⟩ (.bool (rdN (tkR (tkR (tkR (tkR (tkR r 1) 4) 4) 8) 8) 1 == 1))).setCell ⟨bq, 15, none⟩ (.slice va ls.length vc)) (some g) (rpRd 11 r).2.2.2 ∧ Touch (fun i => i = bq ∨ i = g) w ((((((((wx.setCell ⟨bq, 8, none⟩ (.int .i64 0)).setCell ⟨bq, 9, none⟩ (.int .u8 (rdN r 1 : Int))).setCell ⟨bq, 10, none⟩ (.int .i64 (rdN (tkR r 1) 4 : Int))).setCell ⟨bq, 11, none⟩ (.int .i64 (rdN (tkR (tkR r 1) 4) 4 : Int))).setCell ⟨bq, 12, none⟩ (.int .i64 (wrap64 (rdN (tkR (tkR (tkR r 1) 4) 4) 8 : Int)))).setCell ⟨bq, 13, none⟩ (.int .i64 (wrap64 (rdN (tkR (tkR (tkR (tkR r 1) 4) 4) 8) 8 : Int)))).setCell ⟨bq, 14, none⟩ (.bool (rdN (tkR (tkR (tkR (tkR (tkR r 1) 4) 4) 8) 8) 1 == 1))).setCell ⟨bq, 15, none⟩ (.slice va ls.length vc)) ∧ (rpRd 11 r).2.2.1 = ok' := by
      intro ok' hok
      have e2 : (prd (tkR (tkR (tkR (tkR (tkR (tkR r 1) 4) 4) 8) 8) 1)).1 = ls ∧ (prd (tkR (tkR (tkR (tkR (tkR (tkR r 1) 4) 4) 8) 8) 1)).2.1 = er ∧ (prd (tkR (tkR (tkR (tkR (tkR (tkR r 1) 4) 4) 8) 8) 1)).2.2 = re2 := by rw [HPr.out]; exact ⟨rfl, rfl, rfl⟩
      refine ⟨.slice va ls.length vc, (RpAt.s15 (RpAt.s14 (RpAt.s13 (RpAt.s12 (RpAt.s11 (RpAt.s10 (RpAt.s9 (RpAt.s8 HX.out (0 : Int)) (rdN r 1)) (rdN (tkR r 1) 4 : Int)) (rdN (tkR (tkR r 1) 4) 4 : Int)) (wrap64 (rdN (tkR (tkR (tkR r 1) 4) 4) 8 : Int))) (wrap64 (rdN (tkR (tkR (tkR (tkR r 1) 4) 4) 8) 8 : Int))) (rdN (tkR (tkR (tkR (tkR (tkR r 1) 4) 4) 8) 8) 1 == 1)) (.slice va ls.length vc)), ?_, ?_, (Touch.set (Touch.set (Touch.set (Touch.set (Touch.set (Touch.set (Touch.set (Touch.set HT.out (i := 8) (.inl (.inl rfl)) (.int .i64 0)) (i := 9) (.inl (.inl rfl)) (.int .u8 (rdN r 1 : Int))) (i := 10) (.inl (.inl rfl)) (.int .i64 (rdN (tkR r 1) 4 : Int))) (i := 11) (.inl (.inl rfl)) (.int .i64 (rdN (tkR (tkR r 1) 4) 4 : Int))) (i := 12) (.inl (.inl rfl)) (.int .i64 (wrap64 (rdN (tkR (tkR (tkR r 1) 4) 4) 8 : Int)))) (i := 13) (.inl (.inl rfl)) (.int .i64 (wrap64 (rdN (tkR (tkR (tkR (tkR r 1) 4) 4) 8) 8 : Int)))) (i := 14) (.inl (.inl rfl)) (.bool (rdN (tkR (tkR (tkR (tkR (tkR r 1) 4) 4) 8) 8) 1 == 1))) (i := 15) (.inl (.inl rfl)) (.slice va ls.length vc)), ?_⟩
      · show LRow _ _ _ _ (prd (tkR (tkR (tkR (tkR (tkR (tkR r 1) 4) 4) 8) 8) 1)).1
        rw [e2.1]
        exact (LRow.grown (LRow.grown (LRow.grown (LRow.grown (LRow.grown (LRow.grown (LRow.grown (LRow.grown HL.out (Lib.grownBy_setCell _ bq 8 (.int .i64 0)) HNv.out) (Lib.grownBy_setCell _ bq 9 (.int .u8 (rdN r 1 : Int))) HNv.out) (Lib.grownBy_setCell _ bq 10 (.int .i64 (rdN (tkR r 1) 4 : Int))) HNv.out) (Lib.grownBy_setCell _ bq 11 (.int .i64 (rdN (tkR (tkR r 1) 4) 4 : Int))) HNv.out) (Lib.grownBy_setCell _ bq 12 (.int .i64 (wrap64 (rdN (tkR (tkR (tkR r 1) 4) 4) 8 : Int)))) HNv.out) (Lib.grownBy_setCell _ bq 13 (.int .i64 (wrap64 (rdN (tkR (tkR (tkR (tkR r 1) 4) 4) 8) 8 : Int)))) HNv.out) (Lib.grownBy_setCell _ bq 14 (.bool (rdN (tkR (tkR (tkR (tkR (tkR r 1) 4) 4) 8) 8) 1 == 1))) HNv.out) (Lib.grownBy_setCell _ bq 15 (.slice va ls.length vc)) HNv.out)
      · show RdO _ _ (prd (tkR (tkR (tkR (tkR (tkR (tkR r 1) 4) 4) 8) 8) 1)).2.2
        rw [e2.2.2]
        exact ((((((((HR.out.set HNe.out (i := 8) (.int .i64 0)).set HNe.out (i := 9) (.int .u8 (rdN r 1 : Int))).set HNe.out (i := 10) (.int .i64 (rdN (tkR r 1) 4 : Int))).set HNe.out (i := 11) (.int .i64 (rdN (tkR (tkR r 1) 4) 4 : Int))).set HNe.out (i := 12) (.int .i64 (wrap64 (rdN (tkR (tkR (tkR r 1) 4) 4) 8 : Int)))).set HNe.out (i := 13) (.int .i64 (wrap64 (rdN (tkR (tkR (tkR (tkR r 1) 4) 4) 8) 8 : Int)))).set HNe.out (i := 14) (.bool (rdN (tkR (tkR (tkR (tkR (tkR r 1) 4) 4) 8) 8) 1 == 1))).set HNe.out (i := 15) (.slice va ls.length vc))
      · show (decide (rdN (tkR (tkR (tkR (tkR (tkR r 1) 4) 4) 8) 8) 1 ≤ 1) && decide ((prd (tkR (tkR (tkR (tkR (tkR (tkR r 1) 4) 4) 8) 8) 1)).2.1 = 0)) = ok'
        rw [HFb.out, e2.2.1]
        exact hok
    have HCall := Lib.hid hcall; clear hcall
    cases fb with
    | false =>
      obtain ⟨v', k1, k2, k3, k4, k5⟩ := HCall.out false rfl
      obtain ⟨f0, f1, f2, f3, f4, f5, f6, f7, f8, f9, f10, f11, f12, f13, f14, f15, f16, f17, f18⟩ := HX.out.free
      obtain ⟨z0, z1, z2, z3, z4, z5, z6, z7, z8, z9, z10, z11, z12, z13, z14, z15, z16, z17, z18⟩ := HX.out.cells
      obtain ⟨p0, p1, p2, p3, p4, p5, p6, p7⟩ := HY.out.free
      obtain ⟨y0, y1, y2, y3, y4, y5, y6, y7⟩ := HY.out.cells
      go_wp2
      go_ret
      obtain ⟨e1, e2, e3, e4⟩ := prod4 HP.out
      subst e1 e2 e3 e4
      first | exact ⟨by rw [k5]; rfl, v', k1, k2, k3, k4⟩ | exact ⟨by rw [k5]; rfl, k1, k2, k3, k4⟩ | exact ⟨v', by rw [k5], k1, k2, k3, k4⟩ | exact ⟨by rw [k5], k1, k2, k3, k4⟩
    | true =>
      by_cases her : er = 0
      · subst her
        obtain ⟨v', k1, k2, k3, k4, k5⟩ := HCall.out true rfl
        obtain ⟨f0, f1, f2, f3, f4, f5, f6, f7, f8, f9, f10, f11, f12, f13, f14, f15, f16, f17, f18⟩ := HX.out.free
        obtain ⟨z0, z1, z2, z3, z4, z5, z6, z7, z8, z9, z10, z11, z12, z13, z14, z15, z16, z17, z18⟩ := HX.out.cells
        obtain ⟨p0, p1, p2, p3, p4, p5, p6, p7⟩ := HY.out.free
        obtain ⟨y0, y1, y2, y3, y4, y5, y6, y7⟩ := HY.out.cells
        go_wp2
        go_ret
        obtain ⟨e1, e2, e3, e4⟩ := prod4 HP.out
        subst e1 e2 e3 e4
        first | exact ⟨by rw [k5]; rfl, v', k1, k2, k3, k4⟩ | exact ⟨by rw [k5]; rfl, k1, k2, k3, k4⟩ | exact ⟨v', by rw [k5], k1, k2, k3, k4⟩ | exact ⟨by rw [k5], k1, k2, k3, k4⟩
      · obtain ⟨v', k1, k2, k3, k4, k5⟩ := HCall.out false (by rw [decide_eq_false her]; rfl)
        have c9 : (er == 0) = false := beq_eq_false_iff_ne.2 her
        obtain ⟨f0, f1, f2, f3, f4, f5, f6, f7, f8, f9, f10, f11, f12, f13, f14, f15, f16, f17, f18⟩ := HX.out.free
        obtain ⟨z0, z1, z2, z3, z4, z5, z6, z7, z8, z9, z10, z11, z12, z13, z14, z15, z16, z17, z18⟩ := HX.out.cells
        obtain ⟨p0, p1, p2, p3, p4, p5, p6, p7⟩ := HY.out.free
        obtain ⟨y0, y1, y2, y3, y4, y5, y6, y7⟩ := HY.out.cells
        go_wp2
        go_ret
        obtain ⟨e1, e2, e3, e4⟩ := prod4 HP.out
        subst e1 e2 e3 e4
        first | exact ⟨by rw [k5]; rfl, v', k1, k2, k3, k4⟩ | exact ⟨by rw [k5]; rfl, k1, k2, k3, k4⟩ | exact ⟨v', by rw [k5], k1, k2, k3, k4⟩ | exact ⟨by rw [k5], k1, k2, k3, k4⟩
  · skip
    rw [show decide (1 ≤ 12 ∧ 12 ≤ 9) = false from rfl]
    go_wp2_with fail
    refine (read_totals g r wx HR.out).mono ?_
    rintro e wx ⟨rfl, hr, hg⟩
    rw [totC5]
    replace HR := Lib.hid hr; clear hr
    replace HX := Lib.hid (HX.out.grown hg HNe.out)
    replace HT := Lib.hid (HT.out.grown hg (fun k hk => .inl (.inr (Option.some.inj hk).symm))); clear hg
    have c14 := i64_small (rdN r 4) (by have := rdN4_lt r; omega)
    have c24 := w64_small (rdN r 4) (by have := rdN4_lt r; omega)
    obtain ⟨f0, f1, f2, f3, f4, f5, f6, f7, f8, f9, f10, f11, f12, f13, f14, f15, f16, f17, f18⟩ := HX.out.free
    obtain ⟨z0, z1, z2, z3, z4, z5, z6, z7, z8, z9, z10, z11, z12, z13, z14, z15, z16, z17, z18⟩ := HX.out.cells
    go_wp2
    go_ret
    obtain ⟨e1, e2, e3, e4⟩ := prod4 HP.out
    subst e1 e2 e3 e4
    exact ⟨.slice none 0 0, rfl, (RpAt.s7 (RpAt.s6 (RpAt.s5 (RpAt.s4 (RpAt.s3 (RpAt.s2 HX.out (rdN r 4 : Int)) (sgV 0 (tkR r 4))) (sgV 1 (tkR r 4))) (sgV 2 (tkR r 4))) (sgV 3 (tkR r 4))) (sgV 4 (tkR r 4))), World.ownsRow_nil _ _ _ _, ((((((HR.out.set HNe.out (i := 2) (.int .i64 (rdN r 4 : Int))).set HNe.out (i := 3) (.int .i64 (sgV 0 (tkR r 4)))).set HNe.out (i := 4) (.int .i64 (sgV 1 (tkR r 4)))).set HNe.out (i := 5) (.int .i64 (sgV 2 (tkR r 4)))).set HNe.out (i := 6) (.int .i64 (sgV 3 (tkR r 4)))).set HNe.out (i := 7) (.int .i64 (sgV 4 (tkR r 4)))), (Touch.set (Touch.set (Touch.set (Touch.set (Touch.set (Touch.set HT.out (i := 2) (.inl (.inl rfl)) (.int .i64 (rdN r 4 : Int))) (i := 3) (.inl (.inl rfl)) (.int .i64 (sgV 0 (tkR r 4)))) (i := 4) (.inl (.inl rfl)) (.int .i64 (sgV 1 (tkR r 4)))) (i := 5) (.inl (.inl rfl)) (.int .i64 (sgV 2 (tkR r 4)))) (i := 6) (.inl (.inl rfl)) (.int .i64 (sgV 3 (tkR r 4)))) (i := 7) (.inl (.inl rfl)) (.int .i64 (sgV 4 (tkR r 4))))⟩
  · skip
    rw [show decide (1 ≤ 13 ∧ 13 ≤ 9) = false from rfl]
    go_wp2_with fail
    refine (rd_signedP (some g) (.pointer (some ⟨g, 0, none⟩)) rfl r wx HR.out).mono ?_
    rintro e wx ⟨rfl, hr, hg⟩
    replace HR := Lib.hid hr; clear hr
    replace HX := Lib.hid (HX.out.grown hg HNe.out)
    replace HT := Lib.hid (HT.out.grown hg (fun k hk => .inl (.inr (Option.some.inj hk).symm))); clear hg
    go_wp2_with fail
    refine (rd_signedP (some g) (.pointer (some ⟨g, 0, none⟩)) rfl (tkR r 8) wx HR.out).mono ?_
    rintro e wx ⟨rfl, hr, hg⟩
    replace HR := Lib.hid hr; clear hr
    replace HX := Lib.hid (HX.out.grown hg HNe.out)
    replace HT := Lib.hid (HT.out.grown hg (fun k hk => .inl (.inr (Option.some.inj hk).symm))); clear hg
    obtain ⟨f0, f1, f2, f3, f4, f5, f6, f7, f8, f9, f10, f11, f12, f13, f14, f15, f16, f17, f18⟩ := HX.out.free
    obtain ⟨z0, z1, z2, z3, z4, z5, z6, z7, z8, z9, z10, z11, z12, z13, z14, z15, z16, z17, z18⟩ := HX.out.cells
    go_wp2
    go_ret
    obtain ⟨e1, e2, e3, e4⟩ := prod4 HP.out
    subst e1 e2 e3 e4
    exact ⟨.slice none 0 0, rfl, (RpAt.s17 (RpAt.s16 HX.out (wrap64 (rdN r 8 : Int))) (wrap64 (rdN (tkR r 8) 8 : Int))), World.ownsRow_nil _ _ _ _, ((HR.out.set HNe.out (i := 16) (.int .i64 (wrap64 (rdN r 8 : Int)))).set HNe.out (i := 17) (.int .i64 (wrap64 (rdN (tkR r 8) 8 : Int)))), (Touch.set (Touch.set HT.out (i := 16) (.inl (.inl rfl)) (.int .i64 (wrap64 (rdN r 8 : Int)))) (i := 17) (.inl (.inl rfl)) (.int .i64 (wrap64 (rdN (tkR r 8) 8 : Int))))⟩
  · skip
    rw [show decide (1 ≤ 14 ∧ 14 ≤ 9) = false from rfl]
    go_wp2_with fail
    refine (rd_numberP (some g) (.pointer (some ⟨g, 0, none⟩)) rfl r 4 wx HR.out (by decide) (by decide)).mono ?_
    rintro e wx ⟨rfl, hr, hg⟩
    rw [show numW 4 = 4 from rfl] at hr
    replace HR := Lib.hid hr; clear hr
    replace HX := Lib.hid (HX.out.grown hg HNe.out)
    replace HT := Lib.hid (HT.out.grown hg (fun k hk => .inl (.inr (Option.some.inj hk).symm))); clear hg
    have c14 := i64_small (rdN r 4) (by have := rdN4_lt r; omega)
    have c24 := w64_small (rdN r 4) (by have := rdN4_lt r; omega)
    go_wp2_with fail
    refine (rd_numberP (some g) (.pointer (some ⟨g, 0, none⟩)) rfl (tkR r 4) 5 wx HR.out (by decide) (by decide)).mono ?_
    rintro e wx ⟨rfl, hr, hg⟩
    rw [show numW 5 = 5 from rfl] at hr
    replace HR := Lib.hid hr; clear hr
    replace HX := Lib.hid (HX.out.grown hg HNe.out)
    replace HT := Lib.hid (HT.out.grown hg (fun k hk => .inl (.inr (Option.some.inj hk).symm))); clear hg
    have c15 := i64_small (rdN (tkR r 4) 5) (by have := rdN5_lt (tkR r 4); omega)
    have c25 := w64_small (rdN (tkR r 4) 5) (by have := rdN5_lt (tkR r 4); omega)
    obtain ⟨f0, f1, f2, f3, f4, f5, f6, f7, f8, f9, f10, f11, f12, f13, f14, f15, f16, f17, f18⟩ := HX.out.free
    obtain ⟨z0, z1, z2, z3, z4, z5, z6, z7, z8, z9, z10, z11, z12, z13, z14, z15, z16, z17, z18⟩ := HX.out.cells
    go_wp2_with fail
    clear f0 f1 f2 f3 f4 f5 f6 f7 f8 f9 f10 f11 f12 f13 f14 f15 f16 f17 f18 z0 z1 z2 z3 z4 z5 z6 z7 z8 z9 z10 z11 z12 z13 z14 z15 z16 z17 z18
    replace HX := Lib.hid (RpAt.s8 (RpAt.s1 HX.out (rdN r 4 : Int)) (rdN (tkR r 4) 5 : Int))
    replace HR := Lib.hid ((HR.out.set HNe.out (i := 1) (.int .i64 (rdN r 4 : Int))).set HNe.out (i := 8) (.int .i64 (rdN (tkR r 4) 5 : Int)))
    replace HT := Lib.hid (Touch.set (Touch.set HT.out (i := 1) (.inl (.inl rfl)) (.int .i64 (rdN r 4 : Int))) (i := 8) (.inl (.inl rfl)) (.int .i64 (rdN (tkR r 4) 5 : Int)))
    generalize ((wx.setCell ⟨bq, 1, none⟩ (.int .i64 (rdN r 4 : Int))).setCell ⟨bq, 8, none⟩ (.int .i64 (rdN (tkR r 4) 5 : Int))) = wx at HX HR HT ⊢
    clear c14 c24 c15 c25
    refine (flag_ok g (tkR (tkR r 4) 5) wx HR.out).mono ?_
    rintro e wx ⟨rfl, hr, hg⟩
    replace HR := Lib.hid hr; clear hr
    replace HX := Lib.hid (HX.out.grown hg HNe.out)
    replace HT := Lib.hid (HT.out.grown hg (fun k hk => .inl (.inr (Option.some.inj hk).symm))); clear hg
    obtain ⟨f0, f1, f2, f3, f4, f5, f6, f7, f8, f9, f10, f11, f12, f13, f14, f15, f16, f17, f18⟩ := HX.out.free
    obtain ⟨z0, z1, z2, z3, z4, z5, z6, z7, z8, z9, z10, z11, z12, z13, z14, z15, z16, z17, z18⟩ := HX.out.cells
    go_wp2
    go_ret
    obtain ⟨e1, e2, e3, e4⟩ := prod4 HP.out
    subst e1 e2 e3 e4
    exact ⟨.slice none 0 0, rfl, (RpAt.s18 HX.out (rdN (tkR (tkR r 4) 5) 1 == 1)), World.ownsRow_nil _ _ _ _, (HR.out.set HNe.out (i := 18) (.bool (rdN (tkR (tkR r 4) 5) 1 == 1))), (Touch.set HT.out (i := 18) (.inl (.inl rfl)) (.bool (rdN (tkR (tkR r 4) 5) 1 == 1)))⟩
end Go.Proofs.Ytepgdjkmobngcaa

/-! req: ParseReply. No conditions beyond those that are written. -/
namespace Go.Proofs.Ytepgdjkmobngcaa
open Go.RowKit Go.Lib Go.Proofs.Ytepgdjkmobngcaa.P Go.Proofs.Ytepgdjkmobngcaa.BeS Go.Proofs.YtepgdjkmobngcaaW.PrintWords Go.Proofs.YtepgdjkmobngcaaW.PrintLast Go.Proofs.YtepgdjkmobngcaaW.PrintMore
set_option linter.unusedVariables false
set_option linter.unusedSimpArgs false
--@tables
theorem rpC_one (r : RP) (a : Option Addr) (n c : Nat) : (rpC r (.slice a n c)).all (·.oneCell') = true := by simp [rpC, Value.oneCell']
theorem prod3 {α β γ : Type} {p : α × β × γ} {a : α} {b : β} {c : γ} (h : p = (a, b, c)) : p.1 = a ∧ p.2.1 = b ∧ p.2.2 = c := by subst h; exact ⟨rfl, rfl, rfl⟩
/-- What ParseReply answers: the reply, its lines, the error. -/
def parA (k : Nat) (l : List UInt8) : RP × List Ln × Int := if isK k then (match parV k l with
  | some (r, xs) => (r, xs, 0)
  | none => (rp0 0, [], 4)) else (rp0 0, [], 2)
theorem rpn_one (n : Nat) : (#[.int .i64 (n : Int), .int .i64 0, .int .i64 0, .int .i64 0, .int .i64 0, .int .i64 0, .int .i64 0, .int .i64 0, .int .i64 0, .int .u8 0, .int .i64 0, .int .i64 0, .int .i64 0, .int .i64 0, .bool false, .slice none 0 0, .int .i64 0, .int .i64 0, .bool false] : Array Value).all (·.oneCell') = true := by simp [Value.oneCell']
set_option maxHeartbeats 16000000 in
set_option maxRecDepth 8000 in
theorem rep_parse (k : Nat) (hk8 : k < 256) (s : ByteArray) (hs : s.size ≤ 1000000) (w : World) :
    Calls Try.prog 16 #[.int .u8 (k : Int), .string s] w fun x w' => ∃ v, x = .returned (.tuple #[.agg (rpC (parA k s.data.toList).1 v), .int .i64 (parA k s.data.toList).2.2]) ∧ LRow w' 81 w.heap.size v (parA k s.data.toList).2.1 ∧ Below w.heap.size w w' := by
  have HS := Lib.hid hs; clear hs
  generalize hA : parA k s.data.toList = A
  have HA := Lib.hid hA; clear hA
  obtain ⟨ra, xa, ea⟩ := A
  unfold parA parV at HA
  simp only
  have ha := below_alloc (Below.refl w.heap.size w) (.cells #[.int .i64 0, .int .i64 0, .int .i64 0, .int .i64 0, .int .i64 0, .int .i64 0, .int .i64 0, .int .i64 0, .int .i64 0, .int .u8 0, .int .i64 0, .int .i64 0, .int .i64 0, .int .i64 0, .bool false, .slice none 0 0, .int .i64 0, .int .i64 0, .bool false] 71)
  have HZ := Lib.hid (show RpAt _ w.heap.size (rp0 0) (.slice none 0 0) from heap_alloc_new w (.cells #[.int .i64 0, .int .i64 0, .int .i64 0, .int .i64 0, .int .i64 0, .int .i64 0, .int .i64 0, .int .i64 0, .int .i64 0, .int .u8 0, .int .i64 0, .int .i64 0, .int .i64 0, .int .i64 0, .bool false, .slice none 0 0, .int .i64 0, .int .i64 0, .bool false] 71))
  have HB := Lib.hid ha; clear ha
  go_enter Try.func16, Try.ntmps16
  go_wp2_with fail
  generalize w.alloc (.cells #[.int .i64 0, .int .i64 0, .int .i64 0, .int .i64 0, .int .i64 0, .int .i64 0, .int .i64 0, .int .i64 0, .int .i64 0, .int .u8 0, .int .i64 0, .int .i64 0, .int .i64 0, .int .i64 0, .bool false, .slice none 0 0, .int .i64 0, .int .i64 0, .bool false] 71) = w1 at HZ HB ⊢
  generalize hbz : w.heap.size = bz at HZ ⊢
  have HBz := Lib.hid hbz; clear hbz
  refine (is_ok k w1).mono ?_
  rintro e w2 ⟨rfl, hd⟩
  replace hd := hd.below
  replace HZ := Lib.hid (show RpAt _ _ _ _ from blk_below HZ.out hd)
  replace HB := Lib.hid (chain2 HB.out hd); clear hd
  by_cases hk : isK k
  · rw [decide_eq_true hk]
    have hA := HA.out
    rw [if_pos hk] at hA
    replace HA := Lib.hid hA; clear hA
    go_wp2_with fail
    refine (rd_new s (by have := HS.out; omega) w2).mono ?_
    rintro e w3 ⟨rfl, hr, _, hd⟩
    have HR := Lib.hid hr; clear hr
    have HZ1 := Lib.hid (blk_lt HZ.out)
    replace HZ := Lib.hid (show RpAt _ _ _ _ from blk_below HZ.out hd)
    replace HB := Lib.hid (chain2 HB.out hd); clear hd
    have HNz := Lib.hid (show bz ≠ w2.heap.size from fun e => by have := HZ1.out; omega)
    have HGb := Lib.hid (show bz ≤ w2.heap.size from by have := HZ1.out; omega)
    generalize w2.heap.size = g at HR HNz HGb ⊢
    clear HZ1
    go_wp2_with fail
    refine (rd_numberP (some g) (.pointer (some ⟨g, 0, none⟩)) rfl (s.data.toList, false) 1 w3 HR.out (by decide) (by decide)).mono ?_
    rintro e w4 ⟨rfl, hr, hg⟩
    rw [show numW 1 = 1 from rfl] at hr
    replace HR := Lib.hid hr; clear hr
    replace HZ := Lib.hid (show RpAt _ _ _ _ from blk_other HZ.out hg HNz.out)
    replace HB := Lib.hid (pw_below_grown HB.out _ HB.out.size hg (fun i hi => by have h1 := HBz.out; have h2 := HGb.out; have h3 := Option.some.inj hi; omega)); clear hg
    have c1 := i64_small (rdN (s.data.toList, false) 1) (by have := rdN1_lt (s.data.toList, false); omega)
    have c2 := w64_small (rdN (s.data.toList, false) 1) (by have := rdN1_lt (s.data.toList, false); omega)
    generalize rdN (s.data.toList, false) 1 = n at c1 c2 HA ⊢
    generalize tkR (s.data.toList, false) 1 = r1 at HR HA
    have HQ := Lib.hid (show RpAt _ w4.heap.size (rp0 (n : Int)) (.slice none 0 0) from heap_alloc_new w4 (.cells #[.int .i64 (n : Int), .int .i64 0, .int .i64 0, .int .i64 0, .int .i64 0, .int .i64 0, .int .i64 0, .int .i64 0, .int .i64 0, .int .u8 0, .int .i64 0, .int .i64 0, .int .i64 0, .int .i64 0, .bool false, .slice none 0 0, .int .i64 0, .int .i64 0, .bool false] 71))
    have hd := below_alloc (Below.refl w4.heap.size w4) (.cells #[.int .i64 (n : Int), .int .i64 0, .int .i64 0, .int .i64 0, .int .i64 0, .int .i64 0, .int .i64 0, .int .i64 0, .int .i64 0, .int .u8 0, .int .i64 0, .int .i64 0, .int .i64 0, .int .i64 0, .bool false, .slice none 0 0, .int .i64 0, .int .i64 0, .bool false] 71)
    have HGq := Lib.hid (HR.out.lt g rfl)
    have HZq := Lib.hid (blk_lt HZ.out)
    replace HZ := Lib.hid (show RpAt _ _ _ _ from blk_below HZ.out hd)
    replace HR := Lib.hid (HR.out.below hd)
    replace HB := Lib.hid (chain2 HB.out hd); clear hd
    go_upto_region 5 with (refine wpList_store_new rfl 71 _ _ rfl w4 _ #[.int .i64 (n : Int), .int .i64 0, .int .i64 0, .int .i64 0, .int .i64 0, .int .i64 0, .int .i64 0, .int .i64 0, .int .i64 0, .int .u8 0, .int .i64 0, .int .i64 0, .int .i64 0, .int .i64 0, .bool false, .slice none 0 0, .int .i64 0, .int .i64 0, .bool false] rfl rfl rp_size rfl (rpn_one _) ?_)
    clear c1 c2
    generalize w4.alloc (.cells #[.int .i64 (n : Int), .int .i64 0, .int .i64 0, .int .i64 0, .int .i64 0, .int .i64 0, .int .i64 0, .int .i64 0, .int .i64 0, .int .u8 0, .int .i64 0, .int .i64 0, .int .i64 0, .int .i64 0, .bool false, .slice none 0 0, .int .i64 0, .int .i64 0, .bool false] 71) = w5 at HQ HZ HR HB ⊢
    have HNq := Lib.hid (show w4.heap.size ≠ g from fun e => by have := HGq.out; omega)
    have HNqz := Lib.hid (show bz ≠ w4.heap.size from fun e => by have := HZq.out; omega)
    have HBq := Lib.hid (show bz ≤ w4.heap.size from by have := HZq.out; omega)
    generalize w4.heap.size = bq at HQ HNq HNqz HBq ⊢
    clear HGq HZq
    have q0 := HQ.out.cells.1
    rw [show (rp0 (n : Int)).err = (n : Int) from rfl] at q0
    by_cases hn : n = 0
    · subst hn
      have hA := HA.out
      rw [if_pos rfl] at hA
      replace HA := Lib.hid hA; clear hA
      go_wp2_with fail
      clear q0
      refine (rep_read k hk bq g HNq.out r1 w5 HQ.out HR.out).mono ?_
      rintro e w6 ⟨v, rfl, hq, hl, hr, ht⟩
      replace HQ := Lib.hid hq; clear hq
      have HLb := Lib.hid (fun j (hv : v.ownBlock = some j) => (World.ownsRow.lt hl j hv).1)
      have HZw := Lib.hid (blk_lt HZ.out)
      have HL := Lib.hid (hl.mono HB.out.size); clear hl
      replace HR := Lib.hid hr; clear hr
      replace HZ := Lib.hid (show RpAt _ _ _ _ from ht.blk HZ.out (fun e => e.elim HNqz.out HNz.out))
      replace HB := Lib.hid (HB.out.trans (ht.below (fun i hi => by have h1 := HBz.out; have h2 := HBq.out; have h3 := HGb.out; rcases hi with hi | hi <;> omega) HB.out.size)); clear ht
      generalize rpRd k r1 = D at HQ HL HR HA ⊢
      obtain ⟨rp, xs, ok, r2⟩ := D
      simp only at HQ HL HR HA ⊢
      cases ok with
      | true =>
        go_wp2_with fail
        refine (rd_end (some g) r2 w6 HR.out).mono ?_
        rintro e w7 ⟨rfl, hd⟩
        rw [rdE_is]
        replace HQ := Lib.hid (show RpAt _ _ _ _ from blk_below HQ.out hd)
        replace HL := Lib.hid (HL.out.below hd)
        replace HZ := Lib.hid (show RpAt _ _ _ _ from blk_below HZ.out hd)
        replace HB := Lib.hid (chain2 HB.out hd); clear hd
        by_cases hf : fin r2
        · rw [if_pos hf]
          have hA := HA.out
          rw [if_pos ⟨trivial, hf⟩] at hA
          replace HA := Lib.hid hA; clear hA
          obtain ⟨va, vc, rfl⟩ := HL.out.form
          obtain ⟨e1, e2, e3⟩ := prod3 HA.out
          subst e1 e2 e3
          go_wp2_with (first | refine wpList_load_row rfl 71 (.tmp 7) rfl bq rfl _ HQ.out Try.underlying71 rp_size ?_ | refine wpList_store_row rfl 71 _ _ rfl bz (rpC rp (.slice va xs.length vc)) rfl rfl 71 _ HZ.out rp_size rfl (rpC_one _ _ _ _) ?_)
          have hz := setRow_heap _ bz _ (rpC rp (.slice va xs.length vc)) _ _ HZ.out
          refine bodyPost_ret (results_ct rfl _ _ bz 71 _ (0, 0) _ rfl hz Try.underlying71 rfl rp_size) rfl ?_
          exact ⟨(.slice va xs.length vc), rfl, HL.out.grown (setRow_grown _ bz _) (LRow.neB HL.out HZ.out (by decide)), pw_below_grown HB.out _ HB.out.size (setRow_grown _ bz _) (fun i hi => by have h1 := HBz.out; have h2 := Option.some.inj hi; omega)⟩
        · rw [if_neg hf]
          have hA := HA.out
          rw [if_neg (fun h => hf h.2)] at hA
          replace HA := Lib.hid hA; clear hA
          obtain ⟨e1, e2, e3⟩ := prod3 HA.out
          subst e1 e2 e3
          go_wp2_with (refine wpList_store_row rfl 71 _ _ rfl bz #[.int .i64 0, .int .i64 0, .int .i64 0, .int .i64 0, .int .i64 0, .int .i64 0, .int .i64 0, .int .i64 0, .int .i64 0, .int .u8 0, .int .i64 0, .int .i64 0, .int .i64 0, .int .i64 0, .bool false, .slice none 0 0, .int .i64 0, .int .i64 0, .bool false] rfl rfl 71 _ HZ.out rp_size rfl rp2_one0 ?_)
          have hz := setRow_heap _ bz _ #[.int .i64 0, .int .i64 0, .int .i64 0, .int .i64 0, .int .i64 0, .int .i64 0, .int .i64 0, .int .i64 0, .int .i64 0, .int .u8 0, .int .i64 0, .int .i64 0, .int .i64 0, .int .i64 0, .bool false, .slice none 0 0, .int .i64 0, .int .i64 0, .bool false] _ _ HZ.out
          refine bodyPost_ret (results_ct rfl _ _ bz 71 _ (0, 0) _ rfl hz Try.underlying71 rfl rp_size) rfl ?_
          exact ⟨.slice none 0 0, rfl, World.ownsRow_nil _ _ _ _, pw_below_grown HB.out _ HB.out.size (setRow_grown _ bz _) (fun i hi => by have h1 := HBz.out; have h2 := Option.some.inj hi; omega)⟩
      | false =>
        have hA := HA.out
        rw [if_neg (fun h => by cases h.1)] at hA
        replace HA := Lib.hid hA; clear hA
        obtain ⟨e1, e2, e3⟩ := prod3 HA.out
        subst e1 e2 e3
        go_wp2_with (refine wpList_store_row rfl 71 _ _ rfl bz #[.int .i64 0, .int .i64 0, .int .i64 0, .int .i64 0, .int .i64 0, .int .i64 0, .int .i64 0, .int .i64 0, .int .i64 0, .int .u8 0, .int .i64 0, .int .i64 0, .int .i64 0, .int .i64 0, .bool false, .slice none 0 0, .int .i64 0, .int .i64 0, .bool false] rfl rfl 71 _ HZ.out rp_size rfl rp2_one0 ?_)
        have hz := setRow_heap _ bz _ #[.int .i64 0, .int .i64 0, .int .i64 0, .int .i64 0, .int .i64 0, .int .i64 0, .int .i64 0, .int .i64 0, .int .i64 0, .int .u8 0, .int .i64 0, .int .i64 0, .int .i64 0, .int .i64 0, .bool false, .slice none 0 0, .int .i64 0, .int .i64 0, .bool false] _ _ HZ.out
        refine bodyPost_ret (results_ct rfl _ _ bz 71 _ (0, 0) _ rfl hz Try.underlying71 rfl rp_size) rfl ?_
        exact ⟨.slice none 0 0, rfl, World.ownsRow_nil _ _ _ _, pw_below_grown HB.out _ HB.out.size (setRow_grown _ bz _) (fun i hi => by have h1 := HBz.out; have h2 := Option.some.inj hi; omega)⟩
    · have hA := HA.out
      rw [if_neg hn] at hA
      replace HA := Lib.hid hA; clear hA
      have c3 : ((n : Int) == 0) = false := beq_eq_false_iff_ne.2 (by omega)
      have c4 : (n == 0) = false := beq_eq_false_iff_ne.2 hn
      have c5 : ((n : Int) = 0) = False := eq_false (by omega)
      go_wp2_with fail
      clear q0
      refine (rd_end (some g) r1 w5 HR.out).mono ?_
      rintro e w7 ⟨rfl, hd⟩
      rw [rdE_is]
      replace HQ := Lib.hid (show RpAt _ _ _ _ from blk_below HQ.out hd)
      replace HZ := Lib.hid (show RpAt _ _ _ _ from blk_below HZ.out hd)
      replace HB := Lib.hid (chain2 HB.out hd); clear hd
      by_cases hf : fin r1
      · rw [if_pos hf]
        have hA := HA.out
        rw [if_pos hf] at hA
        replace HA := Lib.hid hA; clear hA
        obtain ⟨e1, e2, e3⟩ := prod3 HA.out
        subst e1 e2 e3
        go_wp2_with (first | refine wpList_load_row rfl 71 (.tmp 7) rfl bq rfl _ HQ.out Try.underlying71 rp_size ?_ | refine wpList_store_row rfl 71 _ _ rfl bz (rpC (rp0 (n : Int)) (.slice none 0 0)) rfl rfl 71 _ HZ.out rp_size rfl (rpC_one _ _ _ _) ?_)
        have hz := setRow_heap _ bz _ (rpC (rp0 (n : Int)) (.slice none 0 0)) _ _ HZ.out
        refine bodyPost_ret (results_ct rfl _ _ bz 71 _ (0, 0) _ rfl hz Try.underlying71 rfl rp_size) rfl ?_
        exact ⟨(.slice none 0 0), rfl, World.ownsRow_nil _ _ _ _, pw_below_grown HB.out _ HB.out.size (setRow_grown _ bz _) (fun i hi => by have h1 := HBz.out; have h2 := Option.some.inj hi; omega)⟩
      · rw [if_neg hf]
        have hA := HA.out
        rw [if_neg hf] at hA
        replace HA := Lib.hid hA; clear hA
        obtain ⟨e1, e2, e3⟩ := prod3 HA.out
        subst e1 e2 e3
        go_wp2_with (refine wpList_store_row rfl 71 _ _ rfl bz #[.int .i64 0, .int .i64 0, .int .i64 0, .int .i64 0, .int .i64 0, .int .i64 0, .int .i64 0, .int .i64 0, .int .i64 0, .int .u8 0, .int .i64 0, .int .i64 0, .int .i64 0, .int .i64 0, .bool false, .slice none 0 0, .int .i64 0, .int .i64 0, .bool false] rfl rfl 71 _ HZ.out rp_size rfl rp2_one0 ?_)
        have hz := setRow_heap _ bz _ #[.int .i64 0, .int .i64 0, .int .i64 0, .int .i64 0, .int .i64 0, .int .i64 0, .int .i64 0, .int .i64 0, .int .i64 0, .int .u8 0, .int .i64 0, .int .i64 0, .int .i64 0, .int .i64 0, .bool false, .slice none 0 0, .int .i64 0, .int .i64 0, .bool false] _ _ HZ.out
        refine bodyPost_ret (results_ct rfl _ _ bz 71 _ (0, 0) _ rfl hz Try.underlying71 rfl rp_size) rfl ?_
        exact ⟨.slice none 0 0, rfl, World.ownsRow_nil _ _ _ _, pw_below_grown HB.out _ HB.out.size (setRow_grown _ bz _) (fun i hi => by have h1 := HBz.out; have h2 := Option.some.inj hi; omega)⟩
  · rw [decide_eq_false hk]
    have hA := HA.out
    rw [if_neg hk] at hA
    replace HA := Lib.hid hA; clear hA
    obtain ⟨e1, e2, e3⟩ := prod3 HA.out
    subst e1 e2 e3
    go_wp2_with (refine wpList_store_row rfl 71 _ _ rfl bz #[.int .i64 0, .int .i64 0, .int .i64 0, .int .i64 0, .int .i64 0, .int .i64 0, .int .i64 0, .int .i64 0, .int .i64 0, .int .u8 0, .int .i64 0, .int .i64 0, .int .i64 0, .int .i64 0, .bool false, .slice none 0 0, .int .i64 0, .int .i64 0, .bool false] rfl rfl 71 _ HZ.out rp_size rfl rp2_one0 ?_)
    have hz := setRow_heap _ bz _ #[.int .i64 0, .int .i64 0, .int .i64 0, .int .i64 0, .int .i64 0, .int .i64 0, .int .i64 0, .int .i64 0, .int .i64 0, .int .u8 0, .int .i64 0, .int .i64 0, .int .i64 0, .int .i64 0, .bool false, .slice none 0 0, .int .i64 0, .int .i64 0, .bool false] _ _ HZ.out
    refine bodyPost_ret (results_ct rfl _ _ bz 71 _ (0, 0) _ rfl hz Try.underlying71 rfl rp_size) rfl ?_
    exact ⟨.slice none 0 0, rfl, World.ownsRow_nil _ _ _ _, pw_below_grown HB.out _ HB.out.size (setRow_grown _ bz _) (fun i hi => by have h1 := HBz.out; have h2 := Option.some.inj hi; omega)⟩
end Go.Proofs.Ytepgdjkmobngcaa

/-! req: the law's 'reply': the program's reply. No conditions beyond those that are written. -/
namespace Go.Proofs.Ytepgdjkmobngcaa
open Go.RowKit Go.Lib Go.Proofs.Ytepgdjkmobngcaa.P Go.Proofs.Ytepgdjkmobngcaa.BeS Go.Proofs.YtepgdjkmobngcaaW.PrintWords Go.Proofs.YtepgdjkmobngcaaW.PrintLast Go.Proofs.YtepgdjkmobngcaaW.PrintMore
set_option linter.unusedVariables false
set_option linter.unusedSimpArgs false
--@tables
/-- A reply as the law has it, but for its lines. -/
structure XP where
  err : Int
  num : Int
  u0 : Int
  u1 : Int
  u2 : Int
  u3 : Int
  u4 : Int
  u5 : Int
  t0 : Int
  t1 : Int
  t2 : Int
  t3 : Int
  vd : Bool
def tkX (t : Int) : Nat := (IntKind.u8.wrap (Go.bits .and .i64 t 255)).toNat
theorem tkX_is (t : Int) : IntKind.u8.wrap (Go.bits .and .i64 t 255) = (tkX t : Int) ∧ tkX t < 256 := by
  unfold tkX
  rw [IntKind.wrap_u8]
  omega
def xpC (x : XP) (v : Value) : Array Value := #[.int .i64 x.err, .int .i64 x.num, .int .i64 x.u0, .int .i64 x.u1, .int .i64 x.u2, .int .i64 x.u3, .int .i64 x.u4, .int .i64 x.u5, .int .i64 x.t0, .int .i64 x.t1, .int .i64 x.t2, .int .i64 x.t3, .bool x.vd, v]
/-- The reply of it. -/
def rpX (x : XP) : RP := ⟨x.err, x.num, x.u5, x.u0, x.u1, x.u2, x.u3, x.u4, x.t0, tkX x.t1, x.t2, x.t3, x.u2, x.u3, x.vd, x.u0, x.u1, x.vd⟩
theorem xp_cells {w : World} {b : Nat} {x : XP} {v : Value} {T : TypeId} (h : w.heap[b]? = some (.cells (xpC x v) T (0, 0))) : w.cell? ⟨b, 0, none⟩ = some (.int .i64 x.err) ∧ w.cell? ⟨b, 1, none⟩ = some (.int .i64 x.num) ∧ w.cell? ⟨b, 2, none⟩ = some (.int .i64 x.u0) ∧ w.cell? ⟨b, 3, none⟩ = some (.int .i64 x.u1) ∧ w.cell? ⟨b, 4, none⟩ = some (.int .i64 x.u2) ∧ w.cell? ⟨b, 5, none⟩ = some (.int .i64 x.u3) ∧ w.cell? ⟨b, 6, none⟩ = some (.int .i64 x.u4) ∧ w.cell? ⟨b, 7, none⟩ = some (.int .i64 x.u5) ∧ w.cell? ⟨b, 8, none⟩ = some (.int .i64 x.t0) ∧ w.cell? ⟨b, 9, none⟩ = some (.int .i64 x.t1) ∧ w.cell? ⟨b, 10, none⟩ = some (.int .i64 x.t2) ∧ w.cell? ⟨b, 11, none⟩ = some (.int .i64 x.t3) ∧ w.cell? ⟨b, 12, none⟩ = some (.bool x.vd) ∧ w.cell? ⟨b, 13, none⟩ = some v := by
  refine ⟨?_, ?_, ?_, ?_, ?_, ?_, ?_, ?_, ?_, ?_, ?_, ?_, ?_, ?_⟩ <;> (unfold World.cell?; rw [h]; rfl)
theorem build_rp (e n a b c d f g u v : Int) (vd : Bool) (w : World) : (Instr.build 71 #[(0, .int .i64 e), (1, .int .i64 n), (2, .agg #[.int .i64 a, .int .i64 b, .int .i64 c, .int .i64 d, .int .i64 f, .int .i64 g]), (4, .agg #[.int .i64 u, .int .i64 v]), (5, .bool vd)]).run Try.prog w = .ok (.agg #[.int .i64 e, .int .i64 n, .int .i64 a, .int .i64 b, .int .i64 c, .int .i64 d, .int .i64 f, .int .i64 g, .int .i64 0, .int .u8 0, .int .i64 0, .int .i64 0, .int .i64 0, .int .i64 0, .bool false, .slice none 0 0, .int .i64 u, .int .i64 v, .bool vd]) w := by
  kernel_rfl
theorem wpList_buildV {ops : Array Oper} {rest : List Oper} {op : Oper} {a : Act} {w : World} {Q : Exit → Act → World → Prop} (hgd : op.guard = none) (ty : TypeId) (ps : Array (Nat × Operand)) (ho : op.op = .build ty ps)
    (vs : Array (Nat × Value)) (hv : ps.map (fun (i, x) => (i, a.eval x)) = vs) (cs : Array Value) (hr : (Instr.build ty vs).run Try.prog w = .ok (.agg cs) w)
    (h : wpList Try.prog ops Q rest (a.put op.dst (.agg cs)) w) : wpList Try.prog ops Q (op :: rest) a w := by
  refine wpList_plain hgd fun _ hK => ?_
  unfold Oper.wp execOp
  simp only [ho, Sem.run_bind, Sem.run_pure, hv, hr, Result.andThen_ok]
  exact hK _ _ h
theorem r4_one (x : XP) : (#[.int .i64 x.err, .int .i64 x.num, .int .i64 x.u5, .int .i64 x.u0, .int .i64 x.u1, .int .i64 x.u2, .int .i64 x.u3, .int .i64 x.u4, .int .i64 0, .int .u8 0, .int .i64 0, .int .i64 0, .int .i64 0, .int .i64 0, .bool false, .slice none 0 0, .int .i64 x.u0, .int .i64 x.u1, .bool x.vd] : Array Value).all (·.oneCell') = true := by simp [Value.oneCell']
set_option maxHeartbeats 16000000 in
set_option maxRecDepth 20000 in
theorem reply_ok (x : XP) (a : Option Addr) (xs : List Ln) (cap : Nat) (hcap : xs.length ≤ cap ∧ cap ≤ maxLen) (w : World) (h : LnsAt w a xs) :
    Calls Try.prog 14 #[.agg (xpC x (.slice a xs.length cap))] w fun e w' => ∃ va, e = .returned (.agg (rpC (rpX x) va)) ∧ LRow w' 81 w.heap.size va (xs.take 10) ∧ Below w.heap.size w w' := by
  have HF := Lib.hid h; clear h
  obtain ⟨c1, htk⟩ := tkX_is x.t1
  have HX := Lib.hid (heap_alloc_new w (.cells (xpC x (.slice a xs.length cap)) 63))
  have HB := Lib.hid (below_alloc (Below.refl w.heap.size w) (.cells (xpC x (.slice a xs.length cap)) 63))
  generalize hC : xpC x (.slice a xs.length cap) = C at HX HB ⊢
  have HC := Lib.hid hC; clear hC
  obtain ⟨N, hN, hN1, hN2, hN3, hN4⟩ : ∃ N : Nat, (if 10 < (xs.length : Int) then 10 else (xs.length : Int)) = (N : Int) ∧ N ≤ xs.length ∧ N ≤ 10 ∧ N ≤ cap ∧ min 10 xs.length = N := ⟨min 10 xs.length, by split <;> omega, by omega, by omega, by omega, rfl⟩
  have c1 : (0 ≤ (N : Int)) = True := eq_true (by omega)
  have c2 : ((N : Int) ≤ (cap : Int)) = True := eq_true (by omega)
  have c3 : (N ≤ cap) = True := eq_true hN3
  have c4 : decide (N ≤ cap) = true := decide_eq_true hN3
  have hNm : min (xs.length : Int) 10 = (N : Int) := by rw [← hN]; split <;> omega
  have HRs := Lib.hid (show xs.take 10 = xs.take N by rw [← hN4, List.take_eq_take_min])
  have HN := Lib.hid (And.intro hN1 hN2); clear hN1 hN2 hN3 hN4 hcap
  go_enter Try.func14, Try.ntmps14
  go_upto_region 1 with (fail)
  have HSz0 := Lib.hid (show (w.alloc (.cells C 63)).heap.size = w.heap.size + 1 from alloc_size _ _)
  generalize w.alloc (.cells C 63) = w1 at HX HB HSz0 ⊢
  have HSz1 := Lib.hid (show w1.heap.size = w.heap.size + 1 from HSz0.out)
  have HZ := Lib.hid (show RpAt _ w1.heap.size (rp0 0) (.slice none 0 0) from heap_alloc_new w1 (.cells #[.int .i64 0, .int .i64 0, .int .i64 0, .int .i64 0, .int .i64 0, .int .i64 0, .int .i64 0, .int .i64 0, .int .i64 0, .int .u8 0, .int .i64 0, .int .i64 0, .int .i64 0, .int .i64 0, .bool false, .slice none 0 0, .int .i64 0, .int .i64 0, .bool false] 71))
  have hd := below_alloc (Below.refl w1.heap.size w1) (.cells #[.int .i64 0, .int .i64 0, .int .i64 0, .int .i64 0, .int .i64 0, .int .i64 0, .int .i64 0, .int .i64 0, .int .i64 0, .int .u8 0, .int .i64 0, .int .i64 0, .int .i64 0, .int .i64 0, .bool false, .slice none 0 0, .int .i64 0, .int .i64 0, .bool false] 71)
  have HSz2 := Lib.hid (show (w1.alloc (.cells #[.int .i64 0, .int .i64 0, .int .i64 0, .int .i64 0, .int .i64 0, .int .i64 0, .int .i64 0, .int .i64 0, .int .i64 0, .int .u8 0, .int .i64 0, .int .i64 0, .int .i64 0, .int .i64 0, .bool false, .slice none 0 0, .int .i64 0, .int .i64 0, .bool false] 71)).heap.size = w.heap.size + 1 + 1 by rw [alloc_size, HSz1.out])
  replace HX := Lib.hid (blk_below HX.out hd)
  replace HB := Lib.hid (chain2 HB.out hd); clear hd
  rw [HSz1.out] at HZ
  generalize w1.alloc (.cells #[.int .i64 0, .int .i64 0, .int .i64 0, .int .i64 0, .int .i64 0, .int .i64 0, .int .i64 0, .int .i64 0, .int .i64 0, .int .u8 0, .int .i64 0, .int .i64 0, .int .i64 0, .int .i64 0, .bool false, .slice none 0 0, .int .i64 0, .int .i64 0, .bool false] 71) = w2 at HX HZ HB HSz2 ⊢
  clear HSz1
  obtain ⟨z0, z1, z2, z3, z4, z5, z6, z7, z8, z9, z10, z11, z12, z13⟩ := xp_cells (x := x) (v := .slice a xs.length cap) (by rw [HC.out]; exact HX.out)
  go_upto_region 2 with (fail)
  clear z0 z1 z2 z3 z4 z5 z6 z7 z8 z9 z10 z11 z12 z13
  have HT3 := Lib.hid (heap_alloc_new w2 (.cells #[.int .i64 x.u5, .int .i64 x.u0, .int .i64 x.u1, .int .i64 x.u2, .int .i64 x.u3, .int .i64 x.u4] 65))
  have hd := below_alloc (Below.refl w2.heap.size w2) (.cells #[.int .i64 x.u5, .int .i64 x.u0, .int .i64 x.u1, .int .i64 x.u2, .int .i64 x.u3, .int .i64 x.u4] 65)
  have HSz3 := Lib.hid (show (w2.alloc (.cells #[.int .i64 x.u5, .int .i64 x.u0, .int .i64 x.u1, .int .i64 x.u2, .int .i64 x.u3, .int .i64 x.u4] 65)).heap.size = w.heap.size + 1 + 1 + 1 by rw [alloc_size, HSz2.out])
  replace HX := Lib.hid (blk_below HX.out hd)
  replace HZ := Lib.hid (show RpAt _ _ _ _ from blk_below HZ.out hd)
  replace HB := Lib.hid (chain2 HB.out hd); clear hd
  rw [HSz2.out] at HT3 ⊢
  generalize w2.alloc (.cells #[.int .i64 x.u5, .int .i64 x.u0, .int .i64 x.u1, .int .i64 x.u2, .int .i64 x.u3, .int .i64 x.u4] 65) = w3 at HX HZ HT3 HB HSz3 ⊢
  clear HSz2
  obtain ⟨z0, z1, z2, z3, z4, z5, z6, z7, z8, z9, z10, z11, z12, z13⟩ := xp_cells (x := x) (v := .slice a xs.length cap) (by rw [HC.out]; exact HX.out)
  obtain ⟨y0, y1, y2, y3, y4, y5⟩ := (show _ ∧ _ ∧ _ ∧ _ ∧ _ ∧ _ from ⟨cell_of_row _ _ 0 _ _ (0, 0) HT3.out, cell_of_row _ _ 1 _ _ (0, 0) HT3.out, cell_of_row _ _ 2 _ _ (0, 0) HT3.out, cell_of_row _ _ 3 _ _ (0, 0) HT3.out, cell_of_row _ _ 4 _ _ (0, 0) HT3.out, cell_of_row _ _ 5 _ _ (0, 0) HT3.out⟩)
  go_upto_region 3 with (first | refine wpList_buildV rfl 71 _ rfl #[(0, .int .i64 x.err), (1, .int .i64 x.num), (2, .agg #[.int .i64 x.u5, .int .i64 x.u0, .int .i64 x.u1, .int .i64 x.u2, .int .i64 x.u3, .int .i64 x.u4]), (4, .agg #[.int .i64 x.u0, .int .i64 x.u1]), (5, .bool x.vd)] (by (try simp only [List.map_toArray, List.map_cons, List.map_nil]); first | done | rfl) _ (build_rp x.err x.num x.u5 x.u0 x.u1 x.u2 x.u3 x.u4 x.u0 x.u1 x.vd _) ?_ | refine wpList_store_new rfl 71 _ _ rfl w3 _ #[.int .i64 x.err, .int .i64 x.num, .int .i64 x.u5, .int .i64 x.u0, .int .i64 x.u1, .int .i64 x.u2, .int .i64 x.u3, .int .i64 x.u4, .int .i64 0, .int .u8 0, .int .i64 0, .int .i64 0, .int .i64 0, .int .i64 0, .bool false, .slice none 0 0, .int .i64 x.u0, .int .i64 x.u1, .bool x.vd] rfl rfl rp_size rfl (r4_one x) ?_)
  clear y0 y1 y2 y3 y4 y5 HT3
  clear z0 z1 z2 z3 z4 z5 z6 z7 z8 z9 z10 z11 z12 z13
  have HQ := Lib.hid (show RpAt _ w3.heap.size ⟨x.err, x.num, x.u5, x.u0, x.u1, x.u2, x.u3, x.u4, 0, 0, 0, 0, 0, 0, false, x.u0, x.u1, x.vd⟩ (.slice none 0 0) from heap_alloc_new w3 (.cells #[.int .i64 x.err, .int .i64 x.num, .int .i64 x.u5, .int .i64 x.u0, .int .i64 x.u1, .int .i64 x.u2, .int .i64 x.u3, .int .i64 x.u4, .int .i64 0, .int .u8 0, .int .i64 0, .int .i64 0, .int .i64 0, .int .i64 0, .bool false, .slice none 0 0, .int .i64 x.u0, .int .i64 x.u1, .bool x.vd] 71))
  have hd := below_alloc (Below.refl w3.heap.size w3) (.cells #[.int .i64 x.err, .int .i64 x.num, .int .i64 x.u5, .int .i64 x.u0, .int .i64 x.u1, .int .i64 x.u2, .int .i64 x.u3, .int .i64 x.u4, .int .i64 0, .int .u8 0, .int .i64 0, .int .i64 0, .int .i64 0, .int .i64 0, .bool false, .slice none 0 0, .int .i64 x.u0, .int .i64 x.u1, .bool x.vd] 71)
  replace HX := Lib.hid (blk_below HX.out hd)
  replace HZ := Lib.hid (show RpAt _ _ _ _ from blk_below HZ.out hd)
  replace HB := Lib.hid (chain2 HB.out hd); clear hd
  rw [HSz3.out] at HQ ⊢
  generalize w3.alloc (.cells #[.int .i64 x.err, .int .i64 x.num, .int .i64 x.u5, .int .i64 x.u0, .int .i64 x.u1, .int .i64 x.u2, .int .i64 x.u3, .int .i64 x.u4, .int .i64 0, .int .u8 0, .int .i64 0, .int .i64 0, .int .i64 0, .int .i64 0, .bool false, .slice none 0 0, .int .i64 x.u0, .int .i64 x.u1, .bool x.vd] 71) = w4 at HX HZ HQ HB ⊢
  have HO := Lib.hid (show w.heap.size ≠ w.heap.size + 1 + 1 + 1 ∧ w.heap.size + 1 ≠ w.heap.size + 1 + 1 + 1 ∧ w.heap.size ≤ w.heap.size ∧ w.heap.size ≤ w.heap.size + 1 ∧ w.heap.size ≤ w.heap.size + 1 + 1 + 1 by omega)
  clear HSz3 HSz0
  generalize w.heap.size + 1 + 1 + 1 = b4 at HQ HO ⊢
  generalize w.heap.size + 1 = b2 at HZ HO ⊢
  generalize hb1 : w.heap.size = b1 at HX HO ⊢
  have Hb1 := Lib.hid hb1; clear hb1
  obtain ⟨z0, z1, z2, z3, z4, z5, z6, z7, z8, z9, z10, z11, z12, z13⟩ := xp_cells (x := x) (v := .slice a xs.length cap) (by rw [HC.out]; exact HX.out)
  obtain ⟨f0, f1, f2, f3, f4, f5, f6, f7, f8, f9, f10, f11, f12, f13, f14, f15, f16, f17, f18⟩ := HQ.out.free
  obtain ⟨q0, q1, q2, q3, q4, q5, q6, q7, q8, q9, q10, q11, q12, q13, q14, q15, q16, q17, q18⟩ := HQ.out.cells
  go_upto_region 4 with (fail)
  clear z0 z1 z2 z3 z4 z5 z6 z7 z8 z9 z10 z11 z12 z13
  clear f0 f1 f2 f3 f4 f5 f6 f7 f8 f9 f10 f11 f12 f13 f14 f15 f16 f17 f18 q0 q1 q2 q3 q4 q5 q6 q7 q8 q9 q10 q11 q12 q13 q14 q15 q16 q17 q18 c1
  replace HX := Lib.hid (blk_other (blk_other (blk_other (blk_other (blk_other (blk_other (blk_other (blk_other HX.out (Lib.grownBy_setCell _ b4 8 (.int .i64 x.t0)) HO.out.1) (Lib.grownBy_setCell _ b4 9 (.int .u8 (tkX x.t1 : Int))) HO.out.1) (Lib.grownBy_setCell _ b4 10 (.int .i64 x.t2)) HO.out.1) (Lib.grownBy_setCell _ b4 11 (.int .i64 x.t3)) HO.out.1) (Lib.grownBy_setCell _ b4 12 (.int .i64 x.u2)) HO.out.1) (Lib.grownBy_setCell _ b4 13 (.int .i64 x.u3)) HO.out.1) (Lib.grownBy_setCell _ b4 14 (.bool x.vd)) HO.out.1) (Lib.grownBy_setCell _ b4 15 (.slice none 0 0)) HO.out.1)
  replace HZ := Lib.hid (show RpAt _ _ _ _ from (blk_other (blk_other (blk_other (blk_other (blk_other (blk_other (blk_other (blk_other HZ.out (Lib.grownBy_setCell _ b4 8 (.int .i64 x.t0)) HO.out.2.1) (Lib.grownBy_setCell _ b4 9 (.int .u8 (tkX x.t1 : Int))) HO.out.2.1) (Lib.grownBy_setCell _ b4 10 (.int .i64 x.t2)) HO.out.2.1) (Lib.grownBy_setCell _ b4 11 (.int .i64 x.t3)) HO.out.2.1) (Lib.grownBy_setCell _ b4 12 (.int .i64 x.u2)) HO.out.2.1) (Lib.grownBy_setCell _ b4 13 (.int .i64 x.u3)) HO.out.2.1) (Lib.grownBy_setCell _ b4 14 (.bool x.vd)) HO.out.2.1) (Lib.grownBy_setCell _ b4 15 (.slice none 0 0)) HO.out.2.1))
  replace HB := Lib.hid (below_set (below_set (below_set (below_set (below_set (below_set (below_set (below_set HB.out (by rw [Hb1.out]; exact HO.out.2.2.2.2) (i := 8) (v := .int .i64 x.t0)) (by rw [Hb1.out]; exact HO.out.2.2.2.2) (i := 9) (v := .int .u8 (tkX x.t1 : Int))) (by rw [Hb1.out]; exact HO.out.2.2.2.2) (i := 10) (v := .int .i64 x.t2)) (by rw [Hb1.out]; exact HO.out.2.2.2.2) (i := 11) (v := .int .i64 x.t3)) (by rw [Hb1.out]; exact HO.out.2.2.2.2) (i := 12) (v := .int .i64 x.u2)) (by rw [Hb1.out]; exact HO.out.2.2.2.2) (i := 13) (v := .int .i64 x.u3)) (by rw [Hb1.out]; exact HO.out.2.2.2.2) (i := 14) (v := .bool x.vd)) (by rw [Hb1.out]; exact HO.out.2.2.2.2) (i := 15) (v := .slice none 0 0))
  replace HQ := Lib.hid (show RpAt _ _ (rpX x) _ from (RpAt.s15 (RpAt.s14 (RpAt.s13 (RpAt.s12 (RpAt.s11 (RpAt.s10 (RpAt.s9 (RpAt.s8 HQ.out (x.t0)) (tkX x.t1)) (x.t2)) (x.t3)) (x.u2)) (x.u3)) (x.vd)) (.slice none 0 0)))
  generalize ((((((((w4.setCell ⟨b4, 8, none⟩ (.int .i64 x.t0)).setCell ⟨b4, 9, none⟩ (.int .u8 (tkX x.t1 : Int))).setCell ⟨b4, 10, none⟩ (.int .i64 x.t2)).setCell ⟨b4, 11, none⟩ (.int .i64 x.t3)).setCell ⟨b4, 12, none⟩ (.int .i64 x.u2)).setCell ⟨b4, 13, none⟩ (.int .i64 x.u3)).setCell ⟨b4, 14, none⟩ (.bool x.vd)).setCell ⟨b4, 15, none⟩ (.slice none 0 0)) = w5 at HX HZ HQ HB ⊢
  obtain ⟨z0, z1, z2, z3, z4, z5, z6, z7, z8, z9, z10, z11, z12, z13⟩ := xp_cells (x := x) (v := .slice a xs.length cap) (by rw [HC.out]; exact HX.out)
  go_wp2_with fail
  clear z0 z1 z2 z3 z4 z5 z6 z7 z8 z9 z10 z11 z12 z13
  clear hN hNm c2 c3 c4
  go_loopw [73] (fun i wr => ∃ (j : Nat) (va : Value), j ≤ N ∧ i = .int .i64 (j : Int) ∧ RpAt wr b4 (rpX x) va ∧ RpAt wr b2 (rp0 0) (.slice none 0 0) ∧ LRow wr 81 w.heap.size va (xs.take j) ∧ Below w.heap.size w wr) (fun i _ => N - (RowKit.intOf i).toNat)
  case atStart => exact ⟨0, _, Nat.zero_le _, rfl, HQ.out, HZ.out, World.ownsRow_nil _ _ _ _, HB.out⟩
  case round =>
    clear HQ HZ HB HX
    obtain ⟨j, va, hj, rfl, h4, h2, h6, h9⟩ := hrel
    have H4 := Lib.hid h4; clear h4
    have H2 := Lib.hid h2; clear h2
    have HA := Lib.hid h6; clear h6
    have HB := Lib.hid h9; clear h9
    have HMl := Lib.hid (show (xs.take j).length = j by rw [List.length_take]; exact Nat.min_eq_left (Nat.le_trans hj HN.out.1))
    obtain ⟨aa, ca, rfl⟩ := HA.out.form
    rw [HMl.out] at HA H4
    by_cases hlt : j < N
    · have hjf : j < xs.length := Nat.lt_of_lt_of_le hlt HN.out.1
      have HNl := Lib.hid (show j ≤ 1000 by have := HN.out; omega)
      obtain ⟨ga, off, rfl, k0, k1⟩ := HF.out.below HB.out j hjf
      have HMap := Lib.hid (take_snoc' xs j hjf)
      generalize xs[j] = p at k0 k1 HMap
      obtain ⟨pk, pb⟩ := p
      simp only at k0 k1
      have e3 : wrap64 ((j : Int) + 1) = ((j + 1 : Nat) : Int) := wrap_succP j (Nat.lt_of_lt_of_le hlt (Nat.le_trans HN.out.2 (by decide)))
      have Hlt := Lib.hid hlt; clear hj
      have HX := Lib.hid (heap_alloc_new wr (.cells #[.int .i64 pk, .int .i64 pb] 79))
      have ha := below_alloc (Below.refl wr.heap.size wr) (.cells #[.int .i64 pk, .int .i64 pb] 79)
      replace H4 := Lib.hid (show RpAt _ _ _ _ from blk_below H4.out ha)
      replace H2 := Lib.hid (show RpAt _ _ _ _ from blk_below H2.out ha)
      replace HA := Lib.hid (HA.out.below ha)
      replace HB := Lib.hid (chain2 HB.out ha); clear ha
      have y4 := H4.out.cells.2.2.2.2.2.2.2.2.2.2.2.2.2.2.2.1
      obtain ⟨x0, x1, _, _⟩ := wide_cells HX.out
      have HN2 := Lib.hid (heap_alloc_new (wr.alloc (.cells #[.int .i64 pk, .int .i64 pb] 79)) (.cells #[.int .i64 pk, .int .i64 pb] 81))
      have ha := below_alloc (Below.refl (wr.alloc (.cells #[.int .i64 pk, .int .i64 pb] 79)).heap.size (wr.alloc (.cells #[.int .i64 pk, .int .i64 pb] 79))) (.cells #[.int .i64 pk, .int .i64 pb] 81)
      replace H4 := Lib.hid (show RpAt _ _ _ _ from blk_below H4.out ha)
      replace H2 := Lib.hid (show RpAt _ _ _ _ from blk_below H2.out ha)
      replace HA := Lib.hid (HA.out.below ha)
      replace HB := Lib.hid (chain2 HB.out ha); clear ha
      rw [show (wr.alloc (.cells #[.int .i64 pk, .int .i64 pb] 79)).heap.size = wr.heap.size + 1 by simp] at HN2
      obtain ⟨ax, cx, w6, hr, ho2, hgr⟩ := l_addN Try.underlying35 line_info 35 w.heap.size _ _ j HMl.out _ HA.out HNl.out (pk, pb) (wr.heap.size + 1) HN2.out HB.out.size
      have HRun := Lib.hid hr; clear hr
      replace H4 := Lib.hid (show RpAt _ _ _ _ from LRow.keeps HA.out hgr H4.out (by decide))
      replace H2 := Lib.hid (show RpAt _ _ _ _ from LRow.keeps HA.out hgr H2.out (by decide))
      replace HB := Lib.hid (below_row HB.out hgr (fun i hi => (World.ownsRow.lt HA.out i hi).1) (Nat.le_refl _) (Nat.le_refl _))
      replace HA := Lib.hid ho2; clear ho2 hgr HN2
      have f8 := H4.out.free.2.2.2.2.2.2.2.2.2.2.2.2.2.2.2.1
      have z8 := H4.out.cells.2.2.2.2.2.2.2.2.2.2.2.2.2.2.2.1
      go_wp2_with (at_builtin; refine wpList_append_run rfl _ _ 35 rfl _ _ rfl rfl HRun.out ?_)
      clear f8 z8 x0 x1 y4 k0 k1 HRun HX
      have hg := Lib.grownBy_setCell w6 b4 15 (.slice ax (j + 1) cx)
      replace HA := Lib.hid (LRow.grown HA.out hg (LRow.neB HA.out H4.out (by decide)))
      replace H2 := Lib.hid (show RpAt _ _ _ _ from blk_other H2.out hg HO.out.2.1)
      replace HB := Lib.hid (below_row HB.out hg (fun i hi => by cases hi; exact Nat.le_refl _) (by have h1 := HO.out.2.2.2.2; have h2 := Hb1.out; omega) (Nat.le_refl _))
      replace H4 := Lib.hid (RpAt.s15 H4.out (.slice ax (j + 1) cx)); clear hg
      go_roundw
      case rel => exact ⟨j + 1, _, Hlt.out, by first | rw [e3] | rfl, H4.out, H2.out, by rw [HMap.out]; exact HA.out, HB.out⟩
      case measure => (first | rw [e3] | rw [show ((j : Int) + 1) = ((j + 1 : Nat) : Int) from rfl]); simp only [RowKit.intOf, Int.toNat_natCast]; exact Nat.sub_lt_sub_left Hlt.out (Nat.lt_succ_self j)
    · obtain rfl : j = N := Nat.le_antisymm hj (Nat.le_of_not_lt hlt)
      go_wp2_with (first | refine wpList_load_row rfl 71 (.tmp 4) rfl b4 rfl _ H4.out Try.underlying71 rp_size ?_ | refine wpList_store_row rfl 71 _ _ rfl b2 (rpC (rpX x) (.slice aa j ca)) rfl rfl 71 _ H2.out rp_size rfl (rpC_one _ _ _ _) ?_)
      have hz := setRow_heap wr b2 _ (rpC (rpX x) (.slice aa j ca)) _ _ H2.out
      refine bodyPost_ret (v := .agg (rpC (rpX x) (.slice aa j ca))) (results_cell_row rfl _ _ b2 71 _ (0, 0) _ rfl hz Try.underlying71 rfl rp_size) rfl ?_
      exact ⟨_, rfl, by rw [HRs.out]; exact LRow.grown HA.out (setRow_grown wr b2 _) (LRow.neB HA.out H2.out (by decide)), pw_below_grown HB.out _ HB.out.size (setRow_grown wr b2 _) (fun i hi => by have h1 := Hb1.out; have h2 := HO.out.2.2.2.1; have h3 := Option.some.inj hi; omega)⟩
end Go.Proofs.Ytepgdjkmobngcaa

/-! req: ReqReplies: a reply that can be written is told again of its bytes. No conditions beyond the form's own reach. -/
namespace Go.Proofs.Ytepgdjkmobngcaa
open Go.RowKit Go.Lib Go.Proofs.Ytepgdjkmobngcaa.P Go.Proofs.Ytepgdjkmobngcaa.BeS Go.Proofs.YtepgdjkmobngcaaW.PrintWords Go.Proofs.YtepgdjkmobngcaaW.PrintLast Go.Proofs.YtepgdjkmobngcaaW.PrintMore
set_option linter.unusedVariables false
set_option linter.unusedSimpArgs false
--@tables
theorem repF_len (k : Nat) (r : RP) (xs : List Ln) (hx : xs.length ≤ 10) : (repF k r xs).length ≤ 40 := by
  have h1 : (repFs k r).length ≤ 7 := by
    unfold repFs
    repeat' split
    all_goals (simp [totF])
  have h2 : (repTail k xs).length ≤ 21 := by
    unfold repTail
    split
    · unfold linesF
      rw [List.length_cons]
      have : ∀ l : List Ln, (l.flatMap lnF).length = 2 * l.length := by
        intro l
        induction l with
        | nil => rfl
        | cons y l ih => rw [List.flatMap_cons, List.length_append, ih, List.length_cons]; have : (lnF y).length = 2 := rfl; omega
      rw [this]; omega
    · exact Nat.zero_le _
  unfold repF
  rw [List.length_cons]
  split
  · rw [List.length_append]; omega
  · simp
theorem rep_cases (k : Nat) (hk : isK k) (r : RP) (xs : List Ln) (hx : xs.length ≤ 10) (ht : r.tk < 256) (he : -9223372036854775808 ≤ r.err ∧ r.err < 9223372036854775808) (hin : LnIn xs) :
    (repV k r xs = ⟨#[]⟩ ∧ (r.err ≤ 0 ∨ 256 ≤ r.err)) ∨ ∃ B r' ys, repV k r xs = str B ∧ 1 ≤ B.length ∧ B.length ≤ 100000 ∧ (0 < r.err → B = [UInt8.ofNat r.err.toNat]) ∧ 0 ≤ r.err ∧ r.err < 256 ∧ parV k B = some (r', ys) ∧ r'.err = r.err ∧ ∀ R, R ≠ [] → parV k (B ++ R) = none := by
  unfold repV
  rw [if_pos hk]
  cases ho : flOk (repF k r xs) with
  | false =>
    left
    rw [if_neg (by decide)]
    refine ⟨rfl, ?_⟩
    rcases Int.lt_or_le 0 r.err with h1 | h1
    · rcases Int.lt_or_le r.err 256 with h2 | h2
      · exfalso
        obtain ⟨n, hn⟩ := Int.eq_ofNat_of_zero_le (show 0 ≤ r.err by omega)
        have hF : repF k r xs = [.num n 1] := by
          unfold repF
          rw [if_neg (by omega), hn]
          show [Fl.num (uN (n : Int)) 1] = _
          rw [uN_back n (by omega)]
        rw [hF, fine_okAll (fun f hf => by rw [List.mem_singleton] at hf; subst hf; exact ⟨by decide, by decide, by have : (256 : Nat) ^ 1 = 256 := by { decide }; omega⟩)] at ho
        cases ho
      · exact .inr h2
    · exact .inl h1
  | true =>
    right
    rw [if_pos rfl]
    have hb := fun R => par_back k hk r xs ht he hin ho R
    obtain ⟨r', ys, e1, e2⟩ := (hb []).1 rfl
    rw [List.append_nil] at e1
    have hl := flPut_len (repF k r xs)
    rw [flPut_ok ho] at hl
    have hfl := repF_len k r xs hx
    have h8 : uN r.err < 256 := by
      have h1 := ho
      unfold repF at h1
      rw [flOk_cons, Bool.and_eq_true] at h1
      have hf : Fl.Fine (.num (uN r.err) 1) := fine_of_ok ⟨uN_lt _, by decide⟩ h1.1
      simpa using hf.2.2
    have he2 := uN_small r.err 256 (by decide) he.1 he.2 h8
    have hB1 : 1 ≤ (flBytes (repF k r xs)).length := by
      unfold repF
      rw [flBytes_cons, List.length_append]
      have : (Fl.num (uN r.err) 1).bytes.length = 1 := putL_length _ 1
      omega
    refine ⟨_, r', ys, rfl, hB1, by omega, ?_, by omega, by omega, e1, e2, fun R hR => (hb R).2 hR⟩
    intro h0
    unfold repF
    rw [if_neg (by omega), flBytes_cons]
    show putL (uN r.err) 1 ++ [] = _
    have : r.err.toNat = uN r.err := by omega
    rw [this]
    simp [putL]
theorem wpList_load_rowW {ops : Array Oper} {rest : List Oper} {op : Oper} {a : Act} {w : World} {Q : Exit → Act → World → Prop} (hw : Region.wanted op (yielded ops a.tmps) = true) (ty : TypeId) (x : Operand) (ho : op.op = .load ty x)
    (b : Nat) (hx : a.eval x = .pointer (some ⟨b, 0, none⟩)) (cs : Array Value) {fs} (hg : w.heap[b]? = some (.cells cs ty (0, 0))) (hu : Try.prog.underlying ty = some (.struct fs)) (hi : (Try.prog.info? ty).map (·.size) = some cs.size)
    (h : wpList Try.prog ops Q rest (a.put op.dst (.agg cs)) w) : wpList Try.prog ops Q (op :: rest) a w := by
  refine wpList_step fun K hK => ?_
  rw [if_pos hw]
  unfold Oper.wp execOp
  simp only [ho, hx, Sem.run_bind, Sem.run_pure, load_row w b ty cs hg hu hi, Result.andThen_ok]
  exact hK _ _ h
theorem prod3' {α β γ : Type} {a a' : α} {b b' : β} {c c' : γ} (h : (a, b, c) = (a', b', c')) : a = a' ∧ b = b' ∧ c = c' := by cases h; exact ⟨rfl, rfl, rfl⟩
theorem lawrp_size : (Try.prog.info? 63).map (·.size) = some 14 := by kernel_rfl
set_option maxHeartbeats 32000000 in
set_option maxRecDepth 20000 in
theorem reqReplies_walk (x : XP) (hx : -9223372036854775808 ≤ x.err ∧ x.err < 9223372036854775808) (a : Option Addr) (xs : List Ln) (cap : Nat) (hcap : xs.length ≤ cap ∧ cap ≤ maxLen) (hin : LnIn xs) (k : Nat) (hk8 : k < 256) (s : ByteArray) (w : World) (h : LnsAt w a xs) :
    Calls Try.prog 5 #[.agg (xpC x (.slice a xs.length cap)), .int .u8 (k : Int), .string s] w fun e w' => e = .returned (.bool true) ∧ Below w.heap.size w w' := by
  have ha := below_alloc (Below.refl w.heap.size w) (.cells (xpC x (.slice a xs.length cap)) 63)
  have HRp := Lib.hid (reply_ok x a xs cap hcap (w.alloc (.cells (xpC x (.slice a xs.length cap)) 63)) (h.below ha))
  have HX := Lib.hid (heap_alloc_new w (.cells (xpC x (.slice a xs.length cap)) 63))
  have HB := Lib.hid ha; clear ha h
  have HYs := Lib.hid (show LnIn (xs.take 10) ∧ (xs.take 10).length ≤ 10 from ⟨fun p hp => hin p (List.mem_of_mem_take hp), by rw [List.length_take]; omega⟩); clear hin hcap
  have HTk := Lib.hid (show (rpX x).tk < 256 from (tkX_is x.t1).2)
  have HEr := Lib.hid (show (rpX x).err = x.err from rfl)
  have HXe := Lib.hid hx; clear hx
  have hC := fun hk : isK k => rep_cases k hk (rpX x) (xs.take 10) HYs.out.2 HTk.out HXe.out HYs.out.1
  have HCs := Lib.hid hC; clear hC
  obtain ⟨j, hj, hj1, hj2⟩ : ∃ j : Nat, (if 300 < (s.size : Int) then 300 else (s.size : Int)) = (j : Int) ∧ j ≤ s.size ∧ j ≤ 300 := ⟨min s.size 300, by split <;> omega, by omega, by omega⟩
  have hjm : min (s.size : Int) 300 = (j : Int) := by rw [← hj]; split <;> omega
  have c1 : (0 ≤ (j : Int)) = True := eq_true (by omega)
  have c2 : ((j : Int) ≤ (s.size : Int)) = True := eq_true (by omega)
  have c3 : (j ≤ s.size) = True := eq_true (by omega)
  have c4 : decide (j ≤ s.size) = true := decide_eq_true (by omega)
  have HUs := Lib.hid (show (s.extract 0 j).size ≤ 300 by rw [ByteArray.size_extract]; omega)
  clear hj1 hj2
  generalize rpX x = r at HRp HTk HEr HCs
  generalize xs.take 10 = ys at HRp HYs HCs
  have HCz := Lib.hid (show (Try.prog.info? 63).map (·.size) = some (xpC x (.slice a xs.length cap)).size from lawrp_size)
  have HC0 := Lib.hid (show (xpC x (.slice a xs.length cap))[0]? = some (.int .i64 r.err) by rw [HEr.out]; rfl)
  rw [← HEr.out] at HXe
  generalize xpC x (.slice a xs.length cap) = C at HRp HX HB HCz HC0 ⊢
  clear HEr
  go_enter Try.func5, Try.ntmps5
  go_upto_region 3 with (fail)
  clear c1 c2 c3 c4 hj hjm
  generalize s.extract 0 j = u at HUs ⊢
  generalize w.alloc (.cells C 63) = w1 at HRp HX HB ⊢
  generalize w.heap.size = bx at HX ⊢
  go_wp2_with (refine wpList_load_row rfl 63 (.tmp 3) rfl _ rfl _ HX.out Try.underlying63 HCz.out ?_)
  refine HRp.out.mono ?_
  rintro e w2 ⟨va, rfl, hl, hd⟩
  replace HX := Lib.hid (blk_below HX.out hd)
  replace HB := Lib.hid (chain2 HB.out hd); clear hd HRp
  obtain ⟨aa, ca, rfl⟩ := hl.form
  have HA := Lib.hid hl; clear hl
  have H8 := Lib.hid (show RpAt _ w2.heap.size r (.slice aa ys.length ca) from heap_alloc_new w2 (.cells (rpC r (.slice aa ys.length ca)) 71))
  have hd := below_alloc (Below.refl w2.heap.size w2) (.cells (rpC r (.slice aa ys.length ca)) 71)
  replace HX := Lib.hid (blk_below HX.out hd)
  replace HA := Lib.hid (HA.out.below hd)
  replace HB := Lib.hid (chain2 HB.out hd); clear hd
  go_upto_region 4 with (refine wpList_store_new rfl 71 _ _ rfl w2 _ (rpC r (.slice aa ys.length ca)) rfl rfl rp_size rfl (rpC_one _ _ _ _) ?_)
  generalize w2.alloc (.cells (rpC r (.slice aa ys.length ca)) 71) = w3 at HX HA H8 HB ⊢
  generalize w2.heap.size = b8 at H8 ⊢
  have HEn := Lib.hid (rep_encode k hk8 r HTk.out ys (by have := HYs.out.2; omega) (.slice aa ys.length ca) w3 HA.out.s)
  generalize hV : repV k r ys = t1 at HEn HCs
  have HV := Lib.hid hV; clear hV
  go_wp2_with (refine wpList_load_row rfl 71 (.tmp 8) rfl _ rfl _ H8.out Try.underlying71 rp_size ?_)
  refine HEn.out.mono ?_
  rintro e w4 ⟨rfl, hd⟩
  replace HX := Lib.hid (blk_below HX.out hd)
  replace H8 := Lib.hid (show RpAt _ _ _ _ from blk_below H8.out hd)
  replace HB := Lib.hid (chain2 HB.out hd); clear hd HEn HA
  by_cases hk : isK k
  case neg =>
    have ht1 : t1 = ⟨#[]⟩ := by rw [← HV.out]; exact if_neg hk
    have hE : t1.toList.isEmpty = true := by rw [ht1, Go.Proofs.Ytepgdjkmobngcaa.BeS.toList_data]; rfl
    have hE2 : (t1.toList == []) = true := by rw [ht1, Go.Proofs.Ytepgdjkmobngcaa.BeS.toList_data]; rfl
    have HE1 := Lib.hid (And.intro hE hE2); clear hE hE2 ht1
    have HPa := Lib.hid (rep_parse k hk8 u (by have := HUs.out; omega))
    have hpa : parA k u.data.toList = (rp0 0, [], 2) := if_neg hk
    rw [hpa] at HPa
    clear hpa
    simp only at HPa
    have hkk : k = 0 ∨ 14 < k := by
      rcases Nat.lt_or_ge 14 k with h | h
      · exact .inr h
      · rcases Nat.eq_zero_or_pos k with h0 | h0
        · exact .inl h0
        · exact absurd ((isK_iff k).2 ⟨h0, h⟩) hk
    have hq1 : decide (1 ≤ (k : Int)) = decide (1 ≤ k) := by rw [decide_eq_decide]; omega
    have hq2 : decide ((k : Int) ≤ 14) = decide (k ≤ 14) := by rw [decide_eq_decide]; omega
    go_upto_region 5 with (fail)
    go_cut [10] from 30 to 35 (fun b wx => b = .bool false ∧ wx = w4)
    case first =>
      rcases hkk with rfl | h14
      · go_wp2_with fail
        go_meet
        case rel => exact ⟨rfl, rfl⟩
      · have q1 : decide (1 ≤ (k : Int)) = true := decide_eq_true (by omega)
        have q2 : decide ((k : Int) ≤ 14) = false := decide_eq_false (by omega)
        have q3 : decide ((k : Int) ≥ 1) = true := decide_eq_true (by omega)
        have q4 : decide (1 ≤ k) = true := decide_eq_true (by omega)
        have q5 : decide (k ≤ 14) = false := decide_eq_false (by omega)
        clear hq1 hq2
        go_wp2_with fail
        go_meet
        case rel => exact ⟨rfl, rfl⟩
    case rest =>
      obtain ⟨rfl, rfl⟩ := hcut
      clear hq1 hq2 hkk
      go_wp2_with fail
      refine (HPa.out wc).mono ?_
      rintro e w5 ⟨v5, rfl, hl, hd⟩
      replace HB := Lib.hid (chain2 HB.out hd); clear hd HPa
      obtain ⟨a5, c5, rfl⟩ := hl.form
      clear hl
      have hd := below_alloc (Below.refl w5.heap.size w5) (.cells (rpC (rp0 0) (.slice a5 ([] : List Ln).length c5)) 71)
      replace HB := Lib.hid (chain2 HB.out hd); clear hd
      go_upto_region 8 with (refine wpList_store_new rfl 71 _ _ rfl w5 _ (rpC (rp0 0) (.slice a5 ([] : List Ln).length c5)) rfl rfl rp_size rfl (rpC_one _ _ _ _) ?_)
      generalize w5.alloc (.cells (rpC (rp0 0) (.slice a5 ([] : List Ln).length c5)) 71) = w6 at HB ⊢
      go_wp2_with fail
      refine (wakes_ok w6).mono ?_
      rintro e w7 ⟨rfl, hd⟩
      replace HB := Lib.hid (chain2 HB.out hd); clear hd
      obtain ⟨hE, hE2⟩ := HE1.out
      go_wp2_with fail
      go_ret
      exact ⟨rfl, HB.out⟩
  case pos =>
    have hC := HCs.out hk
    have hq := (isK_iff k).1 hk
    have q1 : decide (1 ≤ (k : Int)) = true := decide_eq_true (by omega)
    have q2 : decide ((k : Int) ≤ 14) = true := decide_eq_true (by omega)
    have q3 : decide ((k : Int) ≥ 1) = true := decide_eq_true (by omega)
    have q4 : decide (1 ≤ k) = true := decide_eq_true (by omega)
    have q5 : decide (k ≤ 14) = true := decide_eq_true (by omega)
    have HCc := Lib.hid hC; clear hC
    go_upto_region 9 with (fail)
    clear q1 q2 q3 q4 q5 hq
    have x0 : w4.cell? ⟨bx, 0, none⟩ = some (.int .i64 r.err) := by rw [cell_of_row w4 bx 0 _ _ (0, 0) HX.out]; exact HC0.out
    go_cut [87] from 53 to 87 (fun b wx => b = .bool false ∧ Below w4.heap.size w4 wx)
    case first =>
      have hsit : (r.err < 0 ∧ t1 = ⟨#[]⟩) ∨ r.err = 0 ∨ (0 < r.err ∧ r.err < 256 ∧ t1 = str [UInt8.ofNat r.err.toNat]) ∨ (256 ≤ r.err ∧ t1 = ⟨#[]⟩) := by
        rcases HCc.out with ⟨ht, hr⟩ | ⟨B, r', ys', ht, hB1, _, hBe, he0, he256, _⟩
        · rcases hr with hr | hr
          · rcases Int.lt_or_eq_of_le hr with h | h
            · exact .inl ⟨h, ht⟩
            · exact .inr (.inl h)
          · exact .inr (.inr (.inr ⟨hr, ht⟩))
        · rcases Int.lt_or_eq_of_le he0 with h | h
          · exact .inr (.inr (.inl ⟨h, he256, by rw [ht, hBe h]⟩))
          · exact .inr (.inl h.symm)
      rcases hsit with ⟨hr, ht⟩ | hr | ⟨hr, hr2, ht⟩ | ⟨hr, ht⟩
      · have e1 : t1.toList.isEmpty = true := by rw [ht, Go.Proofs.Ytepgdjkmobngcaa.BeS.toList_data]; rfl
        have p1 : decide (0 < r.err) = false := decide_eq_false (by omega)
        have p4 : decide (r.err < 0) = true := decide_eq_true hr
        clear ht hr
        go_quiet (fail)
        go_wp2_with fail
        go_meet
        case rel => exact ⟨rfl, (by first | exact Below.refl _ _ | exact below_drew1 (Below.refl _ _) | (repeat (first | exact Below.refl _ _ | apply pw_below_drewN | apply below_drew1)))⟩
      · have p1 : decide (0 < r.err) = false := decide_eq_false (by omega)
        have p4 : decide (r.err < 0) = false := decide_eq_false (by omega)
        have p5 : decide (255 < r.err) = false := decide_eq_false (by omega)
        clear hr
        go_quiet (fail)
        go_wp2_with fail
        go_meet
        case rel => exact ⟨rfl, (by first | exact Below.refl _ _ | exact below_drew1 (Below.refl _ _) | (repeat (first | exact Below.refl _ _ | apply pw_below_drewN | apply below_drew1)))⟩
      · obtain ⟨n, hn⟩ := Int.eq_ofNat_of_zero_le (show 0 ≤ r.err by omega)
        have hts : t1.size = 1 := by rw [ht, str_size]; rfl
        have p1 : decide (0 < r.err) = true := decide_eq_true hr
        have p2 : decide (r.err < 256) = true := decide_eq_true hr2
        have p4 : decide (r.err < 0) = false := decide_eq_false (by omega)
        have p5 : decide (255 < r.err) = false := decide_eq_false (by omega)
        have b1 : (0 < t1.size) = True := eq_true (by omega)
        have b2 : (0 < (t1.size : Int)) = True := eq_true (by omega)
        have b3 : IntKind.u8.wrap r.err = r.err := by rw [IntKind.wrap_u8]; omega
        have b4 : ∀ h : 0 < t1.size, ((t1[0]'h).toNat : Int) = r.err := fun h => by
          have h4 : bt t1 0 = r.err := by
            rw [ht]
            unfold bt
            rw [dif_pos (by rw [str_size]; simp)]
            show ((UInt8.ofNat r.err.toNat).toNat : Int) = _
            simp
            omega
          exact (bt_at t1 0 h).trans h4
        clear hr hr2 hn ht
        go_quiet (fail)
        go_wp2_with fail
        go_meet
        case rel => exact ⟨rfl, (by first | exact Below.refl _ _ | exact below_drew1 (Below.refl _ _) | (repeat (first | exact Below.refl _ _ | apply pw_below_drewN | apply below_drew1)))⟩
      · have e1 : t1.toList.isEmpty = true := by rw [ht, Go.Proofs.Ytepgdjkmobngcaa.BeS.toList_data]; rfl
        have p1 : decide (0 < r.err) = true := decide_eq_true (by omega)
        have p2 : decide (r.err < 256) = false := decide_eq_false (by omega)
        have p4 : decide (r.err < 0) = false := decide_eq_false (by omega)
        have p5 : decide (255 < r.err) = true := decide_eq_true (by omega)
        clear hr ht
        go_quiet (fail)
        go_wp2_with fail
        go_meet
        case rel => exact ⟨rfl, (by first | exact Below.refl _ _ | exact below_drew1 (Below.refl _ _) | (repeat (first | exact Below.refl _ _ | apply pw_below_drewN | apply below_drew1)))⟩
    case rest =>
      obtain ⟨rfl, hd⟩ := hcut
      clear x0
      replace H8 := Lib.hid (show RpAt _ _ _ _ from blk_below H8.out hd)
      replace HB := Lib.hid (chain2 HB.out hd); clear hd HX
      generalize hem : t1.toList.isEmpty = em
      have HEm := Lib.hid hem; clear hem
      have hem := HEm.out
      go_upto_if 89 with (fail)
      clear hem
      go_cut [89] from 90 to 120 (fun _ wx => Below w.heap.size w wx)
      case first =>
        cases em with
        | true =>
          go_wp2_with fail
          go_meet
          case rel => exact HB.out
        | false =>
          have hB : ∃ r' ys', t1.size ≤ 100000 ∧ parV k t1.data.toList = some (r', ys') ∧ r'.err = r.err ∧ parV k (t1 ++ { data := #[120] }).data.toList = none ∧ repV k r' ys' = t1 ∧ r'.tk < 256 ∧ ys'.length ≤ 8 := by
            rcases HCc.out with ⟨ht, _⟩ | ⟨B, r', ys', ht, _, hB2, _, _, _, hp, he, hm⟩
            · exfalso
              have h := HEm.out
              rw [ht, Go.Proofs.Ytepgdjkmobngcaa.BeS.toList_data] at h
              cases h
            · obtain ⟨f1, f2, f3, _⟩ := par_forth k hk B r' ys' hp
              refine ⟨r', ys', by rw [ht, str_size]; exact hB2, by rw [ht, str_data]; exact hp, he, ?_, by rw [f1, ht], f2, f3⟩
              rw [ht, str_addS, str_data]
              exact hm _ (by simp)
          obtain ⟨r', ys', b1, b2, b3, b4, b5, b6, b7⟩ := hB
          have HP1 := Lib.hid (rep_parse k hk8 t1 (by omega))
          rw [show parA k t1.data.toList = (r', ys', 0) by unfold parA; rw [if_pos hk, b2]] at HP1
          have HP2 := Lib.hid (rep_parse k hk8 (t1 ++ { data := #[120] }) (by rw [ByteArray.size_append]; show t1.size + 1 ≤ _; omega))
          rw [show parA k (t1 ++ { data := #[120] }).data.toList = (rp0 0, [], 4) by unfold parA; rw [if_pos hk, b4]] at HP2
          simp only at HP1 HP2
          have HF := Lib.hid (And.intro b5 (And.intro b6 (And.intro b7 (And.intro b3 b1))))
          clear b1 b2 b3 b4 b5 b6 b7
          go_wp2_with fail
          refine (HP1.out _).mono ?_
          rintro e w6 ⟨v6, rfl, hl, hd⟩
          replace H8 := Lib.hid (show RpAt _ _ _ _ from blk_below H8.out hd)
          replace HB := Lib.hid (chain2 HB.out hd); clear hd HP1
          obtain ⟨a6, c6, rfl⟩ := hl.form
          have HL := Lib.hid hl; clear hl
          have H13 := Lib.hid (show RpAt _ w6.heap.size r' (.slice a6 ys'.length c6) from heap_alloc_new w6 (.cells (rpC r' (.slice a6 ys'.length c6)) 71))
          have hd := below_alloc (Below.refl w6.heap.size w6) (.cells (rpC r' (.slice a6 ys'.length c6)) 71)
          replace H8 := Lib.hid (show RpAt _ _ _ _ from blk_below H8.out hd)
          replace HL := Lib.hid (HL.out.below hd)
          replace HB := Lib.hid (chain2 HB.out hd); clear hd
          go_upto_region 13 with (refine wpList_store_new rfl 71 _ _ rfl w6 _ (rpC r' (.slice a6 ys'.length c6)) rfl rfl rp_size rfl (rpC_one _ _ _ _) ?_)
          generalize w6.alloc (.cells (rpC r' (.slice a6 ys'.length c6)) 71) = w7 at H8 H13 HL HB ⊢
          generalize w6.heap.size = b13 at H13 ⊢
          have HE1 := Lib.hid (rep_encode k hk8 r' HF.out.2.1 ys' (by have := HF.out.2.2.1; omega) (.slice a6 ys'.length c6) w7 HL.out.s)
          rw [HF.out.1] at HE1
          go_wp2_with (refine wpList_load_rowW (by rfl) 71 (.tmp 13) rfl _ rfl _ H13.out Try.underlying71 rp_size ?_)
          refine HE1.out.mono ?_
          rintro e w8 ⟨rfl, hd⟩
          replace H8 := Lib.hid (show RpAt _ _ _ _ from blk_below H8.out hd)
          replace H13 := Lib.hid (show RpAt _ _ _ _ from blk_below H13.out hd)
          replace HB := Lib.hid (chain2 HB.out hd); clear hd HE1 HL
          have z8 := H8.out.cells.1
          have z13 := H13.out.cells.1
          rw [HF.out.2.2.2.1] at z13
          have s1 : (t1.toList == t1.toList) = true := by simp
          have s2 : (r.err == r.err) = true := by simp
          have q2 : ¬ 9223372036854775808 < t1.size + ({ data := #[120] } : ByteArray).size := by have h1 := HF.out.2.2.2.2; show ¬ 9223372036854775808 < t1.size + 1; omega
          have q3 : ¬ 9223372036854775807 < t1.size + ({ data := #[120] } : ByteArray).size := by have h1 := HF.out.2.2.2.2; show ¬ 9223372036854775807 < t1.size + 1; omega
          have q4 : ¬ 9223372036854775807 < t1.size + 1 := by have h1 := HF.out.2.2.2.2; omega
          have q5 : ¬ 9223372036854775808 < t1.size + 1 := by have h1 := HF.out.2.2.2.2; omega
          go_wp2_with fail
          clear z8 z13 s1 s2 q2 q3 q4 q5
          refine (HP2.out _).mono ?_
          rintro e w9 ⟨v9, rfl, hl, hd⟩
          replace HB := Lib.hid (chain2 HB.out hd); clear hd HP2
          obtain ⟨a9, c9, rfl⟩ := hl.form
          clear hl
          have hd := below_alloc (Below.refl w9.heap.size w9) (.cells (rpC (rp0 0) (.slice a9 ([] : List Ln).length c9)) 71)
          replace HB := Lib.hid (chain2 HB.out hd); clear hd
          go_upto_region 16 with (refine wpList_store_new rfl 71 _ _ rfl w9 _ (rpC (rp0 0) (.slice a9 ([] : List Ln).length c9)) rfl rfl rp_size rfl (rpC_one _ _ _ _) ?_)
          generalize w9.alloc (.cells (rpC (rp0 0) (.slice a9 ([] : List Ln).length c9)) 71) = w10 at HB ⊢
          go_wp2_with fail
          go_meet
          case rel => exact HB.out
      case rest =>
        have HB2 := Lib.hid hcut; clear hcut HB H8
        have HPa := Lib.hid (rep_parse k hk8 u (by have := HUs.out; omega))
        have hpar : (∃ r2 y2, parA k u.data.toList = (r2, y2, 0) ∧ repV k r2 y2 = u ∧ r2.tk < 256 ∧ y2.length ≤ 8) ∨ parA k u.data.toList = (rp0 0, [], 4) := by
          unfold parA
          rw [if_pos hk]
          cases hp : parV k u.data.toList with
          | none => exact .inr rfl
          | some p =>
            obtain ⟨r2, y2⟩ := p
            obtain ⟨f1, f2, f3, _⟩ := par_forth k hk _ r2 y2 hp
            rw [← of_data] at f1
            exact .inl ⟨r2, y2, rfl, f1, f2, f3⟩
        have HPp := Lib.hid hpar; clear hpar
        obtain ⟨r3, y3, e3, hA3⟩ : ∃ r3 y3 e3, parA k u.data.toList = (r3, y3, e3) := ⟨_, _, _, rfl⟩
        rw [hA3] at HPa HPp
        clear hA3
        simp only at HPa
        go_wp2_with fail
        refine (HPa.out _).mono ?_
        rintro e w6 ⟨v6, rfl, hl, hd⟩
        replace HB2 := Lib.hid (chain2 HB2.out hd); clear hd HPa
        obtain ⟨a6, c6, rfl⟩ := hl.form
        have HL := Lib.hid hl; clear hl
        have H17 := Lib.hid (show RpAt _ w6.heap.size r3 (.slice a6 y3.length c6) from heap_alloc_new w6 (.cells (rpC r3 (.slice a6 y3.length c6)) 71))
        have hd := below_alloc (Below.refl w6.heap.size w6) (.cells (rpC r3 (.slice a6 y3.length c6)) 71)
        replace HL := Lib.hid (HL.out.below hd)
        replace HB2 := Lib.hid (chain2 HB2.out hd); clear hd
        go_upto_region 19 with (refine wpList_store_new rfl 71 _ _ rfl w6 _ (rpC r3 (.slice a6 y3.length c6)) rfl rfl rp_size rfl (rpC_one _ _ _ _) ?_)
        generalize w6.alloc (.cells (rpC r3 (.slice a6 y3.length c6)) 71) = w7 at H17 HL HB2 ⊢
        generalize w6.heap.size = b17 at H17 ⊢
        rcases HPp.out with ⟨r2, y2, hA, hv, ht2, hy2⟩ | hA
        · obtain ⟨e1, e2, rfl⟩ := prod3' hA
          subst e1 e2
          clear hA
          have HV2 := Lib.hid (And.intro hv (And.intro ht2 hy2)); clear hv ht2 hy2
          go_wp2_with fail
          refine (wakes_ok _).mono ?_
          rintro e w8 ⟨rfl, hd⟩
          replace H17 := Lib.hid (show RpAt _ _ _ _ from blk_below H17.out hd)
          replace HL := Lib.hid (HL.out.below hd)
          replace HB2 := Lib.hid (chain2 HB2.out hd); clear hd
          have HE1 := Lib.hid (rep_encode k hk8 r3 HV2.out.2.1 y3 (by have := HV2.out.2.2; omega) (.slice a6 y3.length c6) w8 HL.out.s)
          rw [HV2.out.1] at HE1
          go_wp2_with (refine wpList_load_rowW (by rfl) 71 (.tmp 17) rfl _ rfl _ H17.out Try.underlying71 rp_size ?_)
          refine HE1.out.mono ?_
          rintro e w9 ⟨rfl, hd⟩
          replace HB2 := Lib.hid (chain2 HB2.out hd); clear hd HE1 HL
          have s1 : (u.toList == u.toList) = true := by simp
          go_wp2_with fail
          go_ret
          exact ⟨rfl, HB2.out⟩
        · obtain ⟨e1, e2, rfl⟩ := prod3' hA
          clear e1 e2 hA
          go_wp2_with fail
          refine (wakes_ok _).mono ?_
          rintro e w8 ⟨rfl, hd⟩
          replace HB2 := Lib.hid (chain2 HB2.out hd); clear hd
          go_wp2_with fail
          go_ret
          exact ⟨rfl, HB2.out⟩
theorem reqReplies_law (a00 a01 a02 a03 a04 a05 a06 a07 a08 a09 a010 a011 : Int) (a012 : Bool) (a013 : Option Addr) (len013 cap013 : Nat) (a1 : Int) (a2 : ByteArray) (W : World) (w00 : (Lit.int .i64 a00).wf = true) (w01 : (Lit.int .i64 a01).wf = true) (w02 : (Lit.int .i64 a02).wf = true) (w03 : (Lit.int .i64 a03).wf = true) (w04 : (Lit.int .i64 a04).wf = true) (w05 : (Lit.int .i64 a05).wf = true) (w06 : (Lit.int .i64 a06).wf = true) (w07 : (Lit.int .i64 a07).wf = true) (w08 : (Lit.int .i64 a08).wf = true) (w09 : (Lit.int .i64 a09).wf = true) (w010 : (Lit.int .i64 a010).wf = true) (w011 : (Lit.int .i64 a011).wf = true) (w013 : RowIn W [.int .i64, .int .i64] a013 len013) (y013 : len013 ≤ cap013 ∧ cap013 ≤ maxLen) (w1 : (Lit.int .u8 a1).wf = true) (w2 : a2.size ≤ 140737488351232) :
    Calls Try.prog 5 #[.agg #[.int .i64 a00, .int .i64 a01, .int .i64 a02, .int .i64 a03, .int .i64 a04, .int .i64 a05, .int .i64 a06, .int .i64 a07, .int .i64 a08, .int .i64 a09, .int .i64 a010, .int .i64 a011, .bool a012, .slice a013 len013 cap013], .int .u8 a1, .string a2] W fun e w' => e = .returned (.bool true) ∧ Below W.heap.size W w' := by
  obtain ⟨k, rfl, hk⟩ := wf_u8 w1
  obtain ⟨xs, rfl, hi, h⟩ := lns_of w013
  exact reqReplies_walk ⟨a00, a01, a02, a03, a04, a05, a06, a07, a08, a09, a010, a011, a012⟩ (wf_i64 w00) a013 xs cap013 y013 hi k hk a2 W h
end Go.Proofs.Ytepgdjkmobngcaa
