/- Fields, plainly: what is read of what was written, and what was written of what is read. No conditions. -/
import Derived.Test.YtepgdjkmobngcaaXRefWrite
import Derived.Test.YtepgdjkmobngcaaXCurRT
namespace Go.Proofs.Ytepgdjkmobngcaa
open Go.RowKit Go.Lib Go.Proofs.Ytepgdjkmobngcaa.P Go.Proofs.Ytepgdjkmobngcaa.BeS Go.Proofs.YtepgdjkmobngcaaW.PrintWords Go.Proofs.YtepgdjkmobngcaaW.PrintLast Go.Proofs.YtepgdjkmobngcaaW.PrintMore
set_option linter.unusedVariables false
set_option linter.unusedSimpArgs false
inductive FK where
  | num (wd : Nat)
  | sig
  | txt
def FK.Ok : FK → Prop
  | .num wd => 1 ≤ wd ∧ wd ≤ 8
  | _ => True
def Fl.kd : Fl → FK
  | .num _ wd => .num wd
  | .sig _ => .sig
  | .txt _ => .txt
def Fl.Fine : Fl → Prop
  | .num n wd => 1 ≤ wd ∧ wd ≤ 8 ∧ n < 256 ^ wd
  | .sig n => n < 18446744073709551616
  | .txt s => s.size ≤ 255
def rdK : FK → RdS → Fl × RdS
  | .num wd, r => (.num (rdN r (wd : Int)) wd, tkR r (numW (wd : Int)))
  | .sig, r => (.sig (rdN r 8), tkR r 8)
  | .txt, r => (.txt (str (rdT r)), rdTR r)
def rdKs : List FK → RdS → List Fl × RdS
  | [], r => ([], r)
  | k :: ks, r => ((rdK k r).1 :: (rdKs ks (rdK k r).2).1, (rdKs ks (rdK k r).2).2)
theorem numW_in (wd : Nat) (h : 1 ≤ wd ∧ wd ≤ 8) : numW (wd : Int) = (wd : Int) := if_pos (by omega)
theorem tk_whole (A B : List UInt8) (n : Int) (h : n = (A.length : Int)) : tkN (A ++ B, false) n = true ∧ tkS (A ++ B, false) n = A ∧ tkR (A ++ B, false) n = (B, false) := by
  subst h
  have ht : tkN (A ++ B, false) (A.length : Int) = true := by
    unfold tkN
    rw [decide_eq_true (by simp only [List.length_append]; omega)]
    rfl
  unfold tkS tkR
  rw [if_pos ht, if_pos ht]
  refine ⟨ht, ?_, ?_⟩ <;> simp
theorem rd_whole (A B : List UInt8) (wd : Nat) (h : wd = A.length) (h1 : 1 ≤ wd) (h8 : wd ≤ 8) : rdN (A ++ B, false) (wd : Int) = getN A ∧ tkR (A ++ B, false) (numW (wd : Int)) = (B, false) := by
  have hn : numW (wd : Int) = (wd : Int) := if_pos (by omega)
  obtain ⟨h1, h2, h3⟩ := tk_whole A B (wd : Int) (by rw [h])
  unfold rdN
  rw [hn, h2, h3]
  exact ⟨rfl, rfl⟩
theorem tkR_false (l : List UInt8) (n : Int) : (∃ A B, l = A ++ B ∧ n = (A.length : Int) ∧ tkR (l, false) n = (B, false)) ∨ tkR (l, false) n = ([], true) := by
  by_cases h : 0 ≤ n ∧ n ≤ (l.length : Int)
  · left
    refine ⟨l.take n.toNat, l.drop n.toNat, (List.take_append_drop _ _).symm, by rw [List.length_take]; omega, ?_⟩
    unfold tkR
    rw [if_pos]
    unfold tkN
    rw [decide_eq_true h]; rfl
  · right
    unfold tkR
    rw [if_neg]
    unfold tkN
    rw [decide_eq_false h]; simp
theorem tkR_wrong (l : List UInt8) (n : Int) : tkR (l, true) n = ([], true) := by
  unfold tkR; rw [show tkN (l, true) n = false from rfl, if_neg (by decide)]
theorem rdK_wrong (k : FK) (l : List UInt8) : (rdK k (l, true)).2 = ([], true) := by
  cases k with
  | num wd => exact tkR_wrong l (numW (wd : Int))
  | sig => exact tkR_wrong l 8
  | txt => show tkR (tkR (l, true) 1) (rdN (l, true) 1 : Int) = _; rw [tkR_wrong, tkR_wrong]
theorem rdKs_wrong (ks : List FK) (l : List UInt8) : (rdKs ks (l, true)).2.2 = true := by
  induction ks generalizing l with
  | nil => rfl
  | cons k ks ih =>
    show (rdKs ks (rdK k (l, true)).2).2.2 = true
    rw [rdK_wrong]
    exact ih []
theorem fine_of_ok {f : Fl} (h : f.In) (ho : f.ok = true) : f.Fine := by
  cases f with
  | num n wd =>
    have h1 : fits n (wd : Int) = true := ho
    unfold fits at h1
    rw [decide_eq_true_iff, Int.toNat_natCast] at h1
    exact ⟨by omega, by omega, h1.2.2⟩
  | sig n => exact h
  | txt s => exact (of_decide_eq_true (show decide (s.size ≤ 255) = true from ho) : s.size ≤ 255)
theorem ok_of_fine {f : Fl} (h : f.Fine) : f.ok = true := by
  cases f with
  | num n wd =>
    show fits n (wd : Int) = true
    unfold fits
    rw [decide_eq_true_iff, Int.toNat_natCast]
    exact ⟨by have := h.1; omega, by have := h.2.1; omega, h.2.2⟩
  | sig n => rfl
  | txt s => exact decide_eq_true (show s.size ≤ 255 from h)
theorem rdK_back (f : Fl) (hf : f.Fine) (R : List UInt8) : rdK f.kd (f.bytes ++ R, false) = (f, (R, false)) := by
  cases f with
  | num n wd =>
    obtain ⟨h1, h2, h3⟩ := hf
    have hb : (Fl.num n wd).bytes = putL n wd := by show putB n (wd : Int) = _; unfold putB; rw [if_pos (by omega), Int.toNat_natCast]
    obtain ⟨e1, e2⟩ := rd_whole (putL n wd) R wd (by rw [putL_length]) h1 h2
    show (Fl.num (rdN ((Fl.num n wd).bytes ++ R, false) (wd : Int)) wd, tkR ((Fl.num n wd).bytes ++ R, false) (numW (wd : Int))) = _
    rw [hb, e1, e2, getN_putL, Nat.mod_eq_of_lt h3]
  | sig n =>
    obtain ⟨e1, e2⟩ := rd_whole (putL n 8) R 8 (by rw [putL_length]) (by decide) (by decide)
    show (Fl.sig (rdN (putL n 8 ++ R, false) 8), tkR (putL n 8 ++ R, false) 8) = _
    have e1' : rdN (putL n 8 ++ R, false) 8 = getN (putL n 8) := e1
    have e2' : tkR (putL n 8 ++ R, false) 8 = (R, false) := e2
    rw [e1', e2', getN_putL, Nat.mod_eq_of_lt (show n < 256 ^ 8 from hf)]
  | txt s =>
    have hs : s.size ≤ 255 := hf
    have hb : (Fl.txt s).bytes = [UInt8.ofNat s.size] ++ s.data.toList := rfl
    obtain ⟨e1, e2⟩ := rd_whole [UInt8.ofNat s.size] (s.data.toList ++ R) 1 rfl (by decide) (by decide)
    have e1' : rdN ([UInt8.ofNat s.size] ++ (s.data.toList ++ R), false) 1 = getN [UInt8.ofNat s.size] := e1
    have e2' : tkR ([UInt8.ofNat s.size] ++ (s.data.toList ++ R), false) 1 = (s.data.toList ++ R, false) := e2
    have e3 : getN [UInt8.ofNat s.size] = s.size := by
      unfold getN
      simp
      omega
    obtain ⟨_, t2, t3⟩ := tk_whole s.data.toList R (s.size : Int) (by rw [Array.length_toList]; rfl)
    show (Fl.txt (str (tkS (tkR ((Fl.txt s).bytes ++ R, false) 1) (rdN ((Fl.txt s).bytes ++ R, false) 1 : Int))), tkR (tkR ((Fl.txt s).bytes ++ R, false) 1) (rdN ((Fl.txt s).bytes ++ R, false) 1 : Int)) = _
    rw [hb, List.append_assoc, e2', e1', e3, t2, t3, ← of_data]
theorem rdKs_back (fs : List Fl) (hf : ∀ f ∈ fs, f.Fine) (R : List UInt8) : rdKs (fs.map Fl.kd) (flBytes fs ++ R, false) = (fs, (R, false)) := by
  induction fs with
  | nil => rfl
  | cons f fs ih =>
    have h1 := rdK_back f (hf f (by simp)) (flBytes fs ++ R)
    have h2 := ih (fun x hx => hf x (by simp [hx]))
    have e : flBytes (f :: fs) ++ R = f.bytes ++ (flBytes fs ++ R) := by unfold flBytes; rw [List.flatMap_cons, List.append_assoc]
    rw [e, List.map_cons]
    show ((rdK f.kd _).1 :: (rdKs (fs.map Fl.kd) (rdK f.kd _).2).1, (rdKs (fs.map Fl.kd) (rdK f.kd _).2).2) = _
    rw [h1]
    simp only
    rw [h2]
theorem getN_fine (A : List UInt8) (wd : Nat) (h : A.length = wd) : putL (getN A) wd = A ∧ getN A < 256 ^ wd := by
  subst h; exact ⟨putL_getN A, getN_lt A⟩
theorem rdK_forth (k : FK) (hk : k.Ok) (l l' : List UInt8) (f : Fl) (h : rdK k (l, false) = (f, (l', false))) : l = f.bytes ++ l' ∧ f.Fine ∧ f.kd = k := by
  cases k with
  | num wd =>
    have h1 : Fl.num (rdN (l, false) (wd : Int)) wd = f := congrArg Prod.fst h
    have h2 : tkR (l, false) (numW (wd : Int)) = (l', false) := congrArg Prod.snd h
    rw [numW_in wd hk] at h2
    rcases tkR_false l (wd : Int) with ⟨A, B, rfl, hA, hB⟩ | hB
    · rw [hB] at h2
      obtain rfl : B = l' := congrArg Prod.fst h2
      have hA' : A.length = wd := by omega
      obtain ⟨e1, _⟩ := rd_whole A B wd hA'.symm hk.1 hk.2
      rw [e1] at h1
      obtain ⟨g1, g2⟩ := getN_fine A wd hA'
      subst h1
      refine ⟨?_, ⟨hk.1, hk.2, g2⟩, rfl⟩
      show A ++ B = putB (getN A) (wd : Int) ++ B
      have hk1 := hk.1
      have hk2 := hk.2
      unfold putB
      rw [if_pos (by omega), Int.toNat_natCast, g1]
    · rw [hB] at h2; cases h2
  | sig =>
    have h1 : Fl.sig (rdN (l, false) 8) = f := congrArg Prod.fst h
    have h2 : tkR (l, false) 8 = (l', false) := congrArg Prod.snd h
    rcases tkR_false l 8 with ⟨A, B, rfl, hA, hB⟩ | hB
    · rw [hB] at h2
      obtain rfl : B = l' := congrArg Prod.fst h2
      have hA' : A.length = 8 := by omega
      obtain ⟨e1, _⟩ := rd_whole A B 8 hA'.symm (by decide) (by decide)
      have e1' : rdN (A ++ B, false) 8 = getN A := e1
      rw [e1'] at h1
      obtain ⟨g1, g2⟩ := getN_fine A 8 hA'
      subst h1
      refine ⟨?_, g2, rfl⟩
      show A ++ B = putL (getN A) 8 ++ B
      rw [g1]
    · rw [hB] at h2; cases h2
  | txt =>
    have h1 : Fl.txt (str (tkS (tkR (l, false) 1) (rdN (l, false) 1 : Int))) = f := congrArg Prod.fst h
    have h2 : tkR (tkR (l, false) 1) (rdN (l, false) 1 : Int) = (l', false) := congrArg Prod.snd h
    rcases tkR_false l 1 with ⟨A, B, rfl, hA, hB⟩ | hB
    · rw [hB] at h1 h2
      have hA' : A.length = 1 := by omega
      obtain ⟨e1, _⟩ := rd_whole A B 1 hA'.symm (by decide) (by decide)
      have e1' : rdN (A ++ B, false) 1 = getN A := e1
      rw [e1'] at h1 h2
      obtain ⟨g1, g2⟩ := getN_fine A 1 hA'
      rcases tkR_false B (getN A : Int) with ⟨C, D, rfl, hC, hD⟩ | hD
      · rw [hD] at h2
        obtain rfl : D = l' := congrArg Prod.fst h2
        obtain ⟨_, t2, _⟩ := tk_whole C D (getN A : Int) hC
        rw [t2] at h1
        subst h1
        have hCl : C.length = getN A := by omega
        refine ⟨?_, ?_, rfl⟩
        · show A ++ (C ++ D) = (UInt8.ofNat (str C).size :: (str C).data.toList) ++ D
          rw [str_size, str_data, hCl]
          have : [UInt8.ofNat (getN A)] = A := by
            rw [← g1]
            have hl := getN_putL (getN A) 1
            rw [hl, Nat.mod_eq_of_lt g2]
            simp [putL]
          rw [List.cons_append, ← List.singleton_append, this]
        · show (str C).size ≤ 255
          rw [str_size, hCl]
          have : (256 : Nat) ^ 1 = 256 := by decide
          omega
      · rw [hD] at h2; cases h2
    · rw [hB, tkR_wrong] at h2; cases h2
theorem rdKs_forth (ks : List FK) (hk : ∀ k ∈ ks, k.Ok) (l l' : List UInt8) (fs : List Fl) (h : rdKs ks (l, false) = (fs, (l', false))) : l = flBytes fs ++ l' ∧ (∀ f ∈ fs, f.Fine) ∧ fs.map Fl.kd = ks := by
  induction ks generalizing l fs with
  | nil =>
    have h1 : [] = fs := congrArg Prod.fst h
    have h2 : (l, false) = (l', false) := congrArg Prod.snd h
    subst h1
    exact ⟨congrArg Prod.fst h2, fun f hf => by simp at hf, rfl⟩
  | cons k ks ih =>
    have h1 : (rdK k (l, false)).1 :: (rdKs ks (rdK k (l, false)).2).1 = fs := congrArg Prod.fst h
    have h2 : (rdKs ks (rdK k (l, false)).2).2 = (l', false) := congrArg Prod.snd h
    obtain ⟨f, l1, b, hr⟩ : ∃ f l1 b, rdK k (l, false) = (f, (l1, b)) := ⟨_, _, _, rfl⟩
    rw [hr] at h1 h2
    simp only at h1 h2
    cases b with
    | true =>
      have := rdKs_wrong ks l1
      rw [h2] at this
      cases this
    | false =>
      obtain ⟨a1, a2, a3⟩ := rdK_forth k (hk k (by simp)) l l1 f hr
      obtain ⟨b1, b2, b3⟩ := ih (fun x hx => hk x (by simp [hx])) l1 (rdKs ks (l1, false)).1 (Prod.ext rfl h2)
      subst h1
      refine ⟨?_, ?_, ?_⟩
      · rw [a1]
        conv => lhs; rw [b1]
        unfold flBytes
        rw [List.flatMap_cons, List.append_assoc]
      · intro x hx
        rcases List.mem_cons.1 hx with rfl | hx
        · exact a2
        · exact b2 x hx
      · rw [List.map_cons, a3, b3]
end Go.Proofs.Ytepgdjkmobngcaa
