/- The document's Write of fields (printed), plainly: the bytes of all fields, or none. No conditions beyond the kinds of the numbers. -/
import Derived.Test.YtepgdjkmobngcaaXBeRef
import Derived.Test.YtepgdjkmobngcaaXCurT
import Derived.Test.YtepgdjkmobngcaaPx5
namespace Go.Proofs.Ytepgdjkmobngcaa
open Go.RowKit Go.Lib Go.Proofs.Ytepgdjkmobngcaa.P Go.Proofs.Ytepgdjkmobngcaa.BeS Go.Proofs.YtepgdjkmobngcaaW.PrintWords Go.Proofs.YtepgdjkmobngcaaW.PrintLast Go.Proofs.YtepgdjkmobngcaaW.PrintMore
set_option linter.unusedVariables false
set_option linter.unusedSimpArgs false
/-- A field: a number of a width, a number with a sign, or a text. -/
inductive Fl where
  | num (n : Nat) (wd : Nat)
  | sig (n : Nat)
  | txt (s : ByteArray)
def Fl.ok : Fl → Bool
  | .num n wd => fits n (wd : Int)
  | .sig _ => true
  | .txt s => decide (s.size ≤ 255)
def Fl.bytes : Fl → List UInt8
  | .num n wd => putB n (wd : Int)
  | .sig n => putL n 8
  | .txt s => UInt8.ofNat s.size :: s.data.toList
def Fl.In : Fl → Prop
  | .num n wd => n < 18446744073709551616 ∧ wd ≤ 8
  | .sig n => n < 18446744073709551616
  | .txt s => s.size ≤ 1000
/-- As the document has it. -/
def Fl.s : Fl → S91
  | .num n wd => ⟨0, (wd : Int), (n : Int), ⟨#[]⟩⟩
  | .sig n => ⟨1, 0, (n : Int), ⟨#[]⟩⟩
  | .txt s => ⟨2, 0, 0, s⟩
def flBytes (fs : List Fl) : List UInt8 := fs.flatMap Fl.bytes
def flOk (fs : List Fl) : Bool := fs.all Fl.ok
theorem Fl.bytes_len {f : Fl} (h : f.In) : f.bytes.length ≤ 1001 := by
  cases f with
  | num n wd => have := putB_len n (wd : Int); show (putB n _).length ≤ _; omega
  | sig n => show (putL n 8).length ≤ _; rw [putL_length]; omega
  | txt s =>
    show (UInt8.ofNat s.size :: s.data.toList).length ≤ _
    have e : s.data.toList.length = s.size := rfl
    have : s.size ≤ 1000 := h
    rw [List.length_cons, e]; omega
theorem flBytes_len (fs : List Fl) (h : ∀ f ∈ fs, f.In) : (flBytes fs).length ≤ fs.length * 1001 := by
  unfold flBytes
  induction fs with
  | nil => simp
  | cons f fs ih =>
    have := Fl.bytes_len (h f (by simp))
    have := ih (fun x hx => h x (by simp [hx]))
    rw [List.flatMap_cons, List.length_append, List.length_cons]
    omega
theorem rd_fl (fs : List Fl) (i : Nat) (hi : i < fs.length) : rd_T91 (fs.map Fl.s) (i : Int) = fs[i].s := by
  unfold rd_T91
  rw [Int.toNat_natCast, List.getD_eq_getElem?_getD, List.getElem?_map, List.getElem?_eq_getElem hi]
  rfl
theorem ref_put_fBk (n : Nat) (hn : n < 18446744073709551616) (wd : Int) (k : Nat) (hk : 10 < k) : tillrollref01_Put.f k (n : Int) wd = some (str (putB n wd)) := by
  rw [ref_put_f n hn wd k hk]
  unfold putB
  split <;> rfl
theorem str_addS (l : List UInt8) (s : ByteArray) : str l ++ s = str (l ++ s.data.toList) := by
  have h := str_append l s.data.toList
  rw [← of_data s] at h
  exact h
theorem rwrite_l0 (fs : List Fl) (hin : ∀ f ∈ fs, f.In) (hfs : fs.length ≤ 1000) (d : Nat) : ∀ (k i : Nat), i + d = fs.length → 2 * d + 80 < k → flOk (fs.take i) = true →
    tillrollref04_Write.l0 k (fs.map Fl.s) (str (flBytes (fs.take i))) (i : Int) = some (if flOk fs = true then (str (flBytes fs), true) else ((⟨#[]⟩ : ByteArray), false)) := by
  have hB : ∀ i, (flBytes (fs.take i)).length ≤ 1001000 := fun i => by
    have h1 := flBytes_len (fs.take i) (fun x hx => hin x (List.mem_of_mem_take hx))
    have h2 : (fs.take i).length ≤ 1000 := by rw [List.length_take]; omega
    have : (fs.take i).length * 1001 ≤ 1000 * 1001 := Nat.mul_le_mul_right _ h2
    omega
  induction d with
  | zero =>
    intro k i h hk ho
    obtain ⟨k, rfl⟩ : ∃ q, k = q + 1 := ⟨k - 1, by omega⟩
    simp only [tillrollref04_Write.l0]
    rw [List.take_of_length_le (by omega)] at ho ⊢
    rw [if_neg (by rw [List.length_map]; omega), if_pos ho]
  | succ d ih =>
    intro k i h hk ho
    obtain ⟨k, rfl⟩ : ∃ q, k = q + 1 + 1 := ⟨k - 2, by omega⟩
    have hi : i < fs.length := by omega
    have hl := hB i
    have hmem := hin fs[i] (List.getElem_mem hi)
    have htk : fs.take (i + 1) = fs.take i ++ [fs[i]] := List.take_succ_eq_append_getElem hi
    have hby : flBytes (fs.take (i + 1)) = flBytes (fs.take i) ++ fs[i].bytes := by unfold flBytes; rw [htk, List.flatMap_append]; simp
    have hok : flOk (fs.take (i + 1)) = fs[i].ok := by
      unfold flOk at ho ⊢
      rw [htk, List.all_append, ho]; simp
    have hbad : fs[i].ok = false → flOk fs = false := fun hf => by
      unfold flOk
      rw [List.all_eq_false]
      exact ⟨fs[i], List.getElem_mem hi, by rw [hf]; decide⟩
    have hw : wrap64 ((i : Int) + 1) = ((i + 1 : Nat) : Int) := by unfold wrap64; omega
    have hn := fun hf : fs[i].ok = true => ih k (i + 1) (by omega) (by omega) (hok.trans hf)
    rw [hby] at hn
    simp only [tillrollref04_Write.l0]
    rw [if_pos (by rw [List.length_map]; omega), if_pos (by omega), rd_fl fs i hi]
    have hbl := Fl.bytes_len hmem
    generalize fs[i] = f at hmem hn hbad hbl
    cases f with
    | num n wd =>
      obtain ⟨h1, h2⟩ := hmem
      rw [show (Fl.num n wd).s = ⟨0, (wd : Int), (n : Int), ⟨#[]⟩⟩ from rfl]
      simp only
      rw [if_neg (by decide)]
      simp only [tillrollref04_Write.j1]
      rw [if_neg (by decide), ref_fits_f n h1 (wd : Int) _ (by omega), Option.bind_some]
      by_cases hf : fits n (wd : Int) = true
      · rw [if_pos hf, ref_put_fBk n h1 _ _ (by omega), Option.bind_some, if_pos (by rw [str_size, str_size]; have := putB_len n (wd : Int); omega), str_append, hw]
        exact hn hf
      · rw [if_neg hf, if_neg (by rw [hbad (show fits n (wd : Int) = false by simpa using hf)]; decide)]
    | sig n =>
      have h1 : n < 18446744073709551616 := hmem
      rw [show (Fl.sig n).s = ⟨1, 0, (n : Int), ⟨#[]⟩⟩ from rfl]
      simp only
      rw [if_pos trivial]
      simp only [tillrollref04_Write.j1]
      have hf : fits n 8 = true := by unfold fits; rw [decide_eq_true_iff]; exact ⟨by decide, by decide, by simpa using h1⟩
      rw [if_neg (by decide), ref_fits_f n h1 8 _ (by omega), Option.bind_some, if_pos hf, ref_put_fBk n h1 _ _ (by omega), Option.bind_some, if_pos (by rw [str_size, str_size]; have := putB_len n 8; omega), str_append, hw]
      exact hn rfl
    | txt s =>
      have h1 : s.size ≤ 1000 := hmem
      rw [show (Fl.txt s).s = ⟨2, 0, 0, s⟩ from rfl]
      simp only
      rw [if_neg (by decide)]
      simp only [tillrollref04_Write.j1]
      rw [if_pos trivial]
      by_cases h255 : s.size ≤ 255
      · have e1 : strOfNums [(s.size : Int) % 256] = str [UInt8.ofNat s.size] := by
          rw [strOfNums_cons, show (s.size : Int) % 256 = (s.size : Int) by omega]
          rfl
        rw [if_neg (by omega), Option.bind_some, e1, if_pos (by rw [str_size, str_size]; simp; omega), str_append, if_pos (by rw [str_size, List.length_append, List.length_singleton]; omega), str_addS, hw]
        have := hn (by unfold Fl.ok; exact decide_eq_true h255)
        rw [show (Fl.txt s).bytes = [UInt8.ofNat s.size] ++ s.data.toList from rfl, ← List.append_assoc] at this
        exact this
      · rw [if_pos (by omega), if_neg (by rw [hbad (by unfold Fl.ok; exact decide_eq_false h255)]; decide)]
theorem rwrite_f (fs : List Fl) (hin : ∀ f ∈ fs, f.In) (hfs : fs.length ≤ 1000) (k : Nat) (hk : 2 * fs.length + 80 < k) :
    tillrollref04_Write.f k (fs.map Fl.s) = some (if flOk fs = true then (str (flBytes fs), true) else ((⟨#[]⟩ : ByteArray), false)) := by
  have := rwrite_l0 fs hin hfs fs.length k 0 (Nat.zero_add _) hk rfl
  exact this
end Go.Proofs.Ytepgdjkmobngcaa
