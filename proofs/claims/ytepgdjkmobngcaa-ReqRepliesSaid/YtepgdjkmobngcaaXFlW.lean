/- cur: a writer told by its fields. No conditions beyond those that are written. -/
import Derived.Test.YtepgdjkmobngcaaXPostRL
namespace Go.Proofs.Ytepgdjkmobngcaa
open Go.RowKit Go.Lib Go.Proofs.Ytepgdjkmobngcaa.P Go.Proofs.Ytepgdjkmobngcaa.BeS Go.Proofs.YtepgdjkmobngcaaW.PrintWords Go.Proofs.YtepgdjkmobngcaaW.PrintLast Go.Proofs.YtepgdjkmobngcaaW.PrintMore
set_option linter.unusedVariables false
set_option linter.unusedSimpArgs false
def Fl.put : Fl → List UInt8
  | .num n wd => putB n (wd : Int)
  | .sig n => putL n 8
  | .txt s => if s.size ≤ 255 then UInt8.ofNat s.size :: s.data.toList else []
def flPut (fs : List Fl) : List UInt8 := fs.flatMap Fl.put
theorem put_ok {f : Fl} (h : f.ok = true) : f.put = f.bytes := by
  cases f with
  | num n wd => rfl
  | sig n => rfl
  | txt s => exact if_pos (of_decide_eq_true h)
theorem flPut_ok {fs : List Fl} (h : flOk fs = true) : flPut fs = flBytes fs := by
  induction fs with
  | nil => rfl
  | cons f fs ih =>
    rw [flOk_cons, Bool.and_eq_true] at h
    rw [flBytes_cons, ← ih h.2, ← put_ok h.1]
    rfl
theorem flPut_append (a b : List Fl) : flPut (a ++ b) = flPut a ++ flPut b := by unfold flPut; rw [List.flatMap_append]
theorem put_len (f : Fl) : f.put.length ≤ 256 := by
  cases f with
  | num n wd => have := putB_len n (wd : Int); show (putB n _).length ≤ _; omega
  | sig n => show (putL n 8).length ≤ _; rw [putL_length]; omega
  | txt s =>
    show (if s.size ≤ 255 then UInt8.ofNat s.size :: s.data.toList else []).length ≤ _
    split
    · rename_i h
      rw [List.length_cons]
      have : s.data.toList.length = s.size := rfl
      omega
    · exact Nat.zero_le _
theorem flPut_len (fs : List Fl) : (flPut fs).length ≤ fs.length * 256 := by
  induction fs with
  | nil => exact Nat.zero_le _
  | cons f fs ih =>
    have := put_len f
    unfold flPut at ih ⊢
    rw [List.flatMap_cons, List.length_append, List.length_cons]
    omega
theorem linesF_put (xs : List Ln) : flPut (linesF xs) = textL xs := by
  rw [← linesF_bytes]
  unfold linesF flPut flBytes
  rw [List.flatMap_cons, List.flatMap_cons]
  congr 1
  generalize cntP xs.length = n
  clear n
  induction xs with
  | nil => rfl
  | cons y ys ih => rw [List.flatMap_cons, List.flatMap_append, ih, List.flatMap_append]; rfl
/-- The writer in block g holds these fields. -/
def WrF (w : World) (base g : Nat) (fs : List Fl) : Prop := WrO w base (some g) (flPut fs) (!flOk fs)
theorem WrF.below {w w' : World} {base g : Nat} {fs : List Fl} (h : WrF w base g fs) (hb : Below w.heap.size w w') : WrF w' base g fs := WrO.below h hb
theorem WrF.new (w : World) : WrF (w.alloc (.cells #[.slice none 0 0, .bool false] 84)) w.heap.size w.heap.size [] :=
  WrAt.o ⟨Nat.le_refl _, .slice none 0 0, Box2.new w _ _ _, World.ownsRow_nil _ _ _ _, by simp [Value.ownBlock]⟩
theorem WrF.snoc {w : World} {base g : Nat} {fs : List Fl} {f : Fl} {l : List UInt8} {b : Bool} (h : WrO w base (some g) l b) (hl : l = flPut fs ++ f.put) (hb : b = (!flOk fs || !f.ok)) : WrF w base g (fs ++ [f]) := by
  unfold WrF
  rw [flPut_append, flOk_append, Bool.not_and]
  have e1 : flPut [f] = f.put := by unfold flPut; simp
  have e2 : flOk [f] = f.ok := by unfold flOk; simp
  rw [e1, e2, ← hl, ← hb]
  exact h
theorem wrF_num (base g : Nat) (fs : List Fl) (n wd : Nat) (wi : Int) (hwi : wi = (wd : Int)) (w : World) (h : WrF w base g fs) (hl : fs.length ≤ 1000) (hn : n < 18446744073709551616) (hw : wd ≤ 8) :
    Calls Try.prog 18 #[.pointer (some ⟨g, 0, none⟩), .int .u64 (n : Int), .int .i64 wi] w fun x w' => x = .returned (.pointer (some ⟨g, 0, none⟩)) ∧ WrF w' base g (fs ++ [.num n wd]) ∧ Below base w w' ∧ TouchU (some g) w w' := by
  subst hwi
  have hlen := flPut_len fs
  refine (wr_number base (some g) (flPut fs) (!flOk fs) n (wd : Int) w h (by omega) hn (by omega) (by omega)).mono ?_
  rintro e w' ⟨rfl, h1, h2, h3⟩
  exact ⟨rfl, WrF.snoc (f := .num n wd) h1 rfl rfl, h2, h3⟩
theorem wrF_sig (base g : Nat) (fs : List Fl) (n : Int) (w : World) (h : WrF w base g fs) (hl : fs.length ≤ 1000) :
    Calls Try.prog 21 #[.pointer (some ⟨g, 0, none⟩), .int .i64 n] w fun x w' => x = .returned (.pointer (some ⟨g, 0, none⟩)) ∧ WrF w' base g (fs ++ [.sig (uN n)]) ∧ Below base w w' ∧ TouchU (some g) w w' := by
  have hlen := flPut_len fs
  refine (wr_signed base (some g) (flPut fs) (!flOk fs) n w h (by omega)).mono ?_
  rintro e w' ⟨rfl, h1, h2, h3⟩
  exact ⟨rfl, WrF.snoc (f := .sig (uN n)) h1 rfl (by show (!flOk fs) = (!flOk fs || !true); rw [Bool.not_true, Bool.or_false]), h2, h3⟩
theorem wrF_txt (base g : Nat) (fs : List Fl) (s : ByteArray) (w : World) (h : WrF w base g fs) (hl : fs.length ≤ 1000) (hs : s.size ≤ 1000000) :
    Calls Try.prog 19 #[.pointer (some ⟨g, 0, none⟩), .string s] w fun x w' => x = .returned (.pointer (some ⟨g, 0, none⟩)) ∧ WrF w' base g (fs ++ [.txt s]) ∧ Below base w w' ∧ TouchU (some g) w w' := by
  have hlen := flPut_len fs
  refine (wr_text base (some g) (flPut fs) (!flOk fs) s w h (by omega) (by omega)).mono ?_
  rintro e w' ⟨rfl, h1, h2, h3⟩
  refine ⟨rfl, WrF.snoc (f := .txt s) h1 ?_ ?_, h2, h3⟩
  · show _ = flPut fs ++ (if s.size ≤ 255 then UInt8.ofNat s.size :: s.data.toList else [])
    split
    · rfl
    · rw [List.append_nil]
  · congr 1
    show _ = !decide (s.size ≤ 255)
    rw [← decide_not, decide_eq_decide]
    omega
theorem wrF_lines (xs : List Ln) (hn : xs.length ≤ 100) (v : Value) (base g : Nat) (fs : List Fl) (w0 w : World) (hr : RowS encL w0 v xs) (h0 : Below w0.heap.size w0 w) (hb : w0.heap.size ≤ base) (h : WrF w base g fs) (hl : fs.length ≤ 1000) :
    Calls Try.prog 20 #[v, .pointer (some ⟨g, 0, none⟩)] w fun x w' => x = .returned (.tuple #[]) ∧ WrF w' base g (fs ++ linesF xs) ∧ Below base w w' ∧ TouchU (some g) w w' := by
  have hlen := flPut_len fs
  refine (post_write xs hn v base (some g) (flPut fs) (!flOk fs) w0 w hr h0 hb h (by omega)).mono ?_
  rintro e w' ⟨rfl, h1, h2, h3⟩
  refine ⟨rfl, ?_, h2, h3⟩
  unfold WrF
  rw [flPut_append, flOk_append, Bool.not_and, linesF_put, linesF_ok, Bool.not_not]
  exact h1
theorem wrF_bytes (base g : Nat) (fs : List Fl) (w : World) (h : WrF w base g fs) :
    Calls Try.prog 22 #[.pointer (some ⟨g, 0, none⟩)] w fun x w' => x = .returned (.tuple #[.string (if flOk fs = true then str (flBytes fs) else { data := #[] }), .int .i64 (if flOk fs = true then 0 else 2)]) ∧ Below w.heap.size w w' := by
  refine (wr_bytes base g (flPut fs) (!flOk fs) w (h.2 g rfl)).mono ?_
  rintro e w' ⟨rfl, h1⟩
  refine ⟨?_, h1⟩
  cases ho : flOk fs with
  | true => rw [flPut_ok ho]; rfl
  | false => rfl
end Go.Proofs.Ytepgdjkmobngcaa
