/- CurReads: the document's Read: the walk. No conditions beyond the form's own reach. -/
import Derived.Test.YtdpnnokchmjflaaXCurRd
namespace Go.Proofs.Ytdpnnokchmjflaa
open Go.RowKit Go.Lib Go.Proofs.Ytdpnnokchmjflaa.P Go.Proofs.Ytdpnnokchmjflaa.BeS Go.Proofs.YtdpnnokchmjflaaW.PrintWords Go.Proofs.YtdpnnokchmjflaaW.PrintLast Go.Proofs.YtdpnnokchmjflaaW.PrintMore
set_option linter.unusedVariables false
set_option linter.unusedSimpArgs false
--@tables
def rdAll (r : RdS) (fs : List Fd) : RdS := fs.foldl rdFR r
theorem rdAll_take (r : RdS) (fs : List Fd) (i : Nat) (h : i < fs.length) : rdAll r (fs.take (i + 1)) = rdFR (rdAll r (fs.take i)) fs[i] := by
  unfold rdAll
  rw [List.take_succ_eq_append_getElem h, List.foldl_append]
  rfl
def fd0 : Fd := ⟨0, 0, 0, { data := #[] }⟩
def outsN (r : RdS) (fs : List Fd) (j : Nat) : List Fd := (List.range j).map fun i => rdF (rdAll r (fs.take i)) (fs.getD i fd0)
def leftsN (r : RdS) (fs : List Fd) (j : Nat) : List Int := (List.range j).map fun i => ((rdAll r (fs.take (i + 1))).1.length : Int)
theorem outsN_len (r : RdS) (fs : List Fd) (j : Nat) : (outsN r fs j).length = j := by unfold outsN; rw [List.length_map, List.length_range]
theorem leftsN_len (r : RdS) (fs : List Fd) (j : Nat) : (leftsN r fs j).length = j := by unfold leftsN; rw [List.length_map, List.length_range]
theorem outsN_succ (r : RdS) (fs : List Fd) (j : Nat) (h : j < fs.length) : outsN r fs (j + 1) = outsN r fs j ++ [rdF (rdAll r (fs.take j)) fs[j]] := by
  unfold outsN
  rw [List.range_succ, List.map_append]
  congr 1
  rw [List.map_singleton, List.getD_eq_getElem?_getD, List.getElem?_eq_getElem h]
  rfl
theorem leftsN_succ (r : RdS) (fs : List Fd) (j : Nat) : leftsN r fs (j + 1) = leftsN r fs j ++ [((rdAll r (fs.take (j + 1))).1.length : Int)] := by
  unfold leftsN
  rw [List.range_succ, List.map_append]
  rfl
/-- An own row of whole numbers. -/
def IRow (w : World) (base : Nat) (v : Value) (zs : List Int) : Prop := w.ownsRow base 3 1 v zs.length (nums .i64 zs)
theorem IRow.below {w w' : World} {base : Nat} {v : Value} {zs : List Int} (h : IRow w base v zs) (hb : Below w.heap.size w w') : IRow w' base v zs := pw_own_below h hb
theorem IRow.more {w : World} {base : Nat} {v : Value} {zs : List Int} {z : Int} (h : w.ownsRow base 3 1 v (zs.length + 1) (nums .i64 zs ++ [.int .i64 z])) : IRow w base v (zs ++ [z]) := by
  unfold IRow
  rw [List.length_append, List.length_singleton, show nums .i64 (zs ++ [z]) = nums .i64 zs ++ [.int .i64 z] by unfold nums; rw [List.map_append]; rfl]
  exact h
theorem int_info : (Try.prog.info? 3).map (fun i => (i.zero, i.size, i.bytes)) = some (some (.int .i64 0), 1, 8) := by kernel_rfl
/-- Rows of unlike elements lie in unlike blocks. -/
theorem rows_ne {w : World} {b1 b2 n1 n2 k1 k2 : Nat} {t1 t2 : TypeId} {v1 v2 : Value} {xs1 xs2 : List Value} (ht : t1 ≠ t2) (h1 : w.ownsRow b1 t1 k1 v1 n1 xs1) (h2 : w.ownsRow b2 t2 k2 v2 n2 xs2) : v1.ownBlock = none ∨ v1.ownBlock ≠ v2.ownBlock := by
  rcases h1.2 with ⟨rfl, _⟩ | ⟨g, cap, cur, rfl, _, hg, _⟩
  · exact .inl rfl
  · right
    intro e
    rcases h2.2 with ⟨rfl, _⟩ | ⟨g', cap', cur', rfl, _, hg', _⟩
    · cases e
    · have e2 : g = g' := by simpa [Value.ownBlock] using e
      subst e2
      rw [hg] at hg'
      simp only [Option.some.injEq, Obj.cells.injEq] at hg'
      exact ht hg'.2.1
/-- What is left of a wrong text. -/
def wrongOk (r : RdS) : Prop := r.2 = true → r.1 = []
theorem tkR_ok (r : RdS) (n : Int) : wrongOk (tkR r n) := by
  unfold tkR wrongOk
  split
  · intro h; cases h
  · intro _; rfl
theorem rdFR_ok (r : RdS) (f : Fd) : wrongOk (rdFR r f) := by
  unfold rdFR rdTR
  split
  · exact tkR_ok _ _
  · split
    · exact tkR_ok _ _
    · exact tkR_ok _ _
/-- What is told of a field that isn't there. -/
theorem rd_not {r : RdS} {f : Fd} (h : (f.kind = 0 ∧ tkN r (numW f.width) = false) ∨ (f.kind = 1 ∧ tkN r 8 = false) ∨ (f.kind = 2 ∧ tkN (tkR r 1) (rdN r 1 : Int) = false)) : rdF r f = ⟨f.kind, f.width, 0, { data := #[] }⟩ ∧ rdFR r f = ([], true) := by
  rcases h with ⟨hk, h⟩ | ⟨hk, h⟩ | ⟨hk, h⟩
  · unfold rdF rdFR rdN tkS tkR
    rw [if_pos hk, if_pos hk, h]
    exact ⟨rfl, rfl⟩
  · unfold rdF rdFR rdN tkS tkR
    have hk0 : ¬ f.kind = 0 := by omega
    rw [if_neg hk0, if_pos hk, if_neg hk0, if_pos hk, show numW 8 = 8 from rfl, h]
    exact ⟨rfl, rfl⟩
  · unfold rdF rdFR rdT rdTR
    rw [if_neg (by omega), if_neg (by omega), if_neg (by omega), if_neg (by omega)]
    unfold tkS
    rw [h, if_neg (by simp)]
    refine ⟨rfl, ?_⟩
    show tkR (tkR r 1) (rdN r 1 : Int) = _
    conv => lhs; unfold tkR
    rw [if_neg]
    unfold tkR at h
    rw [h]
    simp
theorem rd_num {r : RdS} {f : Fd} {m : Nat} (hw : r.2 = false) (h : (f.kind = 0 ∧ f.width = (m : Int) ∧ 1 ≤ m ∧ m ≤ 8) ∨ (f.kind = 1 ∧ m = 8)) (hm : m ≤ r.1.length) : rdF r f = ⟨f.kind, f.width, getN (r.1.take m), { data := #[] }⟩ ∧ rdFR r f = (r.1.drop m, false) := by
  obtain ⟨l, wr⟩ := r
  simp only at hw hm
  subst hw
  have ht : tkN (l, false) (m : Int) = true := by unfold tkN; simp; omega
  rcases h with ⟨hk, hw, h1, h8⟩ | ⟨hk, rfl⟩
  · have hn : numW f.width = (m : Int) := by rw [hw]; exact if_pos (by omega)
    unfold rdF rdFR rdN tkS tkR
    rw [if_pos hk, if_pos hk, hn, if_pos ht, if_pos ht]
    exact ⟨rfl, rfl⟩
  · unfold rdF rdFR rdN tkS tkR
    have hk0 : ¬ f.kind = 0 := by omega
    have ht8 : tkN (l, false) 8 = true := ht
    rw [if_neg hk0, if_pos hk, if_neg hk0, if_pos hk, show numW 8 = 8 from rfl, if_pos ht8, if_pos ht8]
    exact ⟨rfl, rfl⟩
theorem rd_txt {l : List UInt8} {b : UInt8} {f : Fd} (hk : f.kind = 2) (hm : b.toNat ≤ l.length) : rdF (b :: l, false) f = ⟨f.kind, f.width, 0, str (l.take b.toNat)⟩ ∧ rdFR (b :: l, false) f = (l.drop b.toNat, false) := by
  have h1 : tkN (b :: l, false) 1 = true := by unfold tkN; simp; omega
  have e1 : tkR (b :: l, false) 1 = (l, false) := by unfold tkR; rw [if_pos h1]; rfl
  have e2 : rdN (b :: l, false) 1 = b.toNat := by
    unfold rdN
    rw [show numW 1 = 1 from rfl]
    unfold tkS
    rw [if_pos h1]
    unfold getN
    simp
  have h2 : tkN (l, false) (b.toNat : Int) = true := by unfold tkN; simp; omega
  unfold rdF rdFR rdT rdTR
  rw [if_neg (by omega), if_neg (by omega), if_neg (by omega), if_neg (by omega), e1, e2]
  unfold tkS tkR
  rw [if_pos h2, if_pos h2]
  exact ⟨rfl, rfl⟩
theorem rd_txt_not {l : List UInt8} {b : UInt8} {f : Fd} (hk : f.kind = 2) (hm : l.length < b.toNat) : rdF (b :: l, false) f = ⟨f.kind, f.width, 0, { data := #[] }⟩ ∧ rdFR (b :: l, false) f = ([], true) := by
  have h1 : tkN (b :: l, false) 1 = true := by unfold tkN; simp; omega
  have e1 : tkR (b :: l, false) 1 = (l, false) := by unfold tkR; rw [if_pos h1]; rfl
  have e2 : rdN (b :: l, false) 1 = b.toNat := by
    unfold rdN
    rw [show numW 1 = 1 from rfl]
    unfold tkS
    rw [if_pos h1]
    unfold getN
    simp
  refine rd_not (.inr (.inr ⟨hk, ?_⟩))
  rw [e1, e2]
  unfold tkN
  simp
  omega
theorem rd_empty {f : Fd} (hk : f.kind = 2) (wr : Bool) : rdF ([], wr) f = ⟨f.kind, f.width, 0, { data := #[] }⟩ ∧ rdFR ([], wr) f = ([], true) := by
  refine rd_not (.inr (.inr ⟨hk, ?_⟩))
  have h1 : tkN ([], wr) 1 = false := by unfold tkN; simp
  have e1 : tkR ([], wr) 1 = ([], true) := by unfold tkR; rw [h1]; rfl
  rw [e1]
  rfl
theorem rd_few {r : RdS} {f : Fd} (h : (f.kind = 0 ∧ (f.width < 1 ∨ 8 < f.width ∨ (r.1.length : Int) < f.width)) ∨ (f.kind = 1 ∧ r.1.length < 8)) : rdF r f = ⟨f.kind, f.width, 0, { data := #[] }⟩ ∧ rdFR r f = ([], true) := by
  rcases h with ⟨hk, h⟩ | ⟨hk, h⟩
  · refine rd_not (.inl ⟨hk, ?_⟩)
    unfold tkN numW
    split
    · rw [decide_eq_false (by omega), Bool.and_false]
    · rw [decide_eq_false (by omega), Bool.and_false]
  · refine rd_not (.inr (.inl ⟨hk, ?_⟩))
    unfold tkN
    rw [decide_eq_false (by omega), Bool.and_false]
end Go.Proofs.Ytdpnnokchmjflaa
