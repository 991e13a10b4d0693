/- rec: the builder's writer. No conditions beyond the form's own reach. -/
import Derived.Test.YtnojomoeaofkoaaXShelf19
import Derived.Test.YtnojomoeaofkoaaXPolyWakes
import Derived.Test.YtnojomoeaofkoaaXBeRef
import Derived.Test.YtnojomoeaofkoaaPx5
import Derived.Lib.Hide
import Derived.Lib.AppendStr
import Derived.Lib.Builder
namespace Go.Proofs.Ytnojomoeaofkoaa
open Go.RowKit Go.Lib Go.Proofs.Ytnojomoeaofkoaa.P Go.Proofs.Ytnojomoeaofkoaa.BeS Go.Proofs.Ytnojomoeaofkoaa.PoS Go.Proofs.YtnojomoeaofkoaaW.PrintWords Go.Proofs.YtnojomoeaofkoaaW.PrintLast Go.Proofs.YtnojomoeaofkoaaW.PrintMore
set_option linter.unusedVariables false
set_option linter.unusedSimpArgs false
--@tables
theorem sb_size : (Try.prog.info? 61).map (·.size) = some 2 := by kernel_rfl
theorem sb_lies : liesAt Try.prog Try.prog.depth 61 (2 / Try.prog.cellsOf 61) 0 61 1 = true := by kernel_rfl
theorem u8_infoR : (Try.prog.info? 5).map (fun i => (i.size, i.bytes, i.zero)) = some (1, 1, some (.int .u8 0)) := by kernel_rfl
/-- A builder of this program. -/
abbrev SbAt (w : World) (B b : Nat) (l : List UInt8) : Prop := Lib.IsBuilder 61 5 B b (Lib.byteCells l) w
theorem SbAt.below {w w' : World} {B b : Nat} {l : List UInt8} (h : SbAt w B b l) (hb : Below w.heap.size w w') : SbAt w' B b l := by
  rcases h with ⟨h0, v, h1, h2, h3⟩ | ⟨h0, v, h1, h2, h3⟩
  · exact .inl ⟨h0, v, blk_below h1 hb, pw_own_below h2 hb, h3⟩
  · exact .inr ⟨h0, v, blk_below h1 hb, pw_own_below h2 hb, h3⟩
theorem SbAt.lt {w : World} {B b : Nat} {l : List UInt8} (h : SbAt w B b l) : b < w.heap.size := by
  rcases h with h | h <;> exact h.lt
set_option maxHeartbeats 4000000 in
set_option maxRecDepth 100000 in
theorem sb_check_fresh (b : Nat) (w : World) (h0 : w.cell? ⟨b, 0, none⟩ = some (.pointer none)) (hsh : w.shape? b = some (61, 2)) (hfz : w.frozen? ⟨b, 0, none⟩ = false) :
    Calls Try.prog 23 #[.pointer (some ⟨b, 0, none⟩)] w fun e w' => e = .returned (.tuple #[]) ∧ w' = w.setCell ⟨b, 0, none⟩ (.pointer (some ⟨b, 0, none⟩)) := by
  obtain ⟨j, hj, hjs⟩ := Option.map_eq_some_iff.1 sb_size
  have h1 := Lib.run_to_unsafe w ⟨b, 0, none⟩ Try.underlying59 Try.underlying77 hj (by rw [hjs]; decide) hsh (Nat.zero_lt_succ 1)
  have h2 := Lib.run_from_unsafe w ⟨b, 0, none⟩ Try.underlying77 Try.underlying59 hj hsh sb_lies
  have h3 := Lib.run_noEscape (P := Try.prog) w (.pointer (some ⟨b, 0, none⟩))
  go_enter Try.func23, Try.ntmps23
  go_wp2
  rw [run_callFunc_extern Try.func29 (by kernel_rfl) (by kernel_rfl) (by kernel_rfl) (e := Extern.AbiNoEscape.same) (by kernel_rfl)]
  rw [Lib.run_noEscape]
  simp only [Result.andThen]
  rw [Oper.upon_value]
  go_wp2
  go_end0
  exact ⟨rfl, rfl⟩
set_option maxHeartbeats 4000000 in
set_option maxRecDepth 100000 in
theorem sb_check_used (b : Nat) (w : World) (h0 : w.cell? ⟨b, 0, none⟩ = some (.pointer (some ⟨b, 0, none⟩))) :
    Calls Try.prog 23 #[.pointer (some ⟨b, 0, none⟩)] w fun e w' => e = .returned (.tuple #[]) ∧ w' = w := by
  obtain ⟨j, hj, _⟩ := Option.map_eq_some_iff.1 sb_size
  have h1 := Lib.run_neq_ptr_same (P := Try.prog) w ⟨b, 0, none⟩ Try.underlying59 hj
  go_enter Try.func23, Try.ntmps23
  go_wp2
  go_end0
  exact ⟨rfl, rfl⟩
theorem sb_check (B b : Nat) (l : List UInt8) (w : World) (h : SbAt w B b l) :
    Calls Try.prog 23 #[.pointer (some ⟨b, 0, none⟩)] w fun e w' => e = .returned (.tuple #[]) ∧ Lib.BuilderAt 61 5 B b (.pointer (some ⟨b, 0, none⟩)) (Lib.byteCells l) w' ∧ Below B w w' := by
  rcases h with h | h
  · refine (sb_check_fresh b w h.cell0 h.shape h.frozen0).mono ?_
    rintro e w' ⟨rfl, rfl⟩
    exact ⟨rfl, h.used _, (Below.refl B w).setCell (p := ⟨b, 0, none⟩) h.1 _⟩
  · refine (sb_check_used b w h.cell0).mono ?_
    rintro e w' ⟨rfl, rfl⟩
    exact ⟨rfl, h, Below.refl B _⟩
set_option maxHeartbeats 4000000 in
set_option maxRecDepth 100000 in
theorem sb_write (B b : Nat) (l : List UInt8) (s : ByteArray) (w : World) (h : SbAt w B b l) (hlen : l.length + s.size ≤ 140737488355328) (hBw : B ≤ w.heap.size) :
    Calls Try.prog 17 #[.pointer (some ⟨b, 0, none⟩), .string s] w fun e w' => (∃ x y, e = .returned (.tuple #[x, y])) ∧ SbAt w' B b (l ++ s.data.toList) ∧ Below B w w' := by
  obtain ⟨i0, hi, h0⟩ := Option.map_eq_some_iff.mp u8_infoR
  simp only [Prod.mk.injEq] at h0
  obtain ⟨hz1, hz2, hz0⟩ := h0
  have HL := Lib.hid hlen; clear hlen
  go_enter Try.func17, Try.ntmps17
  go_wp2_with fail
  refine (sb_check B b l w h).mono ?_
  rintro e w1 ⟨rfl, h1, hb1⟩
  clear h
  obtain ⟨hB, v, hbk, hown, hne⟩ := h1
  have c0 : w1.cell? ⟨b, 0, none⟩ = some (.pointer (some ⟨b, 0, none⟩)) := by rw [Lib.cell_of_heap hbk]; rfl
  have c1 : w1.cell? ⟨b, 1, none⟩ = some v := by rw [Lib.cell_of_heap hbk]; rfl
  go_wp2_with (at_builtin; refine Lib.wpList_append_own_string _ rfl _ _ 44 9 rfl B 5 i0 Try.underlying44 Try.underlying9 hi hz0 hz1 hz2 _ _ _ rfl hown s rfl ?qc1 ?qc2 ?qc3 ?_)
  case qc1 => rw [Lib.byteCells_length]; have := HL.out; unfold maxLen; omega
  case qc2 => rw [Lib.byteCells_length]; exact HL.out
  case qc3 => have := hb1.size; omega
  intro v' w2 hown' hgrow _
  have hb2 : w2.heap[b]? = some (.cells #[.pointer (some ⟨b, 0, none⟩), v] 61 (0, 0)) := by
    rw [hgrow.block b (blk_lt hbk) (fun e => hne e.symm)]
    exact hbk
  have d0 : w2.cell? ⟨b, 0, none⟩ = some (.pointer (some ⟨b, 0, none⟩)) := by rw [Lib.cell_of_heap hb2]; rfl
  have d1 : w2.cell? ⟨b, 1, none⟩ = some v := by rw [Lib.cell_of_heap hb2]; rfl
  have f1 : w2.frozen? ⟨b, 1, none⟩ = false := Lib.frozen_of_heap hb2 1
  obtain ⟨ya, yc, rfl⟩ := own_slice hown'
  have HX := Lib.hid (Lib.BuilderAt.put (T := 61) (e := 5) hB hb2 (bs' := Lib.byteCells (l ++ s.data.toList)) (v' := .slice ya ((Lib.byteCells l).length + s.size) yc) (by rw [Lib.byteCells_append, List.length_append]; simpa [Lib.strCells_eq, Lib.byteCells_length] using hown') (by decide))
  have HB := Lib.hid ((hb1.grown hgrow (by have := hb1.size; omega) (fun k hk => (hown.lt k hk).1)).setCell (p := ⟨b, 1, none⟩) hB (.slice ya ((Lib.byteCells l).length + s.size) yc))
  clear hown' hgrow
  go_wp2
  go_ret2
  exact ⟨⟨_, _, rfl⟩, .inr HX.out, HB.out⟩
end Go.Proofs.Ytnojomoeaofkoaa
