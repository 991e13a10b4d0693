/- rec: Frame. No conditions beyond the form's own reach. -/
import Derived.Test.YtnojomoeaofkoaaXRecB
import Derived.Test.YtnojomoeaofkoaaXRowS
namespace Go.Proofs.Ytnojomoeaofkoaa
open Go.RowKit Go.Lib Go.Proofs.Ytnojomoeaofkoaa.P Go.Proofs.Ytnojomoeaofkoaa.BeS Go.Proofs.Ytnojomoeaofkoaa.PoS Go.Proofs.YtnojomoeaofkoaaW.PrintWords Go.Proofs.YtnojomoeaofkoaaW.PrintLast Go.Proofs.YtnojomoeaofkoaaW.PrintMore
set_option linter.unusedVariables false
set_option linter.unusedSimpArgs false
--@tables
/-- A record: its kind and its body. -/
abbrev Rc := Nat × ByteArray
def encR (r : Rc) : List Value := [.int .u8 (r.1 : Int), .string r.2]
theorem encR_len (r : Rc) : (encR r).length = 2 := rfl
def RcIn (r : Rc) : Prop := r.1 < 256 ∧ r.2.size ≤ 4000
def goodR (r : Rc) : Bool := decide (r.1 ≠ 0) && decide (r.2.size ≤ 2048)
def frameL (rs : List Rc) : List UInt8 := rs.flatMap fun r => (recB r.1 r.2).data.toList
def frameV (rs : List Rc) : ByteArray × Int := if rs.all goodR then (str (frameL rs), 0) else (str [], 2)
theorem frameL_take (rs : List Rc) (j : Nat) (h : j < rs.length) : frameL (rs.take (j + 1)) = frameL (rs.take j) ++ (recB rs[j].1 rs[j].2).data.toList := by
  unfold frameL
  rw [List.take_succ_eq_append_getElem h, List.flatMap_append, List.flatMap_cons, List.flatMap_nil, List.append_nil]
theorem frameL_len (rs : List Rc) (h : ∀ r ∈ rs, RcIn r) : (frameL rs).length ≤ rs.length * 4007 := by
  induction rs with
  | nil => exact Nat.le_refl _
  | cons r rs ih =>
    have h1 := ih (fun x hx => h x (List.mem_cons_of_mem _ hx))
    have h2 := (h r (List.mem_cons_self ..)).2
    have h3 : (recB r.1 r.2).data.toList.length = 7 + r.2.size := by rw [Array.length_toList]; exact recB_size _ _
    unfold frameL at h1 ⊢
    rw [List.flatMap_cons, List.length_append, List.length_cons, h3]
    omega
/-- One element of a row of records. -/
theorem row_at {w : World} {v : Value} {rs : List Rc} (h : RowS encR w v rs) (j : Nat) (hj : j < rs.length) : ∃ g off cap, v = .slice (some ⟨g, off, none⟩) rs.length cap ∧ w.cell? ⟨g, off + j * 2, none⟩ = some (.int .u8 (rs[j].1 : Int)) ∧ w.cell? ⟨g, off + j * 2 + 1, none⟩ = some (.string rs[j].2) := by
  rcases h with ⟨_, rfl⟩ | ⟨g, off, cap, h1, _, _, _, h5⟩
  · exact absurd hj (Nat.not_lt_zero _)
  · refine ⟨g, off, cap, h1, ?_, ?_⟩
    · exact h5 (j * 2 + 0) _ (flat_get encR 2 encR_len rs j 0 hj (by decide))
    · have := h5 (j * 2 + 1) _ (flat_get encR 2 encR_len rs j 1 hj (by decide))
      rw [← Nat.add_assoc] at this
      exact this
theorem right_f (k : Nat) (b : ByteArray) : rec_Record_Right.f (k : Int) b = some (goodR (k, b)) := by
  unfold rec_Record_Right.f goodR
  by_cases h : k = 0
  · subst h; rfl
  · rw [if_neg (by omega)]
    congr 1
    simp only [ne_eq, h, not_false_eq_true, decide_true, Bool.true_and, decide_eq_decide]
    omega
theorem wrap_succR (p : Nat) (h : p < 1000) : wrap64 ((p : Int) + 1) = ((p + 1 : Nat) : Int) := by unfold wrap64; omega
theorem all_snoc (rs : List Rc) (j : Nat) (h : j < rs.length) (h1 : (rs.take j).all goodR = true) (h2 : goodR rs[j] = true) : (rs.take (j + 1)).all goodR = true := by
  rw [List.take_succ_eq_append_getElem h, List.all_append, h1]
  simp [h2]
theorem all_not (rs : List Rc) (j : Nat) (h : j < rs.length) (h2 : goodR rs[j] = false) : rs.all goodR = false := by
  rw [List.all_eq_false]
  exact ⟨rs[j], List.getElem_mem h, by rw [h2]; exact Bool.false_ne_true⟩

set_option maxHeartbeats 8000000 in
set_option maxRecDepth 100000 in
theorem rec_frame (g : Nat) (rs : List Rc) (hn : rs.length ≤ 100) (hin : ∀ r ∈ rs, RcIn r) (v : Value) (w : World) (ht : TabAt w g) (hr : RowS encR w v rs) :
    Calls Try.prog 9 #[.pointer (some ⟨g, 0, none⟩), v] w fun e w' => e = .returned (.tuple #[.string (frameV rs).1, .int .i64 (frameV rs).2]) ∧ Below w.heap.size w w' := by
  have HT := Lib.hid ht; clear ht
  have HR := Lib.hid hr; clear hr
  have HI := Lib.hid hin; clear hin
  have HN := Lib.hid hn; clear hn
  obtain ⟨va, vc, rfl, _⟩ := HR.out.len
  have hs := Lib.fresh_isBuilder 61 5 w
  have ha := below_alloc (Below.refl w.heap.size w) (.cells #[.pointer none, .slice none 0 0] 61)
  have HSb := Lib.hid (show SbAt (w.alloc (.cells #[.pointer none, .slice none 0 0] 61)) w.heap.size w.heap.size [] from hs); clear hs
  have HB := Lib.hid ha; clear ha
  go_enter Try.func9, Try.ntmps9
  go_wp2_with fail
  generalize (w.alloc (.cells #[.pointer none, .slice none 0 0] 61)) = w1 at HSb HB ⊢
  obtain ⟨bx, hbx⟩ : ∃ bx, w.heap.size = bx := ⟨_, rfl⟩
  have HBX := Lib.hid hbx
  rw [hbx] at HSb ⊢
  clear hbx
  go_loopw [13] (fun i wr => ∃ j : Nat, j ≤ rs.length ∧ i = .int .i64 (j : Int) ∧ (rs.take j).all goodR = true ∧ SbAt wr bx bx (frameL (rs.take j)) ∧ Below w.heap.size w wr) (fun i _ => rs.length - (RowKit.intOf i).toNat)
  case atStart => exact ⟨0, Nat.zero_le _, rfl, rfl, HSb.out, HB.out⟩
  case round =>
    clear HSb HB
    obtain ⟨j, hj, rfl, h1, h2, h3⟩ := hrel
    have HG := Lib.hid h1; clear h1
    have HSb := Lib.hid h2; clear h2
    have HB := Lib.hid h3; clear h3
    by_cases hlt : j < rs.length
    · obtain ⟨ga, off, cap, hv, k0, k1⟩ := row_at (HR.out.below HB.out) j hlt
      simp only [Value.slice.injEq, true_and] at hv
      obtain ⟨rfl, rfl⟩ := hv
      have e3 : wrap64 ((j : Int) + 1) = ((j + 1 : Nat) : Int) := wrap_succR j (Nat.lt_of_lt_of_le hlt (Nat.le_trans HN.out (by decide)))
      have HT2 := Lib.hid (frameL_take rs j hlt)
      have HIn := Lib.hid (HI.out rs[j] (List.getElem_mem hlt))
      have HAs := Lib.hid (all_snoc rs j hlt HG.out)
      have HAn := Lib.hid (all_not rs j hlt)
      have HLen := Lib.hid (show (frameL (rs.take j)).length ≤ 100 * 4007 from Nat.le_trans (frameL_len _ (fun r hr => HI.out r (List.mem_of_mem_take hr))) (Nat.mul_le_mul_right _ (Nat.le_trans (List.length_take_le' j rs) HN.out)))
      generalize rs[j] = r at k0 k1 HT2 HIn HAs HAn
      obtain ⟨k, b⟩ := r
      simp only at k0 k1
      have ha := below_alloc (Below.refl wr.heap.size wr) (.cells #[.int .u8 (k : Int), .string b] 38)
      replace HSb := Lib.hid (HSb.out.below ha)
      replace HB := Lib.hid (chain2 HB.out ha); clear ha
      have hS : (wr.alloc (.cells #[.int .u8 (k : Int), .string b] 38)).cell? ⟨wr.heap.size, 0, none⟩ = some (.int .u8 (k : Int)) ∧ (wr.alloc (.cells #[.int .u8 (k : Int), .string b] 38)).cell? ⟨wr.heap.size, 1, none⟩ = some (.string b) := by constructor <;> simp
      have HSS := Lib.hid hS; clear hS
      go_wp2_with fail
      generalize (wr.alloc (.cells #[.int .u8 (k : Int), .string b] 38)) = w2 at HSb HB HSS ⊢
      generalize wr.heap.size = by_ at HSS ⊢
      refine (rec_Record_Right.calls _ _ _ _ (right_f k b)).mono ?_
      rintro e w3 ⟨rfl, hd⟩
      replace HSb := Lib.hid (HSb.out.below hd)
      replace HSS := Lib.hid (And.intro (pw_cell_below hd HSS.out.1) (pw_cell_below hd HSS.out.2))
      replace HB := Lib.hid (chain2 HB.out hd); clear hd k0 k1
      obtain ⟨s0, s1⟩ := HSS.out
      cases hgd : goodR (k, b) with
      | false =>
        have HV := Lib.hid (show frameV rs = (str [], 2) by unfold frameV; rw [HAn.out hgd]; rfl)
        clear hgd
        go_wp2
        go_ret2
        exact ⟨by rw [HV.out]; rfl, HB.out⟩
      | true =>
        have HGn := Lib.hid (HAs.out hgd)
        clear hgd
        go_wp2_with fail
        refine (rec_bytes k HIn.out.1 b HIn.out.2 g w3 (HT.out.below HB.out)).mono ?_
        rintro e w4 ⟨rfl, hd⟩
        replace HSb := Lib.hid (HSb.out.below hd)
        replace HB := Lib.hid (chain2 HB.out hd); clear hd s0 s1
        have HZ := Lib.hid (recB_size k b)
        generalize recB k b = rb at HT2 HZ ⊢
        go_wp2_with fail
        refine (sb_write bx bx _ rb w4 HSb.out (by have := HLen.out; have := HZ.out; have := HIn.out.2; simp only at this; omega) (Nat.le_of_lt HSb.out.lt)).mono ?_
        rintro e w5 ⟨⟨x, y, rfl⟩, hs, hd⟩
        replace HSb := Lib.hid (show SbAt w5 bx bx (frameL (rs.take (j + 1))) by rw [HT2.out]; exact hs)
        replace HB := Lib.hid (show Below w.heap.size w w5 from HB.out.trans (by rw [HBX.out]; exact hd)); clear hd hs
        go_wp2
        go_roundw
        case rel => exact ⟨j + 1, hlt, by rw [e3], HGn.out, HSb.out, HB.out⟩
        case measure => rw [e3]; simp only [RowKit.intOf, Int.toNat_natCast]; exact Nat.sub_lt_sub_left hlt (Nat.lt_succ_self j)
    · obtain rfl : j = rs.length := Nat.le_antisymm hj (Nat.le_of_not_lt hlt)
      rw [List.take_length] at HSb HG
      have HV := Lib.hid (show frameV rs = (str (frameL rs), 0) by unfold frameV; rw [HG.out]; rfl)
      go_wp2_with fail
      refine (sh_Builder_String_any bx bx _ wr HSb.out (Nat.le_of_lt HSb.out.lt)).mono ?_
      rintro e w2 ⟨rfl, hd⟩
      replace HB := Lib.hid (show Below w.heap.size w w2 from HB.out.trans (by rw [HBX.out]; exact hd)); clear hd
      go_wp2
      go_ret2
      exact ⟨by rw [HV.out]; rfl, HB.out⟩
theorem rec_frame_nil (v : Value) (w : World) :
    Calls Try.prog 9 #[.pointer none, v] w fun e w' => e = .returned (.tuple #[.string (str []), .int .i64 1]) ∧ w' = w := by
  go_enter Try.func9, Try.ntmps9
  go_wp2
  go_ret2
  exact ⟨rfl, rfl⟩
end Go.Proofs.Ytnojomoeaofkoaa
