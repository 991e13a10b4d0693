/- Layer 19's signs of life. No conditions. -/
import Derived.Test.YtnojomoeaofkoaaXRecL
namespace Go.Proofs.Ytnojomoeaofkoaa
open Go.RowKit Go.Lib Go.Proofs.Ytnojomoeaofkoaa.P Go.Proofs.Ytnojomoeaofkoaa.BeS Go.Proofs.Ytnojomoeaofkoaa.PoS Go.Proofs.YtnojomoeaofkoaaW.PrintWords Go.Proofs.YtnojomoeaofkoaaW.PrintLast Go.Proofs.YtnojomoeaofkoaaW.PrintMore
set_option linter.unusedVariables false
set_option linter.unusedSimpArgs false
--@tables
def rsW : List Rc := [(5, ⟨#[]⟩), (6, ⟨#[97, 98]⟩)]
theorem rsW_good : GoodL rsW := by
  intro r hr
  simp only [rsW, List.mem_cons, List.not_mem_nil, or_false] at hr
  rcases hr with rfl | rfl <;> exact ⟨by decide, by decide⟩
theorem rsW_in : ∀ r ∈ rsW, RcIn r := by
  intro r hr
  simp only [rsW, List.mem_cons, List.not_mem_nil, or_false] at hr
  rcases hr with rfl | rfl <;> exact ⟨by decide, by decide⟩
theorem sW_size : (str (frameL rsW)).size = 16 := by
  unfold rsW
  rw [frameL_cons, frameL_cons, ByteArray.size_append, ByteArray.size_append, recB_size, recB_size]
  rfl
theorem sW_head : (str (frameL rsW)).extract 0 3 = ⟨#[0, 0, 5]⟩ := by
  unfold rsW
  rw [frameL_cons, ext_of_append _ _ 0 3 (by rw [recB_size]; decide)]
  unfold recB
  rw [ext_of_append _ _ 0 3 (by rw [headR_size]; decide)]
  decide +kernel
theorem rsW_row {w : World} {b : Nat} (h : w.heap[b]? = some (.cells #[.int .u8 5, .string { data := #[] }, .int .u8 6, .string { data := #[97, 98] }] 38 (0, 0))) : RowS encR w (.slice (some ⟨b, 0, none⟩) 2 2) rsW := by
  refine .inr ⟨b, 0, 2, rfl, by decide, by decide, blk_lt h, fun j u hu => ?_⟩
  unfold World.cell?
  rw [h, Nat.zero_add]
  match j, hu with
  | 0, hu => exact hu
  | 1, hu => exact hu
  | 2, hu => exact hu
  | 3, hu => exact hu
set_option maxHeartbeats 4000000 in
set_option maxRecDepth 100000 in
theorem wakes_ok (w : World) : Calls Try.prog 13 #[] w fun e w' => e = .returned (.bool true) ∧ Below w.heap.size w w' := by
  have hz := make_zero
  go_enter Try.func13, Try.ntmps13
  go_wp2_with fail
  refine (poly_Make.calls _).mono ?_
  rintro e w1 ⟨rfl, hb1⟩
  have Hb1 := Lib.hid hb1; clear hb1
  go_wp2_with (refine wpList_store_row rfl 25 _ _ rfl w1.heap.size (tabCells 256) rfl rfl 25 (tabCells 0) (heap_alloc_new w1 _) make_info (by rw [tabCells_size, tabCells_size]) (tabCells_one _) ?_)
  clear hz
  obtain ⟨hT, hB, hS⟩ := made_facts Hb1.out _ rfl
  have hgs : ((w1.alloc (.cells (tabCells 0) 25)).setRow w1.heap.size (tabCells 256)).heap.size = w1.heap.size + 1 := by simp
  generalize (w1.alloc (.cells (tabCells 0) 25)).setRow w1.heap.size (tabCells 256) = wx at hT hB hgs ⊢
  have HT := Lib.hid hT; clear hT
  have HB := Lib.hid hB; clear hB
  generalize w1.heap.size = g at HT hgs ⊢
  have HX := Lib.hid (heap_alloc_new wx (.cells #[.int .u8 5, .string { data := #[] }, .int .u8 6, .string { data := #[97, 98] }] 38))
  have ha := below_alloc (Below.refl wx.heap.size wx) (.cells #[.int .u8 5, .string { data := #[] }, .int .u8 6, .string { data := #[97, 98] }] 38)
  replace HT := Lib.hid (HT.out.below ha)
  replace HB := Lib.hid (chain2 HB.out ha)
  clear ha
  rw [hgs] at HX
  clear hgs
  generalize wx.alloc (.cells #[.int .u8 5, .string { data := #[] }, .int .u8 6, .string { data := #[97, 98] }] 38) = wx at HX HT HB ⊢
  refine (rec_frame g rsW (by decide) rsW_in (.slice (some ⟨g + 1, 0, none⟩) 2 2) wx HT.out (rsW_row HX.out)).mono ?_
  rintro e w2 ⟨rfl, hd⟩
  replace HT := Lib.hid (HT.out.below hd)
  replace HB := Lib.hid (chain2 HB.out hd)
  clear hd
  rw [frameV_good rsW_good]
  have HPv := Lib.hid (parse_frame rsW rsW_good)
  have HSz := Lib.hid sW_size
  have HSh := Lib.hid sW_head
  generalize str (frameL rsW) = sW at HPv HSz HSh ⊢
  go_wp2_with fail
  refine (parse_ok g sW (by have := HSz.out; omega) w2 HT.out).mono ?_
  rintro e w2 ⟨v, rfl, h1, hd⟩
  replace HB := Lib.hid (chain2 HB.out hd)
  clear hd
  have HR := Lib.hid h1; clear h1
  rw [HPv.out] at HR ⊢
  obtain ⟨va, vc, rfl⟩ := HR.out.form
  obtain ⟨ga, off, cap, hv, k0, k1⟩ := row_at HR.out.s 0 (by decide)
  obtain ⟨ga', off', cap', hv', k2, k3⟩ := row_at HR.out.s 1 (by decide)
  have hsz := HSz.out
  have hsh := HSh.out
  simp only [Value.slice.injEq, true_and] at hv hv'
  obtain ⟨rfl, rfl⟩ := hv
  obtain ⟨hv1, rfl⟩ := hv'
  simp only [Option.some.injEq, Addr.mk.injEq, and_true] at hv1
  obtain ⟨rfl, rfl⟩ := hv1
  have HSi := Lib.hid (size_f 5 ⟨#[]⟩ (by decide) (by decide))
  replace k0 : w2.cell? ⟨ga, off, none⟩ = some (.int .u8 5) := k0
  replace k1 : w2.cell? ⟨ga, off + 1, none⟩ = some (.string { data := #[] }) := k1
  replace k2 : w2.cell? ⟨ga, off + 2, none⟩ = some (.int .u8 6) := k2
  replace k3 : w2.cell? ⟨ga, off + 2 + 1, none⟩ = some (.string { data := #[97, 98] }) := k3
  rw [show rsW.length = 2 from rfl]
  go_wp2_with fail
  refine (rec_Record_Size.calls _ _ _ _ HSi.out).mono ?_
  rintro e w3 ⟨rfl, hd⟩
  replace HB := Lib.hid (chain2 HB.out hd); clear hd k0 k1 k2 k3
  go_wp2
  go_ret
  exact ⟨rfl, HB.out⟩
end Go.Proofs.Ytnojomoeaofkoaa
