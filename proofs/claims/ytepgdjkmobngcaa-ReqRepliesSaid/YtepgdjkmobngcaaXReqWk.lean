/- req: the law's signs of life. No conditions beyond those that are written. -/
import Derived.Test.YtepgdjkmobngcaaXReqO
import Derived.Deep.WholeRow
namespace Go.Proofs.Ytepgdjkmobngcaa
open Go.RowKit Go.Lib Go.Proofs.Ytepgdjkmobngcaa.P Go.Proofs.Ytepgdjkmobngcaa.BeS Go.Proofs.YtepgdjkmobngcaaW.PrintWords Go.Proofs.YtepgdjkmobngcaaW.PrintLast Go.Proofs.YtepgdjkmobngcaaW.PrintMore
set_option linter.unusedVariables false
set_option linter.unusedSimpArgs false
--@tables
/-- A reply that has a number alone. -/
def Rp2 (w : World) (b : Nat) (m : Int) : Prop := w.heap[b]? = some (.cells #[.int .i64 0, .int .i64 m, .int .i64 0, .int .i64 0, .int .i64 0, .int .i64 0, .int .i64 0, .int .i64 0, .int .i64 0, .int .u8 0, .int .i64 0, .int .i64 0, .int .i64 0, .int .i64 0, .bool false, .slice none 0 0, .int .i64 0, .int .i64 0, .bool false] 71 (0, 0))
theorem Rp2.cells {w : World} {b : Nat} {m : Int} (h : Rp2 w b m) : w.cell? ⟨b, 0, none⟩ = some (.int .i64 0) ∧ w.cell? ⟨b, 1, none⟩ = some (.int .i64 m) ∧ w.cell? ⟨b, 2, none⟩ = some (.int .i64 0) ∧ w.cell? ⟨b, 3, none⟩ = some (.int .i64 0) ∧ w.cell? ⟨b, 4, none⟩ = some (.int .i64 0) ∧ w.cell? ⟨b, 5, none⟩ = some (.int .i64 0) ∧ w.cell? ⟨b, 6, none⟩ = some (.int .i64 0) ∧ w.cell? ⟨b, 7, none⟩ = some (.int .i64 0) ∧ w.cell? ⟨b, 8, none⟩ = some (.int .i64 0) ∧ w.cell? ⟨b, 9, none⟩ = some (.int .u8 0) ∧ w.cell? ⟨b, 10, none⟩ = some (.int .i64 0) ∧ w.cell? ⟨b, 11, none⟩ = some (.int .i64 0) ∧ w.cell? ⟨b, 12, none⟩ = some (.int .i64 0) ∧ w.cell? ⟨b, 13, none⟩ = some (.int .i64 0) ∧ w.cell? ⟨b, 14, none⟩ = some (.bool false) ∧ w.cell? ⟨b, 15, none⟩ = some (.slice none 0 0) ∧ w.cell? ⟨b, 16, none⟩ = some (.int .i64 0) ∧ w.cell? ⟨b, 17, none⟩ = some (.int .i64 0) ∧ w.cell? ⟨b, 18, none⟩ = some (.bool false) := by
  unfold Rp2 at h
  refine ⟨?_, ?_, ?_, ?_, ?_, ?_, ?_, ?_, ?_, ?_, ?_, ?_, ?_, ?_, ?_, ?_, ?_, ?_, ?_⟩ <;> (unfold World.cell?; rw [h]; rfl)
theorem rp_size : (Try.prog.info? 71).map (·.size) = some 19 := by kernel_rfl
theorem load_row (w : World) (b : Nat) (ty : TypeId) (cs : Array Value) {fs} (hg : w.heap[b]? = some (.cells cs ty (0, 0))) (hu : Try.prog.underlying ty = some (.struct fs)) (hi : (Try.prog.info? ty).map (·.size) = some cs.size) :
    (Instr.loadAt ty (.pointer (some ⟨b, 0, none⟩))).run Try.prog w = .ok (.agg cs) w := by
  simp only [Instr.loadAt, Instr.sureAddr, Sem.run_bind, Sem.run_pure, Result.andThen_ok, run_loadVar_row w b ty ty cs (0, 0) _ hg hu rfl hi]
theorem wpList_load_row {ops : Array Oper} {rest : List Oper} {op : Oper} {a : Act} {w : World} {Q : Exit → Act → World → Prop} (hgd : op.guard = none) (ty : TypeId) (x : Operand) (ho : op.op = .load ty x)
    (b : Nat) (hx : a.eval x = .pointer (some ⟨b, 0, none⟩)) (cs : Array Value) {fs} (hg : w.heap[b]? = some (.cells cs ty (0, 0))) (hu : Try.prog.underlying ty = some (.struct fs)) (hi : (Try.prog.info? ty).map (·.size) = some cs.size)
    (h : wpList Try.prog ops Q rest (a.put op.dst (.agg cs)) w) : wpList Try.prog ops Q (op :: rest) a w := by
  refine wpList_plain hgd fun _ hK => ?_
  unfold Oper.wp execOp
  simp only [ho, hx, Sem.run_bind, Sem.run_pure, load_row w b ty cs hg hu hi, Result.andThen_ok]
  exact hK _ _ h
set_option maxHeartbeats 8000000 in
set_option maxRecDepth 8000 in
theorem rep_write2 (base g : Nat) (fs : List Fl) (w : World) (h : WrF w base g fs) (hl : fs.length ≤ 100) :
    Calls Try.prog 34 #[.agg #[.int .i64 0, .int .i64 1, .int .i64 0, .int .i64 0, .int .i64 0, .int .i64 0, .int .i64 0, .int .i64 0, .int .i64 0, .int .u8 0, .int .i64 0, .int .i64 0, .int .i64 0, .int .i64 0, .bool false, .slice none 0 0, .int .i64 0, .int .i64 0, .bool false], .pointer (some ⟨g, 0, none⟩), .int .u8 2] w fun x w' => x = .returned (.tuple #[]) ∧ WrF w' base g (fs ++ [.num 1 4]) ∧ Below base w w' := by
  have ha := below_alloc (Below.refl w.heap.size w) (.cells #[.int .i64 0, .int .i64 1, .int .i64 0, .int .i64 0, .int .i64 0, .int .i64 0, .int .i64 0, .int .i64 0, .int .i64 0, .int .u8 0, .int .i64 0, .int .i64 0, .int .i64 0, .int .i64 0, .bool false, .slice none 0 0, .int .i64 0, .int .i64 0, .bool false] 71)
  have HX := Lib.hid (show Rp2 _ w.heap.size 1 from heap_alloc_new w (.cells #[.int .i64 0, .int .i64 1, .int .i64 0, .int .i64 0, .int .i64 0, .int .i64 0, .int .i64 0, .int .i64 0, .int .i64 0, .int .u8 0, .int .i64 0, .int .i64 0, .int .i64 0, .int .i64 0, .bool false, .slice none 0 0, .int .i64 0, .int .i64 0, .bool false] 71))
  have HNe := Lib.hid (show (some g : Option Nat) ≠ some w.heap.size from fun e => (h.2 g rfl).2.elim (fun v h => absurd h.1.lt (by rw [Option.some.inj e]; exact Nat.lt_irrefl _)))
  have HBs := Lib.hid h.1
  have HW := Lib.hid (h.below ha)
  have HB := Lib.hid (show Below base w _ from ha.mono h.1); clear ha h
  have HL := Lib.hid hl; clear hl
  obtain ⟨z0, z1, z2, z3, z4, z5, z6, z7, z8, z9, z10, z11, z12, z13, z14, z15, z16, z17, z18⟩ := HX.out.cells
  go_enter Try.func34, Try.ntmps34
  go_upto_block 0 with (fail)
  clear z0 z1 z2 z3 z4 z5 z6 z7 z8 z9 z10 z11 z12 z13 z14 z15 z16 z17 z18
  generalize w.alloc (.cells #[.int .i64 0, .int .i64 1, .int .i64 0, .int .i64 0, .int .i64 0, .int .i64 0, .int .i64 0, .int .i64 0, .int .i64 0, .int .u8 0, .int .i64 0, .int .i64 0, .int .i64 0, .int .i64 0, .bool false, .slice none 0 0, .int .i64 0, .int .i64 0, .bool false] 71) = w1 at HX HW HB ⊢
  generalize w.heap.size = b at HX HNe ⊢
  have hd := below_alloc (Below.refl w1.heap.size w1) (.cells #[.int .i64 0, .int .u8 0, .int .i64 0, .int .i64 0, .int .i64 0, .int .i64 0, .bool false, .slice none 0 0] 68)
  replace HX := Lib.hid (show Rp2 _ _ _ from blk_below HX.out hd)
  replace HB := Lib.hid (chainB HB.out HW.out.1 hd)
  replace HW := Lib.hid (HW.out.below hd); clear hd
  generalize w1.alloc (.cells #[.int .i64 0, .int .u8 0, .int .i64 0, .int .i64 0, .int .i64 0, .int .i64 0, .bool false, .slice none 0 0] 68) = w2 at HX HW HB ⊢
  go_wp2_with fail
  refine (event_ok 2 w2).mono ?_
  rintro e w3 ⟨rfl, hd⟩
  replace hd := hd.below
  replace HX := Lib.hid (show Rp2 _ _ _ from blk_below HX.out hd)
  replace HB := Lib.hid (chainB HB.out HW.out.1 hd)
  replace HW := Lib.hid (HW.out.below hd); clear hd
  rw [show decide (1 ≤ 2 ∧ 2 ≤ 9) = true from rfl]
  obtain ⟨z0, z1, z2, z3, z4, z5, z6, z7, z8, z9, z10, z11, z12, z13, z14, z15, z16, z17, z18⟩ := HX.out.cells
  have c1 : IntKind.u64.wrap (1 : Int) = 1 := by rw [IntKind.wrap_u64]; rfl
  go_wp2_with fail
  clear z0 z1 z2 z3 z4 z5 z6 z7 z8 z9 z10 z11 z12 z13 z14 z15 z16 z17 z18 c1
  refine (wrF_num base g fs 1 4 4 rfl w3 HW.out (by have := HL.out; omega) (by decide) (by decide)).mono ?_
  rintro e w4 ⟨rfl, hw, hd, ht⟩
  replace HW := Lib.hid hw; clear hw
  replace HB := Lib.hid (HB.out.trans hd); clear hd ht
  go_wp2
  go_end0
  exact ⟨by rfl, HW.out, HB.out⟩
theorem two_ok : flOk ([Fl.num 0 1] ++ [Fl.num 1 4]) = true := by
  show (fits 0 ((1 : Nat) : Int) && (fits 1 ((4 : Nat) : Int) && true)) = true
  have h1 : fits 0 ((1 : Nat) : Int) = true := ok_of_fine (f := .num 0 1) ⟨by decide, by decide, by decide⟩
  have h2 : fits 1 ((4 : Nat) : Int) = true := ok_of_fine (f := .num 1 4) ⟨by decide, by decide, by decide⟩
  rw [h1, h2]; rfl
theorem two_bytes : str (flBytes ([Fl.num 0 1] ++ [Fl.num 1 4])) = { data := #[0, 0, 0, 0, 1] } := by
  show str (putL 0 1 ++ (putL 1 4 ++ [])) = _
  simp [putL, str]
set_option maxHeartbeats 8000000 in
set_option maxRecDepth 8000 in
theorem rep_encode2 (w : World) :
    Calls Try.prog 15 #[.agg #[.int .i64 0, .int .i64 1, .int .i64 0, .int .i64 0, .int .i64 0, .int .i64 0, .int .i64 0, .int .i64 0, .int .i64 0, .int .u8 0, .int .i64 0, .int .i64 0, .int .i64 0, .int .i64 0, .bool false, .slice none 0 0, .int .i64 0, .int .i64 0, .bool false], .int .u8 2] w fun x w' => x = .returned (.string { data := #[0, 0, 0, 0, 1] }) ∧ Below w.heap.size w w' := by
  have ha := below_alloc (Below.refl w.heap.size w) (.cells #[.int .i64 0, .int .i64 1, .int .i64 0, .int .i64 0, .int .i64 0, .int .i64 0, .int .i64 0, .int .i64 0, .int .i64 0, .int .u8 0, .int .i64 0, .int .i64 0, .int .i64 0, .int .i64 0, .bool false, .slice none 0 0, .int .i64 0, .int .i64 0, .bool false] 71)
  have HX := Lib.hid (show Rp2 _ w.heap.size 1 from heap_alloc_new w (.cells #[.int .i64 0, .int .i64 1, .int .i64 0, .int .i64 0, .int .i64 0, .int .i64 0, .int .i64 0, .int .i64 0, .int .i64 0, .int .u8 0, .int .i64 0, .int .i64 0, .int .i64 0, .int .i64 0, .bool false, .slice none 0 0, .int .i64 0, .int .i64 0, .bool false] 71))
  have HB := Lib.hid ha; clear ha
  go_enter Try.func15, Try.ntmps15
  go_wp2_with fail
  generalize w.alloc (.cells #[.int .i64 0, .int .i64 1, .int .i64 0, .int .i64 0, .int .i64 0, .int .i64 0, .int .i64 0, .int .i64 0, .int .i64 0, .int .u8 0, .int .i64 0, .int .i64 0, .int .i64 0, .int .i64 0, .bool false, .slice none 0 0, .int .i64 0, .int .i64 0, .bool false] 71) = w1 at HX HB ⊢
  generalize w.heap.size = b at HX ⊢
  refine (is_ok 2 w1).mono ?_
  rintro e w2 ⟨rfl, hd⟩
  rw [show decide (isK 2) = true from rfl]
  replace hd := hd.below
  replace HX := Lib.hid (show Rp2 _ _ _ from blk_below HX.out hd)
  replace HB := Lib.hid (chain2 HB.out hd); clear hd
  have HW := Lib.hid (WrF.new w2)
  have hd := below_alloc (Below.refl w2.heap.size w2) (.cells #[.slice none 0 0, .bool false] 84)
  have HB2 := Lib.hid hd
  have HXlt := Lib.hid (blk_lt HX.out)
  replace HX := Lib.hid (show Rp2 _ _ _ from blk_below HX.out hd); clear hd
  have HBs := Lib.hid HB.out.size
  obtain ⟨z0, z1, z2, z3, z4, z5, z6, z7, z8, z9, z10, z11, z12, z13, z14, z15, z16, z17, z18⟩ := HX.out.cells
  have c1 : IntKind.u64.wrap (0 : Int) = 0 := by rw [IntKind.wrap_u64]; rfl
  go_wp2_with fail
  clear z0 z1 z2 z3 z4 z5 z6 z7 z8 z9 z10 z11 z12 z13 z14 z15 z16 z17 z18 c1
  generalize w2.alloc (.cells #[.slice none 0 0, .bool false] 84) = w3 at HW HB2 HX ⊢
  have HNe := Lib.hid (show (some w2.heap.size : Option Nat) ≠ some b from fun e => by have h1 := HXlt.out; have h2 := Option.some.inj e; omega)
  generalize w2.heap.size = g at HW HB2 HBs HNe ⊢
  refine (wrF_num g g [] 0 1 1 rfl w3 HW.out (by decide) (by decide) (by decide)).mono ?_
  rintro e w4 ⟨rfl, hw, hd, ht⟩
  rw [List.nil_append] at hw
  replace HX := Lib.hid (show Rp2 _ _ _ from ht.blk HX.out HNe.out (by decide))
  replace HW := Lib.hid hw; clear hw
  replace HB2 := Lib.hid (HB2.out.trans hd); clear hd ht
  have z0 := HX.out.cells.1
  go_wp2_with (refine wpList_load_row rfl 71 (.tmp 2) rfl b rfl _ HX.out Try.underlying71 rp_size ?_)
  clear z0
  refine (rep_write2 g g _ w4 HW.out (by decide)).mono ?_
  rintro e w5 ⟨rfl, hw, hd⟩
  replace HW := Lib.hid hw; clear hw
  replace HB2 := Lib.hid (HB2.out.trans hd); clear hd
  replace HB := Lib.hid (HB.out.trans (HB2.out.mono HBs.out)); clear HB2
  go_wp2_with fail
  refine (wrF_bytes g g _ w5 HW.out).mono ?_
  rintro e w6 ⟨rfl, hd⟩
  rw [if_pos two_ok, if_pos two_ok, two_bytes]
  replace HB := Lib.hid (chain2 HB.out hd); clear hd
  go_wp2
  go_ret
  exact ⟨rfl, HB.out⟩
set_option maxHeartbeats 8000000 in
set_option maxRecDepth 8000 in
theorem rep_read2 (bq g : Nat) (hne : bq ≠ g) (r : RdS) (w : World) (hX : Rp2 w bq 0) (hR : RdO w (some g) r) :
    Calls Try.prog 35 #[.pointer (some ⟨bq, 0, none⟩), .pointer (some ⟨g, 0, none⟩), .int .u8 2] w fun x w' => x = .returned (.bool true) ∧ Rp2 w' bq (rdN r 4 : Int) ∧ RdO w' (some g) (tkR r 4) ∧ Touch (fun i => i = bq ∨ i = g) w w' := by
  have HNe := Lib.hid hne; clear hne
  have HX := Lib.hid hX; clear hX
  have HR := Lib.hid hR; clear hR
  go_enter Try.func35, Try.ntmps35
  go_wp2_with fail
  refine (event_ok 2 w).mono ?_
  rintro e w1 ⟨rfl, hd⟩
  replace hd := hd.below
  rw [show decide (1 ≤ 2 ∧ 2 ≤ 9) = true from rfl]
  have HT := Lib.hid (Touch.of (fun i => i = bq ∨ i = g) hd)
  replace HX := Lib.hid (show Rp2 _ _ _ from blk_below HX.out hd)
  replace HR := Lib.hid (HR.out.below hd); clear hd
  go_wp2_with fail
  refine (rd_numberP (some g) (.pointer (some ⟨g, 0, none⟩)) rfl r 4 w1 HR.out (by decide) (by decide)).mono ?_
  rintro e w2 ⟨rfl, hr, hg⟩
  rw [show numW 4 = 4 from rfl] at hr
  replace HR := Lib.hid hr; clear hr
  replace HX := Lib.hid (show Rp2 _ _ _ from blk_other HX.out hg HNe.out)
  replace HT := Lib.hid (HT.out.grown hg (fun k hk => .inl (.inr (Option.some.inj hk).symm))); clear hg
  have c1 := i64_small (rdN r 4) (by have := rdN4_lt r; omega)
  have c2 := w64_small (rdN r 4) (by have := rdN4_lt r; omega)
  have f1 : w2.frozen? ⟨bq, 1, none⟩ = false := by have h := HX.out; unfold Rp2 at h; unfold World.frozen?; rw [h]; rfl
  have x1 := HX.out.cells.2.1
  go_wp2
  go_ret
  exact ⟨rfl, heap_setCell_same w2 bq 1 _ _ _ HX.out, HR.out.set HNe.out (i := 1) _, Touch.set HT.out (i := 1) (.inl (.inl rfl)) _⟩
theorem rp2_one : (#[.int .i64 0, .int .i64 1, .int .i64 0, .int .i64 0, .int .i64 0, .int .i64 0, .int .i64 0, .int .i64 0, .int .i64 0, .int .u8 0, .int .i64 0, .int .i64 0, .int .i64 0, .int .i64 0, .bool false, .slice none 0 0, .int .i64 0, .int .i64 0, .bool false] : Array Value).all (·.oneCell') = true := by simp [Value.oneCell']
theorem rp2_one0 : (#[.int .i64 0, .int .i64 0, .int .i64 0, .int .i64 0, .int .i64 0, .int .i64 0, .int .i64 0, .int .i64 0, .int .i64 0, .int .u8 0, .int .i64 0, .int .i64 0, .int .i64 0, .int .i64 0, .bool false, .slice none 0 0, .int .i64 0, .int .i64 0, .bool false] : Array Value).all (·.oneCell') = true := by simp [Value.oneCell']
theorem wpList_store_new {ops : Array Oper} {rest : List Oper} {op : Oper} {a : Act} {Q : Exit → Act → World → Prop} (hgd : op.guard = none) (ty : TypeId) (x y : Operand) (ho : op.op = .store ty x y)
    (w0 : World) (old cells : Array Value) (hx : a.eval x = .pointer (some ⟨w0.heap.size, 0, none⟩)) (hy : a.eval y = .agg cells) (hi : (Try.prog.info? ty).map (·.size) = some cells.size) (hold : old.size = cells.size) (h1 : cells.all (·.oneCell') = true)
    (h : wpList Try.prog ops Q rest (a.put op.dst undef) (w0.alloc (.cells cells ty))) : wpList Try.prog ops Q (op :: rest) a (w0.alloc (.cells old ty)) := by
  refine wpList_store_row hgd ty x y ho w0.heap.size cells hx hy ty old (heap_alloc_new w0 _) hi hold h1 ?_
  rw [World.setRow_alloc_new]
  exact h
theorem setRow_grown (w : World) (b : Nat) (cs : Array Value) : w.grownBy (w.setRow b cs) (some b) :=
  ⟨rfl, rfl, rfl, by unfold World.setRow; simp, fun i hi hne => setRow_other w b i cs (fun e => hne (by rw [e]))⟩
theorem five_bytes : rdN (({ data := #[0, 0, 0, 0, 1] } : ByteArray).data.toList, false) 1 = 0 ∧ rdN (tkR (({ data := #[0, 0, 0, 0, 1] } : ByteArray).data.toList, false) 1) 4 = 1 ∧ fin (tkR (tkR (({ data := #[0, 0, 0, 0, 1] } : ByteArray).data.toList, false) 1) 4) := by
  refine ⟨by decide, by decide, by decide⟩
set_option maxHeartbeats 8000000 in
set_option maxRecDepth 8000 in
theorem rep_parse2 (w : World) :
    Calls Try.prog 16 #[.int .u8 2, .string { data := #[0, 0, 0, 0, 1] }] w fun x w' => x = .returned (.tuple #[.agg #[.int .i64 0, .int .i64 1, .int .i64 0, .int .i64 0, .int .i64 0, .int .i64 0, .int .i64 0, .int .i64 0, .int .i64 0, .int .u8 0, .int .i64 0, .int .i64 0, .int .i64 0, .int .i64 0, .bool false, .slice none 0 0, .int .i64 0, .int .i64 0, .bool false], .int .i64 0]) ∧ Below w.heap.size w w' := by
  have ha := below_alloc (Below.refl w.heap.size w) (.cells #[.int .i64 0, .int .i64 0, .int .i64 0, .int .i64 0, .int .i64 0, .int .i64 0, .int .i64 0, .int .i64 0, .int .i64 0, .int .u8 0, .int .i64 0, .int .i64 0, .int .i64 0, .int .i64 0, .bool false, .slice none 0 0, .int .i64 0, .int .i64 0, .bool false] 71)
  have HZ := Lib.hid (show Rp2 _ w.heap.size 0 from heap_alloc_new w (.cells #[.int .i64 0, .int .i64 0, .int .i64 0, .int .i64 0, .int .i64 0, .int .i64 0, .int .i64 0, .int .i64 0, .int .i64 0, .int .u8 0, .int .i64 0, .int .i64 0, .int .i64 0, .int .i64 0, .bool false, .slice none 0 0, .int .i64 0, .int .i64 0, .bool false] 71))
  have HB := Lib.hid ha; clear ha
  obtain ⟨b1, b2, b3⟩ := five_bytes
  generalize hs : ({ data := #[0, 0, 0, 0, 1] } : ByteArray) = s at b1 b2 b3 ⊢
  have HB1 := Lib.hid b1; clear b1
  have HB2 := Lib.hid b2; clear b2
  have HB3 := Lib.hid b3; clear b3
  have HSs := Lib.hid (show s.size ≤ 1000 by rw [← hs]; decide); clear hs
  go_enter Try.func16, Try.ntmps16
  go_wp2_with fail
  generalize w.alloc (.cells #[.int .i64 0, .int .i64 0, .int .i64 0, .int .i64 0, .int .i64 0, .int .i64 0, .int .i64 0, .int .i64 0, .int .i64 0, .int .u8 0, .int .i64 0, .int .i64 0, .int .i64 0, .int .i64 0, .bool false, .slice none 0 0, .int .i64 0, .int .i64 0, .bool false] 71) = w1 at HZ HB ⊢
  generalize hbz : w.heap.size = bz at HZ ⊢
  have HBz := Lib.hid hbz; clear hbz
  refine (is_ok 2 w1).mono ?_
  rintro e w2 ⟨rfl, hd⟩
  rw [show decide (isK 2) = true from rfl]
  replace hd := hd.below
  replace HZ := Lib.hid (show Rp2 _ _ _ from blk_below HZ.out hd)
  replace HB := Lib.hid (chain2 HB.out hd); clear hd
  go_wp2_with fail
  refine (rd_new s (by have := HSs.out; omega) w2).mono ?_
  rintro e w3 ⟨rfl, hr, _, hd⟩
  have HR := Lib.hid hr; clear hr
  have HZ1 := Lib.hid (blk_lt HZ.out)
  replace HZ := Lib.hid (show Rp2 _ _ _ from blk_below HZ.out hd)
  replace HB := Lib.hid (chain2 HB.out hd); clear hd
  have HNz := Lib.hid (show bz ≠ w2.heap.size from fun e => by have := HZ1.out; omega)
  have HGb := Lib.hid (show bz ≤ w2.heap.size from by have := HZ1.out; omega)
  generalize w2.heap.size = g at HR HNz HGb ⊢
  clear HZ1
  go_wp2_with fail
  refine (rd_numberP (some g) (.pointer (some ⟨g, 0, none⟩)) rfl (s.data.toList, false) 1 w3 HR.out (by decide) (by decide)).mono ?_
  rintro e w4 ⟨rfl, hr, hg⟩
  rw [show numW 1 = 1 from rfl] at hr
  replace HR := Lib.hid hr; clear hr
  replace HZ := Lib.hid (show Rp2 _ _ _ from blk_other HZ.out hg HNz.out)
  replace HB := Lib.hid (pw_below_grown HB.out _ HB.out.size hg (fun i hi => by have h1 := HBz.out; have h2 := HGb.out; have h3 := Option.some.inj hi; omega)); clear hg
  rw [HB1.out]
  generalize tkR (s.data.toList, false) 1 = r1 at HR HB2 HB3
  have c1 : IntKind.i64.wrap (((0 : Nat) : Int)) = 0 := by rw [IntKind.wrap_i64]; rfl
  have c2 : wrap64 (((0 : Nat) : Int)) = 0 := w64_small 0 (by decide)
  have HQ := Lib.hid (show Rp2 _ w4.heap.size 0 from heap_alloc_new w4 (.cells #[.int .i64 0, .int .i64 0, .int .i64 0, .int .i64 0, .int .i64 0, .int .i64 0, .int .i64 0, .int .i64 0, .int .i64 0, .int .u8 0, .int .i64 0, .int .i64 0, .int .i64 0, .int .i64 0, .bool false, .slice none 0 0, .int .i64 0, .int .i64 0, .bool false] 71))
  have hd := below_alloc (Below.refl w4.heap.size w4) (.cells #[.int .i64 0, .int .i64 0, .int .i64 0, .int .i64 0, .int .i64 0, .int .i64 0, .int .i64 0, .int .i64 0, .int .i64 0, .int .u8 0, .int .i64 0, .int .i64 0, .int .i64 0, .int .i64 0, .bool false, .slice none 0 0, .int .i64 0, .int .i64 0, .bool false] 71)
  have HGq := Lib.hid (HR.out.lt g rfl)
  have HZq := Lib.hid (blk_lt HZ.out)
  replace HZ := Lib.hid (show Rp2 _ _ _ from blk_below HZ.out hd)
  replace HR := Lib.hid (HR.out.below hd)
  replace HB := Lib.hid (chain2 HB.out hd); clear hd
  have q0 := HQ.out.cells.1
  go_wp2_with (refine wpList_store_new rfl 71 _ _ rfl w4 _ #[.int .i64 0, .int .i64 0, .int .i64 0, .int .i64 0, .int .i64 0, .int .i64 0, .int .i64 0, .int .i64 0, .int .i64 0, .int .u8 0, .int .i64 0, .int .i64 0, .int .i64 0, .int .i64 0, .bool false, .slice none 0 0, .int .i64 0, .int .i64 0, .bool false] rfl rfl rp_size rfl rp2_one0 ?_)
  clear q0 c1 c2
  generalize w4.alloc (.cells #[.int .i64 0, .int .i64 0, .int .i64 0, .int .i64 0, .int .i64 0, .int .i64 0, .int .i64 0, .int .i64 0, .int .i64 0, .int .u8 0, .int .i64 0, .int .i64 0, .int .i64 0, .int .i64 0, .bool false, .slice none 0 0, .int .i64 0, .int .i64 0, .bool false] 71) = w5 at HQ HZ HR HB ⊢
  have HNq := Lib.hid (show w4.heap.size ≠ g from fun e => by have := HGq.out; omega)
  have HNqz := Lib.hid (show bz ≠ w4.heap.size from fun e => by have := HZq.out; omega)
  have HBq := Lib.hid (show bz ≤ w4.heap.size from by have := HZq.out; omega)
  generalize w4.heap.size = bq at HQ HNq HNqz HBq ⊢
  clear HGq HZq
  refine (rep_read2 bq g HNq.out r1 w5 HQ.out HR.out).mono ?_
  rintro e w6 ⟨rfl, hq, hr, ht⟩
  rw [HB2.out] at hq
  replace HQ := Lib.hid hq; clear hq
  replace HR := Lib.hid hr; clear hr
  replace HZ := Lib.hid (show Rp2 _ _ _ from ht.blk HZ.out (fun e => e.elim HNqz.out HNz.out))
  replace HB := Lib.hid (HB.out.trans (ht.below (fun i hi => by have h1 := HBz.out; have h2 := HBq.out; have h3 := HGb.out; rcases hi with hi | hi <;> omega) HB.out.size)); clear ht
  go_wp2_with fail
  refine (rd_end (some g) (tkR r1 4) w6 HR.out).mono ?_
  rintro e w7 ⟨rfl, hd⟩
  rw [rdE_is, if_pos HB3.out]
  replace HQ := Lib.hid (show Rp2 _ _ _ from blk_below HQ.out hd)
  replace HZ := Lib.hid (show Rp2 _ _ _ from blk_below HZ.out hd)
  replace HB := Lib.hid (chain2 HB.out hd); clear hd
  go_wp2_with (first | refine wpList_load_row rfl 71 (.tmp 7) rfl bq rfl _ HQ.out Try.underlying71 rp_size ?_ | refine wpList_store_row rfl 71 _ _ rfl bz #[.int .i64 0, .int .i64 1, .int .i64 0, .int .i64 0, .int .i64 0, .int .i64 0, .int .i64 0, .int .i64 0, .int .i64 0, .int .u8 0, .int .i64 0, .int .i64 0, .int .i64 0, .int .i64 0, .bool false, .slice none 0 0, .int .i64 0, .int .i64 0, .bool false] rfl rfl 71 _ HZ.out rp_size rfl rp2_one ?_)
  have hz := setRow_heap w7 bz _ #[.int .i64 0, .int .i64 1, .int .i64 0, .int .i64 0, .int .i64 0, .int .i64 0, .int .i64 0, .int .i64 0, .int .i64 0, .int .u8 0, .int .i64 0, .int .i64 0, .int .i64 0, .int .i64 0, .bool false, .slice none 0 0, .int .i64 0, .int .i64 0, .bool false] _ _ HZ.out
  refine bodyPost_ret (results_ct rfl _ _ bz 71 _ (0, 0) _ rfl hz Try.underlying71 rfl rp_size) rfl ?_
  exact ⟨rfl, pw_below_grown HB.out _ HB.out.size (setRow_grown w7 bz _) (fun i hi => by have h1 := HBz.out; have h2 := Option.some.inj hi; omega)⟩
def q2 : RQ := { rq0 2 with ek := 0 }
theorem q2_in : q2.In := ⟨by decide, by decide, by decide, by decide⟩
theorem two_enc : encV q2 [] = ({ data := #[2] }, 0) := by
  have h1 : encF q2 [] = [Fl.num 2 1] := rfl
  have h2 : flOk [Fl.num 2 1] = true := fine_okAll (fun f hf => by rw [List.mem_singleton] at hf; subst hf; exact ⟨by decide, by decide, by decide⟩)
  unfold encV
  rw [h1, if_pos (show isK q2.k by decide), if_pos h2]
  show (str (putL 2 1 ++ []), (0 : Int)) = _
  simp [putL, str]
theorem two_dec : decAns (decV ({ data := #[2] } : ByteArray).data.toList) = (rq0 2, [], 0) := by
  have h1 : rdN ([(2 : UInt8)], false) 1 = 2 := by decide
  have h2 : tkR ([(2 : UInt8)], false) 1 = ([], false) := by rfl
  have h3 : rqRd 2 ([], false) = (rq0 2, [], 0, ([], false)) := by rfl
  show decAns (decV [2]) = _
  unfold decV
  rw [h1, h2, h3, if_pos (show isK 2 by decide), if_pos ⟨rfl, rfl, rfl⟩]
  rfl
set_option maxHeartbeats 8000000 in
set_option maxRecDepth 8000 in
theorem wakes_ok (w : World) : Calls Try.prog 13 #[] w fun e w' => e = .returned (.bool true) ∧ Below w.heap.size w w' := by
  have he := req_encode q2 q2_in [] (by decide) (.slice none 0 0) w (.inl ⟨rfl, rfl⟩)
  rw [two_enc] at he
  have HE := Lib.hid he; clear he
  have HD := Lib.hid (fun w => req_decode { data := #[2] } (by decide) w)
  rw [two_dec] at HD
  go_enter Try.func13, Try.ntmps13
  go_wp2_with fail
  refine HE.out.mono ?_
  rintro e w1 ⟨rfl, hd⟩
  have HB := Lib.hid hd; clear hd
  simp only
  go_wp2_with fail
  refine (HD.out w1).mono ?_
  rintro e w2 ⟨v, rfl, hl, hd⟩
  obtain ⟨va, vc, rfl⟩ := hl.form
  clear hl
  replace HB := Lib.hid (chain2 HB.out hd); clear hd HE HD
  unfold rqV rqC rq0
  simp only
  have HX := Lib.hid (heap_alloc_new w2 (.cells #[.int .u8 ((2 : Nat) : Int), .int .u8 ((2 : Nat) : Int), .int .u64 ((0 : Nat) : Int), .int .i64 0, .int .i64 0, .int .i64 0, .int .u8 ((0 : Nat) : Int), .string { data := #[] }, .slice va 0 vc, .int .i64 0] 39))
  have hd := below_alloc (Below.refl w2.heap.size w2) (.cells #[.int .u8 ((2 : Nat) : Int), .int .u8 ((2 : Nat) : Int), .int .u64 ((0 : Nat) : Int), .int .i64 0, .int .i64 0, .int .i64 0, .int .u8 ((0 : Nat) : Int), .string { data := #[] }, .slice va 0 vc, .int .i64 0] 39)
  replace HB := Lib.hid (chain2 HB.out hd); clear hd
  go_wp2_with fail
  generalize w2.alloc (.cells #[.int .u8 ((2 : Nat) : Int), .int .u8 ((2 : Nat) : Int), .int .u64 ((0 : Nat) : Int), .int .i64 0, .int .i64 0, .int .i64 0, .int .u8 ((0 : Nat) : Int), .string { data := #[] }, .slice va 0 vc, .int .i64 0] 39) = w3 at HX HB ⊢
  generalize w2.heap.size = bx at HX ⊢
  refine (rep_encode2 w3).mono ?_
  rintro e w4 ⟨rfl, hd⟩
  replace HX := Lib.hid (blk_below HX.out hd)
  replace HB := Lib.hid (chain2 HB.out hd); clear hd
  go_wp2_with fail
  refine (rep_parse2 w4).mono ?_
  rintro e w5 ⟨rfl, hd⟩
  replace HX := Lib.hid (blk_below HX.out hd)
  replace HB := Lib.hid (chain2 HB.out hd); clear hd
  have HY := Lib.hid (show Rp2 _ w5.heap.size 1 from heap_alloc_new w5 (.cells #[.int .i64 0, .int .i64 1, .int .i64 0, .int .i64 0, .int .i64 0, .int .i64 0, .int .i64 0, .int .i64 0, .int .i64 0, .int .u8 0, .int .i64 0, .int .i64 0, .int .i64 0, .int .i64 0, .bool false, .slice none 0 0, .int .i64 0, .int .i64 0, .bool false] 71))
  have hd := below_alloc (Below.refl w5.heap.size w5) (.cells #[.int .i64 0, .int .i64 1, .int .i64 0, .int .i64 0, .int .i64 0, .int .i64 0, .int .i64 0, .int .i64 0, .int .i64 0, .int .u8 0, .int .i64 0, .int .i64 0, .int .i64 0, .int .i64 0, .bool false, .slice none 0 0, .int .i64 0, .int .i64 0, .bool false] 71)
  replace HX := Lib.hid (blk_below HX.out hd)
  replace HB := Lib.hid (chain2 HB.out hd); clear hd
  have y1 := HY.out.cells.2.1
  have x0 := cell_of_row _ _ 0 _ _ (0, 0) HX.out
  have x1 := cell_of_row _ _ 1 _ _ (0, 0) HX.out
  have s1 : (({ data := #[2] } : ByteArray).toList == ({ data := #[2] } : ByteArray).toList) = true := by simp
  have s2 : (({ data := #[0, 0, 0, 0, 1] } : ByteArray).toList == ({ data := #[0, 0, 0, 0, 1] } : ByteArray).toList) = true := by simp
  go_wp2_with (refine wpList_store_new rfl 71 _ _ rfl w5 _ #[.int .i64 0, .int .i64 1, .int .i64 0, .int .i64 0, .int .i64 0, .int .i64 0, .int .i64 0, .int .i64 0, .int .i64 0, .int .u8 0, .int .i64 0, .int .i64 0, .int .i64 0, .int .i64 0, .bool false, .slice none 0 0, .int .i64 0, .int .i64 0, .bool false] rfl rfl rp_size rfl rp2_one ?_)
  go_ret
  exact ⟨rfl, HB.out⟩
end Go.Proofs.Ytepgdjkmobngcaa
