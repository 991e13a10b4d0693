/- req: what is read behind a request's kind. No conditions beyond those that are written. -/
import Derived.Test.YtepgdjkmobngcaaXReq
namespace Go.Proofs.Ytepgdjkmobngcaa
open Go.RowKit Go.Lib Go.Proofs.Ytepgdjkmobngcaa.P Go.Proofs.Ytepgdjkmobngcaa.BeS Go.Proofs.YtepgdjkmobngcaaW.PrintWords Go.Proofs.YtepgdjkmobngcaaW.PrintLast Go.Proofs.YtepgdjkmobngcaaW.PrintMore
set_option linter.unusedVariables false
set_option linter.unusedSimpArgs false
--@tables
theorem rdN_pow (r : RdS) (wd : Nat) (hw : wd ≤ 8) : rdN r (wd : Int) < 256 ^ wd := by
  have h := getN_lt (tkS r (numW (wd : Int)))
  have h2 : (tkS r (numW (wd : Int))).length ≤ wd := tkS_le r _ wd (by unfold numW; split <;> omega)
  unfold rdN
  exact Nat.lt_of_lt_of_le h (Nat.pow_le_pow_right (by decide) h2)
theorem rdN1_lt (r : RdS) : rdN r 1 < 256 := rdN_pow r 1 (by decide)
theorem rdN4_lt (r : RdS) : rdN r 4 < 4294967296 := rdN_pow r 4 (by decide)
theorem rdN5_lt (r : RdS) : rdN r 5 < 1099511627776 := rdN_pow r 5 (by decide)
theorem i64_small (n : Nat) (h : n < 9223372036854775808) : IntKind.i64.wrap (n : Int) = (n : Int) := by rw [IntKind.wrap_i64]; omega
theorem w64_small (n : Nat) (h : n < 9223372036854775808) : wrap64 (n : Int) = (n : Int) := by unfold wrap64; omega
theorem u8_small (n : Nat) (h : n < 256) : IntKind.u8.wrap (n : Int) = (n : Int) := by rw [IntKind.wrap_u8]; omega
theorem rd_textP (o : Option Nat) (p : Value) (hp : wrP o = p) (r : RdS) (w : World) (h : RdO w o r) :
    Calls Try.prog 53 #[p] w fun x w' => x = .returned (.string (str (rdT r))) ∧ RdO w' o (rdTR r) ∧ w.grownBy w' o := by
  subst hp; exact rd_text o r w h
theorem ac_size : (Try.prog.info? 33).map (·.size) = some 3 := by kernel_rfl
def acV (r : RdS) : Value := .agg #[.int .i64 (rdN r 2 : Int), .int .u8 (rdN (tkR r 2) 1 : Int), .string (str (rdT (tkR (tkR r 2) 1)))]
set_option maxHeartbeats 4000000 in
theorem req_account (o : Option Nat) (p : Value) (hp : wrP o = p) (r : RdS) (w : World) (h : RdO w o r) :
    Calls Try.prog 43 #[p] w fun x w' => x = .returned (acV r) ∧ RdO w' o (rdTR (tkR (tkR r 2) 1)) ∧ w.grownBy w' o := by
  have Hp := Lib.hid hp; clear hp
  generalize hV : acV r = V
  have HV := Lib.hid hV; clear hV
  generalize hT : rdTR (tkR (tkR r 2) 1) = T
  have HT := Lib.hid hT; clear hT
  have ha := below_alloc (Below.refl w.heap.size w) (.cells #[.int .i64 0, .int .u8 0, .string { data := #[] }] 33)
  have HNe := Lib.hid (show ∀ g, o = some g → g < w.heap.size from h.lt)
  have HR := Lib.hid (h.below ha)
  have HG := Lib.hid (grown_of_below ha o); clear ha h
  unfold acV at HV
  go_enter Try.func43, Try.ntmps43
  go_wp2_with fail
  have HX := Lib.hid (heap_alloc_new w (.cells #[.int .i64 0, .int .u8 0, .string { data := #[] }] 33))
  generalize w.alloc (.cells #[.int .i64 0, .int .u8 0, .string { data := #[] }] 33) = w1 at HR HG HX ⊢
  have HNe2 := Lib.hid (show o ≠ some w.heap.size from fun e => Nat.lt_irrefl _ (HNe.out _ e))
  have HBw := Lib.hid (show w.heap.size ≤ w.heap.size from Nat.le_refl _)
  generalize hb : w.heap.size = b at HX HNe2 HBw ⊢
  replace HBw := Lib.hid hb; clear hb HNe
  refine (rd_numberP o p Hp.out r 2 w1 HR.out (by decide) (by decide)).mono ?_
  rintro e w2 ⟨rfl, hr, hg⟩
  rw [show numW 2 = 2 from rfl] at hr
  replace HR := Lib.hid hr; clear hr
  replace HX := Lib.hid ((hg.block b (blk_lt HX.out) (fun e => HNe2.out e.symm)).trans HX.out)
  replace HG := Lib.hid (grown_two HG.out hg); clear hg
  have c1 := i64_small (rdN r 2) (by have := rdN2_lt r; omega)
  have c2 := w64_small (rdN r 2) (by have := rdN2_lt r; omega)
  generalize rdN r 2 = n1 at c1 c2 HV ⊢
  generalize tkR r 2 = r2 at HR HV HT ⊢
  go_wp2_with fail
  refine (rd_numberP o p Hp.out r2 1 w2 HR.out (by decide) (by decide)).mono ?_
  rintro e w3 ⟨rfl, hr, hg⟩
  rw [show numW 1 = 1 from rfl] at hr
  replace HR := Lib.hid hr; clear hr
  replace HX := Lib.hid ((hg.block b (blk_lt HX.out) (fun e => HNe2.out e.symm)).trans HX.out)
  replace HG := Lib.hid (grown_two HG.out hg); clear hg
  have c3 := u8_small (rdN r2 1) (rdN1_lt r2)
  generalize rdN r2 1 = n2 at c3 HV ⊢
  generalize tkR r2 1 = r3 at HR HV HT ⊢
  go_wp2_with fail
  refine (rd_textP o p Hp.out r3 w3 HR.out).mono ?_
  rintro e w4 ⟨rfl, hr, hg⟩
  replace HR := Lib.hid hr; clear hr
  replace HX := Lib.hid ((hg.block b (blk_lt HX.out) (fun e => HNe2.out e.symm)).trans HX.out)
  replace HG := Lib.hid (grown_two HG.out hg); clear hg
  rw [HT.out] at HR
  generalize str (rdT r3) = s at HV ⊢
  clear c1 c2 c3
  have f0 : w4.frozen? ⟨b, 0, none⟩ = false := by unfold World.frozen?; rw [HX.out]; rfl
  have f1 : w4.frozen? ⟨b, 1, none⟩ = false := by unfold World.frozen?; rw [HX.out]; rfl
  have f2 : w4.frozen? ⟨b, 2, none⟩ = false := by unfold World.frozen?; rw [HX.out]; rfl
  have x0 : w4.cell? ⟨b, 0, none⟩ = some (.int .i64 0) := by unfold World.cell?; rw [HX.out]; rfl
  have x1 : w4.cell? ⟨b, 1, none⟩ = some (.int .u8 0) := by unfold World.cell?; rw [HX.out]; rfl
  have x2 : w4.cell? ⟨b, 2, none⟩ = some (.string { data := #[] }) := by unfold World.cell?; rw [HX.out]; rfl
  go_wp2_with fail
  have h3 := heap_setCell_same _ b 2 _ _ (.string s) (heap_setCell_same _ b 1 _ _ (.int .u8 (n2 : Int)) (heap_setCell_same _ b 0 _ _ (.int .i64 (n1 : Int)) HX.out))
  refine bodyPost_ret (v := .agg #[.int .i64 (n1 : Int), .int .u8 (n2 : Int), .string s]) (results_cell_row rfl _ _ b 33 _ (0, 0) _ rfl h3 Try.underlying33 rfl ac_size) rfl ⟨?_, ?_, ?_⟩
  · rw [HV.out]
  · refine RdO.grown (RdO.grown (RdO.grown HR.out (Lib.grownBy_setCell _ b 0 _) ?_) (Lib.grownBy_setCell _ b 1 _) ?_) (Lib.grownBy_setCell _ b 2 _) ?_ <;> exact fun g e1 e2 => HNe2.out (e1.trans e2.symm)
  · have hq : ∀ g, some b = some g → w.heap.size ≤ g := fun g e => by rw [HBw.out, Option.some.inj e]; exact Nat.le_refl _
    exact grown_own (grown_own (grown_own HG.out (Lib.grownBy_setCell _ b 0 _) hq) (Lib.grownBy_setCell _ b 1 _) hq) (Lib.grownBy_setCell _ b 2 _) hq
theorem RqAt.froz {w : World} {b : Nat} {q : RQ} {v : Value} (h : RqAt w b q v) : w.frozen? ⟨b, 2, none⟩ = false ∧ w.frozen? ⟨b, 3, none⟩ = false ∧ w.frozen? ⟨b, 4, none⟩ = false ∧ w.frozen? ⟨b, 5, none⟩ = false ∧ w.frozen? ⟨b, 6, none⟩ = false ∧ w.frozen? ⟨b, 7, none⟩ = false ∧ w.frozen? ⟨b, 8, none⟩ = false ∧ w.frozen? ⟨b, 9, none⟩ = false := by
  unfold RqAt at h
  refine ⟨?_, ?_, ?_, ?_, ?_, ?_, ?_, ?_⟩ <;> (unfold World.frozen?; rw [h]; rfl)
theorem RqAt.grown {w w' : World} {b g : Nat} {q : RQ} {v : Value} (h : RqAt w b q v) (hg : w.grownBy w' (some g)) (hne : b ≠ g) : RqAt w' b q v :=
  (hg.block b (blk_lt h) (fun e => hne (Option.some.inj e))).trans h
section
variable {w : World} {b : Nat} {q : RQ} {v : Value}
theorem RqAt.setEk (h : RqAt w b q v) (x : Nat) : RqAt (w.setCell ⟨b, 1, none⟩ (.int .u8 (x : Int))) b { q with ek := x } v := heap_setCell_same w b 1 _ _ _ h
theorem RqAt.setKey (h : RqAt w b q v) (x : Nat) : RqAt (w.setCell ⟨b, 2, none⟩ (.int .u64 (x : Int))) b { q with key := x } v := heap_setCell_same w b 2 _ _ _ h
theorem RqAt.setRef (h : RqAt w b q v) (x : Int) : RqAt (w.setCell ⟨b, 3, none⟩ (.int .i64 x)) b { q with ref := x } v := heap_setCell_same w b 3 _ _ _ h
theorem RqAt.setAmt (h : RqAt w b q v) (x : Int) : RqAt (w.setCell ⟨b, 4, none⟩ (.int .i64 x)) b { q with amt := x } v := heap_setCell_same w b 4 _ _ _ h
theorem RqAt.setCode (h : RqAt w b q v) (x : Int) : RqAt (w.setCell ⟨b, 5, none⟩ (.int .i64 x)) b { q with code := x } v := heap_setCell_same w b 5 _ _ _ h
theorem RqAt.setAk (h : RqAt w b q v) (x : Nat) : RqAt (w.setCell ⟨b, 6, none⟩ (.int .u8 (x : Int))) b { q with ak := x } v := heap_setCell_same w b 6 _ _ _ h
theorem RqAt.setName (h : RqAt w b q v) (x : ByteArray) : RqAt (w.setCell ⟨b, 7, none⟩ (.string x)) b { q with name := x } v := heap_setCell_same w b 7 _ _ _ h
theorem RqAt.setV (h : RqAt w b q v) (x : Value) : RqAt (w.setCell ⟨b, 8, none⟩ x) b q x := heap_setCell_same w b 8 _ _ _ h
theorem RqAt.setN (h : RqAt w b q v) (x : Int) : RqAt (w.setCell ⟨b, 9, none⟩ (.int .i64 x)) b { q with n := x } v := heap_setCell_same w b 9 _ _ _ h
end
theorem RdO.set {w : World} {g bq i : Nat} {r : RdS} (h : RdO w (some g) r) (hne : bq ≠ g) (u : Value) : RdO (w.setCell ⟨bq, i, none⟩ u) (some g) r :=
  h.grown (Lib.grownBy_setCell w bq i u) (fun k e1 e2 => hne ((Option.some.inj e2).trans (Option.some.inj e1).symm))
theorem LRow.mono {w : World} {E B B' : Nat} {v : Value} {xs : List Ln} (h : LRow w E B v xs) (hb : B' ≤ B) : LRow w E B' v xs := by
  refine ⟨h.1, ?_⟩
  rcases h.2 with h5 | ⟨k, cap, cur, h5, h6, h7⟩
  · exact .inl h5
  · exact .inr ⟨k, cap, cur, h5, Nat.le_trans hb h6, h7⟩
set_option maxHeartbeats 16000000 in
set_option maxRecDepth 8000 in
theorem req_read (k bq g : Nat) (hk : isK k) (hne : bq ≠ g) (r : RdS) (w : World) (hX : RqAt w bq (rq0 k) (.slice none 0 0)) (hR : RdO w (some g) r) :
    Calls Try.prog 30 #[.pointer (some ⟨bq, 0, none⟩), .pointer (some ⟨g, 0, none⟩)] w fun x w' => ∃ v, x = .returned (.int .i64 (rqRd k r).2.2.1) ∧ RqAt w' bq (rqRd k r).1 v ∧ LRow w' 81 w.heap.size v (rqRd k r).2.1 ∧ RdO w' (some g) (rqRd k r).2.2.2 ∧ Touch (fun i => i = bq ∨ i = g) w w' := by
  have HT := Lib.hid (Touch.refl (fun i => i = bq ∨ i = g) w)
  have HNe := Lib.hid hne; clear hne
  have HX := Lib.hid hX
  have HXb := Lib.hid hX; clear hX
  have HR := Lib.hid hR; clear hR
  obtain ⟨x0, x1, x2, x3, x4, x5, x6, x7, x8, x9⟩ := HX.out.cells
  clear x1 x2 x3 x4 x5 x6 x7 x8 x9
  rw [show (rq0 k).k = k from rfl] at x0
  obtain ⟨wx, hwx⟩ : ∃ wx, wx = w := ⟨_, rfl⟩
  rw [← hwx] at HX HR x0
  have HTx := Lib.hid (show Touch (fun i => i = bq ∨ i = g) w wx by rw [hwx]; exact HT.out)
  replace HT := Lib.hid HTx.out; clear HTx
  show Calls Try.prog 30 #[.pointer (some ⟨bq, 0, none⟩), .pointer (some ⟨g, 0, none⟩)] w fun x w' => ∃ v, x = .returned (.int .i64 (rqRd k r).2.2.1) ∧ RqAt w' bq (rqRd k r).1 v ∧ LRow w' 81 w.heap.size v (rqRd k r).2.1 ∧ RdO w' (some g) (rqRd k r).2.2.2 ∧ Touch (fun i => i = bq ∨ i = g) w w'
  rw [show (Calls Try.prog 30 #[.pointer (some ⟨bq, 0, none⟩), .pointer (some ⟨g, 0, none⟩)] w) = Calls Try.prog 30 #[.pointer (some ⟨bq, 0, none⟩), .pointer (some ⟨g, 0, none⟩)] wx by rw [hwx]]
  clear hwx
  go_enter Try.func30, Try.ntmps30
  go_upto_block 0 with (fail)
  clear x0
  have hcase : k = 1 ∨ k = 2 ∨ k = 3 ∨ k = 4 ∨ k = 5 ∨ k = 6 ∨ k = 7 ∨ k = 8 ∨ k = 9 ∨ k = 10 ∨ k = 11 ∨ k = 12 ∨ k = 13 ∨ k = 14 := by have h := (isK_iff k).1 hk; omega
  clear hk
  rcases hcase with rfl | rfl | rfl | rfl | rfl | rfl | rfl | rfl | rfl | rfl | rfl | rfl | rfl | rfl
  · skip
    go_wp2_with fail
    refine (req_account (some g) (.pointer (some ⟨g, 0, none⟩)) rfl r wx HR.out).mono ?_
    rintro e wx ⟨rfl, hr, hg⟩
    replace HR := Lib.hid hr; clear hr
    replace HX := Lib.hid (HX.out.grown hg HNe.out)
    replace HT := Lib.hid (HT.out.grown hg (fun k hk => .inl (.inr (Option.some.inj hk).symm))); clear hg
    unfold acV
    obtain ⟨f2, f3, f4, f5, f6, f7, f8, f9⟩ := HX.out.froz
    obtain ⟨z0, z1, z2, z3, z4, z5, z6, z7, z8, z9⟩ := HX.out.cells
    go_wp2
    go_ret
    exact ⟨.slice none 0 0, rfl, (((HX.out).setCode (rdN r 2 : Int)).setAk (rdN (tkR r 2) 1)).setName (str (rdT (tkR (tkR r 2) 1))), World.ownsRow_nil _ _ _ _, (((HR.out.set HNe.out (i := 5) (.int .i64 (rdN r 2 : Int))).set HNe.out (i := 6) (.int .u8 (rdN (tkR r 2) 1 : Int))).set HNe.out (i := 7) (.string (str (rdT (tkR (tkR r 2) 1))))), (Touch.set (Touch.set (Touch.set HT.out (i := 5) (.inl (.inl rfl)) (.int .i64 (rdN r 2 : Int))) (i := 6) (.inl (.inl rfl)) (.int .u8 (rdN (tkR r 2) 1 : Int))) (i := 7) (.inl (.inl rfl)) (.string (str (rdT (tkR (tkR r 2) 1)))))⟩
  · skip
    go_wp2
    go_ret
    exact ⟨.slice none 0 0, rfl, HX.out, World.ownsRow_nil _ _ _ _, HR.out, HT.out⟩
  · skip
    go_wp2
    go_ret
    exact ⟨.slice none 0 0, rfl, HX.out, World.ownsRow_nil _ _ _ _, HR.out, HT.out⟩
  · skip
    go_wp2_with fail
    refine (rd_numberP (some g) (.pointer (some ⟨g, 0, none⟩)) rfl r 8 wx HR.out (by decide) (by decide)).mono ?_
    rintro e wx ⟨rfl, hr, hg⟩
    rw [show numW 8 = 8 from rfl] at hr
    replace HR := Lib.hid hr; clear hr
    replace HX := Lib.hid (HX.out.grown hg HNe.out)
    replace HT := Lib.hid (HT.out.grown hg (fun k hk => .inl (.inr (Option.some.inj hk).symm))); clear hg
    obtain ⟨f2, f3, f4, f5, f6, f7, f8, f9⟩ := HX.out.froz
    obtain ⟨z0, z1, z2, z3, z4, z5, z6, z7, z8, z9⟩ := HX.out.cells
    go_wp2_with fail
    clear f2 f3 f4 f5 f6 f7 f8 f9 z0 z1 z2 z3 z4 z5 z6 z7 z8 z9
    have hS := HT.out.size
    replace HX := Lib.hid (HX.out.setKey (rdN r 8))
    replace HR := Lib.hid (HR.out.set HNe.out (i := 2) (.int .u64 (rdN r 8 : Int)))
    replace HT := Lib.hid (Touch.set HT.out (i := 2) (.inl (.inl rfl)) (.int .u64 (rdN r 8 : Int)))
    have HSz := Lib.hid HT.out.size; clear hS
    generalize wx.setCell ⟨bq, 2, none⟩ (.int .u64 (rdN r 8 : Int)) = wy at HX HR HT HSz ⊢
    refine (post_read (some g) (tkR r 8) wy HR.out).mono ?_
    rintro e wx ⟨v, rfl, hl, hr, hg⟩
    have HL := Lib.hid (hl.mono HSz.out); clear hl
    obtain ⟨va, vc, rfl⟩ := HL.out.form
    replace HR := Lib.hid hr; clear hr
    replace HX := Lib.hid (HX.out.grown hg HNe.out)
    replace HT := Lib.hid (HT.out.grown hg (fun k hk => .inl (.inr (Option.some.inj hk).symm))); clear hg
    obtain ⟨f2, f3, f4, f5, f6, f7, f8, f9⟩ := HX.out.froz
    obtain ⟨z0, z1, z2, z3, z4, z5, z6, z7, z8, z9⟩ := HX.out.cells
    go_wp2
    go_ret
    have hlt := blk_lt HXb.out
    exact ⟨_, rfl, HX.out.setV _, HL.out.grown (Lib.grownBy_setCell _ bq 8 _) (by
      cases hv : (Value.slice va (prd (tkR r 8)).1.length vc).ownBlock with
      | none => exact .inl rfl
      | some j => exact .inr (fun e => by have h1 := (World.ownsRow.lt HL.out j hv).1; have h2 := Option.some.inj e; omega)), HR.out.set HNe.out (i := 8) _, Touch.set HT.out (i := 8) (.inl (.inl rfl)) _⟩
  · skip
    go_wp2_with fail
    refine (rd_numberP (some g) (.pointer (some ⟨g, 0, none⟩)) rfl r 8 wx HR.out (by decide) (by decide)).mono ?_
    rintro e wx ⟨rfl, hr, hg⟩
    rw [show numW 8 = 8 from rfl] at hr
    replace HR := Lib.hid hr; clear hr
    replace HX := Lib.hid (HX.out.grown hg HNe.out)
    replace HT := Lib.hid (HT.out.grown hg (fun k hk => .inl (.inr (Option.some.inj hk).symm))); clear hg
    go_wp2_with fail
    refine (rd_numberP (some g) (.pointer (some ⟨g, 0, none⟩)) rfl (tkR r 8) 4 wx HR.out (by decide) (by decide)).mono ?_
    rintro e wx ⟨rfl, hr, hg⟩
    rw [show numW 4 = 4 from rfl] at hr
    replace HR := Lib.hid hr; clear hr
    replace HX := Lib.hid (HX.out.grown hg HNe.out)
    replace HT := Lib.hid (HT.out.grown hg (fun k hk => .inl (.inr (Option.some.inj hk).symm))); clear hg
    have c14 := i64_small (rdN (tkR r 8) 4) (by have := rdN4_lt (tkR r 8); omega)
    have c24 := w64_small (rdN (tkR r 8) 4) (by have := rdN4_lt (tkR r 8); omega)
    obtain ⟨f2, f3, f4, f5, f6, f7, f8, f9⟩ := HX.out.froz
    obtain ⟨z0, z1, z2, z3, z4, z5, z6, z7, z8, z9⟩ := HX.out.cells
    go_wp2
    go_ret
    exact ⟨.slice none 0 0, rfl, ((HX.out).setKey (rdN r 8)).setRef (rdN (tkR r 8) 4 : Int), World.ownsRow_nil _ _ _ _, ((HR.out.set HNe.out (i := 2) (.int .u64 (rdN r 8 : Int))).set HNe.out (i := 3) (.int .i64 (rdN (tkR r 8) 4 : Int))), (Touch.set (Touch.set HT.out (i := 2) (.inl (.inl rfl)) (.int .u64 (rdN r 8 : Int))) (i := 3) (.inl (.inl rfl)) (.int .i64 (rdN (tkR r 8) 4 : Int)))⟩
  · skip
    go_wp2_with fail
    refine (rd_numberP (some g) (.pointer (some ⟨g, 0, none⟩)) rfl r 8 wx HR.out (by decide) (by decide)).mono ?_
    rintro e wx ⟨rfl, hr, hg⟩
    rw [show numW 8 = 8 from rfl] at hr
    replace HR := Lib.hid hr; clear hr
    replace HX := Lib.hid (HX.out.grown hg HNe.out)
    replace HT := Lib.hid (HT.out.grown hg (fun k hk => .inl (.inr (Option.some.inj hk).symm))); clear hg
    go_wp2_with fail
    refine (rd_numberP (some g) (.pointer (some ⟨g, 0, none⟩)) rfl (tkR r 8) 4 wx HR.out (by decide) (by decide)).mono ?_
    rintro e wx ⟨rfl, hr, hg⟩
    rw [show numW 4 = 4 from rfl] at hr
    replace HR := Lib.hid hr; clear hr
    replace HX := Lib.hid (HX.out.grown hg HNe.out)
    replace HT := Lib.hid (HT.out.grown hg (fun k hk => .inl (.inr (Option.some.inj hk).symm))); clear hg
    have c14 := i64_small (rdN (tkR r 8) 4) (by have := rdN4_lt (tkR r 8); omega)
    have c24 := w64_small (rdN (tkR r 8) 4) (by have := rdN4_lt (tkR r 8); omega)
    go_wp2_with fail
    refine (rd_signedP (some g) (.pointer (some ⟨g, 0, none⟩)) rfl (tkR (tkR r 8) 4) wx HR.out).mono ?_
    rintro e wx ⟨rfl, hr, hg⟩
    replace HR := Lib.hid hr; clear hr
    replace HX := Lib.hid (HX.out.grown hg HNe.out)
    replace HT := Lib.hid (HT.out.grown hg (fun k hk => .inl (.inr (Option.some.inj hk).symm))); clear hg
    obtain ⟨f2, f3, f4, f5, f6, f7, f8, f9⟩ := HX.out.froz
    obtain ⟨z0, z1, z2, z3, z4, z5, z6, z7, z8, z9⟩ := HX.out.cells
    go_wp2
    go_ret
    exact ⟨.slice none 0 0, rfl, (((HX.out).setKey (rdN r 8)).setRef (rdN (tkR r 8) 4 : Int)).setAmt (wrap64 (rdN (tkR (tkR r 8) 4) 8 : Int)), World.ownsRow_nil _ _ _ _, (((HR.out.set HNe.out (i := 2) (.int .u64 (rdN r 8 : Int))).set HNe.out (i := 3) (.int .i64 (rdN (tkR r 8) 4 : Int))).set HNe.out (i := 4) (.int .i64 (wrap64 (rdN (tkR (tkR r 8) 4) 8 : Int)))), (Touch.set (Touch.set (Touch.set HT.out (i := 2) (.inl (.inl rfl)) (.int .u64 (rdN r 8 : Int))) (i := 3) (.inl (.inl rfl)) (.int .i64 (rdN (tkR r 8) 4 : Int))) (i := 4) (.inl (.inl rfl)) (.int .i64 (wrap64 (rdN (tkR (tkR r 8) 4) 8 : Int))))⟩
  · skip
    go_wp2_with fail
    refine (rd_numberP (some g) (.pointer (some ⟨g, 0, none⟩)) rfl r 8 wx HR.out (by decide) (by decide)).mono ?_
    rintro e wx ⟨rfl, hr, hg⟩
    rw [show numW 8 = 8 from rfl] at hr
    replace HR := Lib.hid hr; clear hr
    replace HX := Lib.hid (HX.out.grown hg HNe.out)
    replace HT := Lib.hid (HT.out.grown hg (fun k hk => .inl (.inr (Option.some.inj hk).symm))); clear hg
    go_wp2_with fail
    refine (rd_signedP (some g) (.pointer (some ⟨g, 0, none⟩)) rfl (tkR r 8) wx HR.out).mono ?_
    rintro e wx ⟨rfl, hr, hg⟩
    replace HR := Lib.hid hr; clear hr
    replace HX := Lib.hid (HX.out.grown hg HNe.out)
    replace HT := Lib.hid (HT.out.grown hg (fun k hk => .inl (.inr (Option.some.inj hk).symm))); clear hg
    obtain ⟨f2, f3, f4, f5, f6, f7, f8, f9⟩ := HX.out.froz
    obtain ⟨z0, z1, z2, z3, z4, z5, z6, z7, z8, z9⟩ := HX.out.cells
    go_wp2_with fail
    clear f2 f3 f4 f5 f6 f7 f8 f9 z0 z1 z2 z3 z4 z5 z6 z7 z8 z9
    replace HX := Lib.hid ((HX.out.setKey (rdN r 8)).setAmt (wrap64 (rdN (tkR r 8) 8 : Int)))
    replace HR := Lib.hid ((HR.out.set HNe.out (i := 2) (.int .u64 (rdN r 8 : Int))).set HNe.out (i := 4) (.int .i64 (wrap64 (rdN (tkR r 8) 8 : Int))))
    replace HT := Lib.hid (Touch.set (Touch.set HT.out (i := 2) (.inl (.inl rfl)) (.int .u64 (rdN r 8 : Int))) (i := 4) (.inl (.inl rfl)) (.int .i64 (wrap64 (rdN (tkR r 8) 8 : Int))))
    generalize (wx.setCell ⟨bq, 2, none⟩ (.int .u64 (rdN r 8 : Int))).setCell ⟨bq, 4, none⟩ (.int .i64 (wrap64 (rdN (tkR r 8) 8 : Int))) = wx at HX HR HT ⊢
    refine (rd_numberP (some g) (.pointer (some ⟨g, 0, none⟩)) rfl (tkR (tkR r 8) 8) 2 wx HR.out (by decide) (by decide)).mono ?_
    rintro e wx ⟨rfl, hr, hg⟩
    rw [show numW 2 = 2 from rfl] at hr
    replace HR := Lib.hid hr; clear hr
    replace HX := Lib.hid (HX.out.grown hg HNe.out)
    replace HT := Lib.hid (HT.out.grown hg (fun k hk => .inl (.inr (Option.some.inj hk).symm))); clear hg
    have c12 := i64_small (rdN (tkR (tkR r 8) 8) 2) (by have := rdN2_lt (tkR (tkR r 8) 8); omega)
    have c22 := w64_small (rdN (tkR (tkR r 8) 8) 2) (by have := rdN2_lt (tkR (tkR r 8) 8); omega)
    obtain ⟨f2, f3, f4, f5, f6, f7, f8, f9⟩ := HX.out.froz
    obtain ⟨z0, z1, z2, z3, z4, z5, z6, z7, z8, z9⟩ := HX.out.cells
    go_wp2
    go_ret
    exact ⟨.slice none 0 0, rfl, (HX.out).setCode (rdN (tkR (tkR r 8) 8) 2 : Int), World.ownsRow_nil _ _ _ _, (HR.out.set HNe.out (i := 5) (.int .i64 (rdN (tkR (tkR r 8) 8) 2 : Int))), (Touch.set HT.out (i := 5) (.inl (.inl rfl)) (.int .i64 (rdN (tkR (tkR r 8) 8) 2 : Int)))⟩
  · skip
    go_wp2_with fail
    refine (rd_numberP (some g) (.pointer (some ⟨g, 0, none⟩)) rfl r 8 wx HR.out (by decide) (by decide)).mono ?_
    rintro e wx ⟨rfl, hr, hg⟩
    rw [show numW 8 = 8 from rfl] at hr
    replace HR := Lib.hid hr; clear hr
    replace HX := Lib.hid (HX.out.grown hg HNe.out)
    replace HT := Lib.hid (HT.out.grown hg (fun k hk => .inl (.inr (Option.some.inj hk).symm))); clear hg
    go_wp2_with fail
    refine (rd_signedP (some g) (.pointer (some ⟨g, 0, none⟩)) rfl (tkR r 8) wx HR.out).mono ?_
    rintro e wx ⟨rfl, hr, hg⟩
    replace HR := Lib.hid hr; clear hr
    replace HX := Lib.hid (HX.out.grown hg HNe.out)
    replace HT := Lib.hid (HT.out.grown hg (fun k hk => .inl (.inr (Option.some.inj hk).symm))); clear hg
    obtain ⟨f2, f3, f4, f5, f6, f7, f8, f9⟩ := HX.out.froz
    obtain ⟨z0, z1, z2, z3, z4, z5, z6, z7, z8, z9⟩ := HX.out.cells
    go_wp2_with fail
    clear f2 f3 f4 f5 f6 f7 f8 f9 z0 z1 z2 z3 z4 z5 z6 z7 z8 z9
    replace HX := Lib.hid ((HX.out.setKey (rdN r 8)).setAmt (wrap64 (rdN (tkR r 8) 8 : Int)))
    replace HR := Lib.hid ((HR.out.set HNe.out (i := 2) (.int .u64 (rdN r 8 : Int))).set HNe.out (i := 4) (.int .i64 (wrap64 (rdN (tkR r 8) 8 : Int))))
    replace HT := Lib.hid (Touch.set (Touch.set HT.out (i := 2) (.inl (.inl rfl)) (.int .u64 (rdN r 8 : Int))) (i := 4) (.inl (.inl rfl)) (.int .i64 (wrap64 (rdN (tkR r 8) 8 : Int))))
    generalize (wx.setCell ⟨bq, 2, none⟩ (.int .u64 (rdN r 8 : Int))).setCell ⟨bq, 4, none⟩ (.int .i64 (wrap64 (rdN (tkR r 8) 8 : Int))) = wx at HX HR HT ⊢
    refine (rd_numberP (some g) (.pointer (some ⟨g, 0, none⟩)) rfl (tkR (tkR r 8) 8) 2 wx HR.out (by decide) (by decide)).mono ?_
    rintro e wx ⟨rfl, hr, hg⟩
    rw [show numW 2 = 2 from rfl] at hr
    replace HR := Lib.hid hr; clear hr
    replace HX := Lib.hid (HX.out.grown hg HNe.out)
    replace HT := Lib.hid (HT.out.grown hg (fun k hk => .inl (.inr (Option.some.inj hk).symm))); clear hg
    have c12 := i64_small (rdN (tkR (tkR r 8) 8) 2) (by have := rdN2_lt (tkR (tkR r 8) 8); omega)
    have c22 := w64_small (rdN (tkR (tkR r 8) 8) 2) (by have := rdN2_lt (tkR (tkR r 8) 8); omega)
    obtain ⟨f2, f3, f4, f5, f6, f7, f8, f9⟩ := HX.out.froz
    obtain ⟨z0, z1, z2, z3, z4, z5, z6, z7, z8, z9⟩ := HX.out.cells
    go_wp2
    go_ret
    exact ⟨.slice none 0 0, rfl, (HX.out).setCode (rdN (tkR (tkR r 8) 8) 2 : Int), World.ownsRow_nil _ _ _ _, (HR.out.set HNe.out (i := 5) (.int .i64 (rdN (tkR (tkR r 8) 8) 2 : Int))), (Touch.set HT.out (i := 5) (.inl (.inl rfl)) (.int .i64 (rdN (tkR (tkR r 8) 8) 2 : Int)))⟩
  · skip
    go_wp2_with fail
    refine (rd_numberP (some g) (.pointer (some ⟨g, 0, none⟩)) rfl r 8 wx HR.out (by decide) (by decide)).mono ?_
    rintro e wx ⟨rfl, hr, hg⟩
    rw [show numW 8 = 8 from rfl] at hr
    replace HR := Lib.hid hr; clear hr
    replace HX := Lib.hid (HX.out.grown hg HNe.out)
    replace HT := Lib.hid (HT.out.grown hg (fun k hk => .inl (.inr (Option.some.inj hk).symm))); clear hg
    obtain ⟨f2, f3, f4, f5, f6, f7, f8, f9⟩ := HX.out.froz
    obtain ⟨z0, z1, z2, z3, z4, z5, z6, z7, z8, z9⟩ := HX.out.cells
    go_wp2_with fail
    clear f2 f3 f4 f5 f6 f7 f8 f9 z0 z1 z2 z3 z4 z5 z6 z7 z8 z9
    have hS := HT.out.size
    replace HX := Lib.hid (HX.out.setKey (rdN r 8))
    replace HR := Lib.hid (HR.out.set HNe.out (i := 2) (.int .u64 (rdN r 8 : Int)))
    replace HT := Lib.hid (Touch.set HT.out (i := 2) (.inl (.inl rfl)) (.int .u64 (rdN r 8 : Int)))
    have HSz := Lib.hid HT.out.size; clear hS
    generalize wx.setCell ⟨bq, 2, none⟩ (.int .u64 (rdN r 8 : Int)) = wy at HX HR HT HSz ⊢
    refine (post_read (some g) (tkR r 8) wy HR.out).mono ?_
    rintro e wx ⟨v, rfl, hl, hr, hg⟩
    have HL := Lib.hid (hl.mono HSz.out); clear hl
    obtain ⟨va, vc, rfl⟩ := HL.out.form
    replace HR := Lib.hid hr; clear hr
    replace HX := Lib.hid (HX.out.grown hg HNe.out)
    replace HT := Lib.hid (HT.out.grown hg (fun k hk => .inl (.inr (Option.some.inj hk).symm))); clear hg
    obtain ⟨f2, f3, f4, f5, f6, f7, f8, f9⟩ := HX.out.froz
    obtain ⟨z0, z1, z2, z3, z4, z5, z6, z7, z8, z9⟩ := HX.out.cells
    go_wp2
    go_ret
    have hlt := blk_lt HXb.out
    exact ⟨_, rfl, HX.out.setV _, HL.out.grown (Lib.grownBy_setCell _ bq 8 _) (by
      cases hv : (Value.slice va (prd (tkR r 8)).1.length vc).ownBlock with
      | none => exact .inl rfl
      | some j => exact .inr (fun e => by have h1 := (World.ownsRow.lt HL.out j hv).1; have h2 := Option.some.inj e; omega)), HR.out.set HNe.out (i := 8) _, Touch.set HT.out (i := 8) (.inl (.inl rfl)) _⟩
  · skip
    go_wp2_with fail
    refine (rd_numberP (some g) (.pointer (some ⟨g, 0, none⟩)) rfl r 2 wx HR.out (by decide) (by decide)).mono ?_
    rintro e wx ⟨rfl, hr, hg⟩
    rw [show numW 2 = 2 from rfl] at hr
    replace HR := Lib.hid hr; clear hr
    replace HX := Lib.hid (HX.out.grown hg HNe.out)
    replace HT := Lib.hid (HT.out.grown hg (fun k hk => .inl (.inr (Option.some.inj hk).symm))); clear hg
    have c12 := i64_small (rdN r 2) (by have := rdN2_lt r; omega)
    have c22 := w64_small (rdN r 2) (by have := rdN2_lt r; omega)
    obtain ⟨f2, f3, f4, f5, f6, f7, f8, f9⟩ := HX.out.froz
    obtain ⟨z0, z1, z2, z3, z4, z5, z6, z7, z8, z9⟩ := HX.out.cells
    go_wp2
    go_ret
    exact ⟨.slice none 0 0, rfl, (HX.out).setN (rdN r 2 : Int), World.ownsRow_nil _ _ _ _, (HR.out.set HNe.out (i := 9) (.int .i64 (rdN r 2 : Int))), (Touch.set HT.out (i := 9) (.inl (.inl rfl)) (.int .i64 (rdN r 2 : Int)))⟩
  · skip
    go_wp2_with fail
    refine (rd_numberP (some g) (.pointer (some ⟨g, 0, none⟩)) rfl r 4 wx HR.out (by decide) (by decide)).mono ?_
    rintro e wx ⟨rfl, hr, hg⟩
    rw [show numW 4 = 4 from rfl] at hr
    replace HR := Lib.hid hr; clear hr
    replace HX := Lib.hid (HX.out.grown hg HNe.out)
    replace HT := Lib.hid (HT.out.grown hg (fun k hk => .inl (.inr (Option.some.inj hk).symm))); clear hg
    have c14 := i64_small (rdN r 4) (by have := rdN4_lt r; omega)
    have c24 := w64_small (rdN r 4) (by have := rdN4_lt r; omega)
    obtain ⟨f2, f3, f4, f5, f6, f7, f8, f9⟩ := HX.out.froz
    obtain ⟨z0, z1, z2, z3, z4, z5, z6, z7, z8, z9⟩ := HX.out.cells
    go_wp2
    go_ret
    exact ⟨.slice none 0 0, rfl, (HX.out).setN (rdN r 4 : Int), World.ownsRow_nil _ _ _ _, (HR.out.set HNe.out (i := 9) (.int .i64 (rdN r 4 : Int))), (Touch.set HT.out (i := 9) (.inl (.inl rfl)) (.int .i64 (rdN r 4 : Int)))⟩
  · skip
    go_wp2_with fail
    refine (rd_numberP (some g) (.pointer (some ⟨g, 0, none⟩)) rfl r 4 wx HR.out (by decide) (by decide)).mono ?_
    rintro e wx ⟨rfl, hr, hg⟩
    rw [show numW 4 = 4 from rfl] at hr
    replace HR := Lib.hid hr; clear hr
    replace HX := Lib.hid (HX.out.grown hg HNe.out)
    replace HT := Lib.hid (HT.out.grown hg (fun k hk => .inl (.inr (Option.some.inj hk).symm))); clear hg
    have c14 := i64_small (rdN r 4) (by have := rdN4_lt r; omega)
    have c24 := w64_small (rdN r 4) (by have := rdN4_lt r; omega)
    obtain ⟨f2, f3, f4, f5, f6, f7, f8, f9⟩ := HX.out.froz
    obtain ⟨z0, z1, z2, z3, z4, z5, z6, z7, z8, z9⟩ := HX.out.cells
    go_wp2
    go_ret
    exact ⟨.slice none 0 0, rfl, (HX.out).setN (rdN r 4 : Int), World.ownsRow_nil _ _ _ _, (HR.out.set HNe.out (i := 9) (.int .i64 (rdN r 4 : Int))), (Touch.set HT.out (i := 9) (.inl (.inl rfl)) (.int .i64 (rdN r 4 : Int)))⟩
  · skip
    go_wp2
    go_ret
    exact ⟨.slice none 0 0, rfl, HX.out, World.ownsRow_nil _ _ _ _, HR.out, HT.out⟩
  · skip
    go_wp2
    go_ret
    exact ⟨.slice none 0 0, rfl, HX.out, World.ownsRow_nil _ _ _ _, HR.out, HT.out⟩
end Go.Proofs.Ytepgdjkmobngcaa
