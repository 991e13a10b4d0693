/- The document's chart: Add of an account behind all others; the law's accounts. No conditions beyond the form's own reach. -/
import Derived.Test.YtkmbjfgdjoanjaaXRef21
namespace Go.Proofs.Ytkmbjfgdjoanjaa
open Go.RowKit Go.Lib Go.Proofs.Ytkmbjfgdjoanjaa.P Go.Proofs.YtkmbjfgdjoanjaaW.PrintWords Go.Proofs.YtkmbjfgdjoanjaaW.PrintLast Go.Proofs.YtkmbjfgdjoanjaaW.PrintMore
set_option linter.unusedVariables false
set_option linter.unusedSimpArgs false
def rg27_14.T : Bool × List (List Nat × List Nat) := (true, [([], []), ([0], [0]), ([1], [1]), ([2], [2]), ([2], [2]), ([3, 4, 2], [2, 3, 4]), ([5, 2], [2, 5]), ([6, 2], [2, 6]), ([2], [2]), ([8, 2], [2, 8]), ([7, 9, 2], [2, 7, 9]), ([2, 10], [2, 10])])
def rg27_14.B : List Nat := [0, 1, 3, 7, 7, 31, 63, 127, 7, 263, 1023, 2047]
theorem rg27_14.tab : rtab .any (opsOf Try.f27 14) = rg27_14.T := by kernel_rfl
theorem rg27_14.bits : waitsOk rg27_14.T.2 rg27_14.B = true := by kernel_rfl
theorem ARow.grownA {w w' : World} {B b T : Nat} {v : Value} {rs : List Ac} {cs : Array Value} {fr : Nat × Nat} (h : ARow w B v rs) (hg : w.grownBy w' v.ownBlock) (hb : w.heap[b]? = some (.cells cs T fr)) (hlt : b < B) : w'.heap[b]? = some (.cells cs T fr) :=
  (hg.block b (blk_lt hb) (fun e => by
    have := (World.ownsRow.lt h b e.symm).1
    omega)).trans hb
theorem RowS.grownB {w w' : World} {v : Value} {xs : List Ac} {o : Option Nat} (h : RowS encA3 w v xs) (hg : w.grownBy w' o) (hne : ∀ g, v.ownBlock = some g → o ≠ some g) : RowS encA3 w' v xs := by
  rcases h with h | ⟨g, off, cap, h1, h2, h3, h4, h5⟩
  · exact .inl h
  · subst h1
    exact .inr ⟨g, off, cap, rfl, h2, h3, Nat.lt_of_lt_of_le h4 hg.size, fun j u hu => hg.cell (h5 j u hu) (fun e => hne g rfl e.symm)⟩
set_option maxHeartbeats 16000000 in
set_option maxRecDepth 20000 in
theorem radd_ok (k : Int) (h1 : 1 ≤ k) (h2 : k ≤ 65535) (es : List Ac) (hl : es.length < 64) (hes : ∀ x ∈ es, x.1 < k) (v : Value) (w : World) (hr : RowS encA3 w v es) :
    Calls Try.prog 27 #[v, .agg #[.int .i64 k, .int .u8 1, .string { data := #[120] }]] w fun e w' => ∃ u, e = .returned (.tuple #[u, .int .i64 0]) ∧ ARow w' w.heap.size u (es ++ [(k, 1, { data := #[120] })]) ∧ Below w.heap.size w w' := by
  obtain ⟨va, vc, rfl, _⟩ := hr.len
  have HK := Lib.hid (And.intro (And.intro h1 h2) (And.intro hl hes)); clear h1 h2 hl hes
  have HR := Lib.hid hr; clear hr
  have HX := Lib.hid (heap_alloc_new w (.cells #[.int .i64 k, .int .u8 1, .string { data := #[120] }] 79))
  have ha := below_alloc (Below.refl w.heap.size w) (.cells #[.int .i64 k, .int .u8 1, .string { data := #[120] }] 79)
  replace HR := Lib.hid (HR.out.below ha)
  have HB := Lib.hid ha; clear ha
  go_enter Try.func27, Try.ntmps27
  go_wp2_with fail
  generalize w.alloc (.cells #[.int .i64 k, .int .u8 1, .string { data := #[120] }] 79) = w1 at HX HR HB ⊢
  obtain ⟨b, hb⟩ : ∃ b, b = w.heap.size := ⟨_, rfl⟩
  rw [← hb] at HX ⊢
  have HBs := Lib.hid hb; clear hb
  refine (rright_x k HK.out.1.1 HK.out.1.2 w1).mono ?_
  rintro e w2 ⟨rfl, hd⟩
  replace HX := Lib.hid (blk_below HX.out hd)
  replace HR := Lib.hid (HR.out.below hd)
  replace HB := Lib.hid (chain2 HB.out hd); clear hd
  obtain ⟨x0, x1, x2⟩ := a3_cells HX.out
  go_wp2_with fail
  obtain ⟨A, c, hv, hc, hC⟩ := a_C HR.out
  simp only [Value.slice.injEq, true_and] at hv
  obtain ⟨rfl, rfl⟩ := hv
  have hf := find_f es (by have := HK.out.2.1; omega) k 2000 (by decide)
  rw [fnd_none es k HK.out.2.2 0] at hf
  have hcon := tillrollref21_Find.calls 2000 va vc (es.map s79) k (-1) w2 (by rw [List.length_map]; exact hC) (by rw [List.length_map]; exact hc) hf
  rw [List.length_map] at hcon
  refine hcon.mono ?_
  rintro e w3 ⟨rfl, hd⟩
  replace hd := hd.below
  clear hf hcon hC hc x0 x1 x2
  replace HX := Lib.hid (blk_below HX.out hd)
  replace HR := Lib.hid (HR.out.below hd)
  replace HB := Lib.hid (chain2 HB.out hd); clear hd
  have c1 : decide ((64 : Int) ≤ (es.length : Int)) = false := decide_eq_false (by have := HK.out.2.1; omega)
  have c2 : decide (64 ≤ es.length) = false := decide_eq_false (by have := HK.out.2.1; omega)
  have HBs3 := Lib.hid HB.out.size
  go_wp2_with fail
  clear c1 c2
  go_loopw [8, 9, 10] (fun o dn i wr => ∃ j : Nat, j ≤ es.length ∧ i = .int .i64 (j : Int) ∧ dn = .bool false ∧ ARow wr w3.heap.size o (es.take j) ∧ Below w3.heap.size w3 wr) (fun _ _ i _ => es.length - (RowKit.intOf i).toNat)
  case atStart => exact ⟨0, Nat.zero_le _, rfl, rfl, World.ownsRow_nil _ _ _ _, Below.refl _ _⟩
  case round =>
    obtain ⟨j, hj, rfl, rfl, h1, h2⟩ := hrel
    have HO := Lib.hid h1; clear h1
    have HD := Lib.hid h2; clear h2
    have HMl := Lib.hid (show (es.take j).length = j by rw [List.length_take]; exact Nat.min_eq_left hj)
    obtain ⟨oa, oc, rfl⟩ := HO.out.form
    rw [HMl.out] at HO ⊢
    by_cases hlt : j < es.length
    · obtain ⟨gp, off, cap, hv, k0, k1, k2⟩ := a_at (HR.out.below HD.out) j hlt
      simp only [Value.slice.injEq, true_and] at hv
      obtain ⟨rfl, rfl⟩ := hv
      have HMap := Lib.hid (show es.take (j + 1) = es.take j ++ [es[j]] from List.take_succ_eq_append_getElem hlt)
      have hlk := HK.out.2.2 es[j] (List.getElem_mem hlt)
      have e3 : wrap64 ((j : Int) + 1) = ((j + 1 : Nat) : Int) := wrap_succP j (Nat.lt_trans hlt (Nat.lt_of_lt_of_le HK.out.2.1 (by decide)))
      generalize es[j] = p at k0 k1 k2 HMap hlk
      obtain ⟨p0, p1, p2⟩ := p
      simp only at k0 k1 k2 hlk
      have hXr := blk_below HX.out HD.out
      have g1 : decide (k < p0) = false := decide_eq_false (by omega)
      have HP := Lib.hid (And.intro k0 (And.intro k1 k2)); clear k0 k1 k2 hlk
      go_wp2_with fail
      have hS : wr.drew.heap[b]? = some (.cells #[.int .i64 k, .int .u8 1, .string { data := #[120] }] 79 (0, 0)) ∧ wr.drew.cell? ⟨gp, off + j * 3, none⟩ = some (.int .i64 p0) := ⟨hXr, HP.out.1⟩
      refine start_ (n := 12) (S := fun w' => w'.heap[b]? = some (.cells #[.int .i64 k, .int .u8 1, .string { data := #[120] }] 79 (0, 0)) ∧ w'.cell? ⟨gp, off + j * 3, none⟩ = some (.int .i64 p0)) (ds := []) #[false, false, false, false, false, false, false, false, false, false, false, false] (by kernel_rfl) rfl rfl hS (fun hHeld => ?_)
      refine with_tabW rg27_14.tab rg27_14.bits (fun HT_ HW_ => ?_)
      refine pure_ (i := 0) (N := some 33) (v := ?_) (a' := ?_) #[true, false, false, false, false, false, false, false, false, false, false, false] rfl rfl (any_of HT_.out (by kernel_rfl)) (fun _ _ _ h => h) (Or.inl ⟨by rfl, ?_⟩) ?_ ?_
      rotate_left
      · intro w'
        go_simp
        try with_reducible rfl
      rotate_left
      · simp (maxSteps := 4000000) only [Act.put, List.setIfInBounds_toArray, List.set_cons_zero, List.set_cons_succ, i64_w, i32_w]
        try rfl
      refine pure_ (i := 1) (N := some 34) (v := ?_) (a' := ?_) #[true, true, false, false, false, false, false, false, false, false, false, false] rfl rfl (any_of HT_.out (by kernel_rfl)) (fun _ _ _ h => h) (Or.inl ⟨by rfl, ?_⟩) ?_ ?_
      rotate_left
      · intro w'
        go_simp
        try with_reducible rfl
      rotate_left
      · simp (maxSteps := 4000000) only [Act.put, List.setIfInBounds_toArray, List.set_cons_zero, List.set_cons_succ, i64_w, i32_w]
        try rfl
      refine pure_ (i := 2) (N := some 35) (v := ?_) (a' := ?_) #[true, true, true, false, false, false, false, false, false, false, false, false] rfl rfl (any_of HT_.out (by kernel_rfl)) (fun _ _ _ h => h) (Or.inl ⟨by rfl, ?_⟩) ?_ ?_
      rotate_left
      · intro w'
        go_simp
        try with_reducible rfl
      rotate_left
      · simp (maxSteps := 4000000) only [Act.put, List.setIfInBounds_toArray, List.set_cons_zero, List.set_cons_succ, i64_w, i32_w]
        try rfl
      refine pure_ (i := 3) (N := some 36) (v := ?_) (a' := ?_) #[true, true, true, true, false, false, false, false, false, false, false, false] rfl rfl (any_of HT_.out (by kernel_rfl)) (fun _ _ _ h => h) (Or.inl ⟨by rfl, ?_⟩) ?_ ?_
      rotate_left
      · intro w'
        go_simp
        try with_reducible rfl
      rotate_left
      · simp (maxSteps := 4000000) only [Act.put, List.setIfInBounds_toArray, List.set_cons_zero, List.set_cons_succ, i64_w, i32_w]
        try rfl
      refine pure_ (i := 4) (N := some 37) (v := ?_) (a' := ?_) #[true, true, true, true, true, false, false, false, false, false, false, false] rfl rfl (any_of HT_.out (by kernel_rfl)) (fun _ _ _ h => h) (Or.inl ⟨by rfl, ?_⟩) ?_ ?_
      rotate_left
      · intro w'
        go_simp
        try with_reducible rfl
      rotate_left
      · simp (maxSteps := 4000000) only [Act.put, List.setIfInBounds_toArray, List.set_cons_zero, List.set_cons_succ, i64_w, i32_w]
        try rfl
      refine pure_ (i := 5) (N := some 38) (v := ?_) (a' := ?_) #[true, true, true, true, true, true, false, false, false, false, false, false] rfl rfl (any_of HT_.out (by kernel_rfl)) (fun _ _ _ h => h) (Or.inl ⟨by rfl, ?_⟩) ?_ ?_
      rotate_left
      · intro w'
        go_simp
        try with_reducible rfl
      rotate_left
      · simp (maxSteps := 4000000) only [Act.put, List.setIfInBounds_toArray, List.set_cons_zero, List.set_cons_succ, i64_w, i32_w]
        try rfl
      refine pure_ (i := 6) (N := some 39) (v := ?_) (a' := ?_) #[true, true, true, true, true, true, true, false, false, false, false, false] rfl rfl (any_of HT_.out (by kernel_rfl)) (fun _ _ _ h => h) (Or.inl ⟨by rfl, ?_⟩) ?_ ?_
      rotate_left
      · intro w'
        go_simp
        try with_reducible rfl
      rotate_left
      · simp (maxSteps := 4000000) only [Act.put, List.setIfInBounds_toArray, List.set_cons_zero, List.set_cons_succ, i64_w, i32_w]
        try rfl
      refine pure_ (i := 8) (N := some 41) (v := ?_) (a' := ?_) #[true, true, true, true, true, true, true, false, true, false, false, false] rfl rfl (any_of HT_.out (by kernel_rfl)) (fun _ _ _ h => h) (Or.inl ⟨by rfl, ?_⟩) ?_ ?_
      rotate_left
      · intro w'
        go_simp
        try with_reducible rfl
      rotate_left
      · simp (maxSteps := 4000000) only [Act.put, List.setIfInBounds_toArray, List.set_cons_zero, List.set_cons_succ, i64_w, i32_w]
        try rfl
      refine take_ (i := 7) (N := some 40) (v := ?_) (a' := ?_) #[true, true, true, true, true, true, true, true, true, false, false, false] rfl rfl (take_ofW HT_.out HW_.out (by kernel_rfl)) (fun _ _ _ h => h) (Or.inl ⟨by rfl, ?_⟩) hHeld ?_ ?_
      rotate_left
      · intro w' hw_
        try dsimp only at hw_
        have q0 := hw_.2
        go_simp
        try with_reducible rfl
      rotate_left
      · simp (maxSteps := 4000000) only [Act.put, List.setIfInBounds_toArray, List.set_cons_zero, List.set_cons_succ, i64_w, i32_w]
        try rfl
      refine take_ (i := 9) (N := some 42) (v := ?_) (a' := ?_) #[true, true, true, true, true, true, true, true, true, true, false, false] rfl rfl (take_ofW HT_.out HW_.out (by kernel_rfl)) (fun _ _ _ h => h) (Or.inl ⟨by rfl, ?_⟩) hHeld ?_ ?_
      rotate_left
      · intro w' hw_
        try dsimp only at hw_
        obtain ⟨q0, q1, q2⟩ := a3_cells hw_.1
        go_simp
        try with_reducible rfl
      rotate_left
      · simp (maxSteps := 4000000) only [Act.put, List.setIfInBounds_toArray, List.set_cons_zero, List.set_cons_succ, i64_w, i32_w]
        try rfl
      refine pure_ (i := 10) (N := some 43) (v := ?_) (a' := ?_) #[true, true, true, true, true, true, true, true, true, true, true, false] rfl rfl (any_of HT_.out (by kernel_rfl)) (fun _ _ _ h => h) (Or.inl ⟨by rfl, ?_⟩) ?_ ?_
      rotate_left
      · intro w'
        go_simp
        try with_reducible rfl
      rotate_left
      · simp (maxSteps := 4000000) only [Act.put, List.setIfInBounds_toArray, List.set_cons_zero, List.set_cons_succ, i64_w, i32_w]
        try rfl
      refine pure_ (i := 11) (N := some 44) (v := ?_) (a' := ?_) #[true, true, true, true, true, true, true, true, true, true, true, true] rfl rfl (any_of HT_.out (by kernel_rfl)) (fun _ _ _ h => h) (Or.inl ⟨by rfl, ?_⟩) ?_ ?_
      rotate_left
      · intro w'
        go_simp
        try with_reducible rfl
      rotate_left
      · simp (maxSteps := 4000000) only [Act.put, List.setIfInBounds_toArray, List.set_cons_zero, List.set_cons_succ, i64_w, i32_w]
        try rfl
      refine done_ (done_of HT_.out (by kernel_rfl)) ?_
      clear g1 hS hXr hHeld
      replace HO := Lib.hid (show ARow wr.drew w3.heap.size (.slice oa j oc) (es.take j) from HO.out)
      replace HD := Lib.hid (show Below w3.heap.size w3 wr.drew from below_drew1 HD.out)
      replace HP := Lib.hid (show wr.drew.cell? ⟨gp, off + j * 3, none⟩ = some (.int .i64 p0) ∧ wr.drew.cell? ⟨gp, off + j * 3 + 1, none⟩ = some (.int .u8 p1) ∧ wr.drew.cell? ⟨gp, off + j * 3 + 2, none⟩ = some (.string p2) from HP.out)
      generalize wr.drew = wd at HO HD HP ⊢
      obtain ⟨k0, k1, k2⟩ := HP.out
      have HN := Lib.hid (heap_alloc_new wd (.cells #[.int .i64 p0, .int .u8 p1, .string p2] 79))
      have ha := below_alloc (Below.refl wd.heap.size wd) (.cells #[.int .i64 p0, .int .u8 p1, .string p2] 79)
      replace HO := Lib.hid (HO.out.below ha)
      replace HD := Lib.hid (chain2 HD.out ha); clear ha
      obtain ⟨ax, cx, w4, hr, ho2, hgr⟩ := a_add 24 w3.heap.size _ _ j HMl.out _ HO.out (by have := HK.out.2.1; omega) (p0, p1, p2) wd.heap.size HN.out HD.out.size
      have HRun := Lib.hid hr; clear hr
      go_wp2_with (at_builtin; refine wpList_append_run rfl _ _ 24 rfl _ _ rfl rfl HRun.out ?_)
      clear HRun k0 k1 k2
      replace HD := Lib.hid (pw_below_grown HD.out _ HD.out.size hgr (fun k hk => (World.ownsRow.lt HO.out k hk).1))
      replace HO := Lib.hid ho2; clear ho2 hgr
      go_roundw
      case rel => exact ⟨j + 1, hlt, by first | rw [e3] | rfl, rfl, by rw [HMap.out]; exact HO.out, HD.out⟩
      case measure => (first | rw [e3] | rw [show ((j : Int) + 1) = ((j + 1 : Nat) : Int) from rfl]); simp only [RowKit.intOf, Int.toNat_natCast]; exact Nat.sub_lt_sub_left hlt (Nat.lt_succ_self j)
    · obtain rfl : j = es.length := Nat.le_antisymm hj (Nat.le_of_not_lt hlt)
      rw [List.take_length] at HO HMl
      replace HX := Lib.hid (blk_below HX.out HD.out)
      replace HB := Lib.hid (chain2 HB.out HD.out)
      obtain ⟨x0, x1, x2⟩ := a3_cells HX.out
      have HN := Lib.hid (heap_alloc_new wr (.cells #[.int .i64 k, .int .u8 1, .string { data := #[120] }] 79))
      have ha := below_alloc (Below.refl wr.heap.size wr) (.cells #[.int .i64 k, .int .u8 1, .string { data := #[120] }] 79)
      replace HO := Lib.hid (HO.out.below ha)
      replace HD := Lib.hid (chain2 HD.out ha)
      replace HB := Lib.hid (chain2 HB.out ha); clear ha
      obtain ⟨ax, cx, w4, hr, ho2, hgr⟩ := a_add 24 w3.heap.size _ _ es.length rfl _ HO.out (by have := HK.out.2.1; omega) (k, 1, { data := #[120] }) wr.heap.size HN.out HD.out.size
      have HRun := Lib.hid hr; clear hr
      go_wp2_with (at_builtin; refine wpList_append_run rfl _ _ 24 rfl _ _ rfl rfl HRun.out ?_)
      clear HRun x0 x1 x2
      replace HB := Lib.hid (pw_below_grown HB.out _ HB.out.size hgr (fun k hk => Nat.le_trans HBs3.out (World.ownsRow.lt HO.out k hk).1))
      replace HO := Lib.hid (show ARow w4 w.heap.size (.slice ax (es.length + 1) cx) (es ++ [(k, 1, { data := #[120] })]) from own_weaken ho2 HBs3.out); clear ho2 hgr
      go_ret2
      exact ⟨_, rfl, HO.out, HB.out⟩
end Go.Proofs.Ytkmbjfgdjoanjaa
