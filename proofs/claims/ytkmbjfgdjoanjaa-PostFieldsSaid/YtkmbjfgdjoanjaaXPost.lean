/- post: amounts. No conditions beyond the form's own reach. -/
import Derived.Test.YtkmbjfgdjoanjaaXCents
import Derived.Test.YtkmbjfgdjoanjaaXRowS
import Derived.Test.YtkmbjfgdjoanjaaXMapV
namespace Go.Proofs.Ytkmbjfgdjoanjaa
open Go.RowKit Go.Lib Go.Proofs.Ytkmbjfgdjoanjaa.P Go.Proofs.YtkmbjfgdjoanjaaW.PrintWords Go.Proofs.YtkmbjfgdjoanjaaW.PrintLast Go.Proofs.YtkmbjfgdjoanjaaW.PrintMore
set_option linter.unusedVariables false
set_option linter.unusedSimpArgs false
--@tables
abbrev Ln := Int × Int
def encL (p : Ln) : List Value := [.int .i64 p.1, .int .i64 p.2]
theorem encL_len (p : Ln) : (encL p).length = 2 := rfl
def encC (x : Int) : List Value := [.int .i64 x]
theorem encC_len (x : Int) : (encC x).length = 1 := rfl
theorem cents_info : (Try.prog.info? 43).map (fun i => (i.zero, i.size, i.bytes)) = some (some (.int .i64 0), 1, 8) := by kernel_rfl
theorem ln_at {w : World} {v : Value} {xs : List Ln} (h : RowS encL w v xs) (j : Nat) (hj : j < xs.length) : ∃ g off cap, v = .slice (some ⟨g, off, none⟩) xs.length cap ∧ w.cell? ⟨g, off + j * 2, none⟩ = some (.int .i64 xs[j].1) ∧ w.cell? ⟨g, off + j * 2 + 1, none⟩ = some (.int .i64 xs[j].2) := by
  rcases h with ⟨_, rfl⟩ | ⟨g, off, cap, h1, _, _, _, h5⟩
  · exact absurd hj (Nat.not_lt_zero _)
  · refine ⟨g, off, cap, h1, ?_, ?_⟩
    · exact h5 (j * 2 + 0) _ (flat_get encL 2 encL_len xs j 0 hj (by decide))
    · have := h5 (j * 2 + 1) _ (flat_get encL 2 encL_len xs j 1 hj (by decide))
      rw [← Nat.add_assoc] at this
      exact this
theorem CRow.of {w : World} {v : Value} {xs : List Int} (h : RowS encC w v xs) : CRow w v xs := by
  rcases h with h | ⟨g, off, cap, h1, _, _, _, h5⟩
  · exact .inl h
  · refine .inr ⟨g, off, cap, h1, fun j hj => ?_⟩
    have := h5 (j * 1 + 0) _ (flat_get encC 1 encC_len xs j 0 hj (by decide))
    rw [Nat.mul_one, Nat.add_zero] at this
    exact this
theorem wrap_succP (p : Nat) (h : p < 1000) : wrap64 ((p : Int) + 1) = ((p + 1 : Nat) : Int) := by unfold wrap64; omega
theorem flat_enc (xs : List Int) : xs.flatMap encC = xs.map (fun x => Value.int .i64 x) := by
  induction xs with
  | nil => rfl
  | cons x xs ih => rw [List.flatMap_cons, ih]; rfl
theorem c_add (B : Nat) (v : Value) (xs : List Int) (w : World) (h : w.ownsRow B 43 1 v xs.length (xs.flatMap encC)) (hl : xs.length ≤ 1000) (x : Int) (bN : Nat) (hN : w.cell? ⟨bN, 0, none⟩ = some (.int .i64 x)) (hB : B ≤ w.heap.size) :
    ∃ v' w', (Builtin.append_ #[86, 86] 86 #[v, .slice (some ⟨bN, 0, none⟩) 1 1]).run Try.prog w = .ok v' w' ∧ w'.ownsRow B 43 1 v' (xs ++ [x]).length ((xs ++ [x]).flatMap encC) ∧ w.grownBy w' v.ownBlock := by
  obtain ⟨i0, hi, hz0, hz1, hz2⟩ := info_parts cents_info
  obtain ⟨v', w', hr, ho, hg, _⟩ := run_append_own w (P := Try.prog) B 86 86 43 i0 (.int .i64 0) 1 8 Try.underlying86 hi hz0 hz1 hz2 rfl (by decide) v xs.length (xs.flatMap encC) h ⟨bN, 0, none⟩ 1 1 (encC x) rfl (fun j u hu => by
    rw [Addr.add_lit, Nat.zero_add]
    match j, hu with
    | 0, hu => simp [encC] at hu; rw [← hu]; exact hN
    | j + 1, hu => simp [encC] at hu) (fun u hu => by simp [encC] at hu; rw [hu]; rfl) (by unfold maxLen; omega) (by omega) hB
  refine ⟨v', w', hr, ?_, hg⟩
  rw [List.length_append, List.flatMap_append]
  simpa using ho
theorem clo_all (a m : Int) (w : World) : Calls Try.prog 31 #[.agg #[.int .i64 a, .int .i64 m]] w fun e w' => e = .returned (.bool true) ∧ Below w.heap.size w w' := by
  go_enter Try.func31, Try.ntmps31
  go_wp2
  go_ret
  exact ⟨rfl, by first | exact Below.refl _ _ | exact below_alloc (Below.refl _ _) _⟩
theorem clo_on (k a m : Int) (b : Nat) (w : World) (hc : w.cell? ⟨b, 0, none⟩ = some (.int .i64 k)) : Calls Try.prog 34 #[.agg #[.int .i64 a, .int .i64 m], .pointer (some ⟨b, 0, none⟩)] w fun e w' => e = .returned (.bool (a == k)) ∧ Below w.heap.size w w' := by
  have hne : b ≠ w.heap.size := Nat.ne_of_lt (World.block_lt_of_cell? w _ hc)
  have hc2 := pw_cell_below (below_alloc (Below.refl w.heap.size w) (.cells #[.int .i64 a, .int .i64 m] 81)) hc
  go_enter Try.func34, Try.ntmps34
  go_wp2
  go_ret
  exact ⟨rfl, below_alloc (Below.refl _ _) _⟩
theorem filt_take (p : Ln → Bool) (xs : List Ln) (j : Nat) (h : j < xs.length) : ((xs.take (j + 1)).filter p).map (·.2) = ((xs.take j).filter p).map (·.2) ++ (if p xs[j] then [xs[j].2] else []) := by
  rw [List.take_succ_eq_append_getElem h, List.filter_append, List.map_append]
  congr 1
  cases hp : p xs[j] <;> simp [hp]
set_option maxHeartbeats 8000000 in
theorem amt_all (xs : List Ln) (hn : xs.length ≤ 100) (v : Value) (w : World) (hr : RowS encL w v xs) :
    Calls Try.prog 30 #[v, .func (.func 31) #[] #[]] w fun e w' => ∃ u, e = .returned u ∧ CRow w' u ((xs.filter (fun _ => true)).map (·.2)) ∧ Below w.heap.size w w' := by
  obtain ⟨va, vc, rfl, _⟩ := hr.len
  have HR := Lib.hid hr; clear hr
  have HN := Lib.hid hn; clear hn
  go_enter Try.func30, Try.ntmps30
  go_wp2_with fail
  go_loopw [5, 10] (fun o i wr => ∃ j : Nat, j ≤ xs.length ∧ i = .int .i64 (j : Int) ∧ wr.ownsRow w.heap.size 43 1 o (((xs.take j).filter (fun _ => true)).map (·.2)).length ((((xs.take j).filter (fun _ => true)).map (·.2)).flatMap encC) ∧ Below w.heap.size w wr) (fun _ i _ => xs.length - (RowKit.intOf i).toNat)
  case atStart => exact ⟨0, Nat.zero_le _, rfl, World.ownsRow_nil _ _ _ _, Below.refl _ _⟩
  case round =>
    obtain ⟨j, hj, rfl, h1, h2⟩ := hrel
    have HO := Lib.hid h1; clear h1
    have HB := Lib.hid h2; clear h2
    by_cases hlt : j < xs.length
    · obtain ⟨g, off, cap, hv, k0, k1⟩ := ln_at (HR.out.below HB.out) j hlt
      simp only [Value.slice.injEq, true_and] at hv
      obtain ⟨rfl, rfl⟩ := hv
      have e3 : wrap64 ((j : Int) + 1) = ((j + 1 : Nat) : Int) := wrap_succP j (Nat.lt_of_lt_of_le hlt (Nat.le_trans HN.out (by decide)))
      have HF := Lib.hid (filt_take (fun _ => true) xs j hlt)
      have HLn := Lib.hid (show (((xs.take j).filter (fun _ => true)).map (·.2)).length ≤ 1000 by
        rw [List.length_map]
        exact Nat.le_trans (List.length_filter_le _ _) (Nat.le_trans (List.length_take_le' ..) (Nat.le_trans HN.out (by decide))))
      generalize ((xs.take j).filter (fun _ => true)).map (·.2) = ys at HO HF HLn
      generalize xs[j] = p at k0 k1 HF
      obtain ⟨a, m⟩ := p
      simp only at k0 k1
      obtain ⟨oa, oc, hof⟩ := own_slice HO.out
      subst hof
      have HX := Lib.hid (heap_alloc_new wr (.cells #[.int .i64 a, .int .i64 m] 81))
      have ha := below_alloc (Below.refl wr.heap.size wr) (.cells #[.int .i64 a, .int .i64 m] 81)
      replace HO := Lib.hid (pw_own_below HO.out ha)
      replace HB := Lib.hid (chain2 HB.out ha); clear ha
      obtain ⟨x0, x1, _, _⟩ := wide_cells HX.out
      go_wp2_with fail
      generalize wr.alloc (.cells #[.int .i64 a, .int .i64 m] 81) = w2 at HX HO HB x0 x1 ⊢
      generalize wr.heap.size = bx at HX x0 x1 ⊢
      refine (clo_all a m w2).mono ?_
      rintro e w3 ⟨rfl, hd⟩
      clear k0 k1 x0 x1
      replace HX := Lib.hid (blk_below HX.out hd)
      replace HO := Lib.hid (pw_own_below HO.out hd)
      replace HB := Lib.hid (chain2 HB.out hd); clear hd
      obtain ⟨x0, x1, _, _⟩ := wide_cells HX.out
      cases hp : true with
      | false => exact absurd hp (by decide)
      | true =>
        replace HF := Lib.hid (show ((xs.take (j + 1)).filter (fun _ => true)).map (·.2) = ys ++ [m] by rw [HF.out]; simp [hp])
        clear hp
        have hN := show (w3.alloc (.cells #[.int .i64 m] 43)).cell? ⟨w3.heap.size, 0, none⟩ = some (.int .i64 m) by simp
        have ha := below_alloc (Below.refl w3.heap.size w3) (.cells #[.int .i64 m] 43)
        replace HO := Lib.hid (pw_own_below HO.out ha)
        replace HB := Lib.hid (chain2 HB.out ha); clear ha
        obtain ⟨v', w4, hr, ho2, hgr⟩ := c_add w.heap.size _ ys _ HO.out HLn.out m w3.heap.size hN HB.out.size
        have HRun := Lib.hid hr; clear hr hN
        go_wp2_with (at_builtin; refine wpList_append_run rfl _ _ 86 rfl _ _ rfl rfl HRun.out ?_)
        clear HRun x0 x1
        replace HB := Lib.hid (pw_below_grown HB.out _ HB.out.size hgr (fun k hk => (World.ownsRow.lt HO.out k hk).1))
        replace HO := Lib.hid ho2; clear ho2 hgr
        go_roundw
        case rel => exact ⟨j + 1, hlt, by first | rw [e3] | rfl, by rw [HF.out]; exact HO.out, HB.out⟩
        case measure => (first | rw [e3] | rw [show ((j : Int) + 1) = ((j + 1 : Nat) : Int) from rfl]); simp only [RowKit.intOf, Int.toNat_natCast]; exact Nat.sub_lt_sub_left hlt (Nat.lt_succ_self j)
    · obtain rfl : j = xs.length := Nat.le_antisymm hj (Nat.le_of_not_lt hlt)
      rw [List.take_length] at HO
      go_wp2
      go_ret
      exact ⟨_, rfl, CRow.of (RowS.of_owns HO.out), HB.out⟩
set_option maxHeartbeats 8000000 in
theorem amt_on (k : Int) (b : Nat) (xs : List Ln) (hn : xs.length ≤ 100) (v : Value) (w : World) (hr : RowS encL w v xs) (hc : w.cell? ⟨b, 0, none⟩ = some (.int .i64 k)) :
    Calls Try.prog 30 #[v, .func (.func 34) #[] #[.pointer (some ⟨b, 0, none⟩)]] w fun e w' => ∃ u, e = .returned u ∧ CRow w' u ((xs.filter (fun p => p.1 == k)).map (·.2)) ∧ Below w.heap.size w w' := by
  obtain ⟨va, vc, rfl, _⟩ := hr.len
  have HR := Lib.hid hr; clear hr
  have HN := Lib.hid hn; clear hn
  have HC := Lib.hid hc; clear hc
  go_enter Try.func30, Try.ntmps30
  go_wp2_with fail
  go_loopw [5, 10] (fun o i wr => ∃ j : Nat, j ≤ xs.length ∧ i = .int .i64 (j : Int) ∧ wr.ownsRow w.heap.size 43 1 o (((xs.take j).filter (fun p => p.1 == k)).map (·.2)).length ((((xs.take j).filter (fun p => p.1 == k)).map (·.2)).flatMap encC) ∧ Below w.heap.size w wr) (fun _ i _ => xs.length - (RowKit.intOf i).toNat)
  case atStart => exact ⟨0, Nat.zero_le _, rfl, World.ownsRow_nil _ _ _ _, Below.refl _ _⟩
  case round =>
    obtain ⟨j, hj, rfl, h1, h2⟩ := hrel
    have HO := Lib.hid h1; clear h1
    have HB := Lib.hid h2; clear h2
    by_cases hlt : j < xs.length
    · obtain ⟨g, off, cap, hv, k0, k1⟩ := ln_at (HR.out.below HB.out) j hlt
      simp only [Value.slice.injEq, true_and] at hv
      obtain ⟨rfl, rfl⟩ := hv
      have e3 : wrap64 ((j : Int) + 1) = ((j + 1 : Nat) : Int) := wrap_succP j (Nat.lt_of_lt_of_le hlt (Nat.le_trans HN.out (by decide)))
      have HF := Lib.hid (filt_take (fun p => p.1 == k) xs j hlt)
      have HLn := Lib.hid (show (((xs.take j).filter (fun p => p.1 == k)).map (·.2)).length ≤ 1000 by
        rw [List.length_map]
        exact Nat.le_trans (List.length_filter_le _ _) (Nat.le_trans (List.length_take_le' ..) (Nat.le_trans HN.out (by decide))))
      generalize ((xs.take j).filter (fun p => p.1 == k)).map (·.2) = ys at HO HF HLn
      generalize xs[j] = p at k0 k1 HF
      obtain ⟨a, m⟩ := p
      simp only at k0 k1
      obtain ⟨oa, oc, hof⟩ := own_slice HO.out
      subst hof
      have HX := Lib.hid (heap_alloc_new wr (.cells #[.int .i64 a, .int .i64 m] 81))
      have ha := below_alloc (Below.refl wr.heap.size wr) (.cells #[.int .i64 a, .int .i64 m] 81)
      replace HO := Lib.hid (pw_own_below HO.out ha)
      replace HB := Lib.hid (chain2 HB.out ha); clear ha
      obtain ⟨x0, x1, _, _⟩ := wide_cells HX.out
      go_wp2_with fail
      generalize wr.alloc (.cells #[.int .i64 a, .int .i64 m] 81) = w2 at HX HO HB x0 x1 ⊢
      generalize wr.heap.size = bx at HX x0 x1 ⊢
      refine (clo_on k a m b w2 (pw_cell_below HB.out HC.out)).mono ?_
      rintro e w3 ⟨rfl, hd⟩
      clear k0 k1 x0 x1
      replace HX := Lib.hid (blk_below HX.out hd)
      replace HO := Lib.hid (pw_own_below HO.out hd)
      replace HB := Lib.hid (chain2 HB.out hd); clear hd
      obtain ⟨x0, x1, _, _⟩ := wide_cells HX.out
      cases hp : (a == k) with
      | false =>
        replace HF := Lib.hid (show ((xs.take (j + 1)).filter (fun p => p.1 == k)).map (·.2) = ys by rw [HF.out]; simp [hp])
        clear hp
        go_wp2
        go_roundw
        case rel => exact ⟨j + 1, hlt, by first | rw [e3] | rfl, by rw [HF.out]; exact HO.out, HB.out⟩
        case measure => (first | rw [e3] | rw [show ((j : Int) + 1) = ((j + 1 : Nat) : Int) from rfl]); simp only [RowKit.intOf, Int.toNat_natCast]; exact Nat.sub_lt_sub_left hlt (Nat.lt_succ_self j)
      | true =>
        replace HF := Lib.hid (show ((xs.take (j + 1)).filter (fun p => p.1 == k)).map (·.2) = ys ++ [m] by rw [HF.out]; simp [hp])
        clear hp
        have hN := show (w3.alloc (.cells #[.int .i64 m] 43)).cell? ⟨w3.heap.size, 0, none⟩ = some (.int .i64 m) by simp
        have ha := below_alloc (Below.refl w3.heap.size w3) (.cells #[.int .i64 m] 43)
        replace HO := Lib.hid (pw_own_below HO.out ha)
        replace HB := Lib.hid (chain2 HB.out ha); clear ha
        obtain ⟨v', w4, hr, ho2, hgr⟩ := c_add w.heap.size _ ys _ HO.out HLn.out m w3.heap.size hN HB.out.size
        have HRun := Lib.hid hr; clear hr hN
        go_wp2_with (at_builtin; refine wpList_append_run rfl _ _ 86 rfl _ _ rfl rfl HRun.out ?_)
        clear HRun x0 x1
        replace HB := Lib.hid (pw_below_grown HB.out _ HB.out.size hgr (fun k hk => (World.ownsRow.lt HO.out k hk).1))
        replace HO := Lib.hid ho2; clear ho2 hgr
        go_roundw
        case rel => exact ⟨j + 1, hlt, by first | rw [e3] | rfl, by rw [HF.out]; exact HO.out, HB.out⟩
        case measure => (first | rw [e3] | rw [show ((j : Int) + 1) = ((j + 1 : Nat) : Int) from rfl]); simp only [RowKit.intOf, Int.toNat_natCast]; exact Nat.sub_lt_sub_left hlt (Nat.lt_succ_self j)
    · obtain rfl : j = xs.length := Nat.le_antisymm hj (Nat.le_of_not_lt hlt)
      rw [List.take_length] at HO
      go_wp2
      go_ret
      exact ⟨_, rfl, CRow.of (RowS.of_owns HO.out), HB.out⟩
end Go.Proofs.Ytkmbjfgdjoanjaa
