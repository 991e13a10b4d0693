/- post: Contra. No conditions beyond the form's own reach. -/
import Derived.Test.YtkmbjfgdjoanjaaXPostB
namespace Go.Proofs.Ytkmbjfgdjoanjaa
open Go.RowKit Go.Lib Go.Proofs.Ytkmbjfgdjoanjaa.P Go.Proofs.YtkmbjfgdjoanjaaW.PrintWords Go.Proofs.YtkmbjfgdjoanjaaW.PrintLast Go.Proofs.YtkmbjfgdjoanjaaW.PrintMore
set_option linter.unusedVariables false
set_option linter.unusedSimpArgs false
--@tables
def LRow (w : World) (E B : Nat) (v : Value) (xs : List Ln) : Prop := w.ownsRow B E 2 v xs.length (xs.flatMap encL)
theorem LRow.form {w : World} {E B : Nat} {v : Value} {xs : List Ln} (h : LRow w E B v xs) : ∃ a c, v = .slice a xs.length c := own_slice h
theorem LRow.below {w w' : World} {E B : Nat} {v : Value} {xs : List Ln} (h : LRow w E B v xs) (hb : Below w.heap.size w w') : LRow w' E B v xs := pw_own_below h hb
theorem LRow.s {w : World} {E B : Nat} {v : Value} {xs : List Ln} (h : LRow w E B v xs) : RowS encL w v xs := RowS.of_owns h
theorem l_add {T E : Nat} (ht : Try.prog.underlying T = some (.slice E)) (hinfo : (Try.prog.info? E).map (fun i => (i.zero, i.size, i.bytes)) = some (some (.agg #[.int .i64 0, .int .i64 0]), 2, 16)) (ty B : Nat) (v : Value) (xs : List Ln) (w : World) (h : LRow w E B v xs) (hl : xs.length ≤ 1000) (x : Ln) (bN : Nat) (hN : w.heap[bN]? = some (.cells #[.int .i64 x.1, .int .i64 x.2] E (0, 0))) (hB : B ≤ w.heap.size) :
    ∃ a c w', (Builtin.append_ #[T, T] ty #[v, .slice (some ⟨bN, 0, none⟩) 1 1]).run Try.prog w = .ok (.slice a (xs.length + 1) c) w' ∧ LRow w' E B (.slice a (xs.length + 1) c) (xs ++ [x]) ∧ w.grownBy w' v.ownBlock := by
  obtain ⟨i0, hi, hz0, hz1, hz2⟩ := info_parts hinfo
  obtain ⟨c0, c1, _, _⟩ := wide_cells hN
  obtain ⟨v', w', hr, ho, hg, _⟩ := run_append_own w (P := Try.prog) B T ty E i0 (.agg #[.int .i64 0, .int .i64 0]) 2 16 ht hi hz0 hz1 hz2 rfl (by decide) v xs.length (xs.flatMap encL) h ⟨bN, 0, none⟩ 1 1 (encL x) rfl (fun j u hu => by
    rw [Addr.add_lit, Nat.zero_add]
    match j, hu with
    | 0, hu => simp [encL] at hu; rw [← hu]; exact c0
    | 1, hu => simp [encL] at hu; rw [← hu]; exact c1
    | j + 2, hu => simp [encL] at hu) (fun u hu => by simp [encL] at hu; rcases hu with rfl | rfl <;> rfl) (by unfold maxLen; omega) (by omega) hB
  obtain ⟨a, c, rfl⟩ := own_slice ho
  refine ⟨a, c, w', hr, ?_, hg⟩
  unfold LRow
  rw [List.length_append, List.flatMap_append]
  simpa using ho
theorem line_info : (Try.prog.info? 81).map (fun i => (i.zero, i.size, i.bytes)) = some (some (.agg #[.int .i64 0, .int .i64 0]), 2, 16) := by kernel_rfl
theorem line22_info : (Try.prog.info? 82).map (fun i => (i.zero, i.size, i.bytes)) = some (some (.agg #[.int .i64 0, .int .i64 0]), 2, 16) := by kernel_rfl
theorem lineW_info : (Try.prog.info? 52).map (fun i => (i.zero, i.size, i.bytes)) = some (some (.agg #[.int .i64 0, .int .i64 0]), 2, 16) := by kernel_rfl
def negL (p : Ln) : Ln := (p.1, -p.2)
def okN (p : Ln) : Bool := decide (p.2 ≠ -9223372036854775808)
def conV (xs : List Ln) : List Ln × Int := if xs.all okN then (xs.map negL, 0) else ([], 6)
theorem conV_bad (xs : List Ln) (j : Nat) (h : j < xs.length) (hb : okN xs[j] = false) : conV xs = ([], 6) := by
  unfold conV
  rw [if_neg]
  intro ha
  have := List.all_eq_true.mp ha xs[j] (List.getElem_mem h)
  rw [hb] at this; cases this
theorem all_take_succ (p : Ln → Bool) (xs : List Ln) (j : Nat) (h : j < xs.length) (h1 : (xs.take j).all p = true) (h2 : p xs[j] = true) : (xs.take (j + 1)).all p = true := by
  rw [List.take_succ_eq_append_getElem h, List.all_append, h1]; simp [h2]
theorem map_take_succ (f : Ln → Ln) (xs : List Ln) (j : Nat) (h : j < xs.length) : (xs.take (j + 1)).map f = (xs.take j).map f ++ [f xs[j]] := by
  rw [List.take_succ_eq_append_getElem h, List.map_append]; rfl
set_option maxHeartbeats 8000000 in
theorem contra_ok (xs : List Ln) (hn : xs.length ≤ 100) (hin : LnIn xs) (v : Value) (w : World) (hr : RowS encL w v xs) :
    Calls Try.prog 10 #[v] w fun e w' => ∃ u, e = .returned (.tuple #[u, .int .i64 (conV xs).2]) ∧ LRow w' 81 w.heap.size u (conV xs).1 ∧ Below w.heap.size w w' := by
  obtain ⟨va, vc, rfl, _⟩ := hr.len
  have HR := Lib.hid hr; clear hr
  have HN := Lib.hid hn; clear hn
  have HI := Lib.hid hin; clear hin
  go_enter Try.func10, Try.ntmps10
  go_wp2_with fail
  go_loopw [4, 9] (fun o i wr => ∃ j : Nat, j ≤ xs.length ∧ i = .int .i64 (j : Int) ∧ (xs.take j).all okN = true ∧ LRow wr 81 w.heap.size o ((xs.take j).map negL) ∧ Below w.heap.size w wr) (fun _ i _ => xs.length - (RowKit.intOf i).toNat)
  case atStart => exact ⟨0, Nat.zero_le _, rfl, rfl, World.ownsRow_nil _ _ _ _, Below.refl _ _⟩
  case round =>
    obtain ⟨j, hj, rfl, h0, h1, h2⟩ := hrel
    have HA := Lib.hid h0; clear h0
    have HO := Lib.hid h1; clear h1
    have HB := Lib.hid h2; clear h2
    have HMl := Lib.hid (show ((xs.take j).map negL).length = j by rw [List.length_map, List.length_take]; exact Nat.min_eq_left hj)
    by_cases hlt : j < xs.length
    · obtain ⟨g, off, cap, hv, k0, k1⟩ := ln_at (HR.out.below HB.out) j hlt
      simp only [Value.slice.injEq, true_and] at hv
      obtain ⟨rfl, rfl⟩ := hv
      have e3 : wrap64 ((j : Int) + 1) = ((j + 1 : Nat) : Int) := wrap_succP j (Nat.lt_of_lt_of_le hlt (Nat.le_trans HN.out (by decide)))
      have HM := Lib.hid (map_take_succ negL xs j hlt)
      have HAs := Lib.hid (all_take_succ okN xs j hlt HA.out)
      have HBd := Lib.hid (conV_bad xs j hlt)
      have hi := HI.out xs[j] (List.getElem_mem hlt)
      generalize xs[j] = p at k0 k1 HM HAs HBd hi
      obtain ⟨a, m⟩ := p
      simp only at k0 k1 hi
      obtain ⟨oa, oc, hof⟩ := HO.out.form
      subst hof
      rw [HMl.out] at HO ⊢
      have HX := Lib.hid (heap_alloc_new wr (.cells #[.int .i64 a, .int .i64 m] 81))
      have ha := below_alloc (Below.refl wr.heap.size wr) (.cells #[.int .i64 a, .int .i64 m] 81)
      replace HO := Lib.hid (HO.out.below ha)
      replace HB := Lib.hid (chain2 HB.out ha); clear ha
      obtain ⟨x0, x1, _, _⟩ := wide_cells HX.out
      by_cases hm : m = -9223372036854775808
      · have HV := Lib.hid (HBd.out (by unfold okN; simp [hm]))
        subst hm
        clear hi
        go_wp2
        go_ret2
        exact ⟨_, by rw [HV.out]; rfl, by rw [HV.out]; exact World.ownsRow_nil _ _ _ _, HB.out⟩
      · have m1 : (m == -9223372036854775808) = false := by simp [hm]
        have m2 : (m = -9223372036854775808) = False := eq_false hm
        have HAn := Lib.hid (HAs.out (by unfold okN; simp [hm]))
        have hw : wrap64 (-m) = -m := by unfold wrap64; omega
        have HN2 := Lib.hid (heap_alloc_new (wr.alloc (.cells #[.int .i64 a, .int .i64 m] 81)) (.cells #[.int .i64 a, .int .i64 (-m)] 81))
        have ha := below_alloc (Below.refl (wr.alloc (.cells #[.int .i64 a, .int .i64 m] 81)).heap.size (wr.alloc (.cells #[.int .i64 a, .int .i64 m] 81))) (.cells #[.int .i64 a, .int .i64 (-m)] 81)
        replace HO := Lib.hid (HO.out.below ha)
        replace HB := Lib.hid (chain2 HB.out ha); clear ha hm hi
        rw [show (wr.alloc (.cells #[.int .i64 a, .int .i64 m] 81)).heap.size = wr.heap.size + 1 by simp] at HN2
        obtain ⟨ax, cx, w4, hr, ho2, hgr⟩ := l_add Try.underlying30 line_info 30 w.heap.size _ _ _ HO.out (by rw [HMl.out]; exact Nat.le_trans hj (Nat.le_trans HN.out (by decide))) (a, -m) (wr.heap.size + 1) HN2.out HB.out.size
        rw [HMl.out] at hr ho2
        have HRun := Lib.hid hr; clear hr
        go_wp2_with (at_builtin; refine wpList_append_run rfl _ _ 30 rfl _ _ rfl rfl HRun.out ?_)
        clear HRun x0 x1 k0 k1
        replace HB := Lib.hid (pw_below_grown HB.out _ HB.out.size hgr (fun k hk => (World.ownsRow.lt HO.out k hk).1))
        replace HO := Lib.hid ho2; clear ho2 hgr
        go_roundw
        case rel => exact ⟨j + 1, hlt, by first | rw [e3] | rfl, HAn.out, by rw [HM.out]; exact HO.out, HB.out⟩
        case measure => (first | rw [e3] | rw [show ((j : Int) + 1) = ((j + 1 : Nat) : Int) from rfl]); simp only [RowKit.intOf, Int.toNat_natCast]; exact Nat.sub_lt_sub_left hlt (Nat.lt_succ_self j)
    · obtain rfl : j = xs.length := Nat.le_antisymm hj (Nat.le_of_not_lt hlt)
      rw [List.take_length] at HO HA
      have HV := Lib.hid (show conV xs = (xs.map negL, 0) from if_pos HA.out)
      go_wp2
      go_ret2
      exact ⟨_, by rw [HV.out]; rfl, by rw [HV.out]; exact HO.out, HB.out⟩
end Go.Proofs.Ytkmbjfgdjoanjaa
