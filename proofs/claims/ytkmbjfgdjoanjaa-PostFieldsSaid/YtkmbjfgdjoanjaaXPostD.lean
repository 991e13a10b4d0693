/- post: the law's 'lines' and 'same'. No conditions beyond the form's own reach. -/
import Derived.Test.YtkmbjfgdjoanjaaXPostC
import Derived.Test.YtkmbjfgdjoanjaaXOpen
import Derived.Deep.QuietTactic
import Derived.BigQuiet
namespace Go.Proofs.Ytkmbjfgdjoanjaa
open Go.RowKit Go.Lib Go.Proofs.Ytkmbjfgdjoanjaa.P Go.Proofs.YtkmbjfgdjoanjaaW.PrintWords Go.Proofs.YtkmbjfgdjoanjaaW.PrintLast Go.Proofs.YtkmbjfgdjoanjaaW.PrintMore
set_option linter.unusedVariables false
set_option linter.unusedSimpArgs false
--@tables
def LnsAt (w : World) (a : Option Addr) (xs : List Ln) : Prop := ∀ i, ∀ h : i < xs.length, ∃ g off, a = some ⟨g, off, none⟩ ∧ w.cell? ⟨g, off + i * 2, none⟩ = some (.int .i64 xs[i].1) ∧ w.cell? ⟨g, off + i * 2 + 1, none⟩ = some (.int .i64 xs[i].2)
theorem LnsAt.below {w w' : World} {a : Option Addr} {xs : List Ln} (h : LnsAt w a xs) (hb : Below w.heap.size w w') : LnsAt w' a xs := fun i hi => by
  obtain ⟨g, off, ha, h3, h4⟩ := h i hi
  exact ⟨g, off, ha, pw_cell_below hb h3, pw_cell_below hb h4⟩
theorem lns_of {w : World} {a : Option Addr} {len : Nat} (h : RowIn w [.int .i64, .int .i64] a len) : ∃ xs : List Ln, xs.length = len ∧ LnIn xs ∧ LnsAt w a xs := by
  obtain ⟨rs, h1, h2⟩ := list_of (fun i (r : Ln) => ((-9223372036854775808 ≤ r.1 ∧ r.1 < 9223372036854775808) ∧ -9223372036854775808 ≤ r.2 ∧ r.2 < 9223372036854775808) ∧ ∃ g off, a = some ⟨g, off, none⟩ ∧ w.cell? ⟨g, off + i * 2, none⟩ = some (.int .i64 r.1) ∧ w.cell? ⟨g, off + i * 2 + 1, none⟩ = some (.int .i64 r.2)) len (fun i hi => by
    obtain ⟨g, off, vs, ha, ho, hc⟩ := h i hi
    obtain ⟨v0, vs1, rfl, ⟨k, rfl, hk⟩, ho1⟩ := Kd.oks_cons ho
    obtain ⟨v1, vs2, rfl, ⟨b, rfl, hb⟩, ho2⟩ := Kd.oks_cons ho1
    obtain rfl := Kd.oks_nil ho2
    exact ⟨(k, b), ⟨wf_i64 hk, wf_i64 hb⟩, g, off, ha, hc 0 _ rfl, hc 1 _ rfl⟩)
  refine ⟨rs, h1, fun p hp => ?_, fun i hi => (h2 i hi).2⟩
  obtain ⟨i, hi, rfl⟩ := List.getElem_of_mem hp
  exact (h2 i hi).1
theorem LRow.at_ {w : World} {E B g : Nat} {v : Value} {rs : List Ln} (h : LRow w E B v rs) (hv : v.ownBlock = some g) : ∃ cs, w.heap[g]? = some (.cells cs E (0, 0)) := by
  rcases h.2 with ⟨rfl, _⟩ | ⟨g', cap, cur, rfl, _, hg, _⟩
  · cases hv
  · simp only [Value.ownBlock, Option.some.injEq] at hv
    subst hv
    exact ⟨cur, hg⟩
theorem LRow.apart {w : World} {E E' B B' : Nat} {v v' : Value} {rs rs' : List Ln} (h : LRow w E B v rs) (h' : LRow w E' B' v' rs') (hne : E ≠ E') : v.ownBlock = none ∨ v.ownBlock ≠ v'.ownBlock := by
  cases hv : v.ownBlock with
  | none => exact .inl rfl
  | some g =>
    refine .inr (fun e => ?_)
    obtain ⟨c1, h1⟩ := h.at_ hv
    obtain ⟨c2, h2⟩ := h'.at_ e.symm
    rw [h1] at h2
    simp only [Option.some.injEq, Obj.cells.injEq] at h2
    exact hne h2.2.1
theorem LRow.keeps {w w' : World} {E B b T : Nat} {v : Value} {rs : List Ln} {cs : Array Value} {fr : Nat × Nat} (h : LRow w E B v rs) (hg : w.grownBy w' v.ownBlock) (hb : w.heap[b]? = some (.cells cs T fr)) (hne : T ≠ E) : w'.heap[b]? = some (.cells cs T fr) :=
  (hg.block b (blk_lt hb) (fun e => by
    obtain ⟨c1, h1⟩ := h.at_ e.symm
    rw [hb] at h1
    simp only [Option.some.injEq, Obj.cells.injEq] at h1
    exact hne h1.2.1)).trans hb
theorem LRow.grown {w w' : World} {E B : Nat} {v : Value} {rs : List Ln} {o : Option Nat} (h : LRow w E B v rs) (hg : w.grownBy w' o) (hne : v.ownBlock = none ∨ v.ownBlock ≠ o) : LRow w' E B v rs := by
  unfold LRow at h ⊢
  exact h.kept hg hne
theorem LRow.at' {w : World} {E B : Nat} {v : Value} {xs : List Ln} (h : LRow w E B v xs) : ∃ a c, v = .slice a xs.length c ∧ (xs.length ≤ c ∧ c ≤ maxLen) ∧ LnsAt w a xs := by
  rcases h.s with ⟨rfl, rfl⟩ | ⟨g, off, cap, h1, h2, h3, h4, h5⟩
  · exact ⟨none, 0, rfl, ⟨Nat.le_refl _, Nat.zero_le _⟩, fun i hi => absurd hi (Nat.not_lt_zero _)⟩
  · refine ⟨_, cap, h1, ⟨h2, h3⟩, fun i hi => ?_⟩
    obtain ⟨g', off', cap', hv, k0, k1⟩ := ln_at h.s i hi
    rw [h1] at hv
    simp only [Value.slice.injEq] at hv
    exact ⟨g', off', hv.1, k0, k1⟩
theorem l_addN {T E : Nat} (ht : Try.prog.underlying T = some (.slice E)) (hinfo : (Try.prog.info? E).map (fun i => (i.zero, i.size, i.bytes)) = some (some (.agg #[.int .i64 0, .int .i64 0]), 2, 16)) (ty B : Nat) (v : Value) (xs : List Ln) (n : Nat) (hn : xs.length = n) (w : World) (h : LRow w E B v xs) (hl : n ≤ 1000) (x : Ln) (bN : Nat) (hN : w.heap[bN]? = some (.cells #[.int .i64 x.1, .int .i64 x.2] E (0, 0))) (hB : B ≤ w.heap.size) :
    ∃ a c w', (Builtin.append_ #[T, T] ty #[v, .slice (some ⟨bN, 0, none⟩) 1 1]).run Try.prog w = .ok (.slice a (n + 1) c) w' ∧ LRow w' E B (.slice a (n + 1) c) (xs ++ [x]) ∧ w.grownBy w' v.ownBlock := by
  subst hn
  exact l_add ht hinfo ty B v xs w h hl x bN hN hB
theorem take_snoc' (xs : List Ln) (j : Nat) (h : j < xs.length) : xs.take (j + 1) = xs.take j ++ [xs[j]] := List.take_succ_eq_append_getElem h
set_option maxHeartbeats 16000000 in
set_option maxRecDepth 100000 in
theorem lines_ok (a : Option Addr) (xs : List Ln) (cap : Nat) (hcap : xs.length ≤ cap ∧ cap ≤ maxLen) (w : World) (h : LnsAt w a xs) :
    Calls Try.prog 9 #[.slice a xs.length cap] w fun e w' => ∃ va vb, e = .returned (.tuple #[va, vb]) ∧ LRow w' 81 w.heap.size va (xs.take 20) ∧ LRow w' 82 w.heap.size vb (xs.take 20) ∧ Below w.heap.size w w' := by
  have HF := Lib.hid h; clear h
  obtain ⟨N, hN, hN1, hN2, hN3, hN4⟩ : ∃ N : Nat, (if 20 < (xs.length : Int) then 20 else (xs.length : Int)) = (N : Int) ∧ N ≤ xs.length ∧ N ≤ 20 ∧ N ≤ cap ∧ min 20 xs.length = N := ⟨min 20 xs.length, by split <;> omega, by omega, by omega, by omega, rfl⟩
  have c1 : (0 ≤ (N : Int)) = True := eq_true (by omega)
  have c2 : ((N : Int) ≤ (cap : Int)) = True := eq_true (by omega)
  have c3 : (N ≤ cap) = True := eq_true hN3
  have c4 : decide (N ≤ cap) = true := decide_eq_true hN3
  have hNm : min (xs.length : Int) 20 = (N : Int) := by rw [← hN]; split <;> omega
  have HRs := Lib.hid (show xs.take 20 = xs.take N by rw [← hN4, List.take_eq_take_min])
  have HN := Lib.hid (And.intro hN1 hN2); clear hN1 hN2 hN3 hN4 hcap
  go_enter Try.func9, Try.ntmps9
  go_wp2_with fail
  clear hN hNm c1 c2 c3 c4
  go_loopw [4, 5, 14] (fun va vb i wr => ∃ j : Nat, j ≤ N ∧ i = .int .i64 (j : Int) ∧ LRow wr 81 w.heap.size va (xs.take j) ∧ LRow wr 82 w.heap.size vb (xs.take j) ∧ Below w.heap.size w wr) (fun _ _ i _ => N - (RowKit.intOf i).toNat)
  case atStart => exact ⟨0, Nat.zero_le _, rfl, World.ownsRow_nil _ _ _ _, World.ownsRow_nil _ _ _ _, Below.refl _ _⟩
  case round =>
    obtain ⟨j, hj, rfl, h1, h2, h3⟩ := hrel
    have HA := Lib.hid h1; clear h1
    have HD := Lib.hid h2; clear h2
    have HB := Lib.hid h3; clear h3
    have hml : (xs.take j).length = j := by rw [List.length_take]; exact Nat.min_eq_left (Nat.le_trans hj HN.out.1)
    have HMl := Lib.hid hml; clear hml
    obtain ⟨aa, ca, rfl⟩ := HA.out.form
    obtain ⟨ab, cb, rfl⟩ := HD.out.form
    rw [HMl.out] at HA HD ⊢
    by_cases hlt : j < N
    · have hjf : j < xs.length := Nat.lt_of_lt_of_le hlt HN.out.1
      obtain ⟨ga, off, rfl, k0, k1⟩ := HF.out.below HB.out j hjf
      have HMap := Lib.hid (take_snoc' xs j hjf)
      generalize xs[j] = p at k0 k1 HMap
      obtain ⟨k, b⟩ := p
      simp only at k0 k1
      have e3 : wrap64 ((j : Int) + 1) = ((j + 1 : Nat) : Int) := wrap_succP j (Nat.lt_of_lt_of_le hlt (Nat.le_trans HN.out.2 (by decide)))
      have HX := Lib.hid (heap_alloc_new wr (.cells #[.int .i64 k, .int .i64 b] 52))
      have ha := below_alloc (Below.refl wr.heap.size wr) (.cells #[.int .i64 k, .int .i64 b] 52)
      replace HA := Lib.hid (HA.out.below ha)
      replace HD := Lib.hid (HD.out.below ha)
      replace HB := Lib.hid (chain2 HB.out ha)
      clear ha
      obtain ⟨x0, x1, _, _⟩ := wide_cells HX.out
      have HN2 := Lib.hid (heap_alloc_new (wr.alloc (.cells #[.int .i64 k, .int .i64 b] 52)) (.cells #[.int .i64 k, .int .i64 b] 81))
      have ha := below_alloc (Below.refl (wr.alloc (.cells #[.int .i64 k, .int .i64 b] 52)).heap.size (wr.alloc (.cells #[.int .i64 k, .int .i64 b] 52))) (.cells #[.int .i64 k, .int .i64 b] 81)
      replace HA := Lib.hid (HA.out.below ha)
      replace HD := Lib.hid (HD.out.below ha)
      replace HB := Lib.hid (chain2 HB.out ha)
      replace HX := Lib.hid (blk_below HX.out ha)
      clear ha
      rw [show (wr.alloc (.cells #[.int .i64 k, .int .i64 b] 52)).heap.size = wr.heap.size + 1 by simp] at HN2
      obtain ⟨ax, cx, w4, hr, ho2, hgr⟩ := l_addN Try.underlying30 line_info 30 w.heap.size _ _ j HMl.out _ HA.out (by have := HN.out; omega) (k, b) (wr.heap.size + 1) HN2.out HB.out.size
      have HRun := Lib.hid hr; clear hr
      have HAD := Lib.hid (LRow.apart HD.out HA.out (by decide))
      replace HD := Lib.hid (LRow.grown HD.out hgr HAD.out)
      replace HX := Lib.hid (LRow.keeps HA.out hgr HX.out (by decide))
      replace HB := Lib.hid (pw_below_grown HB.out _ HB.out.size hgr (fun k hk => (World.ownsRow.lt HA.out k hk).1))
      replace HA := Lib.hid ho2; clear ho2 hgr HN2 HAD
      obtain ⟨y0, y1, _, _⟩ := wide_cells HX.out
      have HN2 := Lib.hid (heap_alloc_new w4 (.cells #[.int .i64 k, .int .i64 b] 82))
      have ha := below_alloc (Below.refl w4.heap.size w4) (.cells #[.int .i64 k, .int .i64 b] 82)
      replace HA := Lib.hid (HA.out.below ha)
      replace HD := Lib.hid (HD.out.below ha)
      replace HB := Lib.hid (chain2 HB.out ha)
      clear ha
      obtain ⟨ay, cy, w6, hr, ho2, hgr⟩ := l_addN Try.underlying31 line22_info 31 w.heap.size _ _ j HMl.out _ HD.out (by have := HN.out; omega) (k, b) w4.heap.size HN2.out HB.out.size
      have HRun2 := Lib.hid hr; clear hr
      go_wp2_with (first | (at_builtin; refine wpList_append_run rfl _ _ 30 rfl _ _ rfl rfl HRun.out ?_) | (at_builtin; refine wpList_append_run rfl _ _ 31 rfl _ _ rfl rfl HRun2.out ?_))
      clear HRun HRun2 x0 x1 y0 y1 HX k0 k1
      have HAD := Lib.hid (LRow.apart HA.out HD.out (by decide))
      replace HA := Lib.hid (LRow.grown HA.out hgr HAD.out)
      replace HB := Lib.hid (pw_below_grown HB.out _ HB.out.size hgr (fun k hk => (World.ownsRow.lt HD.out k hk).1))
      replace HD := Lib.hid ho2; clear ho2 hgr HN2 HAD
      go_roundw
      case rel => exact ⟨j + 1, hlt, by first | rw [e3] | rfl, by rw [HMap.out]; exact HA.out, by rw [HMap.out]; exact HD.out, HB.out⟩
      case measure => (first | rw [e3] | rw [show ((j : Int) + 1) = ((j + 1 : Nat) : Int) from rfl]); simp only [RowKit.intOf, Int.toNat_natCast]; exact Nat.sub_lt_sub_left hlt (Nat.lt_succ_self j)
    · obtain rfl : j = N := Nat.le_antisymm hj (Nat.le_of_not_lt hlt)
      go_wp2
      go_ret2
      exact ⟨_, _, rfl, by rw [HRs.out]; exact HA.out, by rw [HRs.out]; exact HD.out, HB.out⟩
end Go.Proofs.Ytkmbjfgdjoanjaa
