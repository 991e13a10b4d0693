/- The document's sum of amounts. No conditions beyond the form's own reach. -/
import Derived.Test.YtkmbjfgdjoanjaaProg
import Derived.Test.YtkmbjfgdjoanjaaWWords
import Derived.Test.YtkmbjfgdjoanjaaWLast
import Derived.WalkKit
import Derived.Lib.Hide
import Derived.Deep.QuietTactic
import Derived.BigQuiet
namespace Go.Proofs.Ytkmbjfgdjoanjaa.P
open Go.RowKit Go.Proofs.YtkmbjfgdjoanjaaW.PrintWords Go.Proofs.YtkmbjfgdjoanjaaW.PrintLast
set_option linter.unusedVariables false
set_option linter.unusedSimpArgs false
--@tables
def totR (S : Int) : Int × Int := if -9223372036854775808 ≤ S ∧ S < 9223372036854775808 then (S, 0) else (0, 6)
theorem td_spec (x : Int) : ∃ q r, x.tdiv 1000000000 = q ∧ x.tmod 1000000000 = r ∧ x = 1000000000 * q + r ∧ (0 ≤ x → 0 ≤ r ∧ r < 1000000000 ∧ 0 ≤ q) ∧ (x ≤ 0 → -1000000000 < r ∧ r ≤ 0 ∧ q ≤ 0) := by
  refine ⟨_, _, rfl, rfl, ?_, ?_, ?_⟩
  · have := Int.mul_tdiv_add_tmod x 1000000000; omega
  · intro h
    rw [Int.tmod_eq_emod_of_nonneg h, Int.tdiv_eq_ediv_of_nonneg h]
    omega
  · intro h
    obtain ⟨n, rfl⟩ : ∃ n : Int, x = -n := ⟨-x, by omega⟩
    have hn : 0 ≤ n := by omega
    rw [Int.neg_tmod, Int.neg_tdiv, Int.tmod_eq_emod_of_nonneg hn, Int.tdiv_eq_ediv_of_nonneg hn]
    omega
theorem w64_r (x : Int) (h0 : -9223372036854775808 ≤ x) (h1 : x < 9223372036854775808) : wrap64 x = x := by unfold wrap64; omega
theorem ret2_int {a b c d : Int} (h : a = b) (h' : c = d) : Ending.returned (.tuple #[.int .i64 a, .int .i64 c]) = .returned (.tuple #[.int .i64 b, .int .i64 d]) := by rw [h, h']
theorem cells2 {w : World} {b : Nat} {u v : Value} {T : Nat} (h : w.heap[b]? = some (.cells #[u, v] T (0, 0))) : w.cell? ⟨b, 0, none⟩ = some u ∧ w.cell? ⟨b, 1, none⟩ = some v ∧ w.frozen? ⟨b, 0, none⟩ = false ∧ w.frozen? ⟨b, 1, none⟩ = false := by
  unfold World.cell? World.frozen?
  rw [h]
  refine ⟨rfl, rfl, ?_, ?_⟩ <;> simp
theorem set2 {w : World} {b : Nat} {u0 u1 : Value} {T : TypeId} (h : w.heap[b]? = some (.cells #[u0, u1] T (0, 0))) (v0 v1 : Value) : ((w.setCell ⟨b, 0, none⟩ v0).setCell ⟨b, 1, none⟩ v1).heap[b]? = some (.cells #[v0, v1] T (0, 0)) :=
  heap_setCell_same _ b 1 _ _ v1 (heap_setCell_same _ b 0 _ _ v0 h)
theorem half_info : (Try.prog.info? 112).map (·.size) = some 2 := by kernel_rfl
theorem half_ok (a : Int) (h0 : -9223372036854775808 ≤ a) (h1 : a < 9223372036854775808) (w : World) :
    Calls Try.prog 46 #[.int .i64 a] w fun e w' => e = .returned (.agg #[.int .i64 (a.tdiv 1000000000), .int .i64 (a.tmod 1000000000)]) ∧ Below w.heap.size w w' := by
  obtain ⟨q, r, hq, hr, h2, h3, h4⟩ := td_spec a
  have hw : wrap64 (a.tdiv 1000000000) = a.tdiv 1000000000 := w64_r _ (by rw [hq]; omega) (by rw [hq]; omega)
  clear h2 h3 h4 hq hr
  go_enter Try.func46, Try.ntmps46
  go_wp2
  exact bodyPost_ret (v := .agg #[.int .i64 (a.tdiv 1000000000), .int .i64 (a.tmod 1000000000)]) (by simp [results, Try.results46, go_sem]) rfl ⟨rfl, (Below.refl _ _).alloc (Nat.le_refl _) _⟩
set_option maxHeartbeats 4000000 in
theorem back_v (A B : Int) (h0 : -100000000000000 ≤ A) (h1 : A ≤ 100000000000000) (h2 : -100000000000000 ≤ B) (h3 : B ≤ 100000000000000) (w : World) :
    Calls Try.prog 47 #[.agg #[.int .i64 A, .int .i64 B]] w fun e w' => e = .returned (.tuple #[.int .i64 (totR (A * 1000000000 + B)).1, .int .i64 (totR (A * 1000000000 + B)).2]) ∧ Below w.heap.size w w' := by
  obtain ⟨q, r, hq, hr, h4, h5, h6⟩ := td_spec B
  have b0 : -100000 ≤ q := by omega
  have b1 : q ≤ 100000 := by omega
  have b2 : -1000000000 < r := by omega
  have b3 : r < 1000000000 := by omega
  have H4 := Lib.hid h4; clear h4
  have H5 := Lib.hid (And.intro h5 h6); clear h5 h6
  obtain ⟨T, hT⟩ : ∃ T, T = totR (A * 1000000000 + B) := ⟨_, rfl⟩
  rw [← hT]
  have HT := Lib.hid hT; clear hT
  obtain ⟨t0, t1⟩ := T
  go_enter Try.func47, Try.ntmps47
  go_wp2
  all_goals
    go_ret2
    refine ⟨?_, (Below.refl _ _).alloc (Nat.le_refl _) _⟩
    have h4 := H4.out
    have h5 := H5.out
    have hT := HT.out
    clear H4 H5 HT hq hr
    unfold totR at hT
    split at hT
    · obtain ⟨rfl, rfl⟩ := Prod.mk.inj hT
      first | (exfalso; omega) | exact ret2_int (by omega) rfl
    · obtain ⟨rfl, rfl⟩ := Prod.mk.inj hT
      first | (exfalso; omega) | exact ret2_int rfl rfl
/-- What 'Total' gives, where it is asked. -/
def tillrollref03_Total.f (l : List Int) : Option (Int × Int) := if l.length ≤ 1000 ∧ ∀ x ∈ l, -9223372036854775808 ≤ x ∧ x < 9223372036854775808 then some (totR l.sum) else none
def hiL (l : List Int) : Int := (l.map (fun x => x.tdiv 1000000000)).sum
def loL (l : List Int) : Int := (l.map (fun x => x.tmod 1000000000)).sum
theorem sum_app (a b : List Int) : (a ++ b).sum = a.sum + b.sum := by
  induction a with
  | nil => simp
  | cons x a ih => rw [List.cons_append, List.sum_cons, List.sum_cons, ih]; omega
theorem hiL_snoc (l : List Int) (x : Int) : hiL (l ++ [x]) = hiL l + x.tdiv 1000000000 := by unfold hiL; rw [List.map_append, sum_app]; simp
theorem loL_snoc (l : List Int) (x : Int) : loL (l ++ [x]) = loL l + x.tmod 1000000000 := by unfold loL; rw [List.map_append, sum_app]; simp
theorem hilo_bound (l : List Int) (h : ∀ x ∈ l, -9223372036854775808 ≤ x ∧ x < 9223372036854775808) : -(l.length * 10000000000 : Int) ≤ hiL l ∧ hiL l ≤ l.length * 10000000000 ∧ -(l.length * 1000000000 : Int) ≤ loL l ∧ loL l ≤ l.length * 1000000000 ∧ hiL l * 1000000000 + loL l = l.sum := by
  induction l with
  | nil => simp [hiL, loL]
  | cons x l ih =>
    obtain ⟨i1, i2, i3, i4, i5⟩ := ih (fun y hy => h y (List.mem_cons_of_mem _ hy))
    obtain ⟨x0, x1⟩ := h x List.mem_cons_self
    obtain ⟨q, r, hq, hr, e, p1, p2⟩ := td_spec x
    have e1 : hiL (x :: l) = q + hiL l := by unfold hiL; rw [List.map_cons, List.sum_cons, hq]
    have e2 : loL (x :: l) = r + loL l := by unfold loL; rw [List.map_cons, List.sum_cons, hr]
    rw [e1, e2, List.length_cons, List.sum_cons]
    omega
set_option maxHeartbeats 8000000 in
theorem tillrollref03_Total.calls (A0 : Option Addr) (c0 : Nat) (l0 : List Int) (r1 r2 : Int) (w : World) (hr0 : Kd.C (Kd.int .i64) w A0 l0.length l0) (hc0 : l0.length ≤ c0) (h : tillrollref03_Total.f l0 = some (r1, r2)) :
    Calls Try.prog 33 #[.slice A0 l0.length c0] w fun e w' => e = .returned (.tuple #[.int .i64 r1, .int .i64 r2]) ∧ Below w.heap.size w w' := by
  unfold tillrollref03_Total.f at h
  by_cases hc : l0.length ≤ 1000 ∧ ∀ x ∈ l0, -9223372036854775808 ≤ x ∧ x < 9223372036854775808
  · rw [if_pos hc] at h
    have hT := Option.some.inj h
    have HT := Lib.hid hT; clear hT h
    have HC := Lib.hid hc; clear hc
    have HR := Lib.hid hr0; clear hr0 hc0
    have HX := Lib.hid (heap_alloc_new w (.cells #[.int .i64 0, .int .i64 0] 112))
    have HBa := Lib.hid (below_alloc (Below.refl w.heap.size w) (.cells #[.int .i64 0, .int .i64 0] 112))
    go_enter Try.func33, Try.ntmps33
    go_wp2_with fail
    go_loopw [5] (fun i wr => ∃ j : Nat, j ≤ l0.length ∧ i = .int .i64 (j : Int) ∧ wr.heap[w.heap.size]? = some (.cells #[.int .i64 (hiL (l0.take j)), .int .i64 (loL (l0.take j))] 112 (0, 0)) ∧ Below w.heap.size w wr) (fun i _ => l0.length - (RowKit.intOf i).toNat)
    case atStart => exact ⟨0, Nat.zero_le _, rfl, HX.out, HBa.out⟩
    case round =>
      obtain ⟨j, hj, rfl, h1, h2⟩ := hrel
      have HX := Lib.hid h1; clear h1
      have HB := Lib.hid h2; clear h2
      by_cases hlt : j < l0.length
      · obtain ⟨ad, hA0, hx⟩ := Kd.at_int (Kd.C_below HR.out HB.out) (j : Int) (Int.natCast_nonneg j) (by exact_mod_cast hlt)
        subst hA0
        have HE := Lib.hid (show l0.take (j + 1) = l0.take j ++ [l0[j]] from List.take_succ_eq_append_getElem hlt)
        have hrd : rd l0 (j : Int) = l0[j] := by unfold rd; simp [List.getD_eq_getElem?_getD, List.getElem?_eq_getElem hlt]
        rw [hrd, Int.toNat_natCast] at hx
        clear hrd
        have hb := HC.out.2 l0[j] (List.getElem_mem hlt)
        have HBd := Lib.hid (hilo_bound (l0.take j) (fun x hx => HC.out.2 x (List.mem_of_mem_take hx)))
        have HLn := Lib.hid (show (l0.take j).length ≤ 1000 by rw [List.length_take]; exact Nat.le_trans (Nat.min_le_right _ _) HC.out.1)
        generalize l0[j] = x at hx HE hb
        have hs1 := hiL_snoc (l0.take j) x
        have hs2 := loL_snoc (l0.take j) x
        rw [← HE.out] at hs1 hs2
        have HS := Lib.hid (And.intro hs1 hs2); clear hs1 hs2
        generalize l0.take j = ys at HX HBd HLn HE HS
        have e3 : wrap64 ((j : Int) + 1) = ((j + 1 : Nat) : Int) := by have := HC.out.1; unfold wrap64; omega
        have Hb := Lib.hid hb; clear hb
        go_wp2_with fail
        refine (half_ok x Hb.out.1 Hb.out.2 _).mono ?_
        rintro e w1 ⟨rfl, hd⟩
        replace HX := Lib.hid (blk_below HX.out hd)
        replace HB := Lib.hid (below_then HB.out HB.out.size hd); clear hd hx
        obtain ⟨q, r, hq, hr, e, p1, p2⟩ := td_spec x
        rw [hq, hr]
        rw [hq, hr] at HS
        have q0 : -10000000000 ≤ q := by have := Hb.out; omega
        have q1 : q ≤ 10000000000 := by have := Hb.out; omega
        have r0 : -1000000000 ≤ r := by omega
        have r1 : r ≤ 1000000000 := by omega
        clear hq hr e p1 p2
        have s0 : -10000000000000 ≤ hiL ys := by have := HBd.out; have := HLn.out; omega
        have s1 : hiL ys ≤ 10000000000000 := by have := HBd.out; have := HLn.out; omega
        have s2 : -1000000000000 ≤ loL ys := by have := HBd.out; have := HLn.out; omega
        have s3 : loL ys ≤ 1000000000000 := by have := HBd.out; have := HLn.out; omega
        have ha := below_alloc (Below.refl w1.heap.size w1) (.cells #[.int .i64 q, .int .i64 r] 112)
        have HX2 := Lib.hid (blk_below HX.out ha); clear ha
        obtain ⟨x0, x1, f0, f1⟩ := cells2 HX2.out
        go_wp2_with fail
        go_roundw
        case rel =>
          refine ⟨j + 1, hlt, by rw [← e3], ?_, ?_⟩
          · rw [set2 HX2.out, HS.out.1, HS.out.2]
          · exact ((below_then HB.out HB.out.size (below_alloc (Below.refl w1.heap.size w1) _)).setCell (p := ⟨w.heap.size, 0, none⟩) (Nat.le_refl _) _).setCell (p := ⟨w.heap.size, 1, none⟩) (Nat.le_refl _) _
        case measure => rw [e3]; simp only [RowKit.intOf, Int.toNat_natCast]; exact Nat.sub_lt_sub_left hlt (Nat.lt_succ_self j)
      · obtain rfl : j = l0.length := Nat.le_antisymm hj (Nat.le_of_not_lt hlt)
        rw [List.take_length] at HX
        have HBd := Lib.hid (hilo_bound l0 HC.out.2)
        obtain ⟨x0, x1, f0, f1⟩ := cells2 HX.out
        go_wp2_with fail
        refine (back_v (hiL l0) (loL l0) (by have := HBd.out; have := HC.out.1; omega) (by have := HBd.out; have := HC.out.1; omega) (by have := HBd.out; have := HC.out.1; omega) (by have := HBd.out; have := HC.out.1; omega) _).mono ?_
        rintro e w1 ⟨rfl, hd⟩
        replace HB := Lib.hid (below_then HB.out HB.out.size hd); clear hd x0 x1 f0 f1
        rw [HBd.out.2.2.2.2, HT.out]
        go_wp2
        go_ret2
        exact ⟨rfl, HB.out⟩
  · rw [if_neg hc] at h
    cases h
end Go.Proofs.Ytkmbjfgdjoanjaa.P
