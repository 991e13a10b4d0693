/- cents: sums of amounts. No conditions beyond the form's own reach. -/
import Derived.Test.YtkmbjfgdjoanjaaWMore
import Derived.Test.YtkmbjfgdjoanjaaProg
import Derived.Lib.Hide
import Derived.Laws.Externs
import Derived.WalkKit
import Derived.Test.YtkmbjfgdjoanjaaPx7
namespace Go.Proofs.Ytkmbjfgdjoanjaa
open Go.RowKit Go.Lib Go.Proofs.Ytkmbjfgdjoanjaa.P Go.Proofs.YtkmbjfgdjoanjaaW.PrintWords Go.Proofs.YtkmbjfgdjoanjaaW.PrintLast Go.Proofs.YtkmbjfgdjoanjaaW.PrintMore
set_option linter.unusedVariables false
set_option linter.unusedSimpArgs false
--@tables
def hiS (S : Int) : Int := S / 18446744073709551616
def loS (S : Int) : Int := S % 18446744073709551616
theorem add64_run (x y : Int) (hx : 0 ≤ x) (hy : 0 ≤ y) (w : World) : (callFunc 56 #[.int .u64 x, .int .u64 y, .int .u64 0]).run Try.prog w = .ok (.value (.tuple #[.int .u64 ((x + y + 0) % 18446744073709551616), .int .u64 ((x + y + 0) / 18446744073709551616)])) w := by
  rw [run_callFunc_extern Try.func56 (by kernel_rfl) (by kernel_rfl) (by kernel_rfl) (e := add64Entry) (by kernel_rfl), run_add64 x y 0 hx hy (by decide) (by decide)]
  rfl
theorem wd_size : (Try.prog.info? 109).map (·.size) = some 2 := by kernel_rfl
set_option maxHeartbeats 4000000 in
theorem wide_add (S c : Int) (h0 : -1000000000000000000000000000000 ≤ S) (h1 : S ≤ 1000000000000000000000000000000) (hc0 : -9223372036854775808 ≤ c) (hc1 : c < 9223372036854775808) (w : World) :
    Calls Try.prog 44 #[.agg #[.int .i64 (hiS S), .int .u64 (loS S)], .int .i64 c] w fun e w' => e = .returned (.agg #[.int .i64 (hiS (S + c)), .int .u64 (loS (S + c))]) ∧ Below w.heap.size w w' := by
  obtain ⟨lo, hlo, hl0, hl1⟩ : ∃ lo, loS S = lo ∧ 0 ≤ lo ∧ lo < 18446744073709551616 := ⟨_, rfl, by unfold loS; omega, by unfold loS; omega⟩
  obtain ⟨hi, hhi, hh0, hh1⟩ : ∃ hi, hiS S = hi ∧ -100000000000 ≤ hi ∧ hi ≤ 100000000000 := ⟨_, rfl, by unfold hiS; omega, by unfold hiS; omega⟩
  obtain ⟨cu, hcu, hcu0⟩ : ∃ cu, IntKind.u64.wrap c = cu ∧ cu = c % 18446744073709551616 := ⟨_, rfl, by simp [IntKind.wrap, IntKind.bits, IntKind.signed]⟩
  have hcu1 : 0 ≤ cu := by omega
  have hrun := fun w => add64_run lo cu hl0 hcu1 w
  obtain ⟨sm, hsm⟩ : ∃ sm, (lo + cu + 0) % 18446744073709551616 = sm := ⟨_, rfl⟩
  obtain ⟨cy, hcy⟩ : ∃ cy, (lo + cu + 0) / 18446744073709551616 = cy := ⟨_, rfl⟩
  rw [hsm, hcy] at hrun
  obtain ⟨sg, hsg⟩ : ∃ sg, c / 9223372036854775808 = sg := ⟨_, rfl⟩
  have e1 : wrap64 (hi + sg) = hi + sg := by unfold wrap64; omega
  have e2 : wrap64 cy = cy := by unfold wrap64; omega
  have e3 : wrap64 (hi + sg + cy) = hi + sg + cy := by unfold wrap64; omega
  have HR := Lib.hid (show hi + sg + cy = hiS (S + c) ∧ sm = loS (S + c) by unfold hiS loS at *; omega)
  have HRun := Lib.hid hrun; clear hrun
  rw [hlo, hhi]
  clear hlo hhi hcu0 hsm hcy hl0 hl1 hh0 hh1 hcu1 h0 h1 hc0 hc1
  go_enter Try.func44, Try.ntmps44
  go_wp2
  rw [HRun.out]
  try simp only [Result.andThen]
  rw [Oper.upon_value]
  go_wp2
  have hx := heap_alloc_new (w.alloc (.cells #[.int .i64 hi, .int .u64 lo] 109)) (.cells #[.int .i64 (hi + sg + cy), .int .u64 sm] 109)
  rw [show (w.alloc (.cells #[.int .i64 hi, .int .u64 lo] 109)).heap.size = w.heap.size + 1 by simp] at hx
  refine bodyPost_ret (results_single rfl (.cell (w.heap.size + 1) 109 _ (0, 0) _ rfl hx Try.underlying109 rfl wd_size .nil)) rfl ?_
  exact ⟨by rw [← HR.out.1, ← HR.out.2], below_alloc (below_alloc (Below.refl _ _) _) _⟩
theorem cents_f (S : Int) : cents_wide_cents.f (hiS S) (loS S) = some (if -9223372036854775808 ≤ S ∧ S < 9223372036854775808 then (S, 0) else (0, 6)) := by
  unfold cents_wide_cents.f hiS loS
  have hw : wrap64 (S % 18446744073709551616) = if S % 18446744073709551616 < 9223372036854775808 then S % 18446744073709551616 else S % 18446744073709551616 - 18446744073709551616 := by unfold wrap64; split <;> omega
  rw [hw]
  by_cases h : -9223372036854775808 ≤ S ∧ S < 9223372036854775808
  · rw [if_pos h]
    by_cases h2 : S % 18446744073709551616 < 9223372036854775808
    · rw [if_pos h2, if_pos (by omega)]
      have : S % 18446744073709551616 = S := by omega
      rw [this]
    · rw [if_neg h2, if_pos (by omega)]
      have : S % 18446744073709551616 - 18446744073709551616 = S := by omega
      rw [this]
  · rw [if_neg h]
    by_cases h2 : S % 18446744073709551616 < 9223372036854775808
    · rw [if_pos h2, if_neg (by omega)]
    · rw [if_neg h2, if_neg (by omega)]
/-- Amounts in a row. -/
def CRow (w : World) (v : Value) (xs : List Int) : Prop := (v = .slice none 0 0 ∧ xs = []) ∨ ∃ g off cap, v = .slice (some ⟨g, off, none⟩) xs.length cap ∧ ∀ j, ∀ h : j < xs.length, w.cell? ⟨g, off + j, none⟩ = some (.int .i64 xs[j])
theorem CRow.below {w w' : World} {v : Value} {xs : List Int} (h : CRow w v xs) (hb : Below w.heap.size w w') : CRow w' v xs := by
  rcases h with h | ⟨g, off, cap, h1, h2⟩
  · exact .inl h
  · exact .inr ⟨g, off, cap, h1, fun j hj => pw_cell_below hb (h2 j hj)⟩
def totV (S : Int) : Int × Int := if -9223372036854775808 ≤ S ∧ S < 9223372036854775808 then (S, 0) else (0, 6)
theorem chain2 {w a b : World} (h : Below w.heap.size w a) (k : Below a.heap.size a b) : Below w.heap.size w b := below_then h h.size k
theorem sum_bound (xs : List Int) (h : ∀ x ∈ xs, -9223372036854775808 ≤ x ∧ x < 9223372036854775808) : -(xs.length * 9223372036854775808 : Int) ≤ xs.sum ∧ xs.sum ≤ xs.length * 9223372036854775808 := by
  induction xs with
  | nil => simp
  | cons x xs ih =>
    have h1 := h x (List.mem_cons_self ..)
    have h2 := ih (fun y hy => h y (List.mem_cons_of_mem _ hy))
    rw [List.sum_cons, List.length_cons]
    omega
theorem wide_cells {w : World} {b : Nat} {u v : Value} {T : Nat} (h : w.heap[b]? = some (.cells #[u, v] T (0, 0))) : w.cell? ⟨b, 0, none⟩ = some u ∧ w.cell? ⟨b, 1, none⟩ = some v ∧ w.frozen? ⟨b, 0, none⟩ = false ∧ w.frozen? ⟨b, 1, none⟩ = false := by
  refine ⟨?_, ?_, ?_, ?_⟩
  · unfold World.cell?; rw [h]; rfl
  · unfold World.cell?; rw [h]; rfl
  · unfold World.frozen?; rw [h]; simp
  · unfold World.frozen?; rw [h]; simp
theorem wide_set {w : World} {b : Nat} {u0 u1 : Value} {T : TypeId} (h : w.heap[b]? = some (.cells #[u0, u1] T (0, 0))) (v0 v1 : Value) : ((w.setCell ⟨b, 0, none⟩ v0).setCell ⟨b, 1, none⟩ v1).heap[b]? = some (.cells #[v0, v1] T (0, 0)) :=
  heap_setCell_same _ b 1 _ _ v1 (heap_setCell_same w b 0 _ _ v0 h)
set_option maxHeartbeats 8000000 in
theorem total_ok (xs : List Int) (hl : xs.length ≤ 1000) (hx : ∀ x ∈ xs, -9223372036854775808 ≤ x ∧ x < 9223372036854775808) (v : Value) (w : World) (hr : CRow w v xs) :
    Calls Try.prog 29 #[v] w fun e w' => e = .returned (.tuple #[.int .i64 (totV xs.sum).1, .int .i64 (totV xs.sum).2]) ∧ Below w.heap.size w w' := by
  obtain ⟨va, vc, rfl⟩ : ∃ a c, v = .slice a xs.length c := by
    rcases hr with ⟨rfl, rfl⟩ | ⟨g, off, cap, rfl, _⟩
    · exact ⟨none, 0, rfl⟩
    · exact ⟨_, _, rfl⟩
  have HR := Lib.hid hr; clear hr
  have HL := Lib.hid hl; clear hl
  have HX := Lib.hid hx; clear hx
  have HW := Lib.hid (heap_alloc_new w (.cells #[.int .i64 0, .int .u64 0] 109))
  have HB := Lib.hid (below_alloc (Below.refl w.heap.size w) (.cells #[.int .i64 0, .int .u64 0] 109))
  go_enter Try.func29, Try.ntmps29
  go_wp2_with fail
  generalize w.alloc (.cells #[.int .i64 0, .int .u64 0] 109) = w1 at HW HB ⊢
  obtain ⟨b, hb⟩ : ∃ b, w.heap.size = b := ⟨_, rfl⟩
  rw [hb] at HW ⊢
  have HBs := Lib.hid hb; clear hb
  go_loopw [9] (fun i wr => ∃ j : Nat, j ≤ xs.length ∧ i = .int .i64 (j : Int) ∧ wr.heap[b]? = some (.cells #[.int .i64 (hiS (xs.take j).sum), .int .u64 (loS (xs.take j).sum)] 109 (0, 0)) ∧ Below w.heap.size w wr) (fun i _ => xs.length - (RowKit.intOf i).toNat)
  case atStart => exact ⟨0, Nat.zero_le _, rfl, HW.out, HB.out⟩
  case round =>
    clear HW HB
    obtain ⟨j, hj, rfl, h1, h2⟩ := hrel
    have HW := Lib.hid h1; clear h1
    have HB := Lib.hid h2; clear h2
    obtain ⟨y0, y1, f0, f1⟩ := wide_cells HW.out
    by_cases hlt : j < xs.length
    · rcases HR.out with ⟨_, h⟩ | ⟨g, off, cap, hv, hc⟩
      · rw [h] at hlt; exact absurd hlt (Nat.not_lt_zero _)
      simp only [Value.slice.injEq, true_and] at hv
      obtain ⟨rfl, rfl⟩ := hv
      have k0 := pw_cell_below HB.out (hc j hlt)
      have hxj := HX.out xs[j] (List.getElem_mem hlt)
      have hsb := sum_bound (xs.take j) (fun x hx => HX.out x (List.mem_of_mem_take hx))
      have hlen : (xs.take j).length ≤ 1000 := Nat.le_trans (List.length_take_le' ..) HL.out
      have hs1 : (xs.take (j + 1)).sum = (xs.take j).sum + xs[j] := by
        rw [List.take_succ_eq_append_getElem hlt, List.sum_append]; simp
      have hadd := fun w => wide_add (xs.take j).sum xs[j] (by omega) (by omega) hxj.1 hxj.2 w
      rw [← hs1] at hadd
      have HAdd := Lib.hid hadd
      have e3 : wrap64 ((j : Int) + 1) = ((j + 1 : Nat) : Int) := by have := HL.out; clear hs1 hsb hxj hadd; unfold wrap64; omega
      clear hc hxj hsb hlen hs1 hadd
      generalize xs[j] = x at k0 HAdd
      go_wp2_with fail
      refine (HAdd.out wr).mono ?_
      rintro e w2 ⟨rfl, hd⟩
      clear y0 y1 f0 f1 k0
      replace HW := Lib.hid (blk_below HW.out hd)
      replace HB := Lib.hid (chain2 HB.out hd); clear hd
      obtain ⟨y0, y1, f0, f1⟩ := wide_cells HW.out
      have HW2 := Lib.hid (wide_set HW.out (.int .i64 (hiS (xs.take (j + 1)).sum)) (.int .u64 (loS (xs.take (j + 1)).sum)))
      have HB2 := Lib.hid ((HB.out.setCell (p := ⟨b, 0, none⟩) (Nat.le_of_eq HBs.out) (.int .i64 (hiS (xs.take (j + 1)).sum))).setCell (p := ⟨b, 1, none⟩) (Nat.le_of_eq HBs.out) (.int .u64 (loS (xs.take (j + 1)).sum)))
      go_wp2
      go_roundw
      case rel => exact ⟨j + 1, hlt, by first | rw [e3] | rfl, HW2.out, HB2.out⟩
      case measure => first | rw [e3] | rw [show ((j : Int) + 1) = ((j + 1 : Nat) : Int) from rfl]
                      simp only [RowKit.intOf, Int.toNat_natCast]; exact Nat.sub_lt_sub_left hlt (Nat.lt_succ_self j)
    · obtain rfl : j = xs.length := Nat.le_antisymm hj (Nat.le_of_not_lt hlt)
      rw [List.take_length] at y0 y1
      have HF := Lib.hid (show cents_wide_cents.f (hiS xs.sum) (loS xs.sum) = some ((totV xs.sum).1, (totV xs.sum).2) from cents_f xs.sum)
      obtain ⟨tv, htv⟩ : ∃ tv, totV xs.sum = tv := ⟨_, rfl⟩
      rw [htv] at HF
      have HV := Lib.hid htv; clear htv
      generalize hiS xs.sum = a at y0 HF
      generalize loS xs.sum = c at y1 HF
      go_wp2_with fail
      refine (cents_wide_cents.calls _ _ _ _ _ HF.out).mono ?_
      rintro e w3 ⟨rfl, hd⟩
      replace HB := Lib.hid (chain2 HB.out hd); clear hd y0 y1 f0 f1
      go_wp2
      go_ret2
      exact ⟨by rw [HV.out]; rfl, HB.out⟩
end Go.Proofs.Ytkmbjfgdjoanjaa
