/- post: On, Contra. No conditions beyond the form's own reach. -/
import Derived.Test.YtkmbjfgdjoanjaaXPost
namespace Go.Proofs.Ytkmbjfgdjoanjaa
open Go.RowKit Go.Lib Go.Proofs.Ytkmbjfgdjoanjaa.P Go.Proofs.YtkmbjfgdjoanjaaW.PrintWords Go.Proofs.YtkmbjfgdjoanjaaW.PrintLast Go.Proofs.YtkmbjfgdjoanjaaW.PrintMore
set_option linter.unusedVariables false
set_option linter.unusedSimpArgs false
--@tables
def LnIn (xs : List Ln) : Prop := ∀ p ∈ xs, (-9223372036854775808 ≤ p.1 ∧ p.1 < 9223372036854775808) ∧ -9223372036854775808 ≤ p.2 ∧ p.2 < 9223372036854775808
def onS (xs : List Ln) (k : Int) : Int := ((xs.filter (fun p => p.1 == k)).map (·.2)).sum
def allS (xs : List Ln) : Int := (xs.map (·.2)).sum
set_option maxHeartbeats 4000000 in
theorem on_ok (xs : List Ln) (hn : xs.length ≤ 100) (hin : LnIn xs) (k : Int) (v : Value) (w : World) (hr : RowS encL w v xs) :
    Calls Try.prog 15 #[v, .int .i64 k] w fun e w' => e = .returned (.tuple #[.int .i64 (totV (onS xs k)).1, .int .i64 (totV (onS xs k)).2]) ∧ Below w.heap.size w w' := by
  have HI := Lib.hid hin; clear hin
  have HN := Lib.hid hn; clear hn
  have hX := heap_alloc_new w (.cells #[.int .i64 k] 3)
  have ha := below_alloc (Below.refl w.heap.size w) (.cells #[.int .i64 k] 3)
  have HR := Lib.hid (hr.below ha); clear hr
  have HC := Lib.hid (show (w.alloc (.cells #[.int .i64 k] 3)).cell? ⟨w.heap.size, 0, none⟩ = some (.int .i64 k) by unfold World.cell?; rw [hX]; rfl)
  have HB := Lib.hid ha; clear ha hX
  go_enter Try.func15, Try.ntmps15
  go_wp2_with fail
  generalize w.alloc (.cells #[.int .i64 k] 3) = w1 at HR HC HB ⊢
  generalize w.heap.size = b at HC ⊢
  refine (amt_on k b xs HN.out v w1 HR.out HC.out).mono ?_
  rintro e w2 ⟨u, rfl, hu, hd⟩
  have HU := Lib.hid hu; clear hu
  replace HB := Lib.hid (chain2 HB.out hd); clear hd
  have HT := Lib.hid (total_ok ((xs.filter (fun p => p.1 == k)).map (·.2)) (by rw [List.length_map]; exact Nat.le_trans (List.length_filter_le _ _) (Nat.le_trans HN.out (by decide))) (fun x hx => by
    obtain ⟨p, hp, rfl⟩ := List.mem_map.mp hx
    exact (HI.out p (List.mem_filter.mp hp).1).2) u w2 HU.out)
  go_wp2_with fail
  refine HT.out.mono ?_
  rintro e w3 ⟨rfl, hd⟩
  replace HB := Lib.hid (chain2 HB.out hd); clear hd
  go_wp2
  go_ret2
  exact ⟨rfl, HB.out⟩
end Go.Proofs.Ytkmbjfgdjoanjaa
