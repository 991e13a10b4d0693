/- The signs of life of layer 11's laws. No conditions. -/
import Derived.Test.YtgebiiekofpihaaXPoolD
namespace Go.Proofs.Ytgebiiekofpihaa
open Go.RowKit Go.Lib Go.Proofs.YtgebiiekofpihaaW.PrintWords Go.Proofs.YtgebiiekofpihaaW.PrintLast Go.Proofs.YtgebiiekofpihaaW.PrintMore
set_option linter.unusedVariables false
set_option linter.unusedSimpArgs false
--@tables
theorem below_row {w w' w0 : World} {r B : Nat} (hb : Below B w0 w) (hB : B ≤ r) (hg : w.grownBy w' (some r)) (hs : B ≤ w.heap.size) : Below B w0 w' :=
  pw_below_grown hb _ hs hg (fun i hi => by cases hi; exact hB)

set_option maxHeartbeats 4000000 in
theorem wakes_ok (w : World) : Calls Try.prog 8 #[] w fun e w' => e = .returned (.bool true) ∧ Below w.heap.size w w' := by
  go_enter Try.func8, Try.ntmps8
  go_wp2_with fail
  refine (pool_new 3 (by decide) (by decide) w).mono ?_
  rintro e w1 ⟨g, r, rfl, hg1, hr1, hp, hb⟩
  have HG := Lib.hid hr1; clear hr1 hg1
  have HP := Lib.hid hp; clear hp
  have HB := Lib.hid hb; clear hb
  go_wp2_with fail
  refine (pool_worn g r _ 0 2 w1 HP.out).mono ?_
  rintro e w2 ⟨rfl, hp, hd⟩
  rw [show wornL (List.replicate 3 (1, 0)) 0 2 = [(1, 2), (1, 0), (1, 0)] from rfl] at hp
  replace HP := Lib.hid hp; clear hp
  replace HB := Lib.hid (below_row HB.out HG.out hd HB.out.size); clear hd
  generalize wornE (List.replicate 3 (1, 0)) 0 2 = z1
  go_wp2_with fail
  refine (pool_worn g r _ 1 1 w2 HP.out).mono ?_
  rintro e w3 ⟨rfl, hp, hd⟩
  rw [show wornL [(1, 2), (1, 0), (1, 0)] 1 1 = [(1, 2), (1, 1), (1, 0)] from rfl] at hp
  replace HP := Lib.hid hp; clear hp
  replace HB := Lib.hid (below_row HB.out HG.out hd HB.out.size); clear hd
  generalize wornE [(1, 2), (1, 0), (1, 0)] 1 1 = z2
  go_wp2_with fail
  refine (pool_worn g r _ 2 1 w3 HP.out).mono ?_
  rintro e w4 ⟨rfl, hp, hd⟩
  rw [show wornL [(1, 2), (1, 1), (1, 0)] 2 1 = [(1, 2), (1, 1), (1, 1)] from rfl] at hp
  replace HP := Lib.hid hp; clear hp
  replace HB := Lib.hid (below_row HB.out HG.out hd HB.out.size); clear hd
  generalize wornE [(1, 2), (1, 1), (1, 0)] 2 1 = z3
  go_wp2_with fail
  refine (pool_take g r _ w4 HP.out).mono ?_
  rintro e w5 ⟨rfl, hp, hd⟩
  have htv : takeV cmpI [(1, 2), (1, 1), (1, 1)] = (1, 0) := by decide
  have htl : takeL cmpI [(1, 2), (1, 1), (1, 1)] = [(1, 2), (2, 1), (1, 1)] := by decide
  rw [htl] at hp
  rw [htv]
  clear htv htl
  replace HP := Lib.hid hp; clear hp
  replace HB := Lib.hid (below_row HB.out HG.out hd HB.out.size); clear hd
  go_wp2_with fail
  refine (pool_state g r _ 1 w5 HP.out).mono ?_
  rintro e w6 ⟨rfl, rfl⟩
  rw [show stB [(1, 2), (2, 1), (1, 1)] 1 = 2 from rfl]
  go_wp2_with fail
  refine (pool_count g r _ 1 w6 HP.out).mono ?_
  rintro e w7 ⟨rfl, hd⟩
  rw [show ((countB [(1, 2), (2, 1), (1, 1)] 1 : Nat) : Int) = 2 from rfl]
  replace HP := Lib.hid (HP.out.below hd)
  replace HB := Lib.hid (chainC HB.out hd); clear hd
  go_wp2_with fail
  refine (pool_wear g r _ 0 w7 HP.out).mono ?_
  rintro e w8 ⟨rfl, rfl⟩
  rw [show weB [(1, 2), (2, 1), (1, 1)] 0 = 2 from rfl]
  go_wp2
  go_ret
  exact ⟨rfl, HB.out⟩
end Go.Proofs.Ytgebiiekofpihaa
