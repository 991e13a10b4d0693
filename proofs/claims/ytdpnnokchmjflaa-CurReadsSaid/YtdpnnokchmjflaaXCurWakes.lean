/- The signs of life of layer 4's laws. No conditions. -/
import Derived.Test.YtdpnnokchmjflaaXCurR
namespace Go.Proofs.Ytdpnnokchmjflaa
open Go.RowKit Go.Lib Go.Proofs.Ytdpnnokchmjflaa.P Go.Proofs.Ytdpnnokchmjflaa.BeS Go.Proofs.YtdpnnokchmjflaaW.PrintWords Go.Proofs.YtdpnnokchmjflaaW.PrintLast Go.Proofs.YtdpnnokchmjflaaW.PrintMore
set_option linter.unusedVariables false
set_option linter.unusedSimpArgs false
--@tables
theorem wr_new (w : World) : WrAt (w.alloc (.cells #[.slice none 0 0, .bool false] 37)) w.heap.size w.heap.size [] false :=
  ⟨Nat.le_refl _, .slice none 0 0, Box2.new w _ _ _, World.ownsRow_nil _ _ _ _, by simp [Value.ownBlock]⟩
theorem below_box {w w' : World} {g : Nat} {B : Nat} {w0 : World} (hb : Below B w0 w) (hB : B ≤ g) (hg : w.grownBy w' (some g)) (hs : B ≤ w.heap.size) : Below B w0 w' :=
  pw_below_grown hb _ hs hg (fun i hi => by cases hi; exact hB)

set_option maxHeartbeats 4000000 in
theorem wakes_ok (w : World) : Calls Try.prog 11 #[] w fun e w' => e = .returned (.bool true) ∧ Below w.heap.size w w' := by
  have HA := Lib.hid (wr_new w)
  have HB := Lib.hid (below_alloc (Below.refl w.heap.size w) (.cells #[.slice none 0 0, .bool false] 37))
  go_enter Try.func11, Try.ntmps11
  go_wp2_with fail
  generalize w.alloc (.cells #[.slice none 0 0, .bool false] 37) = w1 at HA HB ⊢
  refine (wr_number w.heap.size (some w.heap.size) [] false 258 2 w1 HA.out.o (by decide) (by decide) (by decide) (by decide)).mono ?_
  rintro e w2 ⟨rfl, hw, hd⟩
  rw [show ([] : List UInt8) ++ putB 258 2 = [1, 2] from rfl, show (false || !fits 258 2) = false from by decide] at hw
  have HW := Lib.hid hw; clear hw
  replace HB := Lib.hid (HB.out.trans hd); clear hd
  go_wp2_with fail
  refine (wr_text w.heap.size (some w.heap.size) _ false { data := #[97, 98] } w2 HW.out (by decide) (by decide)).mono ?_
  rintro e w3 ⟨rfl, hw, hd⟩
  replace hw : WrO w3 w.heap.size (some w.heap.size) [1, 2, 2, 97, 98] false := hw
  replace HW := Lib.hid hw; clear hw
  replace HB := Lib.hid (HB.out.trans hd); clear hd
  go_wp2_with fail
  refine (wr_bytes w.heap.size w.heap.size _ false w3 (HW.out.2 _ rfl)).mono ?_
  rintro e w4 ⟨rfl, hd⟩
  replace HB := Lib.hid (HB.out.trans (hd.mono HB.out.size)); clear hd
  rw [show (if false = true then ({ data := #[] } : ByteArray) else str [1, 2, 2, 97, 98]) = { data := #[1, 2, 2, 97, 98] } from rfl, show (if false = true then (2 : Int) else 0) = 0 from rfl]
  clear HA HW
  go_wp2_with fail
  have HS := Lib.hid HB.out.size
  refine (rd_new { data := #[1, 2, 2, 97, 98] } (by decide) w4).mono ?_
  rintro e w5 ⟨rfl, hr, hs, hd⟩
  replace hr : RdO w5 (some w4.heap.size) ([1, 2, 2, 97, 98], false) := hr
  have HR := Lib.hid hr; clear hr
  replace HB := Lib.hid (HB.out.trans (hd.mono HB.out.size)); clear hd hs
  generalize w4.heap.size = g at HR HS ⊢
  go_wp2_with fail
  refine (rd_number (some g) _ 2 w5 HR.out (by decide) (by decide)).mono ?_
  rintro e w6 ⟨rfl, hr, hg⟩
  rw [show tkR ([1, 2, 2, 97, 98], false) (numW 2) = ([2, 97, 98], false) from rfl] at hr
  rw [show rdN ([1, 2, 2, 97, 98], false) 2 = 258 from rfl]
  replace HR := Lib.hid hr; clear hr
  replace HB := Lib.hid (below_box HB.out HS.out hg HB.out.size); clear hg
  go_wp2_with fail
  refine (rd_text (some g) _ w6 HR.out).mono ?_
  rintro e w7 ⟨rfl, hr, hg⟩
  rw [show rdTR ([2, 97, 98], false) = ([], false) from rfl] at hr
  rw [show str (rdT ([2, 97, 98], false)) = { data := #[97, 98] } from rfl]
  replace HR := Lib.hid hr; clear hr
  replace HB := Lib.hid (below_box HB.out HS.out hg HB.out.size); clear hg
  go_wp2_with fail
  refine (rd_end (some g) _ w7 HR.out).mono ?_
  rintro e w8 ⟨rfl, hd⟩
  rw [show rdE (some g) ([], false) = 0 from rfl]
  replace HB := Lib.hid (HB.out.trans (hd.mono HB.out.size)); clear hd
  go_wp2
  go_ret
  exact ⟨rfl, HB.out⟩
end Go.Proofs.Ytdpnnokchmjflaa
