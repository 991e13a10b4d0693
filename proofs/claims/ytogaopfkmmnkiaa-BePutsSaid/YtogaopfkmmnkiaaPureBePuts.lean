/- BePuts: the bytes of every number in every width, and the number of every text, are the document's. No conditions beyond the form's own reach. -/
import Derived.Test.YtogaopfkmmnkiaaXBeWakes
import Derived.Test.YtogaopfkmmnkiaaXBeRef
import Derived.Test.YtogaopfkmmnkiaaPx10
namespace Go.Proofs.Ytogaopfkmmnkiaa.Pure
open Go.RowKit Go.Proofs.Ytogaopfkmmnkiaa.P Go.Proofs.Ytogaopfkmmnkiaa.BeS Go.Proofs.YtogaopfkmmnkiaaW.PrintWords Go.Proofs.YtogaopfkmmnkiaaW.PrintLast Go.Proofs.YtogaopfkmmnkiaaW.PrintMore

theorem gets_same (s : ByteArray) (hs : s.size ≤ 40) (k : Nat) (hk : 40 < k) : ((be_Get.f k s).bind fun t117 => ((tillrollref01_Get.f k s).bind fun t118 => (some (t117 == t118)))) = some true := by
  rw [get_f s (by omega) k (by omega), ref_get_f s (by omega) k (by omega)]
  simp only [Option.bind_some]
  simp

theorem puts_l0 (n : Nat) (hn : n < 18446744073709551616) (a1 : Int) (s : ByteArray) (hs : s.size ≤ 40) (d : Nat) : ∀ (k i : Nat), i + d = 10 → d + 80 < k →
    tillrolllaw01_BePuts.l0 k (n : Int) a1 s (i : Int) = some true := by
  induction d with
  | zero =>
    intro k i h hk
    obtain ⟨k, rfl⟩ : ∃ m, k = m + 1 := ⟨k - 1, by omega⟩
    simp only [tillrolllaw01_BePuts.l0]
    rw [if_neg (by omega), wakes_f k (by omega), Option.bind_some, if_pos rfl, put_f n hn, Option.bind_some, ref_put_f n hn _ k (by omega), Option.bind_some, if_pos rfl]
    exact gets_same s hs k (by omega)
  | succ d ih =>
    intro k i h hk
    obtain ⟨k, rfl⟩ : ∃ m, k = m + 1 := ⟨k - 1, by omega⟩
    simp only [tillrolllaw01_BePuts.l0]
    rw [if_pos (by omega), put_f n hn, Option.bind_some, ref_put_f n hn _ k (by omega), Option.bind_some, if_pos rfl, wrap64_in _ (by omega) (by omega)]
    have e := ih k (i + 1) (by omega) (by omega)
    rw [Int.natCast_add] at e
    exact e

theorem BePuts : tillrolllaw01_BePuts.Pure := by
  intro a0 a1 a2 h0 h1 h2
  have b0 : 0 ≤ a0 ∧ a0 < 18446744073709551616 := by simp [Lit.wf, IntKind.min, IntKind.max, IntKind.signed, IntKind.bits] at h0; omega
  obtain ⟨n, rfl⟩ := Int.eq_ofNat_of_zero_le b0.1
  refine ⟨200, ?_⟩
  unfold tillrolllaw01_BePuts.f
  have hm : mn (a2.size : Int) 40 = ((min a2.size 40 : Nat) : Int) := by unfold mn; split <;> omega
  rw [hm, if_pos (by omega), if_pos (by omega)]
  refine puts_l0 n (by omega) a1 _ ?_ 10 200 0 (by omega) (by omega)
  rw [ByteArray.size_extract]
  omega
end Go.Proofs.Ytogaopfkmmnkiaa.Pure
