/- BeBack: a number that has room in a width is got again of its bytes; a text of up to eight bytes is put again of its number: the walk. No conditions beyond the form's own reach. -/
import Derived.Test.YtogaopfkmmnkiaaXBeWakes
import Derived.Lib.Hide
import Derived.Test.YtogaopfkmmnkiaaPx8
namespace Go.Proofs.Ytogaopfkmmnkiaa
open Go.RowKit Go.Proofs.Ytogaopfkmmnkiaa.P Go.Proofs.Ytogaopfkmmnkiaa.BeS Go.Proofs.YtogaopfkmmnkiaaW.PrintWords Go.Proofs.YtogaopfkmmnkiaaW.PrintLast Go.Proofs.YtogaopfkmmnkiaaW.PrintMore
set_option linter.unusedVariables false
set_option linter.unusedSimpArgs false

theorem chain {w a b : World} (h : Below w.heap.size w a) (k : Below a.heap.size a b) : Below w.heap.size w b := below_then h h.size k

set_option maxHeartbeats 1000000 in
set_option maxRecDepth 100000 in
theorem beBack_walk (n : Nat) (hn : n < 18446744073709551616) (c : Nat) (hc : c < 256) (s : ByteArray) (hs : s.size ≤ 140737488351232) (w : World) :
    Calls Try.prog 5 #[.int .u64 (n : Int), .int .u8 (c : Int), .string s] w fun e w' => e = .returned (.bool true) ∧ Below w.heap.size w w' := by
  obtain ⟨kk, hkk, hk1, hk8⟩ : ∃ kk : Nat, (1 + (c : Int) % 8) = (kk : Int) ∧ 1 ≤ kk ∧ kk ≤ 8 := ⟨1 + c % 8, by omega, by omega, by omega⟩
  have Hkk := Lib.hid hkk; clear hkk
  obtain ⟨b, hput, hsz, g, hget, hfit⟩ : ∃ b, be_Put.f (n : Int) (kk : Int) = some b ∧ b.size = kk ∧ ∃ g : Nat, be_Get.f 100 b = some (g : Int) ∧ ((g : Int) == (n : Int)) = fits n kk := by
    refine ⟨_, put_in n hn kk hk1 hk8, by rw [str_size, putL_length], _, get_str _ (by rw [putL_length]; omega) 100 (by decide), ?_⟩
    rw [getN_putL]
    unfold fits
    rw [Bool.eq_iff_iff]
    simp only [beq_iff_eq, decide_eq_true_eq, Int.toNat_natCast]
    constructor
    · intro h
      have h2 := Nat.mod_lt n (Nat.pow_pos (n := kk) (show 0 < 256 by decide))
      have h3 : n % 256 ^ kk = n := by omega
      exact ⟨by omega, by omega, by omega⟩
    · rintro ⟨_, _, h⟩
      rw [Nat.mod_eq_of_lt h]
  have Hput := Lib.hid hput; clear hput
  have Hget := Lib.hid hget; clear hget
  have Hfit := Lib.hid hfit; clear hfit
  have Hn := Lib.hid hn; clear hn
  have Hs := Lib.hid hs; clear hs
  obtain ⟨ji, hji⟩ : ∃ ji : Int, (if 8 < (s.size : Int) then 8 else (s.size : Int)) = ji := ⟨_, rfl⟩
  have c0 : 0 ≤ ji ∧ ji ≤ s.size ∧ ji ≤ 8 := by rw [← hji]; split <;> omega
  have c6b0 : (0 ≤ ji) = True := eq_true c0.1
  have c6b1 : decide (0 ≤ ji) = true := decide_eq_true c0.1
  have c7b0 : (ji ≤ (s.size : Int)) = True := eq_true c0.2.1
  have c7b1 : decide (ji ≤ (s.size : Int)) = true := decide_eq_true c0.2.1
  have Hc0 := Lib.hid c0; clear c0
  go_enter Try.func5, Try.ntmps5
  go_wp2_with fail
  rw [Hkk.out]
  refine (be_Put.calls _ _ _ _ Hput.out).mono ?_
  rintro e w1 ⟨rfl, hb1⟩
  go_wp2_with fail
  have hts : (s.extract 0 ji.toNat).size ≤ 8 := by rw [ByteArray.size_extract]; have := Hc0.out; omega
  generalize s.extract 0 ji.toNat = t at hts ⊢
  clear hji c6b0 c6b1 c7b0 c7b1 Hc0 Hs
  obtain ⟨g2, hg2, hp2⟩ : ∃ g2 : Nat, be_Get.f 100 t = some (g2 : Int) ∧ be_Put.f (g2 : Int) (t.size : Int) = some t := by
    have hl : t.data.toList.length = t.size := Array.length_toList
    have e := get_str t.data.toList (by omega) 100 (by decide)
    rw [← of_data] at e
    refine ⟨_, e, ?_⟩
    have h1 := getN_lt t.data.toList
    have h2 : 256 ^ t.data.toList.length ≤ 256 ^ 8 := Nat.pow_le_pow_right (by decide) (by omega)
    have h3 : (256 : Nat) ^ 8 = 18446744073709551616 := by decide
    have h4 := putL_getN t.data.toList
    rw [hl] at h4
    rw [put_f _ (by omega)]
    by_cases h0 : t.size = 0
    · rw [if_neg (by omega)]
      conv => rhs; rw [of_data t]
      rw [List.eq_nil_of_length_eq_zero (show t.data.toList.length = 0 by omega)]
    · rw [if_pos ⟨by omega, by omega⟩, Int.toNat_natCast, h4, ← of_data]
  have Hg2 := Lib.hid hg2; clear hg2
  have Hp2 := Lib.hid hp2; clear hp2
  have hf := fits_f n Hn.out (kk : Int) (by omega) (by omega)
  have Hf := Lib.hid hf; clear hf
  have q1 : ((b.size : Int) == (kk : Int)) = true := by rw [hsz]; simp
  have Hsz := Lib.hid hsz; clear hsz
  have q2 : ((((g : Int) == (n : Int)) == fits n (kk : Int))) = true := by rw [Hfit.out]; simp
  refine (tillrolllaw01_wakes.calls 100 true _ (wakes_f 100 (by decide))).mono ?_
  rintro e w2 ⟨rfl, hb2⟩
  go_wp2_with fail
  refine (be_Get.calls _ _ _ _ Hget.out).mono ?_
  rintro e w3 ⟨rfl, hb3⟩
  have hb3 := hb3.below
  go_wp2_with fail
  refine (be_Fits.calls _ _ _ _ Hf.out).mono ?_
  rintro e w4 ⟨rfl, hb4⟩
  have hb4 := hb4.below
  go_wp2_with fail
  refine (be_Get.calls _ _ _ _ Hg2.out).mono ?_
  rintro e w5 ⟨rfl, hb5⟩
  have hb5 := hb5.below
  go_wp2_with fail
  refine (be_Put.calls _ _ _ _ Hp2.out).mono ?_
  rintro e w6 ⟨rfl, hb6⟩
  go_wp2
  go_ret
  exact ⟨by simp, chain (chain (chain (chain (chain hb1 hb2) hb3) hb4) hb5) hb6⟩

theorem beBack_law (a0 a1 : Int) (a2 : ByteArray) (W : World) (w0 : (Lit.int .u64 a0).wf = true) (w1 : (Lit.int .u8 a1).wf = true) (w2 : a2.size ≤ 140737488351232) :
    Calls Try.prog 5 #[.int .u64 a0, .int .u8 a1, .string a2] W fun e w' => e = .returned (.bool true) ∧ Below W.heap.size W w' := by
  have b0 : 0 ≤ a0 ∧ a0 < 18446744073709551616 := by simp [Lit.wf, IntKind.min, IntKind.max, IntKind.signed, IntKind.bits] at w0; omega
  have b1 : 0 ≤ a1 ∧ a1 < 256 := by simp [Lit.wf, IntKind.min, IntKind.max, IntKind.signed, IntKind.bits] at w1; omega
  obtain ⟨n, rfl⟩ := Int.eq_ofNat_of_zero_le b0.1
  obtain ⟨c, rfl⟩ := Int.eq_ofNat_of_zero_le b1.1
  exact beBack_walk n (by omega) c (by omega) a2 w2 W
end Go.Proofs.Ytogaopfkmmnkiaa
