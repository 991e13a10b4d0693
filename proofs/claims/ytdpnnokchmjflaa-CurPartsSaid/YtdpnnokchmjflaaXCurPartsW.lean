/- CurParts: a number that is read in two parts is the one that is read at once; what is read hangs on nothing that stands behind it. No conditions beyond the form's own reach. -/
import Derived.Test.YtdpnnokchmjflaaXCurWakes
namespace Go.Proofs.Ytdpnnokchmjflaa
open Go.RowKit Go.Lib Go.Proofs.Ytdpnnokchmjflaa.P Go.Proofs.Ytdpnnokchmjflaa.BeS Go.Proofs.YtdpnnokchmjflaaW.PrintWords Go.Proofs.YtdpnnokchmjflaaW.PrintLast Go.Proofs.YtdpnnokchmjflaaW.PrintMore
set_option linter.unusedVariables false
set_option linter.unusedSimpArgs false
--@tables
theorem two_parts (n k : Nat) (hn : n < 18446744073709551616) (h1 : 1 ≤ k) (h7 : k ≤ 7) : ((n / 256 ^ k % 256 ^ (8 - k)) * 256 ^ k) + (n % 256 ^ k) = n := by
  have hlt : n / 256 ^ k < 256 ^ (8 - k) := by
    rw [Nat.div_lt_iff_lt_mul (Nat.pow_pos (by decide)), ← Nat.pow_add]
    rw [show 8 - k + k = 8 by omega]
    simpa using hn
  rw [Nat.mod_eq_of_lt hlt]
  exact Nat.div_add_mod' n _
theorem or_parts (hi lo k n : Nat) (h : hi * 256 ^ k + lo = n) (hl : lo < 256 ^ k) (hn : n < 18446744073709551616) : bits .or .u64 (IntKind.u64.wrap ((hi : Int) * 2 ^ (8 * k))) (lo : Int) = (n : Int) := by
  have e : (256 : Nat) ^ k = 2 ^ (8 * k) := by rw [show (256 : Nat) = 2 ^ 8 from rfl, ← Nat.pow_mul]
  rw [e] at h hl
  have e2 : (hi : Int) * 2 ^ (8 * k) = ((hi * 2 ^ (8 * k) : Nat) : Int) := by simp
  rw [e2]
  generalize hm : hi * 2 ^ (8 * k) = m at h ⊢
  rw [u64_wrap_nat m (by omega)]
  have hd : m % 2 ^ (8 * k) = 0 := by rw [← hm]; exact Nat.mul_mod_left _ _
  have e3 : (2 : Int) ^ (8 * k) = ((2 ^ (8 * k) : Nat) : Int) := by simp
  rw [bits_join .u64 64 (by decide) (fun n h0 h1 => by rw [wrap_u64]; omega) (8 * k) (m : Int) (lo : Int) (by omega) (by rw [e3]; exact_mod_cast hd) (by omega) (by omega) (by rw [e3]; exact_mod_cast hl) (by omega)]
  omega
theorem rd_part (A B : List UInt8) (wd : Int) (h : wd = (A.length : Int)) (h1 : 1 ≤ A.length) (h8 : A.length ≤ 8) : rdN (A ++ B, false) wd = getN A ∧ tkR (A ++ B, false) (numW wd) = (B, false) := by
  subst h
  have hn : numW (A.length : Int) = (A.length : Int) := if_pos (by omega)
  have ht : tkN (A ++ B, false) (A.length : Int) = true := by
    unfold tkN
    rw [decide_eq_true (by simp only [List.length_append]; omega)]
    rfl
  unfold rdN tkS tkR
  rw [hn, if_pos ht, if_pos ht]
  simp

set_option maxHeartbeats 4000000 in
theorem curParts_walk (n : Nat) (hn : n < 18446744073709551616) (a : Nat) (ha : a < 256) (s : ByteArray) (hs : s.size ≤ 140737488351232) (w : World) :
    Calls Try.prog 4 #[.int .u64 (n : Int), .int .u8 (a : Int), .string s] w fun e w' => e = .returned (.bool true) ∧ Below w.heap.size w w' := by
  obtain ⟨k, hk, hk1, hk7⟩ : ∃ k : Nat, 1 + (a : Int) % 7 = (k : Int) ∧ 1 ≤ k ∧ k ≤ 7 := ⟨1 + a % 7, by omega, by omega, by omega⟩
  obtain ⟨j, hj, hj1, hj2⟩ : ∃ j : Nat, (if 50 < (s.size : Int) then 50 else (s.size : Int)) = (j : Int) ∧ j ≤ s.size ∧ j ≤ 50 := ⟨min s.size 50, by split <;> omega, by omega, by omega⟩
  have c1 : (0 ≤ (j : Int)) = True := eq_true (by omega)
  have c2 : ((j : Int) ≤ (s.size : Int)) = True := eq_true (by omega)
  have c3 : (j ≤ s.size) = True := eq_true (by omega)
  have c4 : decide (j ≤ s.size) = true := decide_eq_true (by omega)
  have HA := Lib.hid (wr_new w)
  have HB := Lib.hid (below_alloc (Below.refl w.heap.size w) (.cells #[.slice none 0 0, .bool false] 37))
  have HJ := Lib.hid (And.intro hj1 hj2); clear hj1 hj2
  have HK := Lib.hid (And.intro hk1 hk7); clear hk1 hk7
  have HN := Lib.hid hn; clear hn ha
  go_enter Try.func4, Try.ntmps4
  go_wp2_with fail
  generalize w.alloc (.cells #[.slice none 0 0, .bool false] 37) = w1 at HA HB ⊢
  obtain ⟨t, ht⟩ : ∃ t, t = s.extract 0 j := ⟨_, rfl⟩
  have htl : t.size = j := by rw [ht, ByteArray.size_extract]; have := HJ.out; omega
  rw [← ht]
  clear hj c1 c2 c3 c4
  have HT := Lib.hid (show t.size ≤ 50 by rw [htl]; exact HJ.out.2); clear htl ht
  refine (wr_number w.heap.size (some w.heap.size) [] false n 8 w1 HA.out.o (by decide) HN.out (by decide) (by decide)).mono ?_
  rintro e w2 ⟨rfl, hw, hd⟩
  have hw : WrO w2 w.heap.size (some w.heap.size) (putL n 8) false := by
    have hf : fits n 8 = true := by unfold fits; rw [decide_eq_true_iff]; exact ⟨by decide, by decide, by simpa using HN.out⟩
    rw [hf] at hw
    exact hw
  have HW := Lib.hid hw; clear hw
  replace HB := Lib.hid (HB.out.trans hd); clear hd
  go_wp2_with fail
  refine (wr_bytes w.heap.size w.heap.size _ false w2 (HW.out.2 _ rfl)).mono ?_
  rintro e w4 ⟨rfl, hd⟩
  replace HB := Lib.hid (HB.out.trans (hd.mono HB.out.size)); clear hd
  rw [show (if false = true then ({ data := #[] } : ByteArray) else str (putL n 8)) = str (putL n 8) from rfl, show (if false = true then (2 : Int) else 0) = 0 from rfl]
  clear HA HW
  obtain ⟨b, hb⟩ : ∃ b, b = str (putL n 8) := ⟨_, rfl⟩
  rw [← hb]
  have HBs := Lib.hid hb; clear hb
  have hadd : ¬ (9223372036854775807 : Int) < (b.size : Int) + (t.size : Int) := by rw [HBs.out, str_size, putL_length]; have := HT.out; omega
  go_wp2_with fail
  have HS := Lib.hid HB.out.size
  have Hadd := Lib.hid hadd; clear hadd
  refine (rd_new (b ++ t) (by rw [HBs.out, ByteArray.size_append, str_size, putL_length]; have := HT.out; omega) w4).mono ?_
  rintro e w5 ⟨rfl, hr, hs, hd⟩
  have HR := Lib.hid hr; clear hr
  replace HB := Lib.hid (HB.out.trans (hd.mono HB.out.size)); clear hd
  go_wp2_with fail
  refine (rd_new b (by rw [HBs.out, str_size, putL_length]; decide) w5).mono ?_
  rintro e w6 ⟨rfl, hq, hs2, hd⟩
  replace HR := Lib.hid (HR.out.below hd)
  have HQ := Lib.hid hq; clear hq
  replace HB := Lib.hid (HB.out.trans (hd.mono HB.out.size)); clear hd
  have HS2 := Lib.hid (show w.heap.size ≤ w5.heap.size by have := HS.out; omega)
  have HNe := Lib.hid (show (w4.heap.size : Nat) ≠ w5.heap.size by omega); clear hs hs2
  generalize w4.heap.size = g at HR HS HNe ⊢
  generalize w5.heap.size = q at HQ HS2 HNe ⊢
  have e8 : (8 : Int) - (k : Int) = ((8 - k : Nat) : Int) := by have := HK.out; omega
  have e8w : wrap64 ((8 : Int) - (k : Int)) = ((8 - k : Nat) : Int) := by have := HK.out; unfold wrap64; omega
  go_wp2_with fail
  have hp := putL_split n (8 - k) k
  rw [show 8 - k + k = 8 by have := HK.out; omega] at hp
  have HP := Lib.hid hp; clear hp
  have hRq : (b ++ t).data.toList = putL (n / 256 ^ k) (8 - k) ++ (putL n k ++ t.data.toList) := by
    rw [HBs.out, of_data t, str_append, str_data, str_data, HP.out, List.append_assoc]
  rw [hRq] at HR
  have hQq : b.data.toList = putL n 8 := by rw [HBs.out, str_data]
  rw [hQq] at HQ
  clear hRq hQq
  have p1 := Lib.hid (rd_part (putL (n / 256 ^ k) (8 - k)) (putL n k ++ t.data.toList) ((8 - k : Nat) : Int) (by rw [putL_length]) (by rw [putL_length]; have := HK.out; omega) (by rw [putL_length]; omega))
  have p2 := Lib.hid (rd_part (putL n k) t.data.toList (k : Int) (by rw [putL_length]) (by rw [putL_length]; exact HK.out.1) (by rw [putL_length]; have := HK.out.2; omega))
  have p3 := Lib.hid (rd_part (putL n 8) [] (8 : Int) (by rw [putL_length]; rfl) (by rw [putL_length]; decide) (by rw [putL_length]; decide))
  have hso := two_parts n k HN.out HK.out.1 HK.out.2
  have hlt : (n / 256 ^ k % 256 ^ (8 - k)) * 256 ^ k < 18446744073709551616 := by
    have h1 := Nat.mod_lt (n / 256 ^ k) (Nat.pow_pos (n := 8 - k) (show 0 < 256 by decide))
    have h2 : (256 : Nat) ^ (8 - k) * 256 ^ k = 18446744073709551616 := by rw [← Nat.pow_add, show 8 - k + k = 8 by have := HK.out; omega]
    calc _ < 256 ^ (8 - k) * 256 ^ k := Nat.mul_lt_mul_of_pos_right h1 (Nat.pow_pos (n := k) (show 0 < 256 by decide))
      _ = _ := h2
  have HSO := Lib.hid hso; clear hso
  have HLT := Lib.hid hlt; clear hlt
  obtain ⟨hi, hhi⟩ : ∃ hi, hi = n / 256 ^ k % 256 ^ (8 - k) := ⟨_, rfl⟩
  obtain ⟨lo, hlo⟩ : ∃ lo, lo = n % 256 ^ k := ⟨_, rfl⟩
  rw [← hhi] at HSO HLT
  rw [← hlo] at HSO
  have hll : lo < 256 ^ k := by rw [hlo]; exact Nat.mod_lt _ (Nat.pow_pos (by decide))
  have hor := Lib.hid (or_parts hi lo k n HSO.out hll HN.out); clear hll
  refine (rd_number (some g) _ ((8 - k : Nat) : Int) w6 HR.out (by omega) (by omega)).mono ?_
  rintro e w7 ⟨rfl, hr, hg⟩
  rw [p1.out.2] at hr
  rw [p1.out.1, getN_putL, ← hhi]
  clear hhi
  replace HR := Lib.hid hr; clear hr
  replace HQ := Lib.hid (HQ.out.grown hg (fun _ e h => HNe.out (by cases e; cases h; rfl)))
  replace HB := Lib.hid (below_box HB.out HS.out hg HB.out.size); clear hg
  go_wp2_with fail
  refine (rd_number (some g) _ (k : Int) w7 HR.out (by omega) (by have := HK.out; omega)).mono ?_
  rintro e w8 ⟨rfl, hr, hg⟩
  rw [p2.out.2] at hr
  rw [p2.out.1, getN_putL, ← hlo]
  clear hlo
  replace HR := Lib.hid hr; clear hr
  replace HQ := Lib.hid (HQ.out.grown hg (fun _ e h => HNe.out (by cases e; cases h; rfl)))
  replace HB := Lib.hid (below_box HB.out HS.out hg HB.out.size); clear hg
  go_wp2_with fail
  refine (wakes_ok w8).mono ?_
  rintro e w9 ⟨rfl, hd⟩
  replace HR := Lib.hid (HR.out.below hd)
  replace HQ := Lib.hid (HQ.out.below hd)
  replace HB := Lib.hid (chainC HB.out hd); clear hd
  have e8k : wrap64 (8 * (k : Int)) = 8 * (k : Int) := by have := HK.out; unfold wrap64; omega
  have e8p : (0 ≤ 8 * (k : Int)) = True := eq_true (by omega)
  have hor2 := hor.out
  go_wp2_with fail
  refine (rd_left (some g) _ w9 HR.out).mono ?_
  rintro e w10 ⟨rfl, hd⟩
  replace HQ := Lib.hid (HQ.out.below hd)
  replace HB := Lib.hid (chainC HB.out hd); clear hd
  have htl : (((t.data.toList, false) : RdS).1.length : Int) = (t.size : Int) := by simp
  rw [htl]
  go_wp2_with fail
  refine (rd_number (some q) _ 8 w10 HQ.out (by decide) (by decide)).mono ?_
  rintro e w11 ⟨rfl, hr, hg⟩
  have p3' := p3.out
  rw [List.append_nil] at p3'
  rw [p3'.2] at hr
  rw [p3'.1, getN_putL, Nat.mod_eq_of_lt (show n < 256 ^ 8 by simpa using HN.out)]
  clear p3'
  replace HQ := Lib.hid hr; clear hr
  replace HB := Lib.hid (below_box HB.out HS2.out hg HB.out.size); clear hg
  go_wp2_with fail
  refine (rd_end (some q) _ w11 HQ.out).mono ?_
  rintro e w12 ⟨rfl, hd⟩
  rw [show rdE (some q) ([], false) = 0 from rfl]
  replace HB := Lib.hid (chainC HB.out hd); clear hd
  go_wp2
  go_ret
  exact ⟨rfl, HB.out⟩
theorem curParts_law (a0 a1 : Int) (a2 : ByteArray) (W : World) (w0 : (Lit.int .u64 a0).wf = true) (w1 : (Lit.int .u8 a1).wf = true) (w2 : a2.size ≤ 140737488351232) :
    Calls Try.prog 4 #[.int .u64 a0, .int .u8 a1, .string a2] W fun e w' => e = .returned (.bool true) ∧ Below W.heap.size W w' := by
  have b0 : 0 ≤ a0 ∧ a0 < 18446744073709551616 := by simp [Lit.wf, IntKind.min, IntKind.max, IntKind.signed, IntKind.bits] at w0; omega
  have b1 : 0 ≤ a1 ∧ a1 < 256 := by simp [Lit.wf, IntKind.min, IntKind.max, IntKind.signed, IntKind.bits] at w1; omega
  obtain ⟨n, rfl⟩ := Int.eq_ofNat_of_zero_le b0.1
  obtain ⟨a, rfl⟩ := Int.eq_ofNat_of_zero_le b1.1
  exact curParts_walk n (by omega) a (by omega) a2 w2 W
end Go.Proofs.Ytdpnnokchmjflaa
