/- KeysLast: the walk. No conditions beyond the form's own reach. -/
import Derived.Test.YtkadlahhcldjfaaXKeysWakes
import Derived.Test.YtkadlahhcldjfaaXKeysLast
namespace Go.Proofs.Ytkadlahhcldjfaa
open Go.RowKit Go.Lib Go.Proofs.YtkadlahhcldjfaaW.PrintWords Go.Proofs.YtkadlahhcldjfaaW.PrintLast Go.Proofs.YtkadlahhcldjfaaW.PrintMore
set_option linter.unusedVariables false
set_option linter.unusedSimpArgs false

set_option maxHeartbeats 4000000 in
set_option maxRecDepth 100000 in
theorem keysLast_walk (l n : Nat) (hn : n < 256) (s : ByteArray) (w : World) :
    Calls Try.prog 3 #[.int .u8 (l : Int), .int .u8 (n : Int), .string s] w fun e w' => e = .returned (.bool true) ∧ Below w.heap.size w w' := by
  obtain ⟨m, hm, hm1, hm2⟩ : ∃ m : Nat, 1 + (l : Int) % 64 = (m : Int) ∧ 1 ≤ m ∧ m ≤ 64 := ⟨1 + l % 64, by omega, by omega, by omega⟩
  have hma : (s.extract 0 (min (s.size : Int) 200).toNat).size ≤ 200 := by rw [ByteArray.size_extract]; omega
  have HMa := Lib.hid hma; clear hma
  go_enter Try.func3, Try.ntmps3
  go_wp2_with fail
  have HT := HMa.out
  clear HMa
  generalize s.extract 0 (min (s.size : Int) 200).toNat = t at HT ⊢
  clear hm
  refine (keys_new m hm1 hm2 w).mono ?_
  rintro e w1 ⟨g, rfl, hg, hk, hb⟩
  have HK := Lib.hid hk; clear hk
  have HB := Lib.hid hb; clear hb
  have HG := Lib.hid hg; clear hg
  have Hm := Lib.hid (And.intro hm1 hm2); clear hm1 hm2
  have Ht := Lib.hid HT; clear HT
  have en : wrap64 (n : Int) = (n : Int) := by unfold wrap64; omega
  have Hn := Lib.hid hn; clear hn
  go_wp2_with fail
  refine (wakes_ok w1).mono ?_
  rintro e w2 ⟨rfl, hd⟩
  replace HK := Lib.hid (HK.out.below hd)
  replace HB := Lib.hid (chain2 HB.out hd); clear hd
  go_wp2_with fail
  rw [en]
  go_loopw [10, 43] (fun _ i wr => ∃ j : Nat, j ≤ n ∧ i = .int .i64 (j : Int) ∧ KeysAt wr g m (lastK m t j) ∧ Below w.heap.size w wr) (fun _ i _ => n - (RowKit.intOf i).toNat)
  case atStart => exact ⟨0, Nat.zero_le _, rfl, HK.out, HB.out⟩
  case round =>
    clear HK HB
    obtain ⟨j, hj, rfl, h1, h2⟩ := hrel
    have HK := Lib.hid h1; clear h1
    have HB := Lib.hid h2; clear h2
    by_cases hlt : j < n
    · obtain ⟨nm, hnm, e1⟩ : ∃ nm : Int, nm = ((j + 1 : Nat) : Int) ∧ wrap64 ((j : Int) + 1) = nm := ⟨_, rfl, by have := Hn.out; unfold wrap64; omega⟩
      obtain ⟨key, hkey, e2⟩ : ∃ key : Int, key = ((j * 977 : Nat) : Int) ∧ IntKind.u64.wrap ((j : Int) * 977) = key := ⟨_, rfl, by have := Hn.out; rw [IntKind.wrap_u64]; omega⟩
      have e3 : IntKind.u64.wrap (j : Int) = (j : Int) := by have := Hn.out; rw [IntKind.wrap_u64]; omega
      have hc := keys_put g m (lastK m t j) (mkE t j) wr HK.out
      rw [putK_last m t j Hm.out.1 (by have := Ht.out; omega) (by have := Hn.out; omega)] at hc
      unfold mkE at hc
      rw [← hnm, ← hkey] at hc
      have HC := Lib.hid hc; clear hc
      have Hnm := Lib.hid hnm; clear hnm
      clear hkey
      go_wp2_with fail
      refine HC.out.mono ?_
      clear HC
      rintro e w3 ⟨rfl, hk, hd⟩
      replace HK := Lib.hid hk; clear hk
      replace HB := Lib.hid (chainP HB.out HG.out hd); clear hd
      go_wp2
      go_roundw
      case rel => exact ⟨j + 1, by omega, by rw [e1, Hnm.out], HK.out, HB.out⟩
      case measure => rw [e1, Hnm.out]; simp [RowKit.intOf]; omega
    · obtain rfl : j = n := by omega
      go_wp2_with fail
      rw [en]
      go_loopw [11, 59] (fun _ i wr => ∃ i0 : Nat, i0 ≤ j ∧ i = .int .i64 (i0 : Int) ∧ KeysAt wr g m (lastK m t j) ∧ Below w.heap.size w wr) (fun _ i _ => j - (RowKit.intOf i).toNat)
      case atStart => exact ⟨0, Nat.zero_le _, rfl, HK.out, HB.out⟩
      case round =>
        clear HK HB
        obtain ⟨i, hi, rfl, h1, h2⟩ := hrel
        have HK := Lib.hid h1; clear h1
        have HB := Lib.hid h2; clear h2
        by_cases hlt : i < j
        · obtain ⟨nm, hnm, e1⟩ : ∃ nm : Int, nm = ((i + 1 : Nat) : Int) ∧ wrap64 ((i : Int) + 1) = nm := ⟨_, rfl, by have := Hn.out; unfold wrap64; omega⟩
          obtain ⟨key, hkey, e2⟩ : ∃ key : Int, key = ((i * 977 : Nat) : Int) ∧ IntKind.u64.wrap ((i : Int) * 977) = key := ⟨_, rfl, by have := Hn.out; rw [IntKind.wrap_u64]; omega⟩
          have e3 : IntKind.u64.wrap (i : Int) = (i : Int) := by have := Hn.out; rw [IntKind.wrap_u64]; omega
          have m1 := matchK_last m t j i hlt t
          have m2 := matchK_last m t j i hlt (t ++ ⟨#[120]⟩)
          have hne : ¬ t = t ++ ⟨#[120]⟩ := fun e => by have := congrArg ByteArray.size e; rw [ByteArray.size_append] at this; have h1 : (⟨#[120]⟩ : ByteArray).size = 1 := rfl; omega
          rw [if_pos rfl, ← hkey, ← hnm] at m1
          rw [if_neg hne, ← hkey] at m2
          clear hne
          have Hnm := Lib.hid hnm; clear hnm
          clear hkey
          have hsz : ¬ 9223372036854775807 < t.size + 1 := by have := Ht.out; omega
          have hc1 := keys_match g m (lastK m t j) key t wr HK.out
          have hc2 := fun w => keys_match g m (lastK m t j) key (t ++ ⟨#[120]⟩) w
          by_cases hq : j ≤ i + m
          · have k1 : decide ((j : Int) - (m : Int) ≤ (i : Int)) = true := decide_eq_true (by omega)
            have k2 : wrap64 ((j : Int) - (m : Int)) = (j : Int) - (m : Int) := by have := Hn.out; have := Hm.out; unfold wrap64; omega
            rw [if_pos hq] at m1 m2
            rw [m1] at hc1
            rw [m2] at hc2
            clear m1 m2
            have HC1 := Lib.hid hc1; clear hc1
            have HC2 := Lib.hid hc2; clear hc2
            replace hq := Lib.hid hq
            go_wp2_with fail
            refine HC1.out.mono ?_
            clear HC1
            rintro e w3 ⟨rfl, hd⟩
            replace HK := Lib.hid (HK.out.below hd)
            replace HB := Lib.hid (chain2 HB.out hd); clear hd
            go_wp2_with fail
            refine (HC2.out w3 HK.out).mono ?_
            clear HC2
            rintro e w4 ⟨rfl, hd⟩
            replace HK := Lib.hid (HK.out.below hd)
            replace HB := Lib.hid (chain2 HB.out hd); clear hd
            go_wp2
            go_roundw
            case rel => exact ⟨i + 1, by omega, by rw [e1, Hnm.out], HK.out, HB.out⟩
            case measure => rw [e1, Hnm.out]; simp [RowKit.intOf]; omega
          · have k1 : decide ((j : Int) - (m : Int) ≤ (i : Int)) = false := decide_eq_false (by omega)
            have k2 : wrap64 ((j : Int) - (m : Int)) = (j : Int) - (m : Int) := by have := Hn.out; have := Hm.out; unfold wrap64; omega
            rw [if_neg hq] at m1 m2
            rw [m1] at hc1
            rw [m2] at hc2
            clear m1 m2
            have HC1 := Lib.hid hc1; clear hc1
            have HC2 := Lib.hid hc2; clear hc2
            replace hq := Lib.hid hq
            go_wp2_with fail
            refine HC1.out.mono ?_
            clear HC1
            rintro e w3 ⟨rfl, hd⟩
            replace HK := Lib.hid (HK.out.below hd)
            replace HB := Lib.hid (chain2 HB.out hd); clear hd
            go_wp2_with fail
            refine (HC2.out w3 HK.out).mono ?_
            clear HC2
            rintro e w4 ⟨rfl, hd⟩
            replace HK := Lib.hid (HK.out.below hd)
            replace HB := Lib.hid (chain2 HB.out hd); clear hd
            go_wp2
            go_roundw
            case rel => exact ⟨i + 1, by omega, by rw [e1, Hnm.out], HK.out, HB.out⟩
            case measure => rw [e1, Hnm.out]; simp [RowKit.intOf]; omega
        · have hl := lastK_length m t j
          go_wp2_with fail
          refine (keys_list g m (lastK m t j) wr HK.out).mono ?_
          rintro e w3 ⟨v, rfl, hr, hd⟩
          replace HB := Lib.hid (chain2 HB.out hd); clear hd
          obtain ⟨ad, cap, rfl, _⟩ := hr.len
          clear hr
          rw [hl]
          have hmin : (((min j m : Nat) : Int) == min (m : Int) (j : Int)) = true := by rw [beq_iff_eq]; omega
          go_wp2
          go_ret
          exact ⟨rfl, HB.out⟩

theorem keysLast_law (a0 a1 : Int) (a2 : ByteArray) (W : World) (w0 : (Lit.int .u8 a0).wf = true) (w1 : (Lit.int .u8 a1).wf = true) (w2 : a2.size ≤ 140737488351232) :
    Calls Try.prog 3 #[.int .u8 a0, .int .u8 a1, .string a2] W fun e w' => e = .returned (.bool true) ∧ Below W.heap.size W w' := by
  have b0 : 0 ≤ a0 ∧ a0 < 256 := by simp [Lit.wf, IntKind.min, IntKind.max, IntKind.signed, IntKind.bits] at w0; omega
  have b1 : 0 ≤ a1 ∧ a1 < 256 := by simp [Lit.wf, IntKind.min, IntKind.max, IntKind.signed, IntKind.bits] at w1; omega
  obtain ⟨l, rfl⟩ := Int.eq_ofNat_of_zero_le b0.1
  obtain ⟨n, rfl⟩ := Int.eq_ofNat_of_zero_le b1.1
  exact keysLast_walk l n (by omega) a2 W
end Go.Proofs.Ytkadlahhcldjfaa
