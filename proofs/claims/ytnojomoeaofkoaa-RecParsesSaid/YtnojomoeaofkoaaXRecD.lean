/- rec: the document's Frame. No conditions beyond the form's own reach. -/
import Derived.Test.YtnojomoeaofkoaaXRecC
import Derived.Test.YtnojomoeaofkoaaXPolyRef
namespace Go.Proofs.Ytnojomoeaofkoaa
open Go.RowKit Go.Lib Go.Proofs.Ytnojomoeaofkoaa.P Go.Proofs.Ytnojomoeaofkoaa.BeS Go.Proofs.Ytnojomoeaofkoaa.PoS Go.Proofs.YtnojomoeaofkoaaW.PrintWords Go.Proofs.YtnojomoeaofkoaaW.PrintLast Go.Proofs.YtnojomoeaofkoaaW.PrintMore
set_option linter.unusedVariables false
set_option linter.unusedSimpArgs false
--@tables
theorem str_more (l : List UInt8) (x : ByteArray) : str l ++ x = str (l ++ x.data.toList) := by
  rw [of_data x, str_append, str_data]
set_option maxHeartbeats 8000000 in
set_option maxRecDepth 100000 in
theorem ref_frame (rs : List Rc) (hn : rs.length ≤ 100) (hin : ∀ r ∈ rs, RcIn r) (v : Value) (w : World) (hr : RowS encR w v rs) :
    Calls Try.prog 10 #[v] w fun e w' => e = .returned (.tuple #[.string (frameV rs).1, .int .i64 (frameV rs).2]) ∧ Below w.heap.size w w' := by
  have HR := Lib.hid hr; clear hr
  have HI := Lib.hid hin; clear hin
  have HN := Lib.hid hn; clear hn
  obtain ⟨va, vc, rfl, _⟩ := HR.out.len
  go_enter Try.func10, Try.ntmps10
  go_wp2_with fail
  go_loopw [4, 5] (fun o i wr => ∃ j : Nat, j ≤ rs.length ∧ i = .int .i64 (j : Int) ∧ (rs.take j).all goodR = true ∧ o = .string (str (frameL (rs.take j))) ∧ Below w.heap.size w wr) (fun _ i _ => rs.length - (RowKit.intOf i).toNat)
  case atStart => exact ⟨0, Nat.zero_le _, rfl, rfl, rfl, Below.refl _ _⟩
  case round =>
    obtain ⟨j, hj, rfl, h1, rfl, h3⟩ := hrel
    have HG := Lib.hid h1; clear h1
    have HB := Lib.hid h3; clear h3
    by_cases hlt : j < rs.length
    · obtain ⟨ga, off, cap, hv, k0, k1⟩ := row_at (HR.out.below HB.out) j hlt
      simp only [Value.slice.injEq, true_and] at hv
      obtain ⟨rfl, rfl⟩ := hv
      have e3 : wrap64 ((j : Int) + 1) = ((j + 1 : Nat) : Int) := wrap_succR j (Nat.lt_of_lt_of_le hlt (Nat.le_trans HN.out (by decide)))
      have HT2 := Lib.hid (frameL_take rs j hlt)
      have HIn := Lib.hid (HI.out rs[j] (List.getElem_mem hlt))
      have HAs := Lib.hid (all_snoc rs j hlt HG.out)
      have HAn := Lib.hid (all_not rs j hlt)
      have HLen := Lib.hid (show (str (frameL (rs.take j))).size ≤ 100 * 4007 by rw [str_size]; exact Nat.le_trans (frameL_len _ (fun r hr => HI.out r (List.mem_of_mem_take hr))) (Nat.mul_le_mul_right _ (Nat.le_trans (List.length_take_le' j rs) HN.out)))
      generalize rs[j] = r at k0 k1 HT2 HIn HAs HAn
      obtain ⟨k, b⟩ := r
      simp only at k0 k1
      have HO := Lib.hid (show ∀ x : ByteArray, x = recB k b → str (frameL (rs.take (j + 1))) = str (frameL (rs.take j)) ++ x from fun x hx => by rw [HT2.out, str_more, hx])
      clear HT2
      generalize str (frameL (rs.take j)) = out at HLen HO ⊢
      have ha := below_alloc (Below.refl wr.heap.size wr) (.cells #[.int .u8 (k : Int), .string b] 50)
      replace HB := Lib.hid (chain2 HB.out ha); clear ha
      have hS : (wr.alloc (.cells #[.int .u8 (k : Int), .string b] 50)).cell? ⟨wr.heap.size, 0, none⟩ = some (.int .u8 (k : Int)) ∧ (wr.alloc (.cells #[.int .u8 (k : Int), .string b] 50)).cell? ⟨wr.heap.size, 1, none⟩ = some (.string b) := by constructor <;> simp
      have HSS := Lib.hid hS
      obtain ⟨s0, s1⟩ := hS
      by_cases hk0 : k = 0
      · subst hk0
        have HV := Lib.hid (show frameV rs = (str [], 2) by unfold frameV; rw [HAn.out rfl]; rfl)
        go_wp2
        go_ret2
        exact ⟨by rw [HV.out]; rfl, HB.out⟩
      · have ck : decide (k = 0) = false := decide_eq_false hk0
        have ck4 : ((k : Int) == 0) = false := by simp [hk0]
        have ck5 : (k == 0) = false := by simp [hk0]
        have ck2 : decide ((k : Int) = 0) = false := decide_eq_false (by omega)
        by_cases hb : 2048 < b.size
        · have cb : decide (2048 < b.size) = true := decide_eq_true hb
          have HV := Lib.hid (show frameV rs = (str [], 2) by
            unfold frameV; rw [HAn.out (by unfold goodR; rw [decide_eq_false (show ¬ (k, b).2.size ≤ 2048 from Nat.not_le_of_lt hb), Bool.and_false])]; rfl)
          go_wp2
          go_ret2
          exact ⟨by rw [HV.out]; rfl, HB.out⟩
        · have cb : decide (2048 < b.size) = false := decide_eq_false hb
          have cb2 : decide (2048 < (b.size : Int)) = false := decide_eq_false (by omega)
          have HGn := Lib.hid (HAs.out (by unfold goodR; rw [decide_eq_true (show (k, b).1 ≠ 0 from hk0), decide_eq_true (show (k, b).2.size ≤ 2048 from Nat.le_of_not_lt hb)]; rfl))
          obtain ⟨p2, hp2⟩ : ∃ p2, str (putL b.size 2) = p2 := ⟨_, rfl⟩
          obtain ⟨q1, hq1⟩ : ∃ q1, str [UInt8.ofNat k] = q1 := ⟨_, rfl⟩
          have z2 : p2.size = 2 := by rw [← hp2, str_size, putL_length]
          have z1 : q1.size = 1 := by rw [← hq1, str_size]; rfl
          have HP2 := Lib.hid (show tillrollref01_Put.f 20 (b.size : Int) ((2 : Nat) : Int) = some p2 by rw [← hp2]; exact ref_put_in b.size (by omega) 2 (by decide) (by decide) 20 (by decide))
          have HQ1 := Lib.hid (show ∀ (w : World) (h : Nat), w.cell? ⟨h, 0, none⟩ = some (.int .u8 (k : Int)) → (convert 44 9 (.slice (some ⟨h, 0, none⟩) 1 1)).run Try.prog w = .ok (.string q1) w from fun w h hw => by rw [← hq1]; exact one_conv w k h HIn.out.1 hw)
          have HBs := Lib.hid (Nat.le_of_not_lt hb)
          have hw1 : IntKind.u64.wrap (b.size : Int) = (b.size : Int) := wrap_u64_in _ (by omega) (by omega)
          obtain ⟨hd, hhd⟩ : ∃ hd, p2 ++ q1 ++ b = hd := ⟨_, rfl⟩
          have HHd := Lib.hid (show headR k b = hd by unfold headR; rw [hp2, hq1]; exact hhd)
          have HHz := Lib.hid (show hd.size = 3 + b.size by rw [← HHd.out]; exact headR_size k b)
          have HHe := Lib.hid hhd
          have l1 : ¬ 9223372036854775807 < p2.size + q1.size := by omega
          have l2 : ¬ 9223372036854775807 < (p2 ++ q1).size + b.size := by rw [ByteArray.size_append]; omega
          have l3 : ¬ 9223372036854775807 < p2.size + q1.size + b.size := by omega
          clear z1 z2 hp2 hq1 hhd hb
          go_wp2_with fail
          generalize (wr.alloc (.cells #[.int .u8 (k : Int), .string b] 50)) = w2 at HB HSS s0 s1 ⊢
          generalize wr.heap.size = bx at HSS s0 s1 ⊢
          refine (tillrollref01_Put.calls _ _ _ _ _ HP2.out).mono ?_
          rintro e w3 ⟨rfl, hd1⟩
          replace HSS := Lib.hid (And.intro (pw_cell_below hd1 HSS.out.1) (pw_cell_below hd1 HSS.out.2))
          replace HB := Lib.hid (chain2 HB.out hd1); clear hd1 k0 k1 s0 s1
          obtain ⟨s0, s1⟩ := HSS.out
          have ha := below_alloc (Below.refl w3.heap.size w3) (.cells #[.int .u8 (k : Int)] 5)
          have hcv := HQ1.out (w3.alloc (.cells #[.int .u8 (k : Int)] 5)) w3.heap.size (by simp)
          have s1' := pw_cell_below ha s1
          replace HB := Lib.hid (chain2 HB.out ha); clear ha
          go_wp2_with fail
          rw [HHe.out]
          clear hcv l1 l2 l3 hw1 s0 s1 s1'
          refine (tillrollref02_Sum.calls (hd.size * 10 + 100) hd _ _ (ref_sum_f hd (by have := HHz.out; have := HBs.out; omega) _ (by omega))).mono ?_
          rintro e w5 ⟨rfl, hd2⟩
          replace HB := Lib.hid (chainD HB.out hd2); clear hd2
          have HSm := Lib.hid (show sumR k b = (sum hd.data.toList).toNat by unfold sumR; rw [HHd.out])
          have hlt4 : (sum hd.data.toList).toNat < 4294967296 := (sum hd.data.toList).isLt
          unfold v32
          generalize (sum hd.data.toList).toNat = sm at HSm hlt4 ⊢
          obtain ⟨p4, hp4⟩ : ∃ p4, str (putL sm 4) = p4 := ⟨_, rfl⟩
          have z4 : p4.size = 4 := by rw [← hp4, str_size, putL_length]
          have HP4 := Lib.hid (show tillrollref01_Put.f 20 (sm : Int) ((4 : Nat) : Int) = some p4 by rw [← hp4]; exact ref_put_in sm (by omega) 4 (by decide) (by decide) 20 (by decide))
          have l4 : ¬ 9223372036854775807 < out.size + hd.size := by have := HHz.out; have := HBs.out; have := HLen.out; omega
          have l5 : ¬ 9223372036854775807 < (out ++ hd).size + p4.size := by rw [ByteArray.size_append]; have := HHz.out; have := HBs.out; have := HLen.out; omega
          have l6 : ¬ 9223372036854775807 < out.size + hd.size + p4.size := by have := HHz.out; have := HBs.out; have := HLen.out; omega
          have HOo := Lib.hid (show str (frameL (rs.take (j + 1))) = out ++ hd ++ p4 by rw [HO.out (hd ++ p4) (by unfold recB; rw [HHd.out, HSm.out, hp4]), ByteArray.append_assoc])
          clear hlt4 hp4 z4
          go_wp2_with fail
          refine (tillrollref01_Put.calls _ _ _ _ _ HP4.out).mono ?_
          rintro e w6 ⟨rfl, hd3⟩
          replace HB := Lib.hid (chain2 HB.out hd3); clear hd3
          go_wp2
          go_roundw
          case rel => exact ⟨j + 1, hlt, by rw [e3], HGn.out, by rw [HOo.out], HB.out⟩
          case measure => rw [e3]; simp only [RowKit.intOf, Int.toNat_natCast]; exact Nat.sub_lt_sub_left hlt (Nat.lt_succ_self j)
    · obtain rfl : j = rs.length := Nat.le_antisymm hj (Nat.le_of_not_lt hlt)
      rw [List.take_length] at HG ⊢
      have HV := Lib.hid (show frameV rs = (str (frameL rs), 0) by unfold frameV; rw [HG.out]; rfl)
      go_wp2
      go_ret2
      exact ⟨by rw [HV.out]; rfl, HB.out⟩
end Go.Proofs.Ytnojomoeaofkoaa
