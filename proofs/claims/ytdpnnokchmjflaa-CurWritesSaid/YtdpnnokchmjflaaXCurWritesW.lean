/- CurWrites: the bytes of all fields are the document's, or they may not be; of a nil writer nothing is told: the walk. No conditions beyond the form's own reach. -/
import Derived.Test.YtdpnnokchmjflaaXCurWr
namespace Go.Proofs.Ytdpnnokchmjflaa
open Go.RowKit Go.Lib Go.Proofs.Ytdpnnokchmjflaa.P Go.Proofs.Ytdpnnokchmjflaa.BeS Go.Proofs.YtdpnnokchmjflaaW.PrintWords Go.Proofs.YtdpnnokchmjflaaW.PrintLast Go.Proofs.YtdpnnokchmjflaaW.PrintMore
set_option linter.unusedVariables false
set_option linter.unusedSimpArgs false
--@tables
theorem ofF_ok {f : Fd} (h : f.In) : (ofF f).Ok := by
  obtain ⟨h1, h2, h3, h4, h5⟩ := h
  refine ⟨⟨?_, ?_, h3, h4, h5⟩, ?_, ?_⟩
  · show -9223372036854775808 ≤ (max 0 f.kind) % 3; omega
  · show (max 0 f.kind) % 3 < 9223372036854775808; omega
  · show (max 0 f.kind) % 3 = 0 ∨ (max 0 f.kind) % 3 = 1 ∨ (max 0 f.kind) % 3 = 2; omega
  · show (f.s.extract 0 (min f.s.size 300)).size ≤ 300
    rw [ByteArray.size_extract]; omega

theorem encF_cells {w : World} {b : Nat} {f : Fd} (h : w.cell? ⟨b, 0, none⟩ = some (.int .i64 f.kind) ∧ w.cell? ⟨b, 1, none⟩ = some (.int .i64 f.width) ∧ w.cell? ⟨b, 2, none⟩ = some (.int .u64 (f.n : Int)) ∧ w.cell? ⟨b, 3, none⟩ = some (.string f.s)) (q : Nat) (u : Value) (hq : (encF f)[q]? = some u) : w.cell? ⟨b, q, none⟩ = some u := by
  obtain ⟨h0, h1, h2, h3⟩ := h
  match q, hq with
  | 0, hq => simp [encF] at hq; rw [← hq]; exact h0
  | 1, hq => simp [encF] at hq; rw [← hq]; exact h1
  | 2, hq => simp [encF] at hq; rw [← hq]; exact h2
  | 3, hq => simp [encF] at hq; rw [← hq]; exact h3
  | q + 4, hq => simp [encF] at hq

set_option maxHeartbeats 4000000 in
set_option maxRecDepth 100000 in
theorem curWrites_walk (a : Option Addr) (fs : List Fd) (cap : Nat) (hcap : fs.length ≤ cap ∧ cap ≤ maxLen) (w : World) (h : FdsAt w a fs) :
    Calls Try.prog 3 #[.slice a fs.length cap] w fun e w' => e = .returned (.bool true) ∧ Below w.heap.size w w' := by
  have HF := Lib.hid h; clear h
  obtain ⟨N, hN, hN1, hN2, hN3⟩ : ∃ N : Nat, (if 30 < (fs.length : Int) then 30 else (fs.length : Int)) = (N : Int) ∧ N ≤ fs.length ∧ N ≤ 30 ∧ N ≤ cap := ⟨min fs.length 30, by split <;> omega, by omega, by omega, by omega⟩
  have c1 : (0 ≤ (N : Int)) = True := eq_true (by omega)
  have c2 : ((N : Int) ≤ (cap : Int)) = True := eq_true (by omega)
  have c3 : (N ≤ cap) = True := eq_true hN3
  have c4 : decide (N ≤ cap) = true := decide_eq_true hN3
  have HC := Lib.hid hcap; clear hcap
  have HN := Lib.hid (And.intro hN1 hN2); clear hN1 hN2 hN3
  go_enter Try.func3, Try.ntmps3
  go_wp2_with fail
  clear hN c1 c2 c3 c4
  go_loopw [3, 18] (fun v i wr => ∃ j : Nat, j ≤ N ∧ i = .int .i64 (j : Int) ∧ FRow wr w.heap.size v ((fs.take j).map ofF) ∧ Below w.heap.size w wr) (fun _ i _ => N - (RowKit.intOf i).toNat)
  case atStart => exact ⟨0, Nat.zero_le _, rfl, World.ownsRow_nil _ _ _ _, Below.refl _ _⟩
  case round =>
    obtain ⟨j, hj, rfl, h1, h2⟩ := hrel
    have HR := Lib.hid h1; clear h1
    have HB := Lib.hid h2; clear h2
    by_cases hlt : j < N
    · have hjf : j < fs.length := Nat.lt_of_lt_of_le hlt HN.out.1
      obtain ⟨hin, g, off, rfl, hc⟩ := HF.out j hjf
      replace hc := hc.below HB.out
      have hmap : (fs.take (j + 1)).map ofF = (fs.take j).map ofF ++ [ofF fs[j]] := by rw [List.take_succ_eq_append_getElem hjf, List.map_append]; rfl
      have HMap := Lib.hid hmap; clear hmap
      have HIn := Lib.hid hin; clear hin
      have hml : ((fs.take j).map ofF).length = j := by rw [List.length_map, List.length_take]; omega
      have HMl := Lib.hid hml; clear hml
      generalize fs[j] = f at hc HMap HIn
      obtain ⟨k0, k1, k2, k3⟩ := hc
      have e3 : wrap64 ((j : Int) + 1) = ((j + 1 : Nat) : Int) := wrap_succ j (Nat.lt_of_lt_of_le hlt (Nat.le_trans HN.out.2 (by decide)))
      obtain ⟨va, vc, rfl⟩ := HR.out.form
      rw [HMl.out] at HR ⊢
      have ha := (Below.refl wr.heap.size wr).alloc (Nat.le_refl _) (Obj.cells #[Value.int IntKind.i64 f.kind, Value.int IntKind.i64 f.width, Value.int IntKind.u64 (f.n : Int), Value.string f.s] 26)
      replace HR := Lib.hid (HR.out.below ha)
      replace HB := Lib.hid (chainC HB.out ha); clear ha
      go_wp2_with fail
      generalize (wr.alloc (Obj.cells #[Value.int IntKind.i64 f.kind, Value.int IntKind.i64 f.width, Value.int IntKind.u64 (f.n : Int), Value.string f.s] 26)) = w1 at HR HB ⊢
      refine (of_ok f HIn.out w1).mono ?_
      rintro e w2 ⟨rfl, hd⟩
      replace HR := Lib.hid (HR.out.below hd)
      replace HB := Lib.hid (chainC HB.out hd); clear hd k0 k1 k2 k3
      generalize ofF f = x at HMap ⊢
      obtain ⟨kd, wd, n, s⟩ := x
      obtain ⟨i0, hi, hz0, hz1, hz2⟩ := info_parts fd_info
      have hn := (Box4.new w2 27 (.int .i64 kd) (.int .i64 wd) (.int .u64 (n : Int)) (.string s)).S
      have ha := (Below.refl w2.heap.size w2).alloc (Nat.le_refl _) (Obj.cells #[Value.int IntKind.i64 kd, Value.int IntKind.i64 wd, Value.int IntKind.u64 (n : Int), Value.string s] 27)
      replace HR := Lib.hid (HR.out.below ha)
      replace HB := Lib.hid (chainC HB.out ha); clear ha
      have hor := HR.out
      unfold FRow at hor
      rw [HMl.out] at hor
      have HO := Lib.hid hor; clear hor HR
      go_wp2_with (at_builtin; refine wpList_append_own _ rfl _ _ 23 rfl w.heap.size 27 i0 (.agg #[.int .i64 0, .int .i64 0, .int .u64 0, .string ByteArray.empty]) 4 40 Try.underlying23 hi hz0 hz1 hz2 rfl (by decide) _ _ _ rfl HO.out ⟨w2.heap.size, 0, none⟩ 1 1 (encF ⟨kd, wd, n, s⟩) rfl ?qc1 ?qc2 ?qc3 ?qc4 ?qc5 ?qc6 ?_)
      case qc1 => rfl
      case qc2 =>
        intro q u hq
        rw [Addr.add_lit, Nat.zero_add]
        exact encF_cells hn q u hq
      case qc3 => intro u hu; exact encF_one [_] u (by simpa using hu)
      case qc4 => exact Nat.le_trans (Nat.succ_le_of_lt hlt) (Nat.le_trans HN.out.2 (by decide))
      case qc5 => exact Nat.le_trans (Nat.mul_le_mul_right 40 (Nat.le_trans (Nat.succ_le_of_lt hlt) HN.out.2)) (by decide)
      case qc6 => exact HB.out.size
      intro v' w3 ho hgr _
      have hb3 := pw_below_grown HB.out _ HB.out.size hgr (fun k hk => (HO.out.lt k hk).1)
      replace HB := Lib.hid hb3; clear hb3
      have hr3 : FRow w3 w.heap.size v' ((fs.take (j + 1)).map ofF) := by
        rw [HMap.out]
        exact FRow.more (by rw [HMl.out, List.map_take]; exact ho)
      have HR3 := Lib.hid hr3; clear hr3
      obtain ⟨ya, yc, rfl⟩ := own_slice ho
      clear ho hgr hn HO hi hz0 hz1 hz2
      go_wp2
      go_roundw
      case rel => exact ⟨j + 1, hlt, by rw [e3], HR3.out, HB.out⟩
      case measure => rw [e3]; simp only [RowKit.intOf, Int.toNat_natCast]; exact Nat.sub_lt_sub_left hlt (Nat.lt_succ_self j)
    · obtain rfl : j = N := Nat.le_antisymm hj (Nat.le_of_not_lt hlt)
      have hok : ∀ f ∈ (fs.take j).map ofF, f.Ok := by
        intro f hf
        obtain ⟨f0, h0, rfl⟩ := List.mem_map.mp hf
        obtain ⟨i, hi, rfl⟩ := List.mem_iff_getElem.mp (List.mem_of_mem_take h0)
        exact ofF_ok (HF.out i hi).1
      have hml : ((fs.take j).map ofF).length = j := by rw [List.length_map, List.length_take]; have := HN.out.1; omega
      have HOK := Lib.hid hok; clear hok
      generalize (fs.take j).map ofF = ms at HR HOK hml
      obtain ⟨va, vc, rfl⟩ := HR.out.form
      have HL := Lib.hid (show ms.length ≤ 100 by rw [hml]; have := HN.out.2; omega); clear hml
      clear HF HC HN hj
      go_wp2_with fail
      refine (refWrite_ok w.heap.size ms HL.out HOK.out va vc wr HR.out).mono ?_
      rintro e w1 ⟨rfl, hd⟩
      replace HR := Lib.hid (HR.out.below hd)
      replace HB := Lib.hid (chainC HB.out hd); clear hd
      cases hbad : badFs ms with
      | true =>
        have HS := Lib.hid (show wriS ms = { data := #[] } by unfold wriS; rw [hbad]; rfl)
        have HBad := Lib.hid hbad; clear hbad
        rw [HS.out]
        have HBs := Lib.hid HB.out.size
        have HW := Lib.hid (wr_new w1)
        have HK := Lib.hid (show ∀ k, (Value.slice va ms.length vc).ownBlock = some k → k < w1.heap.size from fun k hk => (HR.out.lt k hk).2)
        have ha := (Below.refl w1.heap.size w1).alloc (Nat.le_refl _) (.cells #[.slice none 0 0, .bool false] 37)
        replace HR := Lib.hid (HR.out.below ha)
        replace HB := Lib.hid (chainC HB.out ha); clear ha
        go_wp2_with fail
        generalize (w1.alloc (Obj.cells #[Value.slice none 0 0, Value.bool false] 37)) = w2 at HW HR HB ⊢
        generalize w1.heap.size = base at HW HK HBs ⊢
        refine (write_ok base (some base) w.heap.size ms HL.out HOK.out va vc w2 HW.out.o HR.out HK.out).mono ?_
        rintro e w3 ⟨rfl, hw, hd⟩
        replace HR := Lib.hid (HR.out.belowB hd HK.out)
        replace HB := Lib.hid (HB.out.trans (hd.mono HBs.out)); clear hd
        replace HW := Lib.hid (hw.2 _ rfl); clear hw
        go_wp2_with fail
        refine (wr_bytes base base _ _ w3 HW.out).mono ?_
        rintro e w4 ⟨rfl, hd⟩
        replace HR := Lib.hid (HR.out.below hd)
        replace HB := Lib.hid (chainC HB.out hd); clear hd HW
        rw [HBad.out]
        rw [show (if true = true then ({ data := #[] } : ByteArray) else str (bytesFs ms)) = { data := #[] } from rfl, show (if true = true then (2 : Int) else 0) = 2 from rfl]
        go_wp2_with fail
        have HK4 := Lib.hid (show ∀ k, (Value.slice va ms.length vc).ownBlock = some k → k < w4.heap.size from fun k hk => (HR.out.lt k hk).2)
        refine (write_ok w4.heap.size none w.heap.size ms HL.out HOK.out va vc w4 ⟨Nat.le_refl _, fun g e => (by cases e)⟩ HR.out HK4.out).mono ?_
        rintro e w5 ⟨rfl, _, hd⟩
        replace HB := Lib.hid (chainC HB.out hd); clear hd
        rw [show wrP none = .pointer none from rfl]
        go_wp2_with fail
        refine (wr_bytes_nil w5).mono ?_
        rintro e w6 ⟨rfl, hd⟩
        replace HB := Lib.hid (chainC HB.out hd); clear hd
        go_wp2_with fail
        refine (wakes_ok w6).mono ?_
        rintro e w7 ⟨rfl, hd⟩
        replace HB := Lib.hid (chainC HB.out hd); clear hd
        go_wp2
        go_ret
        exact ⟨rfl, HB.out⟩
      | false =>
        have HS := Lib.hid (show wriS ms = str (bytesFs ms) by unfold wriS; rw [hbad]; rfl)
        have HBad := Lib.hid hbad; clear hbad
        rw [HS.out]
        have HBs := Lib.hid HB.out.size
        have HW := Lib.hid (wr_new w1)
        have HK := Lib.hid (show ∀ k, (Value.slice va ms.length vc).ownBlock = some k → k < w1.heap.size from fun k hk => (HR.out.lt k hk).2)
        have ha := (Below.refl w1.heap.size w1).alloc (Nat.le_refl _) (.cells #[.slice none 0 0, .bool false] 37)
        replace HR := Lib.hid (HR.out.below ha)
        replace HB := Lib.hid (chainC HB.out ha); clear ha
        go_wp2_with fail
        generalize (w1.alloc (Obj.cells #[Value.slice none 0 0, Value.bool false] 37)) = w2 at HW HR HB ⊢
        generalize w1.heap.size = base at HW HK HBs ⊢
        refine (write_ok base (some base) w.heap.size ms HL.out HOK.out va vc w2 HW.out.o HR.out HK.out).mono ?_
        rintro e w3 ⟨rfl, hw, hd⟩
        replace HR := Lib.hid (HR.out.belowB hd HK.out)
        replace HB := Lib.hid (HB.out.trans (hd.mono HBs.out)); clear hd
        replace HW := Lib.hid (hw.2 _ rfl); clear hw
        go_wp2_with fail
        refine (wr_bytes base base _ _ w3 HW.out).mono ?_
        rintro e w4 ⟨rfl, hd⟩
        replace HR := Lib.hid (HR.out.below hd)
        replace HB := Lib.hid (chainC HB.out hd); clear hd HW
        rw [HBad.out]
        rw [show (if false = true then ({ data := #[] } : ByteArray) else str (bytesFs ms)) = str (bytesFs ms) from rfl, show (if false = true then (2 : Int) else 0) = 0 from rfl]
        generalize str (bytesFs ms) = sb
        go_wp2_with fail
        have HK4 := Lib.hid (show ∀ k, (Value.slice va ms.length vc).ownBlock = some k → k < w4.heap.size from fun k hk => (HR.out.lt k hk).2)
        refine (write_ok w4.heap.size none w.heap.size ms HL.out HOK.out va vc w4 ⟨Nat.le_refl _, fun g e => (by cases e)⟩ HR.out HK4.out).mono ?_
        rintro e w5 ⟨rfl, _, hd⟩
        replace HB := Lib.hid (chainC HB.out hd); clear hd
        rw [show wrP none = .pointer none from rfl]
        go_wp2_with fail
        refine (wr_bytes_nil w5).mono ?_
        rintro e w6 ⟨rfl, hd⟩
        replace HB := Lib.hid (chainC HB.out hd); clear hd
        go_wp2_with fail
        refine (wakes_ok w6).mono ?_
        rintro e w7 ⟨rfl, hd⟩
        replace HB := Lib.hid (chainC HB.out hd); clear hd
        go_wp2
        go_ret
        exact ⟨rfl, HB.out⟩
theorem curWrites_law (a0 : Option Addr) (len0 cap0 : Nat) (W : World) (w0 : RowIn W [.int .i64, .int .i64, .int .u64, .str] a0 len0) (y0 : len0 ≤ cap0 ∧ cap0 ≤ maxLen) :
    Calls Try.prog 3 #[.slice a0 len0 cap0] W fun e w' => e = .returned (.bool true) ∧ Below W.heap.size W w' := by
  obtain ⟨fs, rfl, h⟩ := fds_of w0
  exact curWrites_walk a0 fs cap0 y0 W h
end Go.Proofs.Ytdpnnokchmjflaa
