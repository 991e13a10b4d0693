/- CurReads: the fields of every text, read in whatever kinds, what is left behind each, and whether it is wrong, are the document's; of a nil reader nothing is told: the walk. No conditions beyond the form's own reach. -/
import Derived.Test.YtdpnnokchmjflaaXCurRefW
import Derived.Test.YtdpnnokchmjflaaWEqStruct
namespace Go.Proofs.Ytdpnnokchmjflaa
open Go.RowKit Go.Lib Go.Proofs.Ytdpnnokchmjflaa.P Go.Proofs.Ytdpnnokchmjflaa.BeS Go.Proofs.YtdpnnokchmjflaaW.PrintWords Go.Proofs.YtdpnnokchmjflaaW.PrintLast Go.Proofs.YtdpnnokchmjflaaW.PrintMore
set_option linter.unusedVariables false
set_option linter.unusedSimpArgs false
def rg5_14.T : Bool × List (List Nat × List Nat) := (true, [([], []), ([], []), ([0, 1], [0, 1]), ([], []), ([], []), ([3, 4], [3, 4]), ([5], [5]), ([2, 6], [2, 6]), ([7, 2], [7]), ([8], [8]), ([9, 8, 8], [8, 9]), ([8], [8]), ([8], [8]), ([11, 12, 8], [8, 11, 12]), ([13, 8], [8, 13]), ([10, 14, 8], [8, 10, 14]), ([8, 15], [8, 15])])
def rg5_14.B : List Nat := [0, 0, 3, 0, 0, 24, 56, 127, 255, 511, 1023, 511, 511, 6655, 14847, 32767, 65535]
theorem rg5_14.tab : rtab .any (opsOf Try.f5 14) = rg5_14.T := by kernel_rfl
theorem rg5_14.bits : waitsOk rg5_14.T.2 rg5_14.B = true := by kernel_rfl
theorem ofF_ok {f : Fd} (h : f.In) : (ofF f).Ok := by
  obtain ⟨h1, h2, h3, h4, h5⟩ := h
  refine ⟨⟨?_, ?_, h3, h4, h5⟩, ?_, ?_⟩
  · show -9223372036854775808 ≤ (max 0 f.kind) % 3; omega
  · show (max 0 f.kind) % 3 < 9223372036854775808; omega
  · show (max 0 f.kind) % 3 = 0 ∨ (max 0 f.kind) % 3 = 1 ∨ (max 0 f.kind) % 3 = 2; omega
  · show (f.s.extract 0 (min f.s.size 300)).size ≤ 300
    rw [ByteArray.size_extract]; omega

theorem outsN_get (r : RdS) (fs : List Fd) (j : Nat) (h : j < fs.length) (h2 : j < (outsN r fs fs.length).length) : (outsN r fs fs.length)[j] = rdF (rdAll r (fs.take j)) fs[j] := by
  have h3 : (outsN r fs fs.length)[j]? = some (rdF (rdAll r (fs.take j)) fs[j]) := by
    unfold outsN
    rw [List.getElem?_map, List.getElem?_range h, Option.map_some, List.getD_eq_getElem?_getD, List.getElem?_eq_getElem h]
    rfl
  rw [List.getElem?_eq_getElem h2] at h3
  exact Option.some.inj h3
theorem leftsN_get (r : RdS) (fs : List Fd) (n j : Nat) (h : j < n) : (nums .i64 (leftsN r fs n))[j]? = some (.int .i64 ((rdAll r (fs.take (j + 1))).1.length : Int)) := by
  unfold leftsN nums
  simp [List.getElem?_map, List.getElem?_range h]

set_option maxHeartbeats 8000000 in
set_option maxRecDepth 100000 in
theorem curReads_walk (s : ByteArray) (hs : s.size ≤ 140737488351232) (a : Option Addr) (fs : List Fd) (cap : Nat) (hcap : fs.length ≤ cap ∧ cap ≤ maxLen) (w : World) (h : FdsAt w a fs) :
    Calls Try.prog 5 #[.string s, .slice a fs.length cap] w fun e w' => e = .returned (.bool true) ∧ Below w.heap.size w w' := by
  have HF := Lib.hid h; clear h
  obtain ⟨N, hN, hN1, hN2, hN3⟩ : ∃ N : Nat, (if 30 < (fs.length : Int) then 30 else (fs.length : Int)) = (N : Int) ∧ N ≤ fs.length ∧ N ≤ 30 ∧ N ≤ cap := ⟨min fs.length 30, by split <;> omega, by omega, by omega, by omega⟩
  have c1 : (0 ≤ (N : Int)) = True := eq_true (by omega)
  have c2 : ((N : Int) ≤ (cap : Int)) = True := eq_true (by omega)
  have c3 : (N ≤ cap) = True := eq_true hN3
  have c4 : decide (N ≤ cap) = true := decide_eq_true hN3
  have HC := Lib.hid hcap; clear hcap
  have HN := Lib.hid (And.intro hN1 hN2); clear hN1 hN2 hN3
  obtain ⟨q, hq, hq1, hq2⟩ : ∃ q : Nat, (if 400 < (s.size : Int) then 400 else (s.size : Int)) = (q : Int) ∧ q ≤ s.size ∧ q ≤ 400 := ⟨min s.size 400, by split <;> omega, by omega, by omega⟩
  have d1 : (0 ≤ (q : Int)) = True := eq_true (by omega)
  have d2 : ((q : Int) ≤ (s.size : Int)) = True := eq_true (by omega)
  have d3 : (q ≤ s.size) = True := eq_true hq1
  have d4 : decide (q ≤ s.size) = true := decide_eq_true hq1
  obtain ⟨st, hst⟩ : ∃ st, s.extract 0 q = st := ⟨_, rfl⟩
  have HSt := Lib.hid (show st.size ≤ 400 by rw [← hst, ByteArray.size_extract]; omega)
  clear hq1 hq2 hs
  go_enter Try.func5, Try.ntmps5
  go_wp2_with fail
  clear hN c1 c2 c3 c4 hq d1 d2 d3 d4 hst
  go_loopw [5, 28] (fun v i wr => ∃ j : Nat, j ≤ N ∧ i = .int .i64 (j : Int) ∧ FRow wr w.heap.size v ((fs.take j).map ofF) ∧ Below w.heap.size w wr) (fun _ i _ => N - (RowKit.intOf i).toNat)
  case atStart => exact ⟨0, Nat.zero_le _, rfl, World.ownsRow_nil _ _ _ _, Below.refl _ _⟩
  case round =>
    obtain ⟨j, hj, rfl, h1, h2⟩ := hrel
    have HR := Lib.hid h1; clear h1
    have HB := Lib.hid h2; clear h2
    by_cases hlt : j < N
    · have hjf : j < fs.length := Nat.lt_of_lt_of_le hlt HN.out.1
      obtain ⟨hin, g, off, rfl, hc⟩ := HF.out j hjf
      replace hc := hc.below HB.out
      have hmap : (fs.take (j + 1)).map ofF = (fs.take j).map ofF ++ [ofF fs[j]] := by rw [List.take_succ_eq_append_getElem hjf, List.map_append]; rfl
      have HMap := Lib.hid hmap; clear hmap
      have HIn := Lib.hid hin; clear hin
      have hml : ((fs.take j).map ofF).length = j := by rw [List.length_map, List.length_take]; omega
      have HMl := Lib.hid hml; clear hml
      generalize fs[j] = f at hc HMap HIn
      obtain ⟨k0, k1, k2, k3⟩ := hc
      have e3 : wrap64 ((j : Int) + 1) = ((j + 1 : Nat) : Int) := wrap_succ j (Nat.lt_of_lt_of_le hlt (Nat.le_trans HN.out.2 (by decide)))
      obtain ⟨va, vc, rfl⟩ := HR.out.form
      rw [HMl.out] at HR ⊢
      have ha := (Below.refl wr.heap.size wr).alloc (Nat.le_refl _) (Obj.cells #[Value.int IntKind.i64 f.kind, Value.int IntKind.i64 f.width, Value.int IntKind.u64 (f.n : Int), Value.string f.s] 26)
      replace HR := Lib.hid (HR.out.below ha)
      replace HB := Lib.hid (chainC HB.out ha); clear ha
      go_wp2_with fail
      generalize (wr.alloc (Obj.cells #[Value.int IntKind.i64 f.kind, Value.int IntKind.i64 f.width, Value.int IntKind.u64 (f.n : Int), Value.string f.s] 26)) = w1 at HR HB ⊢
      refine (of_ok f HIn.out w1).mono ?_
      rintro e w2 ⟨rfl, hd⟩
      replace HR := Lib.hid (HR.out.below hd)
      replace HB := Lib.hid (chainC HB.out hd); clear hd k0 k1 k2 k3
      generalize ofF f = x at HMap ⊢
      obtain ⟨kd, wd, n, s⟩ := x
      obtain ⟨i0, hi, hz0, hz1, hz2⟩ := info_parts fd_info
      have hn := (Box4.new w2 27 (.int .i64 kd) (.int .i64 wd) (.int .u64 (n : Int)) (.string s)).S
      have ha := (Below.refl w2.heap.size w2).alloc (Nat.le_refl _) (Obj.cells #[Value.int IntKind.i64 kd, Value.int IntKind.i64 wd, Value.int IntKind.u64 (n : Int), Value.string s] 27)
      replace HR := Lib.hid (HR.out.below ha)
      replace HB := Lib.hid (chainC HB.out ha); clear ha
      have hor := HR.out
      unfold FRow at hor
      rw [HMl.out] at hor
      have HO := Lib.hid hor; clear hor HR
      go_wp2_with (at_builtin; refine wpList_append_own _ rfl _ _ 23 rfl w.heap.size 27 i0 (.agg #[.int .i64 0, .int .i64 0, .int .u64 0, .string ByteArray.empty]) 4 40 Try.underlying23 hi hz0 hz1 hz2 rfl (by decide) _ _ _ rfl HO.out ⟨w2.heap.size, 0, none⟩ 1 1 (encF ⟨kd, wd, n, s⟩) rfl ?qc1 ?qc2 ?qc3 ?qc4 ?qc5 ?qc6 ?_)
      case qc1 => rfl
      case qc2 =>
        intro q u hq
        rw [Addr.add_lit, Nat.zero_add]
        exact encF_cells hn q u hq
      case qc3 => intro u hu; exact encF_one [_] u (by simpa using hu)
      case qc4 => exact Nat.le_trans (Nat.succ_le_of_lt hlt) (Nat.le_trans HN.out.2 (by decide))
      case qc5 => exact Nat.le_trans (Nat.mul_le_mul_right 40 (Nat.le_trans (Nat.succ_le_of_lt hlt) HN.out.2)) (by decide)
      case qc6 => exact HB.out.size
      intro v' w3 ho hgr _
      have hb3 := pw_below_grown HB.out _ HB.out.size hgr (fun k hk => (HO.out.lt k hk).1)
      replace HB := Lib.hid hb3; clear hb3
      have hr3 : FRow w3 w.heap.size v' ((fs.take (j + 1)).map ofF) := by
        rw [HMap.out]
        exact FRow.more (by rw [HMl.out, List.map_take]; exact ho)
      have HR3 := Lib.hid hr3; clear hr3
      obtain ⟨ya, yc, rfl⟩ := own_slice ho
      clear ho hgr hn HO hi hz0 hz1 hz2
      go_wp2
      go_roundw
      case rel => exact ⟨j + 1, hlt, by rw [e3], HR3.out, HB.out⟩
      case measure => rw [e3]; simp only [RowKit.intOf, Int.toNat_natCast]; exact Nat.sub_lt_sub_left hlt (Nat.lt_succ_self j)
    · obtain rfl : j = N := Nat.le_antisymm hj (Nat.le_of_not_lt hlt)
      have hok : ∀ f ∈ (fs.take j).map ofF, f.Ok := by
        intro f hf
        obtain ⟨f0, h0, rfl⟩ := List.mem_map.mp hf
        obtain ⟨i, hi, rfl⟩ := List.mem_iff_getElem.mp (List.mem_of_mem_take h0)
        exact ofF_ok (HF.out i hi).1
      have hml : ((fs.take j).map ofF).length = j := by rw [List.length_map, List.length_take]; have := HN.out.1; omega
      have HOK := Lib.hid hok; clear hok
      generalize (fs.take j).map ofF = ms at HR HOK hml
      obtain ⟨va, vc, rfl⟩ := HR.out.form
      have HL := Lib.hid (show ms.length ≤ 30 by rw [hml]; exact HN.out.2); clear hml
      clear HF HC HN hj
      go_wp2_with fail
      refine (refRead_ok w.heap.size ms (Nat.le_trans HL.out (by decide)) HOK.out va vc st (Nat.le_trans HSt.out (by decide)) wr HR.out).mono ?_
      rintro e w1 ⟨v1, v2, rfl, ho, hi, hd⟩
      replace HR := Lib.hid (HR.out.below hd)
      have HBs := Lib.hid HB.out.size
      replace HB := Lib.hid (chainC HB.out hd); clear hd
      obtain ⟨oa, oc, rfl⟩ := ho.form
      obtain ⟨la, lc, rfl⟩ := own_slice hi
      rw [outsN_len] at ho ⊢
      rw [leftsN_len] at hi ⊢
      have HO := Lib.hid ho; clear ho
      have HI := Lib.hid hi; clear hi
      go_wp2_with fail
      refine (rd_new st (Nat.le_trans HSt.out (by decide)) w1).mono ?_
      rintro e w2 ⟨rfl, hr, _, hd⟩
      have HNe := Lib.hid (show (Value.slice va ms.length vc).ownBlock ≠ some w1.heap.size ∧ (Value.slice oa ms.length oc).ownBlock ≠ some w1.heap.size ∧ (Value.slice la ms.length lc).ownBlock ≠ some w1.heap.size from ⟨fun e => Nat.lt_irrefl _ (HR.out.lt _ e).2, fun e => Nat.lt_irrefl _ (HO.out.lt _ e).2, fun e => Nat.lt_irrefl _ (HI.out.lt _ e).2⟩)
      have HG := Lib.hid HB.out.size
      have HRd := Lib.hid hr; clear hr
      replace HR := Lib.hid (HR.out.below hd)
      replace HO := Lib.hid (HO.out.below hd)
      replace HI := Lib.hid (HI.out.below hd)
      replace HB := Lib.hid (chainC HB.out hd); clear hd
      generalize w1.heap.size = g at HRd HNe HG ⊢
      have hsl : ((st.size : Nat) : Int) = (((st.data.toList, false) : RdS).1.length : Int) := by simp
      have HSl := Lib.hid hsl; clear hsl
      generalize ((st.data.toList, false) : RdS) = r0 at HRd HO HI HSl ⊢
      generalize wr.heap.size = B0 at HO HI HBs
      clear hlt
      go_wp2_with fail
      rw [HSl.out]
      go_loopw [12, 51] (fun ev i wr' => ∃ j : Nat, j ≤ ms.length ∧ i = .int .i64 (j : Int) ∧ ev = .int .i64 ((rdAll r0 (ms.take j)).1.length : Int) ∧ RdO wr' (some g) (rdAll r0 (ms.take j)) ∧ FRow wr' w.heap.size (Value.slice va ms.length vc) ms ∧ FRow wr' B0 (Value.slice oa ms.length oc) (outsN r0 ms ms.length) ∧ IRow wr' B0 (Value.slice la ms.length lc) (leftsN r0 ms ms.length) ∧ Below w.heap.size w wr') (fun _ i _ => ms.length - (RowKit.intOf i).toNat)
      case atStart => exact ⟨0, Nat.zero_le _, rfl, rfl, HRd.out, HR.out, HO.out, HI.out, HB.out⟩
      case round =>
        clear HR HB HRd HO HI
        obtain ⟨j, hj, rfl, rfl, h1, h2, h4, h5, h3⟩ := hrel
        have HRd := Lib.hid h1; clear h1
        have HR := Lib.hid h2; clear h2
        have HO := Lib.hid h4; clear h4
        have HI := Lib.hid h5; clear h5
        have HB := Lib.hid h3; clear h3
        by_cases hlt : j < ms.length
        · have HTk := Lib.hid (rdAll_take r0 ms j hlt)
          have HFk := Lib.hid (HOK.out ms[j] (List.getElem_mem hlt))
          have hjo : j < (outsN r0 ms ms.length).length := by rw [outsN_len]; exact hlt
          obtain ⟨gr, cap', hf, hc⟩ := HR.out.at_ j hlt
          obtain ⟨gw, capw, hfw, _⟩ := HO.out.at_ j hjo
          simp only [Value.slice.injEq, true_and] at hf
          obtain ⟨rfl, rfl⟩ := hf
          rw [outsN_len] at hfw
          simp only [Value.slice.injEq, true_and] at hfw
          obtain ⟨rfl, rfl⟩ := hfw
          obtain ⟨gl, hgl⟩ : ∃ gl, la = some ⟨gl, 0, none⟩ := by
            rcases HI.out.2 with ⟨h, h0⟩ | ⟨gl, cl, cu, h, _⟩
            · rw [leftsN_len] at h0; omega
            · simp only [Value.slice.injEq] at h; exact ⟨gl, h.1⟩
          subst hgl
          obtain ⟨r, hr⟩ : ∃ r, rdAll r0 (ms.take j) = r := ⟨_, rfl⟩
          obtain ⟨f, hf⟩ : ∃ f, ms[j] = f := ⟨_, rfl⟩
          obtain ⟨y, hy⟩ : ∃ y, rdF r f = y := ⟨_, rfl⟩
          obtain ⟨r2, hr2⟩ : ∃ r2, rdFR r f = r2 := ⟨_, rfl⟩
          have hwant := outsN_get r0 ms j hlt hjo
          have hleft := leftsN_get r0 ms ms.length j hlt
          have htk := HTk.out
          rw [hr, hf, hr2] at htk
          rw [hr, hf, hy] at hwant
          rw [htk] at hleft
          have HAll := Lib.hid htk; clear htk HTk
          rw [hr] at HRd ⊢
          rw [hf] at HFk hc
          have HRead := Lib.hid (fun w h => read_ok (some g) r f HFk.out w h)
          obtain ⟨kd, wd, n, s1⟩ := f
          rw [hy, hr2] at HRead
          obtain ⟨yk, yw, yn, ys⟩ := y
          simp only at HRead
          obtain ⟨lv, hlv⟩ : ∃ lv : Int, ((r2.1.length : Nat) : Int) = lv := ⟨_, rfl⟩
          rw [hlv] at hleft
          have HLv := Lib.hid hlv; clear hlv
          have HWant := Lib.hid hwant; clear hwant
          have HLeft := Lib.hid hleft; clear hleft
          clear hr hf hy hr2
          obtain ⟨k0, k1, k2, k3⟩ := hc
          simp only at k0 k1 k2 k3
          have e3 : wrap64 ((j : Int) + 1) = ((j + 1 : Nat) : Int) := wrap_succ j (Nat.lt_of_lt_of_le hlt (Nat.le_trans HL.out (by decide)))
          have hgx := HRd.out.lt g rfl
          have ha := (Below.refl wr.heap.size wr).alloc (Nat.le_refl _) (Obj.cells #[Value.int IntKind.i64 kd, Value.int IntKind.i64 wd, Value.int IntKind.u64 (n : Int), Value.string s1] 27)
          have HBX := Lib.hid (Box4.new wr 27 (.int .i64 kd) (.int .i64 wd) (.int .u64 (n : Int)) (.string s1))
          replace HRd := Lib.hid (HRd.out.below ha)
          replace HR := Lib.hid (HR.out.below ha)
          replace HO := Lib.hid (HO.out.below ha)
          replace HI := Lib.hid (HI.out.below ha)
          replace HB := Lib.hid (chainC HB.out ha); clear ha
          have hbx := Lib.hid (show (some g : Option Nat) ≠ some wr.heap.size from fun e => by cases e; omega); clear hgx
          go_wp2_with fail
          generalize (wr.alloc (Obj.cells #[Value.int IntKind.i64 kd, Value.int IntKind.i64 wd, Value.int IntKind.u64 (n : Int), Value.string s1] 27)) = w7 at HRd HR HO HI HB HBX ⊢
          generalize wr.heap.size = bx at HBX hbx ⊢
          clear k0 k1 k2 k3
          have HSOf := Lib.hid (show ∀ w', Box4 w' 27 bx (.int .i64 kd) (.int .i64 wd) (.int .u64 (n : Int)) (.string s1) → FRow w' B0 (Value.slice (some ⟨gw, 0, none⟩) ms.length oc) (outsN r0 ms ms.length) → IRow w' B0 (Value.slice (some ⟨gl, 0, none⟩) ms.length lc) (leftsN r0 ms ms.length) → (w'.cell? ⟨bx, 0, none⟩ = some (.int .i64 kd) ∧ w'.cell? ⟨bx, 1, none⟩ = some (.int .i64 wd) ∧ w'.cell? ⟨bx, 2, none⟩ = some (.int .u64 (n : Int)) ∧ w'.cell? ⟨bx, 3, none⟩ = some (.string s1) ∧ w'.cell? ⟨gw, j * 4, none⟩ = some (.int .i64 yk) ∧ w'.cell? ⟨gw, j * 4 + 1, none⟩ = some (.int .i64 yw) ∧ w'.cell? ⟨gw, j * 4 + 2, none⟩ = some (.int .u64 (yn : Int)) ∧ w'.cell? ⟨gw, j * 4 + 3, none⟩ = some (.string ys) ∧ w'.cell? ⟨gl, j, none⟩ = some (.int .i64 lv)) from by
            intro w' h1 h2 h3
            obtain ⟨b0, b1, b2, b3⟩ := h1.S
            obtain ⟨g2, c2, e2, f2⟩ := h2.at_ j hjo
            rw [outsN_len] at e2
            simp only [Value.slice.injEq, Option.some.injEq, Addr.mk.injEq, true_and, and_true] at e2
            obtain ⟨rfl, rfl⟩ := e2
            rw [HWant.out] at f2
            obtain ⟨d0, d1, d2, d3⟩ := f2
            have l0 := World.ownsRow.cells h3 (g := gl) rfl j _ HLeft.out
            rw [Addr.add_lit, Nat.zero_add] at l0
            exact ⟨b0, b1, b2, b3, d0, d1, d2, d3, l0⟩)
          have hS := HSOf.out w7 HBX.out HO.out HI.out
          replace HBX := Lib.hid (show Box4 w7.drew 27 bx (.int .i64 kd) (.int .i64 wd) (.int .u64 (n : Int)) (.string s1) from HBX.out)
          replace HRd := Lib.hid (show RdO w7.drew (some g) r from HRd.out)
          replace HR := Lib.hid (show FRow w7.drew w.heap.size (Value.slice (some ⟨gr, 0, none⟩) ms.length vc) ms from HR.out)
          replace HO := Lib.hid (show FRow w7.drew B0 (Value.slice (some ⟨gw, 0, none⟩) ms.length oc) (outsN r0 ms ms.length) from HO.out)
          replace HI := Lib.hid (show IRow w7.drew B0 (Value.slice (some ⟨gl, 0, none⟩) ms.length lc) (leftsN r0 ms ms.length) from HI.out)
          replace HB := Lib.hid (show Below w.heap.size w w7.drew from below_drew1 HB.out)
          refine start_ (n := 17) (S := fun w' => w'.cell? ⟨bx, 0, none⟩ = some (.int .i64 kd) ∧ w'.cell? ⟨bx, 1, none⟩ = some (.int .i64 wd) ∧ w'.cell? ⟨bx, 2, none⟩ = some (.int .u64 (n : Int)) ∧ w'.cell? ⟨bx, 3, none⟩ = some (.string s1) ∧ w'.cell? ⟨gw, j * 4, none⟩ = some (.int .i64 yk) ∧ w'.cell? ⟨gw, j * 4 + 1, none⟩ = some (.int .i64 yw) ∧ w'.cell? ⟨gw, j * 4 + 2, none⟩ = some (.int .u64 (yn : Int)) ∧ w'.cell? ⟨gw, j * 4 + 3, none⟩ = some (.string ys) ∧ w'.cell? ⟨gl, j, none⟩ = some (.int .i64 lv)) (ds := []) #[false, false, false, false, false, false, false, false, false, false, false, false, false, false, false, false, false] (by kernel_rfl) rfl rfl hS (fun hHeld => ?_)
          refine with_tabW rg5_14.tab rg5_14.bits (fun HT_ HW_ => ?_)
          generalize w7.drew = w' at HBX HRd HR HO HI HB hHeld ⊢
          refine pure_ (i := 0) (N := some 56) (v := ?_) (a' := ?_) #[true, false, false, false, false, false, false, false, false, false, false, false, false, false, false, false, false] rfl rfl (any_of HT_.out (by kernel_rfl)) (fun _ _ _ h => h) (Or.inl ⟨by rfl, ?_⟩) ?_ ?_
          rotate_left
          · intro w'
            go_simp
            try with_reducible rfl
          rotate_left
          · simp (maxSteps := 4000000) only [Act.put, List.setIfInBounds_toArray, List.set_cons_zero, List.set_cons_succ, i64_w, i32_w]
            try rfl
          refine pure_ (i := 3) (N := some 59) (v := ?_) (a' := ?_) #[true, false, false, true, false, false, false, false, false, false, false, false, false, false, false, false, false] rfl rfl (any_of HT_.out (by kernel_rfl)) (fun _ _ _ h => h) (Or.inl ⟨by rfl, ?_⟩) ?_ ?_
          rotate_left
          · intro w'
            go_simp
            try with_reducible rfl
          rotate_left
          · simp (maxSteps := 4000000) only [Act.put, List.setIfInBounds_toArray, List.set_cons_zero, List.set_cons_succ, i64_w, i32_w]
            try rfl
          refine pure_ (i := 4) (N := some 60) (v := ?_) (a' := ?_) #[true, false, false, true, true, false, false, false, false, false, false, false, false, false, false, false, false] rfl rfl (any_of HT_.out (by kernel_rfl)) (fun _ _ _ h => h) (Or.inl ⟨by rfl, ?_⟩) ?_ ?_
          rotate_left
          · intro w'
            go_simp
            try with_reducible rfl
          rotate_left
          · simp (maxSteps := 4000000) only [Act.put, List.setIfInBounds_toArray, List.set_cons_zero, List.set_cons_succ, i64_w, i32_w]
            try rfl
          refine pure_ (i := 5) (N := some 61) (v := ?_) (a' := ?_) #[true, false, false, true, true, true, false, false, false, false, false, false, false, false, false, false, false] rfl rfl (any_of HT_.out (by kernel_rfl)) (fun _ _ _ h => h) (Or.inl ⟨by rfl, ?_⟩) ?_ ?_
          rotate_left
          · intro w'
            go_simp
            try with_reducible rfl
          rotate_left
          · simp (maxSteps := 4000000) only [Act.put, List.setIfInBounds_toArray, List.set_cons_zero, List.set_cons_succ, i64_w, i32_w]
            try rfl
          refine take_ (i := 1) (N := some 57) (v := ?_) (a' := ?_) #[true, true, false, true, true, true, false, false, false, false, false, false, false, false, false, false, false] rfl rfl (take_ofW HT_.out HW_.out (by kernel_rfl)) (fun _ _ _ h => h) (Or.inl ⟨by rfl, ?_⟩) hHeld ?_ ?_
          rotate_left
          · intro w' hw_
            try dsimp only at hw_
            go_simp
            try with_reducible rfl
          rotate_left
          · simp (maxSteps := 4000000) only [Act.put, List.setIfInBounds_toArray, List.set_cons_zero, List.set_cons_succ, i64_w, i32_w]
            try rfl
          refine take_ (i := 6) (N := some 62) (v := ?_) (a' := ?_) #[true, true, false, true, true, true, true, false, false, false, false, false, false, false, false, false, false] rfl rfl (take_ofW HT_.out HW_.out (by kernel_rfl)) (fun _ _ _ h => h) (Or.inl ⟨by rfl, ?_⟩) hHeld ?_ ?_
          rotate_left
          · intro w' hw_
            try dsimp only at hw_
            go_simp
            try with_reducible rfl
          rotate_left
          · simp (maxSteps := 4000000) only [Act.put, List.setIfInBounds_toArray, List.set_cons_zero, List.set_cons_succ, i64_w, i32_w]
            try rfl
          refine one_ (i := 2) (N := some 58) #[true, true, true, true, true, true, true, false, false, false, false, false, false, false, false, false, false] rfl rfl (one_of HT_.out (by kernel_rfl)) (by decide) (fun K hK => ?_)
          refine goes_ Try.func18 (by kernel_rfl) rfl #[(wrP (some g)), (Value.agg #[Value.int IntKind.i64 kd, Value.int IntKind.i64 wd, Value.int IntKind.u64 (n : Int), Value.string s1])] (by rfl) rfl rfl (by (try simp only [List.map_toArray, List.map_cons, List.map_nil]); first | done | rfl) ?_
          refine (HRead.out w' HRd.out).mono ?_
          rintro e w' ⟨rfl, hrx, hg⟩
          refine ⟨_, rfl, ?_⟩
          replace HRd := Lib.hid hrx
          replace HBX := Lib.hid (HBX.out.grown hg hbx.out)
          replace HR := Lib.hid (show FRow _ w.heap.size _ ms from HR.out.kept hg (.inr HNe.out.1))
          replace HO := Lib.hid (show FRow _ B0 _ (outsN r0 ms ms.length) from HO.out.kept hg (.inr HNe.out.2.1))
          replace HI := Lib.hid (show IRow _ B0 _ (leftsN r0 ms ms.length) from HI.out.kept hg (.inr HNe.out.2.2))
          replace HB := Lib.hid (pw_below_grown HB.out _ HB.out.size hg (fun k hk => by cases hk; exact HG.out))
          clear hg hrx
          refine hK.out _ _ (HSOf.out _ HBX.out HO.out HI.out) (fun hHeld => ?_)
          clear hK K
          refine norm_ (a' := ?_) ?_ ?_
          rotate_left
          · show Act.put _ (some 58) _ = _
            simp (maxSteps := 4000000) only [Act.put, List.setIfInBounds_toArray, List.set_cons_zero, List.set_cons_succ, i64_w, i32_w]
            try rfl
          refine pure_ (i := 7) (N := some 63) (v := ?_) (a' := ?_) #[true, true, true, true, true, true, true, true, false, false, false, false, false, false, false, false, false] rfl rfl (any_of HT_.out (by kernel_rfl)) (fun _ _ _ h => h) (Or.inl ⟨by rfl, ?_⟩) ?_ ?_
          rotate_left
          · intro w'
            go_simp
            try with_reducible rfl
          rotate_left
          · simp (maxSteps := 4000000) only [Act.put, List.setIfInBounds_toArray, List.set_cons_zero, List.set_cons_succ, i64_w, i32_w]
            try rfl
          refine pure_ (i := 8) (N := some 64) (v := ?_) (a' := ?_) #[true, true, true, true, true, true, true, true, true, false, false, false, false, false, false, false, false] rfl rfl (any_of HT_.out (by kernel_rfl)) (fun _ _ _ h => h) (Or.inl ⟨by rfl, ?_⟩) ?_ ?_
          rotate_left
          · intro w'
            go_simp
            try with_reducible rfl
          rotate_left
          · simp (maxSteps := 4000000) only [Act.put, List.setIfInBounds_toArray, List.set_cons_zero, List.set_cons_succ, i64_w, i32_w]
            try rfl
          refine pure_ (i := 9) (N := some 65) (v := ?_) (a' := ?_) #[true, true, true, true, true, true, true, true, true, true, false, false, false, false, false, false, false] rfl rfl (any_of HT_.out (by kernel_rfl)) (fun _ _ _ h => h) (Or.inl ⟨by rfl, ?_⟩) ?_ ?_
          rotate_left
          · intro w'
            go_simp
            try with_reducible rfl
          rotate_left
          · simp (maxSteps := 4000000) only [Act.put, List.setIfInBounds_toArray, List.set_cons_zero, List.set_cons_succ, i64_w, i32_w]
            try rfl
          refine pure_ (i := 11) (N := some 67) (v := ?_) (a' := ?_) #[true, true, true, true, true, true, true, true, true, true, false, true, false, false, false, false, false] rfl rfl (any_of HT_.out (by kernel_rfl)) (fun _ _ _ h => h) (Or.inl ⟨by rfl, ?_⟩) ?_ ?_
          rotate_left
          · intro w'
            go_simp
            try with_reducible rfl
          rotate_left
          · simp (maxSteps := 4000000) only [Act.put, List.setIfInBounds_toArray, List.set_cons_zero, List.set_cons_succ, i64_w, i32_w]
            try rfl
          refine pure_ (i := 12) (N := some 68) (v := ?_) (a' := ?_) #[true, true, true, true, true, true, true, true, true, true, false, true, true, false, false, false, false] rfl rfl (any_of HT_.out (by kernel_rfl)) (fun _ _ _ h => h) (Or.inl ⟨by rfl, ?_⟩) ?_ ?_
          rotate_left
          · intro w'
            go_simp
            try with_reducible rfl
          rotate_left
          · simp (maxSteps := 4000000) only [Act.put, List.setIfInBounds_toArray, List.set_cons_zero, List.set_cons_succ, i64_w, i32_w]
            try rfl
          refine pure_ (i := 13) (N := some 69) (v := ?_) (a' := ?_) #[true, true, true, true, true, true, true, true, true, true, false, true, true, true, false, false, false] rfl rfl (any_of HT_.out (by kernel_rfl)) (fun _ _ _ h => h) (Or.inl ⟨by rfl, ?_⟩) ?_ ?_
          rotate_left
          · intro w'
            go_simp
            try with_reducible rfl
          rotate_left
          · simp (maxSteps := 4000000) only [Act.put, List.setIfInBounds_toArray, List.set_cons_zero, List.set_cons_succ, i64_w, i32_w]
            try rfl
          refine take_ (i := 14) (N := some 70) (v := ?_) (a' := ?_) #[true, true, true, true, true, true, true, true, true, true, false, true, true, true, true, false, false] rfl rfl (take_ofW HT_.out HW_.out (by kernel_rfl)) (fun _ _ _ h => h) (Or.inl ⟨by rfl, ?_⟩) hHeld ?_ ?_
          rotate_left
          · intro w' hw_
            try dsimp only at hw_
            go_simp
            try with_reducible rfl
          rotate_left
          · simp (maxSteps := 4000000) only [Act.put, List.setIfInBounds_toArray, List.set_cons_zero, List.set_cons_succ, i64_w, i32_w]
            try rfl
          refine one_ (i := 10) (N := some 66) #[true, true, true, true, true, true, true, true, true, true, true, true, true, true, true, false, false] rfl rfl (one_of HT_.out (by kernel_rfl)) (by decide) (fun K hK => ?_)
          refine goes_ Try.func15 (by kernel_rfl) rfl #[(wrP (some g))] (by rfl) rfl rfl (by (try simp only [List.map_toArray, List.map_cons, List.map_nil]); first | done | rfl) ?_
          refine (rd_left (some g) r2 w' HRd.out).mono ?_
          rintro e w' ⟨rfl, hdx⟩
          refine ⟨_, rfl, ?_⟩
          replace HRd := Lib.hid (HRd.out.below hdx)
          replace HBX := Lib.hid (HBX.out.below hdx)
          replace HR := Lib.hid (HR.out.below hdx)
          replace HO := Lib.hid (HO.out.below hdx)
          replace HI := Lib.hid (HI.out.below hdx)
          replace HB := Lib.hid (chainC HB.out hdx)
          clear hdx
          rw [HLv.out]
          refine hK.out _ _ (HSOf.out _ HBX.out HO.out HI.out) (fun hHeld => ?_)
          clear hK K
          refine norm_ (a' := ?_) ?_ ?_
          rotate_left
          · show Act.put _ (some 66) _ = _
            simp (maxSteps := 4000000) only [Act.put, List.setIfInBounds_toArray, List.set_cons_zero, List.set_cons_succ, i64_w, i32_w]
            try rfl
          refine pure_ (i := 15) (N := some 71) (v := ?_) (a' := ?_) #[true, true, true, true, true, true, true, true, true, true, true, true, true, true, true, true, false] rfl rfl (any_of HT_.out (by kernel_rfl)) (fun _ _ _ h => h) (Or.inl ⟨by rfl, ?_⟩) ?_ ?_
          rotate_left
          · intro w'
            go_simp
            try with_reducible rfl
          rotate_left
          · simp (maxSteps := 4000000) only [Act.put, List.setIfInBounds_toArray, List.set_cons_zero, List.set_cons_succ, i64_w, i32_w]
            try rfl
          refine pure_ (i := 16) (N := some 72) (v := ?_) (a' := ?_) #[true, true, true, true, true, true, true, true, true, true, true, true, true, true, true, true, true] rfl rfl (any_of HT_.out (by kernel_rfl)) (fun _ _ _ h => h) (Or.inl ⟨by rfl, ?_⟩) ?_ ?_
          rotate_left
          · intro w'
            go_simp
            try with_reducible rfl
          rotate_left
          · simp (maxSteps := 4000000) only [Act.put, List.setIfInBounds_toArray, List.set_cons_zero, List.set_cons_succ, i64_w, i32_w]
            try rfl
          refine done_ (done_of HT_.out (by kernel_rfl)) ?_
          have l0 := (HSOf.out _ HBX.out HO.out HI.out).2.2.2.2.2.2.2.2
          clear HSOf HRead hHeld hS HBX
          go_wp2
          go_roundw
          case rel => exact ⟨j + 1, hlt, by rw [e3], by rw [HAll.out, HLv.out], by rw [HAll.out]; exact HRd.out, HR.out, HO.out, HI.out, HB.out⟩
          case measure => rw [e3]; simp only [RowKit.intOf, Int.toNat_natCast]; exact Nat.sub_lt_sub_left hlt (Nat.lt_succ_self j)
        · obtain rfl : j = ms.length := Nat.le_antisymm hj (Nat.le_of_not_lt hlt)
          rw [List.take_length] at HRd ⊢
          clear HR HO HI HSl HOK
          generalize rdAll r0 ms = R at HRd ⊢
          obtain ⟨l, wr0⟩ := R
          simp only
          cases wr0 with
          | true =>
            have HE := Lib.hid (show rdE (some g) (l, true) = 4 from rfl)
            generalize (l.length : Int) = n
            go_wp2_with fail
            refine (wakes_ok wr).mono ?_
            rintro e w1 ⟨rfl, hd⟩
            replace HRd := Lib.hid (HRd.out.below hd)
            replace HB := Lib.hid (chainC HB.out hd); clear hd
            go_wp2_with fail
            refine (rd_end (some g) _ w1 HRd.out).mono ?_
            rintro e w2 ⟨rfl, hd⟩
            rw [HE.out]
            replace HRd := Lib.hid (HRd.out.below hd)
            replace HB := Lib.hid (chainC HB.out hd); clear hd
            go_wp2_with fail
            refine (rd_wrong (some g) _ w2 HRd.out).mono ?_
            rintro e w3 ⟨rfl, hd⟩
            replace HB := Lib.hid (chainC HB.out hd); clear hd HRd
            have nil : ∀ w : World, RdO w none ([], true) := fun w => ⟨fun g e => (by cases e), fun _ => rfl, Nat.zero_le _⟩
            have HNil := Lib.hid nil; clear nil
            dsimp only
            go_wp2_with fail
            refine (rd_wrong none ([], true) w3 (HNil.out _)).mono ?_
            rintro e w4 ⟨rfl, hd⟩
            replace HB := Lib.hid (chainC HB.out hd); clear hd
            dsimp only
            go_wp2_with fail
            refine (rd_number none ([], true) 2 w4 (HNil.out _) (by decide) (by decide)).mono ?_
            rintro e w5 ⟨rfl, _, hd⟩
            replace HB := Lib.hid (pw_below_grown HB.out _ HB.out.size hd (fun k hk => by cases hk)); clear hd
            rw [show ((rdN ([], true) 2 : Nat) : Int) = 0 from rfl]
            go_wp2_with fail
            refine (rd_signed none ([], true) w5 (HNil.out _)).mono ?_
            rintro e w6 ⟨rfl, _, hd⟩
            replace HB := Lib.hid (pw_below_grown HB.out _ HB.out.size hd (fun k hk => by cases hk)); clear hd
            rw [show wrap64 ((rdN ([], true) 8 : Nat) : Int) = 0 from by rw [show rdN ([], true) 8 = 0 from rfl]; unfold wrap64; omega]
            go_wp2_with fail
            refine (rd_text none ([], true) w6 (HNil.out _)).mono ?_
            rintro e w7 ⟨rfl, _, hd⟩
            replace HB := Lib.hid (pw_below_grown HB.out _ HB.out.size hd (fun k hk => by cases hk)); clear hd
            rw [show str (rdT ([], true)) = { data := #[] } from rfl]
            go_wp2_with fail
            refine (rd_left none ([], true) w7 (HNil.out _)).mono ?_
            rintro e w8 ⟨rfl, hd⟩
            replace HB := Lib.hid (chainC HB.out hd); clear hd
            rw [show (((([], true) : RdS).1.length : Nat) : Int) = 0 from rfl]
            go_wp2_with fail
            refine (rd_end none ([], true) w8 (HNil.out _)).mono ?_
            rintro e w9 ⟨rfl, hd⟩
            replace HB := Lib.hid (chainC HB.out hd); clear hd
            rw [show rdE none ([], true) = 1 from rfl]
            go_wp2
            go_ret
            exact ⟨rfl, HB.out⟩
          | false =>
            cases l with
            | nil =>
              have HE := Lib.hid (show rdE (some g) ([], false) = 0 from rfl)
              rw [show ((([] : List UInt8).length : Nat) : Int) = 0 from rfl]
              go_wp2_with fail
              refine (wakes_ok wr).mono ?_
              rintro e w1 ⟨rfl, hd⟩
              replace HRd := Lib.hid (HRd.out.below hd)
              replace HB := Lib.hid (chainC HB.out hd); clear hd
              go_wp2_with fail
              refine (rd_end (some g) _ w1 HRd.out).mono ?_
              rintro e w2 ⟨rfl, hd⟩
              rw [HE.out]
              replace HRd := Lib.hid (HRd.out.below hd)
              replace HB := Lib.hid (chainC HB.out hd); clear hd
              go_wp2_with fail
              refine (rd_wrong (some g) _ w2 HRd.out).mono ?_
              rintro e w3 ⟨rfl, hd⟩
              replace HB := Lib.hid (chainC HB.out hd); clear hd HRd
              have nil : ∀ w : World, RdO w none ([], true) := fun w => ⟨fun g e => (by cases e), fun _ => rfl, Nat.zero_le _⟩
              have HNil := Lib.hid nil; clear nil
              dsimp only
              go_wp2_with fail
              refine (rd_wrong none ([], true) w3 (HNil.out _)).mono ?_
              rintro e w4 ⟨rfl, hd⟩
              replace HB := Lib.hid (chainC HB.out hd); clear hd
              dsimp only
              go_wp2_with fail
              refine (rd_number none ([], true) 2 w4 (HNil.out _) (by decide) (by decide)).mono ?_
              rintro e w5 ⟨rfl, _, hd⟩
              replace HB := Lib.hid (pw_below_grown HB.out _ HB.out.size hd (fun k hk => by cases hk)); clear hd
              rw [show ((rdN ([], true) 2 : Nat) : Int) = 0 from rfl]
              go_wp2_with fail
              refine (rd_signed none ([], true) w5 (HNil.out _)).mono ?_
              rintro e w6 ⟨rfl, _, hd⟩
              replace HB := Lib.hid (pw_below_grown HB.out _ HB.out.size hd (fun k hk => by cases hk)); clear hd
              rw [show wrap64 ((rdN ([], true) 8 : Nat) : Int) = 0 from by rw [show rdN ([], true) 8 = 0 from rfl]; unfold wrap64; omega]
              go_wp2_with fail
              refine (rd_text none ([], true) w6 (HNil.out _)).mono ?_
              rintro e w7 ⟨rfl, _, hd⟩
              replace HB := Lib.hid (pw_below_grown HB.out _ HB.out.size hd (fun k hk => by cases hk)); clear hd
              rw [show str (rdT ([], true)) = { data := #[] } from rfl]
              go_wp2_with fail
              refine (rd_left none ([], true) w7 (HNil.out _)).mono ?_
              rintro e w8 ⟨rfl, hd⟩
              replace HB := Lib.hid (chainC HB.out hd); clear hd
              rw [show (((([], true) : RdS).1.length : Nat) : Int) = 0 from rfl]
              go_wp2_with fail
              refine (rd_end none ([], true) w8 (HNil.out _)).mono ?_
              rintro e w9 ⟨rfl, hd⟩
              replace HB := Lib.hid (chainC HB.out hd); clear hd
              rw [show rdE none ([], true) = 1 from rfl]
              go_wp2
              go_ret
              exact ⟨rfl, HB.out⟩
            | cons b l =>
              have HE := Lib.hid (show rdE (some g) (b :: l, false) = 4 from rfl)
              have hn : 0 < (((b :: l).length : Nat) : Int) := by rw [List.length_cons]; omega
              generalize (((b :: l).length : Nat) : Int) = n at hn ⊢
              have cn : decide (0 < n) = true := decide_eq_true hn
              go_wp2_with fail
              refine (wakes_ok wr).mono ?_
              rintro e w1 ⟨rfl, hd⟩
              replace HRd := Lib.hid (HRd.out.below hd)
              replace HB := Lib.hid (chainC HB.out hd); clear hd
              go_wp2_with fail
              refine (rd_end (some g) _ w1 HRd.out).mono ?_
              rintro e w2 ⟨rfl, hd⟩
              rw [HE.out]
              replace HRd := Lib.hid (HRd.out.below hd)
              replace HB := Lib.hid (chainC HB.out hd); clear hd
              go_wp2_with fail
              refine (rd_wrong (some g) _ w2 HRd.out).mono ?_
              rintro e w3 ⟨rfl, hd⟩
              replace HB := Lib.hid (chainC HB.out hd); clear hd HRd
              have nil : ∀ w : World, RdO w none ([], true) := fun w => ⟨fun g e => (by cases e), fun _ => rfl, Nat.zero_le _⟩
              have HNil := Lib.hid nil; clear nil
              dsimp only
              go_wp2_with fail
              refine (rd_wrong none ([], true) w3 (HNil.out _)).mono ?_
              rintro e w4 ⟨rfl, hd⟩
              replace HB := Lib.hid (chainC HB.out hd); clear hd
              dsimp only
              go_wp2_with fail
              refine (rd_number none ([], true) 2 w4 (HNil.out _) (by decide) (by decide)).mono ?_
              rintro e w5 ⟨rfl, _, hd⟩
              replace HB := Lib.hid (pw_below_grown HB.out _ HB.out.size hd (fun k hk => by cases hk)); clear hd
              rw [show ((rdN ([], true) 2 : Nat) : Int) = 0 from rfl]
              go_wp2_with fail
              refine (rd_signed none ([], true) w5 (HNil.out _)).mono ?_
              rintro e w6 ⟨rfl, _, hd⟩
              replace HB := Lib.hid (pw_below_grown HB.out _ HB.out.size hd (fun k hk => by cases hk)); clear hd
              rw [show wrap64 ((rdN ([], true) 8 : Nat) : Int) = 0 from by rw [show rdN ([], true) 8 = 0 from rfl]; unfold wrap64; omega]
              go_wp2_with fail
              refine (rd_text none ([], true) w6 (HNil.out _)).mono ?_
              rintro e w7 ⟨rfl, _, hd⟩
              replace HB := Lib.hid (pw_below_grown HB.out _ HB.out.size hd (fun k hk => by cases hk)); clear hd
              rw [show str (rdT ([], true)) = { data := #[] } from rfl]
              go_wp2_with fail
              refine (rd_left none ([], true) w7 (HNil.out _)).mono ?_
              rintro e w8 ⟨rfl, hd⟩
              replace HB := Lib.hid (chainC HB.out hd); clear hd
              rw [show (((([], true) : RdS).1.length : Nat) : Int) = 0 from rfl]
              go_wp2_with fail
              refine (rd_end none ([], true) w8 (HNil.out _)).mono ?_
              rintro e w9 ⟨rfl, hd⟩
              replace HB := Lib.hid (chainC HB.out hd); clear hd
              rw [show rdE none ([], true) = 1 from rfl]
              go_wp2
              go_ret
              exact ⟨rfl, HB.out⟩
theorem curReads_law (a0 : ByteArray) (a1 : Option Addr) (len1 cap1 : Nat) (W : World) (w0 : a0.size ≤ 140737488351232) (w1 : RowIn W [.int .i64, .int .i64, .int .u64, .str] a1 len1) (y1 : len1 ≤ cap1 ∧ cap1 ≤ maxLen) :
    Calls Try.prog 5 #[.string a0, .slice a1 len1 cap1] W fun e w' => e = .returned (.bool true) ∧ Below W.heap.size W w' := by
  obtain ⟨fs, rfl, h⟩ := fds_of w1
  exact curReads_walk a0 w0 a1 fs cap1 y1 W h
end Go.Proofs.Ytdpnnokchmjflaa
