/- CurBack: fields that were written are read again, in their order, and nothing is left; a part of their bytes is wrong at the end: the walk. No conditions beyond the form's own reach. -/
import Derived.Test.YtdpnnokchmjflaaXCurBackL
namespace Go.Proofs.Ytdpnnokchmjflaa
open Go.RowKit Go.Lib Go.Proofs.Ytdpnnokchmjflaa.P Go.Proofs.Ytdpnnokchmjflaa.BeS Go.Proofs.YtdpnnokchmjflaaW.PrintWords Go.Proofs.YtdpnnokchmjflaaW.PrintLast Go.Proofs.YtdpnnokchmjflaaW.PrintMore
set_option linter.unusedVariables false
set_option linter.unusedSimpArgs false
def rg6_10.T : Bool × List (List Nat × List Nat) := (true, [([], []), ([0], [0]), ([], []), ([2], [2]), ([3], [3]), ([4], [4]), ([1, 5], [1, 5]), ([0, 1, 2, 3, 4, 5, 6], []), ([7, 6, 0, 1, 2, 3, 4, 5, 6], [6, 7])])
def rg6_10.B : List Nat := [0, 1, 0, 4, 12, 28, 63, 127, 255]
theorem rg6_10.tab : rtab .any (opsOf Try.f6 10) = rg6_10.T := by kernel_rfl
theorem rg6_10.bits : waitsOk rg6_10.T.2 rg6_10.B = true := by kernel_rfl
theorem encF_cells {w : World} {b : Nat} {f : Fd} (h : w.cell? ⟨b, 0, none⟩ = some (.int .i64 f.kind) ∧ w.cell? ⟨b, 1, none⟩ = some (.int .i64 f.width) ∧ w.cell? ⟨b, 2, none⟩ = some (.int .u64 (f.n : Int)) ∧ w.cell? ⟨b, 3, none⟩ = some (.string f.s)) (q : Nat) (u : Value) (hq : (encF f)[q]? = some u) : w.cell? ⟨b, q, none⟩ = some u := by
  obtain ⟨h0, h1, h2, h3⟩ := h
  match q, hq with
  | 0, hq => simp [encF] at hq; rw [← hq]; exact h0
  | 1, hq => simp [encF] at hq; rw [← hq]; exact h1
  | 2, hq => simp [encF] at hq; rw [← hq]; exact h2
  | 3, hq => simp [encF] at hq; rw [← hq]; exact h3
  | q + 4, hq => simp [encF] at hq

theorem shl_one (m : Nat) (h : m < 8) : IntKind.u64.wrap ((2 : Int) ^ (8 * m)) = ((256 ^ m : Nat) : Int) := by
  have e : (256 : Nat) ^ m = 2 ^ (8 * m) := by rw [show (256 : Nat) = 2 ^ 8 from rfl, ← Nat.pow_mul]
  have h2 : (256 : Nat) ^ m ≤ 256 ^ 7 := Nat.pow_le_pow_right (by decide) (by omega)
  have e2 : (2 : Int) ^ (8 * m) = ((256 ^ m : Nat) : Int) := by rw [e]; simp
  rw [e2]
  exact u64_wrap_nat _ (Nat.lt_of_le_of_lt h2 (by decide))

set_option maxHeartbeats 4000000 in
set_option maxRecDepth 100000 in
theorem curBack_walk (a : Option Addr) (fs : List Fd) (cap : Nat) (hcap : fs.length ≤ cap ∧ cap ≤ maxLen) (ct : Nat) (hct : ct < 65536) (w : World) (h : FdsAt w a fs) :
    Calls Try.prog 6 #[.slice a fs.length cap, .int .u16 (ct : Int)] w fun e w' => e = .returned (.bool true) ∧ Below w.heap.size w w' := by
  have HF := Lib.hid h; clear h
  obtain ⟨N, hN, hN1, hN2, hN3⟩ : ∃ N : Nat, (if 20 < (fs.length : Int) then 20 else (fs.length : Int)) = (N : Int) ∧ N ≤ fs.length ∧ N ≤ 20 ∧ N ≤ cap := ⟨min fs.length 20, by split <;> omega, by omega, by omega, by omega⟩
  have c1 : (0 ≤ (N : Int)) = True := eq_true (by omega)
  have c2 : ((N : Int) ≤ (cap : Int)) = True := eq_true (by omega)
  have c3 : (N ≤ cap) = True := eq_true hN3
  have c4 : decide (N ≤ cap) = true := decide_eq_true hN3
  have HC := Lib.hid hcap; clear hcap
  have HN := Lib.hid (And.intro hN1 hN2); clear hN1 hN2 hN3
  have HCt := Lib.hid hct; clear hct
  go_enter Try.func6, Try.ntmps6
  go_wp2_with fail
  clear hN c1 c2 c3 c4
  go_loopw [5, 23] (fun v i wr => ∃ j : Nat, j ≤ N ∧ i = .int .i64 (j : Int) ∧ FRow wr w.heap.size v ((fs.take j).map bkF) ∧ Below w.heap.size w wr) (fun _ i _ => N - (RowKit.intOf i).toNat)
  case atStart => exact ⟨0, Nat.zero_le _, rfl, World.ownsRow_nil _ _ _ _, Below.refl _ _⟩
  case round =>
    obtain ⟨j, hj, rfl, h1, h2⟩ := hrel
    have HR := Lib.hid h1; clear h1
    have HB := Lib.hid h2; clear h2
    by_cases hlt : j < N
    · have hjf : j < fs.length := Nat.lt_of_lt_of_le hlt HN.out.1
      obtain ⟨hin, g, off, rfl, hc⟩ := HF.out j hjf
      replace hc := hc.below HB.out
      have hmap : (fs.take (j + 1)).map bkF = (fs.take j).map bkF ++ [bkF fs[j]] := by rw [List.take_succ_eq_append_getElem hjf, List.map_append]; rfl
      have HMap := Lib.hid hmap; clear hmap
      have HIn := Lib.hid hin; clear hin
      have hml : ((fs.take j).map bkF).length = j := by rw [List.length_map, List.length_take]; omega
      have HMl := Lib.hid hml; clear hml
      generalize fs[j] = f at hc HMap HIn
      obtain ⟨k0, k1, k2, k3⟩ := hc
      have e3 : wrap64 ((j : Int) + 1) = ((j + 1 : Nat) : Int) := wrap_succ j (Nat.lt_of_lt_of_le hlt (Nat.le_trans HN.out.2 (by decide)))
      obtain ⟨va, vc, rfl⟩ := HR.out.form
      rw [HMl.out] at HR ⊢
      have ha := (Below.refl wr.heap.size wr).alloc (Nat.le_refl _) (Obj.cells #[Value.int IntKind.i64 f.kind, Value.int IntKind.i64 f.width, Value.int IntKind.u64 (f.n : Int), Value.string f.s] 26)
      replace HR := Lib.hid (HR.out.below ha)
      replace HB := Lib.hid (chainC HB.out ha); clear ha
      go_wp2_with fail
      generalize (wr.alloc (Obj.cells #[Value.int IntKind.i64 f.kind, Value.int IntKind.i64 f.width, Value.int IntKind.u64 (f.n : Int), Value.string f.s] 26)) = w1 at HR HB ⊢
      refine (of_ok f HIn.out w1).mono ?_
      rintro e w2 ⟨rfl, hd⟩
      replace HR := Lib.hid (HR.out.below hd)
      replace HB := Lib.hid (chainC HB.out hd); clear hd k0 k1 k2 k3
      have hbk : bkF f = if (ofF f).kind = 0 then ⟨0, bkW f, bkN f, (ofF f).s.extract 0 (min (ofF f).s.size 200)⟩ else ⟨(ofF f).kind, f.width, f.n, (ofF f).s.extract 0 (min (ofF f).s.size 200)⟩ := rfl
      have hok := ofF_ok HIn.out
      have hw0 : (ofF f).width = f.width := rfl
      have hn0 : (ofF f).n = f.n := rfl
      generalize hx : ofF f = x at hbk hok hw0 hn0 ⊢
      clear hx
      obtain ⟨kd, wd, n, s⟩ := x
      simp only at hbk hw0 hn0 ⊢
      subst hw0 hn0
      have HOk := Lib.hid hok; clear hok
      obtain ⟨q, hq, hq1, hq2⟩ : ∃ q : Nat, (if 200 < (s.size : Int) then 200 else (s.size : Int)) = (q : Int) ∧ q ≤ s.size ∧ min s.size 200 = q := ⟨min s.size 200, by split <;> omega, by omega, rfl⟩
      rw [hq2] at hbk
      have c1 : (0 ≤ (q : Int)) = True := eq_true (by omega)
      have c2 : ((q : Int) ≤ (s.size : Int)) = True := eq_true (by omega)
      have c3 : (q ≤ s.size) = True := eq_true hq1
      have c4 : decide (q ≤ s.size) = true := decide_eq_true hq1
      clear hq2
      by_cases hk0 : kd = 0
      · subst hk0
        rw [if_pos rfl] at hbk
        obtain ⟨m0, hm0⟩ : ∃ m0 : Nat, (if 0 < f.width then f.width else 0) = (m0 : Int) := ⟨(max 0 f.width).toNat, by split <;> omega⟩
        obtain ⟨m, hm, hm1, hm8⟩ : ∃ m : Nat, 1 + (m0 : Int) % 8 = (m : Int) ∧ 1 ≤ m ∧ m ≤ 8 := ⟨1 + m0 % 8, by omega, by omega, by omega⟩
        have hbw : bkW f = (m : Int) := by
          unfold bkW
          rw [← hm]
          have : max 0 f.width = (m0 : Int) := by rw [← hm0]; split <;> omega
          rw [this]
        have hmod : Int.tmod (m0 : Int) 8 = (m0 : Int) % 8 := by rw [Int.tmod_eq_emod_of_nonneg (by omega)]
        unfold bkN at hbk
        rw [hbw] at hbk
        have Hm := Lib.hid (And.intro hm1 hm8); clear hm1 hm8 hbw
        by_cases hm8 : m < 8
        · have cm : decide (m < 8) = true := decide_eq_true hm8
          rw [if_pos (by omega)] at hbk
          rw [hbk] at HMap
          have HM8 := Lib.hid hm8
          clear hbk
          go_wp2_with fail
          obtain ⟨D, hD⟩ : ∃ D : Nat, D = 256 ^ m := ⟨_, rfl⟩
          obtain ⟨r, hr⟩ : ∃ r : Nat, r = f.n % 256 ^ m := ⟨_, rfl⟩
          have hmap2 : (fs.take (j + 1)).map bkF = (fs.take j).map bkF ++ [⟨0, (m : Int), r, s.extract 0 q⟩] := by rw [HMap.out, hr, Int.toNat_natCast]
          replace HMap := Lib.hid hmap2; clear hmap2
          have e8k : wrap64 (8 * (m : Int)) = 8 * (m : Int) := by have := Hm.out; unfold wrap64; omega
          have e8p : (0 ≤ 8 * (m : Int)) = True := eq_true (by omega)
          have hsh : IntKind.u64.wrap ((2 : Int) ^ (8 * m)) = (D : Int) := by rw [hD]; exact shl_one m HM8.out
          have hsh2 : IntKind.u64.wrap ((2 : Int) ^ (8 * (m : Int)).toNat) = (D : Int) := by rw [show (8 * (m : Int)).toNat = 8 * m by omega]; exact hsh
          have hrem : Int.tmod (f.n : Int) (D : Int) = (r : Int) := by rw [hr, hD, tmod_nat]
          have hD0 : ¬ D = 0 := by rw [hD]; exact Nat.ne_of_gt (Nat.pow_pos (by decide))
          clear hr hD
          have hnb := Lib.hid (show ∀ k, (Value.slice va j vc).ownBlock = some k → k < w2.heap.size from fun k hk => (HR.out.lt k hk).2)
          have HBX := Lib.hid (Box4.new w2 27 (.int .i64 0) (.int .i64 (m : Int)) (.int .u64 (f.n : Int)) (.string (s.extract 0 q)))
          have ha0 := (Below.refl w2.heap.size w2).alloc (Nat.le_refl _) (Obj.cells #[Value.int IntKind.i64 0, Value.int IntKind.i64 (m : Int), Value.int IntKind.u64 (f.n : Int), Value.string (s.extract 0 q)] 27)
          replace HR := Lib.hid (HR.out.below ha0)
          have HBB := Lib.hid (HB.out.size)
          replace HB := Lib.hid (chainC HB.out ha0); clear ha0
          generalize w2.alloc (Obj.cells #[Value.int IntKind.i64 0, Value.int IntKind.i64 (m : Int), Value.int IntKind.u64 (f.n : Int), Value.string (s.extract 0 q)] 27) = w5 at HBX HR HB ⊢
          generalize w2.heap.size = b8 at HBX HBB hnb ⊢
          replace HBX := Lib.hid (show Box4 w5.drew 27 b8 (.int .i64 0) (.int .i64 (m : Int)) (.int .u64 (f.n : Int)) (.string (s.extract 0 q)) from HBX.out)
          replace HB := Lib.hid (show Below w.heap.size w w5.drew from below_drew1 HB.out)
          replace HR := Lib.hid (show FRow w5.drew w.heap.size (Value.slice va j vc) ((fs.take j).map bkF) from HR.out)
          have hS : w5.cell? ⟨b8, 2, none⟩ = some (.int .u64 (f.n : Int)) ∧ w5.cell? ⟨b8, 1, none⟩ = some (.int .i64 (m : Int)) := ⟨HBX.out.S.2.2.1, HBX.out.S.2.1⟩
          refine start_ (n := 9) (S := fun w' => w'.cell? ⟨b8, 2, none⟩ = some (.int .u64 (f.n : Int)) ∧ w'.cell? ⟨b8, 1, none⟩ = some (.int .i64 (m : Int))) (ds := [8]) #[false, false, false, false, false, false, false, false, false] (by kernel_rfl) rfl rfl hS (fun hHeld => ?_)
          refine with_tabW rg6_10.tab rg6_10.bits (fun HT_ HW_ => ?_)
          generalize w5.drew = w' at HBX HB HR hHeld ⊢
          refine pure_ (i := 0) (N := some 49) (v := ?_) (a' := ?_) #[true, false, false, false, false, false, false, false, false] rfl rfl (any_of HT_.out (by kernel_rfl)) (fun _ _ _ h => h) (Or.inl ⟨by rfl, ?_⟩) ?_ ?_
          rotate_left
          · intro w'
            go_simp
            try with_reducible rfl
          rotate_left
          · simp (maxSteps := 4000000) only [Act.put, List.setIfInBounds_toArray, List.set_cons_zero, List.set_cons_succ, i64_w, i32_w]
            try rfl
          refine pure_ (i := 2) (N := some 51) (v := ?_) (a' := ?_) #[true, false, true, false, false, false, false, false, false] rfl rfl (any_of HT_.out (by kernel_rfl)) (fun _ _ _ h => h) (Or.inl ⟨by rfl, ?_⟩) ?_ ?_
          rotate_left
          · intro w'
            go_simp
            try with_reducible rfl
          rotate_left
          · simp (maxSteps := 4000000) only [Act.put, List.setIfInBounds_toArray, List.set_cons_zero, List.set_cons_succ, i64_w, i32_w]
            try rfl
          refine take_ (i := 1) (N := some 50) (v := ?_) (a' := ?_) #[true, true, true, false, false, false, false, false, false] rfl rfl (take_ofW HT_.out HW_.out (by kernel_rfl)) (fun _ _ _ h => h) (Or.inl ⟨by rfl, ?_⟩) hHeld ?_ ?_
          rotate_left
          · intro w' hw_
            try dsimp only at hw_
            go_simp
            try with_reducible rfl
          rotate_left
          · simp (maxSteps := 4000000) only [Act.put, List.setIfInBounds_toArray, List.set_cons_zero, List.set_cons_succ, i64_w, i32_w]
            try rfl
          refine take_ (i := 3) (N := some 52) (v := ?_) (a' := ?_) #[true, true, true, true, false, false, false, false, false] rfl rfl (take_ofW HT_.out HW_.out (by kernel_rfl)) (fun _ _ _ h => h) (Or.inl ⟨by rfl, ?_⟩) hHeld ?_ ?_
          rotate_left
          · intro w' hw_
            try dsimp only at hw_
            go_simp
            try with_reducible rfl
          rotate_left
          · simp (maxSteps := 4000000) only [Act.put, List.setIfInBounds_toArray, List.set_cons_zero, List.set_cons_succ, i64_w, i32_w]
            try rfl
          refine pure_ (i := 4) (N := some 53) (v := ?_) (a' := ?_) #[true, true, true, true, true, false, false, false, false] rfl rfl (any_of HT_.out (by kernel_rfl)) (fun _ _ _ h => h) (Or.inl ⟨by rfl, ?_⟩) ?_ ?_
          rotate_left
          · intro w'
            go_simp
            try with_reducible rfl
          rotate_left
          · simp (maxSteps := 4000000) only [Act.put, List.setIfInBounds_toArray, List.set_cons_zero, List.set_cons_succ, i64_w, i32_w]
            try rfl
          refine pure_ (i := 5) (N := some 54) (v := ?_) (a' := ?_) #[true, true, true, true, true, true, false, false, false] rfl rfl (any_of HT_.out (by kernel_rfl)) (fun _ _ _ h => h) (Or.inl ⟨by rfl, ?_⟩) ?_ ?_
          rotate_left
          · intro w'
            go_simp
            try with_reducible rfl
          rotate_left
          · simp (maxSteps := 4000000) only [Act.put, List.setIfInBounds_toArray, List.set_cons_zero, List.set_cons_succ, i64_w, i32_w]
            try rfl
          refine pure_ (i := 6) (N := some 55) (v := ?_) (a' := ?_) #[true, true, true, true, true, true, true, false, false] rfl rfl (any_of HT_.out (by kernel_rfl)) (fun _ _ _ h => h) (Or.inl ⟨by rfl, ?_⟩) ?_ ?_
          rotate_left
          · intro w'
            go_simp
            try with_reducible rfl
          rotate_left
          · simp (maxSteps := 4000000) only [Act.put, List.setIfInBounds_toArray, List.set_cons_zero, List.set_cons_succ, i64_w, i32_w]
            try rfl
          refine pure_ (i := 7) (N := some 56) (v := ?_) (a' := ?_) #[true, true, true, true, true, true, true, true, false] rfl rfl (any_of HT_.out (by kernel_rfl)) (fun _ _ _ h => h) (Or.inl ⟨by rfl, ?_⟩) ?_ ?_
          rotate_left
          · intro w'
            go_simp
            try with_reducible rfl
          rotate_left
          · simp (maxSteps := 4000000) only [Act.put, List.setIfInBounds_toArray, List.set_cons_zero, List.set_cons_succ, i64_w, i32_w]
            try rfl
          refine last_ (i := 8) (N := none) #[true, true, true, true, true, true, true, true, true] rfl rfl (one_of HT_.out (by kernel_rfl)) (by decide) (fun K hK => ?_)
          refine skip_ (w1 := w'.setCell ⟨b8, 2, none⟩ (.int .u64 (r : Int))) (by rfl) rfl ?_ ?_
          · (obtain ⟨k0, k1, k2, k3⟩ := HBX.out.S; obtain ⟨f0, f1, f2, f3⟩ := HBX.out.F; go_simp)
          refine hK.out _ _ ?_
          clear hK K
          refine done_ (done_of HT_.out (by kernel_rfl)) ?_
          replace HR := Lib.hid (show FRow (w'.setCell ⟨b8, 2, none⟩ (.int .u64 (r : Int))) w.heap.size (Value.slice va j vc) ((fs.take j).map bkF) from HR.out.kept (Lib.grownBy_setCell w' b8 2 _) (.inr (fun e => Nat.lt_irrefl _ (hnb.out b8 e))))
          replace HB := Lib.hid (below_set HB.out (b := b8) (i := 2) (v := .int .u64 (r : Int)) HBB.out)
          replace HBX := Lib.hid (HBX.out.set2 (.int .u64 (r : Int)))
          generalize w'.setCell ⟨b8, 2, none⟩ (.int .u64 (r : Int)) = w6 at HBX HR HB ⊢
          obtain ⟨z0, z1, z2, z3⟩ := HBX.out.S
          obtain ⟨i0, hi, hz0, hz1, hz2⟩ := info_parts fd_info
          have hn := (Box4.new (w6) 27 (.int .i64 0) (.int .i64 (m : Int)) (.int .u64 (r : Int)) (.string (s.extract 0 q))).S
          have ha := (Below.refl (w6).heap.size (w6)).alloc (Nat.le_refl _) (Obj.cells #[Value.int IntKind.i64 0, Value.int IntKind.i64 (m : Int), Value.int IntKind.u64 (r : Int), Value.string (s.extract 0 q)] 27)
          replace HR := Lib.hid (HR.out.below ha)
          replace HB := Lib.hid (chainC HB.out ha); clear ha
          have hor := HR.out
          unfold FRow at hor
          rw [HMl.out] at hor
          have HO := Lib.hid hor; clear hor HR
          skip
          go_wp2_with (at_builtin; refine wpList_append_own _ rfl _ _ 23 rfl w.heap.size 27 i0 (.agg #[.int .i64 0, .int .i64 0, .int .u64 0, .string ByteArray.empty]) 4 40 Try.underlying23 hi hz0 hz1 hz2 rfl (by decide) _ _ _ rfl HO.out ⟨w6.heap.size, 0, none⟩ 1 1 (encF ⟨0, (m : Int), r, (s.extract 0 q)⟩) rfl ?qc1 ?qc2 ?qc3 ?qc4 ?qc5 ?qc6 ?_)
          case qc1 => rfl
          case qc2 =>
            intro q u hq
            rw [Addr.add_lit, Nat.zero_add]
            exact encF_cells hn q u hq
          case qc3 => intro u hu; exact encF_one [_] u (by simpa using hu)
          case qc4 => exact Nat.le_trans (Nat.succ_le_of_lt hlt) (Nat.le_trans HN.out.2 (by decide))
          case qc5 => exact Nat.le_trans (Nat.mul_le_mul_right 40 (Nat.le_trans (Nat.succ_le_of_lt hlt) HN.out.2)) (by decide)
          case qc6 => exact HB.out.size
          intro v' w3 ho hgr _
          have hb3 := pw_below_grown HB.out _ HB.out.size hgr (fun k hk => (HO.out.lt k hk).1)
          replace HB := Lib.hid hb3; clear hb3
          have hr3 : FRow w3 w.heap.size v' ((fs.take (j + 1)).map bkF) := by
            rw [HMap.out]
            exact FRow.more (by rw [HMl.out, List.map_take]; exact ho)
          have HR3 := Lib.hid hr3; clear hr3
          obtain ⟨ya, yc, rfl⟩ := own_slice ho
          clear ho hgr hn HO hi hz0 hz1 hz2
          go_wp2
          go_roundw
          case rel => exact ⟨j + 1, hlt, by rw [e3], HR3.out, HB.out⟩
          case measure => rw [e3]; simp only [RowKit.intOf, Int.toNat_natCast]; exact Nat.sub_lt_sub_left hlt (Nat.lt_succ_self j)
        · have hm9 : (m : Int) = 8 := by have := Hm.out; omega
          rw [if_neg (by omega), hm9] at hbk
          rw [hm9] at hm
          rw [hbk] at HMap
          have hpos : 0 < f.width := by
            rcases Int.lt_or_le 0 f.width with h | h
            · exact h
            · rw [if_neg (by omega)] at hm0; omega
          rw [if_pos hpos] at hm0
          have hmo2 : Int.tmod f.width 8 = 7 := by rw [Int.tmod_eq_emod_of_nonneg (by omega)]; omega
          clear hbk hm8 hm9 Hm hm0 hm hmod
          have ha0 := (Below.refl w2.heap.size w2).alloc (Nat.le_refl _) (Obj.cells #[Value.int IntKind.i64 0, Value.int IntKind.i64 8, Value.int IntKind.u64 (f.n : Int), Value.string (s.extract 0 q)] 27)
          replace HR := Lib.hid (HR.out.below ha0)
          replace HB := Lib.hid (chainC HB.out ha0); clear ha0
          obtain ⟨i0, hi, hz0, hz1, hz2⟩ := info_parts fd_info
          have hn := (Box4.new (w2.alloc (Obj.cells #[Value.int IntKind.i64 0, Value.int IntKind.i64 8, Value.int IntKind.u64 (f.n : Int), Value.string (s.extract 0 q)] 27)) 27 (.int .i64 0) (.int .i64 8) (.int .u64 (f.n : Int)) (.string (s.extract 0 q))).S
          have ha := (Below.refl (w2.alloc (Obj.cells #[Value.int IntKind.i64 0, Value.int IntKind.i64 8, Value.int IntKind.u64 (f.n : Int), Value.string (s.extract 0 q)] 27)).heap.size (w2.alloc (Obj.cells #[Value.int IntKind.i64 0, Value.int IntKind.i64 8, Value.int IntKind.u64 (f.n : Int), Value.string (s.extract 0 q)] 27))).alloc (Nat.le_refl _) (Obj.cells #[Value.int IntKind.i64 0, Value.int IntKind.i64 8, Value.int IntKind.u64 (f.n : Int), Value.string (s.extract 0 q)] 27)
          replace HR := Lib.hid (HR.out.below ha)
          replace HB := Lib.hid (chainC HB.out ha); clear ha
          have hor := HR.out
          unfold FRow at hor
          rw [HMl.out] at hor
          have HO := Lib.hid hor; clear hor HR
          rw [show (w2.alloc (Obj.cells #[Value.int IntKind.i64 0, Value.int IntKind.i64 8, Value.int IntKind.u64 (f.n : Int), Value.string (s.extract 0 q)] 27)).heap.size = w2.heap.size + 1 by simp] at hn
          go_wp2_with (at_builtin; refine wpList_append_own _ rfl _ _ 23 rfl w.heap.size 27 i0 (.agg #[.int .i64 0, .int .i64 0, .int .u64 0, .string ByteArray.empty]) 4 40 Try.underlying23 hi hz0 hz1 hz2 rfl (by decide) _ _ _ rfl HO.out ⟨w2.heap.size + 1, 0, none⟩ 1 1 (encF ⟨0, 8, f.n, (s.extract 0 q)⟩) rfl ?qc1 ?qc2 ?qc3 ?qc4 ?qc5 ?qc6 ?_)
          case qc1 => rfl
          case qc2 =>
            intro q u hq
            rw [Addr.add_lit, Nat.zero_add]
            exact encF_cells hn q u hq
          case qc3 => intro u hu; exact encF_one [_] u (by simpa using hu)
          case qc4 => exact Nat.le_trans (Nat.succ_le_of_lt hlt) (Nat.le_trans HN.out.2 (by decide))
          case qc5 => exact Nat.le_trans (Nat.mul_le_mul_right 40 (Nat.le_trans (Nat.succ_le_of_lt hlt) HN.out.2)) (by decide)
          case qc6 => exact HB.out.size
          intro v' w3 ho hgr _
          have hb3 := pw_below_grown HB.out _ HB.out.size hgr (fun k hk => (HO.out.lt k hk).1)
          replace HB := Lib.hid hb3; clear hb3
          have hr3 : FRow w3 w.heap.size v' ((fs.take (j + 1)).map bkF) := by
            rw [HMap.out]
            exact FRow.more (by rw [HMl.out, List.map_take]; exact ho)
          have HR3 := Lib.hid hr3; clear hr3
          obtain ⟨ya, yc, rfl⟩ := own_slice ho
          clear ho hgr hn HO hi hz0 hz1 hz2
          go_wp2
          go_roundw
          case rel => exact ⟨j + 1, hlt, by rw [e3], HR3.out, HB.out⟩
          case measure => rw [e3]; simp only [RowKit.intOf, Int.toNat_natCast]; exact Nat.sub_lt_sub_left hlt (Nat.lt_succ_self j)
      · rw [if_neg hk0] at hbk
        rw [hbk] at HMap
        clear hbk
        have ck : decide (kd = 0) = false := decide_eq_false hk0
        have ha0 := (Below.refl w2.heap.size w2).alloc (Nat.le_refl _) (Obj.cells #[Value.int IntKind.i64 kd, Value.int IntKind.i64 f.width, Value.int IntKind.u64 (f.n : Int), Value.string (s.extract 0 q)] 27)
        replace HR := Lib.hid (HR.out.below ha0)
        replace HB := Lib.hid (chainC HB.out ha0); clear ha0
        obtain ⟨i0, hi, hz0, hz1, hz2⟩ := info_parts fd_info
        have hn := (Box4.new (w2.alloc (Obj.cells #[Value.int IntKind.i64 kd, Value.int IntKind.i64 f.width, Value.int IntKind.u64 (f.n : Int), Value.string (s.extract 0 q)] 27)) 27 (.int .i64 kd) (.int .i64 f.width) (.int .u64 (f.n : Int)) (.string (s.extract 0 q))).S
        have ha := (Below.refl (w2.alloc (Obj.cells #[Value.int IntKind.i64 kd, Value.int IntKind.i64 f.width, Value.int IntKind.u64 (f.n : Int), Value.string (s.extract 0 q)] 27)).heap.size (w2.alloc (Obj.cells #[Value.int IntKind.i64 kd, Value.int IntKind.i64 f.width, Value.int IntKind.u64 (f.n : Int), Value.string (s.extract 0 q)] 27))).alloc (Nat.le_refl _) (Obj.cells #[Value.int IntKind.i64 kd, Value.int IntKind.i64 f.width, Value.int IntKind.u64 (f.n : Int), Value.string (s.extract 0 q)] 27)
        replace HR := Lib.hid (HR.out.below ha)
        replace HB := Lib.hid (chainC HB.out ha); clear ha
        have hor := HR.out
        unfold FRow at hor
        rw [HMl.out] at hor
        have HO := Lib.hid hor; clear hor HR
        rw [show (w2.alloc (Obj.cells #[Value.int IntKind.i64 kd, Value.int IntKind.i64 f.width, Value.int IntKind.u64 (f.n : Int), Value.string (s.extract 0 q)] 27)).heap.size = w2.heap.size + 1 by simp] at hn
        go_wp2_with (at_builtin; refine wpList_append_own _ rfl _ _ 23 rfl w.heap.size 27 i0 (.agg #[.int .i64 0, .int .i64 0, .int .u64 0, .string ByteArray.empty]) 4 40 Try.underlying23 hi hz0 hz1 hz2 rfl (by decide) _ _ _ rfl HO.out ⟨w2.heap.size + 1, 0, none⟩ 1 1 (encF ⟨kd, f.width, f.n, (s.extract 0 q)⟩) rfl ?qc1 ?qc2 ?qc3 ?qc4 ?qc5 ?qc6 ?_)
        case qc1 => rfl
        case qc2 =>
          intro q u hq
          rw [Addr.add_lit, Nat.zero_add]
          exact encF_cells hn q u hq
        case qc3 => intro u hu; exact encF_one [_] u (by simpa using hu)
        case qc4 => exact Nat.le_trans (Nat.succ_le_of_lt hlt) (Nat.le_trans HN.out.2 (by decide))
        case qc5 => exact Nat.le_trans (Nat.mul_le_mul_right 40 (Nat.le_trans (Nat.succ_le_of_lt hlt) HN.out.2)) (by decide)
        case qc6 => exact HB.out.size
        intro v' w3 ho hgr _
        have hb3 := pw_below_grown HB.out _ HB.out.size hgr (fun k hk => (HO.out.lt k hk).1)
        replace HB := Lib.hid hb3; clear hb3
        have hr3 : FRow w3 w.heap.size v' ((fs.take (j + 1)).map bkF) := by
          rw [HMap.out]
          exact FRow.more (by rw [HMl.out, List.map_take]; exact ho)
        have HR3 := Lib.hid hr3; clear hr3
        obtain ⟨ya, yc, rfl⟩ := own_slice ho
        clear ho hgr hn HO hi hz0 hz1 hz2
        go_wp2
        go_roundw
        case rel => exact ⟨j + 1, hlt, by rw [e3], HR3.out, HB.out⟩
        case measure => rw [e3]; simp only [RowKit.intOf, Int.toNat_natCast]; exact Nat.sub_lt_sub_left hlt (Nat.lt_succ_self j)
    · obtain rfl : j = N := Nat.le_antisymm hj (Nat.le_of_not_lt hlt)
      have hfine : ∀ f ∈ (fs.take j).map bkF, f.Fine := by
        intro f hf
        obtain ⟨f0, h0, rfl⟩ := List.mem_map.mp hf
        obtain ⟨i, hi, rfl⟩ := List.mem_iff_getElem.mp (List.mem_of_mem_take h0)
        exact bkF_fine (HF.out i hi).1
      have hml : ((fs.take j).map bkF).length = j := by rw [List.length_map, List.length_take]; have := HN.out.1; omega
      have HFine := Lib.hid hfine; clear hfine
      generalize (fs.take j).map bkF = ms at HR HFine hml
      obtain ⟨va, vc, rfl⟩ := HR.out.form
      have HL := Lib.hid (show ms.length ≤ 20 by rw [hml]; exact HN.out.2); clear hml
      clear HF HC HN hj
      have HOK := Lib.hid (show ∀ f ∈ ms, f.Ok from fun f hf => (HFine.out f hf).toOk)
      have HBad := Lib.hid (fine_bad HFine.out)
      have HLen := Lib.hid (show (bytesFs ms).length ≤ 5120 by have := bytesFs_len ms; have := HL.out; omega)
      have HBs := Lib.hid HB.out.size
      have HW := Lib.hid (wr_new wr)
      have HK := Lib.hid (show ∀ k, (Value.slice va ms.length vc).ownBlock = some k → k < wr.heap.size from fun k hk => (HR.out.lt k hk).2)
      have ha := (Below.refl wr.heap.size wr).alloc (Nat.le_refl _) (.cells #[.slice none 0 0, .bool false] 37)
      replace HR := Lib.hid (HR.out.below ha)
      replace HB := Lib.hid (chainC HB.out ha); clear ha
      go_wp2_with fail
      generalize (wr.alloc (Obj.cells #[Value.slice none 0 0, Value.bool false] 37)) = w2 at HW HR HB ⊢
      generalize wr.heap.size = base at HW HK HBs ⊢
      refine (write_ok base (some base) w.heap.size ms (Nat.le_trans HL.out (by decide)) HOK.out va vc w2 HW.out.o HR.out HK.out).mono ?_
      rintro e w3 ⟨rfl, hw, hd⟩
      rw [HBad.out] at hw
      replace HR := Lib.hid (HR.out.belowB hd HK.out)
      replace HB := Lib.hid (HB.out.trans (hd.mono HBs.out)); clear hd
      replace HW := Lib.hid (hw.2 _ rfl); clear hw
      go_wp2_with fail
      refine (wr_bytes base base _ _ w3 HW.out).mono ?_
      rintro e w4 ⟨rfl, hd⟩
      replace HR := Lib.hid (HR.out.below hd)
      replace HB := Lib.hid (chainC HB.out hd); clear hd HW
      rw [show (if false = true then ({ data := #[] } : ByteArray) else str (bytesFs ms)) = str (bytesFs ms) from rfl, show (if false = true then (2 : Int) else 0) = 0 from rfl]
      obtain ⟨sb, hsb⟩ : ∃ sb, sb = str (bytesFs ms) := ⟨_, rfl⟩
      rw [← hsb]
      have HSb := Lib.hid hsb; clear hsb
      clear HK HBs HBad
      go_wp2_with fail
      refine (wakes_ok w4).mono ?_
      rintro e w5 ⟨rfl, hd⟩
      replace HR := Lib.hid (HR.out.below hd)
      replace HB := Lib.hid (chainC HB.out hd); clear hd
      go_wp2_with fail
      refine (rd_new sb (by rw [HSb.out, str_size]; have := HLen.out; omega) w5).mono ?_
      rintro e w6 ⟨rfl, hr, _, hd⟩
      have hsd : sb.data.toList = bytesFs ms := by rw [HSb.out, str_data]
      rw [hsd] at hr
      clear hsd
      have HRd := Lib.hid hr; clear hr
      have hne : (Value.slice va ms.length vc).ownBlock ≠ some w5.heap.size := fun e => Nat.lt_irrefl _ (HR.out.lt _ e).2
      have HNe := Lib.hid hne; clear hne
      have HG := Lib.hid HB.out.size
      replace HR := Lib.hid (HR.out.below hd)
      replace HB := Lib.hid (chainC HB.out hd); clear hd
      generalize w5.heap.size = g at HRd HNe HG ⊢
      clear hlt
      go_wp2_with fail
      go_loopw [80] (fun i wr => ∃ j : Nat, j ≤ ms.length ∧ i = .int .i64 (j : Int) ∧ RdO wr (some g) (bytesFs (ms.drop j), false) ∧ FRow wr w.heap.size (Value.slice va ms.length vc) ms ∧ Below w.heap.size w wr) (fun i _ => ms.length - (RowKit.intOf i).toNat)
      case atStart => exact ⟨0, Nat.zero_le _, rfl, HRd.out, HR.out, HB.out⟩
      case round =>
        clear HR HB HRd
        obtain ⟨j, hj, rfl, h1, h2, h3⟩ := hrel
        have HRd := Lib.hid h1; clear h1
        have HR := Lib.hid h2; clear h2
        have HB := Lib.hid h3; clear h3
        by_cases hlt : j < ms.length
        · have hdrop : bytesFs (ms.drop j) = bytesF ms[j] ++ bytesFs (ms.drop (j + 1)) := by
            rw [List.drop_eq_getElem_cons hlt]; unfold bytesFs; rw [List.flatMap_cons]
          rw [hdrop] at HRd
          clear hdrop
          have HFk := Lib.hid (HFine.out ms[j] (List.getElem_mem hlt))
          have HRf := Lib.hid (rd_fine HFk.out (bytesFs (ms.drop (j + 1))))
          obtain ⟨gr, cap', hf, hc⟩ := HR.out.at_ j hlt
          simp only [Value.slice.injEq, true_and] at hf
          obtain ⟨rfl, rfl⟩ := hf
          have HLt := Lib.hid HRd.out.lt
          generalize ms[j] = f at hc HFk HRf HRd
          obtain ⟨k0, k1, k2, k3⟩ := hc
          have e3 : wrap64 ((j : Int) + 1) = ((j + 1 : Nat) : Int) := wrap_succ j (Nat.lt_of_lt_of_le hlt (Nat.le_trans HL.out (by decide)))
          generalize bytesF f ++ bytesFs (ms.drop (j + 1)) = l0 at HRf HRd
          have ha := (Below.refl wr.heap.size wr).alloc (Nat.le_refl _) (Obj.cells #[Value.int IntKind.i64 f.kind, Value.int IntKind.i64 f.width, Value.int IntKind.u64 (f.n : Int), Value.string f.s] 27)
          have HBX := Lib.hid (Box4.new wr 27 (.int .i64 f.kind) (.int .i64 f.width) (.int .u64 (f.n : Int)) (.string f.s))
          replace HRd := Lib.hid (HRd.out.below ha)
          replace HR := Lib.hid (HR.out.below ha)
          replace HB := Lib.hid (chainC HB.out ha); clear ha
          have hbx := Lib.hid (show (some g : Option Nat) ≠ some wr.heap.size from fun e => by have := HLt.out g rfl; cases e; omega)
          go_wp2_with fail
          generalize (wr.alloc (Obj.cells #[Value.int IntKind.i64 f.kind, Value.int IntKind.i64 f.width, Value.int IntKind.u64 (f.n : Int), Value.string f.s] 27)) = w7 at HRd HR HB HBX ⊢
          generalize wr.heap.size = bx at HBX hbx ⊢
          refine (read_ok (some g) _ f HFk.out.toOk w7 HRd.out).mono ?_
          rintro e w8 ⟨rfl, hr, hg⟩
          rw [HRf.out.2.2] at hr
          replace HRd := Lib.hid hr; clear hr
          replace HBX := Lib.hid (HBX.out.grown hg hbx.out)
          replace HR := Lib.hid (HR.out.kept hg (.inr HNe.out))
          replace HB := Lib.hid (pw_below_grown HB.out _ HB.out.size hg (fun k hk => by cases hk; exact HG.out)); clear hg k0 k1 k2 k3
          have hrf := HRf.out
          clear HRf
          have hkk : (rdF (l0, false) f).kind = f.kind := by unfold rdF; split; rfl; split <;> rfl
          rw [hkk]
          clear hkk
          generalize rdF (l0, false) f = y at hrf ⊢
          obtain ⟨yk, yw, yn, ys⟩ := y
          simp only at hrf ⊢
          obtain ⟨kd, wd, n, s⟩ := f
          simp only at hrf HBX ⊢
          by_cases hk2 : kd = 2
          · skip
            have hys := hrf.1 hk2
            subst hys hk2
            clear hrf
            have ha := (Below.refl w8.heap.size w8).alloc (Nat.le_refl _) (Obj.cells #[Value.int IntKind.i64 2, Value.int IntKind.i64 yw, Value.int IntKind.u64 (yn : Int), Value.string ys] 27)
            obtain ⟨q0, q1, q2, q3⟩ := (HBX.out.below ha).S
            replace HRd := Lib.hid (HRd.out.below ha)
            replace HR := Lib.hid (pw_own_below HR.out ha)
            replace HB := Lib.hid (chainC HB.out ha); clear ha HBX
            go_wp2
            go_roundw
            case rel => exact ⟨j + 1, hlt, by rw [e3], HRd.out, HR.out, HB.out⟩
            case measure => rw [e3]; simp only [RowKit.intOf, Int.toNat_natCast]; exact Nat.sub_lt_sub_left hlt (Nat.lt_succ_self j)
          · skip
            have hyn := hrf.2.1 hk2
            subst hyn
            have ck : decide (kd = 2) = false := decide_eq_false hk2
            clear hrf
            have ha := (Below.refl w8.heap.size w8).alloc (Nat.le_refl _) (Obj.cells #[Value.int IntKind.i64 kd, Value.int IntKind.i64 yw, Value.int IntKind.u64 (yn : Int), Value.string ys] 27)
            obtain ⟨q0, q1, q2, q3⟩ := (HBX.out.below ha).S
            replace HRd := Lib.hid (HRd.out.below ha)
            replace HR := Lib.hid (pw_own_below HR.out ha)
            replace HB := Lib.hid (chainC HB.out ha); clear ha HBX
            go_wp2
            go_roundw
            case rel => exact ⟨j + 1, hlt, by rw [e3], HRd.out, HR.out, HB.out⟩
            case measure => rw [e3]; simp only [RowKit.intOf, Int.toNat_natCast]; exact Nat.sub_lt_sub_left hlt (Nat.lt_succ_self j)
        · obtain rfl : j = ms.length := Nat.le_antisymm hj (Nat.le_of_not_lt hlt)
          rw [List.drop_length] at HRd
          replace HRd := Lib.hid (show RdO wr (some g) ([], false) from HRd.out)
          go_wp2_with fail
          refine (rd_end (some g) _ wr HRd.out).mono ?_
          rintro e w9 ⟨rfl, hd⟩
          rw [show rdE (some g) ([], false) = 0 from rfl]
          replace HRd := Lib.hid (HRd.out.below hd)
          replace HR := Lib.hid (pw_own_below HR.out hd)
          replace HB := Lib.hid (chainC HB.out hd); clear hd
          go_wp2_with fail
          refine (rd_left (some g) _ w9 HRd.out).mono ?_
          rintro e w10 ⟨rfl, hd⟩
          rw [show (((([], false) : RdS).1.length : Nat) : Int) = 0 from rfl]
          replace HR := Lib.hid (pw_own_below HR.out hd)
          replace HB := Lib.hid (chainC HB.out hd); clear hd HRd
          have hsz : sb.size = (bytesFs ms).length := by rw [HSb.out, str_size]
          have HSz := Lib.hid hsz; clear hsz
          by_cases h0 : sb.size = 0
          · have c0 : decide (sb.size = 0) = true := decide_eq_true h0
            go_wp2
            go_ret
            exact ⟨rfl, HB.out⟩
          · obtain ⟨c, hc, hcl⟩ : ∃ c : Nat, (ct : Int) % (sb.size : Int) = (c : Int) ∧ c < sb.size := ⟨ct % sb.size, by omega, Nat.mod_lt _ (by omega)⟩
            have c0 : decide (sb.size = 0) = false := decide_eq_false h0
            have c5 : Int.tmod (ct : Int) (sb.size : Int) = (c : Int) := by rw [Int.tmod_eq_emod_of_nonneg (by omega)]; exact hc
            have c1 : (0 ≤ (c : Int)) = True := eq_true (by omega)
            have c2 : ((c : Int) ≤ (sb.size : Int)) = True := eq_true (by omega)
            have c3 : (c ≤ sb.size) = True := eq_true (by omega)
            have c4 : decide (c ≤ sb.size) = true := decide_eq_true (by omega)
            have HCl := Lib.hid (show c < (bytesFs ms).length by rw [← HSz.out]; exact hcl)
            have HE := Lib.hid (show sb.extract 0 c = str ((bytesFs ms).take c) by rw [HSb.out, str_extract]; rfl)
            have c6 : wrap64 (ct : Int) = (ct : Int) := wrap64_in _ (by omega) (by have := HCt.out; omega)
            clear hcl hc
            go_wp2_with fail
            rw [HE.out]
            refine (rd_new (str ((bytesFs ms).take c)) (by rw [str_size, List.length_take]; have := HLen.out; omega) w10).mono ?_
            rintro e w11 ⟨rfl, hr, _, hd⟩
            rw [str_data] at hr
            replace HRd := Lib.hid hr; clear hr
            have hne : (Value.slice va ms.length vc).ownBlock ≠ some w10.heap.size := fun e => Nat.lt_irrefl _ (HR.out.lt _ e).2
            replace HNe := Lib.hid hne; clear hne
            replace HG := Lib.hid HB.out.size
            replace HR := Lib.hid (pw_own_below HR.out hd)
            replace HB := Lib.hid (chainC HB.out hd); clear hd
            generalize w10.heap.size = g3 at HRd HNe HG ⊢
            have HAll := Lib.hid (rdAll_cut ms HFine.out c HCl.out)
            generalize (((bytesFs ms).take c, false) : RdS) = r0 at HRd HAll ⊢
            clear hlt hj HE HCl c0 c1 c2 c3 c4 c5 c6 h0
            go_wp2_with fail
            go_loopw [131] (fun i wr => ∃ j : Nat, j ≤ ms.length ∧ i = .int .i64 (j : Int) ∧ RdO wr (some g3) (rdAll r0 (ms.take j)) ∧ FRow wr w.heap.size (Value.slice va ms.length vc) ms ∧ Below w.heap.size w wr) (fun i _ => ms.length - (RowKit.intOf i).toNat)
            case atStart => exact ⟨0, Nat.zero_le _, rfl, HRd.out, HR.out, HB.out⟩
            case round =>
              clear HR HB HRd
              obtain ⟨j, hj, rfl, h1, h2, h3⟩ := hrel
              have HRd := Lib.hid h1; clear h1
              have HR := Lib.hid h2; clear h2
              have HB := Lib.hid h3; clear h3
              by_cases hlt : j < ms.length
              · have HTk := Lib.hid (rdAll_take r0 ms j hlt)
                have HFk := Lib.hid (HFine.out ms[j] (List.getElem_mem hlt))
                obtain ⟨gr, cap', hf, hc⟩ := HR.out.at_ j hlt
                simp only [Value.slice.injEq, true_and] at hf
                obtain ⟨rfl, rfl⟩ := hf
                generalize ms[j] = f at hc HFk HTk
                obtain ⟨k0, k1, k2, k3⟩ := hc
                have e3 : wrap64 ((j : Int) + 1) = ((j + 1 : Nat) : Int) := wrap_succ j (Nat.lt_of_lt_of_le hlt (Nat.le_trans HL.out (by decide)))
                have ha := (Below.refl wr.heap.size wr).alloc (Nat.le_refl _) (Obj.cells #[Value.int IntKind.i64 f.kind, Value.int IntKind.i64 f.width, Value.int IntKind.u64 (f.n : Int), Value.string f.s] 27)
                replace HRd := Lib.hid (HRd.out.below ha)
                replace HR := Lib.hid (HR.out.below ha)
                replace HB := Lib.hid (chainC HB.out ha); clear ha
                go_wp2_with fail
                generalize (wr.alloc (Obj.cells #[Value.int IntKind.i64 f.kind, Value.int IntKind.i64 f.width, Value.int IntKind.u64 (f.n : Int), Value.string f.s] 27)) = w7 at HRd HR HB ⊢
                refine (read_ok (some g3) _ f HFk.out.toOk w7 HRd.out).mono ?_
                rintro e w8 ⟨rfl, hr, hg⟩
                rw [← HTk.out] at hr
                replace HRd := Lib.hid hr; clear hr
                replace HR := Lib.hid (HR.out.kept hg (.inr HNe.out))
                replace HB := Lib.hid (pw_below_grown HB.out _ HB.out.size hg (fun k hk => by cases hk; exact HG.out)); clear hg k0 k1 k2 k3
                go_wp2
                go_roundw
                case rel => exact ⟨j + 1, hlt, by rw [e3], HRd.out, HR.out, HB.out⟩
                case measure => rw [e3]; simp only [RowKit.intOf, Int.toNat_natCast]; exact Nat.sub_lt_sub_left hlt (Nat.lt_succ_self j)
              · obtain rfl : j = ms.length := Nat.le_antisymm hj (Nat.le_of_not_lt hlt)
                rw [List.take_length, HAll.out] at HRd
                go_wp2_with fail
                refine (rd_end (some g3) _ wr HRd.out).mono ?_
                rintro e w9 ⟨rfl, hd⟩
                rw [show rdE (some g3) ([], true) = 4 from rfl]
                replace HB := Lib.hid (chainC HB.out hd); clear hd
                go_wp2
                go_ret
                exact ⟨rfl, HB.out⟩
theorem curBack_law (a0 : Option Addr) (len0 cap0 : Nat) (a1 : Int) (W : World) (w0 : RowIn W [.int .i64, .int .i64, .int .u64, .str] a0 len0) (y0 : len0 ≤ cap0 ∧ cap0 ≤ maxLen) (w1 : (Lit.int .u16 a1).wf = true) :
    Calls Try.prog 6 #[.slice a0 len0 cap0, .int .u16 a1] W fun e w' => e = .returned (.bool true) ∧ Below W.heap.size W w' := by
  obtain ⟨fs, rfl, h⟩ := fds_of w0
  obtain ⟨c, rfl, hc⟩ := wf_u16 w1
  exact curBack_walk a0 fs cap0 y0 c hc W h
end Go.Proofs.Ytdpnnokchmjflaa
