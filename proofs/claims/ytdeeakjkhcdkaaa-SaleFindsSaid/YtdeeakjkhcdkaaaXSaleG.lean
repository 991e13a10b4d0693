/- sale: Get, List, Next, last. No conditions beyond those that are written. -/
import Derived.Test.YtdeeakjkhcdkaaaXSaleT
namespace Go.Proofs.Ytdeeakjkhcdkaaa
open Go.RowKit Go.Lib Go.Proofs.YtdeeakjkhcdkaaaW.PrintWords Go.Proofs.YtdeeakjkhcdkaaaW.PrintLast Go.Proofs.YtdeeakjkhcdkaaaW.PrintMore
set_option linter.unusedVariables false
set_option linter.unusedSimpArgs false
--@tables
theorem next_ok {base g : Nat} {v : Value} {keep next : Nat} {xs : List (TP × Value)} (w : World) (h : RegV w base g v keep next xs) : Calls Try.prog 13 #[.pointer (some ⟨g, 0, none⟩)] w fun e w' => e = .returned (.int .i64 (next : Int)) ∧ w = w' := by
  obtain ⟨_, c1, _⟩ := h.cells
  clear h
  go_enter Try.func13, Try.ntmps13
  go_wp2
  go_ret
  exact ⟨rfl, rfl⟩
set_option maxHeartbeats 4000000 in
/-- 'l[max(0, len(l)-n):]'. -/
theorem last_ok {base : Nat} {v : Value} {xs : List (TP × Value)} (n : Nat) (w : World) (h : RowO encT 8 37 w base v xs) (hl : xs.length ≤ 100000) (hn : n ≤ 100000) :
    Calls Try.prog 32 #[v, .int .i64 (n : Int)] w fun e w' => ∃ v', e = .returned v' ∧ RowO encT 8 37 w base v' (xs.drop (xs.length - n)) ∧ (∀ k, v'.ownBlock = some k → v.ownBlock = some k) ∧ w = w' := by
  have a1 : wrap64 ((xs.length : Int) - (n : Int)) = (xs.length : Int) - (n : Int) := by unfold wrap64; omega
  have a2 : max 0 ((xs.length : Int) - (n : Int)) = ((xs.length - n : Nat) : Int) := by omega
  have a3 : (if 0 < (xs.length : Int) - (n : Int) then (xs.length : Int) - (n : Int) else 0) = ((xs.length - n : Nat) : Int) := by split <;> omega
  have hm : xs.length - n ≤ xs.length := Nat.sub_le _ _
  rcases h with ⟨rfl, rfl⟩ | ⟨g, off, cap, cur, rfl, h2, h3, h4, h5, h6, h7⟩
  · simp only [List.length_nil, Nat.zero_sub] at a1 a2 a3
    go_enter Try.func32, Try.ntmps32
    go_wp2
    go_ret
    exact ⟨_, rfl, by simpa using RowO.nil _ _ _ _ _, fun k hk => hk, rfl⟩
  · have hO : RowO encT 8 37 w base (.slice (some ⟨g, off, none⟩) xs.length cap) xs := .inr ⟨g, off, cap, cur, rfl, h2, h3, h4, h5, h6, h7⟩
    have HO := Lib.hid hO
    clear h2 h3 h4 h6 h7 hO
    generalize xs.length - n = m at a2 a3 hm ⊢
    have b1 : (0 ≤ (m : Int)) = True := eq_true (by omega)
    have b2 : ((m : Int) ≤ (xs.length : Int)) = True := eq_true (by omega)
    have b3 : (m ≤ xs.length) = True := eq_true hm
    have b4 : decide (m ≤ xs.length) = true := decide_eq_true hm
    have Hm := Lib.hid hm; clear hm
    by_cases hcm : cap = m
    · have HD := Lib.hid (HO.out.drop encT_len m Hm.out off (.inr ⟨by omega, rfl⟩))
      rw [show xs.length - m = 0 by omega, show cap - m = 0 by omega] at HD
      subst hcm
      go_enter Try.func32, Try.ntmps32
      go_wp2
      go_ret
      exact ⟨_, rfl, HD.out, fun k hk => hk, rfl⟩
    · have HD := Lib.hid (HO.out.drop encT_len m Hm.out (off + m * 8) (.inl rfl))
      go_enter Try.func32, Try.ntmps32
      go_wp2
      go_ret
      exact ⟨_, rfl, HD.out, fun k hk => hk, rfl⟩
theorem TP.fst_get {xs : List (TP × Value)} {i : Nat} (hi : i < xs.length) : (xs.map Prod.fst).getD i z0 = xs[i].1 := by
  rw [List.getD_eq_getElem?_getD, List.getElem?_map, List.getElem?_eq_getElem hi]
  rfl
/-- The eight cells of a row's element. -/
theorem row8 {w : World} {base gr off n cap : Nat} {xs : List (TP × Value)} (h : RowO encT 8 37 w base (.slice (some ⟨gr, off, none⟩) n cap) xs) (i : Nat) (hi : i < xs.length) :
    w.cell? ⟨gr, off + i * 8, none⟩ = some (.int .i64 xs[i].1.num) ∧ w.cell? ⟨gr, off + i * 8 + 1, none⟩ = some (.int .u8 xs[i].1.kind) ∧ w.cell? ⟨gr, off + i * 8 + 2, none⟩ = some (.int .i64 xs[i].1.shift) ∧ w.cell? ⟨gr, off + i * 8 + 3, none⟩ = some (.int .i64 xs[i].1.ref) ∧ w.cell? ⟨gr, off + i * 8 + 4, none⟩ = some (.int .i64 xs[i].1.amount) ∧ w.cell? ⟨gr, off + i * 8 + 5, none⟩ = some (.int .i64 xs[i].1.left) ∧ w.cell? ⟨gr, off + i * 8 + 6, none⟩ = some (.bool xs[i].1.void) ∧ w.cell? ⟨gr, off + i * 8 + 7, none⟩ = some (isSl xs[i].2) :=
  ⟨h.at_ encT_len i 0 hi (by decide) _ rfl, h.at_ encT_len i 1 hi (by decide) _ rfl, h.at_ encT_len i 2 hi (by decide) _ rfl, h.at_ encT_len i 3 hi (by decide) _ rfl, h.at_ encT_len i 4 hi (by decide) _ rfl, h.at_ encT_len i 5 hi (by decide) _ rfl, h.at_ encT_len i 6 hi (by decide) _ rfl, h.at_ encT_len i 7 hi (by decide) _ rfl⟩
set_option maxHeartbeats 4000000 in
theorem get_none {base g : Nat} {v : Value} {keep next : Nat} {xs : List (TP × Value)} (n : Int) (w : World) (h : RegV w base g v keep next xs) (hn : idxR next xs.length n = none) :
    Calls Try.prog 11 #[.pointer (some ⟨g, 0, none⟩), .int .i64 n] w fun e w' => e = .returned (.tuple #[aggT z0 (.slice none 0 0), .bool false]) ∧ Below w.heap.size w w' := by
  have HRg := Lib.hid h; clear h
  have hb := below_alloc (Below.refl w.heap.size w) (.cells #[.int .i64 0, .int .u8 0, .int .i64 0, .int .i64 0, .int .i64 0, .int .i64 0, .bool false, .slice none 0 0] 37)
  have hZ := BoxT.new w z0 (.slice none 0 0)
  have HN := Lib.hid (idxR_none hn); clear hn
  go_enter Try.func11, Try.ntmps11
  go_wp2_with fail
  generalize hw1 : w.alloc (.cells #[.int .i64 0, .int .u8 0, .int .i64 0, .int .i64 0, .int .i64 0, .int .i64 0, .bool false, .slice none 0 0] 37) = w1 at hb ⊢
  replace hZ : BoxT w1 w.heap.size z0 (.slice none 0 0) := hw1 ▸ hZ
  have HZ := Lib.hid hZ
  replace HRg := Lib.hid (HRg.out.below hb)
  have HB := Lib.hid hb
  clear hZ hb hw1
  generalize hbz : w.heap.size = bz at HZ ⊢
  have Hbz := Lib.hid (show w.heap.size ≤ bz by omega); clear hbz
  refine (find_none n w1 HRg.out HN.out).mono ?_
  rintro e w2 ⟨rfl, hd⟩
  replace HZ := Lib.hid (HZ.out.below hd.below)
  replace HB := Lib.hid (chain2 HB.out hd.below); clear hd
  obtain ⟨d0, d1, d2, d3, d4, d5, d6, d7⟩ := HZ.out.cells
  obtain ⟨g0, g1, g2, g3, g4, g5, g6, g7⟩ := HZ.out.free
  go_wp2
  have h8 := HZ.out.set8 z0 (.slice none 0 0)
  refine bodyPost_ret (results_ct rfl _ _ bz 37 _ (0, 0) _ rfl h8 Try.underlying37 rfl tx_size) rfl ?_
  exact ⟨rfl, below_set8 HB.out Hbz.out _ _ _ _ _ _ _ _⟩
set_option maxHeartbeats 8000000 in
theorem get_some {base g : Nat} {v : Value} {keep next : Nat} {xs : List (TP × Value)} (n : Int) (i : Nat) (w : World) (h : RegV w base g v keep next xs) (hn : idxR next xs.length n = some i) :
    Calls Try.prog 11 #[.pointer (some ⟨g, 0, none⟩), .int .i64 n] w fun e w' => ∃ v', e = .returned (.tuple #[aggT ((xs.map Prod.fst).getD i z0) v', .bool true]) ∧ RowO encL 2 58 w' w.heap.size v' ((xs.map Prod.fst).getD i z0).ls ∧ Below w.heap.size w w' := by
  obtain ⟨hi, hn⟩ := idxR_some hn
  rw [TP.fst_get hi]
  have HRg := Lib.hid h; clear h
  have hb := below_alloc (Below.refl w.heap.size w) (.cells #[.int .i64 0, .int .u8 0, .int .i64 0, .int .i64 0, .int .i64 0, .int .i64 0, .bool false, .slice none 0 0] 37)
  have hZ := BoxT.new w z0 (.slice none 0 0)
  have HN := Lib.hid hn; clear hn
  have HL := Lib.hid (show xs[i].1.ls.length ≤ 1000000 from Nat.le_trans (HRg.out.ll _ (List.getElem_mem hi)) (by decide))
  obtain ⟨ra, rc, rfl⟩ := HRg.out.sl
  go_enter Try.func11, Try.ntmps11
  go_wp2_with fail
  generalize hw1 : w.alloc (.cells #[.int .i64 0, .int .u8 0, .int .i64 0, .int .i64 0, .int .i64 0, .int .i64 0, .bool false, .slice none 0 0] 37) = w1 at hb ⊢
  replace hZ : BoxT w1 w.heap.size z0 (.slice none 0 0) := hw1 ▸ hZ
  have HZ := Lib.hid hZ
  replace HRg := Lib.hid (HRg.out.below hb)
  have HB := Lib.hid hb
  clear hZ hb hw1
  generalize hbz : w.heap.size = bz at HZ ⊢
  have Hbz := Lib.hid (show w.heap.size ≤ bz by omega); clear hbz
  refine (find_some i hi n w1 HRg.out HN.out).mono ?_
  rintro e w2 ⟨gr, off, rfl, rfl, hd⟩
  replace HRg := Lib.hid (HRg.out.below hd.below)
  replace HZ := Lib.hid (HZ.out.below hd.below)
  replace HB := Lib.hid (chain2 HB.out hd.below); clear hd
  have hlin := HRg.out.lines _ (List.getElem_mem hi)
  have hsl := hlin.sl
  obtain ⟨r0, r1, r2, r3, r4, r5, r6, r7⟩ := row8 HRg.out.row i hi
  have hrs : RowS encL w2 xs[i].2 xs[i].1.ls := RowO.rowS hlin
  rw [hsl] at r7
  obtain ⟨la, ln, lc, hv⟩ := sl_form hsl
  clear hlin hsl
  generalize hx : xs[i] = x at r0 r1 r2 r3 r4 r5 r6 r7 hrs hv HL
  obtain ⟨t, tv⟩ := x
  simp only at r0 r1 r2 r3 r4 r5 r6 r7 hrs hv HL
  subst hv
  have HXe := Lib.hid hx; clear hx
  have hcp := copied_ok t (.slice la ln lc) w2 HL.out hrs
  unfold aggT at hcp
  have HCp := Lib.hid hcp; clear hcp hrs
  go_wp2_with fail
  refine HCp.out.mono ?_
  clear HCp r0 r1 r2 r3 r4 r5 r6 r7
  rintro e w3 ⟨v', rfl, ho, hd⟩
  obtain ⟨a', c', rfl⟩ := ho.form
  replace HZ := Lib.hid (HZ.out.below hd)
  have HO := Lib.hid (ho.mono HB.out.size); clear ho
  replace HB := Lib.hid (chain2 HB.out hd); clear hd
  obtain ⟨d0, d1, d2, d3, d4, d5, d6, d7⟩ := HZ.out.cells
  obtain ⟨g0, g1, g2, g3, g4, g5, g6, g7⟩ := HZ.out.free
  go_wp2
  have h8 := HZ.out.set8 t (.slice a' t.ls.length c')
  refine bodyPost_ret (results_ct rfl _ _ bz 37 _ (0, 0) _ rfl h8 Try.underlying37 rfl tx_size) rfl ?_
  have n2 := HO.out.ne HZ.out (by decide)
  rw [HXe.out]
  exact ⟨_, rfl, ((((((((HO.out.other n2 0 _).other n2 1 _).other n2 2 _).other n2 3 _).other n2 4 _).other n2 5 _).other n2 6 _).other n2 7 _), below_set8 HB.out Hbz.out _ _ _ _ _ _ _ _⟩
end Go.Proofs.Ytdeeakjkhcdkaaa
