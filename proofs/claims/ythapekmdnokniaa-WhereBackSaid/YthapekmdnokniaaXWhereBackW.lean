/- WhereBack: a logical page that is put, and put back where it was, or dropped again, leaves all as it was: the walk. No conditions beyond the form's own reach. -/
import Derived.Test.YthapekmdnokniaaXWhereAgreesW
namespace Go.Proofs.Ythapekmdnokniaa
open Go.RowKit Go.Lib Go.Maps Go.Proofs.YthapekmdnokniaaW.PrintWords Go.Proofs.YthapekmdnokniaaW.PrintLast Go.Proofs.YthapekmdnokniaaW.PrintMore
set_option linter.unusedVariables false
set_option linter.unusedSimpArgs false
def rg4_25.T : Bool × List (List Nat × List Nat) := (true, [([], []), ([], []), ([1], [1]), ([2], [2]), ([0, 3], [0, 3])])
def rg4_25.B : List Nat := [0, 0, 2, 6, 15]
theorem rg4_25.tab : rtab .any (opsOf Try.f4 25) = rg4_25.T := by kernel_rfl
theorem rg4_25.bits : waitsOk rg4_25.T.2 rg4_25.B = true := by kernel_rfl
theorem putS_at {B P L : Nat} {s : WS} (h : WOk B P L s) {k : Int} {p : Int × Int} (he : putE B P L s k p = 0) (j : Int) : (putS B P L s k p).at_ j = if j = k then some p else s.at_ j := by
  unfold putS
  rw [if_pos he]
  unfold addS
  dsimp only
  by_cases e : j = k
  · rw [if_pos e, if_pos e]
  · rw [if_neg e, if_neg e, dropS_other e]
theorem back_is {B P L : Nat} {s : WS} (h : WOk B P L s) {k : Int} {p q : Int × Int} (he : putE B P L s k q = 0) (hp : s.at_ k = some p) :
    putE B P L (putS B P L s k q) k p = 0 ∧ ∀ j, (putS B P L (putS B P L s k q) k p).at_ j = s.at_ j := by
  have h1 := putS_ok h k q
  obtain ⟨r1, r2, r3, r4, r5, r6⟩ := h.rng k p hp
  have hz : putE B P L (putS B P L s k q) k p = 0 := by
    unfold putE
    rw [if_neg (by omega), if_neg (fun e => e ⟨r3, r4, r5, r6⟩)]
    cases ho : (putS B P L s k q).ow p with
    | none => rfl
    | some i =>
      dsimp only
      by_cases e : i = k
      · exact if_pos e
      · exfalso
        have h2 := (h1.inv i p).mpr ho
        rw [putS_at h he, if_neg e] at h2
        have a := (h.inv i p).mp h2
        have b := (h.inv k p).mp hp
        rw [a] at b
        injection b with b
        exact e b
  refine ⟨hz, fun j => ?_⟩
  rw [putS_at h1 hz, putS_at h he]
  by_cases e : j = k
  · rw [if_pos e, e, hp]
  · rw [if_neg e, if_neg e]
theorem back_not {B P L : Nat} {s : WS} (h : WOk B P L s) {k : Int} {q : Int × Int} (he : putE B P L s k q = 0) (hp : s.at_ k = none) (j : Int) : (dropS (putS B P L s k q) k).at_ j = s.at_ j := by
  by_cases e : j = k
  · rw [e, dropS_none k (putS_ok h k q), hp]
  · rw [dropS_other e, putS_at h he, if_neg e]
theorem same_ca {B P L : Nat} {s s' : WS} (h : WOk B P L s) (h' : WOk B P L s') (e : ∀ j, s'.at_ j = s.at_ j) : s'.ca = s.ca := by
  rw [h.ca, h'.ca]
  have : isAt s'.at_ = isAt s.at_ := by funext j; unfold isAt; rw [e]
  rw [this]
/-- The places that were, as far as the first j. -/
def BefAt (w : World) (b : Nat) (s : WS) (j : Nat) : Prop := ∃ cur, w.heap[b]? = some (.cells cur 40 (0, 0)) ∧ cur.size = 40 ∧ ∀ i, i < j → cur[i * 2]? = some (.int .i64 (atV s (i : Int)).1) ∧ cur[i * 2 + 1]? = some (.int .i64 (atV s (i : Int)).2)
theorem BefAt.below {w w' : World} {b j : Nat} {s : WS} (h : BefAt w b s j) (hb : Below w.heap.size w w') : BefAt w' b s j := by
  obtain ⟨cur, h1, h2⟩ := h
  exact ⟨cur, blk_below h1 hb, h2⟩
def z40 : Array Value := Array.replicate 40 (.int .i64 0)
theorem z40_size : z40.size = 40 := Array.size_replicate
theorem z40_zero (w : World) : (zeroValue 40).run Try.prog w = .ok (.agg z40) w := by kernel_rfl
theorem z40_info : (Try.prog.info? 40).map (·.size) = some z40.size := by kernel_rfl
theorem z40_one : z40.all (·.oneCell') = true := by kernel_rfl
theorem below_setRow {B : Nat} {a w : World} (h : Below B a w) {g : Nat} (hg : B ≤ g) (cs : Array Value) : Below B a (w.setRow g cs) :=
  ⟨h.os, h.tape, h.output, by simpa [World.setRow] using h.size, fun k hk => (setRow_other w g k cs (by omega)).trans (h.block k hk)⟩
theorem BefAt.cells {w : World} {b j i : Nat} {s : WS} (h : BefAt w b s j) (hi : i < j) : w.cell? ⟨b, i * 2, none⟩ = some (.int .i64 (atV s (i : Int)).1) ∧ w.cell? ⟨b, i * 2 + 1, none⟩ = some (.int .i64 (atV s (i : Int)).2) := by
  obtain ⟨cur, h1, h2, h3⟩ := h
  rw [cell_of_row w b _ cur _ (0, 0) h1, cell_of_row w b _ cur _ (0, 0) h1]
  exact h3 i hi
theorem BefAt.open_ {w : World} {b j i : Nat} {s : WS} (h : BefAt w b s j) (hi : i < 20) : ∃ u0 u1, w.cell? ⟨b, i * 2, none⟩ = some u0 ∧ w.cell? ⟨b, i * 2 + 1, none⟩ = some u1 ∧ w.frozen? ⟨b, i * 2, none⟩ = false ∧ w.frozen? ⟨b, i * 2 + 1, none⟩ = false := by
  obtain ⟨cur, h1, h2, h3⟩ := h
  refine ⟨cur[i * 2]'(by omega), cur[i * 2 + 1]'(by omega), ?_, ?_, pl_frozen h1 _, pl_frozen h1 _⟩
  · rw [cell_of_row w b _ cur _ (0, 0) h1, Array.getElem?_eq_getElem]
  · rw [cell_of_row w b _ cur _ (0, 0) h1, Array.getElem?_eq_getElem]
theorem BefAt.set {w : World} {b i : Nat} {s : WS} (h : BefAt w b s i) (hi : i < 20) : BefAt ((w.setCell ⟨b, i * 2, none⟩ (.int .i64 (atV s (i : Int)).1)).setCell ⟨b, i * 2 + 1, none⟩ (.int .i64 (atV s (i : Int)).2)) b s (i + 1) := by
  obtain ⟨cur, h1, h2, h3⟩ := h
  refine ⟨_, heap_setCell_same _ b (i * 2 + 1) _ _ _ (heap_setCell_same w b (i * 2) cur _ _ h1), by simp [h2], fun k hk => ?_⟩
  simp only [Array.getElem?_setIfInBounds, Array.size_setIfInBounds]
  by_cases e : k = i
  · subst e
    rw [if_neg (by omega), if_pos rfl, if_pos (by omega), if_pos rfl, if_pos (by omega)]
    exact ⟨rfl, rfl⟩
  · rw [if_neg (by omega), if_neg (by omega), if_neg (by omega), if_neg (by omega)]
    exact h3 k (by omega)
theorem BefAt.touch {w w' : World} {b j : Nat} {s : WS} {T : Nat → Prop} (h : BefAt w b s j) (ht : Touch T w w') (hn : ¬ T b) : BefAt w' b s j := by
  obtain ⟨cur, h1, h2⟩ := h
  exact ⟨cur, ht.blk h1 hn, h2⟩
theorem map_ne' {P : Program} {K : TypeId} {κ : Type} {ek : κ → Value} {ok : κ → Prop} {w : World} {b c g j : Nat} {f : κ → Option Value} {s : WS} (hm : MapV P K ek ok w b c f) (h : BefAt w g s j) : g ≠ b := by
  obtain ⟨cur, h1, _⟩ := h
  exact map_ne hm h1
theorem WAt.set {base : Nat} {w : World} {g B P L : Nat} {s : WS} {bm bo bl cap : Nat} (h : WAt base w g B P L s bm bo bl cap) {b i : Nat} (n1 : b ≠ g) (n2 : b ≠ bl) (n3 : b ≠ bm) (n4 : b ≠ bo) (v : Value) : WAt base (w.setCell ⟨b, i, none⟩ v) g B P L s bm bo bl cap := by
  obtain ⟨h1, h2, h3, h4, h5, cur, h6, h7⟩ := h
  exact ⟨h1, h2, set_other h3 n1.symm v, h4.set (a := ⟨b, i, none⟩) n3.symm v, h5.set (a := ⟨b, i, none⟩) n4.symm v, ⟨cur, set_other h6 n2.symm v, h7⟩⟩
set_option maxHeartbeats 16000000 in
theorem whereBack_walk (a : Option Addr) (len cap0 : Nat) (z : List Int) (hlc : len ≤ cap0) (hcm : cap0 ≤ maxLen) (ku au : Nat) (hku : ku < 256) (hau : au < 256) (w : World) (hz : IntsIn .u16 w a len z) :
    Calls Try.prog 4 #[.slice a len cap0, .int .u8 (ku : Int), .int .u8 (au : Int)] w fun e w' => e = .returned (.bool true) ∧ Below w.heap.size w w' := by
  have HZ := Lib.hid hz; clear hz
  have HU := Lib.hid (And.intro hku hau); clear hku hau
  obtain ⟨N, hN, hN1, hN2, hN3, hN4⟩ : ∃ N : Nat, (if 40 < (len : Int) then 40 else (len : Int)) = (N : Int) ∧ N ≤ len ∧ N ≤ 40 ∧ N ≤ cap0 ∧ min 40 len = N := ⟨min 40 len, by split <;> omega, by omega, by omega, by omega, rfl⟩
  have c1 : (0 ≤ (N : Int)) = True := eq_true (by omega)
  have c2 : ((N : Int) ≤ (cap0 : Int)) = True := eq_true (by omega)
  have c3 : (N ≤ cap0) = True := eq_true hN3
  have c4 : decide (N ≤ cap0) = true := decide_eq_true hN3
  have hNm : min (len : Int) 40 = (N : Int) := by rw [← hN]; split <;> omega
  have HN := Lib.hid (And.intro hN1 hN2); clear hN1 hN2 hN3 hN4
  have HC := Lib.hid (And.intro hlc hcm); clear hlc hcm
  go_enter Try.func4, Try.ntmps4
  go_wp2_with fail
  refine (new_ok 5 6 20 inA w).mono ?_
  rintro e w1 ⟨g, bm, bo, bl, cap, rfl, h, hb⟩
  have H := Lib.hid h; clear h
  have HB := Lib.hid hb; clear hb
  go_wp2_with fail
  refine (wakes_ok _).mono ?_
  rintro e w2 ⟨rfl, hd⟩
  replace H := Lib.hid (H.out.below hd)
  replace HB := Lib.hid (chain2 HB.out hd)
  clear hd
  go_wp2_with fail
  have hNm2 := hNm
  go_loopw [40] (fun i wr => ∃ j s, j ≤ N ∧ i = .int .i64 (j : Int) ∧ WOk 5 6 20 s ∧ WAt w.heap.size wr g 5 6 20 s bm bo bl cap ∧ Below w.heap.size w wr) (fun i _ => N - (RowKit.intOf i).toNat)
  case atStart => exact ⟨0, _, Nat.zero_le _, rfl, emptyW_ok 5 6 20, H.out, HB.out⟩
  case round =>
    clear H HB hN hNm hNm2 c1 c2 c3 c4
    obtain ⟨j, s, hj, rfl, h1, h2, h3⟩ := hrel
    have HS := Lib.hid h1; clear h1
    have H := Lib.hid h2; clear h2
    have HB := Lib.hid h3; clear h3
    by_cases hlt : j < N
    · obtain ⟨xa, rfl, hc, hwf⟩ := HZ.out.below HB.out j (Nat.lt_of_lt_of_le hlt HN.out.1)
      obtain ⟨x, hx, hx2⟩ := wf_u16 hwf
      rw [hx] at hc
      clear hx hwf
      have e3 : wrap64 ((j : Int) + 1) = ((j + 1 : Nat) : Int) := wrap_succW j (Nat.lt_of_lt_of_le hlt (Nat.le_trans HN.out.2 (by decide)))
      obtain ⟨k, hk, hk2⟩ : ∃ k : Nat, (x : Int) % 20 = (k : Int) ∧ k < 20 := ⟨x % 20, by omega, by omega⟩
      obtain ⟨pb, hpb, hpb2⟩ : ∃ k : Nat, (x : Int) / 20 % 5 = (k : Int) ∧ k < 5 := ⟨x / 20 % 5, by omega, by omega⟩
      obtain ⟨pp, hpp, hpp2⟩ : ∃ k : Nat, (x : Int) / 100 % 6 = (k : Int) ∧ k < 6 := ⟨x / 100 % 6, by omega, by omega⟩
      have HIk := Lib.hid (i64_of (k : Int) (by omega) (by omega))
      have HIb := Lib.hid (i64_of (pb : Int) (by omega) (by omega))
      have HIp := Lib.hid (i64_of (pp : Int) (by omega) (by omega))
      clear hk2 hpb2 hpp2
      go_wp2_with fail
      refine (put_any (k : Int) (pb : Int) (pp : Int) HIk.out HIb.out HIp.out H.out HS.out inA).mono ?_
      rintro e w4 ⟨rfl, h4, ht⟩
      clear hc
      replace HB := Lib.hid (H.out.touch ht HB.out (Nat.le_refl _))
      replace H := Lib.hid h4; clear h4 ht
      go_wp2
      go_roundw
      case rel => exact ⟨j + 1, _, hlt, by rw [e3], putS_ok HS.out (k : Int) ((pb : Int), (pp : Int)), H.out, HB.out⟩
      case measure => rw [e3]; simp only [RowKit.intOf, Int.toNat_natCast]; exact Nat.sub_lt_sub_left hlt (Nat.lt_succ_self j)
    · obtain rfl : j = N := Nat.le_antisymm hj (Nat.le_of_not_lt hlt)
      clear HZ HC HN
      have hz := z40_zero
      go_wp2_with (refine wpList_store_row rfl 40 _ _ rfl wr.heap.size z40 rfl rfl 40 z40 (heap_alloc_new wr _) z40_info rfl z40_one ?_)
      clear hz
      have HX := Lib.hid (setRow_heap (wr.alloc (.cells z40 40)) wr.heap.size _ z40 _ _ (heap_alloc_new wr (.cells z40 40)))
      have ha : Below wr.heap.size wr ((wr.alloc (.cells z40 40)).setRow wr.heap.size z40) := below_setRow (below_alloc (Below.refl _ _) _) (Nat.le_refl _) _
      have HBb := Lib.hid HB.out.size
      have HNb := Lib.hid (show wr.heap.size ≠ g ∧ wr.heap.size ≠ bl from ⟨Nat.ne_of_gt (blk_lt H.out.box), by obtain ⟨cur, q1, _⟩ := H.out.lv; exact Nat.ne_of_gt (blk_lt q1)⟩)
      replace H := Lib.hid (H.out.below ha)
      replace HB := Lib.hid (chain2 HB.out ha); clear ha
      generalize (wr.alloc (.cells z40 40)).setRow wr.heap.size z40 = w3 at HX H HB ⊢
      generalize wr.heap.size = bb at HX HBb HNb ⊢
      have HBf := Lib.hid (show BefAt w3 bb s 0 from ⟨_, HX.out, z40_size, fun i hi => absurd hi (Nat.not_lt_zero _)⟩); clear HX
      go_loopw [60] (fun i wr => ∃ j : Nat, j ≤ 20 ∧ i = .int .i64 (j : Int) ∧ BefAt wr bb s j ∧ WAt w.heap.size wr g 5 6 20 s bm bo bl cap ∧ Below w.heap.size w wr) (fun i _ => 20 - (RowKit.intOf i).toNat)
      case atStart => exact ⟨0, Nat.zero_le _, rfl, HBf.out, H.out, HB.out⟩
      case round =>
        clear HBf H HB
        obtain ⟨i, hi, rfl, h1, h2, h3⟩ := hrel
        have HBf := Lib.hid h1; clear h1
        have H := Lib.hid h2; clear h2
        have HB := Lib.hid h3; clear h3
        by_cases hlt2 : i < 20
        · have HAt := Lib.hid (at_ok (i : Int) (i64_of (i : Int) (by omega) (by omega)) H.out)
          have j1 : ((0 : Int) ≤ (i : Int)) = True := eq_true (Int.natCast_nonneg i)
          have j2 : ((i : Int) < 20) = True := eq_true (Int.ofNat_lt.mpr hlt2)
          go_wp2_with fail
          refine HAt.out.mono ?_
          rintro e w5 ⟨rfl, hd⟩
          clear HAt
          replace HBf := Lib.hid (HBf.out.below hd)
          replace H := Lib.hid (H.out.below hd)
          replace HB := Lib.hid (chain2 HB.out hd); clear hd
          obtain ⟨u0, u1, y0, y1, f0, f1⟩ := HBf.out.open_ hlt2
          have HBn := Lib.hid (HBf.out.set hlt2)
          have HHn := Lib.hid ((H.out.set (b := bb) (i := i * 2) HNb.out.1 HNb.out.2 (map_ne' H.out.mat HBf.out) (map_ne' H.out.mow HBf.out) (.int .i64 (atV s (i : Int)).1)).set (b := bb) (i := i * 2 + 1) HNb.out.1 HNb.out.2 (map_ne' H.out.mat HBf.out) (map_ne' H.out.mow HBf.out) (.int .i64 (atV s (i : Int)).2))
          have HBn2 := Lib.hid ((HB.out.setCell (p := ⟨bb, i * 2, none⟩) HBb.out (.int .i64 (atV s (i : Int)).1)).setCell (p := ⟨bb, i * 2 + 1, none⟩) HBb.out (.int .i64 (atV s (i : Int)).2))
          go_wp2
          go_roundw
          case rel => exact ⟨i + 1, hlt2, rfl, HBn.out, HHn.out, HBn2.out⟩
          case measure => rw [show ((i : Int) + 1) = ((i + 1 : Nat) : Int) from rfl]; simp only [RowKit.intOf, Int.toNat_natCast]; exact Nat.sub_lt_sub_left hlt2 (Nat.lt_succ_self i)
        · obtain rfl : i = 20 := Nat.le_antisymm hi (Nat.le_of_not_lt hlt2)
          rw [show ((20 : Nat) : Int) = (20 : Int) from rfl]
          have HT := Lib.hid (total_ok H.out)
          obtain ⟨n, hn, hn2⟩ : ∃ k : Nat, (ku : Int) % 20 = (k : Int) ∧ k < 20 := ⟨ku % 20, by omega, by omega⟩
          obtain ⟨qa, hqa, hqa2⟩ : ∃ k : Nat, (au : Int) % 5 = (k : Int) ∧ k < 5 := ⟨au % 5, by omega, by omega⟩
          obtain ⟨qb, hqb, hqb2⟩ : ∃ k : Nat, (au : Int) / 5 % 256 % 6 = (k : Int) ∧ k < 6 := ⟨au / 5 % 6, by have := HU.out.2; omega, by omega⟩
          have HIn := Lib.hid (i64_of (n : Int) (by omega) (by omega))
          have HIa := Lib.hid (i64_of (qa : Int) (by omega) (by omega))
          have HIb := Lib.hid (i64_of (qb : Int) (by omega) (by omega))
          have HN2 := Lib.hid hn2
          clear hn2 hqa2 hqb2
          go_wp2_with fail
          refine HT.out.mono ?_
          rintro e w5 ⟨rfl, rfl⟩
          clear HT
          have HAw := Lib.hid (at_ok (n : Int) HIn.out H.out)
          go_wp2_with fail
          refine HAw.out.mono ?_
          rintro e w5 ⟨rfl, hd⟩
          replace HBf := Lib.hid (HBf.out.below hd)
          replace H := Lib.hid (H.out.below hd)
          replace HB := Lib.hid (chain2 HB.out hd); clear hd
          have HX := Lib.hid (heap_alloc_new w5 (.cells #[.int .i64 (atV s (n : Int)).1, .int .i64 (atV s (n : Int)).2] 30))
          have ha := below_alloc (Below.refl w5.heap.size w5) (.cells #[.int .i64 (atV s (n : Int)).1, .int .i64 (atV s (n : Int)).2] 30)
          have HXt := Lib.hid (show ¬ wT bm bo bl w5.heap.size from fun e => e.elim (fun e => Nat.ne_of_gt H.out.mat.lt e) (fun e => e.elim (fun e => Nat.ne_of_gt H.out.mow.lt e) (fun e => by obtain ⟨cur, q1, _⟩ := H.out.lv; exact Nat.ne_of_gt (blk_lt q1) e)))
          have HBt := Lib.hid (show ¬ wT bm bo bl bb from fun e => e.elim (fun e => map_ne' H.out.mat HBf.out e) (fun e => e.elim (fun e => map_ne' H.out.mow HBf.out e) (fun e => HNb.out.2 e)))
          replace HBf := Lib.hid (HBf.out.below ha)
          replace H := Lib.hid (H.out.below ha)
          replace HB := Lib.hid (chain2 HB.out ha); clear ha
          go_wp2_with fail
          generalize w5.heap.size = bx at HX HXt ⊢
          generalize w5.alloc (.cells #[.int .i64 (atV s (n : Int)).1, .int .i64 (atV s (n : Int)).2] 30) = w6 at HX HBf H HB ⊢
          refine (put_any (n : Int) (qa : Int) (qb : Int) HIn.out HIa.out HIb.out H.out HS.out inA).mono ?_
          rintro e w7 ⟨rfl, h7, ht⟩
          replace HX := Lib.hid (ht.blk HX.out HXt.out)
          replace HBf := Lib.hid (HBf.out.touch ht HBt.out)
          replace HB := Lib.hid (H.out.touch ht HB.out (Nat.le_refl _))
          replace H := Lib.hid h7; clear h7 ht
          by_cases hE : putE 5 6 20 s (n : Int) ((qa : Int), (qb : Int)) = 0
          · have HS1 := Lib.hid (putS_ok HS.out (n : Int) ((qa : Int), (qb : Int)))
            cases hat : s.at_ (n : Int) with
            | some p =>
              obtain ⟨hb1, hb2⟩ := back_is HS.out hE hat
              obtain ⟨_, _, r1, r2, r3, r4⟩ := HS.out.rng _ _ hat
              have HIp := Lib.hid (And.intro (i64_of p.1 (by omega) (by omega)) (i64_of p.2 (by omega) (by omega)))
              rw [show atV s (n : Int) = p by unfold atV; rw [hat]; rfl] at HX ⊢
              rw [hE]
              have HP2 := Lib.hid (put_any (n : Int) p.1 p.2 HIn.out HIp.out.1 HIp.out.2 H.out HS1.out inA)
              have HE := Lib.hid hb2
              have HS2 := Lib.hid (putS_ok HS1.out (n : Int) p)
              clear hE hat hb1 hb2 r1 r2 r3 r4
              obtain ⟨x0, x1⟩ := w2_cells HX.out
              simp only [Option.isSome_some]
              go_wp2_with fail
              refine HP2.out.mono ?_
              rintro e w9 ⟨rfl, h7, ht⟩
              clear HP2 x0 x1 HX
              replace HBf := Lib.hid (HBf.out.touch ht HBt.out)
              replace HB := Lib.hid (H.out.touch ht HB.out (Nat.le_refl _))
              replace H := Lib.hid h7; clear h7 ht
              have HCa := Lib.hid (same_ca HS.out HS2.out HE.out)
              generalize putS 5 6 20 (putS 5 6 20 s (n : Int) ((qa : Int), (qb : Int))) (n : Int) p = s2 at H HE HS2 HCa
              generalize putE 5 6 20 (putS 5 6 20 s (n : Int) ((qa : Int), (qb : Int))) (n : Int) (p.1, p.2) = e2
              clear HAw
              go_wp2_with fail
              go_loopw [103] (fun i wr => ∃ j : Nat, j ≤ 20 ∧ i = .int .i64 (j : Int) ∧ Below w9.heap.size w9 wr) (fun i _ => 20 - (RowKit.intOf i).toNat)
              case atStart => exact ⟨0, Nat.zero_le _, rfl, Below.refl _ _⟩
              case round =>
                obtain ⟨i, hi, rfl, h1⟩ := hrel
                have HB2 := Lib.hid h1; clear h1
                by_cases hlt3 : i < 20
                · have hat := at_ok (i : Int) (i64_of (i : Int) (by omega) (by omega)) (H.out.below HB2.out)
                  rw [show atV s2 (i : Int) = atV s (i : Int) by unfold atV; rw [HE.out]] at hat
                  have HAt := Lib.hid hat; clear hat
                  obtain ⟨y0, y1⟩ := (HBf.out.below HB2.out).cells hlt3
                  have HY := Lib.hid (And.intro y0 y1); clear y0 y1
                  generalize (atV s (i : Int)).1 = pa at HAt HY
                  generalize (atV s (i : Int)).2 = pb at HAt HY
                  go_wp2_with fail
                  refine HAt.out.mono ?_
                  rintro e w5 ⟨rfl, hd⟩
                  clear HAt
                  replace HY := Lib.hid (And.intro (pw_cell_below hd HY.out.1) (pw_cell_below hd HY.out.2))
                  replace HB2 := Lib.hid (chain2 HB2.out hd); clear hd
                  have HX := Lib.hid (heap_alloc_new w5 (.cells #[.int .i64 pa, .int .i64 pb] 30))
                  have ha := below_alloc (Below.refl w5.heap.size w5) (.cells #[.int .i64 pa, .int .i64 pb] 30)
                  replace HY := Lib.hid (And.intro (pw_cell_below ha HY.out.1) (pw_cell_below ha HY.out.2))
                  replace HB2 := Lib.hid (chain2 HB2.out ha); clear ha
                  go_wp2_with fail
                  generalize w5.heap.size = bx at HX ⊢
                  generalize w5.alloc (.cells #[.int .i64 pa, .int .i64 pb] 30) = w6 at HX HY HB2 ⊢
                  replace HB2 := Lib.hid (below_drew1 HB2.out)
                  have j1 : ((0 : Int) ≤ (i : Int)) = True := eq_true (Int.natCast_nonneg i)
                  have j2 : ((i : Int) < 20) = True := eq_true (Int.ofNat_lt.mpr hlt3)
                  have hS : w6.drew.heap[bx]? = some (.cells #[.int .i64 pa, .int .i64 pb] 30 (0, 0)) ∧ w6.drew.cell? ⟨bb, i * 2, none⟩ = some (.int .i64 pa) ∧ w6.drew.cell? ⟨bb, i * 2 + 1, none⟩ = some (.int .i64 pb) := ⟨HX.out, HY.out.1, HY.out.2⟩
                  refine start_ (n := 5) (S := fun w' => w'.heap[bx]? = some (.cells #[.int .i64 pa, .int .i64 pb] 30 (0, 0)) ∧ w'.cell? ⟨bb, i * 2, none⟩ = some (.int .i64 pa) ∧ w'.cell? ⟨bb, i * 2 + 1, none⟩ = some (.int .i64 pb)) (ds := []) #[false, false, false, false, false] (by kernel_rfl) rfl rfl hS (fun hHeld => ?_)
                  refine with_tabW rg4_25.tab rg4_25.bits (fun HT_ HW_ => ?_)
                  generalize w6.drew = w' at HB2 hHeld ⊢
                  refine pure_ (i := 1) (N := some 113) (v := ?_) (a' := ?_) #[false, true, false, false, false] rfl rfl (any_of HT_.out (by kernel_rfl)) (fun _ _ _ h => h) (Or.inl ⟨by rfl, ?_⟩) ?_ ?_
                  rotate_left
                  · intro w'
                    go_simp
                    try with_reducible rfl
                  rotate_left
                  · simp (maxSteps := 4000000) only [Act.put, List.setIfInBounds_toArray, List.set_cons_zero, List.set_cons_succ, i64_w, i32_w]
                    try rfl
                  refine pure_ (i := 2) (N := some 114) (v := ?_) (a' := ?_) #[false, true, true, false, false] rfl rfl (any_of HT_.out (by kernel_rfl)) (fun _ _ _ h => h) (Or.inl ⟨by rfl, ?_⟩) ?_ ?_
                  rotate_left
                  · intro w'
                    go_simp
                    try with_reducible rfl
                  rotate_left
                  · simp (maxSteps := 4000000) only [Act.put, List.setIfInBounds_toArray, List.set_cons_zero, List.set_cons_succ, i64_w, i32_w]
                    try rfl
                  refine take_ (i := 0) (N := some 112) (v := ?_) (a' := ?_) #[true, true, true, false, false] rfl rfl (take_ofW HT_.out HW_.out (by kernel_rfl)) (fun _ _ _ h => h) (Or.inl ⟨by rfl, ?_⟩) hHeld ?_ ?_
                  rotate_left
                  · intro w' hw_
                    try dsimp only at hw_
                    obtain ⟨g0, g1⟩ := w2_cells hw_.1
                    go_simp
                    try with_reducible rfl
                  rotate_left
                  · simp (maxSteps := 4000000) only [Act.put, List.setIfInBounds_toArray, List.set_cons_zero, List.set_cons_succ, i64_w, i32_w]
                    try rfl
                  refine take_ (i := 3) (N := some 115) (v := ?_) (a' := ?_) #[true, true, true, true, false] rfl rfl (take_ofW HT_.out HW_.out (by kernel_rfl)) (fun _ _ _ h => h) (Or.inl ⟨by rfl, ?_⟩) hHeld ?_ ?_
                  rotate_left
                  · intro w' hw_
                    try dsimp only at hw_
                    obtain ⟨_, g0, g1⟩ := hw_
                    go_simp
                    try with_reducible rfl
                  rotate_left
                  · simp (maxSteps := 4000000) only [Act.put, List.setIfInBounds_toArray, List.set_cons_zero, List.set_cons_succ, i64_w, i32_w]
                    try rfl
                  refine pure_ (i := 4) (N := some 116) (v := ?_) (a' := ?_) #[true, true, true, true, true] rfl rfl (any_of HT_.out (by kernel_rfl)) (fun _ _ _ h => h) (Or.inl ⟨by rfl, ?_⟩) ?_ ?_
                  rotate_left
                  · intro w'
                    go_simp
                    try with_reducible rfl
                  rotate_left
                  · simp (maxSteps := 4000000) only [Act.put, List.setIfInBounds_toArray, List.set_cons_zero, List.set_cons_succ, i64_w, i32_w]
                    try rfl
                  refine done_ (done_of HT_.out (by kernel_rfl)) ?_
                  go_wp2
                  go_roundw
                  case rel => exact ⟨i + 1, hlt3, rfl, HB2.out⟩
                  case measure => rw [show ((i : Int) + 1) = ((i + 1 : Nat) : Int) from rfl]; simp only [RowKit.intOf, Int.toNat_natCast]; exact Nat.sub_lt_sub_left hlt3 (Nat.lt_succ_self i)
                · obtain rfl : i = 20 := Nat.le_antisymm hi (Nat.le_of_not_lt hlt3)
                  have hT := total_ok (H.out.below HB2.out)
                  rw [HCa.out] at hT
                  have HT := Lib.hid hT; clear hT
                  go_wp2_with fail
                  refine HT.out.mono ?_
                  rintro e w10 ⟨rfl, rfl⟩
                  clear HT
                  go_wp2
                  go_ret
                  exact ⟨rfl, chain2 HB.out HB2.out⟩
            | none =>
              have hb2 := fun j => back_not HS.out hE hat j
              rw [hE]
              have hce : chkE 20 (n : Int) = 0 := if_neg (by have := HN2.out; omega)
              have hdr := drop_any (n : Int) H.out HS1.out inA
              rw [hce, if_pos rfl] at hdr
              have HP2 := Lib.hid hdr
              have HE := Lib.hid hb2
              have HS2 := Lib.hid (dropS_ok HS1.out (n : Int))
              clear hE hat hb2 hce hdr
              simp only [Option.isSome_none]
              go_wp2_with fail
              refine HP2.out.mono ?_
              rintro e w9 ⟨rfl, h7, ht⟩
              clear HP2 HX
              replace HBf := Lib.hid (HBf.out.touch ht HBt.out)
              replace HB := Lib.hid (H.out.touch ht HB.out (Nat.le_refl _))
              replace H := Lib.hid h7; clear h7 ht
              have HCa := Lib.hid (same_ca HS.out HS2.out HE.out)
              generalize dropS (putS 5 6 20 s (n : Int) ((qa : Int), (qb : Int))) (n : Int) = s2 at H HE HS2 HCa
              clear HAw
              go_wp2_with fail
              go_loopw [103] (fun i wr => ∃ j : Nat, j ≤ 20 ∧ i = .int .i64 (j : Int) ∧ Below w9.heap.size w9 wr) (fun i _ => 20 - (RowKit.intOf i).toNat)
              case atStart => exact ⟨0, Nat.zero_le _, rfl, Below.refl _ _⟩
              case round =>
                obtain ⟨i, hi, rfl, h1⟩ := hrel
                have HB2 := Lib.hid h1; clear h1
                by_cases hlt3 : i < 20
                · have hat := at_ok (i : Int) (i64_of (i : Int) (by omega) (by omega)) (H.out.below HB2.out)
                  rw [show atV s2 (i : Int) = atV s (i : Int) by unfold atV; rw [HE.out]] at hat
                  have HAt := Lib.hid hat; clear hat
                  obtain ⟨y0, y1⟩ := (HBf.out.below HB2.out).cells hlt3
                  have HY := Lib.hid (And.intro y0 y1); clear y0 y1
                  generalize (atV s (i : Int)).1 = pa at HAt HY
                  generalize (atV s (i : Int)).2 = pb at HAt HY
                  go_wp2_with fail
                  refine HAt.out.mono ?_
                  rintro e w5 ⟨rfl, hd⟩
                  clear HAt
                  replace HY := Lib.hid (And.intro (pw_cell_below hd HY.out.1) (pw_cell_below hd HY.out.2))
                  replace HB2 := Lib.hid (chain2 HB2.out hd); clear hd
                  have HX := Lib.hid (heap_alloc_new w5 (.cells #[.int .i64 pa, .int .i64 pb] 30))
                  have ha := below_alloc (Below.refl w5.heap.size w5) (.cells #[.int .i64 pa, .int .i64 pb] 30)
                  replace HY := Lib.hid (And.intro (pw_cell_below ha HY.out.1) (pw_cell_below ha HY.out.2))
                  replace HB2 := Lib.hid (chain2 HB2.out ha); clear ha
                  go_wp2_with fail
                  generalize w5.heap.size = bx at HX ⊢
                  generalize w5.alloc (.cells #[.int .i64 pa, .int .i64 pb] 30) = w6 at HX HY HB2 ⊢
                  replace HB2 := Lib.hid (below_drew1 HB2.out)
                  have j1 : ((0 : Int) ≤ (i : Int)) = True := eq_true (Int.natCast_nonneg i)
                  have j2 : ((i : Int) < 20) = True := eq_true (Int.ofNat_lt.mpr hlt3)
                  have hS : w6.drew.heap[bx]? = some (.cells #[.int .i64 pa, .int .i64 pb] 30 (0, 0)) ∧ w6.drew.cell? ⟨bb, i * 2, none⟩ = some (.int .i64 pa) ∧ w6.drew.cell? ⟨bb, i * 2 + 1, none⟩ = some (.int .i64 pb) := ⟨HX.out, HY.out.1, HY.out.2⟩
                  refine start_ (n := 5) (S := fun w' => w'.heap[bx]? = some (.cells #[.int .i64 pa, .int .i64 pb] 30 (0, 0)) ∧ w'.cell? ⟨bb, i * 2, none⟩ = some (.int .i64 pa) ∧ w'.cell? ⟨bb, i * 2 + 1, none⟩ = some (.int .i64 pb)) (ds := []) #[false, false, false, false, false] (by kernel_rfl) rfl rfl hS (fun hHeld => ?_)
                  refine with_tabW rg4_25.tab rg4_25.bits (fun HT_ HW_ => ?_)
                  generalize w6.drew = w' at HB2 hHeld ⊢
                  refine pure_ (i := 1) (N := some 113) (v := ?_) (a' := ?_) #[false, true, false, false, false] rfl rfl (any_of HT_.out (by kernel_rfl)) (fun _ _ _ h => h) (Or.inl ⟨by rfl, ?_⟩) ?_ ?_
                  rotate_left
                  · intro w'
                    go_simp
                    try with_reducible rfl
                  rotate_left
                  · simp (maxSteps := 4000000) only [Act.put, List.setIfInBounds_toArray, List.set_cons_zero, List.set_cons_succ, i64_w, i32_w]
                    try rfl
                  refine pure_ (i := 2) (N := some 114) (v := ?_) (a' := ?_) #[false, true, true, false, false] rfl rfl (any_of HT_.out (by kernel_rfl)) (fun _ _ _ h => h) (Or.inl ⟨by rfl, ?_⟩) ?_ ?_
                  rotate_left
                  · intro w'
                    go_simp
                    try with_reducible rfl
                  rotate_left
                  · simp (maxSteps := 4000000) only [Act.put, List.setIfInBounds_toArray, List.set_cons_zero, List.set_cons_succ, i64_w, i32_w]
                    try rfl
                  refine take_ (i := 0) (N := some 112) (v := ?_) (a' := ?_) #[true, true, true, false, false] rfl rfl (take_ofW HT_.out HW_.out (by kernel_rfl)) (fun _ _ _ h => h) (Or.inl ⟨by rfl, ?_⟩) hHeld ?_ ?_
                  rotate_left
                  · intro w' hw_
                    try dsimp only at hw_
                    obtain ⟨g0, g1⟩ := w2_cells hw_.1
                    go_simp
                    try with_reducible rfl
                  rotate_left
                  · simp (maxSteps := 4000000) only [Act.put, List.setIfInBounds_toArray, List.set_cons_zero, List.set_cons_succ, i64_w, i32_w]
                    try rfl
                  refine take_ (i := 3) (N := some 115) (v := ?_) (a' := ?_) #[true, true, true, true, false] rfl rfl (take_ofW HT_.out HW_.out (by kernel_rfl)) (fun _ _ _ h => h) (Or.inl ⟨by rfl, ?_⟩) hHeld ?_ ?_
                  rotate_left
                  · intro w' hw_
                    try dsimp only at hw_
                    obtain ⟨_, g0, g1⟩ := hw_
                    go_simp
                    try with_reducible rfl
                  rotate_left
                  · simp (maxSteps := 4000000) only [Act.put, List.setIfInBounds_toArray, List.set_cons_zero, List.set_cons_succ, i64_w, i32_w]
                    try rfl
                  refine pure_ (i := 4) (N := some 116) (v := ?_) (a' := ?_) #[true, true, true, true, true] rfl rfl (any_of HT_.out (by kernel_rfl)) (fun _ _ _ h => h) (Or.inl ⟨by rfl, ?_⟩) ?_ ?_
                  rotate_left
                  · intro w'
                    go_simp
                    try with_reducible rfl
                  rotate_left
                  · simp (maxSteps := 4000000) only [Act.put, List.setIfInBounds_toArray, List.set_cons_zero, List.set_cons_succ, i64_w, i32_w]
                    try rfl
                  refine done_ (done_of HT_.out (by kernel_rfl)) ?_
                  go_wp2
                  go_roundw
                  case rel => exact ⟨i + 1, hlt3, rfl, HB2.out⟩
                  case measure => rw [show ((i : Int) + 1) = ((i + 1 : Nat) : Int) from rfl]; simp only [RowKit.intOf, Int.toNat_natCast]; exact Nat.sub_lt_sub_left hlt3 (Nat.lt_succ_self i)
                · obtain rfl : i = 20 := Nat.le_antisymm hi (Nat.le_of_not_lt hlt3)
                  have hT := total_ok (H.out.below HB2.out)
                  rw [HCa.out] at hT
                  have HT := Lib.hid hT; clear hT
                  go_wp2_with fail
                  refine HT.out.mono ?_
                  rintro e w10 ⟨rfl, rfl⟩
                  clear HT
                  go_wp2
                  go_ret
                  exact ⟨rfl, chain2 HB.out HB2.out⟩
          · have e1 : (putE 5 6 20 s (n : Int) ((qa : Int), (qb : Int)) == 0) = false := by simp [hE]
            have e2 : (putE 5 6 20 s (n : Int) ((qa : Int), (qb : Int)) = 0) = False := eq_false hE
            rw [show putS 5 6 20 s (n : Int) ((qa : Int), (qb : Int)) = s from if_neg hE] at H
            clear hE HX
            generalize putE 5 6 20 s (n : Int) ((qa : Int), (qb : Int)) = ev at e1 e2 ⊢
            obtain ⟨s2, q1, q2, q3, q4⟩ : ∃ s2, WOk 5 6 20 s2 ∧ (∀ j, s2.at_ j = s.at_ j) ∧ WAt w.heap.size w7 g 5 6 20 s2 bm bo bl cap ∧ s2.ca = s.ca := ⟨s, HS.out, fun j => rfl, H.out, rfl⟩
            clear H
            have HS2 := Lib.hid q1; have HE := Lib.hid q2; have H := Lib.hid q3; have HCa := Lib.hid q4; clear q1 q2 q3 q4
            obtain ⟨w9, hw9⟩ : ∃ w9, w9 = w7 := ⟨_, rfl⟩
            subst hw9
            clear HAw
            go_wp2_with fail
            go_loopw [103] (fun i wr => ∃ j : Nat, j ≤ 20 ∧ i = .int .i64 (j : Int) ∧ Below w9.heap.size w9 wr) (fun i _ => 20 - (RowKit.intOf i).toNat)
            case atStart => exact ⟨0, Nat.zero_le _, rfl, Below.refl _ _⟩
            case round =>
              obtain ⟨i, hi, rfl, h1⟩ := hrel
              have HB2 := Lib.hid h1; clear h1
              by_cases hlt3 : i < 20
              · have hat := at_ok (i : Int) (i64_of (i : Int) (by omega) (by omega)) (H.out.below HB2.out)
                rw [show atV s2 (i : Int) = atV s (i : Int) by unfold atV; rw [HE.out]] at hat
                have HAt := Lib.hid hat; clear hat
                obtain ⟨y0, y1⟩ := (HBf.out.below HB2.out).cells hlt3
                have HY := Lib.hid (And.intro y0 y1); clear y0 y1
                generalize (atV s (i : Int)).1 = pa at HAt HY
                generalize (atV s (i : Int)).2 = pb at HAt HY
                go_wp2_with fail
                refine HAt.out.mono ?_
                rintro e w5 ⟨rfl, hd⟩
                clear HAt
                replace HY := Lib.hid (And.intro (pw_cell_below hd HY.out.1) (pw_cell_below hd HY.out.2))
                replace HB2 := Lib.hid (chain2 HB2.out hd); clear hd
                have HX := Lib.hid (heap_alloc_new w5 (.cells #[.int .i64 pa, .int .i64 pb] 30))
                have ha := below_alloc (Below.refl w5.heap.size w5) (.cells #[.int .i64 pa, .int .i64 pb] 30)
                replace HY := Lib.hid (And.intro (pw_cell_below ha HY.out.1) (pw_cell_below ha HY.out.2))
                replace HB2 := Lib.hid (chain2 HB2.out ha); clear ha
                go_wp2_with fail
                generalize w5.heap.size = bx at HX ⊢
                generalize w5.alloc (.cells #[.int .i64 pa, .int .i64 pb] 30) = w6 at HX HY HB2 ⊢
                replace HB2 := Lib.hid (below_drew1 HB2.out)
                have j1 : ((0 : Int) ≤ (i : Int)) = True := eq_true (Int.natCast_nonneg i)
                have j2 : ((i : Int) < 20) = True := eq_true (Int.ofNat_lt.mpr hlt3)
                have hS : w6.drew.heap[bx]? = some (.cells #[.int .i64 pa, .int .i64 pb] 30 (0, 0)) ∧ w6.drew.cell? ⟨bb, i * 2, none⟩ = some (.int .i64 pa) ∧ w6.drew.cell? ⟨bb, i * 2 + 1, none⟩ = some (.int .i64 pb) := ⟨HX.out, HY.out.1, HY.out.2⟩
                refine start_ (n := 5) (S := fun w' => w'.heap[bx]? = some (.cells #[.int .i64 pa, .int .i64 pb] 30 (0, 0)) ∧ w'.cell? ⟨bb, i * 2, none⟩ = some (.int .i64 pa) ∧ w'.cell? ⟨bb, i * 2 + 1, none⟩ = some (.int .i64 pb)) (ds := []) #[false, false, false, false, false] (by kernel_rfl) rfl rfl hS (fun hHeld => ?_)
                refine with_tabW rg4_25.tab rg4_25.bits (fun HT_ HW_ => ?_)
                generalize w6.drew = w' at HB2 hHeld ⊢
                refine pure_ (i := 1) (N := some 113) (v := ?_) (a' := ?_) #[false, true, false, false, false] rfl rfl (any_of HT_.out (by kernel_rfl)) (fun _ _ _ h => h) (Or.inl ⟨by rfl, ?_⟩) ?_ ?_
                rotate_left
                · intro w'
                  go_simp
                  try with_reducible rfl
                rotate_left
                · simp (maxSteps := 4000000) only [Act.put, List.setIfInBounds_toArray, List.set_cons_zero, List.set_cons_succ, i64_w, i32_w]
                  try rfl
                refine pure_ (i := 2) (N := some 114) (v := ?_) (a' := ?_) #[false, true, true, false, false] rfl rfl (any_of HT_.out (by kernel_rfl)) (fun _ _ _ h => h) (Or.inl ⟨by rfl, ?_⟩) ?_ ?_
                rotate_left
                · intro w'
                  go_simp
                  try with_reducible rfl
                rotate_left
                · simp (maxSteps := 4000000) only [Act.put, List.setIfInBounds_toArray, List.set_cons_zero, List.set_cons_succ, i64_w, i32_w]
                  try rfl
                refine take_ (i := 0) (N := some 112) (v := ?_) (a' := ?_) #[true, true, true, false, false] rfl rfl (take_ofW HT_.out HW_.out (by kernel_rfl)) (fun _ _ _ h => h) (Or.inl ⟨by rfl, ?_⟩) hHeld ?_ ?_
                rotate_left
                · intro w' hw_
                  try dsimp only at hw_
                  obtain ⟨g0, g1⟩ := w2_cells hw_.1
                  go_simp
                  try with_reducible rfl
                rotate_left
                · simp (maxSteps := 4000000) only [Act.put, List.setIfInBounds_toArray, List.set_cons_zero, List.set_cons_succ, i64_w, i32_w]
                  try rfl
                refine take_ (i := 3) (N := some 115) (v := ?_) (a' := ?_) #[true, true, true, true, false] rfl rfl (take_ofW HT_.out HW_.out (by kernel_rfl)) (fun _ _ _ h => h) (Or.inl ⟨by rfl, ?_⟩) hHeld ?_ ?_
                rotate_left
                · intro w' hw_
                  try dsimp only at hw_
                  obtain ⟨_, g0, g1⟩ := hw_
                  go_simp
                  try with_reducible rfl
                rotate_left
                · simp (maxSteps := 4000000) only [Act.put, List.setIfInBounds_toArray, List.set_cons_zero, List.set_cons_succ, i64_w, i32_w]
                  try rfl
                refine pure_ (i := 4) (N := some 116) (v := ?_) (a' := ?_) #[true, true, true, true, true] rfl rfl (any_of HT_.out (by kernel_rfl)) (fun _ _ _ h => h) (Or.inl ⟨by rfl, ?_⟩) ?_ ?_
                rotate_left
                · intro w'
                  go_simp
                  try with_reducible rfl
                rotate_left
                · simp (maxSteps := 4000000) only [Act.put, List.setIfInBounds_toArray, List.set_cons_zero, List.set_cons_succ, i64_w, i32_w]
                  try rfl
                refine done_ (done_of HT_.out (by kernel_rfl)) ?_
                go_wp2
                go_roundw
                case rel => exact ⟨i + 1, hlt3, rfl, HB2.out⟩
                case measure => rw [show ((i : Int) + 1) = ((i + 1 : Nat) : Int) from rfl]; simp only [RowKit.intOf, Int.toNat_natCast]; exact Nat.sub_lt_sub_left hlt3 (Nat.lt_succ_self i)
              · obtain rfl : i = 20 := Nat.le_antisymm hi (Nat.le_of_not_lt hlt3)
                have hT := total_ok (H.out.below HB2.out)
                rw [HCa.out] at hT
                have HT := Lib.hid hT; clear hT
                go_wp2_with fail
                refine HT.out.mono ?_
                rintro e w10 ⟨rfl, rfl⟩
                clear HT
                go_wp2
                go_ret
                exact ⟨rfl, chain2 HB.out HB2.out⟩
theorem whereBack_law (a0 : Option Addr) (len0 cap0 : Nat) (z0 : List Int) (a1 a2 : Int) (W : World) (w0 : (a0 = none ∧ len0 = 0 ∧ cap0 = 0 ∧ z0 = []) ∨ ∃ x, a0 = some x ∧ len0 ≤ cap0 ∧ cap0 ≤ maxLen ∧ z0.length = cap0 ∧ (∀ i, i < z0.length → W.cell? (x.add i) = some (.int .u16 (z0.getD i 0))) ∧ ∀ n ∈ z0, (Lit.int .u16 n).wf = true) (y0 : len0 * 2 ≤ 140737488351232) (w1 : (Lit.int .u8 a1).wf = true) (w2 : (Lit.int .u8 a2).wf = true) :
    Calls Try.prog 4 #[.slice a0 len0 cap0, .int .u8 a1, .int .u8 a2] W fun e w' => e = .returned (.bool true) ∧ Below W.heap.size W w' := by
  obtain ⟨h, h1, h2⟩ := ints_in w0
  obtain ⟨m, rfl, hm⟩ := wf_u8 w1
  obtain ⟨n, rfl, hn⟩ := wf_u8 w2
  exact whereBack_walk a0 len0 cap0 z0 h1 h2 m n hm hn W h
end Go.Proofs.Ythapekmdnokniaa
