/- KeysPlay: the walk. No conditions beyond the form's own reach. -/
import Derived.Test.YtkadlahhcldjfaaXKeysPlayC
namespace Go.Proofs.Ytkadlahhcldjfaa
open Go.RowKit Go.Lib Go.Proofs.Ytkadlahhcldjfaa.P Go.Proofs.Ytkadlahhcldjfaa.BeS Go.Proofs.YtkadlahhcldjfaaW.PrintWords Go.Proofs.YtkadlahhcldjfaaW.PrintLast Go.Proofs.YtkadlahhcldjfaaW.PrintMore
set_option linter.unusedVariables false
set_option linter.unusedSimpArgs false
def rg5_18.T : Bool × List (List Nat × List Nat) := (true, [([], []), ([0], [0]), ([], []), ([], []), ([3], [3]), ([4], [4]), ([2, 5], [2, 5]), ([1, 6], [1, 6]), ([7], [7]), ([], [])])
def rg5_18.B : List Nat := [0, 1, 0, 0, 8, 24, 60, 127, 255, 0]
theorem rg5_18.tab : rtab .any (opsOf Try.f5 18) = rg5_18.T := by kernel_rfl
theorem rg5_18.bits : waitsOk rg5_18.T.2 rg5_18.B = true := by kernel_rfl
theorem wr_newT (w : World) : WrAt (w.alloc (.cells #[.slice none 0 0, .bool false] 50)) w.heap.size w.heap.size [] false :=
  ⟨Nat.le_refl _, .slice none 0 0, Box2.new w _ _ _, World.ownsRow_nil _ _ _ _, by simp [Value.ownBlock]⟩
theorem wrap_succK (p : Nat) (h : p < 1000) : wrap64 ((p : Int) + 1) = ((p + 1 : Nat) : Int) := by unfold wrap64; omega
/-- What stands at the head of a round. -/
def PlayAt (w : World) (g n : Nat) (vm : Value) (es : List KE) : Prop := KeysAt w g n es ∧ RowS encK w vm es ∧ vm.ownBlock ≠ some g ∧ (∀ e ∈ es, GoodK e)
theorem RowS.lt {w : World} {v : Value} {es : List KE} (h : RowS encK w v es) : ∀ k, v.ownBlock = some k → k < w.heap.size := by
  intro k hk
  rcases h with ⟨rfl, _⟩ | ⟨g, off, cap, rfl, _, _, e4, _⟩
  · cases hk
  · have : g = k := by simpa [Value.ownBlock] using hk
    omega
theorem putK_good {lim : Nat} {es : List KE} {e : KE} (h : ∀ x ∈ es, GoodK x) (he : 0 ≤ e.key ∧ e.key < 18446744073709551616) : ∀ x ∈ (putK lim es e).1, GoodK x := by
  intro x hx
  unfold putK at hx
  by_cases hr : rightK e = true
  · rw [if_pos hr] at hx
    by_cases hf : (findK e.key es).isSome = true
    · rw [if_pos hf] at hx; exact h x hx
    · rw [if_neg hf] at hx
      unfold moreK at hx
      rw [List.mem_append, List.mem_singleton] at hx
      rcases hx with hx | rfl
      · refine h x ?_
        split at hx
        · exact List.mem_of_mem_drop hx
        · exact hx
      · exact ⟨hr, he⟩
  · rw [if_neg hr] at hx; exact h x hx

set_option maxHeartbeats 8000000 in
set_option maxRecDepth 100000 in
/-- Behind the first lines, of a limit that may be or not. -/
theorem keysPlay_walk (limit : Int) (a b : Option Addr) (l q : List KE) (ca cb : Nat) (ha : l.length ≤ ca ∧ ca ≤ maxLen) (hb : q.length ≤ cb ∧ cb ≤ maxLen) (w : World) (hl : EsAt w a l) (hq : EsAt w b q) (hlim : -9223372036854775808 ≤ limit ∧ limit < 9223372036854775808) :
    Calls Try.prog 5 #[.int .i64 limit, .slice a l.length ca, .slice b q.length cb] w fun e w' => e = .returned (.bool true) ∧ Below w.heap.size w w' := by
  have HLq := Lib.hid hl; clear hl
  have HQ := Lib.hid hq; clear hq
  obtain ⟨N, hN, hN1, hN2, hN3, hN4⟩ : ∃ N : Nat, (if 40 < (l.length : Int) then 40 else (l.length : Int)) = (N : Int) ∧ N ≤ l.length ∧ N ≤ 40 ∧ N ≤ ca ∧ min 40 l.length = N := ⟨min 40 l.length, by split <;> omega, by omega, by omega, by omega, rfl⟩
  have c1 : (0 ≤ (N : Int)) = True := eq_true (by omega)
  have c2 : ((N : Int) ≤ (ca : Int)) = True := eq_true (by omega)
  have c3 : (N ≤ ca) = True := eq_true hN3
  have c4 : decide (N ≤ ca) = true := decide_eq_true hN3
  have hNm : min (l.length : Int) 40 = (N : Int) := by rw [← hN]; split <;> omega
  have HCa := Lib.hid (And.intro ha hb); clear ha hb
  have HN := Lib.hid (And.intro hN1 hN2); clear hN1 hN2 hN3 hN4
  obtain ⟨M, hM, hM2⟩ : ∃ M : Nat, max 0 limit = (M : Int) ∧ (if 0 < limit then limit else 0) = (M : Int) := ⟨(max 0 limit).toNat, by omega, by split <;> omega⟩
  obtain ⟨n, hn, hn1, hn2⟩ : ∃ n : Nat, 1 + (M : Int) % 9 = (n : Int) ∧ 1 ≤ n ∧ n ≤ 9 := ⟨1 + M % 9, by omega, by omega, by omega⟩
  have Hn := Lib.hid (And.intro hn1 hn2); clear hn1 hn2
  rcases (show (1 ≤ limit ∧ limit ≤ 64) ∨ limit < 1 ∨ (1 ≤ limit ∧ 64 < limit) by omega) with hg | hg | hg
  case' inl =>
    obtain ⟨L, rfl⟩ := Int.eq_ofNat_of_zero_le (show 0 ≤ limit by omega)
    have b1 : decide (1 ≤ (L : Int)) = true := decide_eq_true hg.1
    have b2 : decide ((L : Int) ≤ 64) = true := decide_eq_true hg.2
    have HG := Lib.hid (show 1 ≤ L ∧ L ≤ 64 by omega); clear hg hlim
    go_enter Try.func5, Try.ntmps5
    go_wp2_with fail
    refine (keys_new L HG.out.1 HG.out.2 w).mono ?_
    rintro e w1 ⟨g0, rfl, _, _, hd⟩
    have HB := Lib.hid hd; clear hd
    go_wp2_with fail
    clear b1 b2
  case' inr.inl =>
    have b1 : decide (1 ≤ limit) = false := decide_eq_false (by omega)
    have HG := Lib.hid (show limit < 1 ∨ 64 < limit by omega); clear hg hlim
    go_enter Try.func5, Try.ntmps5
    go_wp2_with fail
    refine (keys_newBad limit HG.out w).mono ?_
    rintro e w1 ⟨rfl, hd⟩
    have HB := Lib.hid hd; clear hd
    go_wp2_with fail
    clear b1
  case' inr.inr =>
    have b1 : decide (1 ≤ limit) = true := decide_eq_true (by omega)
    have b2 : decide (limit ≤ 64) = false := decide_eq_false (by omega)
    have HG := Lib.hid (show limit < 1 ∨ 64 < limit by omega); clear hg hlim
    go_enter Try.func5, Try.ntmps5
    go_wp2_with fail
    refine (keys_newBad limit HG.out w).mono ?_
    rintro e w1 ⟨rfl, hd⟩
    have HB := Lib.hid hd; clear hd
    go_wp2_with fail
    clear b1 b2
  all_goals
    clear hM hM2 hn
    refine (keys_new n Hn.out.1 (by have := Hn.out; omega) w1).mono ?_
    rintro e w2 ⟨g, rfl, hg, hk, hd⟩
    have HK := Lib.hid hk; clear hk
    have HGe := Lib.hid (Nat.le_trans HB.out.size hg); clear hg
    replace HB := Lib.hid (chain2 HB.out hd); clear hd
    go_wp2_with fail
    refine (wakes_ok w2).mono ?_
    rintro e w3 ⟨rfl, hd⟩
    replace HK := Lib.hid (HK.out.below hd)
    replace HB := Lib.hid (chain2 HB.out hd); clear hd
    go_wp2_with fail
    clear hN hNm c1 c2 c3 c4
    go_loopw [12, 78] (fun v i wr => ∃ (j : Nat) (es : List KE), j ≤ N ∧ i = .int .i64 (j : Int) ∧ PlayAt wr g n v es ∧ Below w.heap.size w wr) (fun _ i _ => N - (RowKit.intOf i).toNat)
    case atStart => exact ⟨0, [], Nat.zero_le _, rfl, ⟨HK.out, RowS.nil _ _, by simp [Value.ownBlock], by simp⟩, HB.out⟩
    case round =>
      clear HK HB
      obtain ⟨j, es, hj, rfl, ⟨hk, hr, hne, hgd⟩, hb⟩ := hrel
      have HK := Lib.hid hk; clear hk
      have HR := Lib.hid hr; clear hr
      have HNe := Lib.hid hne; clear hne
      have HGd := Lib.hid hgd; clear hgd
      have HB := Lib.hid hb; clear hb
      have HEs := Lib.hid (show es.length ≤ 100 by obtain ⟨_, _, _, _, _, _, h6, _, h8⟩ := HK.out; omega)
      by_cases hlt : j < N
      · have hjl : j < l.length := Nat.lt_of_lt_of_le hlt HN.out.1
        obtain ⟨hin, g1, o1, rfl, k0, k1, k2⟩ := HLq.out j hjl
        replace k0 := pw_cell_below HB.out k0
        replace k1 := pw_cell_below HB.out k1
        replace k2 := pw_cell_below HB.out k2
        have HIn := Lib.hid hin; clear hin
        generalize l[j] = x at k0 k1 k2 HIn
        obtain ⟨xk, xs, xn⟩ := x
        simp only at k0 k1 k2
        obtain ⟨av, cv, hv, _⟩ := HR.out.len
        subst hv
        obtain ⟨nv, hnv⟩ : ∃ nv, nv = es.length := ⟨_, rfl⟩
        rw [← hnv] at HR HNe ⊢
        have HNv := Lib.hid hnv; clear hnv
        have e3 : wrap64 ((j : Int) + 1) = ((j + 1 : Nat) : Int) := by have := HN.out; unfold wrap64; omega
        have Hlt := Lib.hid hlt
        go_wp2_with fail
        clear k0 k1 k2
        generalize xs.extract 0 (min (xs.size : Int) 300).toNat = ys
        have HX := Lib.hid (heap_alloc_new wr (.cells #[.int .u64 xk, .string ys, .int .i64 xn] 41))
        have hd := below_alloc (Below.refl wr.heap.size wr) (.cells #[.int .u64 xk, .string ys, .int .i64 xn] 41)
        have HGb := Lib.hid (show g < wr.heap.size from HK.out.lt)
        replace HK := Lib.hid (HK.out.below hd)
        replace HR := Lib.hid (HR.out.below hd)
        replace HB := Lib.hid (chain2 HB.out hd); clear hd
        generalize wr.alloc (.cells #[.int .u64 xk, .string ys, .int .i64 xn] 41) = w4 at HX HK HR HB ⊢
        generalize wr.heap.size = bx at HX HGb ⊢
        refine (keys_copyIn g n es w4 HK.out).mono ?_
        rintro e w5 ⟨g2, r2, rfl, hg2, hk2, hr2, hd⟩
        have HG2 := Lib.hid (show g < g2 ∧ ∀ k, r2 = some k → g < k from ⟨Nat.lt_of_lt_of_le HK.out.lt hg2, fun k hk => Nat.lt_of_lt_of_le HK.out.lt (hr2 k hk)⟩); clear hg2 hr2
        have HK2 := Lib.hid hk2; clear hk2
        replace HK := Lib.hid (HK.out.below hd)
        replace HR := Lib.hid (HR.out.below hd)
        replace HX := Lib.hid (blk_below HX.out hd)
        replace HB := Lib.hid (chain2 HB.out hd); clear hd
        have x0 : w5.cell? ⟨bx, 0, none⟩ = some (.int .u64 xk) := cell_of_row _ bx 0 _ _ (0, 0) HX.out
        have x1 : w5.cell? ⟨bx, 1, none⟩ = some (.string ys) := cell_of_row _ bx 1 _ _ (0, 0) HX.out
        have x2 : w5.cell? ⟨bx, 2, none⟩ = some (.int .i64 xn) := cell_of_row _ bx 2 _ _ (0, 0) HX.out
        go_wp2_with fail
        clear x0 x1 x2
        rw [HNv.out] at HR HNe ⊢
        refine (rputN n es HEs.out ⟨xk, ys, xn⟩ _ w5 HR.out).mono ?_
        rintro e w6 ⟨v', rfl, hr', hnew, hd⟩
        have HR2 := Lib.hid hr'; clear hr'
        have HNe2 := Lib.hid (show v'.ownBlock ≠ some g by
          intro e
          rcases hnew with rfl | hnew
          · exact HNe.out e
          · have := hnew g e; have := HK.out.lt; omega); clear hnew
        replace HK := Lib.hid (HK.out.below hd)
        replace HK2 := Lib.hid (HK2.out.below hd)
        replace HR := Lib.hid (HR.out.below hd)
        replace HX := Lib.hid (blk_below HX.out hd)
        replace HB := Lib.hid (chain2 HB.out hd); clear hd
        have x0 : w6.cell? ⟨bx, 0, none⟩ = some (.int .u64 xk) := cell_of_row _ bx 0 _ _ (0, 0) HX.out
        have x1 : w6.cell? ⟨bx, 1, none⟩ = some (.string ys) := cell_of_row _ bx 1 _ _ (0, 0) HX.out
        have x2 : w6.cell? ⟨bx, 2, none⟩ = some (.int .i64 xn) := cell_of_row _ bx 2 _ _ (0, 0) HX.out
        have hkp := keys_put g n es ⟨xk, ys, xn⟩ w6 HK.out
        have HGd2 := Lib.hid (putK_good (lim := n) (e := ⟨xk, ys, xn⟩) HGd.out ⟨HIn.out.k0, HIn.out.k1⟩)
        generalize putK n es ⟨xk, ys, xn⟩ = pk at hkp HR2 HGd2 ⊢
        obtain ⟨es2, code⟩ := pk
        simp only at hkp HR2 HGd2
        have HKP := Lib.hid hkp; clear hkp
        go_wp2_with fail
        clear x0 x1 x2
        refine HKP.out.mono ?_
        clear HKP
        rintro e w7 ⟨rfl, hk', hd⟩
        replace HK := Lib.hid hk'; clear hk'
        replace HK2 := Lib.hid (HK2.out.grown hd (by have := HG2.out.1; intro e; cases e; omega) (.inr (by intro e; have := HG2.out.2 g e.symm; omega)))
        replace HR := Lib.hid (HR.out.grown hd HNe.out)
        replace HR2 := Lib.hid (HR2.out.grown hd HNe2.out)
        replace HX := Lib.hid ((hd.block bx (blk_lt HX.out) (by have := HGb.out; intro e; cases e; omega)).trans HX.out)
        replace HB := Lib.hid (chainP HB.out HGe.out hd); clear hd
        go_wp2_with fail
        refine (keys_same g2 n es _ w7 HK2.out.at_ HR.out).mono ?_
        rintro e w8 ⟨rfl, hd⟩
        clear HK2 HR HG2
        replace HK := Lib.hid (HK.out.below hd)
        replace HR2 := Lib.hid (HR2.out.below hd)
        replace HX := Lib.hid (blk_below HX.out hd)
        replace HB := Lib.hid (chain2 HB.out hd); clear hd
        go_wp2_with fail
        refine (keys_same g n es2 v' w8 HK.out HR2.out).mono ?_
        rintro e w9 ⟨rfl, hd⟩
        replace HK := Lib.hid (HK.out.below hd)
        replace HR2 := Lib.hid (HR2.out.below hd)
        replace HX := Lib.hid (blk_below HX.out hd)
        replace HB := Lib.hid (chain2 HB.out hd); clear hd
        go_wp2_with fail
        have hcb := HCa.out.2.1
        obtain ⟨m5, hN, hN1, hN2, hN3, hN4⟩ : ∃ N : Nat, (if 5 < (q.length : Int) then 5 else (q.length : Int)) = (N : Int) ∧ N ≤ q.length ∧ N ≤ 5 ∧ N ≤ cb ∧ min 5 q.length = N := ⟨min 5 q.length, by split <;> omega, by omega, by omega, by omega, rfl⟩
        have c1 : (0 ≤ (m5 : Int)) = True := eq_true (by omega)
        have c2 : ((m5 : Int) ≤ (cb : Int)) = True := eq_true (by omega)
        have c3 : (m5 ≤ cb) = True := eq_true hN3
        have c4 : decide (m5 ≤ cb) = true := decide_eq_true hN3
        have hNm : min (q.length : Int) 5 = (m5 : Int) := by rw [← hN]; split <;> omega
        have HKn := Lib.hid (And.intro hN1 hN2); clear hN1 hN2 hN3 hN4 hcb
        have hqt := (HQ.out.below HB.out).take m5
        have HQt := Lib.hid hqt; clear hqt
        have HQl := Lib.hid (show (q.take m5).length = m5 by rw [List.length_take]; have := HKn.out; omega)
        replace HK := Lib.hid (show KeysAt w9.drew g n es2 from HK.out.below (below_drew1 (Below.refl _ _)))
        replace HR2 := Lib.hid (show RowS encK w9.drew v' es2 from HR2.out)
        replace HX := Lib.hid (show w9.drew.heap[bx]? = _ from HX.out)
        replace HQt := Lib.hid (show EsAt w9.drew b (q.take m5) from HQt.out)
        replace HB := Lib.hid (below_drew1 HB.out)
        have hS : w9.drew.cell? ⟨bx, 0, none⟩ = some (.int .u64 xk) ∧ w9.drew.cell? ⟨bx, 1, none⟩ = some (.string ys) ∧ w9.drew.cell? ⟨bx, 2, none⟩ = some (.int .i64 xn) := ⟨cell_of_row _ bx 0 _ _ (0, 0) HX.out, cell_of_row _ bx 1 _ _ (0, 0) HX.out, cell_of_row _ bx 2 _ _ (0, 0) HX.out⟩
        refine start_ (n := 10) (S := fun w' => w'.cell? ⟨bx, 0, none⟩ = some (.int .u64 xk) ∧ w'.cell? ⟨bx, 1, none⟩ = some (.string ys) ∧ w'.cell? ⟨bx, 2, none⟩ = some (.int .i64 xn)) (ds := []) #[false, false, false, false, false, false, false, false, false, false] (by kernel_rfl) rfl rfl hS (fun hHeld => ?_)
        refine with_tabW rg5_18.tab rg5_18.bits (fun HT_ HW_ => ?_)
        generalize w9.drew = w' at HK HR2 HX HQt HB hS hHeld ⊢
        refine pure_ (i := 2) (N := some 119) (v := ?_) (a' := ?_) #[false, false, true, false, false, false, false, false, false, false] rfl rfl (any_of HT_.out (by kernel_rfl)) (fun _ _ _ h => h) (Or.inl ⟨by rfl, ?_⟩) ?_ ?_
        rotate_left
        · intro w'
          go_simp
          try with_reducible rfl
        rotate_left
        · simp (maxSteps := 4000000) only [Act.put, List.setIfInBounds_toArray, List.set_cons_zero, List.set_cons_succ, i64_w, i32_w]
          try rfl
        refine pure_ (i := 3) (N := some 120) (v := ?_) (a' := ?_) #[false, false, true, true, false, false, false, false, false, false] rfl rfl (any_of HT_.out (by kernel_rfl)) (fun _ _ _ h => h) (Or.inl ⟨by rfl, ?_⟩) ?_ ?_
        rotate_left
        · intro w'
          go_simp
          try with_reducible rfl
        rotate_left
        · simp (maxSteps := 4000000) only [Act.put, List.setIfInBounds_toArray, List.set_cons_zero, List.set_cons_succ, i64_w, i32_w]
          try rfl
        refine pure_ (i := 4) (N := some 121) (v := ?_) (a' := ?_) #[false, false, true, true, true, false, false, false, false, false] rfl rfl (any_of HT_.out (by kernel_rfl)) (fun _ _ _ h => h) (Or.inl ⟨by rfl, ?_⟩) ?_ ?_
        rotate_left
        · intro w'
          go_simp
          try with_reducible rfl
        rotate_left
        · simp (maxSteps := 4000000) only [Act.put, List.setIfInBounds_toArray, List.set_cons_zero, List.set_cons_succ, i64_w, i32_w]
          try rfl
        refine pure_ (i := 5) (N := some 122) (v := ?_) (a' := ?_) #[false, false, true, true, true, true, false, false, false, false] rfl rfl (any_of HT_.out (by kernel_rfl)) (fun _ _ _ h => h) (Or.inl ⟨by rfl, ?_⟩) ?_ ?_
        rotate_left
        · intro w'
          go_simp
          try with_reducible rfl
        rotate_left
        · simp (maxSteps := 4000000) only [Act.put, List.setIfInBounds_toArray, List.set_cons_zero, List.set_cons_succ, i64_w, i32_w]
          try rfl
        refine pure_ (i := 6) (N := some 123) (v := ?_) (a' := ?_) #[false, false, true, true, true, true, true, false, false, false] rfl rfl (any_of HT_.out (by kernel_rfl)) (fun _ _ _ h => h) (Or.inl ⟨by rfl, ?_⟩) ?_ ?_
        rotate_left
        · intro w'
          go_simp
          try with_reducible rfl
        rotate_left
        · simp (maxSteps := 4000000) only [Act.put, List.setIfInBounds_toArray, List.set_cons_zero, List.set_cons_succ, i64_w, i32_w]
          try rfl
        refine pure_ (i := 9) (N := some 126) (v := ?_) (a' := ?_) #[false, false, true, true, true, true, true, false, false, true] rfl rfl (any_of HT_.out (by kernel_rfl)) (fun _ _ _ h => h) (Or.inl ⟨by rfl, ?_⟩) ?_ ?_
        rotate_left
        · intro w'
          go_simp
          try with_reducible rfl
        rotate_left
        · simp (maxSteps := 4000000) only [Act.put, List.setIfInBounds_toArray, List.set_cons_zero, List.set_cons_succ, i64_w, i32_w]
          try rfl
        refine take_ (i := 0) (N := some 117) (v := ?_) (a' := ?_) #[true, false, true, true, true, true, true, false, false, true] rfl rfl (take_ofW HT_.out HW_.out (by kernel_rfl)) (fun _ _ _ h => h) (Or.inl ⟨by rfl, ?_⟩) hHeld ?_ ?_
        rotate_left
        · intro w' hw_
          try dsimp only at hw_
          obtain ⟨x0, x1, x2⟩ := hw_
          go_simp
          try with_reducible rfl
        rotate_left
        · simp (maxSteps := 4000000) only [Act.put, List.setIfInBounds_toArray, List.set_cons_zero, List.set_cons_succ, i64_w, i32_w]
          try rfl
        refine one_ (i := 1) (N := some 118) #[true, true, true, true, true, true, true, false, false, true] rfl rfl (one_of HT_.out (by kernel_rfl)) (by decide) (fun K hK => ?_)
        refine value_ (v := .slice (some ⟨w'.heap.size, 0, none⟩) 1 1) (w1 := w'.alloc (.cells #[.int .u64 xk, .string ys, .int .i64 xn] 41)) (by rfl) rfl ?_ ?_
        · (go_simp)
        have HRo := Lib.hid (World.ownsRow_lit (base := w'.heap.size) (e := 41) (size := 3) w' #[.int .u64 xk, .string ys, .int .i64 xn] 1 (Nat.le_refl _) (by decide) rfl)
        have HBw := Lib.hid (below_alloc (Below.refl w'.heap.size w') (.cells #[.int .u64 xk, .string ys, .int .i64 xn] 41))
        have HbN := Lib.hid (Nat.le_refl w'.heap.size)
        generalize hbn : w'.heap.size = bN at HRo HBw ⊢
        replace HBw := Lib.hid (show Below w'.heap.size w' _ by rw [hbn]; exact HBw.out)
        replace HbN := Lib.hid (show w'.heap.size ≤ bN ∧ bN ≤ w'.heap.size by rw [hbn]; exact ⟨Nat.le_refl _, Nat.le_refl _⟩)
        clear hbn
        generalize w'.alloc (.cells #[.int .u64 xk, .string ys, .int .i64 xn] 41) = w'' at HRo HBw ⊢
        refine hK.out _ _ (⟨cell_of_row _ bx 0 _ _ (0, 0) (blk_below HX.out HBw.out), cell_of_row _ bx 1 _ _ (0, 0) (blk_below HX.out HBw.out), cell_of_row _ bx 2 _ _ (0, 0) (blk_below HX.out HBw.out)⟩) (fun hHeld => ?_)
        clear hK K
        refine norm_ (a' := ?_) ?_ ?_
        rotate_left
        · show Act.put _ (some 118) _ = _
          simp (maxSteps := 4000000) only [Act.put, List.setIfInBounds_toArray, List.set_cons_zero, List.set_cons_succ, i64_w, i32_w]
          try rfl
        refine one_ (i := 7) (N := some 124) #[true, true, true, true, true, true, true, true, false, true] rfl rfl (one_of HT_.out (by kernel_rfl)) (by decide) (fun K hK => ?_)
        obtain ⟨ra, rc, wq, hrun, hrow, hgr⟩ := run_append_es (w := w'') bN (.slice (some ⟨bN, 0, none⟩) 1 1) [⟨xk, ys, xn⟩] (q.take m5) b cb HRo.out (HQt.out.below HBw.out) (by rw [HQl.out]; have := HKn.out; simp; omega) (by have := HBw.out.size; have := HbN.out.2; omega) 39
        rw [HQl.out] at hrun hrow
        have hql : ([⟨xk, ys, xn⟩] ++ q.take m5 : List KE).length = ([⟨xk, ys, xn⟩] : List KE).length + m5 ∧ ([⟨xk, ys, xn⟩] : List KE).length + m5 ≤ 6 := ⟨by rw [List.length_append, HQl.out], by have := HKn.out.2; simp; omega⟩
        generalize ([⟨xk, ys, xn⟩] : List KE).length + m5 = nr at hrun hrow hql
        generalize ([⟨xk, ys, xn⟩] ++ q.take m5 : List KE) = qs at hrow hql
        have HQs := Lib.hid hql
        clear hql
        refine value_ (v := .slice ra nr rc) (w1 := wq) (by rfl) rfl (append_run rfl (by rfl) (by rfl) hrun) ?_
        clear hrun
        have hd := pw_below_grown HBw.out _ HBw.out.size hgr (fun k hk => by cases hk; exact HbN.out.1)
        replace HK := Lib.hid (HK.out.below hd)
        replace HR2 := Lib.hid (HR2.out.below hd)
        replace HX := Lib.hid (blk_below HX.out hd)
        replace HB := Lib.hid (chain2 HB.out hd)
        have HRow := Lib.hid hrow
        clear hrow hd hgr HBw HRo HQt HbN
        refine hK.out _ _ (⟨cell_of_row _ bx 0 _ _ (0, 0) HX.out, cell_of_row _ bx 1 _ _ (0, 0) HX.out, cell_of_row _ bx 2 _ _ (0, 0) HX.out⟩) (fun hHeld => ?_)
        clear hK K
        refine norm_ (a' := ?_) ?_ ?_
        rotate_left
        · show Act.put _ (some 124) _ = _
          simp (maxSteps := 4000000) only [Act.put, List.setIfInBounds_toArray, List.set_cons_zero, List.set_cons_succ, i64_w, i32_w]
          try rfl
        refine pure_ (i := 8) (N := some 125) (v := ?_) (a' := ?_) #[true, true, true, true, true, true, true, true, true, true] rfl rfl (any_of HT_.out (by kernel_rfl)) (fun _ _ _ h => h) (Or.inl ⟨by rfl, ?_⟩) ?_ ?_
        rotate_left
        · intro w'
          go_simp
          try with_reducible rfl
        rotate_left
        · simp (maxSteps := 4000000) only [Act.put, List.setIfInBounds_toArray, List.set_cons_zero, List.set_cons_succ, i64_w, i32_w]
          try rfl
        refine done_ (done_of HT_.out (by kernel_rfl)) ?_
        clear c1 c2 c3 c4 hN hNm
        go_wp2_with fail
        have HEs2 := Lib.hid (show es2.length ≤ 100 by obtain ⟨_, _, _, _, _, _, h6, _, h8⟩ := HK.out; omega)
        go_loopw [126] (fun i wi => ∃ p : Nat, p ≤ nr ∧ i = .int .i64 (p : Int) ∧ Below wq.heap.size wq wi) (fun i _ => nr - (RowKit.intOf i).toNat)
        case atStart => exact ⟨0, Nat.zero_le _, rfl, Below.refl _ _⟩
        case round =>
          obtain ⟨p, hp, rfl, hd⟩ := hrel
          have HD := Lib.hid hd; clear hd
          by_cases hlp : p < nr
          · have e4 : wrap64 ((p : Int) + 1) = ((p + 1 : Nat) : Int) := wrap_succK p (Nat.lt_of_lt_of_le hlp (Nat.le_trans HQs.out.2 (by decide)))
            have Hlp := Lib.hid hlp
            have hr2 := HRow.out.below HD.out
            have hpq : p < qs.length := Nat.lt_of_lt_of_eq hlp HQs.out.1.symm
            obtain ⟨gg, off, rfl⟩ := row_at hr2 (Nat.lt_of_le_of_lt (Nat.zero_le p) hpq)
            obtain ⟨l1, l2, l3⟩ := row3 hr2 p hpq
            clear hr2
            generalize qs[p] = y at l1 l2 l3
            obtain ⟨yk, yb, yn⟩ := y
            simp only at l1 l2 l3
            have hq1 : ((p : Int) < (nr : Int)) = True := eq_true (Int.ofNat_lt.mpr hlp)
            have hq2 : decide ((p : Int) < (nr : Int)) = true := decide_eq_true (Int.ofNat_lt.mpr hlp)
            go_wp2_with fail
            have hd := below_alloc (Below.refl wr.heap.size wr) (.cells #[.int .u64 yk, .string yb, .int .i64 yn] 41)
            have HY := Lib.hid (heap_alloc_new wr (.cells #[.int .u64 yk, .string yb, .int .i64 yn] 41))
            replace HD := Lib.hid (chain2 HD.out hd); clear hd l1 l2 l3 hq1 hq2
            generalize wr.alloc (.cells #[.int .u64 yk, .string yb, .int .i64 yn] 41) = z1 at HD HY ⊢
            generalize wr.heap.size = by_ at HY ⊢
            refine (keys_match g n es2 yk yb z1 (HK.out.below HD.out)).mono ?_
            rintro e z2 ⟨rfl, hd⟩
            replace HY := Lib.hid (blk_below HY.out hd)
            replace HD := Lib.hid (chain2 HD.out hd); clear hd
            have y0 : z2.cell? ⟨by_, 0, none⟩ = some (.int .u64 yk) := cell_of_row _ by_ 0 _ _ (0, 0) HY.out
            have y1 : z2.cell? ⟨by_, 1, none⟩ = some (.string yb) := cell_of_row _ by_ 1 _ _ (0, 0) HY.out
            go_wp2_with fail
            clear y0 y1
            refine (rmatch_ok es2 HEs2.out yk yb v' z2 (HR2.out.below HD.out)).mono ?_
            rintro e z3 ⟨rfl, hd⟩
            replace HD := Lib.hid (chain2 HD.out hd); clear hd
            generalize matchK es2 yk yb = mk
            obtain ⟨mk1, mk2⟩ := mk
            go_wp2_with fail
            go_roundw
            case rel => exact ⟨p + 1, Hlp.out, by first | rw [e4] | rfl, HD.out⟩
            case measure => have hlp := Hlp.out; (first | rw [e4] | rw [show ((p : Int) + 1) = ((p + 1 : Nat) : Int) from rfl]); simp only [RowKit.intOf, Int.toNat_natCast]; exact Nat.sub_lt_sub_left hlp (Nat.lt_succ_self p)
          · obtain rfl : p = nr := Nat.le_antisymm hp (Nat.le_of_not_lt hlp)
            go_wp2_with fail
            go_roundw
            case rel => exact ⟨j + 1, es2, Hlt.out, by first | rw [e3] | rfl, ⟨HK.out.below HD.out, HR2.out.below HD.out, HNe2.out, HGd2.out⟩, chain2 HB.out HD.out⟩
            case measure => have hlt := Hlt.out; (first | rw [e3] | rw [show ((j : Int) + 1) = ((j + 1 : Nat) : Int) from rfl]); simp only [RowKit.intOf, Int.toNat_natCast]; exact Nat.sub_lt_sub_left hlt (Nat.lt_succ_self j)
      · obtain rfl : j = N := Nat.le_antisymm hj (Nat.le_of_not_lt hlt)
        obtain ⟨av, cv, hv, _⟩ := HR.out.len
        subst hv
        have HE64 := Lib.hid (show es.length ≤ 64 by obtain ⟨_, _, _, _, _, _, h6, _, h8⟩ := HK.out; omega)
        have hW := wr_newT wr
        have hd := below_alloc (Below.refl wr.heap.size wr) (.cells #[.slice none 0 0, .bool false] 50)
        have HK0 := HK
        have HD := Lib.hid hd; clear hd
        go_wp2_with fail
        generalize wr.alloc (.cells #[.slice none 0 0, .bool false] 50) = z1 at hW HD ⊢
        have HBs := Lib.hid (Nat.le_refl wr.heap.size)
        have hbs2 := HBs.out
        generalize hbz : wr.heap.size = base at hW hbs2 ⊢
        have HW := Lib.hid hW.o; clear hW
        have HBs2 := Lib.hid (show wr.heap.size ≤ base ∧ base ≤ wr.heap.size by omega); clear hbs2 hbz HBs
        refine (keys_write g n es base (some base) [] wr z1 HK0.out HD.out HBs2.out.1 HW.out (by simp) HGd.out).mono ?_
        rintro e z2 ⟨rfl, hw, hd, _⟩
        replace HW := Lib.hid hw; clear hw
        replace HD := Lib.hid (HD.out.trans (hd.mono HBs2.out.1)); clear hd
        go_wp2_with fail
        refine (keys_write g n es z2.heap.size none [] z2 z2 (HK0.out.below HD.out) (Below.refl _ _) (Nat.le_refl _) ⟨Nat.le_refl _, fun _ h => by cases h⟩ (by simp) HGd.out).mono ?_
        rintro e z3 ⟨rfl, _, hd, _⟩
        replace HW := Lib.hid (HW.out.below hd)
        replace HD := Lib.hid (chain2 HD.out hd); clear hd
        go_wp2_with fail
        refine (wr_bytes base base _ false z3 (HW.out.2 base rfl)).mono ?_
        rintro e z4 ⟨rfl, hd⟩
        replace HD := Lib.hid (chain2 HD.out hd); clear hd HW
        go_wp2_with fail
        refine (rtext_ok es HE64.out HGd.out _ z4 (HR.out.below HD.out)).mono ?_
        rintro e z5 ⟨rfl, hd⟩
        replace HB := Lib.hid (chain2 HB.out (chain2 HD.out hd)); clear hd
        go_wp2
        go_ret
        exact ⟨by simp, HB.out⟩
theorem keysPlay_law (a0 : Int) (a1 : Option Addr) (len1 cap1 : Nat) (a2 : Option Addr) (len2 cap2 : Nat) (W : World) (w0 : (Lit.int .i64 a0).wf = true) (w1 : RowIn W [.int .u64, .str, .int .i64] a1 len1) (y1 : len1 ≤ cap1 ∧ cap1 ≤ maxLen) (w2 : RowIn W [.int .u64, .str, .int .i64] a2 len2) (y2 : len2 ≤ cap2 ∧ cap2 ≤ maxLen) :
    Calls Try.prog 5 #[.int .i64 a0, .slice a1 len1 cap1, .slice a2 len2 cap2] W fun e w' => e = .returned (.bool true) ∧ Below W.heap.size W w' := by
  have b0 : -9223372036854775808 ≤ a0 ∧ a0 < 9223372036854775808 := by simp [Lit.wf, IntKind.min, IntKind.max, IntKind.signed, IntKind.bits] at w0; omega
  obtain ⟨l, rfl, h1⟩ := es_of w1
  obtain ⟨q, rfl, h2⟩ := es_of w2
  exact keysPlay_walk a0 a1 a2 l q cap1 cap2 y1 y2 W h1 h2 b0
end Go.Proofs.Ytkadlahhcldjfaa
