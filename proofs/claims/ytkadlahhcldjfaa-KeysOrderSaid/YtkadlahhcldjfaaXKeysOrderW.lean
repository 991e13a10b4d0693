/- KeysOrder: the walk. No conditions beyond the form's own reach. -/
import Derived.Test.YtkadlahhcldjfaaXKeysWakes
import Derived.Test.YtkadlahhcldjfaaXWant
namespace Go.Proofs.Ytkadlahhcldjfaa
open Go.RowKit Go.Lib Go.Proofs.YtkadlahhcldjfaaW.PrintWords Go.Proofs.YtkadlahhcldjfaaW.PrintLast Go.Proofs.YtkadlahhcldjfaaW.PrintMore
set_option linter.unusedVariables false
set_option linter.unusedSimpArgs false
def rg4_27.T : Bool × List (List Nat × List Nat) := (true, [([], []), ([], []), ([0, 1], [0, 1]), ([2], [2]), ([3], [3]), ([], []), ([], []), ([5, 6], [5, 6]), ([7], [7]), ([4, 8], [4, 8])])
def rg4_27.B : List Nat := [0, 0, 3, 7, 15, 0, 0, 96, 224, 511]
theorem rg4_27.tab : rtab .any (opsOf Try.f4 27) = rg4_27.T := by kernel_rfl
theorem rg4_27.bits : waitsOk rg4_27.T.2 rg4_27.B = true := by kernel_rfl
/-- A slice of bytes that came in: what its first n places hold. -/
def BytesIn (w : World) (a : Option Addr) (n : Nat) (z : List Int) : Prop := ∀ i, i < n → ∃ ad, a = some ad ∧ w.cell? (ad.add i) = some (.int .u8 (z.getD i 0)) ∧ 0 ≤ z.getD i 0 ∧ z.getD i 0 < 256
theorem BytesIn.below {w w' : World} {a : Option Addr} {n : Nat} {z : List Int} (h : BytesIn w a n z) (hb : Below w.heap.size w w') : BytesIn w' a n z := by
  intro i hi
  obtain ⟨ad, h1, h2, h3⟩ := h i hi
  exact ⟨ad, h1, pw_cell_below hb h2, h3⟩

theorem apart_put {w : World} {base : Nat} {v : Value} {ks : List Int} {r r' : Option Nat} (h : v.ownBlock = none ∨ v.ownBlock ≠ r) (hw : WantAt w base v ks) (hr : r' = r ∨ ∀ k, r' = some k → w.heap.size ≤ k) : v.ownBlock = none ∨ v.ownBlock ≠ r' := by
  cases hv : v.ownBlock with
  | none => exact .inl rfl
  | some k =>
    right
    intro e
    rcases hr with rfl | hr
    · rcases h with h | h
      · rw [hv] at h; cases h
      · exact h (hv.trans e)
    · have := hr k e.symm
      have := (hw.lt k hv).2
      omega
theorem KeysIn.lt {w : World} {g lim k : Nat} {es : List KE} (h : KeysIn w g lim es (some k)) : k < w.heap.size := by
  obtain ⟨v, k0, _, _, _, k4, _⟩ := h
  rcases k4 with ⟨rfl, _⟩ | ⟨gg, off, cap, rfl, _, _, e4, _⟩
  · cases k0
  · have : gg = k := by simpa [Value.ownBlock] using k0
    omega
theorem apart_more {w : World} {g lim : Nat} {es : List KE} {v v' : Value} {r : Option Nat} (h : v.ownBlock = none ∨ v.ownBlock ≠ r) (hk : KeysIn w g lim es r) (hv : ∀ k, v'.ownBlock = some k → v.ownBlock = some k ∨ w.heap.size ≤ k) : v'.ownBlock = none ∨ v'.ownBlock ≠ r := by
  cases hv' : v'.ownBlock with
  | none => exact .inl rfl
  | some k =>
    right
    intro e
    subst e
    rcases hv k hv' with h1 | h1
    · rcases h with h | h
      · rw [h1] at h; cases h
      · exact h h1
    · have := hk.lt; omega
theorem wrap_succ (p : Nat) (h : p < 1000) : wrap64 ((p : Int) + 1) = ((p + 1 : Nat) : Int) := by unfold wrap64; omega
theorem row_key {w : World} {gg off cap n : Nat} {es : List KE} (h : RowS encK w (.slice (some ⟨gg, off, none⟩) n cap) es) (p : Nat) (hp : p < es.length) : w.cell? ⟨gg, off + p * 3, none⟩ = some (.int .u64 es[p].key) := by
  rcases h with ⟨h, _⟩ | ⟨g', off', cap', h1, h2, h3, h4, h5⟩
  · cases h
  · simp only [Value.slice.injEq, Option.some.injEq, Addr.mk.injEq, and_true] at h1
    obtain ⟨⟨rfl, rfl⟩, _, rfl⟩ := h1
    exact (row_cells h5 p hp).1
theorem row_form {w : World} {a : Option Addr} {n cap : Nat} {es : List KE} (h : RowS encK w (.slice a n cap) es) (hn : 0 < es.length) : ∃ gg off, a = some ⟨gg, off, none⟩ := by
  rcases h with ⟨_, h⟩ | ⟨g', off', cap', h1, _⟩
  · rw [h] at hn; cases hn
  · simp only [Value.slice.injEq] at h1
    exact ⟨_, _, h1.1⟩
theorem keys_get {es : List KE} {ks : List Int} (h : ks = es.map KE.key) (p : Nat) (hp : p < es.length) (hp2 : p < ks.length) : es[p].key = ks[p] := by
  subst h
  simp
theorem more_full {m : Nat} {es : List KE} {ks : List Int} (h : ks = es.map KE.key) (hq : ks.length = m) (hm : 1 ≤ m) (e : KE) : (ks ++ [e.key]).drop 1 = (moreK m es e).map KE.key := by
  subst h
  rw [List.length_map] at hq
  unfold moreK
  rw [if_pos (by omega), List.map_append, List.map_drop, List.drop_append, List.length_map, show 1 - es.length = 0 from by omega]
  rfl
theorem more_room {m : Nat} {es : List KE} {ks : List Int} (h : ks = es.map KE.key) (hq : ¬ m ≤ ks.length) (e : KE) : ks ++ [e.key] = (moreK m es e).map KE.key := by
  subst h
  rw [List.length_map] at hq
  unfold moreK
  rw [if_neg (by omega), List.map_append]
  rfl
theorem any_take (ks : List Int) (key : Int) (p : Nat) (hp : p < ks.length) : (ks.take (p + 1)).any (· == key) = ((ks.take p).any (· == key) || ks[p] == key) := by
  rw [List.take_succ_eq_append_getElem hp, List.any_append]
  simp
theorem findK_any (es : List KE) (key : Int) : (findK key es).isSome = (es.map KE.key).any (· == key) := by
  unfold findK
  induction es with
  | nil => rfl
  | cons e es ih =>
    rw [List.find?_cons, List.map_cons, List.any_cons]
    by_cases h : e.key = key
    · rw [decide_eq_true h]; simp [h]
    · rw [decide_eq_false h]
      have h2 : (e.key == key) = false := by rw [beq_eq_false_iff_ne]; exact h
      rw [h2, Bool.false_or]
      exact ih
theorem order_right (key nm : Int) (j : Nat) (hn : nm = ((j + 1 : Nat) : Int)) (hj : j < 1000) : rightK ⟨key, { data := #[] }, nm⟩ = true := by
  unfold rightK
  rw [decide_eq_true (show ({ data := #[] } : ByteArray).size ≤ 255 by decide), decide_eq_true (show 1 ≤ nm by omega), decide_eq_true (show nm ≤ 4294967295 by omega)]
  rfl
theorem order_there (m : Nat) (es : List KE) (e : KE) (hr : rightK e = true) (h : (es.map KE.key).any (· == e.key) = true) : putK m es e = (es, 16) := by
  unfold putK
  rw [hr, if_pos rfl, findK_any, h, if_pos rfl]
theorem order_new (m : Nat) (es : List KE) (e : KE) (hr : rightK e = true) (h : (es.map KE.key).any (· == e.key) = false) : putK m es e = (moreK m es e, 0) := by
  unfold putK
  rw [hr, if_pos rfl, findK_any, h, if_neg (by simp)]

set_option maxHeartbeats 4000000 in
set_option maxRecDepth 100000 in
theorem keysOrder_walk (a : Option Addr) (len cap : Nat) (z : List Int) (hlc : len ≤ cap) (hcm : cap ≤ maxLen) (l : Nat) (w : World) (hz : BytesIn w a len z) :
    Calls Try.prog 4 #[.slice a len cap, .int .u8 (l : Int)] w fun e w' => e = .returned (.bool true) ∧ Below w.heap.size w w' := by
  obtain ⟨m, hm, hm1, hm2⟩ : ∃ m : Nat, 1 + (l : Int) % 10 = (m : Int) ∧ 1 ≤ m ∧ m ≤ 10 := ⟨1 + l % 10, by omega, by omega, by omega⟩
  have HZ := Lib.hid hz; clear hz
  go_enter Try.func4, Try.ntmps4
  go_wp2_with fail
  clear hm
  refine (keys_new m hm1 (by omega) w).mono ?_
  rintro e w1 ⟨g, rfl, hg, hk, hb⟩
  have HK := Lib.hid hk; clear hk
  have HB := Lib.hid hb; clear hb
  have HG := Lib.hid hg; clear hg
  have Hm := Lib.hid (And.intro hm1 hm2); clear hm1 hm2
  go_wp2_with fail
  refine (wakes_ok w1).mono ?_
  rintro e w2 ⟨rfl, hd⟩
  replace HK := Lib.hid (HK.out.below hd)
  replace HB := Lib.hid (chain2 HB.out hd); clear hd
  go_wp2_with fail
  obtain ⟨N, hN1, hN2, hN3, hN4⟩ : ∃ N : Nat, (min (len : Int) 50).toNat = N ∧ max (min (len : Int) 50) 0 = (N : Int) ∧ N ≤ len ∧ N ≤ 50 := ⟨min len 50, by omega, by omega, by omega, by omega⟩
  rw [hN1, hN2]
  clear hN1 hN2
  have HN := Lib.hid (And.intro hN3 hN4); clear hN3 hN4
  go_loopw [8, 42] (fun v i wr => ∃ j : Nat, ∃ es : List KE, ∃ ks : List Int, ∃ r : Option Nat, j ≤ N ∧ i = .int .i64 (j : Int) ∧ KeysIn wr g m es r ∧ WantAt wr w.heap.size v ks ∧ ks = es.map KE.key ∧ v.ownBlock ≠ some g ∧ (v.ownBlock = none ∨ v.ownBlock ≠ r) ∧ Below w.heap.size w wr) (fun _ i _ => N - (RowKit.intOf i).toNat)
  case atStart =>
    obtain ⟨r, hr⟩ := HK.out.in_
    exact ⟨0, [], [], r, Nat.zero_le _, rfl, hr, WantAt.nil _ _, rfl, by simp [Value.ownBlock], .inl rfl, HB.out⟩
  case round =>
    clear HK HB
    obtain ⟨j, es, ks, r, hj, rfl, h1, h2, h3, h4, h5, h6⟩ := hrel
    have HK := Lib.hid h1; clear h1
    have HW := Lib.hid h2; clear h2
    have HE := Lib.hid h3; clear h3
    have HA := Lib.hid (And.intro h4 h5); clear h4 h5
    have HB := Lib.hid h6; clear h6
    have HLm := Lib.hid (show es.length ≤ m by obtain ⟨_, _, _, _, _, _, _, q1, _, _⟩ := HK.out; exact q1)
    have HL := Lib.hid (show es.length ≤ 10 by obtain ⟨_, _, _, _, _, _, _, q1, _, _⟩ := HK.out; have := Hm.out.2; omega)
    by_cases hlt : j < N
    · obtain ⟨ad, rfl, hc, c0, c1⟩ := (HZ.out.below HB.out) j (by have := HN.out.1; omega)
      obtain ⟨x, hx⟩ := Int.eq_ofNat_of_zero_le c0
      rw [hx] at hc c1
      clear hx c0
      obtain ⟨key, hk0, e1⟩ : ∃ key : Int, (0 ≤ key ∧ key < 20) ∧ (x : Int) % 20 = key := ⟨_, by omega, rfl⟩
      obtain ⟨nm, hnm, e2⟩ : ∃ nm : Int, nm = ((j + 1 : Nat) : Int) ∧ wrap64 ((j : Int) + 1) = nm := ⟨_, rfl, by have := HN.out.2; unfold wrap64; omega⟩
      have HX := Lib.hid (show (x : Int) < 256 from c1); clear c1
      have HK0 := Lib.hid hk0; clear hk0
      have Hnm := Lib.hid hnm; clear hnm
      go_wp2_with fail
      refine (keys_putIn g m es ⟨key, { data := #[] }, nm⟩ r wr HK.out).mono ?_
      rintro e w3 ⟨rfl, ⟨r', hk, hrr⟩, hgr⟩
      have HR := Lib.hid (order_right key nm j Hnm.out (by have := HN.out.2; omega))
      replace HA := Lib.hid (And.intro HA.out.1 (apart_put HA.out.2 HW.out hrr))
      clear hrr HK
      replace HW := Lib.hid (HW.out.grown hgr (.inr HA.out.1))
      replace HB := Lib.hid (chainP HB.out HG.out hgr)
      clear hgr
      have HK := Lib.hid hk; clear hk
      obtain ⟨fv, hfv⟩ : ∃ fv, fv = (putK m es ⟨key, { data := #[] }, nm⟩).2 := ⟨_, rfl⟩
      rw [← hfv]
      have HF := Lib.hid hfv; clear hfv
      obtain ⟨aw, cw, rfl⟩ := HW.out.form
      have HKS := Lib.hid (show ks.length ≤ 10 by rw [HE.out, List.length_map]; exact HL.out)
      clear hc
      go_wp2_with fail
      go_loopw [12, 57] (fun th i wx => ∃ p : Nat, p ≤ ks.length ∧ i = .int .i64 (p : Int) ∧ th = .bool ((ks.take p).any (· == key)) ∧ wx = w3) (fun _ i _ => ks.length - (RowKit.intOf i).toNat)
      case atStart => exact ⟨0, Nat.zero_le _, rfl, rfl, rfl⟩
      case round =>
        obtain ⟨p, hp, rfl, rfl, rfl⟩ := hrel
        by_cases hpl : p < ks.length
        · obtain ⟨g', off, cap', hform⟩ := HW.out.form1 (Nat.lt_of_le_of_lt (Nat.zero_le p) hpl)
          simp only [Value.slice.injEq, true_and] at hform
          obtain ⟨rfl, rfl⟩ := hform
          have hcell := HW.out.cells p hpl
          unfold u64v at hcell
          have ha := any_take ks key p hpl
          have e3 : wrap64 ((p : Int) + 1) = ((p + 1 : Nat) : Int) := wrap_succ p (Nat.lt_of_lt_of_le hpl (Nat.le_trans HKS.out (by decide)))
          generalize ks[p] = y at hcell ha
          have HAny := Lib.hid ha; clear ha
          cases hth : (ks.take p).any (· == key) with
          | true =>
            have HT := Lib.hid hth; clear hth
            go_wp2
            go_roundw
            case rel => exact ⟨p + 1, hpl, by rw [e3], by rw [HAny.out, HT.out]; rfl, trivial⟩
            case measure => rw [e3]; simp only [RowKit.intOf, Int.toNat_natCast]; exact Nat.sub_lt_sub_left hpl (Nat.lt_succ_self p)
          | false =>
            have HT := Lib.hid hth; clear hth
            go_wp2
            go_roundw
            case rel => exact ⟨p + 1, hpl, by rw [e3], by rw [HAny.out, HT.out]; rfl, trivial⟩
            case measure => rw [e3]; simp only [RowKit.intOf, Int.toNat_natCast]; exact Nat.sub_lt_sub_left hpl (Nat.lt_succ_self p)
        · obtain rfl : p = ks.length := Nat.le_antisymm hp (Nat.le_of_not_lt hpl)
          rw [List.take_length]
          cases hany : ks.any (· == key) with
          | true =>
            rw [HE.out] at hany
            have hput := order_there m es ⟨key, { data := #[] }, nm⟩ HR.out hany
            rw [hput] at HF HK
            obtain rfl := HF.out
            clear hput hany
            go_wp2_with fail
            refine (keys_list g m es wr HK.out.at_).mono ?_
            rintro e w4 ⟨vg, rfl, hrow, hd⟩
            replace HK := Lib.hid (HK.out.below hd)
            replace HW := Lib.hid (HW.out.below hd)
            replace HB := Lib.hid (chain2 HB.out hd)
            clear hd
            obtain ⟨ag, cg, rfl, _⟩ := hrow.len
            have hle : (es).length = ks.length := by rw [HE.out, List.length_map]
            rw [hle] at hrow ⊢
            have HRW := Lib.hid hrow; clear hrow
            have Hle := Lib.hid hle; clear hle
            go_wp2_with fail
            go_loopw [106] (fun i wx => ∃ p : Nat, p ≤ ks.length ∧ i = .int .i64 (p : Int) ∧ Drawn0 w4 wx) (fun i _ => ks.length - (RowKit.intOf i).toNat)
            case atStart => exact ⟨0, Nat.zero_le _, rfl, Drawn0.refl _⟩
            case round =>
              obtain ⟨p, hp, rfl, hdr⟩ := hrel
              have HD := Lib.hid hdr; clear hdr
              by_cases hpl : p < ks.length
              · have hpe : p < (es).length := by rw [Hle.out]; exact hpl
                obtain ⟨g', off, cap', hform⟩ := HW.out.form1 (Nat.lt_of_le_of_lt (Nat.zero_le p) hpl)
                simp only [Value.slice.injEq, true_and] at hform
                obtain ⟨rfl, rfl⟩ := hform
                obtain ⟨gg, og, rfl⟩ := row_form HRW.out (Nat.lt_of_le_of_lt (Nat.zero_le p) hpe)
                have hc1 := (HW.out.below HD.out.below).cells p hpl
                have hc2 := row_key (HRW.out.below HD.out.below) p hpe
                unfold u64v at hc1
                rw [keys_get HE.out p hpe hpl] at hc2
                have e3 : wrap64 ((p : Int) + 1) = ((p + 1 : Nat) : Int) := wrap_succ p (Nat.lt_of_lt_of_le hpl (Nat.le_trans HKS.out (by decide)))
                have q0 : (0 : Int) ≤ (p : Int) := Int.natCast_nonneg p
                have q1 : (p : Int) < (ks.length : Int) := Int.ofNat_lt.mpr hpl
                generalize ks[p] = y at hc1 hc2
                replace hc1 : wr.drew.cell? ⟨g', off + p, none⟩ = some (.int .u64 y) := hc1
                replace hc2 : wr.drew.cell? ⟨gg, og + p * 3, none⟩ = some (.int .u64 y) := hc2
                replace HD := Lib.hid (show Drawn0 w4 wr.drew from HD.out.step 1)
                have hS := And.intro hc2 hc1
                clear hc1 hc2
                go_wp2_with fail
                refine start_ (n := 10) (S := fun w' => w'.cell? ⟨gg, og + p * 3, none⟩ = some (.int .u64 y) ∧ w'.cell? ⟨g', off + p, none⟩ = some (.int .u64 y)) (ds := []) #[false, false, false, false, false, false, false, false, false, false] (by kernel_rfl) rfl rfl hS (fun hHeld => ?_)
                refine with_tabW rg4_27.tab rg4_27.bits (fun HT_ HW_ => ?_)
                generalize wr.drew = wd at HD hS hHeld ⊢
                refine pure_ (i := 0) (N := some 109) (v := ?_) (a' := ?_) #[true, false, false, false, false, false, false, false, false, false] rfl rfl (any_of HT_.out (by kernel_rfl)) (fun _ _ _ h => h) (Or.inl ⟨by rfl, ?_⟩) ?_ ?_
                rotate_left
                · intro w'
                  go_simp
                  try with_reducible rfl
                rotate_left
                · simp (maxSteps := 4000000) only [Act.put, List.setIfInBounds_toArray, List.set_cons_zero, List.set_cons_succ, i64_w, i32_w]
                  try rfl
                refine pure_ (i := 1) (N := some 110) (v := ?_) (a' := ?_) #[true, true, false, false, false, false, false, false, false, false] rfl rfl (any_of HT_.out (by kernel_rfl)) (fun _ _ _ h => h) (Or.inl ⟨by rfl, ?_⟩) ?_ ?_
                rotate_left
                · intro w'
                  go_simp
                  try with_reducible rfl
                rotate_left
                · simp (maxSteps := 4000000) only [Act.put, List.setIfInBounds_toArray, List.set_cons_zero, List.set_cons_succ, i64_w, i32_w]
                  try rfl
                refine pure_ (i := 2) (N := some 111) (v := ?_) (a' := ?_) #[true, true, true, false, false, false, false, false, false, false] rfl rfl (any_of HT_.out (by kernel_rfl)) (fun _ _ _ h => h) (Or.inl ⟨by rfl, ?_⟩) ?_ ?_
                rotate_left
                · intro w'
                  go_simp
                  try with_reducible rfl
                rotate_left
                · simp (maxSteps := 4000000) only [Act.put, List.setIfInBounds_toArray, List.set_cons_zero, List.set_cons_succ, i64_w, i32_w]
                  try rfl
                refine pure_ (i := 3) (N := some 112) (v := ?_) (a' := ?_) #[true, true, true, true, false, false, false, false, false, false] rfl rfl (any_of HT_.out (by kernel_rfl)) (fun _ _ _ h => h) (Or.inl ⟨by rfl, ?_⟩) ?_ ?_
                rotate_left
                · intro w'
                  go_simp
                  try with_reducible rfl
                rotate_left
                · simp (maxSteps := 4000000) only [Act.put, List.setIfInBounds_toArray, List.set_cons_zero, List.set_cons_succ, i64_w, i32_w]
                  try rfl
                refine pure_ (i := 5) (N := some 114) (v := ?_) (a' := ?_) #[true, true, true, true, false, true, false, false, false, false] rfl rfl (any_of HT_.out (by kernel_rfl)) (fun _ _ _ h => h) (Or.inl ⟨by rfl, ?_⟩) ?_ ?_
                rotate_left
                · intro w'
                  go_simp
                  try with_reducible rfl
                rotate_left
                · simp (maxSteps := 4000000) only [Act.put, List.setIfInBounds_toArray, List.set_cons_zero, List.set_cons_succ, i64_w, i32_w]
                  try rfl
                refine pure_ (i := 6) (N := some 115) (v := ?_) (a' := ?_) #[true, true, true, true, false, true, true, false, false, false] rfl rfl (any_of HT_.out (by kernel_rfl)) (fun _ _ _ h => h) (Or.inl ⟨by rfl, ?_⟩) ?_ ?_
                rotate_left
                · intro w'
                  go_simp
                  try with_reducible rfl
                rotate_left
                · simp (maxSteps := 4000000) only [Act.put, List.setIfInBounds_toArray, List.set_cons_zero, List.set_cons_succ, i64_w, i32_w]
                  try rfl
                refine pure_ (i := 7) (N := some 116) (v := ?_) (a' := ?_) #[true, true, true, true, false, true, true, true, false, false] rfl rfl (any_of HT_.out (by kernel_rfl)) (fun _ _ _ h => h) (Or.inl ⟨by rfl, ?_⟩) ?_ ?_
                rotate_left
                · intro w'
                  go_simp
                  try with_reducible rfl
                rotate_left
                · simp (maxSteps := 4000000) only [Act.put, List.setIfInBounds_toArray, List.set_cons_zero, List.set_cons_succ, i64_w, i32_w]
                  try rfl
                refine take_ (i := 4) (N := some 113) (v := ?_) (a' := ?_) #[true, true, true, true, true, true, true, true, false, false] rfl rfl (take_ofW HT_.out HW_.out (by kernel_rfl)) (fun _ _ _ h => h) (Or.inl ⟨by rfl, ?_⟩) hHeld ?_ ?_
                rotate_left
                · intro w' hw_
                  try dsimp only at hw_
                  go_simp
                  try with_reducible rfl
                rotate_left
                · simp (maxSteps := 4000000) only [Act.put, List.setIfInBounds_toArray, List.set_cons_zero, List.set_cons_succ, i64_w, i32_w]
                  try rfl
                refine take_ (i := 8) (N := some 117) (v := ?_) (a' := ?_) #[true, true, true, true, true, true, true, true, true, false] rfl rfl (take_ofW HT_.out HW_.out (by kernel_rfl)) (fun _ _ _ h => h) (Or.inl ⟨by rfl, ?_⟩) hHeld ?_ ?_
                rotate_left
                · intro w' hw_
                  try dsimp only at hw_
                  go_simp
                  try with_reducible rfl
                rotate_left
                · simp (maxSteps := 4000000) only [Act.put, List.setIfInBounds_toArray, List.set_cons_zero, List.set_cons_succ, i64_w, i32_w]
                  try rfl
                refine pure_ (i := 9) (N := some 118) (v := ?_) (a' := ?_) #[true, true, true, true, true, true, true, true, true, true] rfl rfl (any_of HT_.out (by kernel_rfl)) (fun _ _ _ h => h) (Or.inl ⟨by rfl, ?_⟩) ?_ ?_
                rotate_left
                · intro w'
                  go_simp
                  try with_reducible rfl
                rotate_left
                · simp (maxSteps := 4000000) only [Act.put, List.setIfInBounds_toArray, List.set_cons_zero, List.set_cons_succ, i64_w, i32_w]
                  try rfl
                refine done_ (done_of HT_.out (by kernel_rfl)) ?_
                go_wp2
                go_roundw
                case rel => exact ⟨p + 1, hpl, by rw [e3], HD.out⟩
                case measure => rw [e3]; simp only [RowKit.intOf, Int.toNat_natCast]; exact Nat.sub_lt_sub_left hpl (Nat.lt_succ_self p)
              · obtain rfl : p = ks.length := Nat.le_antisymm hp (Nat.le_of_not_lt hpl)
                replace HK := Lib.hid (HK.out.below HD.out.below)
                replace HW := Lib.hid (HW.out.below HD.out.below)
                replace HB := Lib.hid (chain2 HB.out HD.out.below)
                go_wp2
                go_roundw
                case rel => exact ⟨j + 1, es, ks, r', hlt, by rw [e2, Hnm.out], HK.out, HW.out, HE.out, HA.out.1, HA.out.2, HB.out⟩
                case measure => rw [e2, Hnm.out]; simp only [RowKit.intOf, Int.toNat_natCast]; exact Nat.sub_lt_sub_left hlt (Nat.lt_succ_self j)
          | false =>
            rw [HE.out] at hany
            have hput := order_new m es ⟨key, { data := #[] }, nm⟩ HR.out hany
            rw [hput] at HF HK
            obtain rfl := HF.out
            clear hput hany
            have hWA := HW.out.below (below_alloc (Below.refl wr.heap.size wr) (.cells #[.int .u64 key] 28))
            have hbs := HB.out.size
            by_cases hq : m ≤ ks.length
            · have hqe : ks.length = m := Nat.le_antisymm (by rw [HE.out, List.length_map]; exact HLm.out) hq
              have s1 : wrap64 ((ks.length : Int) + 1 - (m : Int)) = 1 := by unfold wrap64; omega
              have HQ := Lib.hid hqe; clear hqe hq
              go_wp2_with (at_builtin; refine wpList_want rfl _ _ rfl w.heap.size (.slice aw ks.length cw) ks rfl hWA ?qa ?qb wr.heap.size 1 key rfl (by simp [u64v]) ?_)
              case qa => exact Nat.le_trans HKS.out (by decide)
              case qb => exact Nat.le_trans hbs (by simp)
              intro a' c' w5 hw5 hgr hbk
              have hcc := hw5.capOf
              rw [List.length_append, List.length_singleton] at hcc
              have hm1 := Hm.out.1
              have hc1 : ¬ c' = 1 := by have := HQ.out; omega
              have hlc1 : (1 : Int) ≤ (ks.length : Int) + 1 := by omega
              have H5 := Lib.hid hw5; clear hw5
              have HGR := Lib.hid hgr; clear hgr
              have HBK := Lib.hid hbk; clear hbk
              go_wp2_with fail
              have hw5 := H5.out; clear H5
              have hgr := HGR.out; clear HGR
              have hbk := HBK.out; clear HBK
              obtain ⟨g5, o5, c5, hf5⟩ := hw5.form1 (by simp)
              simp only [Value.slice.injEq, true_and] at hf5
              obtain ⟨rfl, _, rfl⟩ := hf5
              have hd5 := below_alloc (Below.refl wr.heap.size wr) (.cells #[.int .u64 key] 28)
              have hk5 := (HK.out.below hd5).grown hgr HA.out.1 HA.out.2
              have hb5 := pw_below_grown (chain2 HB.out hd5) _ (Nat.le_trans hbs (by simp)) hgr (fun k hk => (hWA.lt k hk).1)
              have hap := apart_more (v' := .slice (some ⟨g5, o5, none⟩) (ks.length + 1) c') HA.out.2 (HK.out.below hd5) (fun k hk => by
                rcases hbk k hk with h | h
                · exact .inl h
                · exact .inr (by simp; omega))
              have hgn : (Value.slice (some ⟨g5, o5, none⟩) (ks.length + 1) c').ownBlock ≠ some g := by
                intro e
                rcases hbk g e with h | h
                · exact HA.out.1 h
                · have := HK.out.at_.lt; omega
              have hw6 : WantAt w5 w.heap.size (.slice (some ⟨g5, o5 + 1, none⟩) (ks.length + 1 - 1) (c' - 1)) ((ks ++ [key]).drop 1) := by
                have h := WantAt.drop (g := g5) (off := o5) (cap := c') (w := w5) (base := w.heap.size) (ks := ks ++ [key]) (by rw [List.length_append, List.length_singleton]; exact hw5) 1 (by simp) (o5 + 1) (.inl rfl)
                rw [List.length_append, List.length_singleton] at h
                exact h
              have hE2 := more_full HE.out HQ.out hm1 ⟨key, { data := #[] }, nm⟩
              have hl2 : ks.length + 1 - 1 = ((ks ++ [key]).drop 1).length := by simp
              have HKS2 := Lib.hid (show ((ks ++ [key]).drop 1).length ≤ 10 by rw [← hl2]; exact HKS.out)
              clear HK HW HB HA hWA hgr hbk hd5 HKS HE HL HLm
              have H6 := Lib.hid hw6; clear hw6 hw5
              have HK := Lib.hid hk5; clear hk5
              have HB := Lib.hid hb5; clear hb5
              have HAp := Lib.hid (And.intro hgn hap); clear hgn hap
              have HE2 := Lib.hid hE2; clear hE2
              have Hl2 := Lib.hid hl2; clear hl2
              rw [show (max (0 : Int) 1).toNat = 1 from rfl]
              rw [show (Option.map (fun x : Addr => x.add 1) (some ⟨g5, o5, none⟩)) = some ⟨g5, o5 + 1, none⟩ from rfl]
              have HA := Lib.hid (show (Value.slice (some ⟨g5, o5 + 1, none⟩) (ks.length + 1 - 1) (c' - 1)).ownBlock ≠ some g ∧ ((Value.slice (some ⟨g5, o5 + 1, none⟩) (ks.length + 1 - 1) (c' - 1)).ownBlock = none ∨ (Value.slice (some ⟨g5, o5 + 1, none⟩) (ks.length + 1 - 1) (c' - 1)).ownBlock ≠ r') from HAp.out)
              rw [Hl2.out] at HA H6 ⊢
              generalize (some ⟨g5, o5 + 1, none⟩ : Option Addr) = aw2 at HA H6 ⊢
              generalize c' - 1 = cw2 at HA H6 ⊢
              generalize (ks ++ [key]).drop 1 = ks2 at HA H6 HKS2 HE2 ⊢
              generalize moreK m es ⟨key, { data := #[] }, nm⟩ = es2 at HK HE2 ⊢
              have HW := H6; clear H6
              have HKS := HKS2; clear HKS2
              have HE := HE2; clear HE2
              refine (keys_list g m es2 w5 HK.out.at_).mono ?_
              rintro e w4 ⟨vg, rfl, hrow, hd⟩
              replace HK := Lib.hid (HK.out.below hd)
              replace HW := Lib.hid (HW.out.below hd)
              replace HB := Lib.hid (chain2 HB.out hd)
              clear hd
              obtain ⟨ag, cg, rfl, _⟩ := hrow.len
              have hle : (es2).length = ks2.length := by rw [HE.out, List.length_map]
              rw [hle] at hrow ⊢
              have HRW := Lib.hid hrow; clear hrow
              have Hle := Lib.hid hle; clear hle
              rw [s1]
              clear s1 hcc hm1 hc1 hlc1 hbs
              dsimp only
              generalize (ks.length : Int) + 1 = lx
              generalize max (0 : Int) 1 = mx
              generalize (⟨g5, o5, none⟩ : Addr) = ax
              generalize ks.length + 1 = ly
              go_wp2_with fail
              go_loopw [106] (fun i wx => ∃ p : Nat, p ≤ ks2.length ∧ i = .int .i64 (p : Int) ∧ Drawn0 w4 wx) (fun i _ => ks2.length - (RowKit.intOf i).toNat)
              case atStart => exact ⟨0, Nat.zero_le _, rfl, Drawn0.refl _⟩
              case round =>
                obtain ⟨p, hp, rfl, hdr⟩ := hrel
                have HD := Lib.hid hdr; clear hdr
                by_cases hpl : p < ks2.length
                · have hpe : p < (es2).length := by rw [Hle.out]; exact hpl
                  obtain ⟨g', off, cap', hform⟩ := HW.out.form1 (Nat.lt_of_le_of_lt (Nat.zero_le p) hpl)
                  simp only [Value.slice.injEq, true_and] at hform
                  obtain ⟨rfl, rfl⟩ := hform
                  obtain ⟨gg, og, rfl⟩ := row_form HRW.out (Nat.lt_of_le_of_lt (Nat.zero_le p) hpe)
                  have hc1 := (HW.out.below HD.out.below).cells p hpl
                  have hc2 := row_key (HRW.out.below HD.out.below) p hpe
                  unfold u64v at hc1
                  rw [keys_get HE.out p hpe hpl] at hc2
                  have e3 : wrap64 ((p : Int) + 1) = ((p + 1 : Nat) : Int) := wrap_succ p (Nat.lt_of_lt_of_le hpl (Nat.le_trans HKS.out (by decide)))
                  have q0 : (0 : Int) ≤ (p : Int) := Int.natCast_nonneg p
                  have q1 : (p : Int) < (ks2.length : Int) := Int.ofNat_lt.mpr hpl
                  generalize ks2[p] = y at hc1 hc2
                  replace hc1 : wr.drew.cell? ⟨g', off + p, none⟩ = some (.int .u64 y) := hc1
                  replace hc2 : wr.drew.cell? ⟨gg, og + p * 3, none⟩ = some (.int .u64 y) := hc2
                  replace HD := Lib.hid (show Drawn0 w4 wr.drew from HD.out.step 1)
                  have hS := And.intro hc2 hc1
                  clear hc1 hc2
                  go_wp2_with fail
                  refine start_ (n := 10) (S := fun w' => w'.cell? ⟨gg, og + p * 3, none⟩ = some (.int .u64 y) ∧ w'.cell? ⟨g', off + p, none⟩ = some (.int .u64 y)) (ds := []) #[false, false, false, false, false, false, false, false, false, false] (by kernel_rfl) rfl rfl hS (fun hHeld => ?_)
                  refine with_tabW rg4_27.tab rg4_27.bits (fun HT_ HW_ => ?_)
                  generalize wr.drew = wd at HD hS hHeld ⊢
                  refine pure_ (i := 0) (N := some 109) (v := ?_) (a' := ?_) #[true, false, false, false, false, false, false, false, false, false] rfl rfl (any_of HT_.out (by kernel_rfl)) (fun _ _ _ h => h) (Or.inl ⟨by rfl, ?_⟩) ?_ ?_
                  rotate_left
                  · intro w'
                    go_simp
                    try with_reducible rfl
                  rotate_left
                  · simp (maxSteps := 4000000) only [Act.put, List.setIfInBounds_toArray, List.set_cons_zero, List.set_cons_succ, i64_w, i32_w]
                    try rfl
                  refine pure_ (i := 1) (N := some 110) (v := ?_) (a' := ?_) #[true, true, false, false, false, false, false, false, false, false] rfl rfl (any_of HT_.out (by kernel_rfl)) (fun _ _ _ h => h) (Or.inl ⟨by rfl, ?_⟩) ?_ ?_
                  rotate_left
                  · intro w'
                    go_simp
                    try with_reducible rfl
                  rotate_left
                  · simp (maxSteps := 4000000) only [Act.put, List.setIfInBounds_toArray, List.set_cons_zero, List.set_cons_succ, i64_w, i32_w]
                    try rfl
                  refine pure_ (i := 2) (N := some 111) (v := ?_) (a' := ?_) #[true, true, true, false, false, false, false, false, false, false] rfl rfl (any_of HT_.out (by kernel_rfl)) (fun _ _ _ h => h) (Or.inl ⟨by rfl, ?_⟩) ?_ ?_
                  rotate_left
                  · intro w'
                    go_simp
                    try with_reducible rfl
                  rotate_left
                  · simp (maxSteps := 4000000) only [Act.put, List.setIfInBounds_toArray, List.set_cons_zero, List.set_cons_succ, i64_w, i32_w]
                    try rfl
                  refine pure_ (i := 3) (N := some 112) (v := ?_) (a' := ?_) #[true, true, true, true, false, false, false, false, false, false] rfl rfl (any_of HT_.out (by kernel_rfl)) (fun _ _ _ h => h) (Or.inl ⟨by rfl, ?_⟩) ?_ ?_
                  rotate_left
                  · intro w'
                    go_simp
                    try with_reducible rfl
                  rotate_left
                  · simp (maxSteps := 4000000) only [Act.put, List.setIfInBounds_toArray, List.set_cons_zero, List.set_cons_succ, i64_w, i32_w]
                    try rfl
                  refine pure_ (i := 5) (N := some 114) (v := ?_) (a' := ?_) #[true, true, true, true, false, true, false, false, false, false] rfl rfl (any_of HT_.out (by kernel_rfl)) (fun _ _ _ h => h) (Or.inl ⟨by rfl, ?_⟩) ?_ ?_
                  rotate_left
                  · intro w'
                    go_simp
                    try with_reducible rfl
                  rotate_left
                  · simp (maxSteps := 4000000) only [Act.put, List.setIfInBounds_toArray, List.set_cons_zero, List.set_cons_succ, i64_w, i32_w]
                    try rfl
                  refine pure_ (i := 6) (N := some 115) (v := ?_) (a' := ?_) #[true, true, true, true, false, true, true, false, false, false] rfl rfl (any_of HT_.out (by kernel_rfl)) (fun _ _ _ h => h) (Or.inl ⟨by rfl, ?_⟩) ?_ ?_
                  rotate_left
                  · intro w'
                    go_simp
                    try with_reducible rfl
                  rotate_left
                  · simp (maxSteps := 4000000) only [Act.put, List.setIfInBounds_toArray, List.set_cons_zero, List.set_cons_succ, i64_w, i32_w]
                    try rfl
                  refine pure_ (i := 7) (N := some 116) (v := ?_) (a' := ?_) #[true, true, true, true, false, true, true, true, false, false] rfl rfl (any_of HT_.out (by kernel_rfl)) (fun _ _ _ h => h) (Or.inl ⟨by rfl, ?_⟩) ?_ ?_
                  rotate_left
                  · intro w'
                    go_simp
                    try with_reducible rfl
                  rotate_left
                  · simp (maxSteps := 4000000) only [Act.put, List.setIfInBounds_toArray, List.set_cons_zero, List.set_cons_succ, i64_w, i32_w]
                    try rfl
                  refine take_ (i := 4) (N := some 113) (v := ?_) (a' := ?_) #[true, true, true, true, true, true, true, true, false, false] rfl rfl (take_ofW HT_.out HW_.out (by kernel_rfl)) (fun _ _ _ h => h) (Or.inl ⟨by rfl, ?_⟩) hHeld ?_ ?_
                  rotate_left
                  · intro w' hw_
                    try dsimp only at hw_
                    go_simp
                    try with_reducible rfl
                  rotate_left
                  · simp (maxSteps := 4000000) only [Act.put, List.setIfInBounds_toArray, List.set_cons_zero, List.set_cons_succ, i64_w, i32_w]
                    try rfl
                  refine take_ (i := 8) (N := some 117) (v := ?_) (a' := ?_) #[true, true, true, true, true, true, true, true, true, false] rfl rfl (take_ofW HT_.out HW_.out (by kernel_rfl)) (fun _ _ _ h => h) (Or.inl ⟨by rfl, ?_⟩) hHeld ?_ ?_
                  rotate_left
                  · intro w' hw_
                    try dsimp only at hw_
                    go_simp
                    try with_reducible rfl
                  rotate_left
                  · simp (maxSteps := 4000000) only [Act.put, List.setIfInBounds_toArray, List.set_cons_zero, List.set_cons_succ, i64_w, i32_w]
                    try rfl
                  refine pure_ (i := 9) (N := some 118) (v := ?_) (a' := ?_) #[true, true, true, true, true, true, true, true, true, true] rfl rfl (any_of HT_.out (by kernel_rfl)) (fun _ _ _ h => h) (Or.inl ⟨by rfl, ?_⟩) ?_ ?_
                  rotate_left
                  · intro w'
                    go_simp
                    try with_reducible rfl
                  rotate_left
                  · simp (maxSteps := 4000000) only [Act.put, List.setIfInBounds_toArray, List.set_cons_zero, List.set_cons_succ, i64_w, i32_w]
                    try rfl
                  refine done_ (done_of HT_.out (by kernel_rfl)) ?_
                  go_wp2
                  go_roundw
                  case rel => exact ⟨p + 1, hpl, by rw [e3], HD.out⟩
                  case measure => rw [e3]; simp only [RowKit.intOf, Int.toNat_natCast]; exact Nat.sub_lt_sub_left hpl (Nat.lt_succ_self p)
                · obtain rfl : p = ks2.length := Nat.le_antisymm hp (Nat.le_of_not_lt hpl)
                  replace HK := Lib.hid (HK.out.below HD.out.below)
                  replace HW := Lib.hid (HW.out.below HD.out.below)
                  replace HB := Lib.hid (chain2 HB.out HD.out.below)
                  go_wp2
                  go_roundw
                  case rel => exact ⟨j + 1, es2, ks2, r', hlt, by rw [e2, Hnm.out], HK.out, HW.out, HE.out, HA.out.1, HA.out.2, HB.out⟩
                  case measure => rw [e2, Hnm.out]; simp only [RowKit.intOf, Int.toNat_natCast]; exact Nat.sub_lt_sub_left hlt (Nat.lt_succ_self j)

            · obtain ⟨dd, hdd, hdn, s1⟩ : ∃ dd : Int, max 0 dd = 0 ∧ dd ≤ 0 ∧ wrap64 ((ks.length : Int) + 1 - (m : Int)) = dd := ⟨(ks.length : Int) + 1 - (m : Int), by omega, by omega, by have := Hm.out; have := HKS.out; unfold wrap64; omega⟩
              have HQ := Lib.hid hq; clear hq
              have HDN := Lib.hid hdn; clear hdn
              go_wp2_with (at_builtin; refine wpList_want rfl _ _ rfl w.heap.size (.slice aw ks.length cw) ks rfl hWA ?qa ?qb wr.heap.size 1 key rfl (by simp [u64v]) ?_)
              case qa => exact Nat.le_trans HKS.out (by decide)
              case qb => exact Nat.le_trans hbs (by simp)
              intro a' c' w5 hw5 hgr hbk
              have hcc := hw5.capOf
              rw [List.length_append, List.length_singleton] at hcc
              have hc1 : ¬ c' = 0 := by omega
              have hlc1 : (0 : Int) ≤ (ks.length : Int) + 1 := by omega
              have H5 := Lib.hid hw5; clear hw5
              have HGR := Lib.hid hgr; clear hgr
              have HBK := Lib.hid hbk; clear hbk
              go_wp2_with fail
              have hw5 := H5.out; clear H5
              have hgr := HGR.out; clear HGR
              have hbk := HBK.out; clear HBK
              have hd5 := below_alloc (Below.refl wr.heap.size wr) (.cells #[.int .u64 key] 28)
              have hk5 := (HK.out.below hd5).grown hgr HA.out.1 HA.out.2
              have hb5 := pw_below_grown (chain2 HB.out hd5) _ (Nat.le_trans hbs (by simp)) hgr (fun k hk => (hWA.lt k hk).1)
              have hap := apart_more (v' := .slice a' (ks.length + 1) c') HA.out.2 (HK.out.below hd5) (fun k hk => by
                rcases hbk k hk with h | h
                · exact .inl h
                · exact .inr (by simp; omega))
              have hgn : (Value.slice a' (ks.length + 1) c').ownBlock ≠ some g := by
                intro e
                rcases hbk g e with h | h
                · exact HA.out.1 h
                · have := HK.out.at_.lt; omega
              have hE2 := more_room HE.out HQ.out ⟨key, { data := #[] }, nm⟩
              have hl2 : ks.length + 1 = (ks ++ [key]).length := by simp
              have HKS2 := Lib.hid (show (ks ++ [key]).length ≤ 10 by rw [← hl2]; have := HQ.out; have := Hm.out.2; omega)
              clear HK HW HB hWA hgr hbk hd5 HKS HE HL HLm HA
              have HK := Lib.hid hk5; clear hk5
              have HB := Lib.hid hb5; clear hb5
              have HA := Lib.hid (And.intro hgn hap); clear hgn hap
              have HE2 := Lib.hid hE2; clear hE2
              have H6 := Lib.hid hw5; clear hw5
              have Hl2 := Lib.hid hl2; clear hl2
              rw [Hl2.out] at HA H6 ⊢
              generalize (ks ++ [key]) = ks2 at HA H6 HKS2 HE2 ⊢
              generalize moreK m es ⟨key, { data := #[] }, nm⟩ = es2 at HK HE2 ⊢
              have HW := H6; clear H6
              have HKS := HKS2; clear HKS2
              have HE := HE2; clear HE2
              refine (keys_list g m es2 w5 HK.out.at_).mono ?_
              rintro e w4 ⟨vg, rfl, hrow, hd⟩
              replace HK := Lib.hid (HK.out.below hd)
              replace HW := Lib.hid (HW.out.below hd)
              replace HB := Lib.hid (chain2 HB.out hd)
              clear hd
              obtain ⟨ag, cg, rfl, _⟩ := hrow.len
              have hle : (es2).length = ks2.length := by rw [HE.out, List.length_map]
              rw [hle] at hrow ⊢
              have HRW := Lib.hid hrow; clear hrow
              have Hle := Lib.hid hle; clear hle
              rw [s1]
              clear s1 hcc hc1 hlc1 hbs hdd
              dsimp only
              generalize (ks.length : Int) + 1 = lx
              generalize max (0 : Int) dd = mx
              go_wp2_with fail
              go_loopw [106] (fun i wx => ∃ p : Nat, p ≤ ks2.length ∧ i = .int .i64 (p : Int) ∧ Drawn0 w4 wx) (fun i _ => ks2.length - (RowKit.intOf i).toNat)
              case atStart => exact ⟨0, Nat.zero_le _, rfl, Drawn0.refl _⟩
              case round =>
                obtain ⟨p, hp, rfl, hdr⟩ := hrel
                have HD := Lib.hid hdr; clear hdr
                by_cases hpl : p < ks2.length
                · have hpe : p < (es2).length := by rw [Hle.out]; exact hpl
                  obtain ⟨g', off, cap', hform⟩ := HW.out.form1 (Nat.lt_of_le_of_lt (Nat.zero_le p) hpl)
                  simp only [Value.slice.injEq, true_and] at hform
                  obtain ⟨rfl, rfl⟩ := hform
                  obtain ⟨gg, og, rfl⟩ := row_form HRW.out (Nat.lt_of_le_of_lt (Nat.zero_le p) hpe)
                  have hc1 := (HW.out.below HD.out.below).cells p hpl
                  have hc2 := row_key (HRW.out.below HD.out.below) p hpe
                  unfold u64v at hc1
                  rw [keys_get HE.out p hpe hpl] at hc2
                  have e3 : wrap64 ((p : Int) + 1) = ((p + 1 : Nat) : Int) := wrap_succ p (Nat.lt_of_lt_of_le hpl (Nat.le_trans HKS.out (by decide)))
                  have q0 : (0 : Int) ≤ (p : Int) := Int.natCast_nonneg p
                  have q1 : (p : Int) < (ks2.length : Int) := Int.ofNat_lt.mpr hpl
                  generalize ks2[p] = y at hc1 hc2
                  replace hc1 : wr.drew.cell? ⟨g', off + p, none⟩ = some (.int .u64 y) := hc1
                  replace hc2 : wr.drew.cell? ⟨gg, og + p * 3, none⟩ = some (.int .u64 y) := hc2
                  replace HD := Lib.hid (show Drawn0 w4 wr.drew from HD.out.step 1)
                  have hS := And.intro hc2 hc1
                  clear hc1 hc2
                  go_wp2_with fail
                  refine start_ (n := 10) (S := fun w' => w'.cell? ⟨gg, og + p * 3, none⟩ = some (.int .u64 y) ∧ w'.cell? ⟨g', off + p, none⟩ = some (.int .u64 y)) (ds := []) #[false, false, false, false, false, false, false, false, false, false] (by kernel_rfl) rfl rfl hS (fun hHeld => ?_)
                  refine with_tabW rg4_27.tab rg4_27.bits (fun HT_ HW_ => ?_)
                  generalize wr.drew = wd at HD hS hHeld ⊢
                  refine pure_ (i := 0) (N := some 109) (v := ?_) (a' := ?_) #[true, false, false, false, false, false, false, false, false, false] rfl rfl (any_of HT_.out (by kernel_rfl)) (fun _ _ _ h => h) (Or.inl ⟨by rfl, ?_⟩) ?_ ?_
                  rotate_left
                  · intro w'
                    go_simp
                    try with_reducible rfl
                  rotate_left
                  · simp (maxSteps := 4000000) only [Act.put, List.setIfInBounds_toArray, List.set_cons_zero, List.set_cons_succ, i64_w, i32_w]
                    try rfl
                  refine pure_ (i := 1) (N := some 110) (v := ?_) (a' := ?_) #[true, true, false, false, false, false, false, false, false, false] rfl rfl (any_of HT_.out (by kernel_rfl)) (fun _ _ _ h => h) (Or.inl ⟨by rfl, ?_⟩) ?_ ?_
                  rotate_left
                  · intro w'
                    go_simp
                    try with_reducible rfl
                  rotate_left
                  · simp (maxSteps := 4000000) only [Act.put, List.setIfInBounds_toArray, List.set_cons_zero, List.set_cons_succ, i64_w, i32_w]
                    try rfl
                  refine pure_ (i := 2) (N := some 111) (v := ?_) (a' := ?_) #[true, true, true, false, false, false, false, false, false, false] rfl rfl (any_of HT_.out (by kernel_rfl)) (fun _ _ _ h => h) (Or.inl ⟨by rfl, ?_⟩) ?_ ?_
                  rotate_left
                  · intro w'
                    go_simp
                    try with_reducible rfl
                  rotate_left
                  · simp (maxSteps := 4000000) only [Act.put, List.setIfInBounds_toArray, List.set_cons_zero, List.set_cons_succ, i64_w, i32_w]
                    try rfl
                  refine pure_ (i := 3) (N := some 112) (v := ?_) (a' := ?_) #[true, true, true, true, false, false, false, false, false, false] rfl rfl (any_of HT_.out (by kernel_rfl)) (fun _ _ _ h => h) (Or.inl ⟨by rfl, ?_⟩) ?_ ?_
                  rotate_left
                  · intro w'
                    go_simp
                    try with_reducible rfl
                  rotate_left
                  · simp (maxSteps := 4000000) only [Act.put, List.setIfInBounds_toArray, List.set_cons_zero, List.set_cons_succ, i64_w, i32_w]
                    try rfl
                  refine pure_ (i := 5) (N := some 114) (v := ?_) (a' := ?_) #[true, true, true, true, false, true, false, false, false, false] rfl rfl (any_of HT_.out (by kernel_rfl)) (fun _ _ _ h => h) (Or.inl ⟨by rfl, ?_⟩) ?_ ?_
                  rotate_left
                  · intro w'
                    go_simp
                    try with_reducible rfl
                  rotate_left
                  · simp (maxSteps := 4000000) only [Act.put, List.setIfInBounds_toArray, List.set_cons_zero, List.set_cons_succ, i64_w, i32_w]
                    try rfl
                  refine pure_ (i := 6) (N := some 115) (v := ?_) (a' := ?_) #[true, true, true, true, false, true, true, false, false, false] rfl rfl (any_of HT_.out (by kernel_rfl)) (fun _ _ _ h => h) (Or.inl ⟨by rfl, ?_⟩) ?_ ?_
                  rotate_left
                  · intro w'
                    go_simp
                    try with_reducible rfl
                  rotate_left
                  · simp (maxSteps := 4000000) only [Act.put, List.setIfInBounds_toArray, List.set_cons_zero, List.set_cons_succ, i64_w, i32_w]
                    try rfl
                  refine pure_ (i := 7) (N := some 116) (v := ?_) (a' := ?_) #[true, true, true, true, false, true, true, true, false, false] rfl rfl (any_of HT_.out (by kernel_rfl)) (fun _ _ _ h => h) (Or.inl ⟨by rfl, ?_⟩) ?_ ?_
                  rotate_left
                  · intro w'
                    go_simp
                    try with_reducible rfl
                  rotate_left
                  · simp (maxSteps := 4000000) only [Act.put, List.setIfInBounds_toArray, List.set_cons_zero, List.set_cons_succ, i64_w, i32_w]
                    try rfl
                  refine take_ (i := 4) (N := some 113) (v := ?_) (a' := ?_) #[true, true, true, true, true, true, true, true, false, false] rfl rfl (take_ofW HT_.out HW_.out (by kernel_rfl)) (fun _ _ _ h => h) (Or.inl ⟨by rfl, ?_⟩) hHeld ?_ ?_
                  rotate_left
                  · intro w' hw_
                    try dsimp only at hw_
                    go_simp
                    try with_reducible rfl
                  rotate_left
                  · simp (maxSteps := 4000000) only [Act.put, List.setIfInBounds_toArray, List.set_cons_zero, List.set_cons_succ, i64_w, i32_w]
                    try rfl
                  refine take_ (i := 8) (N := some 117) (v := ?_) (a' := ?_) #[true, true, true, true, true, true, true, true, true, false] rfl rfl (take_ofW HT_.out HW_.out (by kernel_rfl)) (fun _ _ _ h => h) (Or.inl ⟨by rfl, ?_⟩) hHeld ?_ ?_
                  rotate_left
                  · intro w' hw_
                    try dsimp only at hw_
                    go_simp
                    try with_reducible rfl
                  rotate_left
                  · simp (maxSteps := 4000000) only [Act.put, List.setIfInBounds_toArray, List.set_cons_zero, List.set_cons_succ, i64_w, i32_w]
                    try rfl
                  refine pure_ (i := 9) (N := some 118) (v := ?_) (a' := ?_) #[true, true, true, true, true, true, true, true, true, true] rfl rfl (any_of HT_.out (by kernel_rfl)) (fun _ _ _ h => h) (Or.inl ⟨by rfl, ?_⟩) ?_ ?_
                  rotate_left
                  · intro w'
                    go_simp
                    try with_reducible rfl
                  rotate_left
                  · simp (maxSteps := 4000000) only [Act.put, List.setIfInBounds_toArray, List.set_cons_zero, List.set_cons_succ, i64_w, i32_w]
                    try rfl
                  refine done_ (done_of HT_.out (by kernel_rfl)) ?_
                  go_wp2
                  go_roundw
                  case rel => exact ⟨p + 1, hpl, by rw [e3], HD.out⟩
                  case measure => rw [e3]; simp only [RowKit.intOf, Int.toNat_natCast]; exact Nat.sub_lt_sub_left hpl (Nat.lt_succ_self p)
                · obtain rfl : p = ks2.length := Nat.le_antisymm hp (Nat.le_of_not_lt hpl)
                  replace HK := Lib.hid (HK.out.below HD.out.below)
                  replace HW := Lib.hid (HW.out.below HD.out.below)
                  replace HB := Lib.hid (chain2 HB.out HD.out.below)
                  go_wp2
                  go_roundw
                  case rel => exact ⟨j + 1, es2, ks2, r', hlt, by rw [e2, Hnm.out], HK.out, HW.out, HE.out, HA.out.1, HA.out.2, HB.out⟩
                  case measure => rw [e2, Hnm.out]; simp only [RowKit.intOf, Int.toNat_natCast]; exact Nat.sub_lt_sub_left hlt (Nat.lt_succ_self j)
    · obtain rfl : j = N := Nat.le_antisymm hj (Nat.le_of_not_lt hlt)
      go_wp2
      go_ret
      exact ⟨rfl, HB.out⟩
theorem keysOrder_law (a0 : Option Addr) (len0 cap0 : Nat) (z0 : List Int) (a1 : Int) (W : World) (w0 : (a0 = none ∧ len0 = 0 ∧ cap0 = 0 ∧ z0 = []) ∨ ∃ x, a0 = some x ∧ len0 ≤ cap0 ∧ cap0 ≤ maxLen ∧ z0.length = cap0 ∧ (∀ i, i < z0.length → W.cell? (x.add i) = some (.int .u8 (z0.getD i 0))) ∧ ∀ n ∈ z0, (Lit.int .u8 n).wf = true) (y0 : len0 * 1 ≤ 140737488351232) (w1 : (Lit.int .u8 a1).wf = true) :
    Calls Try.prog 4 #[.slice a0 len0 cap0, .int .u8 a1] W fun e w' => e = .returned (.bool true) ∧ Below W.heap.size W w' := by
  have b1 : 0 ≤ a1 ∧ a1 < 256 := by simp [Lit.wf, IntKind.min, IntKind.max, IntKind.signed, IntKind.bits] at w1; omega
  obtain ⟨l, rfl⟩ := Int.eq_ofNat_of_zero_le b1.1
  rcases w0 with ⟨rfl, rfl, rfl, rfl⟩ | ⟨x, rfl, h1, h2, h3, h4, h5⟩
  · exact keysOrder_walk none 0 0 [] (Nat.le_refl _) (Nat.zero_le _) l W (fun i hi => absurd hi (Nat.not_lt_zero _))
  · refine keysOrder_walk (some x) len0 cap0 z0 h1 h2 l W (fun i hi => ⟨x, rfl, h4 i (by omega), ?_⟩)
    have hl : i < z0.length := by omega
    have h := h5 (z0.getD i 0) (by rw [List.getD_eq_getElem?_getD, List.getElem?_eq_getElem hl]; exact List.getElem_mem hl)
    simp [Lit.wf, IntKind.min, IntKind.max, IntKind.signed, IntKind.bits] at h
    simp only [List.getD_eq_getElem?_getD] at h ⊢
    omega
end Go.Proofs.Ytkadlahhcldjfaa
