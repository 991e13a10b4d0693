/- keys: the document's Put, by hand: its row is new, or the old one; all that was there stays. No conditions beyond the form's own reach. -/
import Derived.Test.YtkadlahhcldjfaaXKeysRefB
import Derived.Test.YtkadlahhcldjfaaXOwnRow
import Derived.Test.YtkadlahhcldjfaaPx1
namespace Go.Proofs.Ytkadlahhcldjfaa
open Go.RowKit Go.Lib Go.Proofs.Ytkadlahhcldjfaa.P Go.Proofs.Ytkadlahhcldjfaa.BeS Go.Proofs.YtkadlahhcldjfaaW.PrintWords Go.Proofs.YtkadlahhcldjfaaW.PrintLast Go.Proofs.YtkadlahhcldjfaaW.PrintMore
set_option linter.unusedVariables false
set_option linter.unusedSimpArgs false
--@tables
theorem rke_info : (Try.prog.info? 45).map (fun i => (i.zero, i.size, i.bytes)) = some (some (.agg #[.int .u64 0, .string ByteArray.empty, .int .i64 0]), 3, 32) := by kernel_rfl
theorem encK_one1 : ∀ e : KE, ∀ u ∈ encK e, u.oneCell' = true := fun e u hu => encK_one [e] u (by simpa using hu)
theorem encK_box {w : World} {b : Nat} {x : KE} (h0 : w.cell? ⟨b, 0, none⟩ = some (.int .u64 x.key)) (h1 : w.cell? ⟨b, 1, none⟩ = some (.string x.body)) (h2 : w.cell? ⟨b, 2, none⟩ = some (.int .i64 x.num)) : ∀ j u, (encK x)[j]? = some u → w.cell? ((⟨b, 0, none⟩ : Addr).add j) = some u := by
  intro j u hu
  rw [Addr.add_lit, Nat.zero_add]
  match j, hu with
  | 0, hu => simp [encK] at hu; rw [← hu]; exact h0
  | 1, hu => simp [encK] at hu; rw [← hu]; exact h1
  | 2, hu => simp [encK] at hu; rw [← hu]; exact h2
  | j + 3, hu => simp [encK] at hu
theorem rfind_ok (es : List KE) (hes : es.length ≤ 100) (key : Int) (v : Value) (w : World) (h : RowS encK w v es) :
    Calls Try.prog 21 #[v, .int .u64 key] w fun e w' => ∃ r, e = .returned (.int .i64 r) ∧ IdxIs key es r ∧ Below w.heap.size w w' := by
  obtain ⟨a, c, rfl, _⟩ := h.len
  obtain ⟨h1, h2, _⟩ := row_C h
  obtain ⟨r, hr, hi⟩ := rfind_f es hes key 300 (by decide)
  have hc := tillrollref24_find.calls 300 a c (es.map sE) key r w (by rw [List.length_map]; exact h1) (by rw [List.length_map]; exact h2) hr
  rw [List.length_map] at hc
  refine hc.mono ?_
  rintro e w' ⟨rfl, hb⟩
  exact ⟨r, rfl, hi, by first | exact hb | exact hb.below⟩
theorem keptE_more (lim : Nat) (es : List KE) (i : Nat) (hi : i < es.length) (hc : ¬ (lim ≤ es.length ∧ i = 0)) : keptE lim es i ++ [es[i]] = keptE lim es (i + 1) := by
  have htk : es.take (i + 1) = es.take i ++ [es[i]] := List.take_succ_eq_append_getElem hi
  unfold keptE
  by_cases hl : lim ≤ es.length
  · rw [if_pos hl, if_pos hl, htk, List.drop_append_of_le_length (by rw [List.length_take]; omega)]
  · rw [if_neg hl, if_neg hl, htk]
theorem keptE_skip (lim : Nat) (es : List KE) (hl : lim ≤ es.length) (j : Nat) (hi : j < es.length) (h0 : j = 0) : keptE lim es j = keptE lim es (j + 1) := by
  subst h0
  have htk : es.take (0 + 1) = es.take 0 ++ [es[0]] := List.take_succ_eq_append_getElem hi
  unfold keptE
  rw [if_pos hl, if_pos hl, htk]
  rfl
theorem keptE_all (lim : Nat) (es : List KE) (e : KE) : keptE lim es es.length ++ [e] = moreK lim es e := by
  unfold keptE moreK
  rw [List.take_of_length_le (Nat.le_refl _)]
theorem keptE_len (lim : Nat) (es : List KE) (i : Nat) : (keptE lim es i).length ≤ es.length := by
  unfold keptE
  split
  · rw [List.length_drop, List.length_take]; omega
  · rw [List.length_take]; omega
set_option maxHeartbeats 4000000 in
theorem rputN (lim : Nat) (es : List KE) (hes : es.length ≤ 100) (e : KE) (v : Value) (w : World) (h : RowS encK w v es) :
    Calls Try.prog 12 #[v, .int .i64 (lim : Int), .agg #[.int .u64 e.key, .string e.body, .int .i64 e.num]] w fun x w' => ∃ v', x = .returned (.tuple #[v', .int .i64 (putK lim es e).2]) ∧ RowS encK w' v' (putK lim es e).1 ∧ (v' = v ∨ ∀ k, v'.ownBlock = some k → w.heap.size ≤ k) ∧ Below w.heap.size w w' := by
  have HR := Lib.hid h; clear h
  have HL := Lib.hid hes; clear hes
  have ha := below_alloc (Below.refl w.heap.size w) (.cells #[.int .u64 e.key, .string e.body, .int .i64 e.num] 45)
  have hbad : rightK e = false → putK lim es e = (es, 2) := fun h => by unfold putK; rw [h]; rfl
  have hri : rightK e = decide (e.body.size ≤ 255 ∧ 1 ≤ e.num ∧ e.num ≤ 4294967295) := by unfold rightK; simp [Bool.decide_and]
  obtain ⟨ek, eb, en⟩ := e
  simp only at ha hbad hri ⊢
  by_cases h1 : eb.size ≤ 255
  · have a1 : decide (255 < (eb.size : Int)) = false := decide_eq_false (by omega)
    by_cases h2 : 1 ≤ en
    · have a2 : decide (en < 1) = false := decide_eq_false (by omega)
      by_cases h3 : en ≤ 4294967295
      · have a3 : decide (4294967295 < en) = false := decide_eq_false (by omega)
        have HRi := Lib.hid (show rightK ⟨ek, eb, en⟩ = true by rw [hri]; exact decide_eq_true ⟨h1, h2, h3⟩)
        clear hbad hri h1 h2 h3
        have HA := Lib.hid ha; clear ha
        go_enter Try.func12, Try.ntmps12
        go_wp2_with fail
        clear a1 a2 a3
        have HX := Lib.hid (heap_alloc_new w (.cells #[.int .u64 ek, .string eb, .int .i64 en] 45))
        replace HR := Lib.hid (HR.out.below HA.out)
        have hbx : w.heap.size < (w.alloc (.cells #[.int .u64 ek, .string eb, .int .i64 en] 45)).heap.size := by simp
        generalize w.alloc (.cells #[.int .u64 ek, .string eb, .int .i64 en] 45) = W at HX HR HA hbx ⊢
        generalize hsz : w.heap.size = bx at HX hbx ⊢
        have Hbx := Lib.hid (And.intro hsz hbx); clear hbx hsz
        obtain ⟨av, nv, cv, rfl⟩ : ∃ a n c, v = .slice a n c := by obtain ⟨a, c, h, _⟩ := HR.out.len; exact ⟨a, _, c, h⟩
        refine (rfind_ok es HL.out ek _ W HR.out).mono ?_
        rintro x W2 ⟨r, rfl, hr, hd⟩
        replace HR := Lib.hid (HR.out.below hd)
        replace HX := Lib.hid (blk_below HX.out hd)
        replace HA := Lib.hid (chain2 HA.out hd)
        have HW := Lib.hid (Nat.lt_of_lt_of_le Hbx.out.2 hd.size)
        clear hd
        rcases hr with ⟨rfl, hn⟩ | ⟨i, hi, rfl, hki, hj⟩
        · have HP := Lib.hid (show putK lim es ⟨ek, eb, en⟩ = (moreK lim es ⟨ek, eb, en⟩, 0) by unfold putK; rw [HRi.out, if_pos rfl, find_none hn]; rfl)
          clear hn
          obtain rfl : nv = es.length := by obtain ⟨a, c, h, _⟩ := HR.out.len; simp only [Value.slice.injEq] at h; exact h.2.1
          go_wp2_with fail
          go_loopw [9, 10] (fun u i wr => ∃ j : Nat, j ≤ es.length ∧ i = .int .i64 (j : Int) ∧ RowO encK 3 45 wr W2.heap.size u (keptE lim es j) ∧ Below W2.heap.size W2 wr) (fun _ i _ => es.length - (RowKit.intOf i).toNat)
          case atStart => exact ⟨0, Nat.zero_le _, rfl, by rw [show keptE lim es 0 = [] by unfold keptE; split <;> rfl]; exact RowO.nil _ _ _ _ _, Below.refl _ _⟩
          case round =>
            obtain ⟨j, hjl, rfl, ho, hb⟩ := hrel
            have HO := Lib.hid ho; clear ho
            have HB := Lib.hid hb; clear hb
            have hkl := keptE_len lim es j
            have HKl := Lib.hid (show (keptE lim es j).length ≤ 100 by have := HL.out; omega); clear hkl
            obtain ⟨ua, uc, hu⟩ := HO.out.form
            subst hu
            by_cases hlt : j < es.length
            · have e3 : wrap64 ((j : Int) + 1) = ((j + 1 : Nat) : Int) := by have := HL.out; unfold wrap64; omega
              have hq1 : decide ((j : Int) < (es.length : Int)) = true := decide_eq_true (by omega)
              by_cases h0 : 0 < j
              · have hc : ¬ (lim ≤ es.length ∧ j = 0) := by omega
                have hq2 : decide (0 < (j : Int)) = true := decide_eq_true (by omega)
                have hq3 : decide (0 < j) = true := decide_eq_true h0
                replace h0 := Lib.hid h0
                have HKm := Lib.hid (keptE_more lim es j hlt hc)
                obtain ⟨gg, off, rfl⟩ := row_at (HR.out.below HB.out) (by omega)
                have hcl := row3 (HR.out.below HB.out) j hlt
                generalize es[j] = x at hcl HKm
                obtain ⟨xk, xb, xn⟩ := x
                obtain ⟨l1, l2, l3⟩ := hcl
                simp only at l1 l2 l3
                have ha2 := below_alloc (Below.refl wr.heap.size wr) (.cells #[.int .u64 xk, .string xb, .int .i64 xn] 45)
                have hbs := Nat.le_trans HB.out.size ha2.size
                have HO2 := Lib.hid (HO.out.below ha2)
                have HB2 := Lib.hid (chain2 HB.out ha2)
                have hbox := encK_box (w := wr.alloc (.cells #[.int .u64 xk, .string xb, .int .i64 xn] 45)) (b := wr.heap.size) (x := ⟨xk, xb, xn⟩) (by rw [World.cell?_alloc_new]; rfl) (by rw [World.cell?_alloc_new]; rfl) (by rw [World.cell?_alloc_new]; rfl)
                have HBox := Lib.hid hbox
                have HBs := Lib.hid hbs
                have Hlt := Lib.hid hlt
                clear ha2 hbs hbox hc HO HB hlt hjl
                go_wp2_with (at_builtin; refine wpList_rowO rfl _ _ encK_len encK_one1 (by decide) Try.underlying40 rke_info rfl rfl rfl HO2.out HBs.out ?qc1 ?qc2 ⟨wr.heap.size, 0, none⟩ 1 ⟨xk, xb, xn⟩ rfl HBox.out ?_)
                case qc1 => have := HKl.out; unfold maxLen; omega
                case qc2 => have := HKl.out; omega
                intro a' c' w' ho hg hk
                rw [HKm.out] at ho
                have HO := Lib.hid ho
                have HB := Lib.hid (pw_below_grown HB2.out _ HB2.out.size hg (fun k hk => (HO2.out.lt k hk).1))
                clear ho hg hk HO2 HB2 HBox HBs l1 l2 l3
                go_wp2_with fail
                go_roundw
                case rel => exact ⟨j + 1, Hlt.out, by first | rw [e3] | rfl, HO.out, HB.out⟩
                case measure => have hlt := Hlt.out; (first | rw [e3] | rw [show ((j : Int) + 1) = ((j + 1 : Nat) : Int) from rfl]); simp only [RowKit.intOf, Int.toNat_natCast]; exact Nat.sub_lt_sub_left hlt (Nat.lt_succ_self j)
              · have hq2 : decide (0 < (j : Int)) = false := decide_eq_false (by omega)
                have hq3 : decide (0 < j) = false := decide_eq_false h0
                by_cases hc1 : lim ≤ es.length
                · have hq4 : decide ((es.length : Int) < (lim : Int)) = false := decide_eq_false (by omega)
                  have hq5 : decide (es.length < lim) = false := decide_eq_false (by omega)
                  have HKs := Lib.hid (keptE_skip lim es hc1 j hlt (by omega))
                  replace h0 := Lib.hid h0
                  replace hc1 := Lib.hid hc1
                  go_wp2_with fail
                  go_roundw
                  case rel => exact ⟨j + 1, hlt, by first | rw [e3] | rfl, by rw [← HKs.out]; exact HO.out, HB.out⟩
                  case measure => (first | rw [e3] | rw [show ((j : Int) + 1) = ((j + 1 : Nat) : Int) from rfl]); simp only [RowKit.intOf, Int.toNat_natCast]; exact Nat.sub_lt_sub_left hlt (Nat.lt_succ_self j)
                · have hq4 : decide ((es.length : Int) < (lim : Int)) = true := decide_eq_true (by omega)
                  have hq5 : decide (es.length < lim) = true := decide_eq_true (by omega)
                  have hc : ¬ (lim ≤ es.length ∧ j = 0) := fun h => hc1 h.1
                  replace h0 := Lib.hid h0
                  replace hc1 := Lib.hid hc1
                  have HKm := Lib.hid (keptE_more lim es j hlt hc)
                  obtain ⟨gg, off, rfl⟩ := row_at (HR.out.below HB.out) (by omega)
                  have hcl := row3 (HR.out.below HB.out) j hlt
                  generalize es[j] = x at hcl HKm
                  obtain ⟨xk, xb, xn⟩ := x
                  obtain ⟨l1, l2, l3⟩ := hcl
                  simp only at l1 l2 l3
                  have ha2 := below_alloc (Below.refl wr.heap.size wr) (.cells #[.int .u64 xk, .string xb, .int .i64 xn] 45)
                  have hbs := Nat.le_trans HB.out.size ha2.size
                  have HO2 := Lib.hid (HO.out.below ha2)
                  have HB2 := Lib.hid (chain2 HB.out ha2)
                  have hbox := encK_box (w := wr.alloc (.cells #[.int .u64 xk, .string xb, .int .i64 xn] 45)) (b := wr.heap.size) (x := ⟨xk, xb, xn⟩) (by rw [World.cell?_alloc_new]; rfl) (by rw [World.cell?_alloc_new]; rfl) (by rw [World.cell?_alloc_new]; rfl)
                  have HBox := Lib.hid hbox
                  have HBs := Lib.hid hbs
                  have Hlt := Lib.hid hlt
                  clear ha2 hbs hbox hc HO HB hlt hjl
                  go_wp2_with (at_builtin; refine wpList_rowO rfl _ _ encK_len encK_one1 (by decide) Try.underlying40 rke_info rfl rfl rfl HO2.out HBs.out ?qc1 ?qc2 ⟨wr.heap.size, 0, none⟩ 1 ⟨xk, xb, xn⟩ rfl HBox.out ?_)
                  case qc1 => have := HKl.out; unfold maxLen; omega
                  case qc2 => have := HKl.out; omega
                  intro a' c' w' ho hg hk
                  rw [HKm.out] at ho
                  have HO := Lib.hid ho
                  have HB := Lib.hid (pw_below_grown HB2.out _ HB2.out.size hg (fun k hk => (HO2.out.lt k hk).1))
                  clear ho hg hk HO2 HB2 HBox HBs l1 l2 l3
                  go_wp2_with fail
                  go_roundw
                  case rel => exact ⟨j + 1, Hlt.out, by first | rw [e3] | rfl, HO.out, HB.out⟩
                  case measure => have hlt := Hlt.out; (first | rw [e3] | rw [show ((j : Int) + 1) = ((j + 1 : Nat) : Int) from rfl]); simp only [RowKit.intOf, Int.toNat_natCast]; exact Nat.sub_lt_sub_left hlt (Nat.lt_succ_self j)
            · obtain rfl : j = es.length := Nat.le_antisymm hjl (Nat.le_of_not_lt hlt)
              have hx := blk_below HX.out HB.out
              have c0 : wr.cell? ⟨bx, 0, none⟩ = some (.int .u64 ek) := cell_of_row wr bx 0 _ _ (0, 0) hx
              have c1 : wr.cell? ⟨bx, 1, none⟩ = some (.string eb) := cell_of_row wr bx 1 _ _ (0, 0) hx
              have c2 : wr.cell? ⟨bx, 2, none⟩ = some (.int .i64 en) := cell_of_row wr bx 2 _ _ (0, 0) hx
              have HKm := Lib.hid (keptE_all lim es ⟨ek, eb, en⟩)
              have ha2 := below_alloc (Below.refl wr.heap.size wr) (.cells #[.int .u64 ek, .string eb, .int .i64 en] 45)
              have hbs := Nat.le_trans HB.out.size ha2.size
              have HO2 := Lib.hid (HO.out.below ha2)
              have HB2 := Lib.hid (chain2 HB.out ha2)
              have hbox := encK_box (w := wr.alloc (.cells #[.int .u64 ek, .string eb, .int .i64 en] 45)) (b := wr.heap.size) (x := ⟨ek, eb, en⟩) (by rw [World.cell?_alloc_new]; rfl) (by rw [World.cell?_alloc_new]; rfl) (by rw [World.cell?_alloc_new]; rfl)
              have HBox := Lib.hid hbox
              have HBs := Lib.hid hbs
              clear ha2 hbs hbox HO HB hlt hjl hx
              go_wp2_with (at_builtin; refine wpList_rowO rfl _ _ encK_len encK_one1 (by decide) Try.underlying40 rke_info rfl rfl rfl HO2.out HBs.out ?qc1 ?qc2 ⟨wr.heap.size, 0, none⟩ 1 ⟨ek, eb, en⟩ rfl HBox.out ?_)
              case qc1 => have := HKl.out; unfold maxLen; omega
              case qc2 => have := HKl.out; omega
              intro a' c' w' ho hg hk
              rw [HKm.out] at ho
              have HO := Lib.hid ho
              have HB := Lib.hid (pw_below_grown HB2.out _ HB2.out.size hg (fun k hk => (HO2.out.lt k hk).1))
              clear ho hg hk HO2 HB2 HBox HBs c0 c1 c2
              go_wp2
              go_ret2
              rw [HP.out]
              exact ⟨_, rfl, HO.out.rowS, .inr fun k hk => by have := (HO.out.lt k hk).1; have := HW.out; have := Hbx.out.1; omega, chain2 HA.out HB.out⟩
        · have HP := Lib.hid (show putK lim es ⟨ek, eb, en⟩ = (es, 16) by unfold putK; rw [HRi.out, if_pos rfl, find_some hi hki hj]; rfl)
          clear hki hj
          have hq : decide (0 ≤ (i : Int)) = true := decide_eq_true (by omega)
          have hq' : (0 ≤ (i : Int)) = True := eq_true (by omega)
          go_wp2
          go_ret2
          rw [HP.out]
          exact ⟨_, rfl, HR.out, .inl rfl, HA.out⟩
      · have a3 : decide (4294967295 < en) = true := decide_eq_true (by omega)
        have HRi := Lib.hid (hbad (by rw [hri]; exact decide_eq_false (by omega)))
        rw [HRi.out]
        clear hbad hri h1 h2 h3
        have HA := Lib.hid ha; clear ha
        obtain ⟨av, nv, cv, rfl⟩ : ∃ a n c, v = .slice a n c := by obtain ⟨a, c, h, _⟩ := HR.out.len; exact ⟨a, _, c, h⟩
        go_enter Try.func12, Try.ntmps12
        go_wp2
        go_ret2
        exact ⟨_, rfl, HR.out.below HA.out, .inl rfl, HA.out⟩
    · have a2 : decide (en < 1) = true := decide_eq_true (by omega)
      have HRi := Lib.hid (hbad (by rw [hri]; exact decide_eq_false (by omega)))
      rw [HRi.out]
      clear hbad hri h1 h2
      have HA := Lib.hid ha; clear ha
      obtain ⟨av, nv, cv, rfl⟩ : ∃ a n c, v = .slice a n c := by obtain ⟨a, c, h, _⟩ := HR.out.len; exact ⟨a, _, c, h⟩
      go_enter Try.func12, Try.ntmps12
      go_wp2
      go_ret2
      exact ⟨_, rfl, HR.out.below HA.out, .inl rfl, HA.out⟩
  · have a1 : decide (255 < (eb.size : Int)) = true := decide_eq_true (by omega)
    have HRi := Lib.hid (hbad (by rw [hri]; exact decide_eq_false (by omega)))
    rw [HRi.out]
    clear hbad hri h1
    have HA := Lib.hid ha; clear ha
    obtain ⟨av, nv, cv, rfl⟩ : ∃ a n c, v = .slice a n c := by obtain ⟨a, c, h, _⟩ := HR.out.len; exact ⟨a, _, c, h⟩
    go_enter Try.func12, Try.ntmps12
    go_wp2
    go_ret2
    exact ⟨_, rfl, HR.out.below HA.out, .inl rfl, HA.out⟩
end Go.Proofs.Ytkadlahhcldjfaa
