/- keys: Put. -/
import Derived.Test.YtkadlahhcldjfaaXKeysC
import Derived.Test.YtkadlahhcldjfaaWTab
import Derived.Test.YtkadlahhcldjfaaWMore
import Derived.Test.YtkadlahhcldjfaaWLast
namespace Go.Proofs.Ytkadlahhcldjfaa
open Go.RowKit Go.Lib Go.Proofs.YtkadlahhcldjfaaW.PrintWords Go.Proofs.YtkadlahhcldjfaaW.PrintLast Go.Proofs.YtkadlahhcldjfaaW.PrintMore
set_option linter.unusedVariables false
set_option linter.unusedSimpArgs false
def rg8_11.T : Bool × List (List Nat × List Nat) := (true, [([], []), ([], []), ([1], [1]), ([], []), ([3], [3]), ([2, 4, 2], [2, 4]), ([0, 0, 1, 2, 3, 4, 5], [0]), ([6, 0, 1, 2, 3, 4, 5], [6]), ([7, 5, 5, 0, 1, 2, 3, 4, 5], [5, 7])])
def rg8_11.B : List Nat := [0, 0, 2, 0, 8, 30, 63, 127, 255]
theorem rg8_11.tab : rtab .any (opsOf Try.f8 11) = rg8_11.T := by kernel_rfl
theorem rg8_11.bits : waitsOk rg8_11.T.2 rg8_11.B = true := by kernel_rfl
def rightK (e : KE) : Bool := decide (e.body.size ≤ 255) && (decide (1 ≤ e.num) && decide (e.num ≤ 4294967295))
def moreK (lim : Nat) (es : List KE) (e : KE) : List KE := (if lim ≤ es.length then es.drop 1 else es) ++ [e]
def putK (lim : Nat) (es : List KE) (e : KE) : List KE × Int := if rightK e = true then (if (findK e.key es).isSome = true then (es, 16) else (moreK lim es e, 0)) else (es, 2)

set_option maxHeartbeats 2000000 in
theorem keys_right (e : KE) (w : World) :
    Calls Try.prog 18 #[.agg #[.int .u64 e.key, .string e.body, .int .i64 e.num]] w fun x w' => x = .returned (.bool (rightK e)) ∧ Below w.heap.size w w' := by
  obtain ⟨k, b, n⟩ := e
  unfold rightK
  simp only
  by_cases h1 : b.size ≤ 255
  · have a1 : decide ((b.size : Int) ≤ 255) = true := decide_eq_true (by omega)
    by_cases h2 : 1 ≤ n
    · have a2 : decide (1 ≤ n) = true := decide_eq_true h2
      by_cases h3 : n ≤ 4294967295
      · have a3 : decide (n ≤ 4294967295) = true := decide_eq_true h3
        rw [decide_eq_true h1, a2, a3]
        go_enter Try.func18, Try.ntmps18
        go_wp2
        go_ret
        exact ⟨by rfl, (Below.refl _ w).alloc (Nat.le_refl _) _⟩
      · have a3 : decide (n ≤ 4294967295) = false := decide_eq_false h3
        rw [decide_eq_true h1, a2, a3]
        go_enter Try.func18, Try.ntmps18
        go_wp2
        go_ret
        exact ⟨by rfl, (Below.refl _ w).alloc (Nat.le_refl _) _⟩
    · have a2 : decide (1 ≤ n) = false := decide_eq_false h2
      rw [decide_eq_true h1, a2]
      go_enter Try.func18, Try.ntmps18
      go_wp2
      go_ret
      exact ⟨by rfl, (Below.refl _ w).alloc (Nat.le_refl _) _⟩
  · have a1 : decide ((b.size : Int) ≤ 255) = false := decide_eq_false (by omega)
    rw [decide_eq_false h1]
    go_enter Try.func18, Try.ntmps18
    go_wp2
    go_ret
    exact ⟨by rfl, (Below.refl _ w).alloc (Nat.le_refl _) _⟩

theorem Box3.news {w : World} {b : Nat} {e : KE} (h : Box3 w b (.int .u64 e.key) (.string e.body) (.int .i64 e.num)) : ∀ j u, (encK e)[j]? = some u → w.cell? ((⟨b, 0, none⟩ : Addr).add j) = some u := by
  obtain ⟨h0, h1, h2, _⟩ := h.facts
  intro j u hu
  rw [Addr.add_lit, Nat.zero_add]
  match j, hu with
  | 0, hu => simp [encK] at hu; rw [← hu]; exact h0
  | 1, hu => simp [encK] at hu; rw [← hu]; exact h1
  | 2, hu => simp [encK] at hu; rw [← hu]; exact h2
  | j + 3, hu => simp [encK] at hu
theorem owns_more {w : World} {base : Nat} {v : Value} {es : List KE} {e : KE} (h : w.ownsRow base 30 3 v (es.length + 1) (es.flatMap encK ++ encK e)) : w.ownsRow base 30 3 v (es ++ [e]).length ((es ++ [e]).flatMap encK) := by
  rw [List.length_append, List.flatMap_append]
  simpa using h
/-- The same, with the block of its row. -/
def KeysIn (w : World) (g lim : Nat) (es : List KE) (r : Option Nat) : Prop := ∃ v, v.ownBlock = r ∧ w.cell? ⟨g, 0, none⟩ = some (.int .i64 (lim : Int)) ∧ w.cell? ⟨g, 1, none⟩ = some v ∧ w.frozen? ⟨g, 1, none⟩ = false ∧ RowS encK w v es ∧ v.ownBlock ≠ some g ∧ es.length ≤ lim ∧ 1 ≤ lim ∧ lim ≤ 64
theorem KeysIn.at_ {w : World} {g lim : Nat} {es : List KE} {r : Option Nat} (h : KeysIn w g lim es r) : KeysAt w g lim es := by
  obtain ⟨v, _, h⟩ := h
  exact ⟨v, h⟩
theorem KeysAt.in_ {w : World} {g lim : Nat} {es : List KE} (h : KeysAt w g lim es) : ∃ r, KeysIn w g lim es r := by
  obtain ⟨v, h⟩ := h
  exact ⟨_, v, rfl, h⟩
theorem KeysIn.below {w w' : World} {g lim : Nat} {es : List KE} {r : Option Nat} (h : KeysIn w g lim es r) (hb : Below w.heap.size w w') : KeysIn w' g lim es r := by
  obtain ⟨v, h0, h1, h2, h3, h4, h5, h6⟩ := h
  exact ⟨v, h0, pw_cell_below hb h1, pw_cell_below hb h2, (hb.frozen (p := ⟨g, 1, none⟩) (World.block_lt_of_cell? w _ h2)).trans h3, h4.below hb, h5, h6⟩
/-- Another block is written. -/
theorem KeysIn.grown {w w' : World} {g lim : Nat} {es : List KE} {r row : Option Nat} (h : KeysIn w g lim es r) (hg : w.grownBy w' row) (h1 : row ≠ some g) (h2 : row = none ∨ row ≠ r) : KeysIn w' g lim es r := by
  obtain ⟨v, k0, k1, k2, k3, k4, k5⟩ := h
  have hne : (some g : Option Nat) ≠ row := fun e => h1 e.symm
  have hl := World.block_lt_of_cell? w _ k2
  refine ⟨v, k0, hg.cell k1 hne, hg.cell k2 hne, ?_, ?_, k5⟩
  · exact (World.frozen?_of_block (a := ⟨g, 1, none⟩) (hg.block g hl hne)).trans k3
  · rcases k4 with k4 | ⟨gg, off, cap, e1, e2, e3, e4, e5⟩
    · exact .inl k4
    · refine .inr ⟨gg, off, cap, e1, e2, e3, Nat.lt_of_lt_of_le e4 hg.size, fun j u hu => hg.cell (e5 j u hu) (fun e => ?_)⟩
      rw [e1] at k0
      rcases h2 with h2 | h2
      · rw [h2] at e; cases e
      · exact h2 (e.symm.trans k0)
theorem keys_end {w : World} {g lim base : Nat} {es es' : List KE} {v : Value} (h : KeysAt w g lim es) (ho : w.ownsRow base 30 3 v es'.length (es'.flatMap encK)) (hg : g < base) (hl : es'.length ≤ lim) : KeysIn (w.setCell ⟨g, 1, none⟩ v) g lim es' v.ownBlock := by
  obtain ⟨v0, h1, h2, h3, h4, h5, h6, h7, h8⟩ := h
  have hne : v.ownBlock ≠ some g := fun e => by have := (ho.lt g e).1; omega
  refine ⟨v, rfl, ?_, ?_, ?_, (RowS.of_owns ho).grown (Lib.grownBy_setCell w g 1 v) hne, hne, hl, h7, h8⟩
  · rw [World.cell?_setCell_other _ _ _ _ (by intro e; injection e with _ e2 _; cases e2)]; exact h1
  · rw [World.cell?_setCell_same' _ _ _ (by rw [h2]; rfl)]
  · rw [World.frozen?_setCell]; exact h3
theorem owns_slice {w : World} {base k n : Nat} {e : TypeId} {v : Value} {xs : List Value} (h : w.ownsRow base e k v n xs) : ∃ a m c, v = .slice a m c := by
  rcases h.2 with ⟨rfl, _⟩ | ⟨g, cap, cur, rfl, _⟩
  · exact ⟨_, _, _, rfl⟩
  · exact ⟨_, _, _, rfl⟩
theorem box_grown {w w' : World} {b base k n : Nat} {t : TypeId} {v c0 c1 c2 : Value} {xs : List Value} (h : Box3 w b c0 c1 c2) (ho : w.ownsRow base t k v n xs) (hb : b < base) (hg : w.grownBy w' v.ownBlock) : Box3 w' b c0 c1 c2 :=
  (hg.block b (blk_lt h) (fun e => by have := (ho.lt b e.symm).1; omega)).trans h
theorem box_S {w : World} {b : Nat} {c0 c1 c2 : Value} (h : Box3 w b c0 c1 c2) : w.cell? ⟨b, 0, none⟩ = some c0 ∧ w.cell? ⟨b, 1, none⟩ = some c1 ∧ w.cell? ⟨b, 2, none⟩ = some c2 := by
  obtain ⟨h0, h1, h2, _⟩ := h.facts
  exact ⟨h0, h1, h2⟩

set_option maxHeartbeats 4000000 in
set_option maxRecDepth 100000 in
theorem keys_putIn (g lim : Nat) (es : List KE) (e : KE) (r : Option Nat) (w : World) (h : KeysIn w g lim es r) :
    Calls Try.prog 8 #[.pointer (some ⟨g, 0, none⟩), .agg #[.int .u64 e.key, .string e.body, .int .i64 e.num]] w fun x w' => x = .returned (.int .i64 (putK lim es e).2) ∧ (∃ r', KeysIn w' g lim (putK lim es e).1 r' ∧ (r' = r ∨ ∀ k, r' = some k → w.heap.size ≤ k)) ∧ w.grownBy w' (some g) := by
  have HK := Lib.hid h.at_; have H0 := Lib.hid h; clear h
  have hg := HK.out.lt
  obtain ⟨i0, hi0, hz0, hz1, hz2⟩ := info_parts ke_info
  have HI := Lib.hid (And.intro hi0 (And.intro hz0 (And.intro hz1 hz2))); clear hi0 hz0 hz1 hz2
  go_enter Try.func8, Try.ntmps8
  go_wp2_with fail
  have hB := Box3.new w (.int .u64 e.key) (.string e.body) (.int .i64 e.num)
  have hb := below_alloc (Below.refl w.heap.size w) (.cells #[.int .u64 e.key, .string e.body, .int .i64 e.num] 30)
  replace HK := Lib.hid (HK.out.below hb)
  generalize w.alloc (.cells #[.int .u64 e.key, .string e.body, .int .i64 e.num] 30) = W at hB hb HK ⊢
  have hg3 : g ≠ w.heap.size := by omega
  generalize hb3 : w.heap.size = b3 at hB hg3 ⊢
  have HB := Lib.hid hb; clear hb
  have HX := Lib.hid hB; clear hB
  have HG := Lib.hid hg; clear hg
  have H3 := Lib.hid (show w.heap.size ≤ b3 by omega); clear hb3
  refine (keys_right e W).mono ?_
  rintro x w' ⟨rfl, hd⟩
  replace HK := Lib.hid (HK.out.below hd)
  replace HX := Lib.hid (HX.out.below hd)
  replace HB := Lib.hid (chain2 HB.out hd)
  clear hd
  cases hri : rightK e with
  | false =>
    have HP := Lib.hid (show putK lim es e = (es, 2) by unfold putK; rw [hri]; rfl)
    clear hri
    go_wp2
    go_ret
    rw [HP.out]
    exact ⟨rfl, ⟨r, H0.out.below HB.out, .inl rfl⟩, grown_of_below HB.out _⟩
  | true =>
    have HRI := Lib.hid hri; clear hri
    obtain ⟨x0, x1, x2, f0, f1, f2⟩ := HX.out.facts
    go_wp2_with fail
    clear x0 x1 x2 f0 f1 f2
    refine (keys_find g lim es e.key w' HK.out).mono ?_
    rintro x w1 ⟨rfl, hd⟩
    replace HK := Lib.hid (HK.out.below hd)
    replace HX := Lib.hid (HX.out.below hd)
    replace HB := Lib.hid (chain2 HB.out hd)
    clear hd
    unfold foundK
    cases ho : findK e.key es with
    | some x =>
      have HP := Lib.hid (show putK lim es e = (es, 16) by unfold putK; rw [HRI.out, if_pos rfl, ho]; rfl)
      clear ho
      go_wp2
      go_ret
      rw [HP.out]
      have hd := below_alloc (Below.refl w1.heap.size w1) (.cells #[.int .u64 x.key, .string x.body, .int .i64 x.num] 30)
      exact ⟨rfl, ⟨r, H0.out.below (chain2 HB.out hd), .inl rfl⟩, grown_of_below (chain2 HB.out hd) _⟩
    | none =>
      have HP := Lib.hid (show putK lim es e = (moreK lim es e, 0) by unfold putK; rw [HRI.out, if_pos rfl, ho]; rfl)
      clear ho
      have hd := below_alloc (Below.refl w1.heap.size w1) (.cells #[.int .u64 0, .string ByteArray.empty, .int .i64 0] 30)
      replace HK := Lib.hid (HK.out.below hd)
      replace HX := Lib.hid (HX.out.below hd)
      replace HB := Lib.hid (chain2 HB.out hd)
      clear hd
      obtain ⟨v, k0, k1, k2, k3, k4, k5, k6, k7⟩ := HK.out
      have K3 := Lib.hid k3; clear k3
      have K4 := Lib.hid k4; clear k4
      obtain ⟨ad, cap, rfl, _⟩ := K3.out.len
      by_cases hq : lim ≤ es.length
      · have q1 : decide ((lim : Int) ≤ (es.length : Int)) = true := decide_eq_true (by omega)
        rcases K3.out with ⟨h1, h2⟩ | ⟨g', off, cap', h1, h2, h3, h4, h5⟩
        · rw [h2] at hq; simp at hq; omega
        simp only [Value.slice.injEq, true_and] at h1
        obtain ⟨rfl, rfl⟩ := h1
        clear h5 h3 h4
        have q2 : (1 : Int) ≤ (es.length : Int) := by omega
        have q3 : (es.length : Int) ≤ (cap : Int) := by omega
        have HM := Lib.hid (show moreK lim es e = es.drop 1 ++ [e] by unfold moreK; rw [if_pos hq])
        have HE := Lib.hid (show (es.drop 1 ++ [e]).length ≤ lim by rw [List.length_append, List.length_drop, List.length_singleton]; omega)
        have HL := Lib.hid (show (es.drop 1).length ≤ 1000 by rw [List.length_drop]; omega)
        by_cases hc1 : cap = 1
        · subst hc1
          have hdl : es.drop 1 = [] := List.drop_eq_nil_of_le (by omega)
          have hr : RowS encK (w1.alloc (Obj.cells #[Value.int .u64 0, Value.string ByteArray.empty, Value.int .i64 0] 30)) (.slice (some ⟨g', off, none⟩) 0 0) (es.drop 1) := by
            rw [hdl]
            refine .inr ⟨g', off, 0, ?_, by simp, by simp, ?_, by simp⟩
            · rfl
            · rcases K3.out with ⟨h1, _⟩ | ⟨_, _, _, h1, _, _, h4, _⟩
              · cases h1
              · simp only [Value.slice.injEq, Option.some.injEq, Addr.mk.injEq] at h1
                rw [h1.1.1]; exact h4
          have HR := Lib.hid hr; clear hr hdl
          go_wp2_with fail
          clear k0 k1 k2 K4 K3 HK
          replace HX := Lib.hid (show Box3 (w1.alloc (Obj.cells #[Value.int .u64 0, Value.string ByteArray.empty, Value.int .i64 0] 30)).drew b3 _ _ _ from HX.out)
          replace HB := Lib.hid (below_drew1 HB.out)
          replace HR := Lib.hid (show RowS encK (w1.alloc (Obj.cells #[Value.int .u64 0, Value.string ByteArray.empty, Value.int .i64 0] 30)).drew (Value.slice (some ⟨g', off, none⟩) 0 0) (es.drop 1) from HR.out)
          have hS := box_S HX.out
          refine start_ (n := 9) (S := fun w' => w'.cell? ⟨b3, 0, none⟩ = some (.int .u64 e.key) ∧ w'.cell? ⟨b3, 1, none⟩ = some (.string e.body) ∧ w'.cell? ⟨b3, 2, none⟩ = some (.int .i64 e.num)) (ds := [8]) #[false, false, false, false, false, false, false, false, false] (by kernel_rfl) rfl rfl hS (fun hHeld => ?_)
          refine with_tabW rg8_11.tab rg8_11.bits (fun HT_ HW_ => ?_)
          generalize (w1.alloc (Obj.cells #[Value.int .u64 0, Value.string ByteArray.empty, Value.int .i64 0] 30)).drew = w' at HX HB HR hS hHeld ⊢
          refine pure_ (i := 0) (N := some 36) (v := ?_) (a' := ?_) #[true, false, false, false, false, false, false, false, false] rfl rfl (any_of HT_.out (by kernel_rfl)) (fun _ _ _ h => h) (Or.inl ⟨by rfl, ?_⟩) ?_ ?_
          rotate_left
          · intro w'
            go_simp
            try with_reducible rfl
          rotate_left
          · simp (maxSteps := 4000000) only [Act.put, List.setIfInBounds_toArray, List.set_cons_zero, List.set_cons_succ, i64_w, i32_w]
            try rfl
          refine pure_ (i := 1) (N := some 37) (v := ?_) (a' := ?_) #[true, true, false, false, false, false, false, false, false] rfl rfl (any_of HT_.out (by kernel_rfl)) (fun _ _ _ h => h) (Or.inl ⟨by rfl, ?_⟩) ?_ ?_
          rotate_left
          · intro w'
            go_simp
            try with_reducible rfl
          rotate_left
          · simp (maxSteps := 4000000) only [Act.put, List.setIfInBounds_toArray, List.set_cons_zero, List.set_cons_succ, i64_w, i32_w]
            try rfl
          refine take_ (i := 3) (N := some 39) (v := ?_) (a' := ?_) #[true, true, false, true, false, false, false, false, false] rfl rfl (take_ofW HT_.out HW_.out (by kernel_rfl)) (fun _ _ _ h => h) (Or.inl ⟨by rfl, ?_⟩) hHeld ?_ ?_
          rotate_left
          · intro w' hw_
            try dsimp only at hw_
            go_simp
            try with_reducible rfl
          rotate_left
          · simp (maxSteps := 4000000) only [Act.put, List.setIfInBounds_toArray, List.set_cons_zero, List.set_cons_succ, i64_w, i32_w]
            try rfl
          refine two_ (i := 2) (j := 4) (Ni := some 38) (Nj := some 40) #[true, true, true, true, false, false, false, false, false] #[true, true, false, true, true, false, false, false, false] rfl rfl rfl rfl  (two_of HT_.out (by kernel_rfl)) (by decide) (by decide)  (fun K hK => ?_) (fun K hK => ?_) 
          · refine goes_ Try.func20 (by kernel_rfl) rfl #[(Value.slice (some ⟨g', off, none⟩) 0 0)] (by rfl) rfl rfl (by (try simp only [List.map_toArray, List.map_cons, List.map_nil]); first | done | rfl) ?_
            refine (keys_clone (es.drop 1) HL.out (Value.slice (some ⟨g', off, none⟩) 0 0) w' HR.out).mono ?_
            rintro e w' ⟨vc, rfl, ho, hd⟩
            refine ⟨_, rfl, ?_⟩
            have HO := Lib.hid (owns_base (base' := b3 + 1) ho (blk_lt HX.out))
            clear ho
            (try replace HN := Lib.hid (HN.out.below hd))
            replace HX := Lib.hid (HX.out.below hd)
            replace HB := Lib.hid (chain2 HB.out hd)
            clear hd HR
            refine hK.out _ _ (box_S HX.out) (fun hHeld => ?_)
            clear hK K
            refine norm_ (a' := ?_) ?_ ?_
            rotate_left
            · show Act.put _ (some 38) _ = _
              simp (maxSteps := 4000000) only [Act.put, List.setIfInBounds_toArray, List.set_cons_zero, List.set_cons_succ, i64_w, i32_w]
              try rfl
            refine one_ (i := 4) (N := some 40) #[true, true, true, true, true, false, false, false, false] rfl rfl (one_of HT_.out (by kernel_rfl)) (by decide) (fun K hK => ?_)
            refine value_ (v := .slice (some ⟨w'.heap.size, 0, none⟩) 1 1) (w1 := w'.alloc (.cells #[.int .u64 e.key, .string e.body, .int .i64 e.num] 30)) (by rfl) rfl ?_ ?_
            · (go_simp)
            have HN := Lib.hid (Box3.new w' (.int .u64 e.key) (.string e.body) (.int .i64 e.num))
            have hd := below_alloc (Below.refl w'.heap.size w') (.cells #[.int .u64 e.key, .string e.body, .int .i64 e.num] 30)
            (try replace HR := Lib.hid (HR.out.below hd))
            (try replace HO := Lib.hid (HO.out.alloc (.cells #[.int .u64 e.key, .string e.body, .int .i64 e.num] 30)))
            replace HX := Lib.hid (HX.out.below hd)
            replace HB := Lib.hid (chain2 HB.out hd)
            clear hd
            generalize w'.heap.size = bN at HN ⊢
            (first | generalize w'.alloc (.cells #[.int .u64 e.key, .string e.body, .int .i64 e.num] 30) = w' at HN HR HX HB ⊢ | generalize w'.alloc (.cells #[.int .u64 e.key, .string e.body, .int .i64 e.num] 30) = w' at HN HO HX HB ⊢)
            refine hK.out _ _ (box_S HX.out) (fun hHeld => ?_)
            clear hK K
            refine norm_ (a' := ?_) ?_ ?_
            rotate_left
            · show Act.put _ (some 40) _ = _
              simp (maxSteps := 4000000) only [Act.put, List.setIfInBounds_toArray, List.set_cons_zero, List.set_cons_succ, i64_w, i32_w]
              try rfl
            refine one_ (i := 5) (N := some 41) #[true, true, true, true, true, true, false, false, false] rfl rfl (one_of HT_.out (by kernel_rfl)) (by decide) (fun K hK => ?_)
            obtain ⟨v', w2, hr, ho2, hgr, _⟩ := run_append_own w' (P := Try.prog) (b3 + 1) 33 33 30 i0 (.agg #[.int .u64 0, .string ByteArray.empty, .int .i64 0]) 3 32 Try.underlying33 HI.out.1 HI.out.2.1 HI.out.2.2.1 HI.out.2.2.2 rfl (by decide) vc (es.drop 1).length ((es.drop 1).flatMap encK) HO.out ⟨bN, 0, none⟩ 1 1 (encK e) rfl HN.out.news (by intro u hu; exact encK_one [e] u (by simpa using hu)) (by have := HL.out; unfold maxLen; omega) (by have := HL.out; omega) (by have := blk_lt HX.out; omega)
            obtain ⟨va, vn, vk, rfl⟩ := owns_slice ho2
            refine value_ (v := .slice va vn vk) (w1 := w2) (by rfl) rfl (append_run rfl (by rfl) (by rfl) hr) ?_
            clear hr
            replace HX := Lib.hid (box_grown HX.out HO.out (Nat.lt_succ_self b3) hgr)
            replace HB := Lib.hid (pw_below_grown HB.out _ HB.out.size hgr (fun k hk => by have := (HO.out.lt k hk).1; have := H3.out; omega))
            replace HO := Lib.hid (owns_more ho2)
            clear ho2 hgr HN
            refine hK.out _ _ (box_S HX.out) (fun hHeld => ?_)
            clear hK K
            refine norm_ (a' := ?_) ?_ ?_
            rotate_left
            · show Act.put _ (some 41) _ = _
              simp (maxSteps := 4000000) only [Act.put, List.setIfInBounds_toArray, List.set_cons_zero, List.set_cons_succ, i64_w, i32_w]
              try rfl
            refine pure_ (i := 6) (N := some 42) (v := ?_) (a' := ?_) #[true, true, true, true, true, true, true, false, false] rfl rfl (any_of HT_.out (by kernel_rfl)) (fun _ _ _ h => h) (Or.inl ⟨by rfl, ?_⟩) ?_ ?_
            rotate_left
            · intro w'
              go_simp
              try with_reducible rfl
            rotate_left
            · simp (maxSteps := 4000000) only [Act.put, List.setIfInBounds_toArray, List.set_cons_zero, List.set_cons_succ, i64_w, i32_w]
              try rfl
            refine pure_ (i := 7) (N := some 43) (v := ?_) (a' := ?_) #[true, true, true, true, true, true, true, true, false] rfl rfl (any_of HT_.out (by kernel_rfl)) (fun _ _ _ h => h) (Or.inl ⟨by rfl, ?_⟩) ?_ ?_
            rotate_left
            · intro w'
              go_simp
              try with_reducible rfl
            rotate_left
            · simp (maxSteps := 4000000) only [Act.put, List.setIfInBounds_toArray, List.set_cons_zero, List.set_cons_succ, i64_w, i32_w]
              try rfl
            refine last_ (i := 8) (N := none) #[true, true, true, true, true, true, true, true, true] rfl rfl (one_of HT_.out (by kernel_rfl)) (by decide) (fun K hK => ?_)
            refine skip_ (w1 := w2.setCell ⟨g, 1, none⟩ (.slice va vn vk)) (by rfl) rfl ?_ ?_
            · (obtain ⟨_, _, _, k1, k2, _⟩ := H0.out.below HB.out; go_simp)
            refine hK.out _ _ ?_
            clear hK K
            refine done_ (done_of HT_.out (by kernel_rfl)) ?_
            go_wp2
            go_ret
            rw [HP.out, HM.out]
            exact ⟨rfl, ⟨_, keys_end (H0.out.below HB.out).at_ HO.out (by have := HG.out; have := H3.out; omega) HE.out, .inr fun k hk => by have := (HO.out.lt k hk).1; have := H3.out; omega⟩, Lib.grownBy_setB (grown_of_below HB.out (some g)) 1 _⟩
          · refine value_ (v := .slice (some ⟨w'.heap.size, 0, none⟩) 1 1) (w1 := w'.alloc (.cells #[.int .u64 e.key, .string e.body, .int .i64 e.num] 30)) (by rfl) rfl ?_ ?_
            · (go_simp)
            have HN := Lib.hid (Box3.new w' (.int .u64 e.key) (.string e.body) (.int .i64 e.num))
            have hd := below_alloc (Below.refl w'.heap.size w') (.cells #[.int .u64 e.key, .string e.body, .int .i64 e.num] 30)
            (try replace HR := Lib.hid (HR.out.below hd))
            (try replace HO := Lib.hid (HO.out.alloc (.cells #[.int .u64 e.key, .string e.body, .int .i64 e.num] 30)))
            replace HX := Lib.hid (HX.out.below hd)
            replace HB := Lib.hid (chain2 HB.out hd)
            clear hd
            generalize w'.heap.size = bN at HN ⊢
            (first | generalize w'.alloc (.cells #[.int .u64 e.key, .string e.body, .int .i64 e.num] 30) = w' at HN HR HX HB ⊢ | generalize w'.alloc (.cells #[.int .u64 e.key, .string e.body, .int .i64 e.num] 30) = w' at HN HO HX HB ⊢)
            refine hK.out _ _ (box_S HX.out) (fun hHeld => ?_)
            clear hK K
            refine norm_ (a' := ?_) ?_ ?_
            rotate_left
            · show Act.put _ (some 40) _ = _
              simp (maxSteps := 4000000) only [Act.put, List.setIfInBounds_toArray, List.set_cons_zero, List.set_cons_succ, i64_w, i32_w]
              try rfl
            refine one_ (i := 2) (N := some 38) #[true, true, true, true, true, false, false, false, false] rfl rfl (one_of HT_.out (by kernel_rfl)) (by decide) (fun K hK => ?_)
            refine goes_ Try.func20 (by kernel_rfl) rfl #[(Value.slice (some ⟨g', off, none⟩) 0 0)] (by rfl) rfl rfl (by (try simp only [List.map_toArray, List.map_cons, List.map_nil]); first | done | rfl) ?_
            refine (keys_clone (es.drop 1) HL.out (Value.slice (some ⟨g', off, none⟩) 0 0) w' HR.out).mono ?_
            rintro e w' ⟨vc, rfl, ho, hd⟩
            refine ⟨_, rfl, ?_⟩
            have HO := Lib.hid (owns_base (base' := b3 + 1) ho (blk_lt HX.out))
            clear ho
            (try replace HN := Lib.hid (HN.out.below hd))
            replace HX := Lib.hid (HX.out.below hd)
            replace HB := Lib.hid (chain2 HB.out hd)
            clear hd HR
            refine hK.out _ _ (box_S HX.out) (fun hHeld => ?_)
            clear hK K
            refine norm_ (a' := ?_) ?_ ?_
            rotate_left
            · show Act.put _ (some 38) _ = _
              simp (maxSteps := 4000000) only [Act.put, List.setIfInBounds_toArray, List.set_cons_zero, List.set_cons_succ, i64_w, i32_w]
              try rfl
            refine one_ (i := 5) (N := some 41) #[true, true, true, true, true, true, false, false, false] rfl rfl (one_of HT_.out (by kernel_rfl)) (by decide) (fun K hK => ?_)
            obtain ⟨v', w2, hr, ho2, hgr, _⟩ := run_append_own w' (P := Try.prog) (b3 + 1) 33 33 30 i0 (.agg #[.int .u64 0, .string ByteArray.empty, .int .i64 0]) 3 32 Try.underlying33 HI.out.1 HI.out.2.1 HI.out.2.2.1 HI.out.2.2.2 rfl (by decide) vc (es.drop 1).length ((es.drop 1).flatMap encK) HO.out ⟨bN, 0, none⟩ 1 1 (encK e) rfl HN.out.news (by intro u hu; exact encK_one [e] u (by simpa using hu)) (by have := HL.out; unfold maxLen; omega) (by have := HL.out; omega) (by have := blk_lt HX.out; omega)
            obtain ⟨va, vn, vk, rfl⟩ := owns_slice ho2
            refine value_ (v := .slice va vn vk) (w1 := w2) (by rfl) rfl (append_run rfl (by rfl) (by rfl) hr) ?_
            clear hr
            replace HX := Lib.hid (box_grown HX.out HO.out (Nat.lt_succ_self b3) hgr)
            replace HB := Lib.hid (pw_below_grown HB.out _ HB.out.size hgr (fun k hk => by have := (HO.out.lt k hk).1; have := H3.out; omega))
            replace HO := Lib.hid (owns_more ho2)
            clear ho2 hgr HN
            refine hK.out _ _ (box_S HX.out) (fun hHeld => ?_)
            clear hK K
            refine norm_ (a' := ?_) ?_ ?_
            rotate_left
            · show Act.put _ (some 41) _ = _
              simp (maxSteps := 4000000) only [Act.put, List.setIfInBounds_toArray, List.set_cons_zero, List.set_cons_succ, i64_w, i32_w]
              try rfl
            refine pure_ (i := 6) (N := some 42) (v := ?_) (a' := ?_) #[true, true, true, true, true, true, true, false, false] rfl rfl (any_of HT_.out (by kernel_rfl)) (fun _ _ _ h => h) (Or.inl ⟨by rfl, ?_⟩) ?_ ?_
            rotate_left
            · intro w'
              go_simp
              try with_reducible rfl
            rotate_left
            · simp (maxSteps := 4000000) only [Act.put, List.setIfInBounds_toArray, List.set_cons_zero, List.set_cons_succ, i64_w, i32_w]
              try rfl
            refine pure_ (i := 7) (N := some 43) (v := ?_) (a' := ?_) #[true, true, true, true, true, true, true, true, false] rfl rfl (any_of HT_.out (by kernel_rfl)) (fun _ _ _ h => h) (Or.inl ⟨by rfl, ?_⟩) ?_ ?_
            rotate_left
            · intro w'
              go_simp
              try with_reducible rfl
            rotate_left
            · simp (maxSteps := 4000000) only [Act.put, List.setIfInBounds_toArray, List.set_cons_zero, List.set_cons_succ, i64_w, i32_w]
              try rfl
            refine last_ (i := 8) (N := none) #[true, true, true, true, true, true, true, true, true] rfl rfl (one_of HT_.out (by kernel_rfl)) (by decide) (fun K hK => ?_)
            refine skip_ (w1 := w2.setCell ⟨g, 1, none⟩ (.slice va vn vk)) (by rfl) rfl ?_ ?_
            · (obtain ⟨_, _, _, k1, k2, _⟩ := H0.out.below HB.out; go_simp)
            refine hK.out _ _ ?_
            clear hK K
            refine done_ (done_of HT_.out (by kernel_rfl)) ?_
            go_wp2
            go_ret
            rw [HP.out, HM.out]
            exact ⟨rfl, ⟨_, keys_end (H0.out.below HB.out).at_ HO.out (by have := HG.out; have := H3.out; omega) HE.out, .inr fun k hk => by have := (HO.out.lt k hk).1; have := H3.out; omega⟩, Lib.grownBy_setB (grown_of_below HB.out (some g)) 1 _⟩
        · have hr := K3.out.tail encK_len 1 (by omega)
          rw [List.length_drop] at hr
          have HR := Lib.hid hr; clear hr
          go_wp2_with fail
          clear k0 k1 k2 K4 K3 HK
          generalize es.length - 1 = n1 at HR ⊢
          generalize off + 1 * 3 = o1 at HR ⊢
          generalize cap - 1 = c1 at HR ⊢
          replace HX := Lib.hid (show Box3 (w1.alloc (Obj.cells #[Value.int .u64 0, Value.string ByteArray.empty, Value.int .i64 0] 30)).drew b3 _ _ _ from HX.out)
          replace HB := Lib.hid (below_drew1 HB.out)
          replace HR := Lib.hid (show RowS encK (w1.alloc (Obj.cells #[Value.int .u64 0, Value.string ByteArray.empty, Value.int .i64 0] 30)).drew (Value.slice (some ⟨g', o1, none⟩) n1 c1) (es.drop 1) from HR.out)
          have hS := box_S HX.out
          refine start_ (n := 9) (S := fun w' => w'.cell? ⟨b3, 0, none⟩ = some (.int .u64 e.key) ∧ w'.cell? ⟨b3, 1, none⟩ = some (.string e.body) ∧ w'.cell? ⟨b3, 2, none⟩ = some (.int .i64 e.num)) (ds := [8]) #[false, false, false, false, false, false, false, false, false] (by kernel_rfl) rfl rfl hS (fun hHeld => ?_)
          refine with_tabW rg8_11.tab rg8_11.bits (fun HT_ HW_ => ?_)
          generalize (w1.alloc (Obj.cells #[Value.int .u64 0, Value.string ByteArray.empty, Value.int .i64 0] 30)).drew = w' at HX HB HR hS hHeld ⊢
          refine pure_ (i := 0) (N := some 36) (v := ?_) (a' := ?_) #[true, false, false, false, false, false, false, false, false] rfl rfl (any_of HT_.out (by kernel_rfl)) (fun _ _ _ h => h) (Or.inl ⟨by rfl, ?_⟩) ?_ ?_
          rotate_left
          · intro w'
            go_simp
            try with_reducible rfl
          rotate_left
          · simp (maxSteps := 4000000) only [Act.put, List.setIfInBounds_toArray, List.set_cons_zero, List.set_cons_succ, i64_w, i32_w]
            try rfl
          refine pure_ (i := 1) (N := some 37) (v := ?_) (a' := ?_) #[true, true, false, false, false, false, false, false, false] rfl rfl (any_of HT_.out (by kernel_rfl)) (fun _ _ _ h => h) (Or.inl ⟨by rfl, ?_⟩) ?_ ?_
          rotate_left
          · intro w'
            go_simp
            try with_reducible rfl
          rotate_left
          · simp (maxSteps := 4000000) only [Act.put, List.setIfInBounds_toArray, List.set_cons_zero, List.set_cons_succ, i64_w, i32_w]
            try rfl
          refine take_ (i := 3) (N := some 39) (v := ?_) (a' := ?_) #[true, true, false, true, false, false, false, false, false] rfl rfl (take_ofW HT_.out HW_.out (by kernel_rfl)) (fun _ _ _ h => h) (Or.inl ⟨by rfl, ?_⟩) hHeld ?_ ?_
          rotate_left
          · intro w' hw_
            try dsimp only at hw_
            go_simp
            try with_reducible rfl
          rotate_left
          · simp (maxSteps := 4000000) only [Act.put, List.setIfInBounds_toArray, List.set_cons_zero, List.set_cons_succ, i64_w, i32_w]
            try rfl
          refine two_ (i := 2) (j := 4) (Ni := some 38) (Nj := some 40) #[true, true, true, true, false, false, false, false, false] #[true, true, false, true, true, false, false, false, false] rfl rfl rfl rfl  (two_of HT_.out (by kernel_rfl)) (by decide) (by decide)  (fun K hK => ?_) (fun K hK => ?_) 
          · refine goes_ Try.func20 (by kernel_rfl) rfl #[(Value.slice (some ⟨g', o1, none⟩) n1 c1)] (by rfl) rfl rfl (by (try simp only [List.map_toArray, List.map_cons, List.map_nil]); first | done | rfl) ?_
            refine (keys_clone (es.drop 1) HL.out (Value.slice (some ⟨g', o1, none⟩) n1 c1) w' HR.out).mono ?_
            rintro e w' ⟨vc, rfl, ho, hd⟩
            refine ⟨_, rfl, ?_⟩
            have HO := Lib.hid (owns_base (base' := b3 + 1) ho (blk_lt HX.out))
            clear ho
            (try replace HN := Lib.hid (HN.out.below hd))
            replace HX := Lib.hid (HX.out.below hd)
            replace HB := Lib.hid (chain2 HB.out hd)
            clear hd HR
            refine hK.out _ _ (box_S HX.out) (fun hHeld => ?_)
            clear hK K
            refine norm_ (a' := ?_) ?_ ?_
            rotate_left
            · show Act.put _ (some 38) _ = _
              simp (maxSteps := 4000000) only [Act.put, List.setIfInBounds_toArray, List.set_cons_zero, List.set_cons_succ, i64_w, i32_w]
              try rfl
            refine one_ (i := 4) (N := some 40) #[true, true, true, true, true, false, false, false, false] rfl rfl (one_of HT_.out (by kernel_rfl)) (by decide) (fun K hK => ?_)
            refine value_ (v := .slice (some ⟨w'.heap.size, 0, none⟩) 1 1) (w1 := w'.alloc (.cells #[.int .u64 e.key, .string e.body, .int .i64 e.num] 30)) (by rfl) rfl ?_ ?_
            · (go_simp)
            have HN := Lib.hid (Box3.new w' (.int .u64 e.key) (.string e.body) (.int .i64 e.num))
            have hd := below_alloc (Below.refl w'.heap.size w') (.cells #[.int .u64 e.key, .string e.body, .int .i64 e.num] 30)
            (try replace HR := Lib.hid (HR.out.below hd))
            (try replace HO := Lib.hid (HO.out.alloc (.cells #[.int .u64 e.key, .string e.body, .int .i64 e.num] 30)))
            replace HX := Lib.hid (HX.out.below hd)
            replace HB := Lib.hid (chain2 HB.out hd)
            clear hd
            generalize w'.heap.size = bN at HN ⊢
            (first | generalize w'.alloc (.cells #[.int .u64 e.key, .string e.body, .int .i64 e.num] 30) = w' at HN HR HX HB ⊢ | generalize w'.alloc (.cells #[.int .u64 e.key, .string e.body, .int .i64 e.num] 30) = w' at HN HO HX HB ⊢)
            refine hK.out _ _ (box_S HX.out) (fun hHeld => ?_)
            clear hK K
            refine norm_ (a' := ?_) ?_ ?_
            rotate_left
            · show Act.put _ (some 40) _ = _
              simp (maxSteps := 4000000) only [Act.put, List.setIfInBounds_toArray, List.set_cons_zero, List.set_cons_succ, i64_w, i32_w]
              try rfl
            refine one_ (i := 5) (N := some 41) #[true, true, true, true, true, true, false, false, false] rfl rfl (one_of HT_.out (by kernel_rfl)) (by decide) (fun K hK => ?_)
            obtain ⟨v', w2, hr, ho2, hgr, _⟩ := run_append_own w' (P := Try.prog) (b3 + 1) 33 33 30 i0 (.agg #[.int .u64 0, .string ByteArray.empty, .int .i64 0]) 3 32 Try.underlying33 HI.out.1 HI.out.2.1 HI.out.2.2.1 HI.out.2.2.2 rfl (by decide) vc (es.drop 1).length ((es.drop 1).flatMap encK) HO.out ⟨bN, 0, none⟩ 1 1 (encK e) rfl HN.out.news (by intro u hu; exact encK_one [e] u (by simpa using hu)) (by have := HL.out; unfold maxLen; omega) (by have := HL.out; omega) (by have := blk_lt HX.out; omega)
            obtain ⟨va, vn, vk, rfl⟩ := owns_slice ho2
            refine value_ (v := .slice va vn vk) (w1 := w2) (by rfl) rfl (append_run rfl (by rfl) (by rfl) hr) ?_
            clear hr
            replace HX := Lib.hid (box_grown HX.out HO.out (Nat.lt_succ_self b3) hgr)
            replace HB := Lib.hid (pw_below_grown HB.out _ HB.out.size hgr (fun k hk => by have := (HO.out.lt k hk).1; have := H3.out; omega))
            replace HO := Lib.hid (owns_more ho2)
            clear ho2 hgr HN
            refine hK.out _ _ (box_S HX.out) (fun hHeld => ?_)
            clear hK K
            refine norm_ (a' := ?_) ?_ ?_
            rotate_left
            · show Act.put _ (some 41) _ = _
              simp (maxSteps := 4000000) only [Act.put, List.setIfInBounds_toArray, List.set_cons_zero, List.set_cons_succ, i64_w, i32_w]
              try rfl
            refine pure_ (i := 6) (N := some 42) (v := ?_) (a' := ?_) #[true, true, true, true, true, true, true, false, false] rfl rfl (any_of HT_.out (by kernel_rfl)) (fun _ _ _ h => h) (Or.inl ⟨by rfl, ?_⟩) ?_ ?_
            rotate_left
            · intro w'
              go_simp
              try with_reducible rfl
            rotate_left
            · simp (maxSteps := 4000000) only [Act.put, List.setIfInBounds_toArray, List.set_cons_zero, List.set_cons_succ, i64_w, i32_w]
              try rfl
            refine pure_ (i := 7) (N := some 43) (v := ?_) (a' := ?_) #[true, true, true, true, true, true, true, true, false] rfl rfl (any_of HT_.out (by kernel_rfl)) (fun _ _ _ h => h) (Or.inl ⟨by rfl, ?_⟩) ?_ ?_
            rotate_left
            · intro w'
              go_simp
              try with_reducible rfl
            rotate_left
            · simp (maxSteps := 4000000) only [Act.put, List.setIfInBounds_toArray, List.set_cons_zero, List.set_cons_succ, i64_w, i32_w]
              try rfl
            refine last_ (i := 8) (N := none) #[true, true, true, true, true, true, true, true, true] rfl rfl (one_of HT_.out (by kernel_rfl)) (by decide) (fun K hK => ?_)
            refine skip_ (w1 := w2.setCell ⟨g, 1, none⟩ (.slice va vn vk)) (by rfl) rfl ?_ ?_
            · (obtain ⟨_, _, _, k1, k2, _⟩ := H0.out.below HB.out; go_simp)
            refine hK.out _ _ ?_
            clear hK K
            refine done_ (done_of HT_.out (by kernel_rfl)) ?_
            go_wp2
            go_ret
            rw [HP.out, HM.out]
            exact ⟨rfl, ⟨_, keys_end (H0.out.below HB.out).at_ HO.out (by have := HG.out; have := H3.out; omega) HE.out, .inr fun k hk => by have := (HO.out.lt k hk).1; have := H3.out; omega⟩, Lib.grownBy_setB (grown_of_below HB.out (some g)) 1 _⟩
          · refine value_ (v := .slice (some ⟨w'.heap.size, 0, none⟩) 1 1) (w1 := w'.alloc (.cells #[.int .u64 e.key, .string e.body, .int .i64 e.num] 30)) (by rfl) rfl ?_ ?_
            · (go_simp)
            have HN := Lib.hid (Box3.new w' (.int .u64 e.key) (.string e.body) (.int .i64 e.num))
            have hd := below_alloc (Below.refl w'.heap.size w') (.cells #[.int .u64 e.key, .string e.body, .int .i64 e.num] 30)
            (try replace HR := Lib.hid (HR.out.below hd))
            (try replace HO := Lib.hid (HO.out.alloc (.cells #[.int .u64 e.key, .string e.body, .int .i64 e.num] 30)))
            replace HX := Lib.hid (HX.out.below hd)
            replace HB := Lib.hid (chain2 HB.out hd)
            clear hd
            generalize w'.heap.size = bN at HN ⊢
            (first | generalize w'.alloc (.cells #[.int .u64 e.key, .string e.body, .int .i64 e.num] 30) = w' at HN HR HX HB ⊢ | generalize w'.alloc (.cells #[.int .u64 e.key, .string e.body, .int .i64 e.num] 30) = w' at HN HO HX HB ⊢)
            refine hK.out _ _ (box_S HX.out) (fun hHeld => ?_)
            clear hK K
            refine norm_ (a' := ?_) ?_ ?_
            rotate_left
            · show Act.put _ (some 40) _ = _
              simp (maxSteps := 4000000) only [Act.put, List.setIfInBounds_toArray, List.set_cons_zero, List.set_cons_succ, i64_w, i32_w]
              try rfl
            refine one_ (i := 2) (N := some 38) #[true, true, true, true, true, false, false, false, false] rfl rfl (one_of HT_.out (by kernel_rfl)) (by decide) (fun K hK => ?_)
            refine goes_ Try.func20 (by kernel_rfl) rfl #[(Value.slice (some ⟨g', o1, none⟩) n1 c1)] (by rfl) rfl rfl (by (try simp only [List.map_toArray, List.map_cons, List.map_nil]); first | done | rfl) ?_
            refine (keys_clone (es.drop 1) HL.out (Value.slice (some ⟨g', o1, none⟩) n1 c1) w' HR.out).mono ?_
            rintro e w' ⟨vc, rfl, ho, hd⟩
            refine ⟨_, rfl, ?_⟩
            have HO := Lib.hid (owns_base (base' := b3 + 1) ho (blk_lt HX.out))
            clear ho
            (try replace HN := Lib.hid (HN.out.below hd))
            replace HX := Lib.hid (HX.out.below hd)
            replace HB := Lib.hid (chain2 HB.out hd)
            clear hd HR
            refine hK.out _ _ (box_S HX.out) (fun hHeld => ?_)
            clear hK K
            refine norm_ (a' := ?_) ?_ ?_
            rotate_left
            · show Act.put _ (some 38) _ = _
              simp (maxSteps := 4000000) only [Act.put, List.setIfInBounds_toArray, List.set_cons_zero, List.set_cons_succ, i64_w, i32_w]
              try rfl
            refine one_ (i := 5) (N := some 41) #[true, true, true, true, true, true, false, false, false] rfl rfl (one_of HT_.out (by kernel_rfl)) (by decide) (fun K hK => ?_)
            obtain ⟨v', w2, hr, ho2, hgr, _⟩ := run_append_own w' (P := Try.prog) (b3 + 1) 33 33 30 i0 (.agg #[.int .u64 0, .string ByteArray.empty, .int .i64 0]) 3 32 Try.underlying33 HI.out.1 HI.out.2.1 HI.out.2.2.1 HI.out.2.2.2 rfl (by decide) vc (es.drop 1).length ((es.drop 1).flatMap encK) HO.out ⟨bN, 0, none⟩ 1 1 (encK e) rfl HN.out.news (by intro u hu; exact encK_one [e] u (by simpa using hu)) (by have := HL.out; unfold maxLen; omega) (by have := HL.out; omega) (by have := blk_lt HX.out; omega)
            obtain ⟨va, vn, vk, rfl⟩ := owns_slice ho2
            refine value_ (v := .slice va vn vk) (w1 := w2) (by rfl) rfl (append_run rfl (by rfl) (by rfl) hr) ?_
            clear hr
            replace HX := Lib.hid (box_grown HX.out HO.out (Nat.lt_succ_self b3) hgr)
            replace HB := Lib.hid (pw_below_grown HB.out _ HB.out.size hgr (fun k hk => by have := (HO.out.lt k hk).1; have := H3.out; omega))
            replace HO := Lib.hid (owns_more ho2)
            clear ho2 hgr HN
            refine hK.out _ _ (box_S HX.out) (fun hHeld => ?_)
            clear hK K
            refine norm_ (a' := ?_) ?_ ?_
            rotate_left
            · show Act.put _ (some 41) _ = _
              simp (maxSteps := 4000000) only [Act.put, List.setIfInBounds_toArray, List.set_cons_zero, List.set_cons_succ, i64_w, i32_w]
              try rfl
            refine pure_ (i := 6) (N := some 42) (v := ?_) (a' := ?_) #[true, true, true, true, true, true, true, false, false] rfl rfl (any_of HT_.out (by kernel_rfl)) (fun _ _ _ h => h) (Or.inl ⟨by rfl, ?_⟩) ?_ ?_
            rotate_left
            · intro w'
              go_simp
              try with_reducible rfl
            rotate_left
            · simp (maxSteps := 4000000) only [Act.put, List.setIfInBounds_toArray, List.set_cons_zero, List.set_cons_succ, i64_w, i32_w]
              try rfl
            refine pure_ (i := 7) (N := some 43) (v := ?_) (a' := ?_) #[true, true, true, true, true, true, true, true, false] rfl rfl (any_of HT_.out (by kernel_rfl)) (fun _ _ _ h => h) (Or.inl ⟨by rfl, ?_⟩) ?_ ?_
            rotate_left
            · intro w'
              go_simp
              try with_reducible rfl
            rotate_left
            · simp (maxSteps := 4000000) only [Act.put, List.setIfInBounds_toArray, List.set_cons_zero, List.set_cons_succ, i64_w, i32_w]
              try rfl
            refine last_ (i := 8) (N := none) #[true, true, true, true, true, true, true, true, true] rfl rfl (one_of HT_.out (by kernel_rfl)) (by decide) (fun K hK => ?_)
            refine skip_ (w1 := w2.setCell ⟨g, 1, none⟩ (.slice va vn vk)) (by rfl) rfl ?_ ?_
            · (obtain ⟨_, _, _, k1, k2, _⟩ := H0.out.below HB.out; go_simp)
            refine hK.out _ _ ?_
            clear hK K
            refine done_ (done_of HT_.out (by kernel_rfl)) ?_
            go_wp2
            go_ret
            rw [HP.out, HM.out]
            exact ⟨rfl, ⟨_, keys_end (H0.out.below HB.out).at_ HO.out (by have := HG.out; have := H3.out; omega) HE.out, .inr fun k hk => by have := (HO.out.lt k hk).1; have := H3.out; omega⟩, Lib.grownBy_setB (grown_of_below HB.out (some g)) 1 _⟩
      · have q1 : decide ((lim : Int) ≤ (es.length : Int)) = false := decide_eq_false (by omega)
        have HM := Lib.hid (show moreK lim es e = es ++ [e] by unfold moreK; rw [if_neg hq])
        have HE := Lib.hid (show (es ++ [e]).length ≤ lim by rw [List.length_append, List.length_singleton]; omega)
        have HL := Lib.hid (show es.length ≤ 1000 by omega)
        have HR := K3; clear K3
        go_wp2_with fail
        clear k0 k1 k2 K4 HK
        replace HX := Lib.hid (show Box3 (w1.alloc (Obj.cells #[Value.int .u64 0, Value.string ByteArray.empty, Value.int .i64 0] 30)).drew b3 _ _ _ from HX.out)
        replace HB := Lib.hid (below_drew1 HB.out)
        replace HR := Lib.hid (show RowS encK (w1.alloc (Obj.cells #[Value.int .u64 0, Value.string ByteArray.empty, Value.int .i64 0] 30)).drew (Value.slice ad es.length cap) es from HR.out)
        have hS := box_S HX.out
        refine start_ (n := 9) (S := fun w' => w'.cell? ⟨b3, 0, none⟩ = some (.int .u64 e.key) ∧ w'.cell? ⟨b3, 1, none⟩ = some (.string e.body) ∧ w'.cell? ⟨b3, 2, none⟩ = some (.int .i64 e.num)) (ds := [8]) #[false, false, false, false, false, false, false, false, false] (by kernel_rfl) rfl rfl hS (fun hHeld => ?_)
        refine with_tabW rg8_11.tab rg8_11.bits (fun HT_ HW_ => ?_)
        generalize (w1.alloc (Obj.cells #[Value.int .u64 0, Value.string ByteArray.empty, Value.int .i64 0] 30)).drew = w' at HX HB HR hS hHeld ⊢
        refine pure_ (i := 0) (N := some 36) (v := ?_) (a' := ?_) #[true, false, false, false, false, false, false, false, false] rfl rfl (any_of HT_.out (by kernel_rfl)) (fun _ _ _ h => h) (Or.inl ⟨by rfl, ?_⟩) ?_ ?_
        rotate_left
        · intro w'
          go_simp
          try with_reducible rfl
        rotate_left
        · simp (maxSteps := 4000000) only [Act.put, List.setIfInBounds_toArray, List.set_cons_zero, List.set_cons_succ, i64_w, i32_w]
          try rfl
        refine pure_ (i := 1) (N := some 37) (v := ?_) (a' := ?_) #[true, true, false, false, false, false, false, false, false] rfl rfl (any_of HT_.out (by kernel_rfl)) (fun _ _ _ h => h) (Or.inl ⟨by rfl, ?_⟩) ?_ ?_
        rotate_left
        · intro w'
          go_simp
          try with_reducible rfl
        rotate_left
        · simp (maxSteps := 4000000) only [Act.put, List.setIfInBounds_toArray, List.set_cons_zero, List.set_cons_succ, i64_w, i32_w]
          try rfl
        refine take_ (i := 3) (N := some 39) (v := ?_) (a' := ?_) #[true, true, false, true, false, false, false, false, false] rfl rfl (take_ofW HT_.out HW_.out (by kernel_rfl)) (fun _ _ _ h => h) (Or.inl ⟨by rfl, ?_⟩) hHeld ?_ ?_
        rotate_left
        · intro w' hw_
          try dsimp only at hw_
          go_simp
          try with_reducible rfl
        rotate_left
        · simp (maxSteps := 4000000) only [Act.put, List.setIfInBounds_toArray, List.set_cons_zero, List.set_cons_succ, i64_w, i32_w]
          try rfl
        refine two_ (i := 2) (j := 4) (Ni := some 38) (Nj := some 40) #[true, true, true, true, false, false, false, false, false] #[true, true, false, true, true, false, false, false, false] rfl rfl rfl rfl  (two_of HT_.out (by kernel_rfl)) (by decide) (by decide)  (fun K hK => ?_) (fun K hK => ?_) 
        · refine goes_ Try.func20 (by kernel_rfl) rfl #[(Value.slice ad es.length cap)] (by rfl) rfl rfl (by (try simp only [List.map_toArray, List.map_cons, List.map_nil]); first | done | rfl) ?_
          refine (keys_clone es HL.out (Value.slice ad es.length cap) w' HR.out).mono ?_
          rintro e w' ⟨vc, rfl, ho, hd⟩
          refine ⟨_, rfl, ?_⟩
          have HO := Lib.hid (owns_base (base' := b3 + 1) ho (blk_lt HX.out))
          clear ho
          (try replace HN := Lib.hid (HN.out.below hd))
          replace HX := Lib.hid (HX.out.below hd)
          replace HB := Lib.hid (chain2 HB.out hd)
          clear hd HR
          refine hK.out _ _ (box_S HX.out) (fun hHeld => ?_)
          clear hK K
          refine norm_ (a' := ?_) ?_ ?_
          rotate_left
          · show Act.put _ (some 38) _ = _
            simp (maxSteps := 4000000) only [Act.put, List.setIfInBounds_toArray, List.set_cons_zero, List.set_cons_succ, i64_w, i32_w]
            try rfl
          refine one_ (i := 4) (N := some 40) #[true, true, true, true, true, false, false, false, false] rfl rfl (one_of HT_.out (by kernel_rfl)) (by decide) (fun K hK => ?_)
          refine value_ (v := .slice (some ⟨w'.heap.size, 0, none⟩) 1 1) (w1 := w'.alloc (.cells #[.int .u64 e.key, .string e.body, .int .i64 e.num] 30)) (by rfl) rfl ?_ ?_
          · (go_simp)
          have HN := Lib.hid (Box3.new w' (.int .u64 e.key) (.string e.body) (.int .i64 e.num))
          have hd := below_alloc (Below.refl w'.heap.size w') (.cells #[.int .u64 e.key, .string e.body, .int .i64 e.num] 30)
          (try replace HR := Lib.hid (HR.out.below hd))
          (try replace HO := Lib.hid (HO.out.alloc (.cells #[.int .u64 e.key, .string e.body, .int .i64 e.num] 30)))
          replace HX := Lib.hid (HX.out.below hd)
          replace HB := Lib.hid (chain2 HB.out hd)
          clear hd
          generalize w'.heap.size = bN at HN ⊢
          (first | generalize w'.alloc (.cells #[.int .u64 e.key, .string e.body, .int .i64 e.num] 30) = w' at HN HR HX HB ⊢ | generalize w'.alloc (.cells #[.int .u64 e.key, .string e.body, .int .i64 e.num] 30) = w' at HN HO HX HB ⊢)
          refine hK.out _ _ (box_S HX.out) (fun hHeld => ?_)
          clear hK K
          refine norm_ (a' := ?_) ?_ ?_
          rotate_left
          · show Act.put _ (some 40) _ = _
            simp (maxSteps := 4000000) only [Act.put, List.setIfInBounds_toArray, List.set_cons_zero, List.set_cons_succ, i64_w, i32_w]
            try rfl
          refine one_ (i := 5) (N := some 41) #[true, true, true, true, true, true, false, false, false] rfl rfl (one_of HT_.out (by kernel_rfl)) (by decide) (fun K hK => ?_)
          obtain ⟨v', w2, hr, ho2, hgr, _⟩ := run_append_own w' (P := Try.prog) (b3 + 1) 33 33 30 i0 (.agg #[.int .u64 0, .string ByteArray.empty, .int .i64 0]) 3 32 Try.underlying33 HI.out.1 HI.out.2.1 HI.out.2.2.1 HI.out.2.2.2 rfl (by decide) vc es.length (es.flatMap encK) HO.out ⟨bN, 0, none⟩ 1 1 (encK e) rfl HN.out.news (by intro u hu; exact encK_one [e] u (by simpa using hu)) (by have := HL.out; unfold maxLen; omega) (by have := HL.out; omega) (by have := blk_lt HX.out; omega)
          obtain ⟨va, vn, vk, rfl⟩ := owns_slice ho2
          refine value_ (v := .slice va vn vk) (w1 := w2) (by rfl) rfl (append_run rfl (by rfl) (by rfl) hr) ?_
          clear hr
          replace HX := Lib.hid (box_grown HX.out HO.out (Nat.lt_succ_self b3) hgr)
          replace HB := Lib.hid (pw_below_grown HB.out _ HB.out.size hgr (fun k hk => by have := (HO.out.lt k hk).1; have := H3.out; omega))
          replace HO := Lib.hid (owns_more ho2)
          clear ho2 hgr HN
          refine hK.out _ _ (box_S HX.out) (fun hHeld => ?_)
          clear hK K
          refine norm_ (a' := ?_) ?_ ?_
          rotate_left
          · show Act.put _ (some 41) _ = _
            simp (maxSteps := 4000000) only [Act.put, List.setIfInBounds_toArray, List.set_cons_zero, List.set_cons_succ, i64_w, i32_w]
            try rfl
          refine pure_ (i := 6) (N := some 42) (v := ?_) (a' := ?_) #[true, true, true, true, true, true, true, false, false] rfl rfl (any_of HT_.out (by kernel_rfl)) (fun _ _ _ h => h) (Or.inl ⟨by rfl, ?_⟩) ?_ ?_
          rotate_left
          · intro w'
            go_simp
            try with_reducible rfl
          rotate_left
          · simp (maxSteps := 4000000) only [Act.put, List.setIfInBounds_toArray, List.set_cons_zero, List.set_cons_succ, i64_w, i32_w]
            try rfl
          refine pure_ (i := 7) (N := some 43) (v := ?_) (a' := ?_) #[true, true, true, true, true, true, true, true, false] rfl rfl (any_of HT_.out (by kernel_rfl)) (fun _ _ _ h => h) (Or.inl ⟨by rfl, ?_⟩) ?_ ?_
          rotate_left
          · intro w'
            go_simp
            try with_reducible rfl
          rotate_left
          · simp (maxSteps := 4000000) only [Act.put, List.setIfInBounds_toArray, List.set_cons_zero, List.set_cons_succ, i64_w, i32_w]
            try rfl
          refine last_ (i := 8) (N := none) #[true, true, true, true, true, true, true, true, true] rfl rfl (one_of HT_.out (by kernel_rfl)) (by decide) (fun K hK => ?_)
          refine skip_ (w1 := w2.setCell ⟨g, 1, none⟩ (.slice va vn vk)) (by rfl) rfl ?_ ?_
          · (obtain ⟨_, _, _, k1, k2, _⟩ := H0.out.below HB.out; go_simp)
          refine hK.out _ _ ?_
          clear hK K
          refine done_ (done_of HT_.out (by kernel_rfl)) ?_
          go_wp2
          go_ret
          rw [HP.out, HM.out]
          exact ⟨rfl, ⟨_, keys_end (H0.out.below HB.out).at_ HO.out (by have := HG.out; have := H3.out; omega) HE.out, .inr fun k hk => by have := (HO.out.lt k hk).1; have := H3.out; omega⟩, Lib.grownBy_setB (grown_of_below HB.out (some g)) 1 _⟩
        · refine value_ (v := .slice (some ⟨w'.heap.size, 0, none⟩) 1 1) (w1 := w'.alloc (.cells #[.int .u64 e.key, .string e.body, .int .i64 e.num] 30)) (by rfl) rfl ?_ ?_
          · (go_simp)
          have HN := Lib.hid (Box3.new w' (.int .u64 e.key) (.string e.body) (.int .i64 e.num))
          have hd := below_alloc (Below.refl w'.heap.size w') (.cells #[.int .u64 e.key, .string e.body, .int .i64 e.num] 30)
          (try replace HR := Lib.hid (HR.out.below hd))
          (try replace HO := Lib.hid (HO.out.alloc (.cells #[.int .u64 e.key, .string e.body, .int .i64 e.num] 30)))
          replace HX := Lib.hid (HX.out.below hd)
          replace HB := Lib.hid (chain2 HB.out hd)
          clear hd
          generalize w'.heap.size = bN at HN ⊢
          (first | generalize w'.alloc (.cells #[.int .u64 e.key, .string e.body, .int .i64 e.num] 30) = w' at HN HR HX HB ⊢ | generalize w'.alloc (.cells #[.int .u64 e.key, .string e.body, .int .i64 e.num] 30) = w' at HN HO HX HB ⊢)
          refine hK.out _ _ (box_S HX.out) (fun hHeld => ?_)
          clear hK K
          refine norm_ (a' := ?_) ?_ ?_
          rotate_left
          · show Act.put _ (some 40) _ = _
            simp (maxSteps := 4000000) only [Act.put, List.setIfInBounds_toArray, List.set_cons_zero, List.set_cons_succ, i64_w, i32_w]
            try rfl
          refine one_ (i := 2) (N := some 38) #[true, true, true, true, true, false, false, false, false] rfl rfl (one_of HT_.out (by kernel_rfl)) (by decide) (fun K hK => ?_)
          refine goes_ Try.func20 (by kernel_rfl) rfl #[(Value.slice ad es.length cap)] (by rfl) rfl rfl (by (try simp only [List.map_toArray, List.map_cons, List.map_nil]); first | done | rfl) ?_
          refine (keys_clone es HL.out (Value.slice ad es.length cap) w' HR.out).mono ?_
          rintro e w' ⟨vc, rfl, ho, hd⟩
          refine ⟨_, rfl, ?_⟩
          have HO := Lib.hid (owns_base (base' := b3 + 1) ho (blk_lt HX.out))
          clear ho
          (try replace HN := Lib.hid (HN.out.below hd))
          replace HX := Lib.hid (HX.out.below hd)
          replace HB := Lib.hid (chain2 HB.out hd)
          clear hd HR
          refine hK.out _ _ (box_S HX.out) (fun hHeld => ?_)
          clear hK K
          refine norm_ (a' := ?_) ?_ ?_
          rotate_left
          · show Act.put _ (some 38) _ = _
            simp (maxSteps := 4000000) only [Act.put, List.setIfInBounds_toArray, List.set_cons_zero, List.set_cons_succ, i64_w, i32_w]
            try rfl
          refine one_ (i := 5) (N := some 41) #[true, true, true, true, true, true, false, false, false] rfl rfl (one_of HT_.out (by kernel_rfl)) (by decide) (fun K hK => ?_)
          obtain ⟨v', w2, hr, ho2, hgr, _⟩ := run_append_own w' (P := Try.prog) (b3 + 1) 33 33 30 i0 (.agg #[.int .u64 0, .string ByteArray.empty, .int .i64 0]) 3 32 Try.underlying33 HI.out.1 HI.out.2.1 HI.out.2.2.1 HI.out.2.2.2 rfl (by decide) vc es.length (es.flatMap encK) HO.out ⟨bN, 0, none⟩ 1 1 (encK e) rfl HN.out.news (by intro u hu; exact encK_one [e] u (by simpa using hu)) (by have := HL.out; unfold maxLen; omega) (by have := HL.out; omega) (by have := blk_lt HX.out; omega)
          obtain ⟨va, vn, vk, rfl⟩ := owns_slice ho2
          refine value_ (v := .slice va vn vk) (w1 := w2) (by rfl) rfl (append_run rfl (by rfl) (by rfl) hr) ?_
          clear hr
          replace HX := Lib.hid (box_grown HX.out HO.out (Nat.lt_succ_self b3) hgr)
          replace HB := Lib.hid (pw_below_grown HB.out _ HB.out.size hgr (fun k hk => by have := (HO.out.lt k hk).1; have := H3.out; omega))
          replace HO := Lib.hid (owns_more ho2)
          clear ho2 hgr HN
          refine hK.out _ _ (box_S HX.out) (fun hHeld => ?_)
          clear hK K
          refine norm_ (a' := ?_) ?_ ?_
          rotate_left
          · show Act.put _ (some 41) _ = _
            simp (maxSteps := 4000000) only [Act.put, List.setIfInBounds_toArray, List.set_cons_zero, List.set_cons_succ, i64_w, i32_w]
            try rfl
          refine pure_ (i := 6) (N := some 42) (v := ?_) (a' := ?_) #[true, true, true, true, true, true, true, false, false] rfl rfl (any_of HT_.out (by kernel_rfl)) (fun _ _ _ h => h) (Or.inl ⟨by rfl, ?_⟩) ?_ ?_
          rotate_left
          · intro w'
            go_simp
            try with_reducible rfl
          rotate_left
          · simp (maxSteps := 4000000) only [Act.put, List.setIfInBounds_toArray, List.set_cons_zero, List.set_cons_succ, i64_w, i32_w]
            try rfl
          refine pure_ (i := 7) (N := some 43) (v := ?_) (a' := ?_) #[true, true, true, true, true, true, true, true, false] rfl rfl (any_of HT_.out (by kernel_rfl)) (fun _ _ _ h => h) (Or.inl ⟨by rfl, ?_⟩) ?_ ?_
          rotate_left
          · intro w'
            go_simp
            try with_reducible rfl
          rotate_left
          · simp (maxSteps := 4000000) only [Act.put, List.setIfInBounds_toArray, List.set_cons_zero, List.set_cons_succ, i64_w, i32_w]
            try rfl
          refine last_ (i := 8) (N := none) #[true, true, true, true, true, true, true, true, true] rfl rfl (one_of HT_.out (by kernel_rfl)) (by decide) (fun K hK => ?_)
          refine skip_ (w1 := w2.setCell ⟨g, 1, none⟩ (.slice va vn vk)) (by rfl) rfl ?_ ?_
          · (obtain ⟨_, _, _, k1, k2, _⟩ := H0.out.below HB.out; go_simp)
          refine hK.out _ _ ?_
          clear hK K
          refine done_ (done_of HT_.out (by kernel_rfl)) ?_
          go_wp2
          go_ret
          rw [HP.out, HM.out]
          exact ⟨rfl, ⟨_, keys_end (H0.out.below HB.out).at_ HO.out (by have := HG.out; have := H3.out; omega) HE.out, .inr fun k hk => by have := (HO.out.lt k hk).1; have := H3.out; omega⟩, Lib.grownBy_setB (grown_of_below HB.out (some g)) 1 _⟩

theorem keys_put (g lim : Nat) (es : List KE) (e : KE) (w : World) (h : KeysAt w g lim es) :
    Calls Try.prog 8 #[.pointer (some ⟨g, 0, none⟩), .agg #[.int .u64 e.key, .string e.body, .int .i64 e.num]] w fun x w' => x = .returned (.int .i64 (putK lim es e).2) ∧ KeysAt w' g lim (putK lim es e).1 ∧ w.grownBy w' (some g) := by
  obtain ⟨r, hr⟩ := h.in_
  exact (keys_putIn g lim es e r w hr).mono fun x w' ⟨h1, ⟨r', h2, _⟩, h3⟩ => ⟨h1, h2.at_, h3⟩
end Go.Proofs.Ytkadlahhcldjfaa
