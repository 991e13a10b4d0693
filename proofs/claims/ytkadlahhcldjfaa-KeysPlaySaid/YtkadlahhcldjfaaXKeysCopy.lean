/- keys: Copy. No conditions beyond the form's own reach. -/
import Derived.Test.YtkadlahhcldjfaaXKeysPut
import Derived.Test.YtkadlahhcldjfaaXKeysC
import Derived.Test.YtkadlahhcldjfaaWTab
namespace Go.Proofs.Ytkadlahhcldjfaa
open Go.RowKit Go.Lib Go.Proofs.YtkadlahhcldjfaaW.PrintWords Go.Proofs.YtkadlahhcldjfaaW.PrintLast Go.Proofs.YtkadlahhcldjfaaW.PrintMore
set_option linter.unusedVariables false
set_option linter.unusedSimpArgs false
def rg11_3.T : Bool × List (List Nat × List Nat) := (true, [([], []), ([0], [0]), ([1], [1]), ([2], [2]), ([], []), ([4], [4]), ([5], [5]), ([6], [6]), ([7], [7]), ([3, 8], [3, 8]), ([9], [9]), ([10, 8, 0, 1, 2, 3, 4, 5, 6, 7, 8, 9, 10], [10])])
def rg11_3.B : List Nat := [0, 1, 3, 7, 0, 16, 48, 112, 240, 511, 1023, 2047]
theorem rg11_3.tab : rtab .any (opsOf Try.f11 3) = rg11_3.T := by kernel_rfl
theorem rg11_3.bits : waitsOk rg11_3.T.2 rg11_3.B = true := by kernel_rfl
theorem cell_below {w w' : World} {a : Addr} {v : Value} (h : w.cell? a = some v) (hb : Below w.heap.size w w') : w'.cell? a = some v := (hb.cell (World.block_lt_of_cell? w _ h)).trans h
set_option maxHeartbeats 4000000 in
theorem keys_copyIn (g lim : Nat) (es : List KE) (w : World) (h : KeysAt w g lim es) :
    Calls Try.prog 11 #[.pointer (some ⟨g, 0, none⟩)] w fun x w' => ∃ g' r', x = .returned (.pointer (some ⟨g', 0, none⟩)) ∧ w.heap.size ≤ g' ∧ KeysIn w' g' lim es r' ∧ (∀ k, r' = some k → w.heap.size ≤ k) ∧ Below w.heap.size w w' := by
  obtain ⟨v, h1, h2, h3, h4, h5, h6, h7, h8⟩ := h
  have HL := Lib.hid (show es.length ≤ 1000 ∧ es.length ≤ lim ∧ 1 ≤ lim ∧ lim ≤ 64 by omega)
  obtain ⟨ad, cap, rfl, _⟩ := h4.len
  have HR := Lib.hid h4; clear h3 h4 h5 h6 h7 h8
  have hS : w.drew.cell? ⟨g, 0, none⟩ = some (.int .i64 (lim : Int)) ∧ w.drew.cell? ⟨g, 1, none⟩ = some (.slice ad es.length cap) := ⟨h1, h2⟩
  clear h1 h2
  go_enter Try.func11, Try.ntmps11
  go_wp2_with fail
  replace HR := Lib.hid (show RowS encK w.drew (.slice ad es.length cap) es from RowS.below HR.out (below_drew1 (Below.refl _ _)))
  have HB := Lib.hid (show Below w.heap.size w w.drew from below_drew1 (Below.refl _ _))
  refine start_ (n := 12) (S := fun w' => w'.cell? ⟨g, 0, none⟩ = some (.int .i64 (lim : Int)) ∧ w'.cell? ⟨g, 1, none⟩ = some (.slice ad es.length cap)) (ds := []) #[false, false, false, false, false, false, false, false, false, false, false, false] (by kernel_rfl) rfl rfl hS (fun hHeld => ?_)
  refine with_tabW rg11_3.tab rg11_3.bits (fun HT_ HW_ => ?_)
  generalize w.drew = w' at HR HB hHeld ⊢
  refine pure_ (i := 0) (N := some 5) (v := ?_) (a' := ?_) #[true, false, false, false, false, false, false, false, false, false, false, false] rfl rfl (any_of HT_.out (by kernel_rfl)) (fun _ _ _ h => h) (Or.inl ⟨by rfl, ?_⟩) ?_ ?_
  rotate_left
  · intro w'
    go_simp
    try with_reducible rfl
  rotate_left
  · simp (maxSteps := 4000000) only [Act.put, List.setIfInBounds_toArray, List.set_cons_zero, List.set_cons_succ, i64_w, i32_w]
    try rfl
  refine pure_ (i := 1) (N := some 6) (v := ?_) (a' := ?_) #[true, true, false, false, false, false, false, false, false, false, false, false] rfl rfl (any_of HT_.out (by kernel_rfl)) (fun _ _ _ h => h) (Or.inl ⟨by rfl, ?_⟩) ?_ ?_
  rotate_left
  · intro w'
    go_simp
    try with_reducible rfl
  rotate_left
  · simp (maxSteps := 4000000) only [Act.put, List.setIfInBounds_toArray, List.set_cons_zero, List.set_cons_succ, i64_w, i32_w]
    try rfl
  refine pure_ (i := 2) (N := some 7) (v := ?_) (a' := ?_) #[true, true, true, false, false, false, false, false, false, false, false, false] rfl rfl (any_of HT_.out (by kernel_rfl)) (fun _ _ _ h => h) (Or.inl ⟨by rfl, ?_⟩) ?_ ?_
  rotate_left
  · intro w'
    go_simp
    try with_reducible rfl
  rotate_left
  · simp (maxSteps := 4000000) only [Act.put, List.setIfInBounds_toArray, List.set_cons_zero, List.set_cons_succ, i64_w, i32_w]
    try rfl
  refine pure_ (i := 4) (N := some 9) (v := ?_) (a' := ?_) #[true, true, true, false, true, false, false, false, false, false, false, false] rfl rfl (any_of HT_.out (by kernel_rfl)) (fun _ _ _ h => h) (Or.inl ⟨by rfl, ?_⟩) ?_ ?_
  rotate_left
  · intro w'
    go_simp
    try with_reducible rfl
  rotate_left
  · simp (maxSteps := 4000000) only [Act.put, List.setIfInBounds_toArray, List.set_cons_zero, List.set_cons_succ, i64_w, i32_w]
    try rfl
  refine pure_ (i := 5) (N := some 10) (v := ?_) (a' := ?_) #[true, true, true, false, true, true, false, false, false, false, false, false] rfl rfl (any_of HT_.out (by kernel_rfl)) (fun _ _ _ h => h) (Or.inl ⟨by rfl, ?_⟩) ?_ ?_
  rotate_left
  · intro w'
    go_simp
    try with_reducible rfl
  rotate_left
  · simp (maxSteps := 4000000) only [Act.put, List.setIfInBounds_toArray, List.set_cons_zero, List.set_cons_succ, i64_w, i32_w]
    try rfl
  refine pure_ (i := 6) (N := some 11) (v := ?_) (a' := ?_) #[true, true, true, false, true, true, true, false, false, false, false, false] rfl rfl (any_of HT_.out (by kernel_rfl)) (fun _ _ _ h => h) (Or.inl ⟨by rfl, ?_⟩) ?_ ?_
  rotate_left
  · intro w'
    go_simp
    try with_reducible rfl
  rotate_left
  · simp (maxSteps := 4000000) only [Act.put, List.setIfInBounds_toArray, List.set_cons_zero, List.set_cons_succ, i64_w, i32_w]
    try rfl
  refine take_ (i := 3) (N := some 8) (v := ?_) (a' := ?_) #[true, true, true, true, true, true, true, false, false, false, false, false] rfl rfl (take_ofW HT_.out HW_.out (by kernel_rfl)) (fun _ _ _ h => h) (Or.inl ⟨by rfl, ?_⟩) hHeld ?_ ?_
  rotate_left
  · intro w' hw_
    try dsimp only at hw_
    obtain ⟨x0, x1⟩ := hw_
    go_simp
    try with_reducible rfl
  rotate_left
  · simp (maxSteps := 4000000) only [Act.put, List.setIfInBounds_toArray, List.set_cons_zero, List.set_cons_succ, i64_w, i32_w]
    try rfl
  refine take_ (i := 7) (N := some 12) (v := ?_) (a' := ?_) #[true, true, true, true, true, true, true, true, false, false, false, false] rfl rfl (take_ofW HT_.out HW_.out (by kernel_rfl)) (fun _ _ _ h => h) (Or.inl ⟨by rfl, ?_⟩) hHeld ?_ ?_
  rotate_left
  · intro w' hw_
    try dsimp only at hw_
    obtain ⟨x0, x1⟩ := hw_
    go_simp
    try with_reducible rfl
  rotate_left
  · simp (maxSteps := 4000000) only [Act.put, List.setIfInBounds_toArray, List.set_cons_zero, List.set_cons_succ, i64_w, i32_w]
    try rfl
  refine one_ (i := 8) (N := some 13) #[true, true, true, true, true, true, true, true, true, false, false, false] rfl rfl (one_of HT_.out (by kernel_rfl)) (by decide) (fun K hK => ?_)
  refine goes_ Try.func20 (by kernel_rfl) rfl #[(.slice ad es.length cap)] (by rfl) rfl rfl (by (try simp only [List.map_toArray, List.map_cons, List.map_nil]); first | done | rfl) ?_
  refine (keys_clone es HL.out.1 _ _ HR.out).mono ?_
  rintro e w' ⟨vc, rfl, ho, hd⟩
  refine ⟨_, rfl, ?_⟩
  obtain ⟨ac, mc, cc, rfl⟩ := owns_slice ho
  have hSS := And.intro (cell_below hHeld.1 hd) (cell_below hHeld.2 hd)
  have HOw := Lib.hid (owns_base ho HB.out.size)
  have HOs := Lib.hid (RowS.of_owns ho)
  replace HB := Lib.hid (chain2 HB.out hd)
  clear hd ho HR
  refine hK.out _ _ (hSS) (fun hHeld => ?_)
  clear hK K
  refine norm_ (a' := ?_) ?_ ?_
  rotate_left
  · show Act.put _ (some 13) _ = _
    simp (maxSteps := 4000000) only [Act.put, List.setIfInBounds_toArray, List.set_cons_zero, List.set_cons_succ, i64_w, i32_w]
    try rfl
  refine pure_ (i := 9) (N := some 14) (v := ?_) (a' := ?_) #[true, true, true, true, true, true, true, true, true, true, false, false] rfl rfl (any_of HT_.out (by kernel_rfl)) (fun _ _ _ h => h) (Or.inl ⟨by rfl, ?_⟩) ?_ ?_
  rotate_left
  · intro w'
    go_simp
    try with_reducible rfl
  rotate_left
  · simp (maxSteps := 4000000) only [Act.put, List.setIfInBounds_toArray, List.set_cons_zero, List.set_cons_succ, i64_w, i32_w]
    try rfl
  refine one_ (i := 10) (N := some 15) #[true, true, true, true, true, true, true, true, true, true, true, false] rfl rfl (one_of HT_.out (by kernel_rfl)) (by decide) (fun K hK => ?_)
  refine value_ (v := (.pointer (some ⟨w'.heap.size, 0, none⟩))) (w1 := w'.alloc (.cells #[.int .i64 (lim : Int), (.slice ac mc cc)] 58)) (by rfl) rfl ?_ ?_
  · (go_simp)
  have HK := Lib.hid (heap_alloc_new w' (.cells #[.int .i64 (lim : Int), (.slice ac mc cc)] 58))
  have hd := below_alloc (Below.refl w'.heap.size w') (.cells #[.int .i64 (lim : Int), (.slice ac mc cc)] 58)
  have HGk := Lib.hid HB.out.size
  have hSS := And.intro (cell_below hHeld.1 hd) (cell_below hHeld.2 hd)
  replace HOs := Lib.hid (RowS.below HOs.out hd)
  replace HB := Lib.hid (chain2 HB.out hd)
  clear hd
  refine hK.out _ _ (hSS) (fun hHeld => ?_)
  clear hK K
  refine norm_ (a' := ?_) ?_ ?_
  rotate_left
  · show Act.put _ (some 15) _ = _
    simp (maxSteps := 4000000) only [Act.put, List.setIfInBounds_toArray, List.set_cons_zero, List.set_cons_succ, i64_w, i32_w]
    try rfl
  refine pure_ (i := 11) (N := some 2) (v := ?_) (a' := ?_) #[true, true, true, true, true, true, true, true, true, true, true, true] rfl rfl (any_of HT_.out (by kernel_rfl)) (fun _ _ _ h => h) (Or.inl ⟨by rfl, ?_⟩) ?_ ?_
  rotate_left
  · intro w'
    go_simp
    try with_reducible rfl
  rotate_left
  · simp (maxSteps := 4000000) only [Act.put, List.setIfInBounds_toArray, List.set_cons_zero, List.set_cons_succ, i64_w, i32_w]
    try rfl
  refine done_ (done_of HT_.out (by kernel_rfl)) ?_
  go_wp2
  go_ret
  have hk := HK.out
  have hne : (Value.slice ac mc cc).ownBlock ≠ some w'.heap.size := by
    intro e
    rcases HOw.out.2 with ⟨h, _⟩ | ⟨gg, cap, cur, h, h1, h2, _⟩
    · rw [h] at e; cases e
    · rw [h] at e
      have := blk_lt h2
      simp [Value.ownBlock] at e
      omega
  refine ⟨_, _, rfl, HGk.out, ⟨.slice ac mc cc, rfl, ?_, ?_, ?_, HOs.out, hne, HL.out.2.1, HL.out.2.2.1, HL.out.2.2.2⟩, fun k hk => (HOw.out.lt k hk).1, HB.out⟩
  · rw [World.cell?_alloc_new]; rfl
  · rw [World.cell?_alloc_new]; rfl
  · unfold World.frozen?; rw [heap_alloc_new]; rfl
theorem keys_copy (g lim : Nat) (es : List KE) (w : World) (h : KeysAt w g lim es) :
    Calls Try.prog 11 #[.pointer (some ⟨g, 0, none⟩)] w fun x w' => ∃ g', x = .returned (.pointer (some ⟨g', 0, none⟩)) ∧ w.heap.size ≤ g' ∧ KeysAt w' g' lim es ∧ Below w.heap.size w w' :=
  (keys_copyIn g lim es w h).mono fun x w' ⟨g', r', h1, h2, h3, _, h4⟩ => ⟨g', h1, h2, h3.at_, h4⟩
end Go.Proofs.Ytkadlahhcldjfaa
