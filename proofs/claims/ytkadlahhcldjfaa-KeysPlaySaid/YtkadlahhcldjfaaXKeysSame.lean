/- keys: the law's 'same', where it is so. No conditions beyond the form's own reach. -/
import Derived.Test.YtkadlahhcldjfaaXKeysCopy
import Derived.Test.YtkadlahhcldjfaaWEqStruct
namespace Go.Proofs.Ytkadlahhcldjfaa
open Go.RowKit Go.Lib Go.Proofs.YtkadlahhcldjfaaW.PrintWords Go.Proofs.YtkadlahhcldjfaaW.PrintLast Go.Proofs.YtkadlahhcldjfaaW.PrintMore
set_option linter.unusedVariables false
set_option linter.unusedSimpArgs false
def rg13_7.T : Bool × List (List Nat × List Nat) := (true, [([], []), ([], []), ([0, 1], [0, 1]), ([2], [2]), ([], []), ([], []), ([4, 5], [4, 5]), ([6], [6]), ([3, 7], [3, 7])])
def rg13_7.B : List Nat := [0, 0, 3, 7, 0, 0, 48, 112, 255]
theorem rg13_7.tab : rtab .any (opsOf Try.f13 7) = rg13_7.T := by kernel_rfl
theorem rg13_7.bits : waitsOk rg13_7.T.2 rg13_7.B = true := by kernel_rfl
theorem row3 {w : World} {gg off cap n : Nat} {es : List KE} (h : RowS encK w (.slice (some ⟨gg, off, none⟩) n cap) es) (p : Nat) (hp : p < es.length) : w.cell? ⟨gg, off + p * 3, none⟩ = some (.int .u64 es[p].key) ∧ w.cell? ⟨gg, off + p * 3 + 1, none⟩ = some (.string es[p].body) ∧ w.cell? ⟨gg, off + p * 3 + 2, none⟩ = some (.int .i64 es[p].num) := by
  rcases h with ⟨h, _⟩ | ⟨g', off', cap', h1, h2, h3, h4, h5⟩
  · cases h
  · simp only [Value.slice.injEq, Option.some.injEq, Addr.mk.injEq, and_true] at h1
    obtain ⟨⟨rfl, rfl⟩, _, rfl⟩ := h1
    exact row_cells h5 p hp
theorem row_at {w : World} {a : Option Addr} {n cap : Nat} {es : List KE} (h : RowS encK w (.slice a n cap) es) (hn : 0 < es.length) : ∃ gg off, a = some ⟨gg, off, none⟩ := by
  rcases h with ⟨_, h⟩ | ⟨g', off', cap', h1, _⟩
  · rw [h] at hn; cases hn
  · simp only [Value.slice.injEq] at h1
    exact ⟨_, _, h1.1⟩
set_option maxHeartbeats 8000000 in
theorem keys_same (g lim : Nat) (es : List KE) (vm : Value) (w : World) (h : KeysAt w g lim es) (hm : RowS encK w vm es) :
    Calls Try.prog 13 #[.pointer (some ⟨g, 0, none⟩), vm] w fun x w' => x = .returned (.bool true) ∧ Below w.heap.size w w' := by
  have hl : es.length ≤ 1000 := by obtain ⟨_, _, _, _, _, _, h6, _, h8⟩ := h; omega
  obtain ⟨am, cm, rfl, _⟩ := hm.len
  have HM := Lib.hid hm; clear hm
  have HKa := Lib.hid h; clear h
  have HL := Lib.hid hl; clear hl
  go_enter Try.func13, Try.ntmps13
  go_wp2_with fail
  refine (keys_list g lim es w HKa.out).mono ?_
  rintro e w1 ⟨v, rfl, hr, hd⟩
  obtain ⟨al, cl, rfl, _⟩ := hr.len
  have HR := Lib.hid hr; clear hr
  replace HM := Lib.hid (RowS.below HM.out hd)
  have HB := Lib.hid hd; clear hd HKa
  generalize hn : es.length = n at HR HM HL ⊢
  have HN := Lib.hid hn; clear hn
  go_wp2_with fail
  go_loopw [16] (fun i wr => ∃ j : Nat, j ≤ n ∧ i = .int .i64 (j : Int) ∧ Below w1.heap.size w1 wr) (fun i _ => n - (RowKit.intOf i).toNat)
  case atStart => exact ⟨0, Nat.zero_le _, rfl, Below.refl _ _⟩
  case round =>
    obtain ⟨j, hj, rfl, h2⟩ := hrel
    have HD := Lib.hid h2; clear h2
    by_cases hlt : j < n
    · have e3 : wrap64 ((j : Int) + 1) = ((j + 1 : Nat) : Int) := by have := HL.out; unfold wrap64; omega
      obtain ⟨g1, o1, rfl⟩ := row_at HR.out (by have := HN.out; omega)
      obtain ⟨g2, o2, rfl⟩ := row_at HM.out (by have := HN.out; omega)
      have hp : j < es.length := by have := HN.out; omega
      have HC := Lib.hid (And.intro (row3 (RowS.below HR.out HD.out) j hp) (row3 (RowS.below HM.out HD.out) j hp))
      generalize es[j] = x at HC
      clear hp
      have hq1 : ((j : Int) < (n : Int)) = True := eq_true (by omega)
      have hq3 : (j < n) = True := eq_true hlt
      have hq2 : decide ((j : Int) < (n : Int)) = true := decide_eq_true (by omega)
      go_wp2_with fail
      have hS : (wr.drew.cell? ⟨g1, o1 + j * 3, none⟩ = some (.int .u64 x.key) ∧ wr.drew.cell? ⟨g1, o1 + j * 3 + 1, none⟩ = some (.string x.body) ∧ wr.drew.cell? ⟨g1, o1 + j * 3 + 2, none⟩ = some (.int .i64 x.num)) ∧ (wr.drew.cell? ⟨g2, o2 + j * 3, none⟩ = some (.int .u64 x.key) ∧ wr.drew.cell? ⟨g2, o2 + j * 3 + 1, none⟩ = some (.string x.body) ∧ wr.drew.cell? ⟨g2, o2 + j * 3 + 2, none⟩ = some (.int .i64 x.num)) := HC.out
      replace HD := Lib.hid (show Below w1.heap.size w1 wr.drew from below_drew1 HD.out)
      refine start_ (n := 9) (S := fun w' => (w'.cell? ⟨g1, o1 + j * 3, none⟩ = some (.int .u64 x.key) ∧ w'.cell? ⟨g1, o1 + j * 3 + 1, none⟩ = some (.string x.body) ∧ w'.cell? ⟨g1, o1 + j * 3 + 2, none⟩ = some (.int .i64 x.num)) ∧ (w'.cell? ⟨g2, o2 + j * 3, none⟩ = some (.int .u64 x.key) ∧ w'.cell? ⟨g2, o2 + j * 3 + 1, none⟩ = some (.string x.body) ∧ w'.cell? ⟨g2, o2 + j * 3 + 2, none⟩ = some (.int .i64 x.num))) (ds := []) #[false, false, false, false, false, false, false, false, false] (by kernel_rfl) rfl rfl hS (fun hHeld => ?_)
      refine with_tabW rg13_7.tab rg13_7.bits (fun HT_ HW_ => ?_)
      generalize wr.drew = w' at HD hHeld ⊢
      refine pure_ (i := 0) (N := some 19) (v := ?_) (a' := ?_) #[true, false, false, false, false, false, false, false, false] rfl rfl (any_of HT_.out (by kernel_rfl)) (fun _ _ _ h => h) (Or.inl ⟨by rfl, ?_⟩) ?_ ?_
      rotate_left
      · intro w'
        go_simp
        try with_reducible rfl
      rotate_left
      · simp (maxSteps := 4000000) only [Act.put, List.setIfInBounds_toArray, List.set_cons_zero, List.set_cons_succ, i64_w, i32_w]
        try rfl
      refine pure_ (i := 1) (N := some 20) (v := ?_) (a' := ?_) #[true, true, false, false, false, false, false, false, false] rfl rfl (any_of HT_.out (by kernel_rfl)) (fun _ _ _ h => h) (Or.inl ⟨by rfl, ?_⟩) ?_ ?_
      rotate_left
      · intro w'
        go_simp
        try with_reducible rfl
      rotate_left
      · simp (maxSteps := 4000000) only [Act.put, List.setIfInBounds_toArray, List.set_cons_zero, List.set_cons_succ, i64_w, i32_w]
        try rfl
      refine pure_ (i := 2) (N := some 21) (v := ?_) (a' := ?_) #[true, true, true, false, false, false, false, false, false] rfl rfl (any_of HT_.out (by kernel_rfl)) (fun _ _ _ h => h) (Or.inl ⟨by rfl, ?_⟩) ?_ ?_
      rotate_left
      · intro w'
        go_simp
        try with_reducible rfl
      rotate_left
      · simp (maxSteps := 4000000) only [Act.put, List.setIfInBounds_toArray, List.set_cons_zero, List.set_cons_succ, i64_w, i32_w]
        try rfl
      refine pure_ (i := 4) (N := some 23) (v := ?_) (a' := ?_) #[true, true, true, false, true, false, false, false, false] rfl rfl (any_of HT_.out (by kernel_rfl)) (fun _ _ _ h => h) (Or.inl ⟨by rfl, ?_⟩) ?_ ?_
      rotate_left
      · intro w'
        go_simp
        try with_reducible rfl
      rotate_left
      · simp (maxSteps := 4000000) only [Act.put, List.setIfInBounds_toArray, List.set_cons_zero, List.set_cons_succ, i64_w, i32_w]
        try rfl
      refine pure_ (i := 5) (N := some 24) (v := ?_) (a' := ?_) #[true, true, true, false, true, true, false, false, false] rfl rfl (any_of HT_.out (by kernel_rfl)) (fun _ _ _ h => h) (Or.inl ⟨by rfl, ?_⟩) ?_ ?_
      rotate_left
      · intro w'
        go_simp
        try with_reducible rfl
      rotate_left
      · simp (maxSteps := 4000000) only [Act.put, List.setIfInBounds_toArray, List.set_cons_zero, List.set_cons_succ, i64_w, i32_w]
        try rfl
      refine pure_ (i := 6) (N := some 25) (v := ?_) (a' := ?_) #[true, true, true, false, true, true, true, false, false] rfl rfl (any_of HT_.out (by kernel_rfl)) (fun _ _ _ h => h) (Or.inl ⟨by rfl, ?_⟩) ?_ ?_
      rotate_left
      · intro w'
        go_simp
        try with_reducible rfl
      rotate_left
      · simp (maxSteps := 4000000) only [Act.put, List.setIfInBounds_toArray, List.set_cons_zero, List.set_cons_succ, i64_w, i32_w]
        try rfl
      refine take_ (i := 3) (N := some 22) (v := ?_) (a' := ?_) #[true, true, true, true, true, true, true, false, false] rfl rfl (take_ofW HT_.out HW_.out (by kernel_rfl)) (fun _ _ _ h => h) (Or.inl ⟨by rfl, ?_⟩) hHeld ?_ ?_
      rotate_left
      · intro w' hw_
        try dsimp only at hw_
        obtain ⟨⟨x0, x1, x2⟩, _⟩ := hw_
        go_simp
        try with_reducible rfl
      rotate_left
      · simp (maxSteps := 4000000) only [Act.put, List.setIfInBounds_toArray, List.set_cons_zero, List.set_cons_succ, i64_w, i32_w]
        try rfl
      refine take_ (i := 7) (N := some 26) (v := ?_) (a' := ?_) #[true, true, true, true, true, true, true, true, false] rfl rfl (take_ofW HT_.out HW_.out (by kernel_rfl)) (fun _ _ _ h => h) (Or.inl ⟨by rfl, ?_⟩) hHeld ?_ ?_
      rotate_left
      · intro w' hw_
        try dsimp only at hw_
        obtain ⟨_, x0, x1, x2⟩ := hw_
        go_simp
        try with_reducible rfl
      rotate_left
      · simp (maxSteps := 4000000) only [Act.put, List.setIfInBounds_toArray, List.set_cons_zero, List.set_cons_succ, i64_w, i32_w]
        try rfl
      refine pure_ (i := 8) (N := some 27) (v := ?_) (a' := ?_) #[true, true, true, true, true, true, true, true, true] rfl rfl (any_of HT_.out (by kernel_rfl)) (fun _ _ _ h => h) (Or.inl ⟨by rfl, ?_⟩) ?_ ?_
      rotate_left
      · intro w'
        go_simp
        try with_reducible rfl
      rotate_left
      · simp (maxSteps := 4000000) only [Act.put, List.setIfInBounds_toArray, List.set_cons_zero, List.set_cons_succ, i64_w, i32_w]
        try rfl
      refine done_ (done_of HT_.out (by kernel_rfl)) ?_
      go_wp2_with fail
      go_roundw
      case rel => exact ⟨j + 1, hlt, by first | rw [e3] | rfl, HD.out⟩
      case measure => (first | rw [e3] | rw [show ((j : Int) + 1) = ((j + 1 : Nat) : Int) from rfl]); simp only [RowKit.intOf, Int.toNat_natCast]; exact Nat.sub_lt_sub_left hlt (Nat.lt_succ_self j)
    · obtain rfl : j = n := Nat.le_antisymm hj (Nat.le_of_not_lt hlt)
      replace HB := Lib.hid (chain2 HB.out HD.out)
      clear HD hlt hj
      go_wp2
      go_ret
      exact ⟨rfl, HB.out⟩
end Go.Proofs.Ytkadlahhcldjfaa
