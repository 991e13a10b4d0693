/- bbt: With, and strings.Repeat, as the printed functions ask for them. No conditions beyond the form's own reach. -/
import Derived.Test.YtopglieihhgaaaaProg
import Derived.Test.YtopglieihhgaaaaWWords
import Derived.Test.YtopglieihhgaaaaWLast
import Derived.Test.YtopglieihhgaaaaWMore
import Derived.Test.YtopglieihhgaaaaWTab
import Derived.Test.YtopglieihhgaaaaXShelf09
import Derived.WalkKit
import Derived.Lib.Hide
import Derived.Laws.MakeOwn
import Derived.Laws.CopyOwn
import Derived.Lib.BufferOwn
import Derived.Deep.Cut
namespace Go.Proofs.Ytopglieihhgaaaa.P
open Go.RowKit Go.Lib Go.Proofs.Ytopglieihhgaaaa Go.Proofs.YtopglieihhgaaaaW.PrintWords Go.Proofs.YtopglieihhgaaaaW.PrintLast Go.Proofs.YtopglieihhgaaaaW.PrintMore
set_option linter.unusedVariables false
set_option linter.unusedSimpArgs false
def rg8_5.T : Bool × List (List Nat × List Nat) := (true, [([], []), ([0], [0]), ([1], [1]), ([], []), ([3], [3]), ([4], [4]), ([5, 5], [5]), ([2, 6], [2, 6]), ([], []), ([8, 7, 0, 1, 2, 3, 4, 5, 6, 7, 8], [7, 8])])
def rg8_5.B : List Nat := [0, 1, 3, 0, 8, 24, 56, 127, 0, 511]
theorem rg8_5.tab : rtab .any (opsOf Try.f8 5) = rg8_5.T := by kernel_rfl
theorem rg8_5.bits : waitsOk rg8_5.T.2 rg8_5.B = true := by kernel_rfl
def strings_Repeat.f (a0 : ByteArray) (a1 : Int) : Option ByteArray := if (0 ≤ a1 ∧ a1 ≤ 1000000) ∧ a0.size * a1.toNat ≤ 1000000 then some ⟨(Lib.repeatL a0.data.toList a1.toNat).toArray⟩ else none
theorem strings_Repeat.calls (a0 : ByteArray) (a1 : Int) (r : ByteArray) (w : World) (h : strings_Repeat.f a0 a1 = some r) :
    Calls Try.prog 20 #[.string a0, .int .i64 a1] w fun e w' => e = .returned (.string r) ∧ Below w.heap.size w w' := by
  unfold strings_Repeat.f at h
  by_cases hc : (0 ≤ a1 ∧ a1 ≤ 1000000) ∧ a0.size * a1.toNat ≤ 1000000
  · rw [if_pos hc] at h
    obtain rfl := Option.some.inj h
    obtain ⟨n, rfl⟩ := Int.eq_ofNat_of_zero_le hc.1.1
    have := hc.1.2
    exact sh_strings_Repeat a0 n w (by omega) (by have := hc.2; rw [Int.toNat_natCast] at this; omega)
  · rw [if_neg hc] at h
    cases h
def bbt_Table_With.f (a0_0 : Int) (l0_1 : List Bool) (a1 : Int) : Option (Int × List Bool × Int) :=
  if 0 ≤ a1 ∧ a1 < (l0_1.length : Int) then (if a0_0 = 18446744073709551615 then some (0, [], 7) else if l0_1.length ≤ 1000 then some (IntKind.u64.wrap (a0_0 + 1), l0_1.set a1.toNat true, 0) else none) else some (0, [], 3)
theorem boolW_info : (Try.prog.info? 4).map (fun i => (i.size, i.bytes, i.zero)) = some (1, 1, some (.bool false)) := by kernel_rfl
def falses (n : Nat) : Array Value := (List.replicate n (Value.bool false)).toArray
theorem made_falses (n : Nat) : madeCells (Value.bool false).cells (n * 1) = falses n := by
  unfold falses
  apply Array.ext
  · rw [size_madeCells, List.size_toArray, List.length_replicate, Nat.mul_one]
  · intro i h1 h2
    have h3 : (madeCells (Value.bool false).cells (n * 1))[i]? = some (.bool false) := by
      unfold madeCells
      have hi : i < n * 1 := by simpa using h2
      rw [Array.getElem?_map, Array.getElem?_range, if_pos hi, Option.map_some]
      have key : (#[Value.bool false] : Array Value)[i % 1]! = .bool false := by rw [Nat.mod_one]; rfl
      exact congrArg some key
    rw [Array.getElem?_eq_getElem h1] at h3
    rw [Option.some.inj h3]
    simp
theorem make_falses (w : World) (n : Nat) (hn : n ≤ 100000) : (Instr.makeSlice 24 (.int .i64 (n : Int)) (.int .i64 (n : Int))).run Try.prog w = .ok (.slice (some ⟨w.heap.size, 0, none⟩) n n) (w.alloc (.cells (falses n) 4)) := by
  obtain ⟨i, hi, h0⟩ := Option.map_eq_some_iff.mp boolW_info
  simp only [Prod.mk.injEq] at h0
  obtain ⟨h1, h2, h3⟩ := h0
  have h := run_make (P := Try.prog) w 24 4 i (.bool false) Try.underlying24 hi h3 .i64 .i64 n n (by omega) (by omega) (by rw [h2]; omega) (by omega)
  rw [h1, Int.toNat_natCast, made_falses] at h
  exact h
theorem is_ok (v : Int) (A : Option Addr) (n c : Nat) (a : Int) (w : World) :
    Calls Try.prog 17 #[.agg #[.int .u64 v, .slice A n c], .int .i64 a] w fun e w' => e = .returned (.bool (decide (0 ≤ a ∧ a < (n : Int)))) ∧ Below w.heap.size w w' := by
  have hd := below_alloc (Below.refl w.heap.size w) (.cells #[.int .u64 v, .slice A n c] 26)
  by_cases h0 : 0 ≤ a
  · by_cases h1 : a < (n : Int)
    · have e1 : decide (0 ≤ a ∧ a < (n : Int)) = true := decide_eq_true ⟨h0, h1⟩
      have c1 : decide (0 ≤ a) = true := decide_eq_true h0
      have c2 : decide (a < (n : Int)) = true := decide_eq_true h1
      rw [e1]
      go_enter Try.func17, Try.ntmps17
      go_wp2_with fail
      go_ret
      exact ⟨rfl, hd⟩
    · have e1 : decide (0 ≤ a ∧ a < (n : Int)) = false := decide_eq_false (fun h => h1 h.2)
      have c1 : decide (0 ≤ a) = true := decide_eq_true h0
      have c2 : decide (a < (n : Int)) = false := decide_eq_false h1
      rw [e1]
      go_enter Try.func17, Try.ntmps17
      go_wp2_with fail
      go_ret
      exact ⟨rfl, hd⟩
  · have e1 : decide (0 ≤ a ∧ a < (n : Int)) = false := decide_eq_false (fun h => h0 h.1)
    have c1 : decide (0 ≤ a) = false := decide_eq_false h0
    rw [e1]
    go_enter Try.func17, Try.ntmps17
    go_wp2_with fail
    go_ret
    exact ⟨rfl, hd⟩
theorem b_nil (w : World) (B : Nat) : Kd.R Kd.bool 4 w B (fun _ => True) (.slice none 0 0) [] := Kd.R_nil _ _ _ _ _
theorem b_row {w : World} {g B n : Nat} {xs : List Bool} (h : w.heap[g]? = some (.cells (xs.map Value.bool).toArray 4 (0, 0))) (hB : B ≤ g) (hn : xs.length = n) (hm : n ≤ maxLen) : Kd.R Kd.bool 4 w B (fun _ => True) (.slice (some ⟨g, 0, none⟩) n n) xs := by
  subst hn
  refine ⟨fun _ _ => trivial, xs.map Value.bool, ⟨?_, .inr ⟨g, xs.length, _, rfl, hB, h, Nat.le_refl _, hm, ?_, ?_⟩⟩, ?_⟩
  · rw [List.length_map]; exact (Nat.mul_one _).symm
  · rw [List.size_toArray, List.length_map]; exact (Nat.mul_one _).symm
  · show (List.map Value.bool xs).take (xs.length * 1) = _
    rw [List.take_of_length_le (by rw [List.length_map]; omega)]
  · refine ⟨by rw [List.length_map]; exact (Nat.mul_one _).symm, fun j p hj => ?_⟩
    show List.take 1 (List.drop (j * 1) (List.map Value.bool xs)) = [Value.bool p]
    have hj2 : j < xs.length := (List.getElem?_eq_some_iff.1 hj).1
    have hj3 : xs[j] = p := (List.getElem?_eq_some_iff.1 hj).2
    rw [Nat.mul_one, List.drop_eq_getElem_cons (by rw [List.length_map]; exact hj2), List.take_succ_cons, List.take_zero, List.getElem_map, hj3]
theorem tb_cells {w : World} {b T : Nat} {u v : Value} (h : w.heap[b]? = some (.cells #[u, v] T (0, 0))) : w.cell? ⟨b, 0, none⟩ = some u ∧ w.cell? ⟨b, 1, none⟩ = some v := by
  unfold World.cell?
  rw [h]
  exact ⟨rfl, rfl⟩
theorem tb_frozen {w : World} {b : Nat} {cs : Array Value} {T : TypeId} (h : w.heap[b]? = some (.cells cs T (0, 0))) (i : Nat) : w.frozen? ⟨b, i, none⟩ = false := by unfold World.frozen?; rw [h]; simp
theorem tb_size : (Try.prog.info? 26).map (·.size) = some 2 := by kernel_rfl
theorem set_map (xs : List Bool) (i : Nat) : ((xs.map Value.bool).toArray).setIfInBounds i (.bool true) = ((xs.set i true).map Value.bool).toArray := by
  rw [List.setIfInBounds_toArray, List.map_set]
theorem copy_bools (w : World) (g : Nat) (A : Option Addr) (c : Nat) (xs : List Bool) (hx : Kd.C Kd.bool w A xs.length xs) (h0 : 0 < xs.length) (hg : w.heap[g]? = some (.cells (falses xs.length) 4 (0, 0))) :
    (Builtin.copy_ #[24, 24] 3 #[.slice (some ⟨g, 0, none⟩) xs.length xs.length, .slice A xs.length c]).run Try.prog w = .ok (.int .i64 (xs.length : Int)) (w.setRow g (xs.map Value.bool).toArray) := by
  obtain ⟨ad, rfl, hc⟩ := hx.2.2 h0
  have h := run_copy_row (P := Try.prog) w 24 24 3 4 g 0 xs.length xs.length ad xs.length c (falses xs.length) 4 (xs.map Value.bool) Try.underlying24 (by kernel_rfl) hg (by rw [List.length_map]; exact (Nat.min_self _).symm) (fun j v hj => ?_) (by unfold falses; rw [List.length_map, List.size_toArray, List.length_replicate]; omega) (fun v hv => ?_)
  · have e1 : (falses xs.length).toList.take 0 ++ xs.map Value.bool ++ (falses xs.length).toList.drop (0 + (xs.map Value.bool).length) = xs.map Value.bool := by
      rw [List.take_zero, List.nil_append, List.drop_of_length_le (by unfold falses; rw [List.length_map, List.length_replicate]; omega), List.append_nil]
    rw [e1, List.length_map] at h
    exact h
  · rw [List.getElem?_map] at hj
    obtain ⟨q, hq, rfl⟩ := Option.map_eq_some_iff.1 hj
    obtain ⟨cs, hcs, hk, hcc⟩ := hc j q hq
    have hk2 : cs = [Value.bool q] := hk
    subst hk2
    have := hcc 0 _ rfl
    have e1 : j * (Kd.bool).sz + 0 = j := by show j * 1 + 0 = j; omega
    rwa [e1] at this
  · obtain ⟨q, _, rfl⟩ := List.mem_map.1 hv
    rfl
set_option maxHeartbeats 16000000 in
set_option maxRecDepth 20000 in
theorem bbt_Table_With.calls (a0_0 : Int) (A0_1 : Option Addr) (c0_1 : Nat) (l0_1 : List Bool) (a1 : Int) (r1 : Int) (r2 : List Bool) (r3 : Int) (w : World) (hr0_1 : Kd.C Kd.bool w A0_1 l0_1.length l0_1) (hc0_1 : l0_1.length ≤ c0_1) (h : bbt_Table_With.f a0_0 l0_1 a1 = some (r1, r2, r3)) :
    Calls Try.prog 8 #[.agg #[.int .u64 a0_0, .slice A0_1 l0_1.length c0_1], .int .i64 a1] w fun e w' => ∃ v1_ : Value, e = .returned (.tuple #[.agg #[.int .u64 r1, v1_], .int .i64 r3]) ∧ Kd.R Kd.bool 4 w' w.heap.size (fun _ => True) v1_ r2 ∧ Below w.heap.size w w' := by
  unfold bbt_Table_With.f at h
  have HH := Lib.hid h; clear h
  have HR0 := Lib.hid hr0_1
  have HR := Lib.hid hr0_1; clear hr0_1
  have HC := Lib.hid hc0_1; clear hc0_1
  have HX := Lib.hid (blk_alloc (heap_alloc_new w (.cells #[.int .u64 a0_0, .slice A0_1 l0_1.length c0_1] 26)) (.cells #[.int .u64 0, .slice none 0 0] 26))
  have HZ := Lib.hid (heap_alloc_new (w.alloc (.cells #[.int .u64 a0_0, .slice A0_1 l0_1.length c0_1] 26)) (.cells #[.int .u64 0, .slice none 0 0] 26))
  have hd := below_alloc (below_alloc (Below.refl w.heap.size w) (.cells #[.int .u64 a0_0, .slice A0_1 l0_1.length c0_1] 26)) (.cells #[.int .u64 0, .slice none 0 0] 26)
  have HB := Lib.hid hd
  replace HR := Lib.hid (Kd.C_below HR.out hd); clear hd
  rw [show (w.alloc (.cells #[.int .u64 a0_0, .slice A0_1 l0_1.length c0_1] 26)).heap.size = w.heap.size + 1 by simp] at HZ
  go_enter Try.func8, Try.ntmps8
  go_wp2_with fail
  generalize (w.alloc (.cells #[.int .u64 a0_0, .slice A0_1 l0_1.length c0_1] 26)).alloc (.cells #[.int .u64 0, .slice none 0 0] 26) = w1 at HX HZ HB HR ⊢
  obtain ⟨b2, hb2⟩ : ∃ b2, b2 = w.heap.size := ⟨_, rfl⟩
  obtain ⟨b4, hb4⟩ : ∃ b4, b4 = b2 + 1 := ⟨_, rfl⟩
  rw [← hb2, ← hb4] at HZ
  rw [← hb2] at HX ⊢
  rw [← hb4]
  have HBB := Lib.hid (show w.heap.size ≤ b2 ∧ w.heap.size ≤ b4 ∧ b2 ≠ b4 by omega)
  clear hb2 hb4
  refine (is_ok a0_0 A0_1 l0_1.length c0_1 a1 w1).mono ?_
  rintro e w2 ⟨rfl, hd⟩
  replace HX := Lib.hid (blk_below HX.out hd)
  replace HZ := Lib.hid (blk_below HZ.out hd)
  replace HR := Lib.hid (Kd.C_below HR.out hd)
  replace HB := Lib.hid (below_then HB.out HB.out.size hd); clear hd
  have hh := HH.out
  obtain ⟨x0, x1⟩ := tb_cells HX.out
  obtain ⟨z0, z1⟩ := tb_cells HZ.out
  have f4 := fun i => tb_frozen HZ.out i
  by_cases hin : 0 ≤ a1 ∧ a1 < (l0_1.length : Int)
  · rw [if_pos hin] at hh
    rw [decide_eq_true hin]
    by_cases hv : a0_0 = 18446744073709551615
    · rw [if_pos hv] at hh
      simp only [Option.some.injEq, Prod.mk.injEq] at hh
      obtain ⟨rfl, rfl, rfl⟩ := hh
      subst hv
      clear hin HH
      go_wp2_with fail
      have hx := heap_setCell_same _ b4 1 _ _ (.slice none 0 0) (heap_setCell_same _ b4 0 _ _ (.int .u64 0) HZ.out)
      refine bodyPost_ret (results_ct rfl _ _ b4 26 _ (0, 0) _ rfl hx Try.underlying26 rfl tb_size) rfl ?_
      exact ⟨_, rfl, b_nil _ _, (HB.out.setCell (p := ⟨b4, 0, none⟩) HBB.out.2.1 _).setCell (p := ⟨b4, 1, none⟩) HBB.out.2.1 _⟩
    · rw [if_neg hv] at hh
      by_cases hl : l0_1.length ≤ 1000
      · rw [if_pos hl] at hh
        simp only [Option.some.injEq, Prod.mk.injEq] at hh
        obtain ⟨rfl, rfl, rfl⟩ := hh
        have v1 : (a0_0 == 18446744073709551615) = false := by simp [hv]
        have v2 : (a0_0 = 18446744073709551615) = False := eq_false hv
        obtain ⟨q, hq⟩ := Int.eq_ofNat_of_zero_le hin.1
        subst hq
        have HQ := Lib.hid (show q < l0_1.length ∧ l0_1.length ≤ 1000 from ⟨by omega, hl⟩)
        clear hin hl hv HH
        go_wp2_with fail
        clear v1 v2
        obtain ⟨vn, hvn⟩ : ∃ vn, vn = IntKind.u64.wrap (a0_0 + 1) := ⟨_, rfl⟩
        have HVn := Lib.hid hvn.symm; clear hvn
        go_cut [6] from 7 (fun s6 wx => ∃ b6 gm, s6 = .pointer (some ⟨b6, 0, none⟩) ∧ wx.heap[b6]? = some (.cells #[.int .u64 vn, .slice (some ⟨gm, 0, none⟩) l0_1.length l0_1.length] 26 (0, 0)) ∧ wx.heap[gm]? = some (.cells (falses l0_1.length) 4 (0, 0)) ∧ b6 ≠ gm ∧ w.heap.size ≤ gm ∧ w.heap.size ≤ b6 ∧ b4 ≠ gm ∧ b4 ≠ b6 ∧ wx.heap[b2]? = some (.cells #[.int .u64 a0_0, .slice A0_1 l0_1.length c0_1] 26 (0, 0)) ∧ wx.heap[b4]? = some (.cells #[.int .u64 0, .slice none 0 0] 26 (0, 0)) ∧ Kd.C Kd.bool wx A0_1 l0_1.length l0_1 ∧ b2 ≠ gm ∧ Below w.heap.size w wx)
        case first =>
          have hS : w2.drew.heap[b2]? = some (.cells #[.int .u64 a0_0, .slice A0_1 l0_1.length c0_1] 26 (0, 0)) := HX.out
          replace HX := Lib.hid (show w2.drew.heap[b2]? = some (.cells #[.int .u64 a0_0, .slice A0_1 l0_1.length c0_1] 26 (0, 0)) from HX.out)
          replace HZ := Lib.hid (show w2.drew.heap[b4]? = some (.cells #[.int .u64 0, .slice none 0 0] 26 (0, 0)) from HZ.out)
          replace HR := Lib.hid (show Kd.C Kd.bool w2.drew A0_1 l0_1.length l0_1 from HR.out)
          replace HB := Lib.hid (show Below w.heap.size w w2.drew from below_drew1 HB.out)
          have hvw := HVn.out
          have HMk := Lib.hid (fun w => make_falses w l0_1.length (by have := HQ.out; omega))
          refine start_ (n := 10) (S := fun w' => w'.heap[b2]? = some (.cells #[.int .u64 a0_0, .slice A0_1 l0_1.length c0_1] 26 (0, 0))) (ds := [9]) #[false, false, false, false, false, false, false, false, false, false] (by kernel_rfl) rfl rfl hS (fun hHeld => ?_)
          refine with_tabW rg8_5.tab rg8_5.bits (fun HT_ HW_ => ?_)
          generalize w2.drew = w' at HX HZ HR HB hHeld ⊢
          refine pure_ (i := 0) (N := some 18) (v := ?_) (a' := ?_) #[true, false, false, false, false, false, false, false, false, false] rfl rfl (any_of HT_.out (by kernel_rfl)) (fun _ _ _ h => h) (Or.inl ⟨by rfl, ?_⟩) ?_ ?_
          rotate_left
          · intro w'
            go_simp
            try with_reducible rfl
          rotate_left
          · simp (maxSteps := 4000000) only [Act.put, List.setIfInBounds_toArray, List.set_cons_zero, List.set_cons_succ, i64_w, i32_w]
            try rfl
          refine pure_ (i := 3) (N := some 21) (v := ?_) (a' := ?_) #[true, false, false, true, false, false, false, false, false, false] rfl rfl (any_of HT_.out (by kernel_rfl)) (fun _ _ _ h => h) (Or.inl ⟨by rfl, ?_⟩) ?_ ?_
          rotate_left
          · intro w'
            go_simp
            try with_reducible rfl
          rotate_left
          · simp (maxSteps := 4000000) only [Act.put, List.setIfInBounds_toArray, List.set_cons_zero, List.set_cons_succ, i64_w, i32_w]
            try rfl
          refine take_ (i := 1) (N := some 19) (v := ?_) (a' := ?_) #[true, true, false, true, false, false, false, false, false, false] rfl rfl (take_ofW HT_.out HW_.out (by kernel_rfl)) (fun _ _ _ h => h) (Or.inl ⟨by rfl, ?_⟩) hHeld ?_ ?_
          rotate_left
          · intro w' hw_
            try dsimp only at hw_
            obtain ⟨x0, x1⟩ := tb_cells hw_
            go_simp
            try with_reducible rfl
          rotate_left
          · simp (maxSteps := 4000000) only [Act.put, List.setIfInBounds_toArray, List.set_cons_zero, List.set_cons_succ, i64_w, i32_w]
            try rfl
          refine pure_ (i := 2) (N := some 20) (v := ?_) (a' := ?_) #[true, true, true, true, false, false, false, false, false, false] rfl rfl (any_of HT_.out (by kernel_rfl)) (fun _ _ _ h => h) (Or.inl ⟨by rfl, ?_⟩) ?_ ?_
          rotate_left
          · intro w'
            go_simp
            try with_reducible rfl
          rotate_left
          · simp (maxSteps := 4000000) only [Act.put, List.setIfInBounds_toArray, List.set_cons_zero, List.set_cons_succ, i64_w, i32_w]
            try rfl
          refine take_ (i := 4) (N := some 22) (v := ?_) (a' := ?_) #[true, true, true, true, true, false, false, false, false, false] rfl rfl (take_ofW HT_.out HW_.out (by kernel_rfl)) (fun _ _ _ h => h) (Or.inl ⟨by rfl, ?_⟩) hHeld ?_ ?_
          rotate_left
          · intro w' hw_
            try dsimp only at hw_
            obtain ⟨x0, x1⟩ := tb_cells hw_
            go_simp
            try with_reducible rfl
          rotate_left
          · simp (maxSteps := 4000000) only [Act.put, List.setIfInBounds_toArray, List.set_cons_zero, List.set_cons_succ, i64_w, i32_w]
            try rfl
          refine pure_ (i := 5) (N := some 23) (v := ?_) (a' := ?_) #[true, true, true, true, true, true, false, false, false, false] rfl rfl (any_of HT_.out (by kernel_rfl)) (fun _ _ _ h => h) (Or.inl ⟨by rfl, ?_⟩) ?_ ?_
          rotate_left
          · intro w'
            go_simp
            try with_reducible rfl
          rotate_left
          · simp (maxSteps := 4000000) only [Act.put, List.setIfInBounds_toArray, List.set_cons_zero, List.set_cons_succ, i64_w, i32_w]
            try rfl
          refine two_ (i := 6) (j := 8) (Ni := some 24) (Nj := some 6) #[true, true, true, true, true, true, true, false, false, false] #[true, true, true, true, true, true, false, false, true, false] rfl rfl rfl rfl  (two_of HT_.out (by kernel_rfl)) (by decide) (by decide)  (fun K hK => ?_) (fun K hK => ?_) 
          · refine value_ (v := (.slice (some ⟨w'.heap.size, 0, none⟩) l0_1.length l0_1.length)) (w1 := w'.alloc (.cells (falses l0_1.length) 4)) (by rfl) rfl ?_ ?_
            · (have hm := HMk.out w'; go_simp)
            have HM := Lib.hid (heap_alloc_new w' (.cells (falses l0_1.length) 4))
            have hd := below_alloc (Below.refl w'.heap.size w') (.cells (falses l0_1.length) 4)
            have HGm := Lib.hid HB.out.size
            have HNm := Lib.hid (And.intro (Nat.ne_of_lt (blk_lt HX.out)) (Nat.ne_of_lt (blk_lt HZ.out)))
            (try have HNe := Lib.hid (Nat.ne_of_lt (blk_lt HT.out)))
            (try replace HT := Lib.hid (blk_below HT.out hd))
            replace HX := Lib.hid (blk_below HX.out hd)
            replace HZ := Lib.hid (blk_below HZ.out hd)
            replace HR := Lib.hid (Kd.C_below HR.out hd)
            replace HB := Lib.hid (below_then HB.out HB.out.size hd)
            have hSS := blk_below hHeld hd
            clear hd
            (first | generalize w'.heap.size = gm at HM HGm HNm HNe ⊢ | generalize w'.heap.size = gm at HM HGm HNm ⊢)
            (first | generalize w'.alloc (.cells (falses l0_1.length) 4) = w' at HM HT HX HZ HR HB hSS ⊢ | generalize w'.alloc (.cells (falses l0_1.length) 4) = w' at HM HX HZ HR HB hSS ⊢)
            refine hK.out _ _ (hSS) (fun hHeld => ?_)
            clear hK K
            refine norm_ (a' := ?_) ?_ ?_
            rotate_left
            · show Act.put _ (some 24) _ = _
              simp (maxSteps := 4000000) only [Act.put, List.setIfInBounds_toArray, List.set_cons_zero, List.set_cons_succ, i64_w, i32_w]
              try rfl
            refine pure_ (i := 7) (N := some 25) (v := ?_) (a' := ?_) #[true, true, true, true, true, true, true, true, false, false] rfl rfl (any_of HT_.out (by kernel_rfl)) (fun _ _ _ h => h) (Or.inl ⟨by rfl, ?_⟩) ?_ ?_
            rotate_left
            · intro w'
              go_simp
              try with_reducible rfl
            rotate_left
            · simp (maxSteps := 4000000) only [Act.put, List.setIfInBounds_toArray, List.set_cons_zero, List.set_cons_succ, i64_w, i32_w]
              try rfl
            refine one_ (i := 8) (N := some 6) #[true, true, true, true, true, true, true, true, true, false] rfl rfl (one_of HT_.out (by kernel_rfl)) (by decide) (fun K hK => ?_)
            refine value_ (v := (.pointer (some ⟨w'.heap.size, 0, none⟩))) (w1 := w'.alloc (.cells #[.int .u64 0, .slice none 0 0] 26)) (by rfl) rfl ?_ ?_
            · (go_simp)
            have HT := Lib.hid (heap_alloc_new w' (.cells #[.int .u64 0, .slice none 0 0] 26))
            have hd := below_alloc (Below.refl w'.heap.size w') (.cells #[.int .u64 0, .slice none 0 0] 26)
            have HGt := Lib.hid HB.out.size
            have HNt := Lib.hid (And.intro (Nat.ne_of_lt (blk_lt HX.out)) (Nat.ne_of_lt (blk_lt HZ.out)))
            (try have HNe := Lib.hid (Nat.ne_of_lt (blk_lt HM.out)))
            (try replace HM := Lib.hid (blk_below HM.out hd))
            replace HX := Lib.hid (blk_below HX.out hd)
            replace HZ := Lib.hid (blk_below HZ.out hd)
            replace HR := Lib.hid (Kd.C_below HR.out hd)
            replace HB := Lib.hid (below_then HB.out HB.out.size hd)
            have hSS := blk_below hHeld hd
            clear hd
            (first | generalize w'.heap.size = b6 at HT HGt HNt HNe ⊢ | generalize w'.heap.size = b6 at HT HGt HNt ⊢)
            (first | generalize w'.alloc (.cells #[.int .u64 0, .slice none 0 0] 26) = w' at HM HT HX HZ HR HB hSS ⊢ | generalize w'.alloc (.cells #[.int .u64 0, .slice none 0 0] 26) = w' at HT HX HZ HR HB hSS ⊢)
            refine hK.out _ _ (hSS) (fun hHeld => ?_)
            clear hK K
            refine norm_ (a' := ?_) ?_ ?_
            rotate_left
            · show Act.put _ (some 6) _ = _
              simp (maxSteps := 4000000) only [Act.put, List.setIfInBounds_toArray, List.set_cons_zero, List.set_cons_succ, i64_w, i32_w]
              try rfl
            refine last_ (i := 9) (N := none) #[true, true, true, true, true, true, true, true, true, true] rfl rfl (one_of HT_.out (by kernel_rfl)) (by decide) (fun K hK => ?_)
            refine skip_ (w1 := (w'.setCell ⟨b6, 0, none⟩ (.int .u64 vn)).setCell ⟨b6, 1, none⟩ (.slice (some ⟨gm, 0, none⟩) l0_1.length l0_1.length)) (by rfl) rfl ?_ ?_
            · (obtain ⟨y0, y1⟩ := tb_cells HT.out; have f0 := fun i => tb_frozen HT.out i; go_simp)
            refine hK.out _ _ ?_
            clear hK K
            refine done_ (done_of HT_.out (by kernel_rfl)) ?_
            go_wp2_with fail
            go_meet
            have hne : b6 ≠ gm := by first | exact HNe.out | exact HNe.out.symm
            case rel => exact ⟨b6, gm, rfl, heap_setCell_same _ b6 1 _ _ _ (heap_setCell_same _ b6 0 _ _ _ HT.out), by rw [heap_setCell_other _ _ gm _ hne.symm, heap_setCell_other _ _ gm _ hne.symm]; exact HM.out, hne, HGm.out, HGt.out, HNm.out.2, HNt.out.2, by rw [heap_setCell_other _ _ b2 _ HNt.out.1, heap_setCell_other _ _ b2 _ HNt.out.1]; exact HX.out, by rw [heap_setCell_other _ _ b4 _ HNt.out.2, heap_setCell_other _ _ b4 _ HNt.out.2]; exact HZ.out, Kd.C_below HR0.out ((HB.out.setCell (p := ⟨b6, 0, none⟩) HGt.out _).setCell (p := ⟨b6, 1, none⟩) HGt.out _), HNm.out.1, (HB.out.setCell (p := ⟨b6, 0, none⟩) HGt.out _).setCell (p := ⟨b6, 1, none⟩) HGt.out _⟩
          · refine value_ (v := (.pointer (some ⟨w'.heap.size, 0, none⟩))) (w1 := w'.alloc (.cells #[.int .u64 0, .slice none 0 0] 26)) (by rfl) rfl ?_ ?_
            · (go_simp)
            have HT := Lib.hid (heap_alloc_new w' (.cells #[.int .u64 0, .slice none 0 0] 26))
            have hd := below_alloc (Below.refl w'.heap.size w') (.cells #[.int .u64 0, .slice none 0 0] 26)
            have HGt := Lib.hid HB.out.size
            have HNt := Lib.hid (And.intro (Nat.ne_of_lt (blk_lt HX.out)) (Nat.ne_of_lt (blk_lt HZ.out)))
            (try have HNe := Lib.hid (Nat.ne_of_lt (blk_lt HM.out)))
            (try replace HM := Lib.hid (blk_below HM.out hd))
            replace HX := Lib.hid (blk_below HX.out hd)
            replace HZ := Lib.hid (blk_below HZ.out hd)
            replace HR := Lib.hid (Kd.C_below HR.out hd)
            replace HB := Lib.hid (below_then HB.out HB.out.size hd)
            have hSS := blk_below hHeld hd
            clear hd
            (first | generalize w'.heap.size = b6 at HT HGt HNt HNe ⊢ | generalize w'.heap.size = b6 at HT HGt HNt ⊢)
            (first | generalize w'.alloc (.cells #[.int .u64 0, .slice none 0 0] 26) = w' at HM HT HX HZ HR HB hSS ⊢ | generalize w'.alloc (.cells #[.int .u64 0, .slice none 0 0] 26) = w' at HT HX HZ HR HB hSS ⊢)
            refine hK.out _ _ (hSS) (fun hHeld => ?_)
            clear hK K
            refine norm_ (a' := ?_) ?_ ?_
            rotate_left
            · show Act.put _ (some 6) _ = _
              simp (maxSteps := 4000000) only [Act.put, List.setIfInBounds_toArray, List.set_cons_zero, List.set_cons_succ, i64_w, i32_w]
              try rfl
            refine one_ (i := 6) (N := some 24) #[true, true, true, true, true, true, true, false, true, false] rfl rfl (one_of HT_.out (by kernel_rfl)) (by decide) (fun K hK => ?_)
            refine value_ (v := (.slice (some ⟨w'.heap.size, 0, none⟩) l0_1.length l0_1.length)) (w1 := w'.alloc (.cells (falses l0_1.length) 4)) (by rfl) rfl ?_ ?_
            · (have hm := HMk.out w'; go_simp)
            have HM := Lib.hid (heap_alloc_new w' (.cells (falses l0_1.length) 4))
            have hd := below_alloc (Below.refl w'.heap.size w') (.cells (falses l0_1.length) 4)
            have HGm := Lib.hid HB.out.size
            have HNm := Lib.hid (And.intro (Nat.ne_of_lt (blk_lt HX.out)) (Nat.ne_of_lt (blk_lt HZ.out)))
            (try have HNe := Lib.hid (Nat.ne_of_lt (blk_lt HT.out)))
            (try replace HT := Lib.hid (blk_below HT.out hd))
            replace HX := Lib.hid (blk_below HX.out hd)
            replace HZ := Lib.hid (blk_below HZ.out hd)
            replace HR := Lib.hid (Kd.C_below HR.out hd)
            replace HB := Lib.hid (below_then HB.out HB.out.size hd)
            have hSS := blk_below hHeld hd
            clear hd
            (first | generalize w'.heap.size = gm at HM HGm HNm HNe ⊢ | generalize w'.heap.size = gm at HM HGm HNm ⊢)
            (first | generalize w'.alloc (.cells (falses l0_1.length) 4) = w' at HM HT HX HZ HR HB hSS ⊢ | generalize w'.alloc (.cells (falses l0_1.length) 4) = w' at HM HX HZ HR HB hSS ⊢)
            refine hK.out _ _ (hSS) (fun hHeld => ?_)
            clear hK K
            refine norm_ (a' := ?_) ?_ ?_
            rotate_left
            · show Act.put _ (some 24) _ = _
              simp (maxSteps := 4000000) only [Act.put, List.setIfInBounds_toArray, List.set_cons_zero, List.set_cons_succ, i64_w, i32_w]
              try rfl
            refine pure_ (i := 7) (N := some 25) (v := ?_) (a' := ?_) #[true, true, true, true, true, true, true, true, true, false] rfl rfl (any_of HT_.out (by kernel_rfl)) (fun _ _ _ h => h) (Or.inl ⟨by rfl, ?_⟩) ?_ ?_
            rotate_left
            · intro w'
              go_simp
              try with_reducible rfl
            rotate_left
            · simp (maxSteps := 4000000) only [Act.put, List.setIfInBounds_toArray, List.set_cons_zero, List.set_cons_succ, i64_w, i32_w]
              try rfl
            refine last_ (i := 9) (N := none) #[true, true, true, true, true, true, true, true, true, true] rfl rfl (one_of HT_.out (by kernel_rfl)) (by decide) (fun K hK => ?_)
            refine skip_ (w1 := (w'.setCell ⟨b6, 0, none⟩ (.int .u64 vn)).setCell ⟨b6, 1, none⟩ (.slice (some ⟨gm, 0, none⟩) l0_1.length l0_1.length)) (by rfl) rfl ?_ ?_
            · (obtain ⟨y0, y1⟩ := tb_cells HT.out; have f0 := fun i => tb_frozen HT.out i; go_simp)
            refine hK.out _ _ ?_
            clear hK K
            refine done_ (done_of HT_.out (by kernel_rfl)) ?_
            go_wp2_with fail
            go_meet
            have hne : b6 ≠ gm := by first | exact HNe.out | exact HNe.out.symm
            case rel => exact ⟨b6, gm, rfl, heap_setCell_same _ b6 1 _ _ _ (heap_setCell_same _ b6 0 _ _ _ HT.out), by rw [heap_setCell_other _ _ gm _ hne.symm, heap_setCell_other _ _ gm _ hne.symm]; exact HM.out, hne, HGm.out, HGt.out, HNm.out.2, HNt.out.2, by rw [heap_setCell_other _ _ b2 _ HNt.out.1, heap_setCell_other _ _ b2 _ HNt.out.1]; exact HX.out, by rw [heap_setCell_other _ _ b4 _ HNt.out.2, heap_setCell_other _ _ b4 _ HNt.out.2]; exact HZ.out, Kd.C_below HR0.out ((HB.out.setCell (p := ⟨b6, 0, none⟩) HGt.out _).setCell (p := ⟨b6, 1, none⟩) HGt.out _), HNm.out.1, (HB.out.setCell (p := ⟨b6, 0, none⟩) HGt.out _).setCell (p := ⟨b6, 1, none⟩) HGt.out _⟩
        case rest =>
          obtain ⟨b6, gm, rfl, h6, hgm, hn6, hg1, hg6, hn4, hn46, hx2, hx4, hrr, hn2, hb⟩ := hcut
          clear HX HZ HR HB x0 x1 z0 z1 f4
          obtain ⟨y0, y1⟩ := tb_cells h6
          obtain ⟨x0, x1⟩ := tb_cells hx2
          have hRun := copy_bools wc gm A0_1 c0_1 l0_1 hrr (by have := HQ.out; omega) hgm
          obtain ⟨wr, hwr⟩ : ∃ wr, wr = wc.setRow gm (l0_1.map Value.bool).toArray := ⟨_, rfl⟩
          rw [← hwr] at hRun
          have r6 : wr.heap[b6]? = some (.cells #[.int .u64 vn, .slice (some ⟨gm, 0, none⟩) l0_1.length l0_1.length] 26 (0, 0)) := by rw [hwr, setRow_other _ _ _ _ hn6]; exact h6
          have r4 : wr.heap[b4]? = some (.cells #[.int .u64 0, .slice none 0 0] 26 (0, 0)) := by rw [hwr, setRow_other _ _ _ _ hn4]; exact hx4
          have rg : wr.heap[gm]? = some (.cells (l0_1.map Value.bool).toArray 4 (0, 0)) := by rw [hwr]; exact setRow_heap _ _ _ _ _ _ hgm
          have rb : Below w.heap.size w wr := by rw [hwr]; exact below_setRow hb hg1 _
          clear hwr hgm hrr hx4
          obtain ⟨p0, p1⟩ := tb_cells r6
          have rf := fun i => tb_frozen rg i
          have rc : wr.cell? ⟨gm, q, none⟩ = some (.bool (l0_1[q]'HQ.out.1)) := by
            unfold World.cell?
            rw [rg]
            simp [HQ.out.1]
          have HS := Lib.hid (heap_setCell_same _ gm q _ _ (.bool true) rg)
          have rs4 : (wr.setCell ⟨gm, q, none⟩ (.bool true)).heap[b4]? = some (.cells #[.int .u64 0, .slice none 0 0] 26 (0, 0)) := by rw [heap_setCell_other _ _ b4 _ hn4]; exact r4
          have hbs := rb.setCell (p := ⟨gm, q, none⟩) hg1 (.bool true)
          obtain ⟨z0, z1⟩ := tb_cells rs4
          have f4 := fun i => tb_frozen rs4 i
          have hq1 : (q : Int) < (l0_1.length : Int) := by have := HQ.out.1; omega
          have hq2 : q < l0_1.length := HQ.out.1
          go_wp2_with (fail)
          have hx := heap_setCell_same _ b4 1 _ _ (.slice (some ⟨gm, 0, none⟩) l0_1.length l0_1.length) (heap_setCell_same _ b4 0 _ _ (.int .u64 vn) rs4)
          refine bodyPost_ret (results_ct rfl _ _ b4 26 _ (0, 0) _ rfl hx Try.underlying26 rfl tb_size) rfl ?_
          rw [HVn.out]
          have hs := HS.out
          rw [set_map] at hs
          refine ⟨_, rfl, b_row (xs := l0_1.set q true) ?_ hg1 (List.length_set ..) (by have := HQ.out; unfold maxLen; omega), (hbs.setCell (p := ⟨b4, 0, none⟩) HBB.out.2.1 _).setCell (p := ⟨b4, 1, none⟩) HBB.out.2.1 _⟩
          rw [heap_setCell_other _ _ gm _ (Ne.symm hn4), heap_setCell_other _ _ gm _ (Ne.symm hn4)]
          exact hs
      · rw [if_neg hl] at hh
        cases hh
  · rw [if_neg hin] at hh
    rw [decide_eq_false hin]
    simp only [Option.some.injEq, Prod.mk.injEq] at hh
    obtain ⟨rfl, rfl, rfl⟩ := hh
    clear hin HH
    go_wp2_with fail
    have hx := heap_setCell_same _ b4 1 _ _ (.slice none 0 0) (heap_setCell_same _ b4 0 _ _ (.int .u64 0) HZ.out)
    refine bodyPost_ret (results_ct rfl _ _ b4 26 _ (0, 0) _ rfl hx Try.underlying26 rfl tb_size) rfl ?_
    exact ⟨_, rfl, b_nil _ _, (HB.out.setCell (p := ⟨b4, 0, none⟩) HBB.out.2.1 _).setCell (p := ⟨b4, 1, none⟩) HBB.out.2.1 _⟩
end Go.Proofs.Ytopglieihhgaaaa.P
