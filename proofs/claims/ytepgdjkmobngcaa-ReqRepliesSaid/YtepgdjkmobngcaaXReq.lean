/- req: a request's bytes. No conditions beyond the kinds of the numbers and the size of the text. -/
import Derived.Test.YtepgdjkmobngcaaXReqL
import Derived.Test.YtepgdjkmobngcaaXFlW
import Derived.Deep.CutBlock
import Derived.Test.YtepgdjkmobngcaaPx2
namespace Go.Proofs.Ytepgdjkmobngcaa
open Go.RowKit Go.Lib Go.Proofs.Ytepgdjkmobngcaa.P Go.Proofs.Ytepgdjkmobngcaa.BeS Go.Proofs.YtepgdjkmobngcaaW.PrintWords Go.Proofs.YtepgdjkmobngcaaW.PrintLast Go.Proofs.YtepgdjkmobngcaaW.PrintMore
set_option linter.unusedVariables false
set_option linter.unusedSimpArgs false
def rg8_8.T : Bool × List (List Nat × List Nat) := (true, [([], []), ([0], [0]), ([1], [1]), ([2], [2]), ([3], [3]), ([], []), ([5], [5]), ([6], [6]), ([7], [7]), ([4, 8, 4], [4, 8]), ([], []), ([10], [10]), ([11], [11]), ([9, 12, 9], [9, 12])])
def rg8_8.B : List Nat := [0, 1, 3, 7, 15, 0, 32, 96, 224, 511, 0, 1024, 3072, 8191]
theorem rg8_8.tab : rtab .any (opsOf Try.f8 8) = rg8_8.T := by kernel_rfl
theorem rg8_8.bits : waitsOk rg8_8.T.2 rg8_8.B = true := by kernel_rfl
def rg8_14.T : Bool × List (List Nat × List Nat) := (true, [([], []), ([0], [0]), ([1], [1]), ([], []), ([3], [3]), ([4], [4]), ([2, 5, 2], [2, 5])])
def rg8_14.B : List Nat := [0, 1, 3, 0, 8, 24, 63]
theorem rg8_14.tab : rtab .any (opsOf Try.f8 14) = rg8_14.T := by kernel_rfl
theorem rg8_14.bits : waitsOk rg8_14.T.2 rg8_14.B = true := by kernel_rfl
def rg8_16.T : Bool × List (List Nat × List Nat) := (true, [([], []), ([0], [0]), ([1], [1]), ([], []), ([3], [3]), ([4], [4]), ([2, 5, 2], [2, 5]), ([], []), ([7], [7]), ([6, 8, 6], [6, 8])])
def rg8_16.B : List Nat := [0, 1, 3, 0, 8, 24, 63, 0, 128, 511]
theorem rg8_16.tab : rtab .any (opsOf Try.f8 16) = rg8_16.T := by kernel_rfl
theorem rg8_16.bits : waitsOk rg8_16.T.2 rg8_16.B = true := by kernel_rfl
def rg8_19.T : Bool × List (List Nat × List Nat) := (true, [([], []), ([0], [0]), ([1], [1]), ([], []), ([3], [3]), ([2, 4, 2], [2, 4]), ([], []), ([6], [6]), ([7], [7]), ([8], [8]), ([5, 9, 5], [5, 9])])
def rg8_19.B : List Nat := [0, 1, 3, 0, 8, 31, 0, 64, 192, 448, 1023]
theorem rg8_19.tab : rtab .any (opsOf Try.f8 19) = rg8_19.T := by kernel_rfl
theorem rg8_19.bits : waitsOk rg8_19.T.2 rg8_19.B = true := by kernel_rfl
theorem event_f (k : Nat) : req_Kind_event.f (k : Int) = some (decide (1 ≤ k ∧ k ≤ 9)) := by
  unfold req_Kind_event.f
  by_cases h : 1 ≤ k
  · rw [if_pos (by omega)]
    congr 1
    rw [decide_eq_decide]
    omega
  · rw [if_neg (by omega), decide_eq_false (by omega)]
theorem isK_iff (k : Nat) : isK k ↔ 1 ≤ k ∧ k ≤ 14 := Iff.rfl
theorem is_f (k : Nat) : req_Kind_is.f (k : Int) = some (decide (isK k)) := by
  unfold req_Kind_is.f
  rw [event_f, Option.bind_some]
  by_cases h : 1 ≤ k ∧ k ≤ 9
  · rw [if_pos (decide_eq_true h), decide_eq_true ((isK_iff k).2 (by omega))]
  · rw [if_neg (by rw [decide_eq_false h]; decide)]
    by_cases h2 : 10 ≤ k
    · rw [if_pos (by omega)]
      congr 1
      rw [decide_eq_decide, isK_iff]
      omega
    · rw [if_neg (by omega), decide_eq_false (by rw [isK_iff]; omega)]
theorem is_ok (k : Nat) (w : World) : Calls Try.prog 17 #[.int .u8 (k : Int)] w fun e w' => e = .returned (.bool (decide (isK k))) ∧ Drawn0 w w' := req_Kind_is.calls _ _ w (is_f k)
theorem event_ok (k : Nat) (w : World) : Calls Try.prog 29 #[.int .u8 (k : Int)] w fun e w' => e = .returned (.bool (decide (1 ≤ k ∧ k ≤ 9))) ∧ Drawn0 w w' := req_Kind_event.calls _ _ w (event_f k)
/-- A request as a value, and its cells. -/
def rqC (q : RQ) (v : Value) : Array Value := #[.int .u8 (q.k : Int), .int .u8 (q.ek : Int), .int .u64 (q.key : Int), .int .i64 q.ref, .int .i64 q.amt, .int .i64 q.code, .int .u8 (q.ak : Int), .string q.name, v, .int .i64 q.n]
def evC (q : RQ) (v : Value) : Array Value := #[.int .u8 (q.ek : Int), .int .u64 (q.key : Int), .int .i64 q.ref, .int .i64 q.amt, .int .i64 q.code, .int .u8 (q.ak : Int), .string q.name, v]
def rqV (q : RQ) (v : Value) : Value := .agg (rqC q v)
def RqAt (w : World) (b : Nat) (q : RQ) (v : Value) : Prop := w.heap[b]? = some (.cells (rqC q v) 39 (0, 0))
def EvAt (w : World) (b : Nat) (q : RQ) (v : Value) : Prop := w.heap[b]? = some (.cells (evC q v) 37 (0, 0))
theorem RqAt.cells {w : World} {b : Nat} {q : RQ} {v : Value} (h : RqAt w b q v) : w.cell? ⟨b, 0, none⟩ = some (.int .u8 (q.k : Int)) ∧ w.cell? ⟨b, 1, none⟩ = some (.int .u8 (q.ek : Int)) ∧ w.cell? ⟨b, 2, none⟩ = some (.int .u64 (q.key : Int)) ∧ w.cell? ⟨b, 3, none⟩ = some (.int .i64 q.ref) ∧ w.cell? ⟨b, 4, none⟩ = some (.int .i64 q.amt) ∧ w.cell? ⟨b, 5, none⟩ = some (.int .i64 q.code) ∧ w.cell? ⟨b, 6, none⟩ = some (.int .u8 (q.ak : Int)) ∧ w.cell? ⟨b, 7, none⟩ = some (.string q.name) ∧ w.cell? ⟨b, 8, none⟩ = some v ∧ w.cell? ⟨b, 9, none⟩ = some (.int .i64 q.n) := by
  unfold RqAt at h
  refine ⟨?_, ?_, ?_, ?_, ?_, ?_, ?_, ?_, ?_, ?_⟩ <;> (unfold World.cell?; rw [h]; rfl)
theorem EvAt.S {w : World} {be ek key ak xl c k : Nat} {ref amt code n : Int} {name : ByteArray} {a : Option Addr} (h : EvAt w be ⟨k, ek, key, ref, amt, code, ak, name, n⟩ (.slice a xl c)) : w.cell? ⟨be, 0, none⟩ = some (.int .u8 (ek : Int)) ∧ w.cell? ⟨be, 1, none⟩ = some (.int .u64 (key : Int)) ∧ w.cell? ⟨be, 2, none⟩ = some (.int .i64 ref) ∧ w.cell? ⟨be, 3, none⟩ = some (.int .i64 amt) ∧ w.cell? ⟨be, 4, none⟩ = some (.int .i64 code) ∧ w.cell? ⟨be, 5, none⟩ = some (.int .u8 (ak : Int)) ∧ w.cell? ⟨be, 6, none⟩ = some (.string name) ∧ w.cell? ⟨be, 7, none⟩ = some (.slice a xl c) := by
  unfold EvAt at h
  refine ⟨?_, ?_, ?_, ?_, ?_, ?_, ?_, ?_⟩ <;> (unfold World.cell?; rw [h]; rfl)
theorem EvAt.cells {w : World} {b : Nat} {q : RQ} {v : Value} (h : EvAt w b q v) : w.cell? ⟨b, 0, none⟩ = some (.int .u8 (q.ek : Int)) ∧ w.cell? ⟨b, 1, none⟩ = some (.int .u64 (q.key : Int)) ∧ w.cell? ⟨b, 2, none⟩ = some (.int .i64 q.ref) ∧ w.cell? ⟨b, 3, none⟩ = some (.int .i64 q.amt) ∧ w.cell? ⟨b, 4, none⟩ = some (.int .i64 q.code) ∧ w.cell? ⟨b, 5, none⟩ = some (.int .u8 (q.ak : Int)) ∧ w.cell? ⟨b, 6, none⟩ = some (.string q.name) ∧ w.cell? ⟨b, 7, none⟩ = some v := by
  unfold EvAt at h
  refine ⟨?_, ?_, ?_, ?_, ?_, ?_, ?_, ?_⟩ <;> (unfold World.cell?; rw [h]; rfl)
set_option maxHeartbeats 32000000 in
set_option maxRecDepth 20000 in
theorem req_encode (q : RQ) (hq : q.In) (xs : List Ln) (hx : xs.length ≤ 100) (v : Value) (w : World) (hr : RowS encL w v xs) :
    Calls Try.prog 8 #[rqV q v] w fun x w' => x = .returned (.tuple #[.string (encV q xs).1, .int .i64 (encV q xs).2]) ∧ Below w.heap.size w w' := by
  obtain ⟨a, c, rfl⟩ : ∃ a c, v = .slice a xs.length c := by obtain ⟨a, c, h, _⟩ := hr.len; exact ⟨a, c, h⟩
  have HQ := Lib.hid hq; clear hq
  have HN := Lib.hid hx; clear hx
  have HR := Lib.hid hr; clear hr
  generalize hev : encV q xs = E
  have HV := Lib.hid hev; clear hev
  unfold encV at HV
  generalize hF : encF q xs = F at HV
  have HF := Lib.hid hF; clear hF
  obtain ⟨k, ek, key, ref, amt, code, ak, name, n⟩ := q
  simp only at HV
  unfold rqV rqC
  simp only
  have hb := below_alloc (Below.refl w.heap.size w) (.cells #[.int .u8 (k : Int), .int .u8 (ek : Int), .int .u64 (key : Int), .int .i64 ref, .int .i64 amt, .int .i64 code, .int .u8 (ak : Int), .string name, .slice a xs.length c, .int .i64 n] 39)
  have HB := Lib.hid hb; clear hb
  have HX := Lib.hid (show RqAt _ w.heap.size ⟨k, ek, key, ref, amt, code, ak, name, n⟩ (.slice a xs.length c) from heap_alloc_new w (.cells #[.int .u8 (k : Int), .int .u8 (ek : Int), .int .u64 (key : Int), .int .i64 ref, .int .i64 amt, .int .i64 code, .int .u8 (ak : Int), .string name, .slice a xs.length c, .int .i64 n] 39))
  go_enter Try.func8, Try.ntmps8
  go_wp2_with fail
  generalize w.alloc (.cells #[.int .u8 (k : Int), .int .u8 (ek : Int), .int .u64 (key : Int), .int .i64 ref, .int .i64 amt, .int .i64 code, .int .u8 (ak : Int), .string name, .slice a xs.length c, .int .i64 n] 39) = w1 at HB HX ⊢
  generalize w.heap.size = bq at HX ⊢
  refine (is_ok k w1).mono ?_
  rintro e w2 ⟨rfl, hd⟩
  replace hd := hd.below
  replace HB := Lib.hid (chain2 HB.out hd)
  replace HX := Lib.hid (show RqAt _ _ _ _ from blk_below HX.out hd); clear hd
  by_cases hk : isK k
  · rw [decide_eq_true hk]
    have hV := HV.out
    rw [if_pos hk] at hV
    replace HV := Lib.hid hV; clear hV
    have HW := Lib.hid (WrF.new w2)
    have hd := below_alloc (Below.refl w2.heap.size w2) (.cells #[.slice none 0 0, .bool false] 84)
    have HB2 := Lib.hid hd
    have HXlt := Lib.hid (blk_lt HX.out)
    replace HX := Lib.hid (show RqAt _ _ _ _ from blk_below HX.out hd); clear hd
    have c1 : IntKind.u64.wrap (k : Int) = (k : Int) := u64_wrap_nat k (by have := HQ.out.k; simp only at this; omega)
    obtain ⟨x0, x1, x2, x3, x4, x5, x6, x7, x8, x9⟩ := HX.out.cells
    simp only at x0 x1 x2 x3 x4 x5 x6 x7 x8 x9
    go_wp2_with fail
    clear x0 x1 x2 x3 x4 x5 x6 x7 x8 x9
    generalize w2.alloc (.cells #[.slice none 0 0, .bool false] 84) = w3 at HW HB2 HX ⊢
    have HBs := Lib.hid HB.out.size
    have HLt := Lib.hid (show bq < w2.heap.size from (by skip; exact HXlt.out))
    generalize hg : w2.heap.size = g at HW HB2 HBs HLt ⊢
    clear hg
    refine (wrF_num g g [] k 1 1 rfl w3 HW.out (by simp) (by have := HQ.out.k; simp only at this; omega) (by decide)).mono ?_
    rintro e w4 ⟨rfl, hw, hd, ht⟩
    rw [List.nil_append] at hw
    have HNe0 := Lib.hid (show (some g : Option Nat) ≠ some bq from fun e => by have h1 := HLt.out; have h2 := Option.some.inj e; omega)
    replace HX := Lib.hid (show RqAt _ _ _ _ from ht.blk HX.out HNe0.out (by decide))
    replace HW := Lib.hid hw; clear hw
    replace HB2 := Lib.hid (HB2.out.trans hd); clear hd ht c1
    obtain ⟨x0, x1, x2, x3, x4, x5, x6, x7, x8, x9⟩ := HX.out.cells
    simp only at x0 x1 x2 x3 x4 x5 x6 x7 x8 x9
    have HY := Lib.hid (show EvAt _ w4.heap.size ⟨k, ek, key, ref, amt, code, ak, name, n⟩ (.slice a xs.length c) from heap_alloc_new w4 (.cells #[.int .u8 (ek : Int), .int .u64 (key : Int), .int .i64 ref, .int .i64 amt, .int .i64 code, .int .u8 (ak : Int), .string name, .slice a xs.length c] 37))
    have hd := below_alloc (Below.refl w4.heap.size w4) (.cells #[.int .u8 (ek : Int), .int .u64 (key : Int), .int .i64 ref, .int .i64 amt, .int .i64 code, .int .u8 (ak : Int), .string name, .slice a xs.length c] 37)
    have HNe := Lib.hid (show (some g : Option Nat) ≠ some w4.heap.size from fun e => (HW.out.2 g rfl).2.elim (fun v h => absurd h.1.lt (by rw [Option.some.inj e]; exact Nat.lt_irrefl _)))
    replace HX := Lib.hid (show RqAt _ _ _ _ from blk_below HX.out hd)
    replace HB2 := Lib.hid (HB2.out.trans (hd.mono HW.out.1))
    replace HW := Lib.hid (HW.out.below hd); clear hd
    have y := HX.out.cells.1
    simp only at y
    go_upto_block 0 with (fail)
    clear x0 x1 x2 x3 x4 x5 x6 x7 x8 x9 y
    generalize (w4.alloc (.cells #[.int .u8 (ek : Int), .int .u64 (key : Int), .int .i64 ref, .int .i64 amt, .int .i64 code, .int .u8 (ak : Int), .string name, .slice a xs.length c] 37)) = w5 at HX HY HB2 HW ⊢
    generalize w4.heap.size = be at HY HNe ⊢
    go_cut [] from 18 (fun wx => WrF wx g g F ∧ Below g w2 wx)
    case first =>
      have hcase : k = 1 ∨ k = 2 ∨ k = 3 ∨ k = 4 ∨ k = 5 ∨ k = 6 ∨ k = 7 ∨ k = 8 ∨ k = 9 ∨ k = 10 ∨ k = 11 ∨ k = 12 ∨ k = 13 ∨ k = 14 := by have h := (isK_iff k).1 hk; omega
      clear hk HV
      rcases hcase with rfl | rfl | rfl | rfl | rfl | rfl | rfl | rfl | rfl | rfl | rfl | rfl | rfl | rfl
      · skip
        have c2 : IntKind.u64.wrap code = (uN code : Int) := uN_wrap code
        have c5 : IntKind.u64.wrap (ak : Int) = (ak : Int) := u64_wrap_nat ak (by have := HQ.out.ak; simp only at this; omega)
        go_upto_region 8 with (fail)
        have hS := HY.out.S
        replace HY := Lib.hid (show EvAt w5.drew _ _ _ from HY.out)
        replace HW := Lib.hid (show WrF w5.drew _ _ _ from HW.out)
        replace HB2 := Lib.hid (below_drew1 HB2.out)
        refine start_ (n := 14) (S := fun w' => w'.cell? ⟨be, 0, none⟩ = some (.int .u8 (ek : Int)) ∧ w'.cell? ⟨be, 1, none⟩ = some (.int .u64 (key : Int)) ∧ w'.cell? ⟨be, 2, none⟩ = some (.int .i64 ref) ∧ w'.cell? ⟨be, 3, none⟩ = some (.int .i64 amt) ∧ w'.cell? ⟨be, 4, none⟩ = some (.int .i64 code) ∧ w'.cell? ⟨be, 5, none⟩ = some (.int .u8 (ak : Int)) ∧ w'.cell? ⟨be, 6, none⟩ = some (.string name) ∧ w'.cell? ⟨be, 7, none⟩ = some (.slice a xs.length c)) (ds := []) #[false, false, false, false, false, false, false, false, false, false, false, false, false, false] (by kernel_rfl) rfl rfl hS (fun hHeld => ?_)
        refine with_tabW rg8_8.tab rg8_8.bits (fun HT_ HW_ => ?_)
        generalize w5.drew = w' at HY HW HB2 hHeld ⊢
        refine pure_ (i := 0) (N := some 20) (v := ?_) (a' := ?_) #[true, false, false, false, false, false, false, false, false, false, false, false, false, false] rfl rfl (any_of HT_.out (by kernel_rfl)) (fun _ _ _ h => h) (Or.inl ⟨by rfl, ?_⟩) ?_ ?_
        rotate_left
        · intro w'
          go_simp
          try with_reducible rfl
        rotate_left
        · simp (maxSteps := 4000000) only [Act.put, List.setIfInBounds_toArray, List.set_cons_zero, List.set_cons_succ, i64_w, i32_w]
          try rfl
        refine pure_ (i := 1) (N := some 21) (v := ?_) (a' := ?_) #[true, true, false, false, false, false, false, false, false, false, false, false, false, false] rfl rfl (any_of HT_.out (by kernel_rfl)) (fun _ _ _ h => h) (Or.inl ⟨by rfl, ?_⟩) ?_ ?_
        rotate_left
        · intro w'
          go_simp
          try with_reducible rfl
        rotate_left
        · simp (maxSteps := 4000000) only [Act.put, List.setIfInBounds_toArray, List.set_cons_zero, List.set_cons_succ, i64_w, i32_w]
          try rfl
        refine pure_ (i := 5) (N := some 25) (v := ?_) (a' := ?_) #[true, true, false, false, false, true, false, false, false, false, false, false, false, false] rfl rfl (any_of HT_.out (by kernel_rfl)) (fun _ _ _ h => h) (Or.inl ⟨by rfl, ?_⟩) ?_ ?_
        rotate_left
        · intro w'
          go_simp
          try with_reducible rfl
        rotate_left
        · simp (maxSteps := 4000000) only [Act.put, List.setIfInBounds_toArray, List.set_cons_zero, List.set_cons_succ, i64_w, i32_w]
          try rfl
        refine pure_ (i := 6) (N := some 26) (v := ?_) (a' := ?_) #[true, true, false, false, false, true, true, false, false, false, false, false, false, false] rfl rfl (any_of HT_.out (by kernel_rfl)) (fun _ _ _ h => h) (Or.inl ⟨by rfl, ?_⟩) ?_ ?_
        rotate_left
        · intro w'
          go_simp
          try with_reducible rfl
        rotate_left
        · simp (maxSteps := 4000000) only [Act.put, List.setIfInBounds_toArray, List.set_cons_zero, List.set_cons_succ, i64_w, i32_w]
          try rfl
        refine pure_ (i := 10) (N := some 30) (v := ?_) (a' := ?_) #[true, true, false, false, false, true, true, false, false, false, true, false, false, false] rfl rfl (any_of HT_.out (by kernel_rfl)) (fun _ _ _ h => h) (Or.inl ⟨by rfl, ?_⟩) ?_ ?_
        rotate_left
        · intro w'
          go_simp
          try with_reducible rfl
        rotate_left
        · simp (maxSteps := 4000000) only [Act.put, List.setIfInBounds_toArray, List.set_cons_zero, List.set_cons_succ, i64_w, i32_w]
          try rfl
        refine pure_ (i := 11) (N := some 31) (v := ?_) (a' := ?_) #[true, true, false, false, false, true, true, false, false, false, true, true, false, false] rfl rfl (any_of HT_.out (by kernel_rfl)) (fun _ _ _ h => h) (Or.inl ⟨by rfl, ?_⟩) ?_ ?_
        rotate_left
        · intro w'
          go_simp
          try with_reducible rfl
        rotate_left
        · simp (maxSteps := 4000000) only [Act.put, List.setIfInBounds_toArray, List.set_cons_zero, List.set_cons_succ, i64_w, i32_w]
          try rfl
        refine take_ (i := 2) (N := some 22) (v := ?_) (a' := ?_) #[true, true, true, false, false, true, true, false, false, false, true, true, false, false] rfl rfl (take_ofW HT_.out HW_.out (by kernel_rfl)) (fun _ _ _ h => h) (Or.inl ⟨by rfl, ?_⟩) hHeld ?_ ?_
        rotate_left
        · intro w' hw_
          try dsimp only at hw_
          obtain ⟨x0, x1, x2, x3, x4, x5, x6, x7⟩ := hw_
          go_simp
          try with_reducible rfl
        rotate_left
        · simp (maxSteps := 4000000) only [Act.put, List.setIfInBounds_toArray, List.set_cons_zero, List.set_cons_succ, i64_w, i32_w]
          try rfl
        refine pure_ (i := 3) (N := some 23) (v := ?_) (a' := ?_) #[true, true, true, true, false, true, true, false, false, false, true, true, false, false] rfl rfl (any_of HT_.out (by kernel_rfl)) (fun _ _ _ h => h) (Or.inl ⟨by rfl, ?_⟩) ?_ ?_
        rotate_left
        · intro w'
          go_simp
          try with_reducible rfl
        rotate_left
        · simp (maxSteps := 4000000) only [Act.put, List.setIfInBounds_toArray, List.set_cons_zero, List.set_cons_succ, i64_w, i32_w]
          try rfl
        refine take_ (i := 7) (N := some 27) (v := ?_) (a' := ?_) #[true, true, true, true, false, true, true, true, false, false, true, true, false, false] rfl rfl (take_ofW HT_.out HW_.out (by kernel_rfl)) (fun _ _ _ h => h) (Or.inl ⟨by rfl, ?_⟩) hHeld ?_ ?_
        rotate_left
        · intro w' hw_
          try dsimp only at hw_
          obtain ⟨x0, x1, x2, x3, x4, x5, x6, x7⟩ := hw_
          go_simp
          try with_reducible rfl
        rotate_left
        · simp (maxSteps := 4000000) only [Act.put, List.setIfInBounds_toArray, List.set_cons_zero, List.set_cons_succ, i64_w, i32_w]
          try rfl
        refine pure_ (i := 8) (N := some 28) (v := ?_) (a' := ?_) #[true, true, true, true, false, true, true, true, true, false, true, true, false, false] rfl rfl (any_of HT_.out (by kernel_rfl)) (fun _ _ _ h => h) (Or.inl ⟨by rfl, ?_⟩) ?_ ?_
        rotate_left
        · intro w'
          go_simp
          try with_reducible rfl
        rotate_left
        · simp (maxSteps := 4000000) only [Act.put, List.setIfInBounds_toArray, List.set_cons_zero, List.set_cons_succ, i64_w, i32_w]
          try rfl
        refine take_ (i := 12) (N := some 32) (v := ?_) (a' := ?_) #[true, true, true, true, false, true, true, true, true, false, true, true, true, false] rfl rfl (take_ofW HT_.out HW_.out (by kernel_rfl)) (fun _ _ _ h => h) (Or.inl ⟨by rfl, ?_⟩) hHeld ?_ ?_
        rotate_left
        · intro w' hw_
          try dsimp only at hw_
          obtain ⟨x0, x1, x2, x3, x4, x5, x6, x7⟩ := hw_
          go_simp
          try with_reducible rfl
        rotate_left
        · simp (maxSteps := 4000000) only [Act.put, List.setIfInBounds_toArray, List.set_cons_zero, List.set_cons_succ, i64_w, i32_w]
          try rfl
        refine one_ (i := 4) (N := some 24) #[true, true, true, true, true, true, true, true, true, false, true, true, true, false] rfl rfl (one_of HT_.out (by kernel_rfl)) (by decide) (fun K hK => ?_)
        refine goes_ Try.func18 (by kernel_rfl) rfl #[.pointer (some ⟨g, 0, none⟩), .int .u64 (uN code : Int), .int .i64 2] (by rfl) rfl rfl (by (try simp only [List.map_toArray, List.map_cons, List.map_nil]); first | done | rfl) ?_
        refine (wrF_num g g [.num 1 1] (uN code) 2 2 rfl w' HW.out (by simp) (uN_lt _) (by decide)).mono ?_
        rintro e w' ⟨rfl, hw, hd, ht⟩
        refine ⟨_, rfl, ?_⟩
        replace HY := Lib.hid (show EvAt _ _ _ _ from ht.blk HY.out HNe.out (by decide))
        replace HW := Lib.hid hw
        replace HB2 := Lib.hid (HB2.out.trans hd)
        clear hw hd ht
        refine hK.out _ _ (HY.out.S) (fun hHeld => ?_)
        clear hK K
        refine norm_ (a' := ?_) ?_ ?_
        rotate_left
        · show Act.put _ (some 24) _ = _
          simp (maxSteps := 4000000) only [Act.put, List.setIfInBounds_toArray, List.set_cons_zero, List.set_cons_succ, i64_w, i32_w]
          try rfl
        refine one_ (i := 9) (N := some 29) #[true, true, true, true, true, true, true, true, true, true, true, true, true, false] rfl rfl (one_of HT_.out (by kernel_rfl)) (by decide) (fun K hK => ?_)
        refine goes_ Try.func18 (by kernel_rfl) rfl #[.pointer (some ⟨g, 0, none⟩), .int .u64 (ak : Int), .int .i64 1] (by rfl) rfl rfl (by (try simp only [List.map_toArray, List.map_cons, List.map_nil]); first | done | rfl) ?_
        refine (wrF_num g g ([.num 1 1] ++ [.num (uN code) 2]) (ak) 1 1 rfl w' HW.out (by simp) (by have := HQ.out.ak; simp only at this; omega) (by decide)).mono ?_
        rintro e w' ⟨rfl, hw, hd, ht⟩
        refine ⟨_, rfl, ?_⟩
        replace HY := Lib.hid (show EvAt _ _ _ _ from ht.blk HY.out HNe.out (by decide))
        replace HW := Lib.hid hw
        replace HB2 := Lib.hid (HB2.out.trans hd)
        clear hw hd ht
        refine hK.out _ _ (HY.out.S) (fun hHeld => ?_)
        clear hK K
        refine norm_ (a' := ?_) ?_ ?_
        rotate_left
        · show Act.put _ (some 29) _ = _
          simp (maxSteps := 4000000) only [Act.put, List.setIfInBounds_toArray, List.set_cons_zero, List.set_cons_succ, i64_w, i32_w]
          try rfl
        refine one_ (i := 13) (N := some 33) #[true, true, true, true, true, true, true, true, true, true, true, true, true, true] rfl rfl (one_of HT_.out (by kernel_rfl)) (by decide) (fun K hK => ?_)
        refine goes_ Try.func19 (by kernel_rfl) rfl #[.pointer (some ⟨g, 0, none⟩), .string name] (by rfl) rfl rfl (by (try simp only [List.map_toArray, List.map_cons, List.map_nil]); first | done | rfl) ?_
        refine (wrF_txt g g ([.num 1 1] ++ [.num (uN code) 2] ++ [.num ak 1]) name w' HW.out (by simp) (by have := HQ.out.name; simp only at this; omega)).mono ?_
        rintro e w' ⟨rfl, hw, hd, ht⟩
        refine ⟨_, rfl, ?_⟩
        replace HY := Lib.hid (show EvAt _ _ _ _ from ht.blk HY.out HNe.out (by decide))
        replace HW := Lib.hid hw
        replace HB2 := Lib.hid (HB2.out.trans hd)
        clear hw hd ht
        refine hK.out _ _ (HY.out.S) (fun hHeld => ?_)
        clear hK K
        refine norm_ (a' := ?_) ?_ ?_
        rotate_left
        · show Act.put _ (some 33) _ = _
          simp (maxSteps := 4000000) only [Act.put, List.setIfInBounds_toArray, List.set_cons_zero, List.set_cons_succ, i64_w, i32_w]
          try rfl
        refine done_ (done_of HT_.out (by kernel_rfl)) ?_
        clear c2 c5
        go_wp2_with fail
        go_meet
        case rel => rw [← HF.out]; exact ⟨HW.out, HB2.out⟩
      · skip
        go_wp2_with fail
        go_meet
        case rel => rw [← HF.out]; exact ⟨HW.out, HB2.out⟩
      · skip
        go_wp2_with fail
        go_meet
        case rel => rw [← HF.out]; exact ⟨HW.out, HB2.out⟩
      · skip
        have y := HY.out.S
        obtain ⟨y0, y1, y2, y3, y4, y5, y6, y7⟩ := y
        go_wp2_with fail
        clear y0 y1 y2 y3 y4 y5 y6 y7
        refine (wrF_num g g [.num 4 1] key 8 8 rfl w5 HW.out (by simp) (show key < 18446744073709551616 from HQ.out.key) (by decide)).mono ?_
        rintro e w6 ⟨rfl, hw, hd, ht⟩
        replace HY := Lib.hid (show EvAt _ _ _ _ from ht.blk HY.out HNe.out (by decide))
        replace HW := Lib.hid hw; clear hw
        replace HB2 := Lib.hid (HB2.out.trans hd); clear hd ht
        have y := HY.out.S
        obtain ⟨y0, y1, y2, y3, y4, y5, y6, y7⟩ := y
        go_wp2_with fail
        clear y0 y1 y2 y3 y4 y5 y6 y7
        refine (wrF_lines xs HN.out (.slice a xs.length c) g g ([.num 4 1] ++ [.num key 8]) w w6 HR.out (HB.out.trans (HB2.out.mono HBs.out)) HBs.out HW.out (by simp)).mono ?_
        rintro e w7 ⟨rfl, hw, hd, ht⟩
        replace HW := Lib.hid hw; clear hw
        replace HB2 := Lib.hid (HB2.out.trans hd); clear hd ht
        go_wp2_with fail
        go_meet
        case rel => rw [← HF.out]; exact ⟨HW.out, HB2.out⟩
      · skip
        have c3 : IntKind.u64.wrap ref = (uN ref : Int) := uN_wrap ref
        go_upto_region 14 with (fail)
        have hS := HY.out.S
        replace HY := Lib.hid (show EvAt w5.drew _ _ _ from HY.out)
        replace HW := Lib.hid (show WrF w5.drew _ _ _ from HW.out)
        replace HB2 := Lib.hid (below_drew1 HB2.out)
        refine start_ (n := 7) (S := fun w' => w'.cell? ⟨be, 0, none⟩ = some (.int .u8 (ek : Int)) ∧ w'.cell? ⟨be, 1, none⟩ = some (.int .u64 (key : Int)) ∧ w'.cell? ⟨be, 2, none⟩ = some (.int .i64 ref) ∧ w'.cell? ⟨be, 3, none⟩ = some (.int .i64 amt) ∧ w'.cell? ⟨be, 4, none⟩ = some (.int .i64 code) ∧ w'.cell? ⟨be, 5, none⟩ = some (.int .u8 (ak : Int)) ∧ w'.cell? ⟨be, 6, none⟩ = some (.string name) ∧ w'.cell? ⟨be, 7, none⟩ = some (.slice a xs.length c)) (ds := []) #[false, false, false, false, false, false, false] (by kernel_rfl) rfl rfl hS (fun hHeld => ?_)
        refine with_tabW rg8_14.tab rg8_14.bits (fun HT_ HW_ => ?_)
        generalize w5.drew = w' at HY HW HB2 hHeld ⊢
        refine pure_ (i := 0) (N := some 45) (v := ?_) (a' := ?_) #[true, false, false, false, false, false, false] rfl rfl (any_of HT_.out (by kernel_rfl)) (fun _ _ _ h => h) (Or.inl ⟨by rfl, ?_⟩) ?_ ?_
        rotate_left
        · intro w'
          go_simp
          try with_reducible rfl
        rotate_left
        · simp (maxSteps := 4000000) only [Act.put, List.setIfInBounds_toArray, List.set_cons_zero, List.set_cons_succ, i64_w, i32_w]
          try rfl
        refine pure_ (i := 3) (N := some 48) (v := ?_) (a' := ?_) #[true, false, false, true, false, false, false] rfl rfl (any_of HT_.out (by kernel_rfl)) (fun _ _ _ h => h) (Or.inl ⟨by rfl, ?_⟩) ?_ ?_
        rotate_left
        · intro w'
          go_simp
          try with_reducible rfl
        rotate_left
        · simp (maxSteps := 4000000) only [Act.put, List.setIfInBounds_toArray, List.set_cons_zero, List.set_cons_succ, i64_w, i32_w]
          try rfl
        refine take_ (i := 1) (N := some 46) (v := ?_) (a' := ?_) #[true, true, false, true, false, false, false] rfl rfl (take_ofW HT_.out HW_.out (by kernel_rfl)) (fun _ _ _ h => h) (Or.inl ⟨by rfl, ?_⟩) hHeld ?_ ?_
        rotate_left
        · intro w' hw_
          try dsimp only at hw_
          obtain ⟨x0, x1, x2, x3, x4, x5, x6, x7⟩ := hw_
          go_simp
          try with_reducible rfl
        rotate_left
        · simp (maxSteps := 4000000) only [Act.put, List.setIfInBounds_toArray, List.set_cons_zero, List.set_cons_succ, i64_w, i32_w]
          try rfl
        refine take_ (i := 4) (N := some 49) (v := ?_) (a' := ?_) #[true, true, false, true, true, false, false] rfl rfl (take_ofW HT_.out HW_.out (by kernel_rfl)) (fun _ _ _ h => h) (Or.inl ⟨by rfl, ?_⟩) hHeld ?_ ?_
        rotate_left
        · intro w' hw_
          try dsimp only at hw_
          obtain ⟨x0, x1, x2, x3, x4, x5, x6, x7⟩ := hw_
          go_simp
          try with_reducible rfl
        rotate_left
        · simp (maxSteps := 4000000) only [Act.put, List.setIfInBounds_toArray, List.set_cons_zero, List.set_cons_succ, i64_w, i32_w]
          try rfl
        refine pure_ (i := 5) (N := some 50) (v := ?_) (a' := ?_) #[true, true, false, true, true, true, false] rfl rfl (any_of HT_.out (by kernel_rfl)) (fun _ _ _ h => h) (Or.inl ⟨by rfl, ?_⟩) ?_ ?_
        rotate_left
        · intro w'
          go_simp
          try with_reducible rfl
        rotate_left
        · simp (maxSteps := 4000000) only [Act.put, List.setIfInBounds_toArray, List.set_cons_zero, List.set_cons_succ, i64_w, i32_w]
          try rfl
        refine one_ (i := 2) (N := some 47) #[true, true, true, true, true, true, false] rfl rfl (one_of HT_.out (by kernel_rfl)) (by decide) (fun K hK => ?_)
        refine goes_ Try.func18 (by kernel_rfl) rfl #[.pointer (some ⟨g, 0, none⟩), .int .u64 (key : Int), .int .i64 8] (by rfl) rfl rfl (by (try simp only [List.map_toArray, List.map_cons, List.map_nil]); first | done | rfl) ?_
        refine (wrF_num g g [.num 5 1] (key) 8 8 rfl w' HW.out (by simp) (show key < 18446744073709551616 from HQ.out.key) (by decide)).mono ?_
        rintro e w' ⟨rfl, hw, hd, ht⟩
        refine ⟨_, rfl, ?_⟩
        replace HY := Lib.hid (show EvAt _ _ _ _ from ht.blk HY.out HNe.out (by decide))
        replace HW := Lib.hid hw
        replace HB2 := Lib.hid (HB2.out.trans hd)
        clear hw hd ht
        refine hK.out _ _ (HY.out.S) (fun hHeld => ?_)
        clear hK K
        refine norm_ (a' := ?_) ?_ ?_
        rotate_left
        · show Act.put _ (some 47) _ = _
          simp (maxSteps := 4000000) only [Act.put, List.setIfInBounds_toArray, List.set_cons_zero, List.set_cons_succ, i64_w, i32_w]
          try rfl
        refine one_ (i := 6) (N := some 51) #[true, true, true, true, true, true, true] rfl rfl (one_of HT_.out (by kernel_rfl)) (by decide) (fun K hK => ?_)
        refine goes_ Try.func18 (by kernel_rfl) rfl #[.pointer (some ⟨g, 0, none⟩), .int .u64 (uN ref : Int), .int .i64 4] (by rfl) rfl rfl (by (try simp only [List.map_toArray, List.map_cons, List.map_nil]); first | done | rfl) ?_
        refine (wrF_num g g ([.num 5 1] ++ [.num key 8]) (uN ref) 4 4 rfl w' HW.out (by simp) (uN_lt _) (by decide)).mono ?_
        rintro e w' ⟨rfl, hw, hd, ht⟩
        refine ⟨_, rfl, ?_⟩
        replace HY := Lib.hid (show EvAt _ _ _ _ from ht.blk HY.out HNe.out (by decide))
        replace HW := Lib.hid hw
        replace HB2 := Lib.hid (HB2.out.trans hd)
        clear hw hd ht
        refine hK.out _ _ (HY.out.S) (fun hHeld => ?_)
        clear hK K
        refine norm_ (a' := ?_) ?_ ?_
        rotate_left
        · show Act.put _ (some 51) _ = _
          simp (maxSteps := 4000000) only [Act.put, List.setIfInBounds_toArray, List.set_cons_zero, List.set_cons_succ, i64_w, i32_w]
          try rfl
        refine done_ (done_of HT_.out (by kernel_rfl)) ?_
        clear c3
        go_wp2_with fail
        go_meet
        case rel => rw [← HF.out]; exact ⟨HW.out, HB2.out⟩
      · skip
        have c3 : IntKind.u64.wrap ref = (uN ref : Int) := uN_wrap ref
        go_upto_region 16 with (fail)
        have hS := HY.out.S
        replace HY := Lib.hid (show EvAt w5.drew _ _ _ from HY.out)
        replace HW := Lib.hid (show WrF w5.drew _ _ _ from HW.out)
        replace HB2 := Lib.hid (below_drew1 HB2.out)
        refine start_ (n := 10) (S := fun w' => w'.cell? ⟨be, 0, none⟩ = some (.int .u8 (ek : Int)) ∧ w'.cell? ⟨be, 1, none⟩ = some (.int .u64 (key : Int)) ∧ w'.cell? ⟨be, 2, none⟩ = some (.int .i64 ref) ∧ w'.cell? ⟨be, 3, none⟩ = some (.int .i64 amt) ∧ w'.cell? ⟨be, 4, none⟩ = some (.int .i64 code) ∧ w'.cell? ⟨be, 5, none⟩ = some (.int .u8 (ak : Int)) ∧ w'.cell? ⟨be, 6, none⟩ = some (.string name) ∧ w'.cell? ⟨be, 7, none⟩ = some (.slice a xs.length c)) (ds := []) #[false, false, false, false, false, false, false, false, false, false] (by kernel_rfl) rfl rfl hS (fun hHeld => ?_)
        refine with_tabW rg8_16.tab rg8_16.bits (fun HT_ HW_ => ?_)
        generalize w5.drew = w' at HY HW HB2 hHeld ⊢
        refine pure_ (i := 0) (N := some 54) (v := ?_) (a' := ?_) #[true, false, false, false, false, false, false, false, false, false] rfl rfl (any_of HT_.out (by kernel_rfl)) (fun _ _ _ h => h) (Or.inl ⟨by rfl, ?_⟩) ?_ ?_
        rotate_left
        · intro w'
          go_simp
          try with_reducible rfl
        rotate_left
        · simp (maxSteps := 4000000) only [Act.put, List.setIfInBounds_toArray, List.set_cons_zero, List.set_cons_succ, i64_w, i32_w]
          try rfl
        refine pure_ (i := 3) (N := some 57) (v := ?_) (a' := ?_) #[true, false, false, true, false, false, false, false, false, false] rfl rfl (any_of HT_.out (by kernel_rfl)) (fun _ _ _ h => h) (Or.inl ⟨by rfl, ?_⟩) ?_ ?_
        rotate_left
        · intro w'
          go_simp
          try with_reducible rfl
        rotate_left
        · simp (maxSteps := 4000000) only [Act.put, List.setIfInBounds_toArray, List.set_cons_zero, List.set_cons_succ, i64_w, i32_w]
          try rfl
        refine pure_ (i := 7) (N := some 61) (v := ?_) (a' := ?_) #[true, false, false, true, false, false, false, true, false, false] rfl rfl (any_of HT_.out (by kernel_rfl)) (fun _ _ _ h => h) (Or.inl ⟨by rfl, ?_⟩) ?_ ?_
        rotate_left
        · intro w'
          go_simp
          try with_reducible rfl
        rotate_left
        · simp (maxSteps := 4000000) only [Act.put, List.setIfInBounds_toArray, List.set_cons_zero, List.set_cons_succ, i64_w, i32_w]
          try rfl
        refine take_ (i := 1) (N := some 55) (v := ?_) (a' := ?_) #[true, true, false, true, false, false, false, true, false, false] rfl rfl (take_ofW HT_.out HW_.out (by kernel_rfl)) (fun _ _ _ h => h) (Or.inl ⟨by rfl, ?_⟩) hHeld ?_ ?_
        rotate_left
        · intro w' hw_
          try dsimp only at hw_
          obtain ⟨x0, x1, x2, x3, x4, x5, x6, x7⟩ := hw_
          go_simp
          try with_reducible rfl
        rotate_left
        · simp (maxSteps := 4000000) only [Act.put, List.setIfInBounds_toArray, List.set_cons_zero, List.set_cons_succ, i64_w, i32_w]
          try rfl
        refine take_ (i := 4) (N := some 58) (v := ?_) (a' := ?_) #[true, true, false, true, true, false, false, true, false, false] rfl rfl (take_ofW HT_.out HW_.out (by kernel_rfl)) (fun _ _ _ h => h) (Or.inl ⟨by rfl, ?_⟩) hHeld ?_ ?_
        rotate_left
        · intro w' hw_
          try dsimp only at hw_
          obtain ⟨x0, x1, x2, x3, x4, x5, x6, x7⟩ := hw_
          go_simp
          try with_reducible rfl
        rotate_left
        · simp (maxSteps := 4000000) only [Act.put, List.setIfInBounds_toArray, List.set_cons_zero, List.set_cons_succ, i64_w, i32_w]
          try rfl
        refine pure_ (i := 5) (N := some 59) (v := ?_) (a' := ?_) #[true, true, false, true, true, true, false, true, false, false] rfl rfl (any_of HT_.out (by kernel_rfl)) (fun _ _ _ h => h) (Or.inl ⟨by rfl, ?_⟩) ?_ ?_
        rotate_left
        · intro w'
          go_simp
          try with_reducible rfl
        rotate_left
        · simp (maxSteps := 4000000) only [Act.put, List.setIfInBounds_toArray, List.set_cons_zero, List.set_cons_succ, i64_w, i32_w]
          try rfl
        refine take_ (i := 8) (N := some 62) (v := ?_) (a' := ?_) #[true, true, false, true, true, true, false, true, true, false] rfl rfl (take_ofW HT_.out HW_.out (by kernel_rfl)) (fun _ _ _ h => h) (Or.inl ⟨by rfl, ?_⟩) hHeld ?_ ?_
        rotate_left
        · intro w' hw_
          try dsimp only at hw_
          obtain ⟨x0, x1, x2, x3, x4, x5, x6, x7⟩ := hw_
          go_simp
          try with_reducible rfl
        rotate_left
        · simp (maxSteps := 4000000) only [Act.put, List.setIfInBounds_toArray, List.set_cons_zero, List.set_cons_succ, i64_w, i32_w]
          try rfl
        refine one_ (i := 2) (N := some 56) #[true, true, true, true, true, true, false, true, true, false] rfl rfl (one_of HT_.out (by kernel_rfl)) (by decide) (fun K hK => ?_)
        refine goes_ Try.func18 (by kernel_rfl) rfl #[.pointer (some ⟨g, 0, none⟩), .int .u64 (key : Int), .int .i64 8] (by rfl) rfl rfl (by (try simp only [List.map_toArray, List.map_cons, List.map_nil]); first | done | rfl) ?_
        refine (wrF_num g g [.num 6 1] (key) 8 8 rfl w' HW.out (by simp) (show key < 18446744073709551616 from HQ.out.key) (by decide)).mono ?_
        rintro e w' ⟨rfl, hw, hd, ht⟩
        refine ⟨_, rfl, ?_⟩
        replace HY := Lib.hid (show EvAt _ _ _ _ from ht.blk HY.out HNe.out (by decide))
        replace HW := Lib.hid hw
        replace HB2 := Lib.hid (HB2.out.trans hd)
        clear hw hd ht
        refine hK.out _ _ (HY.out.S) (fun hHeld => ?_)
        clear hK K
        refine norm_ (a' := ?_) ?_ ?_
        rotate_left
        · show Act.put _ (some 56) _ = _
          simp (maxSteps := 4000000) only [Act.put, List.setIfInBounds_toArray, List.set_cons_zero, List.set_cons_succ, i64_w, i32_w]
          try rfl
        refine one_ (i := 6) (N := some 60) #[true, true, true, true, true, true, true, true, true, false] rfl rfl (one_of HT_.out (by kernel_rfl)) (by decide) (fun K hK => ?_)
        refine goes_ Try.func18 (by kernel_rfl) rfl #[.pointer (some ⟨g, 0, none⟩), .int .u64 (uN ref : Int), .int .i64 4] (by rfl) rfl rfl (by (try simp only [List.map_toArray, List.map_cons, List.map_nil]); first | done | rfl) ?_
        refine (wrF_num g g ([.num 6 1] ++ [.num key 8]) (uN ref) 4 4 rfl w' HW.out (by simp) (uN_lt _) (by decide)).mono ?_
        rintro e w' ⟨rfl, hw, hd, ht⟩
        refine ⟨_, rfl, ?_⟩
        replace HY := Lib.hid (show EvAt _ _ _ _ from ht.blk HY.out HNe.out (by decide))
        replace HW := Lib.hid hw
        replace HB2 := Lib.hid (HB2.out.trans hd)
        clear hw hd ht
        refine hK.out _ _ (HY.out.S) (fun hHeld => ?_)
        clear hK K
        refine norm_ (a' := ?_) ?_ ?_
        rotate_left
        · show Act.put _ (some 60) _ = _
          simp (maxSteps := 4000000) only [Act.put, List.setIfInBounds_toArray, List.set_cons_zero, List.set_cons_succ, i64_w, i32_w]
          try rfl
        refine one_ (i := 9) (N := some 63) #[true, true, true, true, true, true, true, true, true, true] rfl rfl (one_of HT_.out (by kernel_rfl)) (by decide) (fun K hK => ?_)
        refine goes_ Try.func21 (by kernel_rfl) rfl #[.pointer (some ⟨g, 0, none⟩), .int .i64 amt] (by rfl) rfl rfl (by (try simp only [List.map_toArray, List.map_cons, List.map_nil]); first | done | rfl) ?_
        refine (wrF_sig g g ([.num 6 1] ++ [.num key 8] ++ [.num (uN ref) 4]) amt w' HW.out (by simp)).mono ?_
        rintro e w' ⟨rfl, hw, hd, ht⟩
        refine ⟨_, rfl, ?_⟩
        replace HY := Lib.hid (show EvAt _ _ _ _ from ht.blk HY.out HNe.out (by decide))
        replace HW := Lib.hid hw
        replace HB2 := Lib.hid (HB2.out.trans hd)
        clear hw hd ht
        refine hK.out _ _ (HY.out.S) (fun hHeld => ?_)
        clear hK K
        refine norm_ (a' := ?_) ?_ ?_
        rotate_left
        · show Act.put _ (some 63) _ = _
          simp (maxSteps := 4000000) only [Act.put, List.setIfInBounds_toArray, List.set_cons_zero, List.set_cons_succ, i64_w, i32_w]
          try rfl
        refine done_ (done_of HT_.out (by kernel_rfl)) ?_
        clear c3
        go_wp2_with fail
        go_meet
        case rel => rw [← HF.out]; exact ⟨HW.out, HB2.out⟩
      · skip
        have c2 : IntKind.u64.wrap code = (uN code : Int) := uN_wrap code
        go_upto_region 19 with (fail)
        have hS := HY.out.S
        replace HY := Lib.hid (show EvAt w5.drew _ _ _ from HY.out)
        replace HW := Lib.hid (show WrF w5.drew _ _ _ from HW.out)
        replace HB2 := Lib.hid (below_drew1 HB2.out)
        refine start_ (n := 11) (S := fun w' => w'.cell? ⟨be, 0, none⟩ = some (.int .u8 (ek : Int)) ∧ w'.cell? ⟨be, 1, none⟩ = some (.int .u64 (key : Int)) ∧ w'.cell? ⟨be, 2, none⟩ = some (.int .i64 ref) ∧ w'.cell? ⟨be, 3, none⟩ = some (.int .i64 amt) ∧ w'.cell? ⟨be, 4, none⟩ = some (.int .i64 code) ∧ w'.cell? ⟨be, 5, none⟩ = some (.int .u8 (ak : Int)) ∧ w'.cell? ⟨be, 6, none⟩ = some (.string name) ∧ w'.cell? ⟨be, 7, none⟩ = some (.slice a xs.length c)) (ds := []) #[false, false, false, false, false, false, false, false, false, false, false] (by kernel_rfl) rfl rfl hS (fun hHeld => ?_)
        refine with_tabW rg8_19.tab rg8_19.bits (fun HT_ HW_ => ?_)
        generalize w5.drew = w' at HY HW HB2 hHeld ⊢
        refine pure_ (i := 0) (N := some 67) (v := ?_) (a' := ?_) #[true, false, false, false, false, false, false, false, false, false, false] rfl rfl (any_of HT_.out (by kernel_rfl)) (fun _ _ _ h => h) (Or.inl ⟨by rfl, ?_⟩) ?_ ?_
        rotate_left
        · intro w'
          go_simp
          try with_reducible rfl
        rotate_left
        · simp (maxSteps := 4000000) only [Act.put, List.setIfInBounds_toArray, List.set_cons_zero, List.set_cons_succ, i64_w, i32_w]
          try rfl
        refine pure_ (i := 3) (N := some 70) (v := ?_) (a' := ?_) #[true, false, false, true, false, false, false, false, false, false, false] rfl rfl (any_of HT_.out (by kernel_rfl)) (fun _ _ _ h => h) (Or.inl ⟨by rfl, ?_⟩) ?_ ?_
        rotate_left
        · intro w'
          go_simp
          try with_reducible rfl
        rotate_left
        · simp (maxSteps := 4000000) only [Act.put, List.setIfInBounds_toArray, List.set_cons_zero, List.set_cons_succ, i64_w, i32_w]
          try rfl
        refine pure_ (i := 6) (N := some 73) (v := ?_) (a' := ?_) #[true, false, false, true, false, false, true, false, false, false, false] rfl rfl (any_of HT_.out (by kernel_rfl)) (fun _ _ _ h => h) (Or.inl ⟨by rfl, ?_⟩) ?_ ?_
        rotate_left
        · intro w'
          go_simp
          try with_reducible rfl
        rotate_left
        · simp (maxSteps := 4000000) only [Act.put, List.setIfInBounds_toArray, List.set_cons_zero, List.set_cons_succ, i64_w, i32_w]
          try rfl
        refine pure_ (i := 7) (N := some 74) (v := ?_) (a' := ?_) #[true, false, false, true, false, false, true, true, false, false, false] rfl rfl (any_of HT_.out (by kernel_rfl)) (fun _ _ _ h => h) (Or.inl ⟨by rfl, ?_⟩) ?_ ?_
        rotate_left
        · intro w'
          go_simp
          try with_reducible rfl
        rotate_left
        · simp (maxSteps := 4000000) only [Act.put, List.setIfInBounds_toArray, List.set_cons_zero, List.set_cons_succ, i64_w, i32_w]
          try rfl
        refine take_ (i := 1) (N := some 68) (v := ?_) (a' := ?_) #[true, true, false, true, false, false, true, true, false, false, false] rfl rfl (take_ofW HT_.out HW_.out (by kernel_rfl)) (fun _ _ _ h => h) (Or.inl ⟨by rfl, ?_⟩) hHeld ?_ ?_
        rotate_left
        · intro w' hw_
          try dsimp only at hw_
          obtain ⟨x0, x1, x2, x3, x4, x5, x6, x7⟩ := hw_
          go_simp
          try with_reducible rfl
        rotate_left
        · simp (maxSteps := 4000000) only [Act.put, List.setIfInBounds_toArray, List.set_cons_zero, List.set_cons_succ, i64_w, i32_w]
          try rfl
        refine take_ (i := 4) (N := some 71) (v := ?_) (a' := ?_) #[true, true, false, true, true, false, true, true, false, false, false] rfl rfl (take_ofW HT_.out HW_.out (by kernel_rfl)) (fun _ _ _ h => h) (Or.inl ⟨by rfl, ?_⟩) hHeld ?_ ?_
        rotate_left
        · intro w' hw_
          try dsimp only at hw_
          obtain ⟨x0, x1, x2, x3, x4, x5, x6, x7⟩ := hw_
          go_simp
          try with_reducible rfl
        rotate_left
        · simp (maxSteps := 4000000) only [Act.put, List.setIfInBounds_toArray, List.set_cons_zero, List.set_cons_succ, i64_w, i32_w]
          try rfl
        refine take_ (i := 8) (N := some 75) (v := ?_) (a' := ?_) #[true, true, false, true, true, false, true, true, true, false, false] rfl rfl (take_ofW HT_.out HW_.out (by kernel_rfl)) (fun _ _ _ h => h) (Or.inl ⟨by rfl, ?_⟩) hHeld ?_ ?_
        rotate_left
        · intro w' hw_
          try dsimp only at hw_
          obtain ⟨x0, x1, x2, x3, x4, x5, x6, x7⟩ := hw_
          go_simp
          try with_reducible rfl
        rotate_left
        · simp (maxSteps := 4000000) only [Act.put, List.setIfInBounds_toArray, List.set_cons_zero, List.set_cons_succ, i64_w, i32_w]
          try rfl
        refine pure_ (i := 9) (N := some 76) (v := ?_) (a' := ?_) #[true, true, false, true, true, false, true, true, true, true, false] rfl rfl (any_of HT_.out (by kernel_rfl)) (fun _ _ _ h => h) (Or.inl ⟨by rfl, ?_⟩) ?_ ?_
        rotate_left
        · intro w'
          go_simp
          try with_reducible rfl
        rotate_left
        · simp (maxSteps := 4000000) only [Act.put, List.setIfInBounds_toArray, List.set_cons_zero, List.set_cons_succ, i64_w, i32_w]
          try rfl
        refine one_ (i := 2) (N := some 69) #[true, true, true, true, true, false, true, true, true, true, false] rfl rfl (one_of HT_.out (by kernel_rfl)) (by decide) (fun K hK => ?_)
        refine goes_ Try.func18 (by kernel_rfl) rfl #[.pointer (some ⟨g, 0, none⟩), .int .u64 (key : Int), .int .i64 8] (by rfl) rfl rfl (by (try simp only [List.map_toArray, List.map_cons, List.map_nil]); first | done | rfl) ?_
        refine (wrF_num g g [.num 7 1] (key) 8 8 rfl w' HW.out (by simp) (show key < 18446744073709551616 from HQ.out.key) (by decide)).mono ?_
        rintro e w' ⟨rfl, hw, hd, ht⟩
        refine ⟨_, rfl, ?_⟩
        replace HY := Lib.hid (show EvAt _ _ _ _ from ht.blk HY.out HNe.out (by decide))
        replace HW := Lib.hid hw
        replace HB2 := Lib.hid (HB2.out.trans hd)
        clear hw hd ht
        refine hK.out _ _ (HY.out.S) (fun hHeld => ?_)
        clear hK K
        refine norm_ (a' := ?_) ?_ ?_
        rotate_left
        · show Act.put _ (some 69) _ = _
          simp (maxSteps := 4000000) only [Act.put, List.setIfInBounds_toArray, List.set_cons_zero, List.set_cons_succ, i64_w, i32_w]
          try rfl
        refine one_ (i := 5) (N := some 72) #[true, true, true, true, true, true, true, true, true, true, false] rfl rfl (one_of HT_.out (by kernel_rfl)) (by decide) (fun K hK => ?_)
        refine goes_ Try.func21 (by kernel_rfl) rfl #[.pointer (some ⟨g, 0, none⟩), .int .i64 amt] (by rfl) rfl rfl (by (try simp only [List.map_toArray, List.map_cons, List.map_nil]); first | done | rfl) ?_
        refine (wrF_sig g g ([.num 7 1] ++ [.num key 8]) amt w' HW.out (by simp)).mono ?_
        rintro e w' ⟨rfl, hw, hd, ht⟩
        refine ⟨_, rfl, ?_⟩
        replace HY := Lib.hid (show EvAt _ _ _ _ from ht.blk HY.out HNe.out (by decide))
        replace HW := Lib.hid hw
        replace HB2 := Lib.hid (HB2.out.trans hd)
        clear hw hd ht
        refine hK.out _ _ (HY.out.S) (fun hHeld => ?_)
        clear hK K
        refine norm_ (a' := ?_) ?_ ?_
        rotate_left
        · show Act.put _ (some 72) _ = _
          simp (maxSteps := 4000000) only [Act.put, List.setIfInBounds_toArray, List.set_cons_zero, List.set_cons_succ, i64_w, i32_w]
          try rfl
        refine one_ (i := 10) (N := some 77) #[true, true, true, true, true, true, true, true, true, true, true] rfl rfl (one_of HT_.out (by kernel_rfl)) (by decide) (fun K hK => ?_)
        refine goes_ Try.func18 (by kernel_rfl) rfl #[.pointer (some ⟨g, 0, none⟩), .int .u64 (uN code : Int), .int .i64 2] (by rfl) rfl rfl (by (try simp only [List.map_toArray, List.map_cons, List.map_nil]); first | done | rfl) ?_
        refine (wrF_num g g ([.num 7 1] ++ [.num key 8] ++ [.sig (uN amt)]) (uN code) 2 2 rfl w' HW.out (by simp) (uN_lt _) (by decide)).mono ?_
        rintro e w' ⟨rfl, hw, hd, ht⟩
        refine ⟨_, rfl, ?_⟩
        replace HY := Lib.hid (show EvAt _ _ _ _ from ht.blk HY.out HNe.out (by decide))
        replace HW := Lib.hid hw
        replace HB2 := Lib.hid (HB2.out.trans hd)
        clear hw hd ht
        refine hK.out _ _ (HY.out.S) (fun hHeld => ?_)
        clear hK K
        refine norm_ (a' := ?_) ?_ ?_
        rotate_left
        · show Act.put _ (some 77) _ = _
          simp (maxSteps := 4000000) only [Act.put, List.setIfInBounds_toArray, List.set_cons_zero, List.set_cons_succ, i64_w, i32_w]
          try rfl
        refine done_ (done_of HT_.out (by kernel_rfl)) ?_
        clear c2
        go_wp2_with fail
        go_meet
        case rel => rw [← HF.out]; exact ⟨HW.out, HB2.out⟩
      · skip
        have c2 : IntKind.u64.wrap code = (uN code : Int) := uN_wrap code
        go_upto_region 19 with (fail)
        have hS := HY.out.S
        replace HY := Lib.hid (show EvAt w5.drew _ _ _ from HY.out)
        replace HW := Lib.hid (show WrF w5.drew _ _ _ from HW.out)
        replace HB2 := Lib.hid (below_drew1 HB2.out)
        refine start_ (n := 11) (S := fun w' => w'.cell? ⟨be, 0, none⟩ = some (.int .u8 (ek : Int)) ∧ w'.cell? ⟨be, 1, none⟩ = some (.int .u64 (key : Int)) ∧ w'.cell? ⟨be, 2, none⟩ = some (.int .i64 ref) ∧ w'.cell? ⟨be, 3, none⟩ = some (.int .i64 amt) ∧ w'.cell? ⟨be, 4, none⟩ = some (.int .i64 code) ∧ w'.cell? ⟨be, 5, none⟩ = some (.int .u8 (ak : Int)) ∧ w'.cell? ⟨be, 6, none⟩ = some (.string name) ∧ w'.cell? ⟨be, 7, none⟩ = some (.slice a xs.length c)) (ds := []) #[false, false, false, false, false, false, false, false, false, false, false] (by kernel_rfl) rfl rfl hS (fun hHeld => ?_)
        refine with_tabW rg8_19.tab rg8_19.bits (fun HT_ HW_ => ?_)
        generalize w5.drew = w' at HY HW HB2 hHeld ⊢
        refine pure_ (i := 0) (N := some 67) (v := ?_) (a' := ?_) #[true, false, false, false, false, false, false, false, false, false, false] rfl rfl (any_of HT_.out (by kernel_rfl)) (fun _ _ _ h => h) (Or.inl ⟨by rfl, ?_⟩) ?_ ?_
        rotate_left
        · intro w'
          go_simp
          try with_reducible rfl
        rotate_left
        · simp (maxSteps := 4000000) only [Act.put, List.setIfInBounds_toArray, List.set_cons_zero, List.set_cons_succ, i64_w, i32_w]
          try rfl
        refine pure_ (i := 3) (N := some 70) (v := ?_) (a' := ?_) #[true, false, false, true, false, false, false, false, false, false, false] rfl rfl (any_of HT_.out (by kernel_rfl)) (fun _ _ _ h => h) (Or.inl ⟨by rfl, ?_⟩) ?_ ?_
        rotate_left
        · intro w'
          go_simp
          try with_reducible rfl
        rotate_left
        · simp (maxSteps := 4000000) only [Act.put, List.setIfInBounds_toArray, List.set_cons_zero, List.set_cons_succ, i64_w, i32_w]
          try rfl
        refine pure_ (i := 6) (N := some 73) (v := ?_) (a' := ?_) #[true, false, false, true, false, false, true, false, false, false, false] rfl rfl (any_of HT_.out (by kernel_rfl)) (fun _ _ _ h => h) (Or.inl ⟨by rfl, ?_⟩) ?_ ?_
        rotate_left
        · intro w'
          go_simp
          try with_reducible rfl
        rotate_left
        · simp (maxSteps := 4000000) only [Act.put, List.setIfInBounds_toArray, List.set_cons_zero, List.set_cons_succ, i64_w, i32_w]
          try rfl
        refine pure_ (i := 7) (N := some 74) (v := ?_) (a' := ?_) #[true, false, false, true, false, false, true, true, false, false, false] rfl rfl (any_of HT_.out (by kernel_rfl)) (fun _ _ _ h => h) (Or.inl ⟨by rfl, ?_⟩) ?_ ?_
        rotate_left
        · intro w'
          go_simp
          try with_reducible rfl
        rotate_left
        · simp (maxSteps := 4000000) only [Act.put, List.setIfInBounds_toArray, List.set_cons_zero, List.set_cons_succ, i64_w, i32_w]
          try rfl
        refine take_ (i := 1) (N := some 68) (v := ?_) (a' := ?_) #[true, true, false, true, false, false, true, true, false, false, false] rfl rfl (take_ofW HT_.out HW_.out (by kernel_rfl)) (fun _ _ _ h => h) (Or.inl ⟨by rfl, ?_⟩) hHeld ?_ ?_
        rotate_left
        · intro w' hw_
          try dsimp only at hw_
          obtain ⟨x0, x1, x2, x3, x4, x5, x6, x7⟩ := hw_
          go_simp
          try with_reducible rfl
        rotate_left
        · simp (maxSteps := 4000000) only [Act.put, List.setIfInBounds_toArray, List.set_cons_zero, List.set_cons_succ, i64_w, i32_w]
          try rfl
        refine take_ (i := 4) (N := some 71) (v := ?_) (a' := ?_) #[true, true, false, true, true, false, true, true, false, false, false] rfl rfl (take_ofW HT_.out HW_.out (by kernel_rfl)) (fun _ _ _ h => h) (Or.inl ⟨by rfl, ?_⟩) hHeld ?_ ?_
        rotate_left
        · intro w' hw_
          try dsimp only at hw_
          obtain ⟨x0, x1, x2, x3, x4, x5, x6, x7⟩ := hw_
          go_simp
          try with_reducible rfl
        rotate_left
        · simp (maxSteps := 4000000) only [Act.put, List.setIfInBounds_toArray, List.set_cons_zero, List.set_cons_succ, i64_w, i32_w]
          try rfl
        refine take_ (i := 8) (N := some 75) (v := ?_) (a' := ?_) #[true, true, false, true, true, false, true, true, true, false, false] rfl rfl (take_ofW HT_.out HW_.out (by kernel_rfl)) (fun _ _ _ h => h) (Or.inl ⟨by rfl, ?_⟩) hHeld ?_ ?_
        rotate_left
        · intro w' hw_
          try dsimp only at hw_
          obtain ⟨x0, x1, x2, x3, x4, x5, x6, x7⟩ := hw_
          go_simp
          try with_reducible rfl
        rotate_left
        · simp (maxSteps := 4000000) only [Act.put, List.setIfInBounds_toArray, List.set_cons_zero, List.set_cons_succ, i64_w, i32_w]
          try rfl
        refine pure_ (i := 9) (N := some 76) (v := ?_) (a' := ?_) #[true, true, false, true, true, false, true, true, true, true, false] rfl rfl (any_of HT_.out (by kernel_rfl)) (fun _ _ _ h => h) (Or.inl ⟨by rfl, ?_⟩) ?_ ?_
        rotate_left
        · intro w'
          go_simp
          try with_reducible rfl
        rotate_left
        · simp (maxSteps := 4000000) only [Act.put, List.setIfInBounds_toArray, List.set_cons_zero, List.set_cons_succ, i64_w, i32_w]
          try rfl
        refine one_ (i := 2) (N := some 69) #[true, true, true, true, true, false, true, true, true, true, false] rfl rfl (one_of HT_.out (by kernel_rfl)) (by decide) (fun K hK => ?_)
        refine goes_ Try.func18 (by kernel_rfl) rfl #[.pointer (some ⟨g, 0, none⟩), .int .u64 (key : Int), .int .i64 8] (by rfl) rfl rfl (by (try simp only [List.map_toArray, List.map_cons, List.map_nil]); first | done | rfl) ?_
        refine (wrF_num g g [.num 8 1] (key) 8 8 rfl w' HW.out (by simp) (show key < 18446744073709551616 from HQ.out.key) (by decide)).mono ?_
        rintro e w' ⟨rfl, hw, hd, ht⟩
        refine ⟨_, rfl, ?_⟩
        replace HY := Lib.hid (show EvAt _ _ _ _ from ht.blk HY.out HNe.out (by decide))
        replace HW := Lib.hid hw
        replace HB2 := Lib.hid (HB2.out.trans hd)
        clear hw hd ht
        refine hK.out _ _ (HY.out.S) (fun hHeld => ?_)
        clear hK K
        refine norm_ (a' := ?_) ?_ ?_
        rotate_left
        · show Act.put _ (some 69) _ = _
          simp (maxSteps := 4000000) only [Act.put, List.setIfInBounds_toArray, List.set_cons_zero, List.set_cons_succ, i64_w, i32_w]
          try rfl
        refine one_ (i := 5) (N := some 72) #[true, true, true, true, true, true, true, true, true, true, false] rfl rfl (one_of HT_.out (by kernel_rfl)) (by decide) (fun K hK => ?_)
        refine goes_ Try.func21 (by kernel_rfl) rfl #[.pointer (some ⟨g, 0, none⟩), .int .i64 amt] (by rfl) rfl rfl (by (try simp only [List.map_toArray, List.map_cons, List.map_nil]); first | done | rfl) ?_
        refine (wrF_sig g g ([.num 8 1] ++ [.num key 8]) amt w' HW.out (by simp)).mono ?_
        rintro e w' ⟨rfl, hw, hd, ht⟩
        refine ⟨_, rfl, ?_⟩
        replace HY := Lib.hid (show EvAt _ _ _ _ from ht.blk HY.out HNe.out (by decide))
        replace HW := Lib.hid hw
        replace HB2 := Lib.hid (HB2.out.trans hd)
        clear hw hd ht
        refine hK.out _ _ (HY.out.S) (fun hHeld => ?_)
        clear hK K
        refine norm_ (a' := ?_) ?_ ?_
        rotate_left
        · show Act.put _ (some 72) _ = _
          simp (maxSteps := 4000000) only [Act.put, List.setIfInBounds_toArray, List.set_cons_zero, List.set_cons_succ, i64_w, i32_w]
          try rfl
        refine one_ (i := 10) (N := some 77) #[true, true, true, true, true, true, true, true, true, true, true] rfl rfl (one_of HT_.out (by kernel_rfl)) (by decide) (fun K hK => ?_)
        refine goes_ Try.func18 (by kernel_rfl) rfl #[.pointer (some ⟨g, 0, none⟩), .int .u64 (uN code : Int), .int .i64 2] (by rfl) rfl rfl (by (try simp only [List.map_toArray, List.map_cons, List.map_nil]); first | done | rfl) ?_
        refine (wrF_num g g ([.num 8 1] ++ [.num key 8] ++ [.sig (uN amt)]) (uN code) 2 2 rfl w' HW.out (by simp) (uN_lt _) (by decide)).mono ?_
        rintro e w' ⟨rfl, hw, hd, ht⟩
        refine ⟨_, rfl, ?_⟩
        replace HY := Lib.hid (show EvAt _ _ _ _ from ht.blk HY.out HNe.out (by decide))
        replace HW := Lib.hid hw
        replace HB2 := Lib.hid (HB2.out.trans hd)
        clear hw hd ht
        refine hK.out _ _ (HY.out.S) (fun hHeld => ?_)
        clear hK K
        refine norm_ (a' := ?_) ?_ ?_
        rotate_left
        · show Act.put _ (some 77) _ = _
          simp (maxSteps := 4000000) only [Act.put, List.setIfInBounds_toArray, List.set_cons_zero, List.set_cons_succ, i64_w, i32_w]
          try rfl
        refine done_ (done_of HT_.out (by kernel_rfl)) ?_
        clear c2
        go_wp2_with fail
        go_meet
        case rel => rw [← HF.out]; exact ⟨HW.out, HB2.out⟩
      · skip
        have y := HY.out.S
        obtain ⟨y0, y1, y2, y3, y4, y5, y6, y7⟩ := y
        go_wp2_with fail
        clear y0 y1 y2 y3 y4 y5 y6 y7
        refine (wrF_num g g [.num 9 1] key 8 8 rfl w5 HW.out (by simp) (show key < 18446744073709551616 from HQ.out.key) (by decide)).mono ?_
        rintro e w6 ⟨rfl, hw, hd, ht⟩
        replace HY := Lib.hid (show EvAt _ _ _ _ from ht.blk HY.out HNe.out (by decide))
        replace HW := Lib.hid hw; clear hw
        replace HB2 := Lib.hid (HB2.out.trans hd); clear hd ht
        have y := HY.out.S
        obtain ⟨y0, y1, y2, y3, y4, y5, y6, y7⟩ := y
        go_wp2_with fail
        clear y0 y1 y2 y3 y4 y5 y6 y7
        refine (wrF_lines xs HN.out (.slice a xs.length c) g g ([.num 9 1] ++ [.num key 8]) w w6 HR.out (HB.out.trans (HB2.out.mono HBs.out)) HBs.out HW.out (by simp)).mono ?_
        rintro e w7 ⟨rfl, hw, hd, ht⟩
        replace HW := Lib.hid hw; clear hw
        replace HB2 := Lib.hid (HB2.out.trans hd); clear hd ht
        go_wp2_with fail
        go_meet
        case rel => rw [← HF.out]; exact ⟨HW.out, HB2.out⟩
      · skip
        have c4 : IntKind.u64.wrap n = (uN n : Int) := uN_wrap n
        have z := HX.out.cells
        obtain ⟨z0, z1, z2, z3, z4, z5, z6, z7, z8, z9⟩ := z
        simp only at z9
        clear z0 z1 z2 z3 z4 z5 z6 z7 z8
        go_wp2_with fail
        clear z9 c4
        refine (wrF_num g g [.num 10 1] (uN n) 2 2 rfl w5 HW.out (by simp) (uN_lt _) (by decide)).mono ?_
        rintro e w6 ⟨rfl, hw, hd, ht⟩
        replace HY := Lib.hid (show EvAt _ _ _ _ from ht.blk HY.out HNe.out (by decide))
        replace HW := Lib.hid hw; clear hw
        replace HB2 := Lib.hid (HB2.out.trans hd); clear hd ht
        go_wp2_with fail
        go_meet
        case rel => rw [← HF.out]; exact ⟨HW.out, HB2.out⟩
      · skip
        have c4 : IntKind.u64.wrap n = (uN n : Int) := uN_wrap n
        have z := HX.out.cells
        obtain ⟨z0, z1, z2, z3, z4, z5, z6, z7, z8, z9⟩ := z
        simp only at z9
        clear z0 z1 z2 z3 z4 z5 z6 z7 z8
        go_wp2_with fail
        clear z9 c4
        refine (wrF_num g g [.num 11 1] (uN n) 4 4 rfl w5 HW.out (by simp) (uN_lt _) (by decide)).mono ?_
        rintro e w6 ⟨rfl, hw, hd, ht⟩
        replace HY := Lib.hid (show EvAt _ _ _ _ from ht.blk HY.out HNe.out (by decide))
        replace HW := Lib.hid hw; clear hw
        replace HB2 := Lib.hid (HB2.out.trans hd); clear hd ht
        go_wp2_with fail
        go_meet
        case rel => rw [← HF.out]; exact ⟨HW.out, HB2.out⟩
      · skip
        have c4 : IntKind.u64.wrap n = (uN n : Int) := uN_wrap n
        have z := HX.out.cells
        obtain ⟨z0, z1, z2, z3, z4, z5, z6, z7, z8, z9⟩ := z
        simp only at z9
        clear z0 z1 z2 z3 z4 z5 z6 z7 z8
        go_wp2_with fail
        clear z9 c4
        refine (wrF_num g g [.num 12 1] (uN n) 4 4 rfl w5 HW.out (by simp) (uN_lt _) (by decide)).mono ?_
        rintro e w6 ⟨rfl, hw, hd, ht⟩
        replace HY := Lib.hid (show EvAt _ _ _ _ from ht.blk HY.out HNe.out (by decide))
        replace HW := Lib.hid hw; clear hw
        replace HB2 := Lib.hid (HB2.out.trans hd); clear hd ht
        go_wp2_with fail
        go_meet
        case rel => rw [← HF.out]; exact ⟨HW.out, HB2.out⟩
      · skip
        go_wp2_with fail
        go_meet
        case rel => rw [← HF.out]; exact ⟨HW.out, HB2.out⟩
      · skip
        go_wp2_with fail
        go_meet
        case rel => rw [← HF.out]; exact ⟨HW.out, HB2.out⟩
    case rest =>
      obtain ⟨hw, hd⟩ := hcut
      have HW2 := Lib.hid hw; clear hw
      replace HB := Lib.hid (HB.out.trans (hd.mono HBs.out)); clear hd
      go_wp2_with fail
      refine (wrF_bytes g g F wc HW2.out).mono ?_
      rintro e w7 ⟨rfl, hd⟩
      replace HB := Lib.hid (chain2 HB.out hd); clear hd
      have hV := HV.out
      cases ho : flOk F with
      | true =>
        rw [ho, if_pos rfl] at hV
        subst hV
        rw [if_pos rfl, if_pos rfl]
        go_wp2
        go_ret2
        exact ⟨rfl, HB.out⟩
      | false =>
        rw [ho, if_neg (by decide)] at hV
        subst hV
        rw [if_neg (by decide), if_neg (by decide)]
        go_wp2
        go_ret2
        exact ⟨rfl, HB.out⟩
  · rw [decide_eq_false hk]
    have hV := HV.out
    rw [if_neg hk] at hV
    subst hV
    go_wp2
    go_ret2
    exact ⟨rfl, HB.out⟩
end Go.Proofs.Ytepgdjkmobngcaa
