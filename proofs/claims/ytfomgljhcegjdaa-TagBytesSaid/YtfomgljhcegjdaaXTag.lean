/- tag: what the functions do. No conditions beyond the form's own reach. -/
import Derived.Test.YtfomgljhcegjdaaXTagL
import Derived.Test.YtfomgljhcegjdaaXPolyWakes
import Derived.Test.YtfomgljhcegjdaaXCurR
import Derived.Test.YtfomgljhcegjdaaXShelf06
import Derived.Test.YtfomgljhcegjdaaPx5
namespace Go.Proofs.Ytfomgljhcegjdaa
open Go.RowKit Go.Lib Go.Proofs.Ytfomgljhcegjdaa.P Go.Proofs.Ytfomgljhcegjdaa.BeS Go.Proofs.Ytfomgljhcegjdaa.PoS Go.Proofs.YtfomgljhcegjdaaW.PrintWords Go.Proofs.YtfomgljhcegjdaaW.PrintLast Go.Proofs.YtfomgljhcegjdaaW.PrintMore
set_option linter.unusedVariables false
set_option linter.unusedSimpArgs false
def rg21_2.T : Bool × List (List Nat × List Nat) := (true, [([], []), ([0], [0]), ([1], [1]), ([2], [2]), ([], []), ([4], [4]), ([5], [5]), ([3, 6, 3], [3, 6]), ([], []), ([8], [8]), ([7, 9, 7], [7, 9])])
def rg21_2.B : List Nat := [0, 1, 3, 7, 0, 16, 48, 127, 0, 256, 1023]
theorem rg21_2.tab : rtab .any (opsOf Try.f21 2) = rg21_2.T := by kernel_rfl
theorem rg21_2.bits : waitsOk rg21_2.T.2 rg21_2.B = true := by kernel_rfl
def rg21_3.T : Bool × List (List Nat × List Nat) := (true, [([], []), ([0], [0]), ([1], [1]), ([2], [2]), ([], []), ([4], [4]), ([5], [5]), ([3, 6, 3], [3, 6]), ([7, 7], [7]), ([8], [8]), ([9], [9]), ([9], [9]), ([10, 8, 0, 1, 2, 3, 4, 5, 6, 7, 8, 9, 10], [10]), ([11, 12, 0, 1, 2, 3, 4, 5, 6, 7, 8, 9, 10, 11, 12], [11])])
def rg21_3.B : List Nat := [0, 1, 3, 7, 0, 16, 48, 127, 255, 511, 1023, 1023, 2047, 8191]
theorem rg21_3.tab : rtab .any (opsOf Try.f21 3) = rg21_3.T := by kernel_rfl
theorem rg21_3.bits : waitsOk rg21_3.T.2 rg21_3.B = true := by kernel_rfl
theorem wr_newT (w : World) : WrAt (w.alloc (.cells #[.slice none 0 0, .bool false] 78)) w.heap.size w.heap.size [] false :=
  ⟨Nat.le_refl _, .slice none 0 0, Box2.new w _ _ _, World.ownsRow_nil _ _ _ _, by simp [Value.ownBlock]⟩
theorem wr_in (base : Nat) (o : Option Nat) (l : List UInt8) (n wd : Nat) (wi : Int) (hwi : wi = (wd : Int)) (h1 : 1 ≤ wd) (h8 : wd ≤ 8) (hn : n < 256 ^ wd) (w : World) (h : WrO w base o l false) (hl : l.length + 8 ≤ 1000000) :
    Calls Try.prog 33 #[wrP o, .int .u64 (n : Int), .int .i64 wi] w fun x w' => x = .returned (wrP o) ∧ WrO w' base o (l ++ putL n wd) false ∧ Below base w w' := by
  subst hwi
  have hn64 : n < 18446744073709551616 := Nat.lt_of_lt_of_le hn (Nat.le_trans (Nat.pow_le_pow_right (by decide) h8) (by decide))
  refine (wr_number base o l false n (wd : Int) w h hl hn64 (by omega) (by omega)).mono ?_
  rintro e w' ⟨rfl, hw, hb⟩
  have e1 : putB n (wd : Int) = putL n wd := by unfold putB; rw [if_pos ⟨by omega, by omega⟩, Int.toNat_natCast]
  have e2 : fits n (wd : Int) = true := by unfold fits; rw [decide_eq_true_iff]; exact ⟨by omega, by omega, by rw [Int.toNat_natCast]; exact hn⟩
  rw [e1, e2] at hw
  exact ⟨rfl, hw, hb⟩
theorem wr_bytes_f (base g : Nat) (l : List UInt8) (S : ByteArray) (hS : str l = S) (w : World) (h : WrO w base (some g) l false) :
    Calls Try.prog 34 #[.pointer (some ⟨g, 0, none⟩)] w fun x w' => x = .returned (.tuple #[.string S, .int .i64 0]) ∧ Below w.heap.size w w' := by
  subst hS
  refine (wr_bytes base g l false w (h.2 g rfl)).mono ?_
  rintro e w' ⟨rfl, hb⟩
  exact ⟨rfl, hb⟩
theorem repeat_zeros (n : Nat) : (⟨(Lib.repeatL (⟨#[0]⟩ : ByteArray).data.toList n).toArray⟩ : ByteArray) = str (List.replicate n 0) := by
  have h : ∀ n, Lib.repeatL [(0 : UInt8)] n = List.replicate n 0 := by
    intro n
    induction n with
    | zero => rfl
    | succ n ih => rw [List.replicate_succ, ← ih]; rfl
  show (⟨(Lib.repeatL [(0 : UInt8)] n).toArray⟩ : ByteArray) = _
  rw [h]; rfl
theorem ret_strT {a b : ByteArray} (h : a = b) : Ending.returned (.string a) = .returned (.string b) := by rw [h]
theorem ret_strE {a b : ByteArray} {c : Int} (h : a = b) : Ending.returned (.tuple #[.string a, .int .i64 c]) = .returned (.tuple #[.string b, .int .i64 c]) := by rw [h]
def tgV (t : Tg) : Value := .agg #[.int .u8 (t.kind : Int), .int .i64 t.log, .int .u64 (t.seq : Int), .int .i64 t.pos, .int .i64 t.len]
theorem tg_cells {w : World} {b T : Nat} {c0 c1 c2 c3 c4 : Value} (h : w.heap[b]? = some (.cells #[c0, c1, c2, c3, c4] T (0, 0))) : w.cell? ⟨b, 0, none⟩ = some c0 ∧ w.cell? ⟨b, 1, none⟩ = some c1 ∧ w.cell? ⟨b, 2, none⟩ = some c2 ∧ w.cell? ⟨b, 3, none⟩ = some c3 ∧ w.cell? ⟨b, 4, none⟩ = some c4 := by
  refine ⟨?_, ?_, ?_, ?_, ?_⟩ <;> (unfold World.cell?; rw [h]; rfl)
theorem right_f (t : Tg) : tag_Tag_Right.f (t.kind : Int) t.log (t.seq : Int) t.pos t.len = some t.right := by
  obtain ⟨k, l, s, p, n⟩ := t
  unfold tag_Tag_Right.f Tg.right
  simp only
  repeat' split
  all_goals (congr 1; simp only [eq_comm (a := false), decide_eq_false_iff_not, decide_eq_decide]; omega)
theorem u64_wrapN (n : Nat) (hn : n < 18446744073709551616) : IntKind.u64.wrap (n : Int) = (n : Int) := wrap_u64_in _ (by omega) (by omega)
set_option maxHeartbeats 8000000 in
theorem bytes_ok (t : Tg) (hr : t.right = true) (hs : t.seq < 18446744073709551616) (w : World) :
    Calls Try.prog 21 #[tgV t] w fun e w' => e = .returned (.string (str (bytesT t))) ∧ Below w.heap.size w w' := by
  obtain ⟨h1, h2, h3, h4⟩ := (right_iff t).1 hr
  obtain ⟨k, l, s, p, n⟩ := t
  simp only at h1 h2 h3 h4 hs
  obtain ⟨l, rfl⟩ := Int.eq_ofNat_of_zero_le h2.1
  obtain ⟨p, rfl⟩ := Int.eq_ofNat_of_zero_le h4.1
  obtain ⟨n, rfl⟩ := Int.eq_ofNat_of_zero_le (show 0 ≤ n by omega)
  have HR := Lib.hid (show k < 256 ∧ l < 65536 ∧ s < 18446744073709551616 ∧ p < 256 ∧ n < 256 from ⟨by omega, by omega, hs, by omega, by omega⟩)
  clear h1 h2 h3 h4 hr hs
  have HE := Lib.hid (show bytesT ⟨k, (l : Int), s, (p : Int), (n : Int)⟩ = 255 :: (putL k 1 ++ (putL l 2 ++ (putL s 8 ++ (putL p 1 ++ (putL n 1 ++ List.replicate 14 0))))) from rfl)
  generalize bytesT ⟨k, (l : Int), s, (p : Int), (n : Int)⟩ = bT at HE ⊢
  unfold tgV
  simp only
  have hX := heap_alloc_new w (.cells #[.int .u8 (k : Int), .int .i64 (l : Int), .int .u64 (s : Int), .int .i64 (p : Int), .int .i64 (n : Int)] 37)
  have hb1 := below_alloc (Below.refl w.heap.size w) (.cells #[.int .u8 (k : Int), .int .i64 (l : Int), .int .u64 (s : Int), .int .i64 (p : Int), .int .i64 (n : Int)] 37)
  have hlt : w.heap.size < (w.alloc (.cells #[.int .u8 (k : Int), .int .i64 (l : Int), .int .u64 (s : Int), .int .i64 (p : Int), .int .i64 (n : Int)] 37)).heap.size := by simp
  obtain ⟨w1, hw1⟩ : ∃ w1, w1 = w.alloc (.cells #[.int .u8 (k : Int), .int .i64 (l : Int), .int .u64 (s : Int), .int .i64 (p : Int), .int .i64 (n : Int)] 37) := ⟨_, rfl⟩
  have HW := wr_newT w1
  have hX2 : (w1.alloc (.cells #[.slice none 0 0, .bool false] 78)).heap[w.heap.size]? = some (.cells #[.int .u8 (k : Int), .int .i64 (l : Int), .int .u64 (s : Int), .int .i64 (p : Int), .int .i64 (n : Int)] 37 (0, 0)) := blk_alloc (hw1 ▸ hX) _
  have HB := Lib.hid (show Below w.heap.size w (w1.alloc (.cells #[.slice none 0 0, .bool false] 78)) from below_then (hw1 ▸ hb1) (by rw [hw1]; simp) (below_alloc (Below.refl w1.heap.size w1) _))
  have HSz : w1.heap.size = w.heap.size + 1 := by rw [hw1]; simp
  rw [hw1] at HW hX2 HB HSz
  clear hX hb1 hlt hw1 w1
  replace HW := Lib.hid HW
  have HX := Lib.hid hX2; clear hX2
  replace HSz := Lib.hid HSz
  go_enter Try.func21, Try.ntmps21
  go_wp2_with fail
  rw [HSz.out] at HW
  replace HW := Lib.hid HW.out.o
  generalize (w.alloc (.cells #[.int .u8 (k : Int), .int .i64 (l : Int), .int .u64 (s : Int), .int .i64 (p : Int), .int .i64 (n : Int)] 37)).alloc (.cells #[.slice none 0 0, .bool false] 78) = w2 at HW HX HB ⊢
  clear HSz
  obtain ⟨bx, hbx⟩ : ∃ bx, bx = w.heap.size := ⟨_, rfl⟩
  rw [← hbx] at HW HX ⊢
  have HLe := Lib.hid (show w.heap.size ≤ bx + 1 by rw [hbx]; exact Nat.le_succ _)
  have HBX := Lib.hid hbx; clear hbx
  obtain ⟨g, hg⟩ : ∃ g, g = bx + 1 := ⟨_, rfl⟩
  rw [show (some (bx + 1)) = some g from by rw [hg]] at HW
  rw [show (⟨bx + 1, 0, none⟩ : Addr) = ⟨g, 0, none⟩ from by rw [hg]]
  have HG := Lib.hid hg; clear hg
  have e1 := u64_wrapN k (by have := HR.out; omega)
  have e2 := u64_wrapN l (by have := HR.out; omega)
  have e3 := u64_wrapN p (by have := HR.out; omega)
  have e4 := u64_wrapN n (by have := HR.out; omega)
  have hS : w2.drew.heap[bx]? = some (.cells #[.int .u8 (k : Int), .int .i64 (l : Int), .int .u64 (s : Int), .int .i64 (p : Int), .int .i64 (n : Int)] 37 (0, 0)) := HX.out
  replace HW := Lib.hid (show WrO w2.drew (bx + 1) (some g) [] false from HW.out)
  replace HB := Lib.hid (show Below w.heap.size w w2.drew from below_drew1 HB.out)
  clear HX
  refine start_ (n := 11) (S := fun w' => w'.heap[bx]? = some (.cells #[.int .u8 (k : Int), .int .i64 (l : Int), .int .u64 (s : Int), .int .i64 (p : Int), .int .i64 (n : Int)] 37 (0, 0))) (ds := []) #[false, false, false, false, false, false, false, false, false, false, false] (by kernel_rfl) rfl rfl hS (fun hHeld => ?_)
  refine with_tabW rg21_2.tab rg21_2.bits (fun HT_ HW_ => ?_)
  generalize w2.drew = w' at HW HB hHeld ⊢
  refine pure_ (i := 0) (N := some 6) (v := ?_) (a' := ?_) #[true, false, false, false, false, false, false, false, false, false, false] rfl rfl (any_of HT_.out (by kernel_rfl)) (fun _ _ _ h => h) (Or.inl ⟨by rfl, ?_⟩) ?_ ?_
  rotate_left
  · intro w'
    go_simp
    try with_reducible rfl
  rotate_left
  · simp (maxSteps := 4000000) only [Act.put, List.setIfInBounds_toArray, List.set_cons_zero, List.set_cons_succ, i64_w, i32_w]
    try rfl
  refine pure_ (i := 4) (N := some 10) (v := ?_) (a' := ?_) #[true, false, false, false, true, false, false, false, false, false, false] rfl rfl (any_of HT_.out (by kernel_rfl)) (fun _ _ _ h => h) (Or.inl ⟨by rfl, ?_⟩) ?_ ?_
  rotate_left
  · intro w'
    go_simp
    try with_reducible rfl
  rotate_left
  · simp (maxSteps := 4000000) only [Act.put, List.setIfInBounds_toArray, List.set_cons_zero, List.set_cons_succ, i64_w, i32_w]
    try rfl
  refine pure_ (i := 8) (N := some 14) (v := ?_) (a' := ?_) #[true, false, false, false, true, false, false, false, true, false, false] rfl rfl (any_of HT_.out (by kernel_rfl)) (fun _ _ _ h => h) (Or.inl ⟨by rfl, ?_⟩) ?_ ?_
  rotate_left
  · intro w'
    go_simp
    try with_reducible rfl
  rotate_left
  · simp (maxSteps := 4000000) only [Act.put, List.setIfInBounds_toArray, List.set_cons_zero, List.set_cons_succ, i64_w, i32_w]
    try rfl
  refine take_ (i := 1) (N := some 7) (v := ?_) (a' := ?_) #[true, true, false, false, true, false, false, false, true, false, false] rfl rfl (take_ofW HT_.out HW_.out (by kernel_rfl)) (fun _ _ _ h => h) (Or.inl ⟨by rfl, ?_⟩) hHeld ?_ ?_
  rotate_left
  · intro w' hw_
    try dsimp only at hw_
    obtain ⟨x0, x1, x2, x3, x4⟩ := tg_cells hw_
    go_simp
    try with_reducible rfl
  rotate_left
  · simp (maxSteps := 4000000) only [Act.put, List.setIfInBounds_toArray, List.set_cons_zero, List.set_cons_succ, i64_w, i32_w]
    try rfl
  refine pure_ (i := 2) (N := some 8) (v := ?_) (a' := ?_) #[true, true, true, false, true, false, false, false, true, false, false] rfl rfl (any_of HT_.out (by kernel_rfl)) (fun _ _ _ h => h) (Or.inl ⟨by rfl, ?_⟩) ?_ ?_
  rotate_left
  · intro w'
    go_simp
    try with_reducible rfl
  rotate_left
  · simp (maxSteps := 4000000) only [Act.put, List.setIfInBounds_toArray, List.set_cons_zero, List.set_cons_succ, i64_w, i32_w]
    try rfl
  refine take_ (i := 5) (N := some 11) (v := ?_) (a' := ?_) #[true, true, true, false, true, true, false, false, true, false, false] rfl rfl (take_ofW HT_.out HW_.out (by kernel_rfl)) (fun _ _ _ h => h) (Or.inl ⟨by rfl, ?_⟩) hHeld ?_ ?_
  rotate_left
  · intro w' hw_
    try dsimp only at hw_
    obtain ⟨x0, x1, x2, x3, x4⟩ := tg_cells hw_
    go_simp
    try with_reducible rfl
  rotate_left
  · simp (maxSteps := 4000000) only [Act.put, List.setIfInBounds_toArray, List.set_cons_zero, List.set_cons_succ, i64_w, i32_w]
    try rfl
  refine pure_ (i := 6) (N := some 12) (v := ?_) (a' := ?_) #[true, true, true, false, true, true, true, false, true, false, false] rfl rfl (any_of HT_.out (by kernel_rfl)) (fun _ _ _ h => h) (Or.inl ⟨by rfl, ?_⟩) ?_ ?_
  rotate_left
  · intro w'
    go_simp
    try with_reducible rfl
  rotate_left
  · simp (maxSteps := 4000000) only [Act.put, List.setIfInBounds_toArray, List.set_cons_zero, List.set_cons_succ, i64_w, i32_w]
    try rfl
  refine take_ (i := 9) (N := some 15) (v := ?_) (a' := ?_) #[true, true, true, false, true, true, true, false, true, true, false] rfl rfl (take_ofW HT_.out HW_.out (by kernel_rfl)) (fun _ _ _ h => h) (Or.inl ⟨by rfl, ?_⟩) hHeld ?_ ?_
  rotate_left
  · intro w' hw_
    try dsimp only at hw_
    obtain ⟨x0, x1, x2, x3, x4⟩ := tg_cells hw_
    go_simp
    try with_reducible rfl
  rotate_left
  · simp (maxSteps := 4000000) only [Act.put, List.setIfInBounds_toArray, List.set_cons_zero, List.set_cons_succ, i64_w, i32_w]
    try rfl
  refine one_ (i := 3) (N := some 9) #[true, true, true, true, true, true, true, false, true, true, false] rfl rfl (one_of HT_.out (by kernel_rfl)) (by decide) (fun K hK => ?_)
  refine goes_ Try.func33 (by kernel_rfl) rfl #[(wrP (some g)), (.int .u64 (k : Int)), (.int .i64 1)] (by rfl) rfl rfl (by (try simp only [List.map_toArray, List.map_cons, List.map_nil]); first | done | rfl) ?_
  refine (wr_in (bx + 1) (some g) _ k 1 1 rfl (by decide) (by decide) (by have := HR.out; omega) w' HW.out (by simp [putL_length])).mono ?_
  rintro e w' ⟨rfl, hw, hd⟩
  refine ⟨_, rfl, ?_⟩
  have hSS := (hd.block _ (Nat.lt_succ_self _)).trans hHeld
  replace HW := Lib.hid hw
  replace HB := Lib.hid (HB.out.trans (hd.mono HLe.out))
  clear hw hd
  refine hK.out _ _ (hSS) (fun hHeld => ?_)
  clear hK K
  refine norm_ (a' := ?_) ?_ ?_
  rotate_left
  · show Act.put _ (some 9) _ = _
    simp (maxSteps := 4000000) only [Act.put, List.setIfInBounds_toArray, List.set_cons_zero, List.set_cons_succ, i64_w, i32_w]
    try rfl
  refine one_ (i := 7) (N := some 13) #[true, true, true, true, true, true, true, true, true, true, false] rfl rfl (one_of HT_.out (by kernel_rfl)) (by decide) (fun K hK => ?_)
  refine goes_ Try.func33 (by kernel_rfl) rfl #[(wrP (some g)), (.int .u64 (l : Int)), (.int .i64 2)] (by rfl) rfl rfl (by (try simp only [List.map_toArray, List.map_cons, List.map_nil]); first | done | rfl) ?_
  refine (wr_in (bx + 1) (some g) _ l 2 2 rfl (by decide) (by decide) (by have := HR.out; omega) w' HW.out (by simp [putL_length])).mono ?_
  rintro e w' ⟨rfl, hw, hd⟩
  refine ⟨_, rfl, ?_⟩
  have hSS := (hd.block _ (Nat.lt_succ_self _)).trans hHeld
  replace HW := Lib.hid hw
  replace HB := Lib.hid (HB.out.trans (hd.mono HLe.out))
  clear hw hd
  refine hK.out _ _ (hSS) (fun hHeld => ?_)
  clear hK K
  refine norm_ (a' := ?_) ?_ ?_
  rotate_left
  · show Act.put _ (some 13) _ = _
    simp (maxSteps := 4000000) only [Act.put, List.setIfInBounds_toArray, List.set_cons_zero, List.set_cons_succ, i64_w, i32_w]
    try rfl
  refine one_ (i := 10) (N := some 16) #[true, true, true, true, true, true, true, true, true, true, true] rfl rfl (one_of HT_.out (by kernel_rfl)) (by decide) (fun K hK => ?_)
  refine goes_ Try.func33 (by kernel_rfl) rfl #[(wrP (some g)), (.int .u64 (s : Int)), (.int .i64 8)] (by rfl) rfl rfl (by (try simp only [List.map_toArray, List.map_cons, List.map_nil]); first | done | rfl) ?_
  refine (wr_in (bx + 1) (some g) _ s 8 8 rfl (by decide) (by decide) (by have := HR.out; omega) w' HW.out (by simp [putL_length])).mono ?_
  rintro e w' ⟨rfl, hw, hd⟩
  refine ⟨_, rfl, ?_⟩
  have hSS := (hd.block _ (Nat.lt_succ_self _)).trans hHeld
  replace HW := Lib.hid hw
  replace HB := Lib.hid (HB.out.trans (hd.mono HLe.out))
  clear hw hd
  refine hK.out _ _ (hSS) (fun hHeld => ?_)
  clear hK K
  refine norm_ (a' := ?_) ?_ ?_
  rotate_left
  · show Act.put _ (some 16) _ = _
    simp (maxSteps := 4000000) only [Act.put, List.setIfInBounds_toArray, List.set_cons_zero, List.set_cons_succ, i64_w, i32_w]
    try rfl
  refine done_ (done_of HT_.out (by kernel_rfl)) ?_
  obtain ⟨Ls, hLs⟩ : ∃ Ls, Ls = [] ++ putL k 1 ++ putL l 2 ++ putL s 8 := ⟨_, rfl⟩
  rw [← hLs] at HW
  have HLn := Lib.hid (show Ls.length = 11 by rw [hLs]; simp [putL_length])
  have HLs := Lib.hid hLs; clear hLs
  have hS : w'.drew.heap[bx]? = some (.cells #[.int .u8 (k : Int), .int .i64 (l : Int), .int .u64 (s : Int), .int .i64 (p : Int), .int .i64 (n : Int)] 37 (0, 0)) := hHeld
  clear hHeld
  go_wp2_with fail
  replace HW := Lib.hid (show WrO w'.drew (bx + 1) (some g) Ls false from HW.out)
  replace HB := Lib.hid (show Below w.heap.size w w'.drew from below_drew1 HB.out)
  generalize w' = w3 at HW HB hS ⊢
  obtain ⟨S1, hS1⟩ : ∃ S1, str (Ls ++ putL p 1 ++ putL n 1) = S1 := ⟨_, rfl⟩
  have hsz : S1.size = 13 := by rw [← hS1, str_size, List.length_append, List.length_append, HLn.out, putL_length, putL_length]
  have HE2 := Lib.hid (show str bT = ({ data := #[255] } : ByteArray) ++ S1 ++ str (List.replicate 14 0) by
    rw [HE.out, ← hS1, HLs.out]
    show _ = str [255] ++ _ ++ _
    rw [str_append, str_append]
    simp)
  have HS1 := Lib.hid hS1; clear hS1
  have Hsz := Lib.hid hsz; clear hsz
  refine start_ (n := 14) (S := fun w' => w'.heap[bx]? = some (.cells #[.int .u8 (k : Int), .int .i64 (l : Int), .int .u64 (s : Int), .int .i64 (p : Int), .int .i64 (n : Int)] 37 (0, 0))) (ds := []) #[false, false, false, false, false, false, false, false, false, false, false, false, false, false] (by kernel_rfl) rfl rfl hS (fun hHeld => ?_)
  refine with_tabW rg21_3.tab rg21_3.bits (fun HT_ HW_ => ?_)
  generalize w3.drew = w' at HW HB hHeld ⊢
  refine pure_ (i := 0) (N := some 18) (v := ?_) (a' := ?_) #[true, false, false, false, false, false, false, false, false, false, false, false, false, false] rfl rfl (any_of HT_.out (by kernel_rfl)) (fun _ _ _ h => h) (Or.inl ⟨by rfl, ?_⟩) ?_ ?_
  rotate_left
  · intro w'
    go_simp
    try with_reducible rfl
  rotate_left
  · simp (maxSteps := 4000000) only [Act.put, List.setIfInBounds_toArray, List.set_cons_zero, List.set_cons_succ, i64_w, i32_w]
    try rfl
  refine pure_ (i := 4) (N := some 22) (v := ?_) (a' := ?_) #[true, false, false, false, true, false, false, false, false, false, false, false, false, false] rfl rfl (any_of HT_.out (by kernel_rfl)) (fun _ _ _ h => h) (Or.inl ⟨by rfl, ?_⟩) ?_ ?_
  rotate_left
  · intro w'
    go_simp
    try with_reducible rfl
  rotate_left
  · simp (maxSteps := 4000000) only [Act.put, List.setIfInBounds_toArray, List.set_cons_zero, List.set_cons_succ, i64_w, i32_w]
    try rfl
  refine take_ (i := 1) (N := some 19) (v := ?_) (a' := ?_) #[true, true, false, false, true, false, false, false, false, false, false, false, false, false] rfl rfl (take_ofW HT_.out HW_.out (by kernel_rfl)) (fun _ _ _ h => h) (Or.inl ⟨by rfl, ?_⟩) hHeld ?_ ?_
  rotate_left
  · intro w' hw_
    try dsimp only at hw_
    obtain ⟨x0, x1, x2, x3, x4⟩ := tg_cells hw_
    go_simp
    try with_reducible rfl
  rotate_left
  · simp (maxSteps := 4000000) only [Act.put, List.setIfInBounds_toArray, List.set_cons_zero, List.set_cons_succ, i64_w, i32_w]
    try rfl
  refine pure_ (i := 2) (N := some 20) (v := ?_) (a' := ?_) #[true, true, true, false, true, false, false, false, false, false, false, false, false, false] rfl rfl (any_of HT_.out (by kernel_rfl)) (fun _ _ _ h => h) (Or.inl ⟨by rfl, ?_⟩) ?_ ?_
  rotate_left
  · intro w'
    go_simp
    try with_reducible rfl
  rotate_left
  · simp (maxSteps := 4000000) only [Act.put, List.setIfInBounds_toArray, List.set_cons_zero, List.set_cons_succ, i64_w, i32_w]
    try rfl
  refine take_ (i := 5) (N := some 23) (v := ?_) (a' := ?_) #[true, true, true, false, true, true, false, false, false, false, false, false, false, false] rfl rfl (take_ofW HT_.out HW_.out (by kernel_rfl)) (fun _ _ _ h => h) (Or.inl ⟨by rfl, ?_⟩) hHeld ?_ ?_
  rotate_left
  · intro w' hw_
    try dsimp only at hw_
    obtain ⟨x0, x1, x2, x3, x4⟩ := tg_cells hw_
    go_simp
    try with_reducible rfl
  rotate_left
  · simp (maxSteps := 4000000) only [Act.put, List.setIfInBounds_toArray, List.set_cons_zero, List.set_cons_succ, i64_w, i32_w]
    try rfl
  refine pure_ (i := 6) (N := some 24) (v := ?_) (a' := ?_) #[true, true, true, false, true, true, true, false, false, false, false, false, false, false] rfl rfl (any_of HT_.out (by kernel_rfl)) (fun _ _ _ h => h) (Or.inl ⟨by rfl, ?_⟩) ?_ ?_
  rotate_left
  · intro w'
    go_simp
    try with_reducible rfl
  rotate_left
  · simp (maxSteps := 4000000) only [Act.put, List.setIfInBounds_toArray, List.set_cons_zero, List.set_cons_succ, i64_w, i32_w]
    try rfl
  refine one_ (i := 3) (N := some 21) #[true, true, true, true, true, true, true, false, false, false, false, false, false, false] rfl rfl (one_of HT_.out (by kernel_rfl)) (by decide) (fun K hK => ?_)
  refine goes_ Try.func33 (by kernel_rfl) rfl #[(.pointer (some ⟨g, 0, none⟩)), (.int .u64 (p : Int)), (.int .i64 1)] (by rfl) rfl rfl (by (try simp only [List.map_toArray, List.map_cons, List.map_nil]); first | done | rfl) ?_
  refine (wr_in (bx + 1) (some g) _ p 1 1 rfl (by decide) (by decide) (by have := HR.out; omega) w' HW.out (by have := HLn.out; first | omega | (simp only [List.length_append, putL_length]; omega))).mono ?_
  rintro e w' ⟨rfl, hw, hd⟩
  refine ⟨_, rfl, ?_⟩
  have hSS := (hd.block _ (Nat.lt_succ_self _)).trans hHeld
  replace HW := Lib.hid hw
  replace HB := Lib.hid (HB.out.trans (hd.mono HLe.out))
  clear hw hd
  refine hK.out _ _ (hSS) (fun hHeld => ?_)
  clear hK K
  refine norm_ (a' := ?_) ?_ ?_
  rotate_left
  · show Act.put _ (some 21) _ = _
    simp (maxSteps := 4000000) only [Act.put, List.setIfInBounds_toArray, List.set_cons_zero, List.set_cons_succ, i64_w, i32_w]
    try rfl
  refine one_ (i := 7) (N := some 25) #[true, true, true, true, true, true, true, true, false, false, false, false, false, false] rfl rfl (one_of HT_.out (by kernel_rfl)) (by decide) (fun K hK => ?_)
  refine goes_ Try.func33 (by kernel_rfl) rfl #[(wrP (some g)), (.int .u64 (n : Int)), (.int .i64 1)] (by rfl) rfl rfl (by (try simp only [List.map_toArray, List.map_cons, List.map_nil]); first | done | rfl) ?_
  refine (wr_in (bx + 1) (some g) _ n 1 1 rfl (by decide) (by decide) (by have := HR.out; omega) w' HW.out (by have := HLn.out; first | omega | (simp only [List.length_append, putL_length]; omega))).mono ?_
  rintro e w' ⟨rfl, hw, hd⟩
  refine ⟨_, rfl, ?_⟩
  have hSS := (hd.block _ (Nat.lt_succ_self _)).trans hHeld
  replace HW := Lib.hid hw
  replace HB := Lib.hid (HB.out.trans (hd.mono HLe.out))
  clear hw hd
  refine hK.out _ _ (hSS) (fun hHeld => ?_)
  clear hK K
  refine norm_ (a' := ?_) ?_ ?_
  rotate_left
  · show Act.put _ (some 25) _ = _
    simp (maxSteps := 4000000) only [Act.put, List.setIfInBounds_toArray, List.set_cons_zero, List.set_cons_succ, i64_w, i32_w]
    try rfl
  refine one_ (i := 8) (N := some 26) #[true, true, true, true, true, true, true, true, true, false, false, false, false, false] rfl rfl (one_of HT_.out (by kernel_rfl)) (by decide) (fun K hK => ?_)
  refine goes_ Try.func34 (by kernel_rfl) rfl #[(wrP (some g))] (by rfl) rfl rfl (by (try simp only [List.map_toArray, List.map_cons, List.map_nil]); first | done | rfl) ?_
  refine (wr_bytes_f (bx + 1) g _ S1 HS1.out w' HW.out).mono ?_
  rintro e w' ⟨rfl, hd⟩
  refine ⟨_, rfl, ?_⟩
  have hSS := blk_below hHeld hd
  replace HB := Lib.hid (below_then HB.out HB.out.size hd)
  clear hd
  refine hK.out _ _ (hSS) (fun hHeld => ?_)
  clear hK K
  refine norm_ (a' := ?_) ?_ ?_
  rotate_left
  · show Act.put _ (some 26) _ = _
    simp (maxSteps := 4000000) only [Act.put, List.setIfInBounds_toArray, List.set_cons_zero, List.set_cons_succ, i64_w, i32_w]
    try rfl
  refine pure_ (i := 9) (N := some 17) (v := ?_) (a' := ?_) #[true, true, true, true, true, true, true, true, true, true, false, false, false, false] rfl rfl (any_of HT_.out (by kernel_rfl)) (fun _ _ _ h => h) (Or.inl ⟨by rfl, ?_⟩) ?_ ?_
  rotate_left
  · intro w'
    go_simp
    try with_reducible rfl
  rotate_left
  · simp (maxSteps := 4000000) only [Act.put, List.setIfInBounds_toArray, List.set_cons_zero, List.set_cons_succ, i64_w, i32_w]
    try rfl
  refine pure_ (i := 10) (N := some 27) (v := ?_) (a' := ?_) #[true, true, true, true, true, true, true, true, true, true, true, false, false, false] rfl rfl (any_of HT_.out (by kernel_rfl)) (fun _ _ _ h => h) (Or.inl ⟨by rfl, ?_⟩) ?_ ?_
  rotate_left
  · intro w'
    go_simp
    try with_reducible rfl
  rotate_left
  · simp (maxSteps := 4000000) only [Act.put, List.setIfInBounds_toArray, List.set_cons_zero, List.set_cons_succ, i64_w, i32_w]
    try rfl
  refine pure_ (i := 11) (N := some 28) (v := ?_) (a' := ?_) #[true, true, true, true, true, true, true, true, true, true, true, true, false, false] rfl rfl (any_of HT_.out (by kernel_rfl)) (fun _ _ _ h => h) (Or.inl ⟨by rfl, ?_⟩) ?_ ?_
  rotate_left
  · intro w'
    go_simp
    try with_reducible rfl
  rotate_left
  · simp (maxSteps := 4000000) only [Act.put, List.setIfInBounds_toArray, List.set_cons_zero, List.set_cons_succ, i64_w, i32_w]
    try rfl
  refine pure_ (i := 12) (N := some 4) (v := ?_) (a' := ?_) #[true, true, true, true, true, true, true, true, true, true, true, true, true, false] rfl rfl (any_of HT_.out (by kernel_rfl)) (fun _ _ _ h => h) (Or.inl ⟨by rfl, ?_⟩) ?_ ?_
  rotate_left
  · intro w'
    go_simp
    try with_reducible rfl
  rotate_left
  · simp (maxSteps := 4000000) only [Act.put, List.setIfInBounds_toArray, List.set_cons_zero, List.set_cons_succ, i64_w, i32_w]
    try rfl
  refine pure_ (i := 13) (N := some 5) (v := ?_) (a' := ?_) #[true, true, true, true, true, true, true, true, true, true, true, true, true, true] rfl rfl (any_of HT_.out (by kernel_rfl)) (fun _ _ _ h => h) (Or.inl ⟨by rfl, ?_⟩) ?_ ?_
  rotate_left
  · intro w'
    go_simp
    try with_reducible rfl
  rotate_left
  · simp (maxSteps := 4000000) only [Act.put, List.setIfInBounds_toArray, List.set_cons_zero, List.set_cons_succ, i64_w, i32_w]
    try rfl
  refine done_ (done_of HT_.out (by kernel_rfl)) ?_
  have hA1 : ¬ (9223372036854775807 : Int) < (({ data := #[255] } : ByteArray).size : Int) + (S1.size : Int) := by rw [Hsz.out]; decide
  have hA2 : ¬ (9223372036854775807 : Int) < 1 + (S1.size : Int) := by rw [Hsz.out]; decide
  go_wp2_with fail
  refine (sh_strings_Repeat ⟨#[0]⟩ 14 _ (by decide) (by decide)).mono ?_
  rintro e w5 ⟨rfl, hd⟩
  rw [repeat_zeros]
  replace HB := Lib.hid (below_then HB.out HB.out.size hd); clear hd
  have hz2 : (str (List.replicate 14 0)).size = 14 := by rw [str_size]; rfl
  have hz3 : (({ data := #[255] } : ByteArray) ++ S1).size = 14 := by rw [ByteArray.size_append, Hsz.out]; rfl
  generalize str (List.replicate 14 0) = S2 at HE2 hz2 ⊢
  generalize ({ data := #[255] } : ByteArray) ++ S1 = S3 at HE2 hz3 ⊢
  have hA3 : ¬ (9223372036854775807 : Int) < (S3.size : Int) + (S2.size : Int) := by rw [hz2, hz3]; decide
  clear hz2 hz3
  go_wp2_with fail
  go_ret
  exact ⟨ret_strT HE2.out.symm, HB.out⟩
theorem v32_wrap (x : BitVec 32) : IntKind.u64.wrap (v32 x) = v32 x := by
  have := v32_range x
  exact wrap_u64_in _ (by omega) (by omega)
set_option maxHeartbeats 8000000 in
theorem sum_ok (g : Nat) (d s : ByteArray) (hd0 : d.size ≤ 100000) (hs0 : s.size ≤ 100000) (w : World) (hT : TabAt w g) :
    Calls Try.prog 22 #[.pointer (some ⟨g, 0, none⟩), .string d, .string s] w fun e w' => e = .returned (.string (str (sumT d.data.toList s.data.toList))) ∧ TabAt w' g ∧ Below w.heap.size w w' := by
  have HT := Lib.hid hT; clear hT
  have HN := Lib.hid (And.intro hd0 hs0); clear hd0 hs0
  go_enter Try.func22, Try.ntmps22
  go_wp2_with fail
  refine (poly_First.calls _ _ rfl).mono ?_
  rintro e w1 ⟨rfl, hd⟩
  replace HT := Lib.hid (HT.out.drawn hd)
  have HB := Lib.hid hd.below; clear hd
  go_wp2_with fail
  obtain ⟨m0, hm0⟩ : ∃ m0, m0 = BitVec.allOnes 32 := ⟨_, rfl⟩
  rw [show (4294967295 : Int) = v32 m0 from by rw [hm0]; rfl]
  have HM := Lib.hid hm0; clear hm0
  refine (poly_More.calls g _ d (Nat.le_trans HN.out.1 (by decide)) w1 HT.out).mono ?_
  rintro e w2 ⟨rfl, hd⟩
  replace HT := Lib.hid (HT.out.drawn hd)
  replace HB := Lib.hid (chainD HB.out hd); clear hd
  go_wp2_with fail
  refine (poly_More.calls g _ s (Nat.le_trans HN.out.2 (by decide)) w2 HT.out).mono ?_
  rintro e w3 ⟨rfl, hd⟩
  replace HT := Lib.hid (HT.out.drawn hd)
  replace HB := Lib.hid (chainD HB.out hd); clear hd
  go_wp2_with fail
  refine (poly_Last.calls _ w3).mono ?_
  rintro e w4 ⟨rfl, hd⟩
  replace HT := Lib.hid (HT.out.drawn hd)
  replace HB := Lib.hid (chainD HB.out hd); clear hd
  obtain ⟨x, hx⟩ : ∃ x, x = ~~~(more (more m0 d.data.toList) s.data.toList) := ⟨_, rfl⟩
  rw [← hx]
  have HX := Lib.hid (show sum (d.data.toList ++ s.data.toList) = x by rw [hx, HM.out]; unfold sum; rw [more_append])
  clear hx
  have e1 := v32_wrap x
  go_wp2_with fail
  refine (be_Put.calls _ _ _ _ (put_in x.toNat (Nat.lt_trans x.isLt (by decide)) 4 (by decide) (by decide))).mono ?_
  rintro e w5 ⟨rfl, hd⟩
  replace HT := Lib.hid (HT.out.below hd)
  replace HB := Lib.hid (chain2 HB.out hd); clear hd
  go_wp2_with fail
  go_ret
  exact ⟨ret_strT (by unfold sumT; rw [HX.out]), HT.out, HB.out⟩
def frV (t : Tg) (d : List UInt8) : List UInt8 × Int := if t.right = true then (frameT t d, 0) else ([], 2)
set_option maxHeartbeats 8000000 in
theorem frame_ok (g : Nat) (t : Tg) (hs : t.seq < 18446744073709551616) (d : ByteArray) (hd0 : d.size ≤ 10000) (w : World) (hT : TabAt w g) :
    Calls Try.prog 9 #[.pointer (some ⟨g, 0, none⟩), tgV t, .string d] w fun e w' => e = .returned (.tuple #[.string (str (frV t d.data.toList).1), .int .i64 (frV t d.data.toList).2]) ∧ TabAt w' g ∧ Below w.heap.size w w' := by
  have HRf := Lib.hid (right_f t)
  have HBy := Lib.hid (fun hr => bytes_ok t hr hs)
  have HV := Lib.hid (show tgV t = .agg #[.int .u8 (t.kind : Int), .int .i64 t.log, .int .u64 (t.seq : Int), .int .i64 t.pos, .int .i64 t.len] from rfl)
  have HFr := Lib.hid (show frV t d.data.toList = if t.right = true then (frameT t d.data.toList, 0) else ([], 2) from rfl)
  have HFt := Lib.hid (show frameT t d.data.toList = bytesT t ++ sumT d.data.toList (bytesT t) from rfl)
  have HLn := Lib.hid (bytesT_len t)
  rw [HV.out]
  rw [HV.out] at HBy
  have HT := Lib.hid hT; clear hT
  have Hd0 := Lib.hid hd0; clear hd0 hs HV
  generalize frV t d.data.toList = F at HFr ⊢
  obtain ⟨F1, F2⟩ := F
  generalize bytesT t = bT at HBy HFt HLn
  generalize frameT t d.data.toList = fT at HFr HFt
  generalize hR : t.right = R at HRf HBy HFr
  clear hR
  obtain ⟨k, l, s, p, n⟩ := t
  simp only at HRf HBy ⊢
  have HX := Lib.hid (heap_alloc_new w (.cells #[.int .u8 (k : Int), .int .i64 l, .int .u64 (s : Int), .int .i64 p, .int .i64 n] 37))
  have ha := below_alloc (Below.refl w.heap.size w) (.cells #[.int .u8 (k : Int), .int .i64 l, .int .u64 (s : Int), .int .i64 p, .int .i64 n] 37)
  replace HT := Lib.hid (HT.out.below ha)
  have HB := Lib.hid ha; clear ha
  go_enter Try.func9, Try.ntmps9
  go_wp2_with fail
  refine (tag_Tag_Right.calls _ _ _ _ _ _ _ HRf.out).mono ?_
  rintro e w1 ⟨rfl, hd⟩
  replace HX := Lib.hid (blk_below HX.out hd)
  replace HT := Lib.hid (HT.out.below hd)
  replace HB := Lib.hid (chain2 HB.out hd); clear hd
  obtain ⟨x0, x1, x2, x3, x4⟩ := tg_cells HX.out
  cases R with
  | false =>
    have hF := HFr.out
    rw [if_neg (by decide)] at hF
    obtain ⟨rfl, rfl⟩ := Prod.mk.inj hF
    clear hF HFr
    go_wp2
    go_ret2
    exact ⟨rfl, HT.out, HB.out⟩
  | true =>
    have hF := HFr.out
    rw [if_pos rfl] at hF
    obtain ⟨rfl, rfl⟩ := Prod.mk.inj hF
    clear hF HFr
    go_wp2_with fail
    refine (HBy.out (by first | rfl | trivial) w1).mono ?_
    rintro e w2 ⟨rfl, hd⟩
    clear x0 x1 x2 x3 x4 HX
    replace HT := Lib.hid (HT.out.below hd)
    replace HB := Lib.hid (chain2 HB.out hd); clear hd
    go_wp2_with fail
    refine (sum_ok g d (str bT) (Nat.le_trans Hd0.out (by decide)) (by rw [str_size, HLn.out]; decide) w2 HT.out).mono ?_
    rintro e w3 ⟨rfl, ht, hd⟩
    replace HT := Lib.hid ht; clear ht
    replace HB := Lib.hid (chain2 HB.out hd); clear hd
    rw [str_data]
    have HE := Lib.hid (show str F1 = str bT ++ str (sumT d.data.toList bT) by rw [HFt.out, str_append])
    have z1 : (str bT).size = 28 := by rw [str_size, HLn.out]
    have z2 : (str (sumT d.data.toList bT)).size = 4 := by rw [str_size, sumT_len]
    generalize str bT = S1 at HE z1 ⊢
    generalize str (sumT d.data.toList bT) = S2 at HE z2 ⊢
    have hA3 : ¬ (9223372036854775807 : Int) < (S1.size : Int) + (S2.size : Int) := by rw [z1, z2]; decide
    clear z1 z2
    go_wp2
    go_ret2
    exact ⟨ret_strE HE.out.symm, HT.out, HB.out⟩
theorem frame_nil (t : Tg) (d : ByteArray) (w : World) : Calls Try.prog 9 #[.pointer none, tgV t, .string d] w fun e w' => e = .returned (.tuple #[.string { data := #[] }, .int .i64 1]) ∧ Below w.heap.size w w' := by
  unfold tgV
  go_enter Try.func9, Try.ntmps9
  go_wp2
  go_ret2
  exact ⟨rfl, below_alloc (Below.refl _ _) _⟩
theorem rd_numT (g : Nat) (l : List UInt8) (wd : Nat) (wi : Int) (hwi : wi = (wd : Int)) (h1 : 1 ≤ wd) (h8 : wd ≤ 8) (hl : wd ≤ l.length) (w : World) (h : RdO w (some g) (l, false)) :
    Calls Try.prog 42 #[wrP (some g), .int .i64 wi] w fun x w' => x = .returned (.int .u64 (getN (l.take wd) : Int)) ∧ RdO w' (some g) (l.drop wd, false) ∧ w.grownBy w' (some g) := by
  subst hwi
  refine (rd_number (some g) (l, false) (wd : Int) w h (by omega) (by omega)).mono ?_
  rintro e w' ⟨rfl, hr, hg⟩
  have e0 : numW (wd : Int) = (wd : Int) := if_pos ⟨by omega, by omega⟩
  have e1 : tkN (l, false) (wd : Int) = true := by unfold tkN; simp only [Bool.not_false, Bool.true_and, decide_eq_true_eq]; omega
  have e2 : rdN (l, false) (wd : Int) = getN (l.take wd) := by unfold rdN tkS; rw [e0, if_pos e1, Int.toNat_natCast]
  have e3 : tkR (l, false) (numW (wd : Int)) = (l.drop wd, false) := by unfold tkR; rw [e0, if_pos e1, Int.toNat_natCast]
  rw [e3] at hr
  rw [e2]
  exact ⟨rfl, hr, hg⟩
theorem pl_frozenT {w : World} {b : Nat} {cs : Array Value} {T : TypeId} (h : w.heap[b]? = some (.cells cs T (0, 0))) (i : Nat) : w.frozen? ⟨b, i, none⟩ = false := by unfold World.frozen?; rw [h]; simp
theorem blkgT {w w' : World} {b g : Nat} {o : Obj} (hg : w.grownBy w' (some b)) (h : w.heap[g]? = some o) (hne : g ≠ b) : w'.heap[g]? = some o :=
  (hg.block g (blk_lt h) (fun e => hne (Option.some.inj e))).trans h
theorem byte_lt (l : List UInt8) (n : Nat) (h : l.length = n) : getN l < 256 ^ n := by have := getN_lt l; rwa [h] at this
theorem tg_size : (Try.prog.info? 37).map (·.size) = some 5 := by kernel_rfl
set_option maxHeartbeats 8000000 in
theorem read_ok (s : ByteArray) (hs : s.size = 32) (w : World) :
    Calls Try.prog 25 #[.string s] w fun e w' => e = .returned (tgV (readT s.data.toList)) ∧ Below w.heap.size w w' := by
  have hl : s.data.toList.length = 32 := by rw [Array.length_toList]; exact hs
  have HE := Lib.hid (show s.extract 1 s.size = str (s.data.toList.drop 1) by
    conv => lhs; rw [of_data s, str_extract, str_size]
    rw [List.take_length])
  have HV := Lib.hid (show readT s.data.toList = ⟨getN ((s.data.toList.drop 1).take 1), (getN ((s.data.toList.drop 2).take 2) : Int), getN ((s.data.toList.drop 4).take 8), (getN ((s.data.toList.drop 12).take 1) : Int), (getN ((s.data.toList.drop 13).take 1) : Int)⟩ from rfl)
  have HL := Lib.hid hl; clear hl
  generalize s.data.toList = l at HE HV HL ⊢
  have hX := heap_alloc_new w (.cells #[.int .u8 0, .int .i64 0, .int .u64 0, .int .i64 0, .int .i64 0] 37)
  have ha := below_alloc (Below.refl w.heap.size w) (.cells #[.int .u8 0, .int .i64 0, .int .u64 0, .int .i64 0, .int .i64 0] 37)
  go_enter Try.func25, Try.ntmps25
  go_wp2_with fail
  generalize w.alloc (.cells #[.int .u8 0, .int .i64 0, .int .u64 0, .int .i64 0, .int .i64 0] 37) = w1 at hX ha ⊢
  have HX := Lib.hid hX
  have hlt : w.heap.size < w1.heap.size := blk_lt hX
  have HB := Lib.hid ha; clear hX ha
  have hb0 : ∃ b0, b0 = w.heap.size := ⟨_, rfl⟩
  obtain ⟨b0, hb0⟩ := hb0
  rw [← hb0] at HX ⊢
  refine (rd_new (s.extract 1 32) (by rw [ByteArray.size_extract]; omega) w1).mono ?_
  rintro e w2 ⟨rfl, hr, hs2, hd⟩
  rw [hs] at HE
  rw [HE.out, str_data] at hr
  have HR := Lib.hid hr; clear hr
  replace HX := Lib.hid (blk_below HX.out hd)
  replace HB := Lib.hid (chain2 HB.out hd); clear hd hs2
  have HG0 := Lib.hid (show w.heap.size ≤ b0 from Nat.le_of_eq hb0.symm)
  have HG := Lib.hid (show w.heap.size ≤ w1.heap.size from Nat.le_of_lt hlt)
  have HNe := Lib.hid (show b0 ≠ w1.heap.size by rw [hb0]; exact Nat.ne_of_lt hlt)
  clear hlt hb0 hs
  generalize w1.heap.size = g at HR HG HNe ⊢
  clear HE
  go_wp2_with fail
  refine (rd_numT g (l.drop 1) 1 1 rfl (by decide) (by decide) (by rw [List.length_drop, HL.out]; decide) _ HR.out).mono ?_
  rintro e w3 ⟨rfl, hr, hg⟩
  rw [List.drop_drop] at hr
  replace HX := Lib.hid (blkgT hg HX.out HNe.out)
  replace HB := Lib.hid (pw_below_grown HB.out _ HB.out.size hg (fun i hi => by cases hi; exact HG.out))
  replace HR := Lib.hid hr; clear hr hg
  have HN1 := Lib.hid (byte_lt ((l.drop 1).take 1) 1 (by rw [List.length_take, List.length_drop, HL.out]; rfl))
  generalize getN ((l.drop 1).take 1) = n1 at HV HN1 ⊢
  have e1 : IntKind.u8.wrap (n1 : Int) = (n1 : Int) := by rw [IntKind.wrap_u8]; have := HN1.out; omega
  go_wp2_with fail
  refine (rd_numT g (l.drop 2) 2 2 rfl (by decide) (by decide) (by rw [List.length_drop, HL.out]; decide) _ HR.out).mono ?_
  rintro e w4 ⟨rfl, hr, hg⟩
  rw [List.drop_drop] at hr
  replace HX := Lib.hid (blkgT hg HX.out HNe.out)
  replace HB := Lib.hid (pw_below_grown HB.out _ HB.out.size hg (fun i hi => by cases hi; exact HG.out))
  replace HR := Lib.hid hr; clear hr hg
  have HN2 := Lib.hid (byte_lt ((l.drop 2).take 2) 2 (by rw [List.length_take, List.length_drop, HL.out]; rfl))
  generalize getN ((l.drop 2).take 2) = n2 at HV HN2 ⊢
  have e2 : wrap64 (n2 : Int) = (n2 : Int) := w64_in _ (by omega) (by have := HN2.out; omega)
  go_wp2_with fail
  refine (rd_numT g (l.drop 4) 8 8 rfl (by decide) (by decide) (by rw [List.length_drop, HL.out]; decide) _ HR.out).mono ?_
  rintro e w5 ⟨rfl, hr, hg⟩
  rw [List.drop_drop] at hr
  replace HX := Lib.hid (blkgT hg HX.out HNe.out)
  replace HB := Lib.hid (pw_below_grown HB.out _ HB.out.size hg (fun i hi => by cases hi; exact HG.out))
  replace HR := Lib.hid hr; clear hr hg
  have HN3 := Lib.hid (byte_lt ((l.drop 4).take 8) 8 (by rw [List.length_take, List.length_drop, HL.out]; rfl))
  generalize getN ((l.drop 4).take 8) = n3 at HV HN3 ⊢
  have HXt := Lib.hid (heap_alloc_new w5 (.cells #[.int .u8 (n1 : Int), .int .i64 (n2 : Int), .int .u64 (n3 : Int), .int .i64 0, .int .i64 0] 37))
  have hlt : g < w5.heap.size := blk_lt (HR.out.1 g rfl)
  have HNz := Lib.hid (show b0 ≠ w5.heap.size from Nat.ne_of_lt (blk_lt HX.out))
  have ha := below_alloc (Below.refl w5.heap.size w5) (.cells #[.int .u8 (n1 : Int), .int .i64 (n2 : Int), .int .u64 (n3 : Int), .int .i64 0, .int .i64 0] 37)
  replace HX := Lib.hid (blk_below HX.out ha)
  replace HR := Lib.hid (HR.out.below ha)
  replace HB := Lib.hid (chain2 HB.out ha); clear ha
  have HNt := Lib.hid (show w5.heap.size ≠ g from Nat.ne_of_gt hlt)
  have HGt := Lib.hid (Nat.le_trans HG.out (Nat.le_of_lt hlt)); clear hlt
  go_wp2_with fail
  generalize w5.alloc (.cells #[.int .u8 (n1 : Int), .int .i64 (n2 : Int), .int .u64 (n3 : Int), .int .i64 0, .int .i64 0] 37) = w6 at HX HR HB HXt ⊢
  generalize w5.heap.size = bt at HXt HNt HGt HNz ⊢
  refine (rd_numT g (l.drop 12) 1 1 rfl (by decide) (by decide) (by rw [List.length_drop, HL.out]; decide) _ HR.out).mono ?_
  rintro e w7 ⟨rfl, hr, hg⟩
  rw [List.drop_drop] at hr
  replace HX := Lib.hid (blkgT hg HX.out HNe.out)
  replace HXt := Lib.hid (blkgT hg HXt.out HNt.out)
  replace HB := Lib.hid (pw_below_grown HB.out _ HB.out.size hg (fun i hi => by cases hi; exact HG.out))
  replace HR := Lib.hid hr; clear hr hg
  have HN4 := Lib.hid (byte_lt ((l.drop 12).take 1) 1 (by rw [List.length_take, List.length_drop, HL.out]; rfl))
  generalize getN ((l.drop 12).take 1) = n4 at HV HN4 ⊢
  have e4 : wrap64 (n4 : Int) = (n4 : Int) := w64_in _ (by omega) (by have := HN4.out; omega)
  go_wp2_with fail
  refine (rd_numT g (l.drop 13) 1 1 rfl (by decide) (by decide) (by rw [List.length_drop, HL.out]; decide) _ HR.out).mono ?_
  rintro e w8 ⟨rfl, hr, hg⟩
  rw [List.drop_drop] at hr
  replace HX := Lib.hid (blkgT hg HX.out HNe.out)
  replace HXt := Lib.hid (blkgT hg HXt.out HNt.out)
  replace HB := Lib.hid (pw_below_grown HB.out _ HB.out.size hg (fun i hi => by cases hi; exact HG.out))
  replace HR := Lib.hid hr; clear hr hg
  have HN5 := Lib.hid (byte_lt ((l.drop 13).take 1) 1 (by rw [List.length_take, List.length_drop, HL.out]; rfl))
  generalize getN ((l.drop 13).take 1) = n5 at HV HN5 ⊢
  have e5 : wrap64 (n5 : Int) = (n5 : Int) := w64_in _ (by omega) (by have := HN5.out; omega)
  obtain ⟨x0, x1, x2, x3, x4⟩ := tg_cells HXt.out
  obtain ⟨z0, z1, z2, z3, z4⟩ := tg_cells HX.out
  have f1 := fun i => pl_frozenT HXt.out i
  have f2 := fun i => pl_frozenT HX.out i
  have hne := HNz.out
  go_wp2_with fail
  have h0 : ((w8.setCell ⟨bt, 3, none⟩ (.int .i64 (n4 : Int))).setCell ⟨bt, 4, none⟩ (.int .i64 (n5 : Int))).heap[b0]? = some (.cells #[.int .u8 0, .int .i64 0, .int .u64 0, .int .i64 0, .int .i64 0] 37 (0, 0)) := by
    rw [heap_setCell_other _ _ b0 _ HNz.out, heap_setCell_other _ _ b0 _ HNz.out]; exact HX.out
  have hx := heap_setCell_same _ b0 4 _ _ (.int .i64 (n5 : Int)) (heap_setCell_same _ b0 3 _ _ (.int .i64 (n4 : Int)) (heap_setCell_same _ b0 2 _ _ (.int .u64 (n3 : Int)) (heap_setCell_same _ b0 1 _ _ (.int .i64 (n2 : Int)) (heap_setCell_same _ b0 0 _ _ (.int .u8 (n1 : Int)) h0))))
  refine bodyPost_ret (v := .agg #[.int .u8 (n1 : Int), .int .i64 (n2 : Int), .int .u64 (n3 : Int), .int .i64 (n4 : Int), .int .i64 (n5 : Int)]) (results_cell_row rfl _ _ b0 37 #[.int .u8 (n1 : Int), .int .i64 (n2 : Int), .int .u64 (n3 : Int), .int .i64 (n4 : Int), .int .i64 (n5 : Int)] (0, 0) _ rfl hx Try.underlying37 rfl tg_size) rfl ⟨by rw [HV.out]; rfl, ?_⟩
  exact ((((((HB.out.setCell (p := ⟨bt, 3, none⟩) HGt.out _).setCell (p := ⟨bt, 4, none⟩) HGt.out _).setCell (p := ⟨b0, 0, none⟩) HG0.out _).setCell (p := ⟨b0, 1, none⟩) HG0.out _).setCell (p := ⟨b0, 2, none⟩) HG0.out _).setCell (p := ⟨b0, 3, none⟩) HG0.out _).setCell (p := ⟨b0, 4, none⟩) HG0.out _
end Go.Proofs.Ytfomgljhcegjdaa
