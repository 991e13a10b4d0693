/- keys: Write, of entries that may be. No conditions beyond the form's own reach. -/
import Derived.Test.YtkadlahhcldjfaaXKeysSame
import Derived.Test.YtkadlahhcldjfaaXCurT
namespace Go.Proofs.Ytkadlahhcldjfaa
open Go.RowKit Go.Lib Go.Proofs.Ytkadlahhcldjfaa.P Go.Proofs.Ytkadlahhcldjfaa.BeS Go.Proofs.YtkadlahhcldjfaaW.PrintWords Go.Proofs.YtkadlahhcldjfaaW.PrintLast Go.Proofs.YtkadlahhcldjfaaW.PrintMore
set_option linter.unusedVariables false
set_option linter.unusedSimpArgs false
def rg15_5.T : Bool × List (List Nat × List Nat) := (true, [([], []), ([], []), ([1], [1]), ([0, 2], [0, 2]), ([], []), ([4], [4]), ([3, 5, 3], [3, 5]), ([], []), ([7], [7]), ([8], [8]), ([6, 9, 6], [6, 9])])
def rg15_5.B : List Nat := [0, 0, 2, 7, 0, 16, 63, 0, 128, 384, 1023]
theorem rg15_5.tab : rtab .any (opsOf Try.f15 5) = rg15_5.T := by kernel_rfl
theorem rg15_5.bits : waitsOk rg15_5.T.2 rg15_5.B = true := by kernel_rfl
theorem wr_numberP (base : Nat) (o : Option Nat) (p : Value) (hp : wrP o = p) (l : List UInt8) (wrong : Bool) (n : Nat) (wd : Int) (w : World) (h : WrO w base o l wrong) (hl : l.length + 8 ≤ 1000000) (hn : n < 18446744073709551616) (h0 : -9223372036854775808 ≤ wd) (h1 : wd < 9223372036854775808) :
    Calls Try.prog 22 #[p, .int .u64 (n : Int), .int .i64 wd] w fun x w' => x = .returned p ∧ WrO w' base o (l ++ putB n wd) (wrong || !fits n wd) ∧ Below base w w' ∧ TouchU o w w' := by
  subst hp; exact wr_number base o l wrong n wd w h hl hn h0 h1
theorem wr_textP (base : Nat) (o : Option Nat) (p : Value) (hp : wrP o = p) (l : List UInt8) (wrong : Bool) (s : ByteArray) (w : World) (h : WrO w base o l wrong) (hl : l.length + 300 ≤ 1000000) (hs : s.size ≤ 9223372036854775806) :
    Calls Try.prog 23 #[p, .string s] w fun x w' => x = .returned p ∧ WrO w' base o (if s.size ≤ 255 then l ++ UInt8.ofNat s.size :: s.data.toList else l) (wrong || decide (255 < s.size)) ∧ Below base w w' ∧ TouchU o w w' := by
  subst hp; exact wr_text base o l wrong s w h hl hs
/-- An entry that may be, its key of eight bytes. -/
def GoodK (e : KE) : Prop := rightK e = true ∧ 0 ≤ e.key ∧ e.key < 18446744073709551616
def textE (e : KE) : List UInt8 := putL e.key.toNat 8 ++ (UInt8.ofNat e.body.size :: e.body.data.toList) ++ putL e.num.toNat 4
def textK (es : List KE) : List UInt8 := putL es.length 1 ++ es.flatMap textE
theorem GoodK.facts {e : KE} (h : GoodK e) : ∃ k n : Nat, e.key = (k : Int) ∧ e.num = (n : Int) ∧ k < 18446744073709551616 ∧ n < 4294967296 ∧ e.body.size ≤ 255 ∧ fits k 8 = true ∧ fits n 4 = true ∧ textE e = putL k 8 ++ (UInt8.ofNat e.body.size :: e.body.data.toList) ++ putL n 4 := by
  obtain ⟨h1, h2, h3⟩ := h
  unfold rightK at h1
  simp only [Bool.and_eq_true, decide_eq_true_eq] at h1
  refine ⟨e.key.toNat, e.num.toNat, by omega, by omega, by omega, by omega, h1.1, ?_, ?_, rfl⟩
  · unfold fits; rw [decide_eq_true_iff]; refine ⟨by decide, by decide, ?_⟩
    have : e.key.toNat < 18446744073709551616 := by omega
    simpa using this
  · unfold fits; rw [decide_eq_true_iff]; refine ⟨by decide, by decide, ?_⟩
    have : e.num.toNat < 4294967296 := by omega
    simpa using this
theorem textE_len {e : KE} (h : e.body.size ≤ 255) : (textE e).length ≤ 268 := by
  unfold textE
  rw [List.length_append, List.length_append, putL_length, putL_length, List.length_cons]
  have : e.body.data.toList.length = e.body.size := rfl
  omega
theorem flat_le (es : List KE) (h : ∀ e ∈ es, e.body.size ≤ 255) : (es.flatMap textE).length ≤ es.length * 268 := by
  induction es with
  | nil => simp
  | cons e es ih =>
    rw [List.flatMap_cons, List.length_append, List.length_cons, Nat.succ_mul]
    have := textE_len (h e (by simp))
    have := ih (fun x hx => h x (by simp [hx]))
    omega
theorem putB8 (n : Nat) : putB n 8 = putL n 8 := rfl
theorem putB4 (n : Nat) : putB n 4 = putL n 4 := rfl
theorem putB1 (n : Nat) : putB n 1 = putL n 1 := rfl
theorem WrO.ne_new {w : World} {base : Nat} {o : Option Nat} {l : List UInt8} {wrong : Bool} (h : WrO w base o l wrong) : o ≠ some w.heap.size := by
  intro e
  obtain ⟨_, v, h2, _⟩ := h.2 _ e
  exact Nat.lt_irrefl _ h2.lt

set_option maxHeartbeats 4000000 in
theorem keys_write (g lim : Nat) (es : List KE) (base : Nat) (o : Option Nat) (l : List UInt8) (w0 w : World) (hk : KeysAt w0 g lim es) (h0 : Below w0.heap.size w0 w) (hb : w0.heap.size ≤ base) (hW : WrO w base o l false) (hl : l.length + 30000 ≤ 1000000) (hr : ∀ e ∈ es, GoodK e) :
    Calls Try.prog 15 #[.pointer (some ⟨g, 0, none⟩), wrP o] w fun x w' => x = .returned (.tuple #[]) ∧ WrO w' base o (l ++ textK es) false ∧ Below base w w' ∧ TouchU o w w' := by
  have H0 := Lib.hid h0; clear h0
  have HBase := Lib.hid hb; clear hb
  have HW := Lib.hid hW; clear hW
  have HR := Lib.hid hr; clear hr
  have HL := Lib.hid hl; clear hl
  obtain ⟨v, _, k2, _, k4, _, k6, _, k8⟩ := hk
  obtain ⟨ad, cap, rfl, _⟩ := k4.len
  have HN := Lib.hid (show es.length ≤ 64 by omega)
  have HRow := Lib.hid k4
  have HC := Lib.hid k2
  clear k6 k8 k4 k2
  have k2 := pw_cell_below H0.out HC.out
  have c1 : IntKind.u64.wrap (es.length : Int) = (es.length : Int) := u64_wrap_nat _ (by have := HN.out; omega)
  have HF1 := Lib.hid (show fits es.length 1 = true by unfold fits; rw [decide_eq_true_iff]; exact ⟨by decide, by decide, by have := HN.out; simpa using (show es.length < 256 by omega)⟩)
  generalize hp : wrP o = p
  generalize hn : es.length = n at HN HF1 HRow HC k2 c1
  have Hn := Lib.hid hn; clear hn
  have Hp := Lib.hid hp; clear hp
  go_enter Try.func15, Try.ntmps15
  go_wp2_with fail
  refine (wr_numberP base o p Hp.out l false n 1 w HW.out (by have := HL.out; omega) (by have := HN.out; omega) (by decide) (by decide)).mono ?_
  rintro e w1 ⟨rfl, hw, hb, ht⟩
  rw [HF1.out, putB1, Bool.not_true, Bool.or_false] at hw
  replace HW := Lib.hid hw; clear hw
  have HB := Lib.hid hb; clear hb
  have HT := Lib.hid ht; clear ht
  clear k2 c1
  have k2 := pw_cell_below (H0.out.trans (HB.out.mono HBase.out)) HC.out
  go_wp2_with fail
  go_loopw [21] (fun i wr => ∃ j : Nat, j ≤ n ∧ i = .int .i64 (j : Int) ∧ WrO wr base o ((l ++ putL n 1) ++ (es.take j).flatMap textE) false ∧ Below base w wr ∧ TouchU o w wr) (fun i _ => n - (RowKit.intOf i).toNat)
  case atStart => exact ⟨0, Nat.zero_le _, rfl, by simpa using HW.out, HB.out, HT.out⟩
  case round =>
    clear HW HB HT k2
    obtain ⟨j, hj, rfl, hw, hb, ht⟩ := hrel
    have HW := Lib.hid hw; clear hw
    have HB := Lib.hid hb; clear hb
    have HT := Lib.hid ht; clear ht
    by_cases hlt : j < n
    · have e3 : wrap64 ((j : Int) + 1) = ((j + 1 : Nat) : Int) := by have := HN.out; unfold wrap64; omega
      have hjl : j < es.length := by have := Hn.out; omega
      have hrow : RowS encK wr (.slice ad n cap) es := HRow.out.below (H0.out.trans (HB.out.mono HBase.out))
      obtain ⟨gg, off, rfl⟩ := row_at hrow (by omega)
      obtain ⟨l1, l2, l3⟩ := row3 hrow j hjl
      obtain ⟨q, m, hq, hm, hq2, hm2, hbs, hf8, hf4, htx⟩ := (HR.out es[j] (List.getElem_mem hjl)).facts
      have hlen : ((es.take j).flatMap textE).length ≤ j * 268 := by
        have := flat_le (es.take j) (fun x hx => by obtain ⟨_, _, _, _, _, _, h, _⟩ := (HR.out x (List.mem_of_mem_take hx)).facts; exact h)
        rwa [List.length_take, Nat.min_eq_left (by omega)] at this
      have HTk := Lib.hid (show (es.take (j + 1)).flatMap textE = (es.take j).flatMap textE ++ textE es[j] by rw [List.take_succ_eq_append_getElem hjl, List.flatMap_append]; simp)
      generalize es[j] = x at l1 l2 l3 hq hm hbs htx HTk
      obtain ⟨xk, xb, xn⟩ := x
      simp only at l1 l2 l3 hq hm hbs htx HTk
      subst hq hm
      rw [htx] at HTk
      have HLen := Lib.hid (show ((l ++ putL n 1) ++ (es.take j).flatMap textE).length + 1000 ≤ 1000000 by rw [List.length_append, List.length_append, putL_length]; have := HL.out; have := HN.out; omega)
      have HF := Lib.hid (And.intro hf8 (And.intro hf4 (And.intro hq2 (And.intro hm2 hbs))))
      clear hf8 hf4 htx hq2 hm2 hbs hlen hrow
      have c2 : IntKind.u64.wrap (m : Int) = (m : Int) := u64_wrap_nat _ (by have := HF.out.2.2.2.1; omega)
      generalize hL : (l ++ putL n 1) ++ (es.take j).flatMap textE = L at HW HLen
      have HL2 := Lib.hid hL; clear hL
      go_wp2_with fail
      have HX := Lib.hid (Box3.new wr (.int .u64 (q : Int)) (.string xb) (.int .i64 (m : Int)))
      have ha := below_alloc (Below.refl wr.heap.size wr) (.cells #[.int .u64 (q : Int), .string xb, .int .i64 (m : Int)] 30)
      have HNe := Lib.hid HW.out.ne_new
      replace HB := Lib.hid (chainB HB.out HW.out.1 ha)
      replace HW := Lib.hid (HW.out.below ha)
      replace HT := Lib.hid (HT.out.trans (TouchU.of ha))
      clear ha l1 l2 l3
      generalize hbx : wr.heap.size = bx at HX HNe ⊢
      clear hbx
      replace HX := Lib.hid (show Box3 (wr.alloc (.cells #[.int .u64 (q : Int), .string xb, .int .i64 (m : Int)] 30)).drew bx _ _ _ from HX.out)
      replace HW := Lib.hid (show WrO (wr.alloc (.cells #[.int .u64 (q : Int), .string xb, .int .i64 (m : Int)] 30)).drew base o L false from HW.out)
      replace HB := Lib.hid (below_drew1 HB.out)
      replace HT := Lib.hid (show TouchU o w (wr.alloc (.cells #[.int .u64 (q : Int), .string xb, .int .i64 (m : Int)] 30)).drew from Touch.drew HT.out)
      have hS := box_S HX.out
      refine start_ (n := 11) (S := fun w' => w'.cell? ⟨bx, 0, none⟩ = some (.int .u64 (q : Int)) ∧ w'.cell? ⟨bx, 1, none⟩ = some (.string xb) ∧ w'.cell? ⟨bx, 2, none⟩ = some (.int .i64 (m : Int))) (ds := []) #[false, false, false, false, false, false, false, false, false, false, false] (by kernel_rfl) rfl rfl hS (fun hHeld => ?_)
      refine with_tabW rg15_5.tab rg15_5.bits (fun HT_ HW_ => ?_)
      generalize (wr.alloc (.cells #[.int .u64 (q : Int), .string xb, .int .i64 (m : Int)] 30)).drew = w' at HX HW HB HT hS hHeld ⊢
      refine pure_ (i := 0) (N := some 25) (v := ?_) (a' := ?_) #[true, false, false, false, false, false, false, false, false, false, false] rfl rfl (any_of HT_.out (by kernel_rfl)) (fun _ _ _ h => h) (Or.inl ⟨by rfl, ?_⟩) ?_ ?_
      rotate_left
      · intro w'
        go_simp
        try with_reducible rfl
      rotate_left
      · simp (maxSteps := 4000000) only [Act.put, List.setIfInBounds_toArray, List.set_cons_zero, List.set_cons_succ, i64_w, i32_w]
        try rfl
      refine pure_ (i := 1) (N := some 26) (v := ?_) (a' := ?_) #[true, true, false, false, false, false, false, false, false, false, false] rfl rfl (any_of HT_.out (by kernel_rfl)) (fun _ _ _ h => h) (Or.inl ⟨by rfl, ?_⟩) ?_ ?_
      rotate_left
      · intro w'
        go_simp
        try with_reducible rfl
      rotate_left
      · simp (maxSteps := 4000000) only [Act.put, List.setIfInBounds_toArray, List.set_cons_zero, List.set_cons_succ, i64_w, i32_w]
        try rfl
      refine pure_ (i := 4) (N := some 29) (v := ?_) (a' := ?_) #[true, true, false, false, true, false, false, false, false, false, false] rfl rfl (any_of HT_.out (by kernel_rfl)) (fun _ _ _ h => h) (Or.inl ⟨by rfl, ?_⟩) ?_ ?_
      rotate_left
      · intro w'
        go_simp
        try with_reducible rfl
      rotate_left
      · simp (maxSteps := 4000000) only [Act.put, List.setIfInBounds_toArray, List.set_cons_zero, List.set_cons_succ, i64_w, i32_w]
        try rfl
      refine pure_ (i := 7) (N := some 32) (v := ?_) (a' := ?_) #[true, true, false, false, true, false, false, true, false, false, false] rfl rfl (any_of HT_.out (by kernel_rfl)) (fun _ _ _ h => h) (Or.inl ⟨by rfl, ?_⟩) ?_ ?_
      rotate_left
      · intro w'
        go_simp
        try with_reducible rfl
      rotate_left
      · simp (maxSteps := 4000000) only [Act.put, List.setIfInBounds_toArray, List.set_cons_zero, List.set_cons_succ, i64_w, i32_w]
        try rfl
      refine take_ (i := 2) (N := some 27) (v := ?_) (a' := ?_) #[true, true, true, false, true, false, false, true, false, false, false] rfl rfl (take_ofW HT_.out HW_.out (by kernel_rfl)) (fun _ _ _ h => h) (Or.inl ⟨by rfl, ?_⟩) hHeld ?_ ?_
      rotate_left
      · intro w' hw_
        try dsimp only at hw_
        obtain ⟨x0, x1, x2⟩ := hw_
        go_simp
        try with_reducible rfl
      rotate_left
      · simp (maxSteps := 4000000) only [Act.put, List.setIfInBounds_toArray, List.set_cons_zero, List.set_cons_succ, i64_w, i32_w]
        try rfl
      refine take_ (i := 5) (N := some 30) (v := ?_) (a' := ?_) #[true, true, true, false, true, true, false, true, false, false, false] rfl rfl (take_ofW HT_.out HW_.out (by kernel_rfl)) (fun _ _ _ h => h) (Or.inl ⟨by rfl, ?_⟩) hHeld ?_ ?_
      rotate_left
      · intro w' hw_
        try dsimp only at hw_
        obtain ⟨x0, x1, x2⟩ := hw_
        go_simp
        try with_reducible rfl
      rotate_left
      · simp (maxSteps := 4000000) only [Act.put, List.setIfInBounds_toArray, List.set_cons_zero, List.set_cons_succ, i64_w, i32_w]
        try rfl
      refine take_ (i := 8) (N := some 33) (v := ?_) (a' := ?_) #[true, true, true, false, true, true, false, true, true, false, false] rfl rfl (take_ofW HT_.out HW_.out (by kernel_rfl)) (fun _ _ _ h => h) (Or.inl ⟨by rfl, ?_⟩) hHeld ?_ ?_
      rotate_left
      · intro w' hw_
        try dsimp only at hw_
        obtain ⟨x0, x1, x2⟩ := hw_
        go_simp
        try with_reducible rfl
      rotate_left
      · simp (maxSteps := 4000000) only [Act.put, List.setIfInBounds_toArray, List.set_cons_zero, List.set_cons_succ, i64_w, i32_w]
        try rfl
      refine pure_ (i := 9) (N := some 34) (v := ?_) (a' := ?_) #[true, true, true, false, true, true, false, true, true, true, false] rfl rfl (any_of HT_.out (by kernel_rfl)) (fun _ _ _ h => h) (Or.inl ⟨by rfl, ?_⟩) ?_ ?_
      rotate_left
      · intro w'
        go_simp
        try with_reducible rfl
      rotate_left
      · simp (maxSteps := 4000000) only [Act.put, List.setIfInBounds_toArray, List.set_cons_zero, List.set_cons_succ, i64_w, i32_w]
        try rfl
      refine one_ (i := 3) (N := some 28) #[true, true, true, true, true, true, false, true, true, true, false] rfl rfl (one_of HT_.out (by kernel_rfl)) (by decide) (fun K hK => ?_)
      refine goes_ Try.func22 (by kernel_rfl) rfl #[p, .int .u64 (q : Int), .int .i64 8] (by rfl) rfl rfl (by (try simp only [List.map_toArray, List.map_cons, List.map_nil]); first | done | rfl) ?_
      refine (wr_numberP base o p Hp.out L false q 8 w' HW.out (by have := HLen.out; omega) HF.out.2.2.1 (by decide) (by decide)).mono ?_
      rintro e w' ⟨rfl, hw, hb, ht⟩
      refine ⟨_, rfl, ?_⟩
      rw [HF.out.1, putB8, Bool.not_true, Bool.or_false] at hw
      replace HX := Lib.hid (show Box3 _ _ _ _ _ from ht.blk HX.out HNe.out (by decide))
      replace HW := Lib.hid hw
      replace HB := Lib.hid (HB.out.trans hb)
      replace HT := Lib.hid (HT.out.trans ht)
      clear hw hb ht
      refine hK.out _ _ (box_S HX.out) (fun hHeld => ?_)
      clear hK K
      refine norm_ (a' := ?_) ?_ ?_
      rotate_left
      · show Act.put _ (some 28) _ = _
        simp (maxSteps := 4000000) only [Act.put, List.setIfInBounds_toArray, List.set_cons_zero, List.set_cons_succ, i64_w, i32_w]
        try rfl
      refine one_ (i := 6) (N := some 31) #[true, true, true, true, true, true, true, true, true, true, false] rfl rfl (one_of HT_.out (by kernel_rfl)) (by decide) (fun K hK => ?_)
      refine goes_ Try.func23 (by kernel_rfl) rfl #[p, .string xb] (by rfl) rfl rfl (by (try simp only [List.map_toArray, List.map_cons, List.map_nil]); first | done | rfl) ?_
      refine (wr_textP base o p Hp.out (L ++ putL q 8) false xb w' HW.out (by have := HLen.out; rw [List.length_append, putL_length]; omega) (by have := HF.out.2.2.2.2; omega)).mono ?_
      rintro e w' ⟨rfl, hw, hb, ht⟩
      refine ⟨_, rfl, ?_⟩
      rw [if_pos HF.out.2.2.2.2, show decide (255 < xb.size) = false from decide_eq_false (by have := HF.out.2.2.2.2; omega), Bool.or_false] at hw
      replace HX := Lib.hid (show Box3 _ _ _ _ _ from ht.blk HX.out HNe.out (by decide))
      replace HW := Lib.hid hw
      replace HB := Lib.hid (HB.out.trans hb)
      replace HT := Lib.hid (HT.out.trans ht)
      clear hw hb ht
      refine hK.out _ _ (box_S HX.out) (fun hHeld => ?_)
      clear hK K
      refine norm_ (a' := ?_) ?_ ?_
      rotate_left
      · show Act.put _ (some 31) _ = _
        simp (maxSteps := 4000000) only [Act.put, List.setIfInBounds_toArray, List.set_cons_zero, List.set_cons_succ, i64_w, i32_w]
        try rfl
      refine one_ (i := 10) (N := some 35) #[true, true, true, true, true, true, true, true, true, true, true] rfl rfl (one_of HT_.out (by kernel_rfl)) (by decide) (fun K hK => ?_)
      refine goes_ Try.func22 (by kernel_rfl) rfl #[p, .int .u64 (m : Int), .int .i64 4] (by rfl) rfl rfl (by (try simp only [List.map_toArray, List.map_cons, List.map_nil]); first | done | rfl) ?_
      refine (wr_numberP base o p Hp.out (L ++ putL q 8 ++ UInt8.ofNat xb.size :: xb.data.toList) false m 4 w' HW.out (by have := HLen.out; have := HF.out.2.2.2.2; have : xb.data.toList.length = xb.size := rfl; rw [List.length_append, List.length_append, List.length_cons, putL_length]; omega) (by have := HF.out.2.2.2.1; omega) (by decide) (by decide)).mono ?_
      rintro e w' ⟨rfl, hw, hb, ht⟩
      refine ⟨_, rfl, ?_⟩
      rw [HF.out.2.1, putB4, Bool.not_true, Bool.or_false] at hw
      replace HX := Lib.hid (show Box3 _ _ _ _ _ from ht.blk HX.out HNe.out (by decide))
      replace HW := Lib.hid hw
      replace HB := Lib.hid (HB.out.trans hb)
      replace HT := Lib.hid (HT.out.trans ht)
      clear hw hb ht
      refine hK.out _ _ (box_S HX.out) (fun hHeld => ?_)
      clear hK K
      refine norm_ (a' := ?_) ?_ ?_
      rotate_left
      · show Act.put _ (some 35) _ = _
        simp (maxSteps := 4000000) only [Act.put, List.setIfInBounds_toArray, List.set_cons_zero, List.set_cons_succ, i64_w, i32_w]
        try rfl
      refine done_ (done_of HT_.out (by kernel_rfl)) ?_
      clear c2
      go_wp2_with fail
      go_roundw
      case rel =>
        refine ⟨j + 1, hlt, by first | rw [e3] | rfl, ?_, HB.out, HT.out⟩
        rw [HTk.out]
        have hw := HW.out
        rw [← HL2.out] at hw
        simpa only [List.append_assoc] using hw
      case measure => (first | rw [e3] | rw [show ((j : Int) + 1) = ((j + 1 : Nat) : Int) from rfl]); simp only [RowKit.intOf, Int.toNat_natCast]; exact Nat.sub_lt_sub_left hlt (Nat.lt_succ_self j)
    · obtain rfl : j = n := Nat.le_antisymm hj (Nat.le_of_not_lt hlt)
      go_wp2
      go_end0
      have hw := HW.out
      rw [List.take_of_length_le (by have := Hn.out; omega), List.append_assoc, ← Hn.out] at hw
      exact ⟨by rfl, hw, HB.out, HT.out⟩
end Go.Proofs.Ytkadlahhcldjfaa
