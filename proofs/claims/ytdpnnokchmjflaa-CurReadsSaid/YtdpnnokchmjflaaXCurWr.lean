/- Layer 4's laws: 'write' by a writer, and the document's Write. No conditions beyond the form's own reach. -/
import Derived.Test.YtdpnnokchmjflaaXCurM
import Derived.Test.YtdpnnokchmjflaaXBeRef
namespace Go.Proofs.Ytdpnnokchmjflaa
open Go.RowKit Go.Lib Go.Proofs.Ytdpnnokchmjflaa.P Go.Proofs.Ytdpnnokchmjflaa.BeS Go.Proofs.YtdpnnokchmjflaaW.PrintWords Go.Proofs.YtdpnnokchmjflaaW.PrintLast Go.Proofs.YtdpnnokchmjflaaW.PrintMore
set_option linter.unusedVariables false
set_option linter.unusedSimpArgs false
--@tables
/-- A field as it comes out of 'of'. -/
structure Fd.Ok (f : Fd) : Prop extends f.In where
  k : f.kind = 0 ∨ f.kind = 1 ∨ f.kind = 2
  s1 : f.s.size ≤ 300
def bytesF (f : Fd) : List UInt8 := if f.kind = 0 then putB f.n f.width else if f.kind = 1 then putL f.n 8 else if f.s.size ≤ 255 then UInt8.ofNat f.s.size :: f.s.data.toList else []
def okF (f : Fd) : Bool := if f.kind = 0 then fits f.n f.width else if f.kind = 1 then true else decide (f.s.size ≤ 255)
theorem bytesF_len (f : Fd) : (bytesF f).length ≤ 256 := by
  unfold bytesF
  split
  · have := putB_len f.n f.width; omega
  · split
    · rw [putL_length]; omega
    · split
      · rename_i h
        have : f.s.data.toList.length = f.s.size := Array.length_toList
        rw [List.length_cons, this]; omega
      · simp
def bytesFs (fs : List Fd) : List UInt8 := fs.flatMap bytesF
def badFs (fs : List Fd) : Bool := fs.any fun f => !okF f
theorem bytesFs_len (fs : List Fd) : (bytesFs fs).length ≤ 256 * fs.length := by
  unfold bytesFs
  induction fs with
  | nil => simp
  | cons f fs ih =>
    have := bytesF_len f
    rw [List.flatMap_cons, List.length_append, List.length_cons]
    omega
theorem bytesFs_take (fs : List Fd) (i : Nat) (h : i < fs.length) : bytesFs (fs.take (i + 1)) = bytesFs (fs.take i) ++ bytesF fs[i] := by
  unfold bytesFs
  rw [List.take_succ_eq_append_getElem h, List.flatMap_append]
  simp
theorem badFs_take (fs : List Fd) (i : Nat) (h : i < fs.length) : badFs (fs.take (i + 1)) = (badFs (fs.take i) || !okF fs[i]) := by
  unfold badFs
  rw [List.take_succ_eq_append_getElem h, List.any_append]
  simp
theorem FRow.belowB {w w' : World} {base B : Nat} {v : Value} {fs : List Fd} (h : FRow w base v fs) (hb : Below B w w') (hk : ∀ k, v.ownBlock = some k → k < B) : FRow w' base v fs := by
  refine ⟨h.1, ?_⟩
  rcases h.2 with h2 | ⟨g, cap, cur, rfl, h3, h4, h5⟩
  · exact .inl h2
  · exact .inr ⟨g, cap, cur, rfl, h3, (hb.block g (hk g rfl)).trans h4, h5⟩
theorem wrap_succ (p : Nat) (h : p < 1000) : wrap64 ((p : Int) + 1) = ((p + 1 : Nat) : Int) := by unfold wrap64; omega

theorem wrap_back (n : Nat) (hn : n < 18446744073709551616) : (wrap64 (n : Int) % 18446744073709551616).toNat = n := by unfold wrap64; omega
theorem text_step (s : ByteArray) (wd : Int) (n : Nat) (l : List UInt8) (wrong : Bool) : (l ++ bytesF ⟨2, wd, n, s⟩, wrong || !okF ⟨2, wd, n, s⟩) = ((if s.size ≤ 255 then l ++ UInt8.ofNat s.size :: s.data.toList else l), (wrong || decide (255 < s.size))) := by
  have h1 : bytesF ⟨2, wd, n, s⟩ = if s.size ≤ 255 then UInt8.ofNat s.size :: s.data.toList else [] := rfl
  have h2 : okF ⟨2, wd, n, s⟩ = decide (s.size ≤ 255) := rfl
  rw [h1, h2]
  by_cases h : s.size ≤ 255
  · rw [if_pos h, if_pos h, decide_eq_true h, decide_eq_false (by omega)]; rfl
  · rw [if_neg h, if_neg h, decide_eq_false h, decide_eq_true (by omega), List.append_nil]; rfl

set_option maxHeartbeats 4000000 in
set_option maxRecDepth 100000 in
theorem write_ok (base : Nat) (o : Option Nat) (b0 : Nat) (fs : List Fd) (hfs : fs.length ≤ 100) (hok : ∀ f ∈ fs, f.Ok) (a : Option Addr) (c : Nat) (w : World) (h : WrO w base o [] false) (hr : FRow w b0 (.slice a fs.length c) fs) (hk : ∀ k, (Value.slice a fs.length c).ownBlock = some k → k < base) :
    Calls Try.prog 9 #[wrP o, .slice a fs.length c] w fun x w' => x = .returned (wrP o) ∧ WrO w' base o (bytesFs fs) (badFs fs) ∧ Below base w w' := by
  have HO := Lib.hid h; clear h
  have HR := Lib.hid hr; clear hr
  have HK := Lib.hid hk; clear hk
  have HL := Lib.hid hfs; clear hfs
  have HOK := Lib.hid hok; clear hok
  generalize hp : wrP o = p
  go_enter Try.func9, Try.ntmps9
  go_wp2_with fail
  go_loopw [0, 9] (fun v i wr => ∃ j : Nat, j ≤ fs.length ∧ i = .int .i64 (j : Int) ∧ v = p ∧ WrO wr base o (bytesFs (fs.take j)) (badFs (fs.take j)) ∧ Below base w wr) (fun _ i _ => fs.length - (RowKit.intOf i).toNat)
  case atStart => exact ⟨0, Nat.zero_le _, rfl, rfl, HO.out, Below.refl _ _⟩
  case round =>
    clear HO
    obtain ⟨j, hj, rfl, rfl, h1, h2⟩ := hrel
    have HW := Lib.hid h1; clear h1
    have HB := Lib.hid h2; clear h2
    have HW0 := Lib.hid HW.out.1
    have HLen := Lib.hid (show (bytesFs (fs.take j)).length + 300 ≤ 1000000 by have := bytesFs_len (fs.take j); have := HL.out; rw [List.length_take] at *; omega)
    by_cases hlt : j < fs.length
    · have hrow := HR.out.belowB HB.out HK.out
      obtain ⟨g, cap, hf, hc⟩ := hrow.at_ j hlt
      simp only [Value.slice.injEq, true_and] at hf
      obtain ⟨rfl, rfl⟩ := hf
      have HT := Lib.hid (And.intro (bytesFs_take fs j hlt) (badFs_take fs j hlt))
      have HFk := Lib.hid (HOK.out fs[j] (List.getElem_mem hlt))
      generalize fs[j] = f at hc HT HFk
      obtain ⟨k0, k1, k2, k3⟩ := hc
      have e3 : wrap64 ((j : Int) + 1) = ((j + 1 : Nat) : Int) := wrap_succ j (Nat.lt_of_lt_of_le hlt (Nat.le_trans HL.out (by decide)))
      clear hrow
      obtain ⟨kd, wd, n, s⟩ := f
      simp only at k0 k1 k2 k3
      rcases HFk.out.k with hk | hk | hk
      · simp only at hk
        subst hk
        have ha := (Below.refl wr.heap.size wr).alloc (Nat.le_refl _) (Obj.cells #[Value.int IntKind.i64 0, Value.int IntKind.i64 wd, Value.int IntKind.u64 (n : Int), Value.string s] 27)
        replace HW := Lib.hid (HW.out.below ha)
        replace HB := Lib.hid (chainB HB.out (Nat.le_trans HW0.out (Nat.le_refl _)) ha)
        clear ha
        go_wp2_with fail
        generalize (wr.alloc (Obj.cells #[Value.int IntKind.i64 0, Value.int IntKind.i64 wd, Value.int IntKind.u64 (n : Int), Value.string s] 27)) = w1 at HW HB ⊢
        rw [← hp]
        refine (wr_number base o _ _ n wd w1 HW.out (by have := HLen.out; omega) HFk.out.n1 HFk.out.w0 HFk.out.w1).mono ?_
        rintro e w2 ⟨rfl, hw, hb⟩
        replace hw : WrO w2 base o (bytesFs (fs.take (j + 1))) (badFs (fs.take (j + 1))) := by
          rw [HT.out.1, HT.out.2]
          exact hw
        replace HW := Lib.hid hw; clear hw
        replace HB := Lib.hid (HB.out.trans hb); clear hb
        rw [hp]
        go_wp2
        go_roundw
        case rel => exact ⟨j + 1, hlt, by rw [e3], rfl, HW.out, HB.out⟩
        case measure => rw [e3]; simp only [RowKit.intOf, Int.toNat_natCast]; exact Nat.sub_lt_sub_left hlt (Nat.lt_succ_self j)
      · simp only at hk
        subst hk
        have ha := (Below.refl wr.heap.size wr).alloc (Nat.le_refl _) (Obj.cells #[Value.int IntKind.i64 1, Value.int IntKind.i64 wd, Value.int IntKind.u64 (n : Int), Value.string s] 27)
        replace HW := Lib.hid (HW.out.below ha)
        replace HB := Lib.hid (chainB HB.out (Nat.le_trans HW0.out (Nat.le_refl _)) ha)
        clear ha
        go_wp2_with fail
        generalize (wr.alloc (Obj.cells #[Value.int IntKind.i64 1, Value.int IntKind.i64 wd, Value.int IntKind.u64 (n : Int), Value.string s] 27)) = w1 at HW HB ⊢
        rw [← hp]
        refine (wr_signed base o _ _ (wrap64 (n : Int)) w1 HW.out (by have := HLen.out; omega)).mono ?_
        rintro e w2 ⟨rfl, hw, hb⟩
        replace hw : WrO w2 base o (bytesFs (fs.take (j + 1))) (badFs (fs.take (j + 1))) := by
          rw [HT.out.1, HT.out.2]
          exact (by rw [show okF ⟨1, wd, n, s⟩ = true from rfl, show bytesF ⟨1, wd, n, s⟩ = putL n 8 from rfl, Bool.not_true, Bool.or_false]; rw [wrap_back n HFk.out.n1] at hw; exact hw)
        replace HW := Lib.hid hw; clear hw
        replace HB := Lib.hid (HB.out.trans hb); clear hb
        rw [hp]
        go_wp2
        go_roundw
        case rel => exact ⟨j + 1, hlt, by rw [e3], rfl, HW.out, HB.out⟩
        case measure => rw [e3]; simp only [RowKit.intOf, Int.toNat_natCast]; exact Nat.sub_lt_sub_left hlt (Nat.lt_succ_self j)
      · simp only at hk
        subst hk
        have ha := (Below.refl wr.heap.size wr).alloc (Nat.le_refl _) (Obj.cells #[Value.int IntKind.i64 2, Value.int IntKind.i64 wd, Value.int IntKind.u64 (n : Int), Value.string s] 27)
        replace HW := Lib.hid (HW.out.below ha)
        replace HB := Lib.hid (chainB HB.out (Nat.le_trans HW0.out (Nat.le_refl _)) ha)
        clear ha
        go_wp2_with fail
        generalize (wr.alloc (Obj.cells #[Value.int IntKind.i64 2, Value.int IntKind.i64 wd, Value.int IntKind.u64 (n : Int), Value.string s] 27)) = w1 at HW HB ⊢
        rw [← hp]
        refine (wr_text base o _ _ s w1 HW.out (by have := HLen.out; omega) (by have := HFk.out.s1; simp only at this; omega)).mono ?_
        rintro e w2 ⟨rfl, hw, hb⟩
        replace hw : WrO w2 base o (bytesFs (fs.take (j + 1))) (badFs (fs.take (j + 1))) := by
          rw [HT.out.1, HT.out.2]
          exact (by have h := text_step s wd n (bytesFs (fs.take j)) (badFs (fs.take j)); rw [Prod.mk.injEq] at h; rw [h.1, h.2]; exact hw)
        replace HW := Lib.hid hw; clear hw
        replace HB := Lib.hid (HB.out.trans hb); clear hb
        rw [hp]
        go_wp2
        go_roundw
        case rel => exact ⟨j + 1, hlt, by rw [e3], rfl, HW.out, HB.out⟩
        case measure => rw [e3]; simp only [RowKit.intOf, Int.toNat_natCast]; exact Nat.sub_lt_sub_left hlt (Nat.lt_succ_self j)
    · obtain rfl : j = fs.length := Nat.le_antisymm hj (Nat.le_of_not_lt hlt)
      rw [List.take_length] at HW
      go_wp2
      go_ret
      exact ⟨rfl, HW.out, HB.out⟩

def wriS (fs : List Fd) : ByteArray := if badFs fs = false then str (bytesFs fs) else { data := #[] }
theorem badFs_later {fs : List Fd} (j : Nat) (h : badFs (fs.take j) = true) : badFs fs = true := by
  unfold badFs at *
  rw [List.any_eq_true] at *
  obtain ⟨x, hx, hb⟩ := h
  exact ⟨x, List.mem_of_mem_take hx, hb⟩
theorem ref_put_fB (n : Nat) (hn : n < 18446744073709551616) (wd : Int) : tillrollref01_Put.f 100 (n : Int) wd = some (str (putB n wd)) := by
  rw [ref_put_f n hn wd 100 (by decide)]
  unfold putB
  split <;> rfl
theorem conv_one (w : World) (b : Nat) (hb : b = w.heap.size) (x : Nat) (hx : x ≤ 255) : (convert 35 9 (.slice (some ⟨b, 0, none⟩) 1 1)).run Try.prog (w.alloc (.cells #[.int .u8 (x : Int)] 5)) = .ok (.string (str [UInt8.ofNat x])) (w.alloc (.cells #[.int .u8 (x : Int)] 5)) := by
  subst hb
  have h : (w.alloc (.cells #[.int .u8 (x : Int)] 5)).ownsRow 0 5 1 (.slice (some ⟨w.heap.size, 0, none⟩) 1 1) 1 (nums .u8 [(x : Int)]) :=
    ⟨by simp [nums], .inr ⟨w.heap.size, 1, _, rfl, Nat.zero_le _, heap_alloc_new w _, Nat.le_refl _, by unfold maxLen; omega, rfl, rfl⟩⟩
  have h2 := own_string (P := Try.prog) (src := 35) (dst := 9) Try.underlying35 Try.underlying5 Try.underlying9 h
  rw [h2]
  rfl
theorem str_addS (l : List UInt8) (s : ByteArray) : str l ++ s = str (l ++ s.data.toList) := by
  have h := str_append l s.data.toList
  rw [← of_data s] at h
  exact h
theorem str_add (l m : List UInt8) : (str l).size + (str m).size = l.length + m.length := by rw [str_size, str_size]

set_option maxHeartbeats 4000000 in
set_option maxRecDepth 100000 in
theorem refWrite_ok (b0 : Nat) (fs : List Fd) (hfs : fs.length ≤ 100) (hok : ∀ f ∈ fs, f.Ok) (a : Option Addr) (c : Nat) (w : World) (hr : FRow w b0 (.slice a fs.length c) fs) :
    Calls Try.prog 8 #[.slice a fs.length c] w fun x w' => x = .returned (.tuple #[.string (wriS fs), .bool (!badFs fs)]) ∧ Below w.heap.size w w' := by
  have HR := Lib.hid hr; clear hr
  have HL := Lib.hid hfs; clear hfs
  have HOK := Lib.hid hok; clear hok
  go_enter Try.func8, Try.ntmps8
  go_wp2_with fail
  go_loopw [4, 5] (fun v i wr => ∃ j : Nat, j ≤ fs.length ∧ i = .int .i64 (j : Int) ∧ v = .string (str (bytesFs (fs.take j))) ∧ badFs (fs.take j) = false ∧ Below w.heap.size w wr) (fun _ i _ => fs.length - (RowKit.intOf i).toNat)
  case atStart => exact ⟨0, Nat.zero_le _, rfl, rfl, rfl, Below.refl _ _⟩
  case round =>
    obtain ⟨j, hj, rfl, rfl, h1, h2⟩ := hrel
    have HN := Lib.hid h1; clear h1
    have HB := Lib.hid h2; clear h2
    have HLen := Lib.hid (show (bytesFs (fs.take j)).length + 300 ≤ 1000000 by have := bytesFs_len (fs.take j); have := HL.out; rw [List.length_take] at *; omega)
    by_cases hlt : j < fs.length
    · have hrow := HR.out.below HB.out
      obtain ⟨g, cap, hf, hc⟩ := hrow.at_ j hlt
      simp only [Value.slice.injEq, true_and] at hf
      obtain ⟨rfl, rfl⟩ := hf
      have HT := Lib.hid (And.intro (bytesFs_take fs j hlt) (badFs_take fs j hlt))
      have HFk := Lib.hid (HOK.out fs[j] (List.getElem_mem hlt))
      have HLa := Lib.hid (fun h => badFs_later (fs := fs) (j + 1) h)
      generalize fs[j] = f at hc HT HFk
      obtain ⟨k0, k1, k2, k3⟩ := hc
      have e3 : wrap64 ((j : Int) + 1) = ((j + 1 : Nat) : Int) := wrap_succ j (Nat.lt_of_lt_of_le hlt (Nat.le_trans HL.out (by decide)))
      clear hrow
      obtain ⟨kd, wd, n, s⟩ := f
      simp only at k0 k1 k2 k3
      rcases HFk.out.k with hk | hk | hk
      · simp only at hk
        subst hk
        have ha := (Below.refl wr.heap.size wr).alloc (Nat.le_refl _) (Obj.cells #[Value.int IntKind.i64 0, Value.int IntKind.i64 wd, Value.int IntKind.u64 (n : Int), Value.string s] 27)
        have HBX := Lib.hid (Box4.new wr 27 (.int .i64 0) (.int .i64 wd) (.int .u64 (n : Int)) (.string s))
        replace HB := Lib.hid (chainC HB.out ha); clear ha
        have hb1 : bytesF ⟨0, wd, n, s⟩ = putB n wd := rfl
        have ho1 : okF ⟨0, wd, n, s⟩ = fits n wd := rfl
        rw [hb1, ho1] at HT
        clear hb1 ho1
        go_wp2_with fail
        generalize (wr.alloc (Obj.cells #[Value.int IntKind.i64 0, Value.int IntKind.i64 wd, Value.int IntKind.u64 (n : Int), Value.string s] 27)) = w1 at HB HBX ⊢
        generalize wr.heap.size = bx at HBX ⊢
        refine (tillrollref01_Fits.calls 100 _ _ _ _ (ref_fits_f n HFk.out.n1 wd 100 (by decide))).mono ?_
        rintro e w2 ⟨rfl, hd⟩
        replace HBX := Lib.hid (HBX.out.below hd.below)
        replace HB := Lib.hid (chainC HB.out hd.below); clear hd
        cases hft : fits n wd with
        | false =>
          have HW := Lib.hid (HLa.out (by rw [HT.out.2, hft, HN.out]; rfl))
          clear hft
          go_wp2
          go_ret2
          exact ⟨by unfold wriS; rw [HW.out]; rfl, HB.out⟩
        | true =>
          have HW := Lib.hid (show badFs (fs.take (j + 1)) = false by rw [HT.out.2, hft, HN.out]; rfl)
          clear hft
          have q2 := HBX.out.S.2.2.1
          go_wp2_with fail
          refine (tillrollref01_Put.calls 100 _ _ _ _ (ref_put_fB n HFk.out.n1 wd)).mono ?_
          rintro e w3 ⟨rfl, hd⟩
          replace HB := Lib.hid (chainC HB.out hd); clear hd q2
          have hadd : ¬ (9223372036854775807 : Int) < ((str (bytesFs (fs.take j))).size : Int) + ((str (putB n wd)).size : Int) := by
            rw [str_size, str_size]; have := HLen.out; have := putB_len n wd; omega
          have hst : str (bytesFs (fs.take j)) ++ str (putB n wd) = str (bytesFs (fs.take (j + 1))) := by rw [str_append, HT.out.1]
          have HST := Lib.hid hst; clear hst
          generalize str (bytesFs (fs.take j)) = s1 at hadd HST ⊢
          generalize str (putB n wd) = s2 at hadd HST ⊢
          go_wp2
          go_roundw
          case rel => exact ⟨j + 1, hlt, by rw [e3], by rw [HST.out], HW.out, HB.out⟩
          case measure => rw [e3]; simp only [RowKit.intOf, Int.toNat_natCast]; exact Nat.sub_lt_sub_left hlt (Nat.lt_succ_self j)
      · simp only at hk
        subst hk
        have ha := (Below.refl wr.heap.size wr).alloc (Nat.le_refl _) (Obj.cells #[Value.int IntKind.i64 1, Value.int IntKind.i64 wd, Value.int IntKind.u64 (n : Int), Value.string s] 27)
        have HBX := Lib.hid (Box4.new wr 27 (.int .i64 1) (.int .i64 wd) (.int .u64 (n : Int)) (.string s))
        replace HB := Lib.hid (chainC HB.out ha); clear ha
        have hb1 : bytesF ⟨1, wd, n, s⟩ = putB n 8 := rfl
        have ho1 : okF ⟨1, wd, n, s⟩ = fits n 8 := (by unfold fits; rw [decide_eq_true (show (1 : Int) ≤ 8 ∧ (8 : Int) ≤ 8 ∧ n < 256 ^ (8 : Int).toNat from ⟨by decide, by decide, by have := HFk.out.n1; simpa using this⟩)]; rfl)
        rw [hb1, ho1] at HT
        clear hb1 ho1
        go_wp2_with fail
        generalize (wr.alloc (Obj.cells #[Value.int IntKind.i64 1, Value.int IntKind.i64 wd, Value.int IntKind.u64 (n : Int), Value.string s] 27)) = w1 at HB HBX ⊢
        generalize wr.heap.size = bx at HBX ⊢
        refine (tillrollref01_Fits.calls 100 _ _ _ _ (ref_fits_f n HFk.out.n1 8 100 (by decide))).mono ?_
        rintro e w2 ⟨rfl, hd⟩
        replace HBX := Lib.hid (HBX.out.below hd.below)
        replace HB := Lib.hid (chainC HB.out hd.below); clear hd
        cases hft : fits n 8 with
        | false =>
          have HW := Lib.hid (HLa.out (by rw [HT.out.2, hft, HN.out]; rfl))
          clear hft
          go_wp2
          go_ret2
          exact ⟨by unfold wriS; rw [HW.out]; rfl, HB.out⟩
        | true =>
          have HW := Lib.hid (show badFs (fs.take (j + 1)) = false by rw [HT.out.2, hft, HN.out]; rfl)
          clear hft
          have q2 := HBX.out.S.2.2.1
          go_wp2_with fail
          refine (tillrollref01_Put.calls 100 _ _ _ _ (ref_put_fB n HFk.out.n1 8)).mono ?_
          rintro e w3 ⟨rfl, hd⟩
          replace HB := Lib.hid (chainC HB.out hd); clear hd q2
          have hadd : ¬ (9223372036854775807 : Int) < ((str (bytesFs (fs.take j))).size : Int) + ((str (putB n 8)).size : Int) := by
            rw [str_size, str_size]; have := HLen.out; have := putB_len n 8; omega
          have hst : str (bytesFs (fs.take j)) ++ str (putB n 8) = str (bytesFs (fs.take (j + 1))) := by rw [str_append, HT.out.1]
          have HST := Lib.hid hst; clear hst
          generalize str (bytesFs (fs.take j)) = s1 at hadd HST ⊢
          generalize str (putB n 8) = s2 at hadd HST ⊢
          go_wp2
          go_roundw
          case rel => exact ⟨j + 1, hlt, by rw [e3], by rw [HST.out], HW.out, HB.out⟩
          case measure => rw [e3]; simp only [RowKit.intOf, Int.toNat_natCast]; exact Nat.sub_lt_sub_left hlt (Nat.lt_succ_self j)
      · simp only at hk
        subst hk
        have ha := (Below.refl wr.heap.size wr).alloc (Nat.le_refl _) (Obj.cells #[Value.int IntKind.i64 2, Value.int IntKind.i64 wd, Value.int IntKind.u64 (n : Int), Value.string s] 27)
        have HBX := Lib.hid (Box4.new wr 27 (.int .i64 2) (.int .i64 wd) (.int .u64 (n : Int)) (.string s))
        replace HB := Lib.hid (chainC HB.out ha); clear ha
        by_cases h255 : s.size ≤ 255
        · have c1 : decide (255 < (s.size : Int)) = false := decide_eq_false (by omega)
          have c3 : IntKind.u8.wrap (s.size : Int) = (s.size : Int) := by simp [IntKind.wrap, IntKind.bits, IntKind.signed]; omega
          have hcv := conv_one (wr.alloc (Obj.cells #[Value.int IntKind.i64 2, Value.int IntKind.i64 wd, Value.int IntKind.u64 (n : Int), Value.string s] 27)) (wr.heap.size + 1) (by simp) s.size h255
          have HW := Lib.hid (show badFs (fs.take (j + 1)) = false by rw [HT.out.2, show okF ⟨2, wd, n, s⟩ = true from decide_eq_true h255, HN.out]; rfl)
          have hadd : ¬ (9223372036854775807 : Int) < ((str (bytesFs (fs.take j))).size : Int) + ((str [UInt8.ofNat s.size]).size : Int) := by
            rw [str_size, str_size]; have := HLen.out; simp only [List.length_singleton]; omega
          have hadd2 : ¬ (9223372036854775807 : Int) < ((str (bytesFs (fs.take j)) ++ str [UInt8.ofNat s.size]).size : Int) + (s.size : Int) := by
            rw [ByteArray.size_append, str_size, str_size]; have := HLen.out; simp only [List.length_singleton]; omega
          have hst : str (bytesFs (fs.take j)) ++ str [UInt8.ofNat s.size] ++ s = str (bytesFs (fs.take (j + 1))) := by
            rw [HT.out.1, show bytesF ⟨2, wd, n, s⟩ = UInt8.ofNat s.size :: s.data.toList from if_pos h255]
            rw [str_append, str_addS, List.append_assoc]
            rfl
          have HST := Lib.hid hst; clear hst
          generalize str (bytesFs (fs.take j)) = s1 at hadd hadd2 HST ⊢
          generalize str [UInt8.ofNat s.size] = s2 at hadd hadd2 HST hcv ⊢
          have H255 := Lib.hid h255; clear h255
          go_wp2
          go_roundw
          case rel => exact ⟨j + 1, hlt, by rw [e3], by rw [HST.out], HW.out, chainC HB.out (Below.alloc (Below.refl _ _) (Nat.le_refl _) _)⟩
          case measure => rw [e3]; simp only [RowKit.intOf, Int.toNat_natCast]; exact Nat.sub_lt_sub_left hlt (Nat.lt_succ_self j)
        · have c1 : decide (255 < (s.size : Int)) = true := decide_eq_true (by omega)
          have HW := Lib.hid (HLa.out (by rw [HT.out.2, show okF ⟨2, wd, n, s⟩ = false from decide_eq_false h255, HN.out]; rfl))
          go_wp2
          go_ret2
          exact ⟨by unfold wriS; rw [HW.out]; rfl, HB.out⟩
    · obtain rfl : j = fs.length := Nat.le_antisymm hj (Nat.le_of_not_lt hlt)
      rw [List.take_length] at HN ⊢
      go_wp2
      go_ret2
      exact ⟨by unfold wriS; rw [HN.out]; rfl, HB.out⟩
end Go.Proofs.Ytdpnnokchmjflaa
