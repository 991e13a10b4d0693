/- The signs of life of layer 25's laws. No conditions beyond those that are written. -/
import Derived.Test.YtdeeakjkhcdkaaaXSaleO
namespace Go.Proofs.Ytdeeakjkhcdkaaa
open Go.RowKit Go.Lib Go.Proofs.YtdeeakjkhcdkaaaW.PrintWords Go.Proofs.YtdeeakjkhcdkaaaW.PrintLast Go.Proofs.YtdeeakjkhcdkaaaW.PrintMore
set_option linter.unusedVariables false
set_option linter.unusedSimpArgs false
--@tables
def nextR (next : Nat) (ps : List TP) (t : TP) : Nat := if addC next ps t = 0 then next + 1 else next
def afterR (keep next : Nat) (ps : List TP) (t : TP) : List TP := if addC next ps t = 0 then addR keep next ps t else ps
/-- A register in a block g, whatever its row. -/
def RegAt (w : World) (base g keep next : Nat) (ps : List TP) : Prop := ∃ v xs, RegV w base g v keep next xs ∧ xs.map Prod.fst = ps
theorem RegAt.below {w w' : World} {base g keep next : Nat} {ps : List TP} (h : RegAt w base g keep next ps) (hb : Below w.heap.size w w') : RegAt w' base g keep next ps := by
  obtain ⟨v, xs, h1, h2⟩ := h
  exact ⟨v, xs, h1.below hb, h2⟩
theorem RegAt.ge {w : World} {base g keep next : Nat} {ps : List TP} (h : RegAt w base g keep next ps) : base ≤ w.heap.size := by
  obtain ⟨v, xs, h1, h2⟩ := h
  exact Nat.le_trans h1.low (Nat.le_of_lt h1.lt)
/-- What a call on a register may write: its block, and a row of transactions, from base on. -/
def TR (base g : Nat) (w : World) (k : Nat) : Prop := k = g ∨ base ≤ k ∧ ∃ c, w.heap[k]? = some (.cells c 37 (0, 0))
theorem add_at {base g keep next : Nat} {ps : List TP} (t : TP) (tv : Value) (w : World) (h : RegAt w base g keep next ps) (hk : 0 ≤ t.kind ∧ t.kind < 256) (hr : RowS encL w tv t.ls) (hl : t.ls.length ≤ 1000000) :
    Calls Try.prog 10 #[.pointer (some ⟨g, 0, none⟩), aggT t tv] w fun e w' => e = .returned (.tuple #[.int .i64 (addN next ps t), .int .i64 (addC next ps t)]) ∧ RegAt w' base g keep (nextR next ps t) (afterR keep next ps t) ∧ Touch (TR base g w) w w' := by
  obtain ⟨v, xs, h1, rfl⟩ := h
  refine (add_ok t tv w h1 hk hr hl).mono ?_
  rintro e w' ⟨rfl, hp⟩
  refine ⟨rfl, ?_⟩
  unfold AddPost at hp
  unfold nextR afterR
  by_cases hc : addC next (xs.map Prod.fst) t = 0
  · rw [if_pos hc] at hp ⊢
    rw [if_pos hc]
    obtain ⟨v', xs', k1, k2, k3, k4⟩ := hp
    exact ⟨⟨v', xs', k1, k2⟩, k3.mono fun k hk => hk.imp id fun h => ⟨(h1.row.lt k h).1, h1.row.typ k h⟩⟩
  · rw [if_neg hc] at hp ⊢
    rw [if_neg hc]
    exact ⟨⟨v, xs, h1.below hp, rfl⟩, Touch.of _ hp⟩
theorem touch_below {base g B : Nat} {w0 w w' : World} (h : Below B w0 w) (hB : B ≤ base) (hg : base ≤ g) (hs : B ≤ w.heap.size) (ht : Touch (TR base g w) w w') : Below B w0 w' :=
  h.trans (ht.below (fun k hk => by rcases hk with rfl | ⟨hk, _⟩ <;> omega) hs)
theorem RegAt.low {w : World} {base g keep next : Nat} {ps : List TP} (h : RegAt w base g keep next ps) : base ≤ g := by
  obtain ⟨v, xs, h1, h2⟩ := h
  exact h1.low
theorem get_at {base g keep next : Nat} {ps : List TP} (n : Int) (w : World) (h : RegAt w base g keep next ps) :
    Calls Try.prog 11 #[.pointer (some ⟨g, 0, none⟩), .int .i64 n] w fun e w' => ∃ v', e = .returned (.tuple #[aggT (match idxR next ps.length n with | none => z0 | some i => ps.getD i z0) v', .bool (idxR next ps.length n).isSome]) ∧ RowO encL 2 58 w' w.heap.size v' (match idxR next ps.length n with | none => z0 | some i => ps.getD i z0).ls ∧ Below w.heap.size w w' := by
  obtain ⟨v, xs, h1, rfl⟩ := h
  rw [List.length_map]
  cases hi : idxR next xs.length n with
  | none =>
    refine (get_none n w h1 hi).mono ?_
    rintro e w' ⟨rfl, hb⟩
    exact ⟨_, rfl, RowO.nil _ _ _ _ _, hb⟩
  | some i => exact get_some n i w h1 hi
theorem list_at {base g keep next : Nat} {ps : List TP} (w : World) (h : RegAt w base g keep next ps) :
    Calls Try.prog 12 #[.pointer (some ⟨g, 0, none⟩)] w fun e w' => ∃ v' ys, e = .returned v' ∧ RowO encT 8 37 w' w.heap.size v' ys ∧ (∀ y ∈ ys, LinesAt w' w.heap.size y) ∧ ys.map Prod.fst = ps ∧ Below w.heap.size w w' := by
  obtain ⟨v, xs, h1, rfl⟩ := h
  exact list_ok w h1
theorem next_at {base g keep next : Nat} {ps : List TP} (w : World) (h : RegAt w base g keep next ps) : Calls Try.prog 13 #[.pointer (some ⟨g, 0, none⟩)] w fun e w' => e = .returned (.int .i64 (next : Int)) ∧ w = w' := by
  obtain ⟨v, xs, h1, rfl⟩ := h
  exact next_ok w h1
theorem new_at (keep : Nat) (h1 : 1 ≤ keep) (h2 : keep ≤ 512) (w : World) : Calls Try.prog 7 #[.int .i64 (keep : Int)] w fun e w' => ∃ g, e = .returned (.tuple #[.pointer (some ⟨g, 0, none⟩), .int .i64 0]) ∧ RegAt w' w.heap.size g keep 1 [] ∧ Below w.heap.size w w' :=
  (new_ok keep h1 h2 w).mono fun e w' ⟨g, k1, k2, k3⟩ => ⟨g, k1, ⟨_, _, k2, rfl⟩, k3⟩
def wt1 : TP := ⟨0, 1, 1, 0, 500, 0, false, []⟩
def wt2 : TP := ⟨0, 3, 1, 1, 200, 0, false, []⟩
def wt3 : TP := ⟨0, 2, 1, 1, 500, 0, false, []⟩
def wp1 : List TP := [⟨1, 1, 1, 0, 500, 500, false, []⟩]
def wp2 : List TP := [⟨1, 1, 1, 0, 500, 300, false, []⟩, ⟨2, 3, 1, 1, 200, 0, false, []⟩]
theorem wk1 : addC 1 [] wt1 = 0 ∧ addN 1 [] wt1 = 1 ∧ nextR 1 [] wt1 = 2 ∧ afterR 3 1 [] wt1 = wp1 := ⟨rfl, rfl, rfl, rfl⟩
theorem wk2 : addC 2 wp1 wt2 = 0 ∧ nextR 2 wp1 wt2 = 3 ∧ afterR 3 2 wp1 wt2 = wp2 := ⟨rfl, rfl, rfl⟩
theorem wk3 : addC 3 wp2 wt3 = 22 ∧ nextR 3 wp2 wt3 = 3 ∧ afterR 3 3 wp2 wt3 = wp2 := ⟨rfl, rfl, rfl⟩
set_option maxHeartbeats 4000000 in
theorem wakes_ok (w : World) : Calls Try.prog 8 #[] w fun e w' => e = .returned (.bool true) ∧ Below w.heap.size w w' := by
  go_enter Try.func8, Try.ntmps8
  go_wp2_with fail
  refine (new_at 3 (by decide) (by decide) w).mono ?_
  rintro e w1 ⟨g, rfl, hr, hb⟩
  have HR := Lib.hid hr; clear hr
  have HB := Lib.hid hb; clear hb
  have HG := Lib.hid HR.out.low
  have c1 := add_at wt1 (.slice none 0 0) w1 HR.out (by decide) (RowS.nil _ _) (by decide)
  rw [wk1.1, wk1.2.1, wk1.2.2.1, wk1.2.2.2] at c1
  unfold aggT at c1
  have HC := Lib.hid c1; clear c1
  go_wp2_with fail
  refine HC.out.mono ?_
  clear HC
  rintro e w2 ⟨rfl, hr, ht⟩
  replace HB := Lib.hid (touch_below HB.out (Nat.le_refl _) HG.out HB.out.size ht); clear ht
  replace HR := Lib.hid hr; clear hr
  have c1 := add_at wt2 (.slice none 0 0) w2 HR.out (by decide) (RowS.nil _ _) (by decide)
  rw [wk2.1, wk2.2.1, wk2.2.2] at c1
  unfold aggT at c1
  have HC := Lib.hid c1; clear c1
  go_wp2_with fail
  refine HC.out.mono ?_
  clear HC
  rintro e w3 ⟨rfl, hr, ht⟩
  replace HB := Lib.hid (touch_below HB.out (Nat.le_refl _) HG.out HB.out.size ht); clear ht
  replace HR := Lib.hid hr; clear hr
  have c1 := add_at wt3 (.slice none 0 0) w3 HR.out (by decide) (RowS.nil _ _) (by decide)
  rw [wk3.1, wk3.2.1, wk3.2.2] at c1
  unfold aggT at c1
  have HC := Lib.hid c1; clear c1
  go_wp2_with fail
  refine HC.out.mono ?_
  clear HC
  rintro e w4 ⟨rfl, hr, ht⟩
  replace HB := Lib.hid (touch_below HB.out (Nat.le_refl _) HG.out HB.out.size ht); clear ht
  replace HR := Lib.hid hr; clear hr
  have c1 := get_at 1 w4 HR.out
  unfold aggT at c1
  rw [show idxR 3 wp2.length 1 = some 0 from rfl] at c1
  have HC := Lib.hid c1; clear c1
  go_wp2_with fail
  refine HC.out.mono ?_
  clear HC
  rintro e w5 ⟨v', rfl, ho, hd⟩
  obtain ⟨la, lc, hv⟩ := ho.form
  subst hv
  replace HB := Lib.hid (chain2 HB.out hd)
  replace HR := Lib.hid (HR.out.below hd); clear hd ho
  simp only [show (wp2.getD 0 z0).left = 300 from rfl]
  generalize wp2.getD 0 z0 = q at *
  go_wp2_with fail
  have hal := below_alloc (Below.refl w5.heap.size w5) (.cells #[.int .i64 q.num, .int .u8 q.kind, .int .i64 q.shift, .int .i64 q.ref, .int .i64 q.amount, .int .i64 300, .bool q.void, .slice la q.ls.length lc] 37)
  replace HB := Lib.hid (chain2 HB.out hal)
  replace HR := Lib.hid (HR.out.below hal); clear hal
  refine (next_at _ HR.out).mono ?_
  rintro e w' ⟨rfl, rfl⟩
  go_wp2
  go_ret
  exact ⟨rfl, HB.out⟩
end Go.Proofs.Ytdeeakjkhcdkaaa
