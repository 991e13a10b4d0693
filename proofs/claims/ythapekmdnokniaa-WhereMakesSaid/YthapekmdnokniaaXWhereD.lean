/- where: Drop. No conditions beyond the form's own reach. -/
import Derived.Test.YthapekmdnokniaaXWhereC
import Derived.Test.YthapekmdnokniaaXTouch
namespace Go.Proofs.Ythapekmdnokniaa
open Go.RowKit Go.Lib Go.Maps Go.Proofs.YthapekmdnokniaaW.PrintWords Go.Proofs.YthapekmdnokniaaW.PrintLast Go.Proofs.YthapekmdnokniaaW.PrintMore
set_option linter.unusedVariables false
set_option linter.unusedSimpArgs false
def rg9_7.T : Bool × List (List Nat × List Nat) := (true, [([], []), ([0], [0]), ([1], [1]), ([2], [2]), ([], []), ([3, 4], [3, 4])])
def rg9_7.B : List Nat := [0, 1, 3, 7, 0, 31]
theorem rg9_7.tab : rtab .any (opsOf Try.f9 7) = rg9_7.T := by kernel_rfl
theorem rg9_7.bits : waitsOk rg9_7.T.2 rg9_7.B = true := by kernel_rfl
def rg9_8.T : Bool × List (List Nat × List Nat) := (true, [([], []), ([0], [0]), ([1], [1]), ([2], [2]), ([], []), ([4], [4]), ([3, 5], [3, 5]), ([6], [6]), ([7], [7]), ([3, 5, 0, 1, 2, 3, 4, 5, 6, 7, 8], [3, 5]), ([9, 8, 0, 1, 2, 3, 4, 5, 6, 7, 8], [8, 9])])
def rg9_8.B : List Nat := [0, 1, 3, 7, 0, 16, 63, 127, 255, 511, 1023]
theorem rg9_8.tab : rtab .any (opsOf Try.f9 8) = rg9_8.T := by kernel_rfl
theorem rg9_8.bits : waitsOk rg9_8.T.2 rg9_8.B = true := by kernel_rfl
theorem delete_exec {P : Program} {oi : Oper} {f : Operand → Value} {w w' : World} {m x : Operand} {t k : TypeId} {mv kv : Value} (ho : oi.op = .call { callee := .builtin .delete, args := #[m, x], argTypes := #[t, k] }) (hm : f m = mv) (hx : f x = kv)
    (hr : (Builtin.delete_ #[t, k] oi.type #[mv, kv]).run P w = .ok (.tuple #[]) w') : (execOp f oi).run P w = .ok (.value (.tuple #[])) w' := by
  unfold execOp
  simp only [ho, resolve, invoke, builtin, Sem.run_bind, Sem.run_pure, Result.andThen_ok, List.map_toArray, List.map_cons, List.map_nil, hm, hx, hr]
theorem entry_exec {P : Program} {oi : Oper} {f : Operand → Value} {w w' : World} {m x : Operand} {t : TypeId} {mv kv v : Value} (ho : oi.op = .mapEntry t m x) (hm : f m = mv) (hx : f x = kv)
    (hr : (Instr.mapEntry t mv kv).run P w = .ok v w') : (execOp f oi).run P w = .ok (.value v) w' := by
  simp [execOp, ho, hm, hx, hr, Result.andThen]
theorem estore_exec {P : Program} {oi : Oper} {f : Operand → Value} {w w' : World} {m st x : Operand} {t : TypeId} {mv sv v : Value} (ho : oi.op = .entryStore t m st x) (hm : f m = mv) (hs : f st = sv) (hx : f x = v)
    (hr : (Instr.entryStore t mv sv v).run P w = .ok () w') : (execOp f oi).run P w = .ok .skip w' := by
  simp [execOp, ho, hm, hs, hx, hr, Result.andThen]
theorem map_ne {P : Program} {K : TypeId} {κ : Type} {ek : κ → Value} {ok : κ → Prop} {w : World} {b c g : Nat} {f : κ → Option Value} {cs : Array Value} {T : TypeId} {fr : Nat × Nat} (hm : MapV P K ek ok w b c f) (h : w.heap[g]? = some (.cells cs T fr)) : g ≠ b := by
  intro e
  subst e
  obtain ⟨D, ⟨es, clock, h2, _⟩, _⟩ := hm
  rw [h] at h2
  cases h2
theorem blk_grown {w w' : World} {b g : Nat} {o : Obj} (hg : w.grownBy w' (some b)) (h : w.heap[g]? = some o) (hne : g ≠ b) : w'.heap[g]? = some o :=
  (hg.block g (blk_lt h) (fun e => hne (Option.some.inj e))).trans h
theorem LiveAt.grown {w w' : World} {b bl : Nat} {live : List Int} (h : LiveAt w bl live) (hg : w.grownBy w' (some b)) (hne : bl ≠ b) : LiveAt w' bl live := by
  obtain ⟨cur, h1, h2⟩ := h
  exact ⟨cur, blk_grown hg h1 hne, h2⟩
theorem LiveAt.set {w : World} {bl : Nat} {live : List Int} (h : LiveAt w bl live) {n : Nat} (hn : n < live.length) (v : Int) : LiveAt (w.setCell ⟨bl, n, none⟩ (.int .i64 v)) bl (live.set n v) := by
  obtain ⟨cur, h1, h2⟩ := h
  have hc : n < cur.size := (Array.getElem?_eq_some_iff.mp (h2 n hn)).1
  refine ⟨cur.setIfInBounds n (.int .i64 v), heap_setCell_same w bl n cur _ (.int .i64 v) h1, fun j hj => ?_⟩
  rw [List.length_set] at hj
  rw [Array.getElem?_setIfInBounds]
  by_cases e : n = j
  · subst e
    rw [if_pos rfl, if_pos hc, List.getElem_set_self]
  · rw [if_neg e, h2 j hj, List.getElem_set_ne e]
theorem LiveAt.cell {w : World} {bl : Nat} {live : List Int} (h : LiveAt w bl live) {n : Nat} (hn : n < live.length) : w.cell? ⟨bl, n, none⟩ = some (.int .i64 (live.getD n 0)) ∧ w.frozen? ⟨bl, n, none⟩ = false := by
  obtain ⟨cur, h1, h2⟩ := h
  refine ⟨?_, pl_frozen h1 n⟩
  rw [cell_of_row w bl n cur _ (0, 0) h1, h2 n hn, List.getD_eq_getElem?_getD, List.getElem?_eq_getElem hn]
  rfl
theorem set_other {w : World} {b c i : Nat} {x : Obj} (h : w.heap[b]? = some x) (hne : b ≠ c) (v : Value) : (w.setCell ⟨c, i, none⟩ v).heap[b]? = some x :=
  ((Lib.grownBy_setCell w c i v).block b (blk_lt h) (fun e => hne (by cases e; rfl))).trans h
/-- What Put and Drop write. -/
def wT (bm bo bl : Nat) (i : Nat) : Prop := i = bm ∨ i = bo ∨ i = bl
/-- What Drop answers. -/
theorem drop_any (k : Int) {base : Nat} {w : World} {g B P L : Nat} {s : WS} {bm bo bl cap : Nat} (h : WAt base w g B P L s bm bo bl cap) (hs : WOk B P L s) (hin : WIn B P L) :
    Calls Try.prog 9 #[.pointer (some ⟨g, 0, none⟩), .int .i64 k] w fun e w' => e = .returned (.int .i64 (chkE L k)) ∧ WAt base w' g B P L (if chkE L k = 0 then dropS s k else s) bm bo bl cap ∧ Touch (wT bm bo bl) w w' := by
  have H := Lib.hid h; clear h
  have HS := Lib.hid hs; clear hs
  have HIn := Lib.hid hin; clear hin
  go_enter Try.func9, Try.ntmps9
  go_wp2_with fail
  refine (check_ok k H.out).mono ?_
  rintro e wx ⟨rfl, rfl⟩
  by_cases hc : chkE L k = 0
  · have hk : 0 ≤ k ∧ k < (L : Int) := by
      unfold chkE at hc
      by_cases e : k < 0 ∨ (L : Int) ≤ k
      · rw [if_pos e] at hc; exact absurd hc (by decide)
      · omega
    have HIk := Lib.hid (i64_of k (by omega) (by have := HIn.out.l.2; omega))
    have HBs := Lib.hid (show base ≤ w.heap.size from Nat.le_trans H.out.b1.1 (Nat.le_of_lt (blk_lt H.out.box)))
    have HC := Lib.hid hc
    rw [hc]
    have HK := Lib.hid hk; clear hk hc
    obtain ⟨c0, c1, c2, c3, c4, c5⟩ := w6_cells H.out.box
    have hl0 := H.out.mat.lookOk keyN Try.underlying60 (zeroPl w) k HIk.out
    cases hat : s.at_ k with
    | none =>
      have HD := Lib.hid (show dropS s k = s by unfold dropS; rw [hat])
      have hl : (Instr.lookup 60 (.map (some bm)) (.int .i64 k) true).run Try.prog w = .ok (.tuple #[.agg #[.int .i64 0, .int .i64 0], .bool false]) w := by
        rw [hl0, hat]; rfl
      clear hl0 hat
      go_wp2
      go_ret
      exact ⟨rfl, by rw [HD.out]; exact H.out.below (below_alloc (Below.refl _ _) _), (Touch.refl _ w).alloc _⟩
    | some p =>
      obtain ⟨a, b⟩ := p
      have hr := HS.out.rng k (a, b) hat
      obtain ⟨_, _, r1, r2, r3, r4⟩ := hr
      simp only at r1 r2 r3 r4
      have hl : (Instr.lookup 60 (.map (some bm)) (.int .i64 k) true).run Try.prog w = .ok (.tuple #[.agg #[.int .i64 a, .int .i64 b], .bool true]) w := by
        rw [hl0, hat]; rfl
      obtain ⟨n, hn⟩ : ∃ n : Nat, a = (n : Int) := ⟨a.toNat, by omega⟩
      have hnB : n < s.live.length := by rw [HS.out.len]; omega
      have hv := HS.out.lv n (by omega)
      have hcp := (HS.out.count_pos hat).1
      have hcl := count_le L (inB s.at_ n)
      obtain ⟨v, hv0, hv1, hv2⟩ : ∃ v : Int, s.live.getD n 0 = v ∧ 1 ≤ v ∧ v ≤ 4096 := by
        refine ⟨_, rfl, ?_, ?_⟩
        · rw [List.getD_eq_getElem?_getD, hv]
          simp only [Option.getD_some]
          rw [show (a, b).1.toNat = n by show a.toNat = n; omega] at hcp
          omega
        · rw [List.getD_eq_getElem?_getD, hv]
          simp only [Option.getD_some]
          have := HIn.out.l.2
          omega
      have HOk := Lib.hid (show okP (a, b) from ⟨i64_of a (by omega) (by have := HIn.out.b.2; omega), i64_of b (by omega) (by have := HIn.out.p.2; omega)⟩)
      have HD := Lib.hid (show dropS s k = ⟨fun j => if j = k then none else s.at_ j, fun q => if q = (a, b) then none else s.ow q, s.live.set n (v - 1), s.ca - 1, s.co - 1⟩ by unfold dropS; rw [hat]; dsimp only; rw [show a.toNat = n by omega, hv0])
      have ha := below_alloc (Below.refl w.heap.size w) (.cells #[.int .i64 a, .int .i64 b] 30)
      have HX := Lib.hid (heap_alloc_new w (.cells #[.int .i64 a, .int .i64 b] 30))
      have HB := Lib.hid ((Touch.refl (wT bm bo bl) w).alloc (.cells #[.int .i64 a, .int .i64 b] 30))
      have HG := Lib.hid (blk_below H.out.box ha)
      have HM := Lib.hid (H.out.mat.below ha)
      have HO := Lib.hid (H.out.mow.below ha)
      have HL := Lib.hid (show LiveAt (w.alloc (.cells #[.int .i64 a, .int .i64 b] 30)) bl s.live by obtain ⟨cur, q1, q2⟩ := H.out.lv; exact ⟨cur, blk_below q1 ha, q2⟩)
      have HNe := Lib.hid (show bm ≠ bo ∧ g ≠ bl ∧ w.heap.size ≠ bl ∧ w.heap.size ≠ g by
        refine ⟨H.out.ne.1, H.out.ne.2.1, ?_, fun e => Nat.lt_irrefl _ (e ▸ blk_lt H.out.box)⟩
        obtain ⟨cur, q1, _⟩ := H.out.lv
        exact fun e => Nat.lt_irrefl _ (e ▸ blk_lt q1))
      have HOw := Lib.hid ((HS.out.inv k (a, b)).mp hat)
      have HAt := Lib.hid hat
      have HVv := Lib.hid (And.intro hv0 (And.intro hv1 hv2))
      have HnB := Lib.hid (And.intro hn hnB)
      clear ha hl0 hat hv hcp hcl hv0 hv1 hv2 hn hnB r1 r2 r3 r4
      obtain ⟨d0, d1, d2, d3, d4, d5⟩ := w6_cells HG.out
      go_wp2_with (at_delete; refine wpList_mapV_drop rfl _ _ _ rfl keyN Try.underlying60 rfl HM.out k HIk.out rfl ?_; intro w2 hm2 hg2)
      clear hl c0 c1 c2 c3 c4 c5 d0 d1 d2 d3 d4 d5
      have HM2 := Lib.hid (show MapV Try.prog 3 (fun k : Int => Value.int .i64 k) I64 w2 bm (s.ca - 1) (fun j => (if j = k then none else s.at_ j).map ekP) by
        have q := hm2
        simp only [HAt.out, Option.map_some, Option.isSome_some, if_true] at q
        exact q.congr (fun j _ => by by_cases e : j = k <;> simp [e]))
      have hgm : g ≠ bm := map_ne HM.out HG.out
      have hXm : w.heap.size ≠ bm := map_ne HM.out HX.out
      have hlm : bl ≠ bm := by obtain ⟨cur, q1, _⟩ := HL.out; exact map_ne HM.out q1
      have hgo : g ≠ bo := map_ne HO.out HG.out
      have hXo : w.heap.size ≠ bo := map_ne HO.out HX.out
      have hlo : bl ≠ bo := by obtain ⟨cur, q1, _⟩ := HL.out; exact map_ne HO.out q1
      replace HB := Lib.hid (HB.out.grown hg2 (fun j hj => by injection hj with hj; subst hj; exact .inl (.inl rfl)))
      replace HG := Lib.hid (blk_grown hg2 HG.out hgm)
      replace HX := Lib.hid (blk_grown hg2 HX.out hXm)
      replace HL := Lib.hid (HL.out.grown hg2 hlm)
      replace HO := Lib.hid (HO.out.kept hg2 (by intro e; injection e with e; exact HNe.out.1 e.symm))
      clear hm2 hg2 HM
      have HN2 := Lib.hid (And.intro hgo (And.intro hXo hlo)); have HNe2 := Lib.hid (And.intro hlm hlo); clear hgm hXm hlm hgo hXo hlo
      generalize w.heap.size = bx at HX HNe HN2 ⊢
      replace HB := Lib.hid (show Touch (wT bm bo bl) w w2.drew from HB.out.drew)
      replace HM2 := Lib.hid (show MapV Try.prog 3 (fun k : Int => Value.int .i64 k) I64 w2.drew bm (s.ca - 1) (fun j => (if j = k then none else s.at_ j).map ekP) from HM2.out)
      replace HO := Lib.hid (show MapV Try.prog 30 ekP okP w2.drew bo s.co (fun p => (s.ow p).map encI) from HO.out)
      replace HL := Lib.hid (show LiveAt w2.drew bl s.live from HL.out)
      have hS : w2.drew.heap[bx]? = some (.cells #[.int .i64 a, .int .i64 b] 30 (0, 0)) ∧ w2.drew.heap[g]? = some (.cells #[.int .i64 (B : Int), .int .i64 (P : Int), .int .i64 (L : Int), .map (some bm), .map (some bo), .slice (some ⟨bl, 0, none⟩) B cap] 63 (0, 0)) := ⟨HX.out, HG.out⟩
      refine start_ (n := 6) (S := fun w' => w'.heap[bx]? = some (.cells #[.int .i64 a, .int .i64 b] 30 (0, 0)) ∧ w'.heap[g]? = some (.cells #[.int .i64 (B : Int), .int .i64 (P : Int), .int .i64 (L : Int), .map (some bm), .map (some bo), .slice (some ⟨bl, 0, none⟩) B cap] 63 (0, 0))) (ds := []) #[false, false, false, false, false, false] (by kernel_rfl) rfl rfl hS (fun hHeld => ?_)
      refine with_tabW rg9_7.tab rg9_7.bits (fun HT_ HW_ => ?_)
      generalize w2.drew = w' at HB HM2 HO HL hHeld ⊢
      refine pure_ (i := 0) (N := some 29) (v := ?_) (a' := ?_) #[true, false, false, false, false, false] rfl rfl (any_of HT_.out (by kernel_rfl)) (fun _ _ _ h => h) (Or.inl ⟨by rfl, ?_⟩) ?_ ?_
      rotate_left
      · intro w'
        go_simp
        try with_reducible rfl
      rotate_left
      · simp (maxSteps := 4000000) only [Act.put, List.setIfInBounds_toArray, List.set_cons_zero, List.set_cons_succ, i64_w, i32_w]
        try rfl
      refine pure_ (i := 1) (N := some 30) (v := ?_) (a' := ?_) #[true, true, false, false, false, false] rfl rfl (any_of HT_.out (by kernel_rfl)) (fun _ _ _ h => h) (Or.inl ⟨by rfl, ?_⟩) ?_ ?_
      rotate_left
      · intro w'
        go_simp
        try with_reducible rfl
      rotate_left
      · simp (maxSteps := 4000000) only [Act.put, List.setIfInBounds_toArray, List.set_cons_zero, List.set_cons_succ, i64_w, i32_w]
        try rfl
      refine pure_ (i := 2) (N := some 31) (v := ?_) (a' := ?_) #[true, true, true, false, false, false] rfl rfl (any_of HT_.out (by kernel_rfl)) (fun _ _ _ h => h) (Or.inl ⟨by rfl, ?_⟩) ?_ ?_
      rotate_left
      · intro w'
        go_simp
        try with_reducible rfl
      rotate_left
      · simp (maxSteps := 4000000) only [Act.put, List.setIfInBounds_toArray, List.set_cons_zero, List.set_cons_succ, i64_w, i32_w]
        try rfl
      refine take_ (i := 3) (N := some 32) (v := ?_) (a' := ?_) #[true, true, true, true, false, false] rfl rfl (take_ofW HT_.out HW_.out (by kernel_rfl)) (fun _ _ _ h => h) (Or.inl ⟨by rfl, ?_⟩) hHeld ?_ ?_
      rotate_left
      · intro w' hw_
        try dsimp only at hw_
        obtain ⟨c0, c1, c2, c3, c4, c5⟩ := w6_cells hw_.2
        go_simp
        try with_reducible rfl
      rotate_left
      · simp (maxSteps := 4000000) only [Act.put, List.setIfInBounds_toArray, List.set_cons_zero, List.set_cons_succ, i64_w, i32_w]
        try rfl
      refine take_ (i := 4) (N := some 33) (v := ?_) (a' := ?_) #[true, true, true, true, true, false] rfl rfl (take_ofW HT_.out HW_.out (by kernel_rfl)) (fun _ _ _ h => h) (Or.inl ⟨by rfl, ?_⟩) hHeld ?_ ?_
      rotate_left
      · intro w' hw_
        try dsimp only at hw_
        obtain ⟨g0, g1⟩ := w2_cells hw_.1
        go_simp
        try with_reducible rfl
      rotate_left
      · simp (maxSteps := 4000000) only [Act.put, List.setIfInBounds_toArray, List.set_cons_zero, List.set_cons_succ, i64_w, i32_w]
        try rfl
      refine one_ (i := 5) (N := none) #[true, true, true, true, true, true] rfl rfl (one_of HT_.out (by kernel_rfl)) (by decide) (fun K hK => ?_)
      obtain ⟨w', hr, hm3, hg3⟩ := MapV.drop keyP HO.out Try.underlying61 0 (a, b) HOk.out
      refine value_ (v := .tuple #[]) (w1 := w') (by rfl) rfl (delete_exec rfl (by rfl) (by rfl) hr) ?_
      clear hr
      have hSS := And.intro (blk_grown hg3 hHeld.1 HN2.out.2.1) (blk_grown hg3 hHeld.2 HN2.out.1)
      replace HB := Lib.hid (HB.out.grown hg3 (fun j hj => by injection hj with hj; subst hj; exact .inl (.inr (.inl rfl))))
      replace HM2 := Lib.hid (HM2.out.kept hg3 (by intro e; injection e with e; exact HNe.out.1 e))
      replace HL := Lib.hid (HL.out.grown hg3 HN2.out.2.2)
      replace HO := Lib.hid hm3
      clear hm3 hg3
      refine hK.out _ _ (hSS) (fun hHeld => ?_)
      clear hK K
      refine norm_ (a' := ?_) ?_ ?_
      rotate_left
      · show Act.put _ none _ = _
        simp (maxSteps := 4000000) only [Act.put, List.setIfInBounds_toArray, List.set_cons_zero, List.set_cons_succ, i64_w, i32_w]
        try rfl
      refine done_ (done_of HT_.out (by kernel_rfl)) ?_
      clear hS
      have HS2 := Lib.hid hHeld; clear hHeld
      have HO2 := Lib.hid (show MapV Try.prog 30 ekP okP w' bo (s.co - 1) (fun q => (if q = (a, b) then none else s.ow q).map encI) by
        have q := HO.out
        simp only [HOw.out, Option.map_some, Option.isSome_some, if_true] at q
        exact q.congr (fun j _ => by by_cases e : j = (a, b) <;> simp [e]))
      clear HO
      obtain ⟨hv0, hv1, hv2⟩ := HVv.out
      obtain ⟨hn, hnB⟩ := HnB.out
      have hnb : n < B := by rw [← HS.out.len]; exact hnB
      obtain ⟨hcl, hfr⟩ := HL.out.cell hnB
      rw [hv0] at hcl
      have hw1 : wrap64 (v - 1) = v - 1 := by unfold wrap64; omega
      have j1 : ((0 : Int) ≤ (n : Int)) = True := eq_true (by omega)
      have j2 : ((n : Int) < (B : Int)) = True := eq_true (by omega)
      have j3 : (n < B) = True := eq_true hnb
      have j4 : decide (n < B) = true := decide_eq_true hnb
      subst hn
      clear hv0 hnB hnb
      replace HB := Lib.hid (show Touch (wT bm bo bl) w w'.drew from HB.out.drew)
      replace HM2 := Lib.hid (show MapV Try.prog 3 (fun k : Int => Value.int .i64 k) I64 w'.drew bm (s.ca - 1) (fun j => (if j = k then none else s.at_ j).map ekP) from HM2.out)
      replace HO2 := Lib.hid (show MapV Try.prog 30 ekP okP w'.drew bo (s.co - 1) (fun q => (if q = ((n : Int), b) then none else s.ow q).map encI) from HO2.out)
      replace HL := Lib.hid (show LiveAt w'.drew bl s.live from HL.out)
      have hF : w'.drew.frozen? ⟨bl, n, none⟩ = false := hfr
      have HFr := Lib.hid hF; clear hF hfr
      have hS : w'.drew.heap[bx]? = some (.cells #[.int .i64 (n : Int), .int .i64 b] 30 (0, 0)) ∧ w'.drew.heap[g]? = some (.cells #[.int .i64 (B : Int), .int .i64 (P : Int), .int .i64 (L : Int), .map (some bm), .map (some bo), .slice (some ⟨bl, 0, none⟩) B cap] 63 (0, 0)) ∧ w'.drew.cell? ⟨bl, n, none⟩ = some (.int .i64 v) := ⟨HS2.out.1, HS2.out.2, hcl⟩
      clear hcl
      go_wp2_with fail
      refine start_ (n := 11) (S := fun w' => w'.heap[bx]? = some (.cells #[.int .i64 (n : Int), .int .i64 b] 30 (0, 0)) ∧ w'.heap[g]? = some (.cells #[.int .i64 (B : Int), .int .i64 (P : Int), .int .i64 (L : Int), .map (some bm), .map (some bo), .slice (some ⟨bl, 0, none⟩) B cap] 63 (0, 0)) ∧ w'.cell? ⟨bl, n, none⟩ = some (.int .i64 v)) (ds := [10]) #[false, false, false, false, false, false, false, false, false, false, false] (by kernel_rfl) rfl rfl hS (fun hHeld => ?_)
      refine with_tabW rg9_8.tab rg9_8.bits (fun HT_ HW_ => ?_)
      generalize w'.drew = w' at HB HM2 HO2 HL HFr hHeld ⊢
      refine pure_ (i := 0) (N := some 34) (v := ?_) (a' := ?_) #[true, false, false, false, false, false, false, false, false, false, false] rfl rfl (any_of HT_.out (by kernel_rfl)) (fun _ _ _ h => h) (Or.inl ⟨by rfl, ?_⟩) ?_ ?_
      rotate_left
      · intro w'
        go_simp
        try with_reducible rfl
      rotate_left
      · simp (maxSteps := 4000000) only [Act.put, List.setIfInBounds_toArray, List.set_cons_zero, List.set_cons_succ, i64_w, i32_w]
        try rfl
      refine pure_ (i := 1) (N := some 35) (v := ?_) (a' := ?_) #[true, true, false, false, false, false, false, false, false, false, false] rfl rfl (any_of HT_.out (by kernel_rfl)) (fun _ _ _ h => h) (Or.inl ⟨by rfl, ?_⟩) ?_ ?_
      rotate_left
      · intro w'
        go_simp
        try with_reducible rfl
      rotate_left
      · simp (maxSteps := 4000000) only [Act.put, List.setIfInBounds_toArray, List.set_cons_zero, List.set_cons_succ, i64_w, i32_w]
        try rfl
      refine pure_ (i := 2) (N := some 36) (v := ?_) (a' := ?_) #[true, true, true, false, false, false, false, false, false, false, false] rfl rfl (any_of HT_.out (by kernel_rfl)) (fun _ _ _ h => h) (Or.inl ⟨by rfl, ?_⟩) ?_ ?_
      rotate_left
      · intro w'
        go_simp
        try with_reducible rfl
      rotate_left
      · simp (maxSteps := 4000000) only [Act.put, List.setIfInBounds_toArray, List.set_cons_zero, List.set_cons_succ, i64_w, i32_w]
        try rfl
      refine pure_ (i := 4) (N := some 38) (v := ?_) (a' := ?_) #[true, true, true, false, true, false, false, false, false, false, false] rfl rfl (any_of HT_.out (by kernel_rfl)) (fun _ _ _ h => h) (Or.inl ⟨by rfl, ?_⟩) ?_ ?_
      rotate_left
      · intro w'
        go_simp
        try with_reducible rfl
      rotate_left
      · simp (maxSteps := 4000000) only [Act.put, List.setIfInBounds_toArray, List.set_cons_zero, List.set_cons_succ, i64_w, i32_w]
        try rfl
      refine take_ (i := 3) (N := some 37) (v := ?_) (a' := ?_) #[true, true, true, true, true, false, false, false, false, false, false] rfl rfl (take_ofW HT_.out HW_.out (by kernel_rfl)) (fun _ _ _ h => h) (Or.inl ⟨by rfl, ?_⟩) hHeld ?_ ?_
      rotate_left
      · intro w' hw_
        try dsimp only at hw_
        obtain ⟨c0, c1, c2, c3, c4, c5⟩ := w6_cells hw_.2.1
        go_simp
        try with_reducible rfl
      rotate_left
      · simp (maxSteps := 4000000) only [Act.put, List.setIfInBounds_toArray, List.set_cons_zero, List.set_cons_succ, i64_w, i32_w]
        try rfl
      refine take_ (i := 5) (N := some 39) (v := ?_) (a' := ?_) #[true, true, true, true, true, true, false, false, false, false, false] rfl rfl (take_ofW HT_.out HW_.out (by kernel_rfl)) (fun _ _ _ h => h) (Or.inl ⟨by rfl, ?_⟩) hHeld ?_ ?_
      rotate_left
      · intro w' hw_
        try dsimp only at hw_
        obtain ⟨g0, g1⟩ := w2_cells hw_.1
        go_simp
        try with_reducible rfl
      rotate_left
      · simp (maxSteps := 4000000) only [Act.put, List.setIfInBounds_toArray, List.set_cons_zero, List.set_cons_succ, i64_w, i32_w]
        try rfl
      refine pure_ (i := 6) (N := some 40) (v := ?_) (a' := ?_) #[true, true, true, true, true, true, true, false, false, false, false] rfl rfl (any_of HT_.out (by kernel_rfl)) (fun _ _ _ h => h) (Or.inl ⟨by rfl, ?_⟩) ?_ ?_
      rotate_left
      · intro w'
        go_simp
        try with_reducible rfl
      rotate_left
      · simp (maxSteps := 4000000) only [Act.put, List.setIfInBounds_toArray, List.set_cons_zero, List.set_cons_succ, i64_w, i32_w]
        try rfl
      refine take_ (i := 7) (N := some 41) (v := ?_) (a' := ?_) #[true, true, true, true, true, true, true, true, false, false, false] rfl rfl (take_ofW HT_.out HW_.out (by kernel_rfl)) (fun _ _ _ h => h) (Or.inl ⟨by rfl, ?_⟩) hHeld ?_ ?_
      rotate_left
      · intro w' hw_
        try dsimp only at hw_
        have g2 := hw_.2.2
        go_simp
        try with_reducible rfl
      rotate_left
      · simp (maxSteps := 4000000) only [Act.put, List.setIfInBounds_toArray, List.set_cons_zero, List.set_cons_succ, i64_w, i32_w]
        try rfl
      refine pure_ (i := 8) (N := some 42) (v := ?_) (a' := ?_) #[true, true, true, true, true, true, true, true, true, false, false] rfl rfl (any_of HT_.out (by kernel_rfl)) (fun _ _ _ h => h) (Or.inl ⟨by rfl, ?_⟩) ?_ ?_
      rotate_left
      · intro w'
        go_simp
        try with_reducible rfl
      rotate_left
      · simp (maxSteps := 4000000) only [Act.put, List.setIfInBounds_toArray, List.set_cons_zero, List.set_cons_succ, i64_w, i32_w]
        try rfl
      refine pure_ (i := 9) (N := some 43) (v := ?_) (a' := ?_) #[true, true, true, true, true, true, true, true, true, true, false] rfl rfl (any_of HT_.out (by kernel_rfl)) (fun _ _ _ h => h) (Or.inl ⟨by rfl, ?_⟩) ?_ ?_
      rotate_left
      · intro w'
        go_simp
        try with_reducible rfl
      rotate_left
      · simp (maxSteps := 4000000) only [Act.put, List.setIfInBounds_toArray, List.set_cons_zero, List.set_cons_succ, i64_w, i32_w]
        try rfl
      refine last_ (i := 10) (N := none) #[true, true, true, true, true, true, true, true, true, true, true] rfl rfl (one_of HT_.out (by kernel_rfl)) (by decide) (fun K hK => ?_)
      refine skip_ (w1 := w'.setCell ⟨bl, n, none⟩ (.int .i64 (v - 1))) (by rfl) rfl ?_ ?_
      · (have g2 := hHeld.2.2; have g3 := HFr.out; go_simp)
      refine hK.out _ _ ?_
      clear hK K
      refine done_ (done_of HT_.out (by kernel_rfl)) ?_
      have HL2 := Lib.hid (HL.out.set HnB.out.2 (v - 1))
      replace HB := Lib.hid (HB.out.set (g := bl) (i := n) (.inl (.inr (.inr rfl))) (.int .i64 (v - 1)))
      replace HM2 := Lib.hid (HM2.out.set (a := ⟨bl, n, none⟩) (fun e => HNe2.out.1 e.symm) (.int .i64 (v - 1)))
      replace HO2 := Lib.hid (HO2.out.set (a := ⟨bl, n, none⟩) (fun e => HNe2.out.2 e.symm) (.int .i64 (v - 1)))
      have HG2 := Lib.hid (set_other (i := n) hHeld.2.1 HNe.out.2.1 (.int .i64 (v - 1)))
      generalize w'.setCell ⟨bl, n, none⟩ (.int .i64 (v - 1)) = w9 at HL2 HB HM2 HO2 HG2 ⊢
      go_wp2
      go_ret
      refine ⟨rfl, ?_, HB.out⟩
      rw [HD.out]
      exact ⟨H.out.b1, H.out.ne, HG2.out, HM2.out, HO2.out, HL2.out⟩
  · have HC := Lib.hid hc
    have e1 : (chkE L k == 0) = false := by simp [hc]
    have e2 : (chkE L k != 0) = true := by simp [hc]
    have e3 : decide (chkE L k = 0) = false := decide_eq_false hc
    clear hc
    obtain ⟨ce, hce⟩ : ∃ ce, chkE L k = ce := ⟨_, rfl⟩
    rw [hce] at e1 e2 e3 ⊢
    have HCE := Lib.hid hce; clear hce
    go_wp2
    go_ret
    exact ⟨by first | rfl | (rw [HCE.out]; rfl), by first | exact H.out | (rw [if_neg HC.out]; exact H.out) | (rw [if_neg (by rw [← HCE.out]; exact HC.out)]; exact H.out), Touch.refl _ _⟩
end Go.Proofs.Ythapekmdnokniaa
