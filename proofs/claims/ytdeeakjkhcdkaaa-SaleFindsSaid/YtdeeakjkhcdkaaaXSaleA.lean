/- sale: Add. No conditions beyond those that are written. -/
import Derived.Test.YtdeeakjkhcdkaaaXSaleL
import Derived.Deep.Cut
import Derived.Deep.CutBlock
namespace Go.Proofs.Ytdeeakjkhcdkaaa
open Go.RowKit Go.Lib Go.Proofs.YtdeeakjkhcdkaaaW.PrintWords Go.Proofs.YtdeeakjkhcdkaaaW.PrintLast Go.Proofs.YtdeeakjkhcdkaaaW.PrintMore
set_option linter.unusedVariables false
set_option linter.unusedSimpArgs false
def rg10_19.T : Bool × List (List Nat × List Nat) := (true, [([], []), ([], []), ([1], [1]), ([0, 2], [0, 2]), ([3], [3]), ([4], [4]), ([5], [5]), ([], []), ([7], [7]), ([6, 8], [6, 8]), ([3, 0, 1, 2, 3, 4, 5, 6, 7, 8, 9], [3]), ([10, 0, 1, 2, 3, 4, 5, 6, 7, 8, 9], [10]), ([11, 9, 3, 0, 1, 2, 3, 4, 5, 6, 7, 8, 9], [9, 11])])
def rg10_19.B : List Nat := [0, 0, 2, 7, 15, 31, 63, 0, 128, 511, 1023, 2047, 4095]
theorem rg10_19.tab : rtab .any (opsOf Try.f10 19) = rg10_19.T := by kernel_rfl
theorem rg10_19.bits : waitsOk rg10_19.T.2 rg10_19.B = true := by kernel_rfl
def rg10_20.T : Bool × List (List Nat × List Nat) := (true, [([], []), ([], []), ([1], [1]), ([2], [2]), ([3], [3]), ([], []), ([5], [5]), ([4, 6], [4, 6]), ([], []), ([8], [8]), ([9], [9]), ([10], [10]), ([7, 11, 7], [7, 11]), ([0, 0, 1, 2, 3, 4, 5, 6, 7, 8, 9, 10, 11, 12], [0]), ([13, 0, 1, 2, 3, 4, 5, 6, 7, 8, 9, 10, 11, 12], [13]), ([14, 12, 12, 0, 1, 2, 3, 4, 5, 6, 7, 8, 9, 10, 11, 12], [12, 14])])
def rg10_20.B : List Nat := [0, 0, 2, 6, 14, 0, 32, 126, 0, 256, 768, 1792, 4094, 8191, 16383, 32767]
theorem rg10_20.tab : rtab .any (opsOf Try.f10 20) = rg10_20.T := by kernel_rfl
theorem rg10_20.bits : waitsOk rg10_20.T.2 rg10_20.B = true := by kernel_rfl
/-- What Add answers: the error. -/
def addC (next : Nat) (ps : List TP) (t : TP) : Int := if rightT t = true then (if turnC next ps t = 0 then (if 4294967295 < (next : Int) then 7 else 0) else turnC next ps t) else 2
/-- The transaction that is kept. -/
def newT (next : Nat) (t : TP) : TP := ⟨(next : Int), t.kind, t.shift, t.ref, t.amount, if t.kind = 1 then t.amount else 0, false, t.ls⟩
/-- The sale that is turned back. -/
def hitT (t s : TP) : TP := if t.kind = 2 then ⟨s.num, s.kind, s.shift, s.ref, s.amount, 0, true, s.ls⟩ else ⟨s.num, s.kind, s.shift, s.ref, s.amount, s.left - t.amount, s.void, s.ls⟩
def hitR (next : Nat) (ps : List TP) (t : TP) : List TP := if backK t.kind = true then (match idxR next ps.length t.ref with | none => ps | some i => ps.set i (hitT t (ps.getD i z0))) else ps
def addR (keep next : Nat) (ps : List TP) (t : TP) : List TP := (hitR next ps t ++ [newT next t]).drop (ps.length + 1 - keep)
/-- What Add leaves. -/
def AddPost (w : World) (base g keep next : Nat) (v : Value) (ps : List TP) (t : TP) (w' : World) : Prop :=
  if addC next ps t = 0 then ∃ v' xs', RegV w' base g v' keep (next + 1) xs' ∧ xs'.map Prod.fst = addR keep next ps t ∧ Touch (fun k => k = g ∨ v.ownBlock = some k) w w' ∧ (∀ k, v'.ownBlock = some k → v.ownBlock = some k ∨ w.heap.size ≤ k)
  else Below w.heap.size w w'
def addN (next : Nat) (ps : List TP) (t : TP) : Int := if addC next ps t = 0 then (next : Int) else 0
theorem add_nil (a : Value) (h : ∃ t v, a = aggT t v ∧ isSl v = v) (w : World) : Calls Try.prog 10 #[.pointer none, a] w fun e w' => e = .returned (.tuple #[.int .i64 0, .int .i64 1]) ∧ Below w.heap.size w w' := by
  obtain ⟨t, v, rfl, hs⟩ := h
  obtain ⟨va, vn, vc, rfl⟩ := sl_form hs
  clear hs
  unfold aggT
  go_enter Try.func10, Try.ntmps10
  go_wp2
  go_ret2
  exact ⟨rfl, (Below.refl _ w).alloc (Nat.le_refl _) _⟩
theorem right_facts {t : TP} (h : rightT t = true) : 1 ≤ t.kind ∧ t.kind ≤ 6 ∧ t.ls.length ≤ 8 ∧ (backK t.kind = true → 1 ≤ t.ref ∧ t.ref ≤ 4294967295) ∧ (¬ t.kind = 6 → 1 ≤ t.amount ∧ t.amount ≤ 4611686018427387904) := by
  unfold rightT headOk at h
  simp only [Bool.and_eq_true, decide_eq_true_eq] at h
  obtain ⟨⟨h1, h2, h3⟩, h4, h5, h6⟩ := h
  rw [inR_eq] at h1
  refine ⟨h1.1, h1.2, h3, fun hb => ?_, fun hk => ?_⟩
  · unfold refOk at h4; rw [if_pos hb, inR_eq] at h4; exact h4
  · unfold amtOk at h5; rw [if_neg hk, inR_eq] at h5; exact h5
def set8W (w : World) (b : Nat) (t : TP) (v : Value) : World := ((((((((w.setCell ⟨b, 0, none⟩ (.int .i64 t.num)).setCell ⟨b, 1, none⟩ (.int .u8 t.kind)).setCell ⟨b, 2, none⟩ (.int .i64 t.shift)).setCell ⟨b, 3, none⟩ (.int .i64 t.ref)).setCell ⟨b, 4, none⟩ (.int .i64 t.amount)).setCell ⟨b, 5, none⟩ (.int .i64 t.left)).setCell ⟨b, 6, none⟩ (.bool t.void)).setCell ⟨b, 7, none⟩ v)
theorem set8W_grown (w : World) (b : Nat) (t : TP) (v : Value) : w.grownBy (set8W w b t v) (some b) :=
  Lib.grownBy_setB (Lib.grownBy_setB (Lib.grownBy_setB (Lib.grownBy_setB (Lib.grownBy_setB (Lib.grownBy_setB (Lib.grownBy_setB (Lib.grownBy_setCell w b 0 _) 1 _) 2 _) 3 _) 4 _) 5 _) 6 _) 7 _
theorem BoxT.setNum {w : World} {b : Nat} {t : TP} {v : Value} (h : BoxT w b t v) (n : Int) : BoxT (w.setCell ⟨b, 0, none⟩ (.int .i64 n)) b ⟨n, t.kind, t.shift, t.ref, t.amount, t.left, t.void, t.ls⟩ v := by
  unfold BoxT at h ⊢
  rw [heap_setCell_same _ b 0 _ _ _ h]; simp
theorem BoxT.setLeft {w : World} {b : Nat} {t : TP} {v : Value} (h : BoxT w b t v) (n : Int) : BoxT (w.setCell ⟨b, 5, none⟩ (.int .i64 n)) b ⟨t.num, t.kind, t.shift, t.ref, t.amount, n, t.void, t.ls⟩ v := by
  unfold BoxT at h ⊢
  rw [heap_setCell_same _ b 5 _ _ _ h]; simp
theorem BoxT.setVoid {w : World} {b : Nat} {t : TP} {v : Value} (h : BoxT w b t v) (n : Bool) : BoxT (w.setCell ⟨b, 6, none⟩ (.bool n)) b ⟨t.num, t.kind, t.shift, t.ref, t.amount, t.left, n, t.ls⟩ v := by
  unfold BoxT at h ⊢
  rw [heap_setCell_same _ b 6 _ _ _ h]; simp
/-- Another block is written. -/
theorem RegV.grown {w w' : World} {base g b : Nat} {v : Value} {keep next : Nat} {xs : List (TP × Value)} {cs : Array Value} {z : Nat × Nat} (h : RegV w base g v keep next xs) (hg : w.grownBy w' (some b)) (h1 : g ≠ b) (h2 : v.ownBlock ≠ some b) (hb : w.heap[b]? = some (.cells cs 37 z)) : RegV w' base g v keep next xs :=
  { h with
    box := (hg.block g (blk_lt h.box) (fun e => h1 (by cases e; rfl))).trans h.box
    row := h.row.grown hg (.inr h2)
    lines := fun x hx => RowO.grown (h.lines x hx) hg (.inr (RowO.ne (h.lines x hx) hb (by decide))) }
theorem LinesAt.grown {w w' : World} {base b : Nat} {x : TP × Value} {cs : Array Value} {z : Nat × Nat} (h : LinesAt w base x) (hg : w.grownBy w' (some b)) (hb : w.heap[b]? = some (.cells cs 37 z)) : LinesAt w' base x := RowO.grown h hg (.inr (RowO.ne h hb (by decide)))
theorem box3_free {w : World} {b : Nat} {x y z : Value} {t : TypeId} (h : w.heap[b]? = some (.cells #[x, y, z] t (0, 0))) : w.frozen? ⟨b, 0, none⟩ = false ∧ w.frozen? ⟨b, 1, none⟩ = false ∧ w.frozen? ⟨b, 2, none⟩ = false := by
  refine ⟨?_, ?_, ?_⟩
  all_goals (unfold World.frozen?; rw [h]; rfl)
theorem append_len {α : Type} (xs : List α) (x : α) : (xs ++ [x]).length = xs.length + 1 := by simp
/-- A cell of a kept transaction is written. -/
theorem RegV.hit {w : World} {base g gr off rn rc keep next : Nat} {xs : List (TP × Value)} (h : RegV w base g (.slice (some ⟨gr, off, none⟩) rn rc) keep next xs) (i j : Nat) (hi : i < xs.length) (hj : j < 8) (u : Value) (x' : TP) (hx : ∀ l, cellsT x' l = (cellsT xs[i].1 l).set j u) (hlf : 0 ≤ x'.left ∧ x'.left ≤ 4611686018427387904) (hls : x'.ls = xs[i].1.ls) :
    RegV (w.setCell ⟨gr, off + i * 8 + j, none⟩ u) base g (.slice (some ⟨gr, off, none⟩) rn rc) keep next (xs.set i (x', xs[i].2)) := by
  obtain ⟨c, hc⟩ := RowO.typ h.row gr rfl
  have hgg : g ≠ gr := fun e => h.row.ne h.box (by decide) (by rw [e]; rfl)
  have hg := Lib.grownBy_setCell w gr (off + i * 8 + j) u
  have hm : ∀ x ∈ xs.set i (x', xs[i].2), x ∈ xs ∨ x = (x', xs[i].2) := fun x hx => List.mem_or_eq_of_mem_set hx
  refine ⟨h.low, (hg.block g (blk_lt h.box) (by intro e; cases e; exact hgg rfl)).trans h.box, h.row.set encT_len i j hi hj u _ (hx _), fun x hx => ?_, h.k1, h.k2, by rw [List.length_set]; exact h.n1, h.n2, by rw [List.length_set]; exact h.len, fun x hx => ?_, fun x hx => ?_⟩
  · rcases hm x hx with h1 | rfl
    · exact (h.lines x h1).grown hg hc
    · have h0 := (h.lines _ (List.getElem_mem hi)).grown hg hc
      unfold LinesAt at h0 ⊢
      rw [← hls] at h0
      exact h0
  · rcases hm x hx with h1 | rfl
    · exact h.lf x h1
    · exact hlf
  · rcases hm x hx with h1 | rfl
    · exact h.ll x h1
    · show x'.ls.length ≤ 8; rw [hls]; exact h.ll _ (List.getElem_mem hi)
theorem turn_zero {next : Nat} {ps : List TP} {t : TP} (h : turnC next ps t = 0) (hb : backK t.kind = true) : ∃ i, idxR next ps.length t.ref = some i ∧ turnS t (ps.getD i z0) = 0 := by
  unfold turnC at h
  rw [if_pos hb] at h
  cases hi : idxR next ps.length t.ref with
  | none => rw [hi] at h; simp at h
  | some i => rw [hi] at h; exact ⟨i, rfl, h⟩
theorem turnS_zero {t s : TP} (h : turnS t s = 0) : s.kind = 1 ∧ s.void = false ∧ (t.kind = 2 → s.left = s.amount ∧ t.amount = s.amount) ∧ (t.kind = 3 → t.amount ≤ s.left) := by
  unfold turnS at h
  split at h
  · rename_i h1
    split at h
    · simp at h
    · rename_i h2
      split at h
      · simp at h
      · rename_i h3
        split at h
        · simp at h
        · rename_i h4
          refine ⟨h1, by simpa using h2, fun hk => ⟨Decidable.byContradiction fun hn => h3 (.inl ⟨hk, hn⟩), Decidable.byContradiction fun hn => h4 ⟨hk, hn⟩⟩, fun hk => Int.not_lt.mp fun hn => h3 (.inr ⟨hk, hn⟩)⟩
  · simp at h
theorem RegV.final {w2 : World} {base g keep next : Nat} {v0 vz : Value} {zs : List (TP × Value)} (hlow : base ≤ g) (hbo : w2.heap[g]? = some (.cells #[.int .i64 (keep : Int), .int .i64 (next : Int), v0] 88 (0, 0))) (hro : RowO encT 8 37 w2 base vz zs)
    (hsub : ∀ x ∈ zs, (0 ≤ x.1.left ∧ x.1.left ≤ 4611686018427387904) ∧ x.1.ls.length ≤ 8 ∧ LinesAt w2 base x) (k1 : 1 ≤ keep) (k2 : keep ≤ 512) (hle : zs.length ≤ keep ∧ zs.length < next + 1) (n2 : next + 1 ≤ 4294967296) :
    RegV ((w2.setCell ⟨g, 2, none⟩ vz).setCell ⟨g, 1, none⟩ (.int .i64 ((next + 1 : Nat) : Int))) base g vz keep (next + 1) zs := by
  have hne := hro.ne hbo (by decide)
  refine ⟨hlow, ?_, (hro.other hne 2 _).other hne 1 _, fun x hx => ?_, k1, k2, hle.2, n2, hle.1, fun x hx => (hsub x hx).1, fun x hx => (hsub x hx).2.1⟩
  · rw [heap_setCell_same _ g 1 _ _ _ (heap_setCell_same _ g 2 _ _ _ hbo)]; simp
  · have hl := (hsub x hx).2.2
    have hn := RowO.ne hl hbo (by decide)
    exact RowO.other (RowO.other hl hn 2 _) hn 1 _
set_option maxHeartbeats 16000000 in
set_option maxRecDepth 100000 in
theorem add_ok {base g : Nat} {v : Value} {keep next : Nat} {xs : List (TP × Value)} (t : TP) (tv : Value) (w : World) (h : RegV w base g v keep next xs) (hk : 0 ≤ t.kind ∧ t.kind < 256) (hr : RowS encL w tv t.ls) (hl : t.ls.length ≤ 1000000) :
    Calls Try.prog 10 #[.pointer (some ⟨g, 0, none⟩), aggT t tv] w fun e w' => e = .returned (.tuple #[.int .i64 (addN next (xs.map Prod.fst) t), .int .i64 (addC next (xs.map Prod.fst) t)]) ∧ AddPost w base g keep next v (xs.map Prod.fst) t w' := by
  obtain ⟨va, vc, rfl, _⟩ := hr.len
  obtain ⟨ra, rn, rc, rfl, hrn⟩ : ∃ a n c, v = .slice a n c ∧ n = xs.length := by obtain ⟨a, c, h⟩ := h.sl; exact ⟨a, _, c, h, rfl⟩
  have HRn := Lib.hid hrn; clear hrn
  have hb := below_alloc (Below.refl w.heap.size w) (.cells #[.int .i64 t.num, .int .u8 t.kind, .int .i64 t.shift, .int .i64 t.ref, .int .i64 t.amount, .int .i64 t.left, .bool t.void, .slice va t.ls.length vc] 37)
  have hX := BoxT.new w t (.slice va t.ls.length vc)
  have HRg := Lib.hid (h.below hb)
  have HVlt := Lib.hid h.row.lt
  have HRs := Lib.hid (hr.below hb); clear hr
  have HB := Lib.hid hb; clear hb
  have HK := Lib.hid hk; clear hk
  have HL := Lib.hid hl; clear hl
  have HG := Lib.hid (And.intro h.low h.lt); clear h
  have hco : ∀ W, RowS encL W (.slice va t.ls.length vc) t.ls → _ := fun W hrs => right_ok t HK.out (.slice va t.ls.length vc) W HL.out hrs
  have hct : ∀ W, RegV W base g (.slice ra rn rc) keep next xs → _ := fun W hrg => turn_ok (base := base) (g := g) (v := .slice ra rn rc) (keep := keep) (next := next) (xs := xs) t (.slice va t.ls.length vc) W hrg rfl
  have hcc : ∀ W, RowS encL W (.slice va t.ls.length vc) t.ls → _ := fun W hrs => copied_ok t (.slice va t.ls.length vc) W HL.out hrs
  unfold aggT at hco hct hcc ⊢
  have HCo := Lib.hid hco; clear hco
  have HCt := Lib.hid hct; clear hct
  have HCc := Lib.hid hcc; clear hcc
  generalize hps : xs.map Prod.fst = ps at HCt ⊢
  have HPs := Lib.hid hps; clear hps
  go_enter Try.func10, Try.ntmps10
  go_wp2_with fail
  generalize w.alloc (.cells #[.int .i64 t.num, .int .u8 t.kind, .int .i64 t.shift, .int .i64 t.ref, .int .i64 t.amount, .int .i64 t.left, .bool t.void, .slice va t.ls.length vc] 37) = w1 at hX HB HRg HRs ⊢
  have HX := Lib.hid hX; clear hX
  generalize hbx : w.heap.size = bx at HX ⊢
  have Hbx := Lib.hid (show w.heap.size ≤ bx ∧ bx ≤ w.heap.size by omega); clear hbx
  refine (HCo.out w1 HRs.out).mono ?_
  clear HCo
  rintro e w2 ⟨rfl, hd⟩
  replace HX := Lib.hid (HX.out.below hd)
  replace HRg := Lib.hid (HRg.out.below hd)
  replace HRs := Lib.hid (HRs.out.below hd)
  replace HB := Lib.hid (chain2 HB.out hd); clear hd
  cases hri : rightT t with
  | false =>
    have HA := Lib.hid (show addC next ps t = 2 by unfold addC; rw [hri]; rfl); clear hri
    go_wp2
    go_ret2
    exact ⟨by unfold addN; rw [HA.out]; rfl, by unfold AddPost; rw [if_neg (by rw [HA.out]; decide)]; exact HB.out⟩
  | true =>
    have HRi := Lib.hid hri; clear hri
    obtain ⟨c0, c1, c2, c3, c4, c5, c6, c7⟩ := HX.out.cells
    go_wp2_with fail
    refine (HCt.out w2 HRg.out).mono ?_
    clear HCt c0 c1 c2 c3 c4 c5 c6 c7
    rintro e w3 ⟨rfl, hd⟩
    replace HX := Lib.hid (HX.out.below hd)
    replace HRg := Lib.hid (HRg.out.below hd)
    replace HRs := Lib.hid (HRs.out.below hd)
    replace HB := Lib.hid (chain2 HB.out hd); clear hd
    by_cases hc : turnC next ps t = 0
    · rw [hc]
      by_cases hn : 4294967295 < (next : Int)
      · have HA := Lib.hid (show addC next ps t = 7 by unfold addC; rw [HRi.out, if_pos rfl, if_pos hc, if_pos hn])
        have hn2 : decide (4294967295 < (next : Int)) = true := decide_eq_true hn
        have hn3 : decide (4294967295 < next) = true := decide_eq_true (by omega)
        clear hc hn
        obtain ⟨d0, d1, d2⟩ := HRg.out.cells
        go_wp2
        go_ret2
        exact ⟨by unfold addN; rw [HA.out]; rfl, by unfold AddPost; rw [if_neg (by rw [HA.out]; decide)]; exact HB.out⟩
      · have HA := Lib.hid (show addC next ps t = 0 by unfold addC; rw [HRi.out, if_pos rfl, if_pos hc, if_neg hn])
        have hn2 : decide (4294967295 < (next : Int)) = false := decide_eq_false hn
        have hn3 : decide (4294967295 < next) = false := decide_eq_false (by omega)
        have HNx := Lib.hid (show next ≤ 4294967295 by omega)
        have HTu := Lib.hid hc
        clear hc hn
        obtain ⟨d0, d1, d2⟩ := HRg.out.cells
        obtain ⟨c0, c1, c2, c3, c4, c5, c6, c7⟩ := HX.out.cells
        go_wp2_with fail
        clear hn2 hn3 c0 c1 c2 c3 c4 c5 c6 c7 d0 d1 d2
        refine (HCc.out w3 HRs.out).mono ?_
        clear HCc
        rintro e w4 ⟨v', rfl, ho, hd⟩
        obtain ⟨a', c', rfl⟩ := ho.form
        have HLn := Lib.hid (show LinesAt w4 base (newT next t, .slice a' t.ls.length c') from ho.mono (Nat.le_trans HG.out.1 (Nat.le_trans (Nat.le_of_lt HG.out.2) HB.out.size))); clear ho
        replace HX := Lib.hid (HX.out.below hd)
        replace HRg := Lib.hid (HRg.out.below hd)
        replace HB := Lib.hid (chain2 HB.out hd); clear hd HRs
        obtain ⟨d0, d1, d2⟩ := HRg.out.cells
        obtain ⟨c0, c1, c2, c3, c4, c5, c6, c7⟩ := HX.out.cells
        obtain ⟨f0, f1, f2, f3, f4, f5, f6, f7⟩ := HX.out.free
        have hne : g ≠ bx := by have := HG.out.2; have := Hbx.out.1; omega
        have hne2 : bx ≠ g := hne.symm
        go_upto_region 11 with (fail)
        clear d0 d1 d2 c0 c1 c2 c3 c4 c5 c6 c7 f0 f1 f2 f3 f4 f5 f6 f7
        have HVn := Lib.hid (show (Value.slice ra rn rc).ownBlock ≠ some bx from fun e => by have := (HVlt.out bx e).2; have := Hbx.out.1; omega)
        have HNe := Lib.hid (And.intro hne hne2); clear hne hne2
        change Code.wp _ _ _ _ (set8W w4 bx t (.slice a' t.ls.length c'))
        have hg := set8W_grown w4 bx t (.slice a' t.ls.length c')
        have hX2 := HX.out.set8 t (.slice a' t.ls.length c')
        have hB2 : Below w.heap.size w (set8W w4 bx t (.slice a' t.ls.length c')) := below_set8 HB.out Hbx.out.1 _ _ _ _ _ _ _ _
        replace HRg := Lib.hid (HRg.out.grown hg HNe.out.1 HVn.out HX.out)
        replace HLn := Lib.hid (HLn.out.grown hg HX.out)
        replace HX := Lib.hid (show BoxT (set8W w4 bx t (.slice a' t.ls.length c')) bx t (.slice a' t.ls.length c') from hX2)
        replace HB := Lib.hid hB2
        clear hg hX2 hB2
        generalize set8W w4 bx t (.slice a' t.ls.length c') = w5 at HRg HLn HX HB ⊢
        obtain ⟨d0, d1, d2⟩ := HRg.out.cells
        obtain ⟨c0, c1, c2, c3, c4, c5, c6, c7⟩ := HX.out.cells
        obtain ⟨f0, f1, f2, f3, f4, f5, f6, f7⟩ := HX.out.free
        obtain ⟨hne, hne2⟩ := HNe.out
        go_upto_region 12 with (fail)
        clear d0 d1 d2 c0 c1 c2 c3 c4 c5 c6 c7 f0 f1 f2 f3 f4 f5 f6 f7 hne hne2
        have hg : w5.grownBy (((w5.setCell ⟨bx, 0, none⟩ (.int .i64 (next : Int))).setCell ⟨bx, 5, none⟩ (.int .i64 0)).setCell ⟨bx, 6, none⟩ (.bool false)) (some bx) := Lib.grownBy_setB (Lib.grownBy_setB (Lib.grownBy_setCell w5 bx 0 _) 5 _) 6 _
        have hX2 := ((HX.out.setNum (next : Int)).setLeft 0).setVoid false
        have hB2 := below_set _ (below_set _ (below_set _ HB.out Hbx.out.1 (i := 0) (v := .int .i64 (next : Int))) Hbx.out.1 (i := 5) (v := .int .i64 0)) Hbx.out.1 (i := 6) (v := .bool false)
        replace HRg := Lib.hid (HRg.out.grown hg HNe.out.1 HVn.out HX.out)
        replace HLn := Lib.hid (HLn.out.grown hg HX.out)
        replace HX := Lib.hid hX2
        replace HB := Lib.hid hB2
        clear hg hX2 hB2
        generalize ((w5.setCell ⟨bx, 0, none⟩ (.int .i64 (next : Int))).setCell ⟨bx, 5, none⟩ (.int .i64 0)).setCell ⟨bx, 6, none⟩ (.bool false) = w6 at HRg HLn HX HB ⊢
        have hkk := (right_facts HRi.out)
        rcases (show t.kind = 1 ∨ t.kind = 2 ∨ t.kind = 3 ∨ (¬ t.kind = 1 ∧ ¬ t.kind = 2 ∧ ¬ t.kind = 3) by omega) with hk | hk | hk | hk
        case' inl =>
          have k1 : (t.kind == 1) = true := by simpa using hk
          have HNt := Lib.hid (show newT next t = ⟨(next : Int), t.kind, t.shift, t.ref, t.amount, t.amount, false, t.ls⟩ by unfold newT; rw [if_pos hk])
          have HMp := Lib.hid (show xs.map Prod.fst = hitR next ps t by unfold hitR; rw [if_neg (by rw [hk]; decide)]; exact HPs.out)
          have HLf := Lib.hid (show 0 ≤ (newT next t).left ∧ (newT next t).left ≤ 4611686018427387904 by rw [HNt.out]; have := hkk.2.2.2.2 (by omega); exact ⟨by show 0 ≤ t.amount; omega, by show t.amount ≤ _; omega⟩)
          have HLl := Lib.hid hkk.2.2.1
          clear hk hkk
          obtain ⟨c0, c1, c2, c3, c4, c5, c6, c7⟩ := HX.out.cells
          obtain ⟨f0, f1, f2, f3, f4, f5, f6, f7⟩ := HX.out.free
          go_upto_region 20 with (fail)
          clear c0 c1 c2 c3 c4 c5 c6 c7 f0 f1 f2 f3 f4 f5 f6 f7 k1
          have hg := Lib.grownBy_setCell w6 bx 5 (.int .i64 t.amount)
          have hX2 := HX.out.setLeft t.amount
          have hB2 := below_set _ HB.out Hbx.out.1 (i := 5) (v := .int .i64 t.amount)
          replace HRg := Lib.hid (HRg.out.grown hg HNe.out.1 HVn.out HX.out)
          replace HLn := Lib.hid (HLn.out.grown hg HX.out)
          replace HX := Lib.hid (show BoxT _ bx (newT next t) (.slice a' t.ls.length c') by rw [HNt.out]; exact hX2)
          have HT := Lib.hid (Touch.of (fun k => k = g ∨ (Value.slice ra rn rc).ownBlock = some k) hB2)
          clear hg hX2 hB2 HB
          generalize w6.setCell ⟨bx, 5, none⟩ (.int .i64 t.amount) = w7 at HRg HLn HX HT ⊢
          obtain ⟨xs1, hxs1⟩ : ∃ xs1, xs1 = xs := ⟨_, rfl⟩
          rw [← hxs1] at HRg HMp HRn HPs
          replace HPs := Lib.hid (show ps.length = xs1.length by rw [← HPs.out, List.length_map])
          clear hxs1
          obtain ⟨rb, hrb⟩ : ∃ rb, rb = ra := ⟨_, rfl⟩
          rw [← hrb] at HRg HT HVn
          have HRb := Lib.hid hrb; clear hrb
        case' inr.inl =>
          have k1 : (t.kind == 1) = false := by rw [hk]; decide
          have k2 : (t.kind == 2) = true := by simpa using hk
          have hbk : backK t.kind = true := by rw [hk]; decide
          obtain ⟨i, hix, hts⟩ := turn_zero HTu.out hbk
          have hpl : ps.length = xs.length := by rw [← HPs.out, List.length_map]
          rw [hpl] at hix
          obtain ⟨hi, hn⟩ := idxR_some hix
          have hsx : ps.getD i z0 = xs[i].1 := by rw [← HPs.out]; exact TP.fst_get hi
          have HNt := Lib.hid (show newT next t = ⟨(next : Int), t.kind, t.shift, t.ref, t.amount, 0, false, t.ls⟩ by unfold newT; rw [if_neg (by omega)])
          have HMp := Lib.hid (show ps.set i (hitT t xs[i].1) = hitR next ps t by unfold hitR; rw [if_pos hbk, hpl, hix, ← hsx])
          have HHt := Lib.hid (show hitT t xs[i].1 = ⟨xs[i].1.num, xs[i].1.kind, xs[i].1.shift, xs[i].1.ref, xs[i].1.amount, 0, true, xs[i].1.ls⟩ by unfold hitT; rw [if_pos hk])
          have HLf := Lib.hid (show 0 ≤ (newT next t).left ∧ (newT next t).left ≤ 4611686018427387904 by rw [HNt.out]; exact ⟨by show (0 : Int) ≤ 0; decide, by show (0 : Int) ≤ _; decide⟩)
          have HLl := Lib.hid hkk.2.2.1
          have HNn := Lib.hid hn
          clear hk hkk hbk hts hpl hix hn hsx
          obtain ⟨c0, c1, c2, c3, c4, c5, c6, c7⟩ := HX.out.cells
          go_wp2_with fail
          clear c0 c1 c2 c3 c4 c5 c6 c7 k1 k2
          refine (find_some i hi t.ref w6 HRg.out HNn.out).mono ?_
          rintro e w8 ⟨gr, off, rfl, rfl, hd⟩
          replace HX := Lib.hid (HX.out.below hd.below)
          replace HRg := Lib.hid (HRg.out.below hd.below)
          replace HLn := Lib.hid (HLn.out.below hd.below)
          have HT := Lib.hid (Touch.of (fun k => k = g ∨ (Value.slice (some ⟨gr, off, none⟩) rn rc).ownBlock = some k) (chain2 HB.out hd.below))
          clear hd HB
          have q5 := HRg.out.row.at_ encT_len i 5 hi (by decide) _ rfl
          have q6 := HRg.out.row.at_ encT_len i 6 hi (by decide) _ rfl
          have f5 := HRg.out.row.frozen i 5 hi (by decide)
          have f6 := HRg.out.row.frozen i 6 hi (by decide)
          go_upto_region 20 with (fail)
          clear q5 q6 f5 f6
          have hgb : bx ≠ gr := fun e => HVn.out (by rw [e]; rfl)
          have hR1 := HRg.out.hit i 6 hi (by decide) (.bool true) ⟨xs[i].1.num, xs[i].1.kind, xs[i].1.shift, xs[i].1.ref, xs[i].1.amount, xs[i].1.left, true, xs[i].1.ls⟩ (fun l => rfl) (HRg.out.lf _ (List.getElem_mem hi)) rfl
          have hi2 : i < (xs.set i (⟨xs[i].1.num, xs[i].1.kind, xs[i].1.shift, xs[i].1.ref, xs[i].1.amount, xs[i].1.left, true, xs[i].1.ls⟩, xs[i].2)).length := by rw [List.length_set]; exact hi
          have hR2 := hR1.hit i 5 hi2 (by decide) (.int .i64 0) ⟨xs[i].1.num, xs[i].1.kind, xs[i].1.shift, xs[i].1.ref, xs[i].1.amount, 0, true, xs[i].1.ls⟩ (fun l => by rw [List.getElem_set_self]; rfl) (by exact ⟨by show (0 : Int) ≤ 0; decide, by show (0 : Int) ≤ _; decide⟩) (by rw [List.getElem_set_self])
          rw [List.set_set, List.getElem_set_self] at hR2
          have hg1 := Lib.grownBy_setB (Lib.grownBy_setCell w8 gr (off + i * 8 + 6) (.bool true)) (off + i * 8 + 5) (.int .i64 0)
          obtain ⟨cc, hcc⟩ := RowO.typ HRg.out.row gr rfl
          replace HX := Lib.hid (show BoxT ((w8.setCell ⟨gr, off + i * 8 + 6, none⟩ (.bool true)).setCell ⟨gr, off + i * 8 + 5, none⟩ (.int .i64 0)) bx (newT next t) (.slice a' t.ls.length c') by rw [HNt.out]; exact (hg1.block bx (blk_lt HX.out) (by intro e; cases e; exact hgb rfl)).trans HX.out)
          replace HLn := Lib.hid (HLn.out.grown hg1 hcc)
          replace HT := Lib.hid ((HT.out.set (.inl (.inr rfl)) (.bool true) (i := off + i * 8 + 6)).set (.inl (.inr rfl)) (.int .i64 0) (i := off + i * 8 + 5))
          replace HRg := Lib.hid hR2
          replace HMp := Lib.hid (show (xs.set i (⟨xs[i].1.num, xs[i].1.kind, xs[i].1.shift, xs[i].1.ref, xs[i].1.amount, 0, true, xs[i].1.ls⟩, xs[i].2)).map Prod.fst = hitR next ps t by rw [← HMp.out, HHt.out, List.map_set, HPs.out])
          replace HPs := Lib.hid (show ps.length = (xs.set i (⟨xs[i].1.num, xs[i].1.kind, xs[i].1.shift, xs[i].1.ref, xs[i].1.amount, 0, true, xs[i].1.ls⟩, xs[i].2)).length by rw [← HPs.out, List.length_map, List.length_set])
          clear hR1 hR2 hg1 hcc hgb HHt
          generalize (w8.setCell ⟨gr, off + i * 8 + 6, none⟩ (.bool true)).setCell ⟨gr, off + i * 8 + 5, none⟩ (.int .i64 0) = w7 at HRg HLn HX HT ⊢
          generalize xs.set i (⟨xs[i].1.num, xs[i].1.kind, xs[i].1.shift, xs[i].1.ref, xs[i].1.amount, 0, true, xs[i].1.ls⟩, xs[i].2) = xs1 at HRg HMp HPs
          obtain ⟨rb, hrb⟩ : ∃ rb, rb = some (⟨gr, off, none⟩ : Addr) := ⟨_, rfl⟩
          rw [← hrb] at HRg HT HVn
          have HRb := Lib.hid hrb; clear hrb
        case' inr.inr.inl =>
          have k1 : (t.kind == 1) = false := by rw [hk]; decide
          have k2 : (t.kind == 2) = false := by rw [hk]; decide
          have k3 : (t.kind == 3) = true := by simpa using hk
          have hbk : backK t.kind = true := by rw [hk]; decide
          obtain ⟨i, hix, hts⟩ := turn_zero HTu.out hbk
          have hpl : ps.length = xs.length := by rw [← HPs.out, List.length_map]
          rw [hpl] at hix
          obtain ⟨hi, hn⟩ := idxR_some hix
          have hsx : ps.getD i z0 = xs[i].1 := by rw [← HPs.out]; exact TP.fst_get hi
          have HNt := Lib.hid (show newT next t = ⟨(next : Int), t.kind, t.shift, t.ref, t.amount, 0, false, t.ls⟩ by unfold newT; rw [if_neg (by omega)])
          have HMp := Lib.hid (show ps.set i (hitT t xs[i].1) = hitR next ps t by unfold hitR; rw [if_pos hbk, hpl, hix, ← hsx])
          have HHt := Lib.hid (show hitT t xs[i].1 = ⟨xs[i].1.num, xs[i].1.kind, xs[i].1.shift, xs[i].1.ref, xs[i].1.amount, xs[i].1.left - t.amount, xs[i].1.void, xs[i].1.ls⟩ by unfold hitT; rw [if_neg (by omega)])
          have HLf := Lib.hid (show 0 ≤ (newT next t).left ∧ (newT next t).left ≤ 4611686018427387904 by rw [HNt.out]; exact ⟨by show (0 : Int) ≤ 0; decide, by show (0 : Int) ≤ _; decide⟩)
          have HLl := Lib.hid hkk.2.2.1
          have HNn := Lib.hid hn
          have htz := turnS_zero hts
          rw [hsx] at htz
          have HAm := Lib.hid (show t.amount ≤ xs[i].1.left ∧ 1 ≤ t.amount from ⟨htz.2.2.2 hk, (hkk.2.2.2.2 (by omega)).1⟩)
          have HLq := Lib.hid (HRg.out.lf _ (List.getElem_mem hi))
          have e1 : wrap64 (xs[i].1.left - t.amount) = xs[i].1.left - t.amount := by have := HAm.out; have := HLq.out; unfold wrap64; omega
          have e2 : IntKind.i64.wrap (xs[i].1.left - t.amount) = xs[i].1.left - t.amount := by have := HAm.out; have := HLq.out; rw [IntKind.wrap_i64]; omega
          clear hk hkk hbk hts hpl hix hn hsx htz
          obtain ⟨c0, c1, c2, c3, c4, c5, c6, c7⟩ := HX.out.cells
          go_upto_region 19 with (fail)
          clear c0 c1 c2 c3 c4 c5 c6 c7 k1 k2 k3
          obtain ⟨gr, off, cq, hvq⟩ := HRg.out.row.form1 (by omega)
          simp only [Value.slice.injEq] at hvq
          obtain ⟨rfl, hq1, hq2⟩ := hvq
          clear hq1 hq2
          replace HX := Lib.hid (show BoxT w6.drew bx _ _ from HX.out)
          replace HRg := Lib.hid (show RegV w6.drew base g (.slice (some ⟨gr, off, none⟩) rn rc) keep next xs from HRg.out.below (below_drew1 (Below.refl _ _)))
          replace HLn := Lib.hid (show LinesAt w6.drew base _ from HLn.out.below (below_drew1 (Below.refl _ _)))
          have HT := Lib.hid (Touch.of (fun k => k = g ∨ (Value.slice (some ⟨gr, off, none⟩) rn rc).ownBlock = some k) (below_drew1 HB.out))
          clear HB
          have hS := And.intro HX.out.cells.2.2.2.1 (And.intro HX.out.cells.2.2.2.2.1 (HRg.out.row.at_ encT_len i 5 hi (by decide) (.int .i64 xs[i].1.left) rfl))
          refine start_ (n := 13) (S := fun w' => w'.cell? ⟨bx, 3, none⟩ = some (.int .i64 t.ref) ∧ w'.cell? ⟨bx, 4, none⟩ = some (.int .i64 t.amount) ∧ w'.cell? ⟨gr, off + i * 8 + 5, none⟩ = some (.int .i64 xs[i].1.left)) (ds := [12]) #[false, false, false, false, false, false, false, false, false, false, false, false, false] (by kernel_rfl) rfl rfl hS (fun hHeld => ?_)
          refine with_tabW rg10_19.tab rg10_19.bits (fun HT_ HW_ => ?_)
          generalize w6.drew = w' at HRg HX HLn HT hS hHeld ⊢
          refine pure_ (i := 0) (N := some 56) (v := ?_) (a' := ?_) #[true, false, false, false, false, false, false, false, false, false, false, false, false] rfl rfl (any_of HT_.out (by kernel_rfl)) (fun _ _ _ h => h) (Or.inl ⟨by rfl, ?_⟩) ?_ ?_
          rotate_left
          · intro w'
            go_simp
            try with_reducible rfl
          rotate_left
          · simp (maxSteps := 4000000) only [Act.put, List.setIfInBounds_toArray, List.set_cons_zero, List.set_cons_succ, i64_w, i32_w]
            try rfl
          refine pure_ (i := 1) (N := some 57) (v := ?_) (a' := ?_) #[true, true, false, false, false, false, false, false, false, false, false, false, false] rfl rfl (any_of HT_.out (by kernel_rfl)) (fun _ _ _ h => h) (Or.inl ⟨by rfl, ?_⟩) ?_ ?_
          rotate_left
          · intro w'
            go_simp
            try with_reducible rfl
          rotate_left
          · simp (maxSteps := 4000000) only [Act.put, List.setIfInBounds_toArray, List.set_cons_zero, List.set_cons_succ, i64_w, i32_w]
            try rfl
          refine pure_ (i := 7) (N := some 63) (v := ?_) (a' := ?_) #[true, true, false, false, false, false, false, true, false, false, false, false, false] rfl rfl (any_of HT_.out (by kernel_rfl)) (fun _ _ _ h => h) (Or.inl ⟨by rfl, ?_⟩) ?_ ?_
          rotate_left
          · intro w'
            go_simp
            try with_reducible rfl
          rotate_left
          · simp (maxSteps := 4000000) only [Act.put, List.setIfInBounds_toArray, List.set_cons_zero, List.set_cons_succ, i64_w, i32_w]
            try rfl
          refine take_ (i := 2) (N := some 58) (v := ?_) (a' := ?_) #[true, true, true, false, false, false, false, true, false, false, false, false, false] rfl rfl (take_ofW HT_.out HW_.out (by kernel_rfl)) (fun _ _ _ h => h) (Or.inl ⟨by rfl, ?_⟩) hHeld ?_ ?_
          rotate_left
          · intro w' hw_
            try dsimp only at hw_
            obtain ⟨x0, _⟩ := hw_
            go_simp
            try with_reducible rfl
          rotate_left
          · simp (maxSteps := 4000000) only [Act.put, List.setIfInBounds_toArray, List.set_cons_zero, List.set_cons_succ, i64_w, i32_w]
            try rfl
          refine take_ (i := 8) (N := some 64) (v := ?_) (a' := ?_) #[true, true, true, false, false, false, false, true, true, false, false, false, false] rfl rfl (take_ofW HT_.out HW_.out (by kernel_rfl)) (fun _ _ _ h => h) (Or.inl ⟨by rfl, ?_⟩) hHeld ?_ ?_
          rotate_left
          · intro w' hw_
            try dsimp only at hw_
            obtain ⟨_, x0, _⟩ := hw_
            go_simp
            try with_reducible rfl
          rotate_left
          · simp (maxSteps := 4000000) only [Act.put, List.setIfInBounds_toArray, List.set_cons_zero, List.set_cons_succ, i64_w, i32_w]
            try rfl
          refine one_ (i := 3) (N := some 59) #[true, true, true, true, false, false, false, true, true, false, false, false, false] rfl rfl (one_of HT_.out (by kernel_rfl)) (by decide) (fun K hK => ?_)
          refine goes_ Try.func31 (by kernel_rfl) rfl #[.pointer (some ⟨g, 0, none⟩), .int .i64 t.ref] (by rfl) rfl rfl (by (try simp only [List.map_toArray, List.map_cons, List.map_nil]); first | done | rfl) ?_
          refine (find_some i hi t.ref w' HRg.out HNn.out).mono ?_
          rintro e w' ⟨gr', off', hra, rfl, hd⟩
          refine ⟨_, rfl, ?_⟩
          simp only [Option.some.injEq, Addr.mk.injEq, and_true] at hra
          obtain ⟨rfl, rfl⟩ := hra
          replace HX := Lib.hid (HX.out.below hd.below)
          replace HRg := Lib.hid (HRg.out.below hd.below)
          replace HLn := Lib.hid (HLn.out.below hd.below)
          replace HT := Lib.hid (HT.out.then_ hd.below)
          clear hd
          refine hK.out _ _ ((And.intro HX.out.cells.2.2.2.1 (And.intro HX.out.cells.2.2.2.2.1 (HRg.out.row.at_ encT_len i 5 hi (by decide) (.int .i64 xs[i].1.left) rfl)))) (fun hHeld => ?_)
          clear hK K
          refine norm_ (a' := ?_) ?_ ?_
          rotate_left
          · show Act.put _ (some 59) _ = _
            simp (maxSteps := 4000000) only [Act.put, List.setIfInBounds_toArray, List.set_cons_zero, List.set_cons_succ, i64_w, i32_w]
            try rfl
          refine pure_ (i := 4) (N := some 60) (v := ?_) (a' := ?_) #[true, true, true, true, true, false, false, true, true, false, false, false, false] rfl rfl (any_of HT_.out (by kernel_rfl)) (fun _ _ _ h => h) (Or.inl ⟨by rfl, ?_⟩) ?_ ?_
          rotate_left
          · intro w'
            go_simp
            try with_reducible rfl
          rotate_left
          · simp (maxSteps := 4000000) only [Act.put, List.setIfInBounds_toArray, List.set_cons_zero, List.set_cons_succ, i64_w, i32_w]
            try rfl
          refine pure_ (i := 5) (N := some 61) (v := ?_) (a' := ?_) #[true, true, true, true, true, true, false, true, true, false, false, false, false] rfl rfl (any_of HT_.out (by kernel_rfl)) (fun _ _ _ h => h) (Or.inl ⟨by rfl, ?_⟩) ?_ ?_
          rotate_left
          · intro w'
            go_simp
            try with_reducible rfl
          rotate_left
          · simp (maxSteps := 4000000) only [Act.put, List.setIfInBounds_toArray, List.set_cons_zero, List.set_cons_succ, i64_w, i32_w]
            try rfl
          refine take_ (i := 6) (N := some 62) (v := ?_) (a' := ?_) #[true, true, true, true, true, true, true, true, true, false, false, false, false] rfl rfl (take_ofW HT_.out HW_.out (by kernel_rfl)) (fun _ _ _ h => h) (Or.inl ⟨by rfl, ?_⟩) hHeld ?_ ?_
          rotate_left
          · intro w' hw_
            try dsimp only at hw_
            obtain ⟨_, _, x0⟩ := hw_
            go_simp
            try with_reducible rfl
          rotate_left
          · simp (maxSteps := 4000000) only [Act.put, List.setIfInBounds_toArray, List.set_cons_zero, List.set_cons_succ, i64_w, i32_w]
            try rfl
          refine pure_ (i := 9) (N := some 65) (v := ?_) (a' := ?_) #[true, true, true, true, true, true, true, true, true, true, false, false, false] rfl rfl (any_of HT_.out (by kernel_rfl)) (fun _ _ _ h => h) (Or.inl ⟨by rfl, ?_⟩) ?_ ?_
          rotate_left
          · intro w'
            go_simp
            try with_reducible rfl
          rotate_left
          · simp (maxSteps := 4000000) only [Act.put, List.setIfInBounds_toArray, List.set_cons_zero, List.set_cons_succ, i64_w, i32_w]
            try rfl
          refine pure_ (i := 10) (N := some 66) (v := ?_) (a' := ?_) #[true, true, true, true, true, true, true, true, true, true, true, false, false] rfl rfl (any_of HT_.out (by kernel_rfl)) (fun _ _ _ h => h) (Or.inl ⟨by rfl, ?_⟩) ?_ ?_
          rotate_left
          · intro w'
            go_simp
            try with_reducible rfl
          rotate_left
          · simp (maxSteps := 4000000) only [Act.put, List.setIfInBounds_toArray, List.set_cons_zero, List.set_cons_succ, i64_w, i32_w]
            try rfl
          refine pure_ (i := 11) (N := some 67) (v := ?_) (a' := ?_) #[true, true, true, true, true, true, true, true, true, true, true, true, false] rfl rfl (any_of HT_.out (by kernel_rfl)) (fun _ _ _ h => h) (Or.inl ⟨by rfl, ?_⟩) ?_ ?_
          rotate_left
          · intro w'
            go_simp
            try with_reducible rfl
          rotate_left
          · simp (maxSteps := 4000000) only [Act.put, List.setIfInBounds_toArray, List.set_cons_zero, List.set_cons_succ, i64_w, i32_w]
            try rfl
          refine last_ (i := 12) (N := none) #[true, true, true, true, true, true, true, true, true, true, true, true, true] rfl rfl (one_of HT_.out (by kernel_rfl)) (by decide) (fun K hK => ?_)
          refine skip_ (w1 := w'.setCell ⟨gr, off + i * 8 + 5, none⟩ (.int .i64 (xs[i].1.left - t.amount))) (by rfl) rfl ?_ ?_
          · (have q5 := HRg.out.row.at_ encT_len i 5 hi (by decide) _ rfl; have f5 := HRg.out.row.frozen i 5 hi (by decide); go_simp)
          refine hK.out _ _ ?_
          clear hK K
          refine done_ (done_of HT_.out (by kernel_rfl)) ?_
          clear e1 e2
          go_upto_region 20 with (fail)
          have hgb : bx ≠ gr := fun e => HVn.out (by rw [e]; rfl)
          have hR2 := HRg.out.hit i 5 hi (by decide) (.int .i64 (xs[i].1.left - t.amount)) ⟨xs[i].1.num, xs[i].1.kind, xs[i].1.shift, xs[i].1.ref, xs[i].1.amount, xs[i].1.left - t.amount, xs[i].1.void, xs[i].1.ls⟩ (fun l => rfl) (by have := HAm.out; have := HLq.out; exact ⟨by show 0 ≤ xs[i].1.left - t.amount; omega, by show xs[i].1.left - t.amount ≤ _; omega⟩) rfl
          have hg1 := Lib.grownBy_setCell w' gr (off + i * 8 + 5) (.int .i64 (xs[i].1.left - t.amount))
          obtain ⟨cc, hcc⟩ := RowO.typ HRg.out.row gr rfl
          replace HX := Lib.hid (show BoxT (w'.setCell ⟨gr, off + i * 8 + 5, none⟩ (.int .i64 (xs[i].1.left - t.amount))) bx (newT next t) (.slice a' t.ls.length c') by rw [HNt.out]; exact (hg1.block bx (blk_lt HX.out) (by intro e; cases e; exact hgb rfl)).trans HX.out)
          replace HLn := Lib.hid (HLn.out.grown hg1 hcc)
          replace HT := Lib.hid (HT.out.set (.inl (.inr rfl)) (.int .i64 (xs[i].1.left - t.amount)) (i := off + i * 8 + 5))
          replace HRg := Lib.hid hR2
          replace HMp := Lib.hid (show (xs.set i (⟨xs[i].1.num, xs[i].1.kind, xs[i].1.shift, xs[i].1.ref, xs[i].1.amount, xs[i].1.left - t.amount, xs[i].1.void, xs[i].1.ls⟩, xs[i].2)).map Prod.fst = hitR next ps t by rw [← HMp.out, HHt.out, List.map_set, HPs.out])
          replace HPs := Lib.hid (show ps.length = (xs.set i (⟨xs[i].1.num, xs[i].1.kind, xs[i].1.shift, xs[i].1.ref, xs[i].1.amount, xs[i].1.left - t.amount, xs[i].1.void, xs[i].1.ls⟩, xs[i].2)).length by rw [← HPs.out, List.length_map, List.length_set])
          clear hR2 hg1 hcc hgb HHt
          generalize w'.setCell ⟨gr, off + i * 8 + 5, none⟩ (.int .i64 (xs[i].1.left - t.amount)) = w7 at HRg HLn HX HT ⊢
          generalize xs.set i (⟨xs[i].1.num, xs[i].1.kind, xs[i].1.shift, xs[i].1.ref, xs[i].1.amount, xs[i].1.left - t.amount, xs[i].1.void, xs[i].1.ls⟩, xs[i].2) = xs1 at HRg HMp HPs
          obtain ⟨rb, hrb⟩ : ∃ rb, rb = some (⟨gr, off, none⟩ : Addr) := ⟨_, rfl⟩
          rw [← hrb] at HRg HT HVn
          have HRb := Lib.hid hrb; clear hrb
        case' inr.inr.inr =>
          have k1 : (t.kind == 1) = false := by simpa using hk.1
          have k2 : (t.kind == 2) = false := by simpa using hk.2.1
          have k3 : (t.kind == 3) = false := by simpa using hk.2.2
          have HNt := Lib.hid (show newT next t = ⟨(next : Int), t.kind, t.shift, t.ref, t.amount, 0, false, t.ls⟩ by unfold newT; rw [if_neg hk.1])
          have HMp := Lib.hid (show xs.map Prod.fst = hitR next ps t by unfold hitR; rw [if_neg (by rw [backK_eq]; omega)]; exact HPs.out)
          have HLf := Lib.hid (show 0 ≤ (newT next t).left ∧ (newT next t).left ≤ 4611686018427387904 by rw [HNt.out]; exact ⟨by show (0 : Int) ≤ 0; decide, by show (0 : Int) ≤ _; decide⟩)
          have HLl := Lib.hid hkk.2.2.1
          clear hk hkk
          obtain ⟨c0, c1, c2, c3, c4, c5, c6, c7⟩ := HX.out.cells
          go_upto_region 20 with (fail)
          clear c0 c1 c2 c3 c4 c5 c6 c7 k1 k2 k3
          replace HX := Lib.hid (show BoxT _ bx (newT next t) (.slice a' t.ls.length c') by rw [HNt.out]; exact HX.out)
          have HT := Lib.hid (Touch.of (fun k => k = g ∨ (Value.slice ra rn rc).ownBlock = some k) HB.out)
          clear HB
          obtain ⟨w7, hw7⟩ : ∃ w7, w7 = w6 := ⟨_, rfl⟩
          rw [← hw7] at HRg HLn HX HT ⊢
          clear hw7
          obtain ⟨xs1, hxs1⟩ : ∃ xs1, xs1 = xs := ⟨_, rfl⟩
          rw [← hxs1] at HRg HMp HRn HPs
          replace HPs := Lib.hid (show ps.length = xs1.length by rw [← HPs.out, List.length_map])
          clear hxs1
          obtain ⟨rb, hrb⟩ : ∃ rb, rb = ra := ⟨_, rfl⟩
          rw [← hrb] at HRg HT HVn
          have HRb := Lib.hid hrb; clear hrb
        all_goals
          replace HRg := Lib.hid (show RegV w7.drew base g (.slice rb rn rc) keep next xs1 from HRg.out.below (below_drew1 (Below.refl _ _)))
          replace HX := Lib.hid (show BoxT w7.drew bx (newT next t) (.slice a' t.ls.length c') from HX.out)
          replace HLn := Lib.hid (show LinesAt w7.drew base (newT next t, .slice a' t.ls.length c') from HLn.out.below (below_drew1 (Below.refl _ _)))
          replace HT := Lib.hid (Touch.drew HT.out)
          have hlen1 := HRg.out.len
          have HNl := Lib.hid (show xs1.length + 1 ≤ 513 by have := HRg.out.k2; omega); clear hlen1
          have hS := And.intro HRg.out.cells.1 (And.intro HRg.out.cells.2.2 HX.out.cells)
          refine start_ (n := 16) (S := fun w' => w'.cell? ⟨g, 0, none⟩ = some (.int .i64 (keep : Int)) ∧ w'.cell? ⟨g, 2, none⟩ = some (.slice rb rn rc) ∧ w'.cell? ⟨bx, 0, none⟩ = some (.int .i64 (newT next t).num) ∧ w'.cell? ⟨bx, 1, none⟩ = some (.int .u8 (newT next t).kind) ∧ w'.cell? ⟨bx, 2, none⟩ = some (.int .i64 (newT next t).shift) ∧ w'.cell? ⟨bx, 3, none⟩ = some (.int .i64 (newT next t).ref) ∧ w'.cell? ⟨bx, 4, none⟩ = some (.int .i64 (newT next t).amount) ∧ w'.cell? ⟨bx, 5, none⟩ = some (.int .i64 (newT next t).left) ∧ w'.cell? ⟨bx, 6, none⟩ = some (.bool (newT next t).void) ∧ w'.cell? ⟨bx, 7, none⟩ = some (.slice a' t.ls.length c')) (ds := [15]) #[false, false, false, false, false, false, false, false, false, false, false, false, false, false, false, false] (by kernel_rfl) rfl rfl hS (fun hHeld => ?_)
          refine with_tabW rg10_20.tab rg10_20.bits (fun HT_ HW_ => ?_)
          generalize w7.drew = w' at HRg HX HLn HT hS hHeld ⊢
          generalize hnt : newT next t = nt at HRg HX HLn HT hS hHeld HLf ⊢
          have HNt := Lib.hid hnt
          clear hnt
          refine pure_ (i := 0) (N := some 68) (v := ?_) (a' := ?_) #[true, false, false, false, false, false, false, false, false, false, false, false, false, false, false, false] rfl rfl (any_of HT_.out (by kernel_rfl)) (fun _ _ _ h => h) (Or.inl ⟨by rfl, ?_⟩) ?_ ?_
          rotate_left
          · intro w'
            go_simp
            try with_reducible rfl
          rotate_left
          · simp (maxSteps := 4000000) only [Act.put, List.setIfInBounds_toArray, List.set_cons_zero, List.set_cons_succ, i64_w, i32_w]
            try rfl
          refine pure_ (i := 1) (N := some 69) (v := ?_) (a' := ?_) #[true, true, false, false, false, false, false, false, false, false, false, false, false, false, false, false] rfl rfl (any_of HT_.out (by kernel_rfl)) (fun _ _ _ h => h) (Or.inl ⟨by rfl, ?_⟩) ?_ ?_
          rotate_left
          · intro w'
            go_simp
            try with_reducible rfl
          rotate_left
          · simp (maxSteps := 4000000) only [Act.put, List.setIfInBounds_toArray, List.set_cons_zero, List.set_cons_succ, i64_w, i32_w]
            try rfl
          refine pure_ (i := 2) (N := some 70) (v := ?_) (a' := ?_) #[true, true, true, false, false, false, false, false, false, false, false, false, false, false, false, false] rfl rfl (any_of HT_.out (by kernel_rfl)) (fun _ _ _ h => h) (Or.inl ⟨by rfl, ?_⟩) ?_ ?_
          rotate_left
          · intro w'
            go_simp
            try with_reducible rfl
          rotate_left
          · simp (maxSteps := 4000000) only [Act.put, List.setIfInBounds_toArray, List.set_cons_zero, List.set_cons_succ, i64_w, i32_w]
            try rfl
          refine pure_ (i := 3) (N := some 71) (v := ?_) (a' := ?_) #[true, true, true, true, false, false, false, false, false, false, false, false, false, false, false, false] rfl rfl (any_of HT_.out (by kernel_rfl)) (fun _ _ _ h => h) (Or.inl ⟨by rfl, ?_⟩) ?_ ?_
          rotate_left
          · intro w'
            go_simp
            try with_reducible rfl
          rotate_left
          · simp (maxSteps := 4000000) only [Act.put, List.setIfInBounds_toArray, List.set_cons_zero, List.set_cons_succ, i64_w, i32_w]
            try rfl
          refine pure_ (i := 8) (N := some 76) (v := ?_) (a' := ?_) #[true, true, true, true, false, false, false, false, true, false, false, false, false, false, false, false] rfl rfl (any_of HT_.out (by kernel_rfl)) (fun _ _ _ h => h) (Or.inl ⟨by rfl, ?_⟩) ?_ ?_
          rotate_left
          · intro w'
            go_simp
            try with_reducible rfl
          rotate_left
          · simp (maxSteps := 4000000) only [Act.put, List.setIfInBounds_toArray, List.set_cons_zero, List.set_cons_succ, i64_w, i32_w]
            try rfl
          refine pure_ (i := 9) (N := some 77) (v := ?_) (a' := ?_) #[true, true, true, true, false, false, false, false, true, true, false, false, false, false, false, false] rfl rfl (any_of HT_.out (by kernel_rfl)) (fun _ _ _ h => h) (Or.inl ⟨by rfl, ?_⟩) ?_ ?_
          rotate_left
          · intro w'
            go_simp
            try with_reducible rfl
          rotate_left
          · simp (maxSteps := 4000000) only [Act.put, List.setIfInBounds_toArray, List.set_cons_zero, List.set_cons_succ, i64_w, i32_w]
            try rfl
          refine pure_ (i := 10) (N := some 78) (v := ?_) (a' := ?_) #[true, true, true, true, false, false, false, false, true, true, true, false, false, false, false, false] rfl rfl (any_of HT_.out (by kernel_rfl)) (fun _ _ _ h => h) (Or.inl ⟨by rfl, ?_⟩) ?_ ?_
          rotate_left
          · intro w'
            go_simp
            try with_reducible rfl
          rotate_left
          · simp (maxSteps := 4000000) only [Act.put, List.setIfInBounds_toArray, List.set_cons_zero, List.set_cons_succ, i64_w, i32_w]
            try rfl
          refine take_ (i := 4) (N := some 72) (v := ?_) (a' := ?_) #[true, true, true, true, true, false, false, false, true, true, true, false, false, false, false, false] rfl rfl (take_ofW HT_.out HW_.out (by kernel_rfl)) (fun _ _ _ h => h) (Or.inl ⟨by rfl, ?_⟩) hHeld ?_ ?_
          rotate_left
          · intro w' hw_
            try dsimp only at hw_
            obtain ⟨_, x0, _⟩ := hw_
            go_simp
            try with_reducible rfl
          rotate_left
          · simp (maxSteps := 4000000) only [Act.put, List.setIfInBounds_toArray, List.set_cons_zero, List.set_cons_succ, i64_w, i32_w]
            try rfl
          refine take_ (i := 5) (N := some 73) (v := ?_) (a' := ?_) #[true, true, true, true, true, true, false, false, true, true, true, false, false, false, false, false] rfl rfl (take_ofW HT_.out HW_.out (by kernel_rfl)) (fun _ _ _ h => h) (Or.inl ⟨by rfl, ?_⟩) hHeld ?_ ?_
          rotate_left
          · intro w' hw_
            try dsimp only at hw_
            obtain ⟨_, _, x0, x1, x2, x3, x4, x5, x6, x7⟩ := hw_
            go_simp
            try with_reducible rfl
          rotate_left
          · simp (maxSteps := 4000000) only [Act.put, List.setIfInBounds_toArray, List.set_cons_zero, List.set_cons_succ, i64_w, i32_w]
            try rfl
          refine take_ (i := 11) (N := some 79) (v := ?_) (a' := ?_) #[true, true, true, true, true, true, false, false, true, true, true, true, false, false, false, false] rfl rfl (take_ofW HT_.out HW_.out (by kernel_rfl)) (fun _ _ _ h => h) (Or.inl ⟨by rfl, ?_⟩) hHeld ?_ ?_
          rotate_left
          · intro w' hw_
            try dsimp only at hw_
            obtain ⟨x0, _⟩ := hw_
            go_simp
            try with_reducible rfl
          rotate_left
          · simp (maxSteps := 4000000) only [Act.put, List.setIfInBounds_toArray, List.set_cons_zero, List.set_cons_succ, i64_w, i32_w]
            try rfl
          refine one_ (i := 6) (N := some 74) #[true, true, true, true, true, true, true, false, true, true, true, true, false, false, false, false] rfl rfl (one_of HT_.out (by kernel_rfl)) (by decide) (fun K hK => ?_)
          refine value_ (v := .slice (some ⟨w'.heap.size, 0, none⟩) 1 1) (w1 := w'.alloc (.cells #[.int .i64 nt.num, .int .u8 nt.kind, .int .i64 nt.shift, .int .i64 nt.ref, .int .i64 nt.amount, .int .i64 nt.left, .bool nt.void, .slice a' t.ls.length c'] 37)) (by rfl) rfl ?_ ?_
          · (go_simp)
          have hb := below_alloc (Below.refl w'.heap.size w') (.cells #[.int .i64 nt.num, .int .u8 nt.kind, .int .i64 nt.shift, .int .i64 nt.ref, .int .i64 nt.amount, .int .i64 nt.left, .bool nt.void, .slice a' t.ls.length c'] 37)
          have HBx := Lib.hid (cellsT_box (BoxT.new w' nt (.slice a' t.ls.length c')) rfl)
          replace HRg := Lib.hid (HRg.out.below hb)
          replace HX := Lib.hid (HX.out.below hb)
          replace HLn := Lib.hid (HLn.out.below hb)
          replace HT := Lib.hid (HT.out.then_ hb)
          clear hb
          generalize w'.heap.size = bN at HBx ⊢
          generalize w'.alloc (.cells #[.int .i64 nt.num, .int .u8 nt.kind, .int .i64 nt.shift, .int .i64 nt.ref, .int .i64 nt.amount, .int .i64 nt.left, .bool nt.void, .slice a' t.ls.length c'] 37) = w'' at HBx HRg HX HLn HT ⊢
          refine hK.out _ _ ((And.intro HRg.out.cells.1 (And.intro HRg.out.cells.2.2 HX.out.cells))) (fun hHeld => ?_)
          clear hK K
          refine norm_ (a' := ?_) ?_ ?_
          rotate_left
          · show Act.put _ (some 74) _ = _
            simp (maxSteps := 4000000) only [Act.put, List.setIfInBounds_toArray, List.set_cons_zero, List.set_cons_succ, i64_w, i32_w]
            try rfl
          refine one_ (i := 7) (N := some 75) #[true, true, true, true, true, true, true, true, true, true, true, true, false, false, false, false] rfl rfl (one_of HT_.out (by kernel_rfl)) (by decide) (fun K hK => ?_)
          obtain ⟨xa, xc, w2, hrun, hro, hgr, hown⟩ := RowO.append (P := Try.prog) encT_len encT_one (by decide) Try.underlying48 tx_info rfl HRg.out.row (Nat.le_trans HG.out.1 (Nat.le_of_lt HRg.out.lt)) (by have := HNl.out; unfold maxLen; omega) (by have := HNl.out; omega) ⟨bN, 0, none⟩ 1 (nt, .slice a' t.ls.length c') HBx.out (ty := 48)
          refine value_ (v := .slice xa (xs1.length + 1) xc) (w1 := w2) (by rfl) rfl (append_run rfl (by rfl) (by rfl) hrun) ?_
          clear hrun
          have hvg := HRg.out.row.ne HRg.out.box (by decide)
          have HBo := Lib.hid ((hgr.block g HRg.out.lt (fun e => hvg e.symm)).trans HRg.out.box)
          clear hvg
          have HLi := Lib.hid (show ∀ x ∈ xs1 ++ [(nt, Value.slice a' t.ls.length c')], LinesAt w2 base x from fun x hx => by rw [List.mem_append, List.mem_singleton] at hx; exact hx.elim (fun h => (HRg.out.lines x h).kept HRg.out.row hgr) (fun h => by subst h; exact HLn.out.kept HRg.out.row hgr))
          replace HX := Lib.hid (show BoxT w2 bx nt (.slice a' t.ls.length c') from (hgr.block bx (blk_lt HX.out) (fun e => HVn.out e.symm)).trans HX.out)
          have HSz := Lib.hid HT.out.size
          replace HT := Lib.hid (HT.out.grown hgr (fun k hk => .inl (.inr hk)))
          have HOw := Lib.hid hown
          have HRo := Lib.hid hro
          have HInv := Lib.hid (And.intro HRg.out.lf HRg.out.ll)
          have HKp := Lib.hid (And.intro HRg.out.k1 (And.intro HRg.out.k2 (And.intro HRg.out.n1 HRg.out.len)))
          clear hown hro hgr HRg HLn HBx
          refine hK.out _ _ ((And.intro (cell_of_row w2 g 0 _ _ (0, 0) HBo.out) (And.intro (cell_of_row w2 g 2 _ _ (0, 0) HBo.out) HX.out.cells))) (fun hHeld => ?_)
          clear hK K
          refine norm_ (a' := ?_) ?_ ?_
          rotate_left
          · show Act.put _ (some 75) _ = _
            simp (maxSteps := 4000000) only [Act.put, List.setIfInBounds_toArray, List.set_cons_zero, List.set_cons_succ, i64_w, i32_w]
            try rfl
          refine one_ (i := 12) (N := some 80) #[true, true, true, true, true, true, true, true, true, true, true, true, true, false, false, false] rfl rfl (one_of HT_.out (by kernel_rfl)) (by decide) (fun K hK => ?_)
          refine goes_ Try.func32 (by kernel_rfl) rfl #[(.slice xa (xs1.length + 1) xc), .int .i64 (keep : Int)] (by rfl) rfl rfl (by (try simp only [List.map_toArray, List.map_cons, List.map_nil]); first | done | rfl) ?_
          refine (last_ok keep w2 HRo.out (by rw [append_len]; have := HNl.out; omega) (by have := HKp.out.2.1; omega)).mono ?_
          rintro e w' ⟨v2, rfl, hr2, ho2, rfl⟩
          refine ⟨_, rfl, ?_⟩
          obtain ⟨ya, yc, hv2⟩ := hr2.form
          subst hv2
          replace HRo := Lib.hid hr2
          replace HOw := Lib.hid (fun k hk => HOw.out k (ho2 k hk))
          clear hr2 ho2
          refine hK.out _ _ ((And.intro (cell_of_row w2 g 0 _ _ (0, 0) HBo.out) (And.intro (cell_of_row w2 g 2 _ _ (0, 0) HBo.out) HX.out.cells))) (fun hHeld => ?_)
          clear hK K
          refine norm_ (a' := ?_) ?_ ?_
          rotate_left
          · show Act.put _ (some 80) _ = _
            simp (maxSteps := 4000000) only [Act.put, List.setIfInBounds_toArray, List.set_cons_zero, List.set_cons_succ, i64_w, i32_w]
            try rfl
          refine pure_ (i := 13) (N := some 81) (v := ?_) (a' := ?_) #[true, true, true, true, true, true, true, true, true, true, true, true, true, true, false, false] rfl rfl (any_of HT_.out (by kernel_rfl)) (fun _ _ _ h => h) (Or.inl ⟨by rfl, ?_⟩) ?_ ?_
          rotate_left
          · intro w'
            go_simp
            try with_reducible rfl
          rotate_left
          · simp (maxSteps := 4000000) only [Act.put, List.setIfInBounds_toArray, List.set_cons_zero, List.set_cons_succ, i64_w, i32_w]
            try rfl
          refine pure_ (i := 14) (N := some 82) (v := ?_) (a' := ?_) #[true, true, true, true, true, true, true, true, true, true, true, true, true, true, true, false] rfl rfl (any_of HT_.out (by kernel_rfl)) (fun _ _ _ h => h) (Or.inl ⟨by rfl, ?_⟩) ?_ ?_
          rotate_left
          · intro w'
            go_simp
            try with_reducible rfl
          rotate_left
          · simp (maxSteps := 4000000) only [Act.put, List.setIfInBounds_toArray, List.set_cons_zero, List.set_cons_succ, i64_w, i32_w]
            try rfl
          refine last_ (i := 15) (N := none) #[true, true, true, true, true, true, true, true, true, true, true, true, true, true, true, true] rfl rfl (one_of HT_.out (by kernel_rfl)) (by decide) (fun K hK => ?_)
          refine skip_ (w1 := w2.setCell ⟨g, 2, none⟩ (.slice ya ((xs1 ++ [(nt, Value.slice a' t.ls.length c')]).drop ((xs1 ++ [(nt, Value.slice a' t.ls.length c')]).length - keep)).length yc)) (by rfl) rfl ?_ ?_
          · (have q2 := cell_of_row w2 g 2 _ _ (0, 0) HBo.out; have f2 := (box3_free HBo.out).2.2; go_simp)
          refine hK.out _ _ ?_
          clear hK K
          refine done_ (done_of HT_.out (by kernel_rfl)) ?_
          have q1 := cell_of_row w2 g 1 _ _ (0, 0) HBo.out
          have f1 := (box3_free HBo.out).2.1
          have c0 := HX.out.cells.1
          obtain ⟨hne, hne2⟩ := HNe.out
          have e1 : wrap64 ((next : Int) + 1) = ((next + 1 : Nat) : Int) := by have := HNx.out; unfold wrap64; omega
          have HNm := Lib.hid (show nt.num = (next : Int) by rw [← HNt.out]; rfl)
          have HMz := Lib.hid (show ((xs1 ++ [(nt, Value.slice a' t.ls.length c')]).drop ((xs1 ++ [(nt, Value.slice a' t.ls.length c')]).length - keep)).map Prod.fst = addR keep next ps t by
            unfold addR
            rw [List.map_drop, List.map_append, HMp.out, HNt.out, append_len, HPs.out]
            rfl)
          have HLz := Lib.hid (show (xs1 ++ [(nt, Value.slice a' t.ls.length c')]).length - ((xs1 ++ [(nt, Value.slice a' t.ls.length c')]).length - keep) = ((xs1 ++ [(nt, Value.slice a' t.ls.length c')]).drop ((xs1 ++ [(nt, Value.slice a' t.ls.length c')]).length - keep)).length by rw [List.length_drop])
          have HSub := Lib.hid (show ∀ x ∈ (xs1 ++ [(nt, Value.slice a' t.ls.length c')]).drop ((xs1 ++ [(nt, Value.slice a' t.ls.length c')]).length - keep), (0 ≤ x.1.left ∧ x.1.left ≤ 4611686018427387904) ∧ x.1.ls.length ≤ 8 ∧ LinesAt w2 base x from fun x hx => by
            have hx2 := List.mem_of_mem_drop hx
            refine ⟨?_, ?_, HLi.out x hx2⟩
            all_goals (rw [List.mem_append, List.mem_singleton] at hx2; rcases hx2 with h | h)
            · exact HInv.out.1 x h
            · subst h; exact HLf.out
            · exact HInv.out.2 x h
            · subst h; show nt.ls.length ≤ 8; rw [← HNt.out]; exact HLl.out)
          have HLe := Lib.hid (show ((xs1 ++ [(nt, Value.slice a' t.ls.length c')]).drop ((xs1 ++ [(nt, Value.slice a' t.ls.length c')]).length - keep)).length ≤ keep ∧ ((xs1 ++ [(nt, Value.slice a' t.ls.length c')]).drop ((xs1 ++ [(nt, Value.slice a' t.ls.length c')]).length - keep)).length < next + 1 by
            rw [List.length_drop, append_len]; have := HKp.out.2.2.1; omega)
          generalize (xs1 ++ [(nt, Value.slice a' t.ls.length c')]).drop ((xs1 ++ [(nt, Value.slice a' t.ls.length c')]).length - keep) = zs at HRo HMz HLz HSub HLe HOw ⊢
          go_wp2
          go_ret2
          rw [HNm.out]
          refine ⟨by unfold addN; rw [HA.out, if_pos rfl]; rfl, ?_⟩
          unfold AddPost
          rw [if_pos HA.out, ← HRb.out]
          exact ⟨_, zs, RegV.final HG.out.1 HBo.out HRo.out HSub.out HKp.out.1 HKp.out.2.1 HLe.out (by have := HNx.out; omega), HMz.out, (HT.out.set (.inl (.inl rfl)) _).set (.inl (.inl rfl)) _, fun k hk => (HOw.out k hk).imp id (fun h => Nat.le_trans HSz.out h)⟩
    · have HA := Lib.hid (show addC next ps t = turnC next ps t by unfold addC; rw [HRi.out, if_pos rfl, if_neg hc])
      have hc2 : (turnC next ps t == 0) = false := by simpa using hc
      have HCn := Lib.hid hc
      clear hc
      go_wp2
      go_ret2
      exact ⟨by unfold addN; rw [HA.out, if_neg HCn.out]; rfl, by unfold AddPost; rw [if_neg (by rw [HA.out]; exact HCn.out)]; exact HB.out⟩
end Go.Proofs.Ytdeeakjkhcdkaaa
