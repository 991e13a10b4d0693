/- Layer 19's laws: records. No conditions beyond the form's own reach. -/
import Derived.Test.YtnojomoeaofkoaaXRecD
import Derived.Test.YtnojomoeaofkoaaXOpen
namespace Go.Proofs.Ytnojomoeaofkoaa
open Go.RowKit Go.Lib Go.Proofs.Ytnojomoeaofkoaa.P Go.Proofs.Ytnojomoeaofkoaa.BeS Go.Proofs.Ytnojomoeaofkoaa.PoS Go.Proofs.YtnojomoeaofkoaaW.PrintWords Go.Proofs.YtnojomoeaofkoaaW.PrintLast Go.Proofs.YtnojomoeaofkoaaW.PrintMore
set_option linter.unusedVariables false
set_option linter.unusedSimpArgs false
def rg8_7.T : Bool × List (List Nat × List Nat) := (true, [([], []), ([], []), ([1], [1]), ([0, 2], [0, 2]), ([], []), ([], []), ([5], [5]), ([4, 6, 3], [4, 6]), ([3, 7, 0, 1, 2, 3], [0, 3]), ([7, 8, 0, 1, 2, 3, 4, 5, 6, 7, 8], [4, 7])])
def rg8_7.B : List Nat := [0, 0, 2, 7, 0, 0, 32, 127, 255, 511]
theorem rg8_7.tab : rtab .any (opsOf Try.f8 7) = rg8_7.T := by kernel_rfl
theorem rg8_7.bits : waitsOk rg8_7.T.2 rg8_7.B = true := by kernel_rfl
def RcRow (w : World) (E B : Nat) (v : Value) (rs : List Rc) : Prop := w.ownsRow B E 2 v rs.length (rs.flatMap encR)
theorem RcRow.form {w : World} {E B : Nat} {v : Value} {rs : List Rc} (h : RcRow w E B v rs) : ∃ a c, v = .slice a rs.length c := own_slice h
theorem RcRow.below {w w' : World} {E B : Nat} {v : Value} {rs : List Rc} (h : RcRow w E B v rs) (hb : Below w.heap.size w w') : RcRow w' E B v rs := pw_own_below h hb
theorem RcRow.s {w : World} {E B : Nat} {v : Value} {rs : List Rc} (h : RcRow w E B v rs) : RowS encR w v rs := RowS.of_owns h
theorem encR_one (x : Rc) : ∀ u ∈ encR x, u.oneCell' = true := by
  intro u hu
  simp only [encR, List.mem_cons, List.not_mem_nil, or_false] at hu
  obtain rfl | rfl := hu <;> rfl
theorem rc_cells {w : World} {bN E : Nat} {x : Rc} (hN : w.heap[bN]? = some (.cells #[.int .u8 (x.1 : Int), .string x.2] E (0, 0))) : w.cell? ⟨bN, 0, none⟩ = some (.int .u8 (x.1 : Int)) ∧ w.cell? ⟨bN, 1, none⟩ = some (.string x.2) := by
  constructor <;> (unfold World.cell?; rw [hN]; rfl)
theorem rc_add {T E : Nat} (ht : Try.prog.underlying T = some (.slice E)) (hinfo : (Try.prog.info? E).map (fun i => (i.zero, i.size, i.bytes)) = some (some (.agg #[.int .u8 0, .string ByteArray.empty]), 2, 24)) (ty B : Nat) (v : Value) (rs : List Rc) (w : World) (h : RcRow w E B v rs) (hl : rs.length ≤ 100000) (x : Rc) (bN : Nat) (hN : w.heap[bN]? = some (.cells #[.int .u8 (x.1 : Int), .string x.2] E (0, 0))) (hB : B ≤ w.heap.size) :
    ∃ a c w', (Builtin.append_ #[T, T] ty #[v, .slice (some ⟨bN, 0, none⟩) 1 1]).run Try.prog w = .ok (.slice a (rs.length + 1) c) w' ∧ RcRow w' E B (.slice a (rs.length + 1) c) (rs ++ [x]) ∧ w.grownBy w' v.ownBlock := by
  obtain ⟨i0, hi, hz0, hz1, hz2⟩ := info_parts hinfo
  obtain ⟨c0, c1⟩ := rc_cells hN
  obtain ⟨v', w', hr, ho, hg, _⟩ := run_append_own w (P := Try.prog) B T ty E i0 (.agg #[.int .u8 0, .string ByteArray.empty]) 2 24 ht hi hz0 hz1 hz2 rfl (by decide) v rs.length (rs.flatMap encR) h ⟨bN, 0, none⟩ 1 1 (encR x) rfl (fun j u hu => by
    rw [Addr.add_lit, Nat.zero_add]
    match j, hu with
    | 0, hu => simp [encR] at hu; rw [← hu]; exact c0
    | 1, hu => simp [encR] at hu; rw [← hu]; exact c1
    | j + 2, hu => simp [encR] at hu) (encR_one x) (by unfold maxLen; omega) (by omega) hB
  obtain ⟨a, c, rfl⟩ := own_slice ho
  refine ⟨a, c, w', hr, ?_, hg⟩
  unfold RcRow
  rw [List.length_append, List.flatMap_append]
  simpa using ho
theorem info38 : (Try.prog.info? 38).map (fun i => (i.zero, i.size, i.bytes)) = some (some (.agg #[.int .u8 0, .string ByteArray.empty]), 2, 24) := by kernel_rfl
theorem info50 : (Try.prog.info? 50).map (fun i => (i.zero, i.size, i.bytes)) = some (some (.agg #[.int .u8 0, .string ByteArray.empty]), 2, 24) := by kernel_rfl
theorem RcRow.grown {w w' : World} {E B : Nat} {v : Value} {rs : List Rc} {o : Option Nat} (h : RcRow w E B v rs) (hg : w.grownBy w' o) (hne : v.ownBlock = none ∨ v.ownBlock ≠ o) : RcRow w' E B v rs := by
  unfold RcRow at h ⊢
  exact h.kept hg hne
theorem rc_addN {T E : Nat} (ht : Try.prog.underlying T = some (.slice E)) (hinfo : (Try.prog.info? E).map (fun i => (i.zero, i.size, i.bytes)) = some (some (.agg #[.int .u8 0, .string ByteArray.empty]), 2, 24)) (ty B : Nat) (v : Value) (rs : List Rc) (n : Nat) (hn : rs.length = n) (w : World) (h : RcRow w E B v rs) (hl : n ≤ 100000) (x : Rc) (bN : Nat) (hN : w.heap[bN]? = some (.cells #[.int .u8 (x.1 : Int), .string x.2] E (0, 0))) (hB : B ≤ w.heap.size) :
    ∃ a c w', (Builtin.append_ #[T, T] ty #[v, .slice (some ⟨bN, 0, none⟩) 1 1]).run Try.prog w = .ok (.slice a (n + 1) c) w' ∧ RcRow w' E B (.slice a (n + 1) c) (rs ++ [x]) ∧ w.grownBy w' v.ownBlock := by
  subst hn
  exact rc_add ht hinfo ty B v rs w h hl x bN hN hB
theorem RcRow.at_ {w : World} {E B g : Nat} {v : Value} {rs : List Rc} (h : RcRow w E B v rs) (hv : v.ownBlock = some g) : ∃ cs, w.heap[g]? = some (.cells cs E (0, 0)) := by
  rcases h.2 with ⟨rfl, _⟩ | ⟨g', cap, cur, rfl, _, hg, _⟩
  · cases hv
  · simp only [Value.ownBlock, Option.some.injEq] at hv
    subst hv
    exact ⟨cur, hg⟩
theorem RcRow.apart {w : World} {E E' B B' : Nat} {v v' : Value} {rs rs' : List Rc} (h : RcRow w E B v rs) (h' : RcRow w E' B' v' rs') (hne : E ≠ E') : v.ownBlock = none ∨ v.ownBlock ≠ v'.ownBlock := by
  cases hv : v.ownBlock with
  | none => exact .inl rfl
  | some g =>
    refine .inr (fun e => ?_)
    obtain ⟨c1, h1⟩ := h.at_ hv
    obtain ⟨c2, h2⟩ := h'.at_ e.symm
    rw [h1] at h2
    simp only [Option.some.injEq, Obj.cells.injEq] at h2
    exact hne h2.2.1
theorem RcRow.keeps {w w' : World} {E B b T : Nat} {v : Value} {rs : List Rc} {cs : Array Value} {fr : Nat × Nat} (h : RcRow w E B v rs) (hg : w.grownBy w' v.ownBlock) (hb : w.heap[b]? = some (.cells cs T fr)) (hne : T ≠ E) : w'.heap[b]? = some (.cells cs T fr) :=
  (hg.block b (blk_lt hb) (fun e => by
    obtain ⟨c1, h1⟩ := h.at_ e.symm
    rw [hb] at h1
    simp only [Option.some.injEq, Obj.cells.injEq] at h1
    exact hne h1.2.1)).trans hb
/-- A record that came in, cut. -/
def ofR (r : Rc) : Rc := (r.1, r.2.extract 0 (min r.2.size 2100))
theorem ofR_in {r : Rc} (h : r.1 < 256) : RcIn (ofR r) := ⟨h, by show (r.2.extract 0 (min r.2.size 2100)).size ≤ 4000; rw [ByteArray.size_extract]; omega⟩
def RsAt (w : World) (a : Option Addr) (rs : List Rc) : Prop := ∀ i, ∀ h : i < rs.length, rs[i].1 < 256 ∧ rs[i].2.size ≤ maxLen ∧ ∃ g off, a = some ⟨g, off, none⟩ ∧ w.cell? ⟨g, off + i * 2, none⟩ = some (.int .u8 (rs[i].1 : Int)) ∧ w.cell? ⟨g, off + i * 2 + 1, none⟩ = some (.string rs[i].2)
theorem rs_of {w : World} {a : Option Addr} {len : Nat} (h : RowIn w [.int .u8, .str] a len) : ∃ rs : List Rc, rs.length = len ∧ RsAt w a rs := by
  obtain ⟨rs, h1, h2⟩ := list_of (fun i (r : Rc) => r.1 < 256 ∧ r.2.size ≤ maxLen ∧ ∃ g off, a = some ⟨g, off, none⟩ ∧ w.cell? ⟨g, off + i * 2, none⟩ = some (.int .u8 (r.1 : Int)) ∧ w.cell? ⟨g, off + i * 2 + 1, none⟩ = some (.string r.2)) len (fun i hi => by
    obtain ⟨g, off, vs, ha, ho, hc⟩ := h i hi
    obtain ⟨v0, vs1, rfl, ⟨k, rfl, hk⟩, ho1⟩ := Kd.oks_cons ho
    obtain ⟨v1, vs2, rfl, ⟨b, rfl, hb⟩, ho2⟩ := Kd.oks_cons ho1
    obtain rfl := Kd.oks_nil ho2
    obtain ⟨m, rfl, hm⟩ := wf_u8 hk
    exact ⟨(m, b), hm, hb, g, off, ha, hc 0 _ rfl, hc 1 _ rfl⟩)
  exact ⟨rs, h1, h2⟩
theorem RsAt.below {w w' : World} {a : Option Addr} {rs : List Rc} (h : RsAt w a rs) (hb : Below w.heap.size w w') : RsAt w' a rs := fun i hi => by
  obtain ⟨h1, h2, g, off, ha, h3, h4⟩ := h i hi
  exact ⟨h1, h2, g, off, ha, pw_cell_below hb h3, pw_cell_below hb h4⟩
/-- What 'records' gives. -/
def recsR (rs : List Rc) : List Rc := (rs.take 6).map ofR
theorem map_take_snoc (rs : List Rc) (j : Nat) (h : j < rs.length) : (rs.take (j + 1)).map ofR = (rs.take j).map ofR ++ [ofR rs[j]] := by
  rw [List.take_succ_eq_append_getElem h, List.map_append]; rfl

set_option maxHeartbeats 16000000 in
set_option maxRecDepth 100000 in
theorem records_ok (a : Option Addr) (rs : List Rc) (cap : Nat) (hcap : rs.length ≤ cap ∧ cap ≤ maxLen) (w : World) (h : RsAt w a rs) :
    Calls Try.prog 8 #[.slice a rs.length cap] w fun e w' => ∃ va vb, e = .returned (.tuple #[va, vb]) ∧ RcRow w' 38 w.heap.size va (recsR rs) ∧ RcRow w' 50 w.heap.size vb (recsR rs) ∧ Below w.heap.size w w' := by
  have HF := Lib.hid h; clear h
  obtain ⟨N, hN, hN1, hN2, hN3, hN4⟩ : ∃ N : Nat, (if 6 < (rs.length : Int) then 6 else (rs.length : Int)) = (N : Int) ∧ N ≤ rs.length ∧ N ≤ 6 ∧ N ≤ cap ∧ min 6 rs.length = N := ⟨min 6 rs.length, by split <;> omega, by omega, by omega, by omega, rfl⟩
  have c1 : (0 ≤ (N : Int)) = True := eq_true (by omega)
  have c2 : ((N : Int) ≤ (cap : Int)) = True := eq_true (by omega)
  have c3 : (N ≤ cap) = True := eq_true hN3
  have c4 : decide (N ≤ cap) = true := decide_eq_true hN3
  have hNm : min (rs.length : Int) 6 = (N : Int) := by rw [← hN]; split <;> omega
  have HC := Lib.hid hcap; clear hcap
  have HRs := Lib.hid (show recsR rs = (rs.take N).map ofR by unfold recsR; rw [← hN4, List.take_eq_take_min])
  have HN := Lib.hid (And.intro hN1 hN2); clear hN1 hN2 hN3 hN4
  go_enter Try.func8, Try.ntmps8
  go_wp2_with fail
  clear hN hNm c1 c2 c3 c4
  go_loopw [4, 5, 14] (fun va vb i wr => ∃ j : Nat, j ≤ N ∧ i = .int .i64 (j : Int) ∧ RcRow wr 38 w.heap.size va ((rs.take j).map ofR) ∧ RcRow wr 50 w.heap.size vb ((rs.take j).map ofR) ∧ Below w.heap.size w wr) (fun _ _ i _ => N - (RowKit.intOf i).toNat)
  case atStart => exact ⟨0, Nat.zero_le _, rfl, World.ownsRow_nil _ _ _ _, World.ownsRow_nil _ _ _ _, Below.refl _ _⟩
  case round =>
    obtain ⟨j, hj, rfl, h1, h2, h3⟩ := hrel
    have HA := Lib.hid h1; clear h1
    have HD := Lib.hid h2; clear h2
    have HB := Lib.hid h3; clear h3
    have hml : ((rs.take j).map ofR).length = j := by rw [List.length_map, List.length_take]; exact Nat.min_eq_left (Nat.le_trans hj HN.out.1)
    have HMl := Lib.hid hml; clear hml
    obtain ⟨aa, ca, rfl⟩ := HA.out.form
    obtain ⟨ab, cb, rfl⟩ := HD.out.form
    rw [HMl.out] at HA HD ⊢
    by_cases hlt : j < N
    · have hjf : j < rs.length := Nat.lt_of_lt_of_le hlt HN.out.1
      obtain ⟨hk, hsz, ga, off, rfl, k0, k1⟩ := HF.out.below HB.out j hjf
      have HMap := Lib.hid (map_take_snoc rs j hjf)
      generalize rs[j] = r at k0 k1 HMap hk hsz
      obtain ⟨k, b⟩ := r
      simp only at k0 k1 hk hsz
      have e3 : wrap64 ((j : Int) + 1) = ((j + 1 : Nat) : Int) := wrap_succR j (Nat.lt_of_lt_of_le hlt (Nat.le_trans HN.out.2 (by decide)))
      obtain ⟨q, hq, hq1, hq3⟩ : ∃ q : Nat, (if 2100 < (b.size : Int) then 2100 else (b.size : Int)) = (q : Int) ∧ q ≤ b.size ∧ min b.size 2100 = q := ⟨min b.size 2100, by split <;> omega, by omega, rfl⟩
      have c1 : (0 ≤ (q : Int)) = True := eq_true (by omega)
      have c2 : ((q : Int) ≤ (b.size : Int)) = True := eq_true (by omega)
      have c3 : (q ≤ b.size) = True := eq_true hq1
      have c4 : decide (q ≤ b.size) = true := decide_eq_true hq1
      have hqm : min (b.size : Int) 2100 = (q : Int) := by rw [← hq]; split <;> omega
      have HOf := Lib.hid (show ofR (k, b) = (k, b.extract 0 q) by unfold ofR; rw [← hq3])
      clear hq3 hq1 hk hsz
      have HX := Lib.hid (heap_alloc_new wr (.cells #[.int .u8 (k : Int), .string (b.extract 0 q)] 53))
      have ha2 := below_alloc (Below.refl wr.heap.size wr) (.cells #[.int .u8 (k : Int), .string (b.extract 0 q)] 53)
      replace HA := Lib.hid (HA.out.below ha2)
      replace HD := Lib.hid (HD.out.below ha2)
      replace HB := Lib.hid (chain2 HB.out ha2); clear ha2
      go_wp2_with fail
      generalize (wr.alloc (.cells #[.int .u8 (k : Int), .string (b.extract 0 q)] 53)) = w2 at HX HA HD HB ⊢
      generalize wr.heap.size = bx at HX ⊢
      generalize b.extract 0 q = b2 at HX HOf ⊢
      clear k0 k1 hq hqm c1 c2 c3 c4
      have hS := HX.out
      replace HA := Lib.hid (show RcRow w2.drew 38 w.heap.size (.slice aa j ca) ((rs.take j).map ofR) from HA.out)
      replace HD := Lib.hid (show RcRow w2.drew 50 w.heap.size (.slice ab j cb) ((rs.take j).map ofR) from HD.out)
      replace HB := Lib.hid (show Below w.heap.size w w2.drew from below_drew1 HB.out)
      refine start_ (n := 10) (S := fun w' => w'.heap[bx]? = some (.cells #[.int .u8 (k : Int), .string b2] 53 (0, 0))) (ds := []) #[false, false, false, false, false, false, false, false, false, false] (by kernel_rfl) rfl rfl hS (fun hHeld => ?_)
      refine with_tabW rg8_7.tab rg8_7.bits (fun HT_ HW_ => ?_)
      generalize w2.drew = w' at HA HD HB hHeld ⊢
      refine pure_ (i := 0) (N := some 26) (v := ?_) (a' := ?_) #[true, false, false, false, false, false, false, false, false, false] rfl rfl (any_of HT_.out (by kernel_rfl)) (fun _ _ _ h => h) (Or.inl ⟨by rfl, ?_⟩) ?_ ?_
      rotate_left
      · intro w'
        go_simp
        try with_reducible rfl
      rotate_left
      · simp (maxSteps := 4000000) only [Act.put, List.setIfInBounds_toArray, List.set_cons_zero, List.set_cons_succ, i64_w, i32_w]
        try rfl
      refine pure_ (i := 4) (N := some 30) (v := ?_) (a' := ?_) #[true, false, false, false, true, false, false, false, false, false] rfl rfl (any_of HT_.out (by kernel_rfl)) (fun _ _ _ h => h) (Or.inl ⟨by rfl, ?_⟩) ?_ ?_
      rotate_left
      · intro w'
        go_simp
        try with_reducible rfl
      rotate_left
      · simp (maxSteps := 4000000) only [Act.put, List.setIfInBounds_toArray, List.set_cons_zero, List.set_cons_succ, i64_w, i32_w]
        try rfl
      refine take_ (i := 1) (N := some 27) (v := ?_) (a' := ?_) #[true, true, false, false, true, false, false, false, false, false] rfl rfl (take_ofW HT_.out HW_.out (by kernel_rfl)) (fun _ _ _ h => h) (Or.inl ⟨by rfl, ?_⟩) hHeld ?_ ?_
      rotate_left
      · intro w' hw_
        try dsimp only at hw_
        obtain ⟨g0, g1⟩ := rc_cells (x := (k, b2)) hw_; simp only at g0 g1
        go_simp
        try with_reducible rfl
      rotate_left
      · simp (maxSteps := 4000000) only [Act.put, List.setIfInBounds_toArray, List.set_cons_zero, List.set_cons_succ, i64_w, i32_w]
        try rfl
      refine take_ (i := 5) (N := some 31) (v := ?_) (a' := ?_) #[true, true, false, false, true, true, false, false, false, false] rfl rfl (take_ofW HT_.out HW_.out (by kernel_rfl)) (fun _ _ _ h => h) (Or.inl ⟨by rfl, ?_⟩) hHeld ?_ ?_
      rotate_left
      · intro w' hw_
        try dsimp only at hw_
        obtain ⟨g0, g1⟩ := rc_cells (x := (k, b2)) hw_; simp only at g0 g1
        go_simp
        try with_reducible rfl
      rotate_left
      · simp (maxSteps := 4000000) only [Act.put, List.setIfInBounds_toArray, List.set_cons_zero, List.set_cons_succ, i64_w, i32_w]
        try rfl
      refine two_ (i := 2) (j := 6) (Ni := some 28) (Nj := some 32) #[true, true, true, false, true, true, false, false, false, false] #[true, true, false, false, true, true, true, false, false, false] rfl rfl rfl rfl  (two_of HT_.out (by kernel_rfl)) (by decide) (by decide)  (fun K hK => ?_) (fun K hK => ?_) 
      · refine value_ (v := .slice (some ⟨w'.heap.size, 0, none⟩) 1 1) (w1 := w'.alloc (.cells #[.int .u8 (k : Int), .string b2] 38)) (by rfl) rfl ?_ ?_
        · (go_simp)
        have HNa := Lib.hid (heap_alloc_new w' (.cells #[.int .u8 (k : Int), .string b2] 38))
        (try replace HNb := Lib.hid (blk_alloc HNb.out (.cells #[.int .u8 (k : Int), .string b2] 38)))
        have hSS := blk_alloc hHeld (.cells #[.int .u8 (k : Int), .string b2] 38)
        have hd := below_alloc (Below.refl w'.heap.size w') (.cells #[.int .u8 (k : Int), .string b2] 38)
        replace HA := Lib.hid (HA.out.below hd)
        replace HD := Lib.hid (HD.out.below hd)
        replace HB := Lib.hid (chain2 HB.out hd)
        clear hd
        generalize w'.heap.size = bHNa at HNa ⊢
        (first | generalize w'.alloc (.cells #[.int .u8 (k : Int), .string b2] 38) = w' at HNa HNb HA HD HB hSS ⊢ | generalize w'.alloc (.cells #[.int .u8 (k : Int), .string b2] 38) = w' at HNa HA HD HB hSS ⊢)
        refine hK.out _ _ (hSS) (fun hHeld => ?_)
        clear hK K
        refine norm_ (a' := ?_) ?_ ?_
        rotate_left
        · show Act.put _ (some 28) _ = _
          simp (maxSteps := 4000000) only [Act.put, List.setIfInBounds_toArray, List.set_cons_zero, List.set_cons_succ, i64_w, i32_w]
          try rfl
        refine two_ (i := 3) (j := 6) (Ni := some 29) (Nj := some 32) #[true, true, true, true, true, true, false, false, false, false] #[true, true, true, false, true, true, true, false, false, false] rfl rfl rfl rfl  (two_of HT_.out (by kernel_rfl)) (by decide) (by decide)  (fun K hK => ?_) (fun K hK => ?_) 
        · obtain ⟨ax, cx, w', hr, ho2, hgr⟩ := rc_addN Try.underlying27 info38 _ w.heap.size _ _ j HMl.out w' HA.out (Nat.le_trans (Nat.le_of_lt hlt) (Nat.le_trans HN.out.2 (by decide))) (k, b2) bHNa HNa.out HB.out.size
          refine value_ (v := .slice ax (j + 1) cx) (w1 := w') (by rfl) rfl (append_run rfl (by rfl) (by rfl) hr) ?_
          clear hr
          have hSS := HA.out.keeps hgr hHeld (by decide)
          (try replace HNb := Lib.hid (HA.out.keeps hgr HNb.out (by decide)))
          replace HD := Lib.hid (HD.out.grown hgr (HD.out.apart HA.out (by decide)))
          replace HB := Lib.hid (pw_below_grown HB.out _ HB.out.size hgr (fun k hk => (World.ownsRow.lt HA.out k hk).1))
          replace HA := Lib.hid ho2
          clear ho2 hgr HNa
          refine hK.out _ _ (hSS) (fun hHeld => ?_)
          clear hK K
          refine norm_ (a' := ?_) ?_ ?_
          rotate_left
          · show Act.put _ (some 29) _ = _
            simp (maxSteps := 4000000) only [Act.put, List.setIfInBounds_toArray, List.set_cons_zero, List.set_cons_succ, i64_w, i32_w]
            try rfl
          refine one_ (i := 6) (N := some 32) #[true, true, true, true, true, true, true, false, false, false] rfl rfl (one_of HT_.out (by kernel_rfl)) (by decide) (fun K hK => ?_)
          refine value_ (v := .slice (some ⟨w'.heap.size, 0, none⟩) 1 1) (w1 := w'.alloc (.cells #[.int .u8 (k : Int), .string b2] 50)) (by rfl) rfl ?_ ?_
          · (go_simp)
          have HNb := Lib.hid (heap_alloc_new w' (.cells #[.int .u8 (k : Int), .string b2] 50))
          (try replace HNa := Lib.hid (blk_alloc HNa.out (.cells #[.int .u8 (k : Int), .string b2] 50)))
          have hSS := blk_alloc hHeld (.cells #[.int .u8 (k : Int), .string b2] 50)
          have hd := below_alloc (Below.refl w'.heap.size w') (.cells #[.int .u8 (k : Int), .string b2] 50)
          replace HA := Lib.hid (HA.out.below hd)
          replace HD := Lib.hid (HD.out.below hd)
          replace HB := Lib.hid (chain2 HB.out hd)
          clear hd
          generalize w'.heap.size = bHNb at HNb ⊢
          (first | generalize w'.alloc (.cells #[.int .u8 (k : Int), .string b2] 50) = w' at HNb HNa HA HD HB hSS ⊢ | generalize w'.alloc (.cells #[.int .u8 (k : Int), .string b2] 50) = w' at HNb HA HD HB hSS ⊢)
          refine hK.out _ _ (hSS) (fun hHeld => ?_)
          clear hK K
          refine norm_ (a' := ?_) ?_ ?_
          rotate_left
          · show Act.put _ (some 32) _ = _
            simp (maxSteps := 4000000) only [Act.put, List.setIfInBounds_toArray, List.set_cons_zero, List.set_cons_succ, i64_w, i32_w]
            try rfl
          refine one_ (i := 7) (N := some 33) #[true, true, true, true, true, true, true, true, false, false] rfl rfl (one_of HT_.out (by kernel_rfl)) (by decide) (fun K hK => ?_)
          obtain ⟨ay, cy, w', hr, ho2, hgr⟩ := rc_addN Try.underlying28 info50 _ w.heap.size _ _ j HMl.out w' HD.out (Nat.le_trans (Nat.le_of_lt hlt) (Nat.le_trans HN.out.2 (by decide))) (k, b2) bHNb HNb.out HB.out.size
          refine value_ (v := .slice ay (j + 1) cy) (w1 := w') (by rfl) rfl (append_run rfl (by rfl) (by rfl) hr) ?_
          clear hr
          have hSS := HD.out.keeps hgr hHeld (by decide)
          (try replace HNa := Lib.hid (HD.out.keeps hgr HNa.out (by decide)))
          replace HA := Lib.hid (HA.out.grown hgr (HA.out.apart HD.out (by decide)))
          replace HB := Lib.hid (pw_below_grown HB.out _ HB.out.size hgr (fun k hk => (World.ownsRow.lt HD.out k hk).1))
          replace HD := Lib.hid ho2
          clear ho2 hgr HNb
          refine hK.out _ _ (hSS) (fun hHeld => ?_)
          clear hK K
          refine norm_ (a' := ?_) ?_ ?_
          rotate_left
          · show Act.put _ (some 33) _ = _
            simp (maxSteps := 4000000) only [Act.put, List.setIfInBounds_toArray, List.set_cons_zero, List.set_cons_succ, i64_w, i32_w]
            try rfl
          refine pure_ (i := 8) (N := some 4) (v := ?_) (a' := ?_) #[true, true, true, true, true, true, true, true, true, false] rfl rfl (any_of HT_.out (by kernel_rfl)) (fun _ _ _ h => h) (Or.inl ⟨by rfl, ?_⟩) ?_ ?_
          rotate_left
          · intro w'
            go_simp
            try with_reducible rfl
          rotate_left
          · simp (maxSteps := 4000000) only [Act.put, List.setIfInBounds_toArray, List.set_cons_zero, List.set_cons_succ, i64_w, i32_w]
            try rfl
          refine pure_ (i := 9) (N := some 5) (v := ?_) (a' := ?_) #[true, true, true, true, true, true, true, true, true, true] rfl rfl (any_of HT_.out (by kernel_rfl)) (fun _ _ _ h => h) (Or.inl ⟨by rfl, ?_⟩) ?_ ?_
          rotate_left
          · intro w'
            go_simp
            try with_reducible rfl
          rotate_left
          · simp (maxSteps := 4000000) only [Act.put, List.setIfInBounds_toArray, List.set_cons_zero, List.set_cons_succ, i64_w, i32_w]
            try rfl
          refine done_ (done_of HT_.out (by kernel_rfl)) ?_
          go_wp2
          go_roundw
          case rel => exact ⟨j + 1, hlt, by rw [e3], by rw [HMap.out, HOf.out]; exact HA.out, by rw [HMap.out, HOf.out]; exact HD.out, HB.out⟩
          case measure => rw [e3]; simp only [RowKit.intOf, Int.toNat_natCast]; exact Nat.sub_lt_sub_left hlt (Nat.lt_succ_self j)
        · refine value_ (v := .slice (some ⟨w'.heap.size, 0, none⟩) 1 1) (w1 := w'.alloc (.cells #[.int .u8 (k : Int), .string b2] 50)) (by rfl) rfl ?_ ?_
          · (go_simp)
          have HNb := Lib.hid (heap_alloc_new w' (.cells #[.int .u8 (k : Int), .string b2] 50))
          (try replace HNa := Lib.hid (blk_alloc HNa.out (.cells #[.int .u8 (k : Int), .string b2] 50)))
          have hSS := blk_alloc hHeld (.cells #[.int .u8 (k : Int), .string b2] 50)
          have hd := below_alloc (Below.refl w'.heap.size w') (.cells #[.int .u8 (k : Int), .string b2] 50)
          replace HA := Lib.hid (HA.out.below hd)
          replace HD := Lib.hid (HD.out.below hd)
          replace HB := Lib.hid (chain2 HB.out hd)
          clear hd
          generalize w'.heap.size = bHNb at HNb ⊢
          (first | generalize w'.alloc (.cells #[.int .u8 (k : Int), .string b2] 50) = w' at HNb HNa HA HD HB hSS ⊢ | generalize w'.alloc (.cells #[.int .u8 (k : Int), .string b2] 50) = w' at HNb HA HD HB hSS ⊢)
          refine hK.out _ _ (hSS) (fun hHeld => ?_)
          clear hK K
          refine norm_ (a' := ?_) ?_ ?_
          rotate_left
          · show Act.put _ (some 32) _ = _
            simp (maxSteps := 4000000) only [Act.put, List.setIfInBounds_toArray, List.set_cons_zero, List.set_cons_succ, i64_w, i32_w]
            try rfl
          refine one_ (i := 3) (N := some 29) #[true, true, true, true, true, true, true, false, false, false] rfl rfl (one_of HT_.out (by kernel_rfl)) (by decide) (fun K hK => ?_)
          obtain ⟨ax, cx, w', hr, ho2, hgr⟩ := rc_addN Try.underlying27 info38 _ w.heap.size _ _ j HMl.out w' HA.out (Nat.le_trans (Nat.le_of_lt hlt) (Nat.le_trans HN.out.2 (by decide))) (k, b2) bHNa HNa.out HB.out.size
          refine value_ (v := .slice ax (j + 1) cx) (w1 := w') (by rfl) rfl (append_run rfl (by rfl) (by rfl) hr) ?_
          clear hr
          have hSS := HA.out.keeps hgr hHeld (by decide)
          (try replace HNb := Lib.hid (HA.out.keeps hgr HNb.out (by decide)))
          replace HD := Lib.hid (HD.out.grown hgr (HD.out.apart HA.out (by decide)))
          replace HB := Lib.hid (pw_below_grown HB.out _ HB.out.size hgr (fun k hk => (World.ownsRow.lt HA.out k hk).1))
          replace HA := Lib.hid ho2
          clear ho2 hgr HNa
          refine hK.out _ _ (hSS) (fun hHeld => ?_)
          clear hK K
          refine norm_ (a' := ?_) ?_ ?_
          rotate_left
          · show Act.put _ (some 29) _ = _
            simp (maxSteps := 4000000) only [Act.put, List.setIfInBounds_toArray, List.set_cons_zero, List.set_cons_succ, i64_w, i32_w]
            try rfl
          refine one_ (i := 7) (N := some 33) #[true, true, true, true, true, true, true, true, false, false] rfl rfl (one_of HT_.out (by kernel_rfl)) (by decide) (fun K hK => ?_)
          obtain ⟨ay, cy, w', hr, ho2, hgr⟩ := rc_addN Try.underlying28 info50 _ w.heap.size _ _ j HMl.out w' HD.out (Nat.le_trans (Nat.le_of_lt hlt) (Nat.le_trans HN.out.2 (by decide))) (k, b2) bHNb HNb.out HB.out.size
          refine value_ (v := .slice ay (j + 1) cy) (w1 := w') (by rfl) rfl (append_run rfl (by rfl) (by rfl) hr) ?_
          clear hr
          have hSS := HD.out.keeps hgr hHeld (by decide)
          (try replace HNa := Lib.hid (HD.out.keeps hgr HNa.out (by decide)))
          replace HA := Lib.hid (HA.out.grown hgr (HA.out.apart HD.out (by decide)))
          replace HB := Lib.hid (pw_below_grown HB.out _ HB.out.size hgr (fun k hk => (World.ownsRow.lt HD.out k hk).1))
          replace HD := Lib.hid ho2
          clear ho2 hgr HNb
          refine hK.out _ _ (hSS) (fun hHeld => ?_)
          clear hK K
          refine norm_ (a' := ?_) ?_ ?_
          rotate_left
          · show Act.put _ (some 33) _ = _
            simp (maxSteps := 4000000) only [Act.put, List.setIfInBounds_toArray, List.set_cons_zero, List.set_cons_succ, i64_w, i32_w]
            try rfl
          refine pure_ (i := 8) (N := some 4) (v := ?_) (a' := ?_) #[true, true, true, true, true, true, true, true, true, false] rfl rfl (any_of HT_.out (by kernel_rfl)) (fun _ _ _ h => h) (Or.inl ⟨by rfl, ?_⟩) ?_ ?_
          rotate_left
          · intro w'
            go_simp
            try with_reducible rfl
          rotate_left
          · simp (maxSteps := 4000000) only [Act.put, List.setIfInBounds_toArray, List.set_cons_zero, List.set_cons_succ, i64_w, i32_w]
            try rfl
          refine pure_ (i := 9) (N := some 5) (v := ?_) (a' := ?_) #[true, true, true, true, true, true, true, true, true, true] rfl rfl (any_of HT_.out (by kernel_rfl)) (fun _ _ _ h => h) (Or.inl ⟨by rfl, ?_⟩) ?_ ?_
          rotate_left
          · intro w'
            go_simp
            try with_reducible rfl
          rotate_left
          · simp (maxSteps := 4000000) only [Act.put, List.setIfInBounds_toArray, List.set_cons_zero, List.set_cons_succ, i64_w, i32_w]
            try rfl
          refine done_ (done_of HT_.out (by kernel_rfl)) ?_
          go_wp2
          go_roundw
          case rel => exact ⟨j + 1, hlt, by rw [e3], by rw [HMap.out, HOf.out]; exact HA.out, by rw [HMap.out, HOf.out]; exact HD.out, HB.out⟩
          case measure => rw [e3]; simp only [RowKit.intOf, Int.toNat_natCast]; exact Nat.sub_lt_sub_left hlt (Nat.lt_succ_self j)
      · refine value_ (v := .slice (some ⟨w'.heap.size, 0, none⟩) 1 1) (w1 := w'.alloc (.cells #[.int .u8 (k : Int), .string b2] 50)) (by rfl) rfl ?_ ?_
        · (go_simp)
        have HNb := Lib.hid (heap_alloc_new w' (.cells #[.int .u8 (k : Int), .string b2] 50))
        (try replace HNa := Lib.hid (blk_alloc HNa.out (.cells #[.int .u8 (k : Int), .string b2] 50)))
        have hSS := blk_alloc hHeld (.cells #[.int .u8 (k : Int), .string b2] 50)
        have hd := below_alloc (Below.refl w'.heap.size w') (.cells #[.int .u8 (k : Int), .string b2] 50)
        replace HA := Lib.hid (HA.out.below hd)
        replace HD := Lib.hid (HD.out.below hd)
        replace HB := Lib.hid (chain2 HB.out hd)
        clear hd
        generalize w'.heap.size = bHNb at HNb ⊢
        (first | generalize w'.alloc (.cells #[.int .u8 (k : Int), .string b2] 50) = w' at HNb HNa HA HD HB hSS ⊢ | generalize w'.alloc (.cells #[.int .u8 (k : Int), .string b2] 50) = w' at HNb HA HD HB hSS ⊢)
        refine hK.out _ _ (hSS) (fun hHeld => ?_)
        clear hK K
        refine norm_ (a' := ?_) ?_ ?_
        rotate_left
        · show Act.put _ (some 32) _ = _
          simp (maxSteps := 4000000) only [Act.put, List.setIfInBounds_toArray, List.set_cons_zero, List.set_cons_succ, i64_w, i32_w]
          try rfl
        refine one_ (i := 2) (N := some 28) #[true, true, true, false, true, true, true, false, false, false] rfl rfl (one_of HT_.out (by kernel_rfl)) (by decide) (fun K hK => ?_)
        refine value_ (v := .slice (some ⟨w'.heap.size, 0, none⟩) 1 1) (w1 := w'.alloc (.cells #[.int .u8 (k : Int), .string b2] 38)) (by rfl) rfl ?_ ?_
        · (go_simp)
        have HNa := Lib.hid (heap_alloc_new w' (.cells #[.int .u8 (k : Int), .string b2] 38))
        (try replace HNb := Lib.hid (blk_alloc HNb.out (.cells #[.int .u8 (k : Int), .string b2] 38)))
        have hSS := blk_alloc hHeld (.cells #[.int .u8 (k : Int), .string b2] 38)
        have hd := below_alloc (Below.refl w'.heap.size w') (.cells #[.int .u8 (k : Int), .string b2] 38)
        replace HA := Lib.hid (HA.out.below hd)
        replace HD := Lib.hid (HD.out.below hd)
        replace HB := Lib.hid (chain2 HB.out hd)
        clear hd
        generalize w'.heap.size = bHNa at HNa ⊢
        (first | generalize w'.alloc (.cells #[.int .u8 (k : Int), .string b2] 38) = w' at HNa HNb HA HD HB hSS ⊢ | generalize w'.alloc (.cells #[.int .u8 (k : Int), .string b2] 38) = w' at HNa HA HD HB hSS ⊢)
        refine hK.out _ _ (hSS) (fun hHeld => ?_)
        clear hK K
        refine norm_ (a' := ?_) ?_ ?_
        rotate_left
        · show Act.put _ (some 28) _ = _
          simp (maxSteps := 4000000) only [Act.put, List.setIfInBounds_toArray, List.set_cons_zero, List.set_cons_succ, i64_w, i32_w]
          try rfl
        refine one_ (i := 3) (N := some 29) #[true, true, true, true, true, true, true, false, false, false] rfl rfl (one_of HT_.out (by kernel_rfl)) (by decide) (fun K hK => ?_)
        obtain ⟨ax, cx, w', hr, ho2, hgr⟩ := rc_addN Try.underlying27 info38 _ w.heap.size _ _ j HMl.out w' HA.out (Nat.le_trans (Nat.le_of_lt hlt) (Nat.le_trans HN.out.2 (by decide))) (k, b2) bHNa HNa.out HB.out.size
        refine value_ (v := .slice ax (j + 1) cx) (w1 := w') (by rfl) rfl (append_run rfl (by rfl) (by rfl) hr) ?_
        clear hr
        have hSS := HA.out.keeps hgr hHeld (by decide)
        (try replace HNb := Lib.hid (HA.out.keeps hgr HNb.out (by decide)))
        replace HD := Lib.hid (HD.out.grown hgr (HD.out.apart HA.out (by decide)))
        replace HB := Lib.hid (pw_below_grown HB.out _ HB.out.size hgr (fun k hk => (World.ownsRow.lt HA.out k hk).1))
        replace HA := Lib.hid ho2
        clear ho2 hgr HNa
        refine hK.out _ _ (hSS) (fun hHeld => ?_)
        clear hK K
        refine norm_ (a' := ?_) ?_ ?_
        rotate_left
        · show Act.put _ (some 29) _ = _
          simp (maxSteps := 4000000) only [Act.put, List.setIfInBounds_toArray, List.set_cons_zero, List.set_cons_succ, i64_w, i32_w]
          try rfl
        refine one_ (i := 7) (N := some 33) #[true, true, true, true, true, true, true, true, false, false] rfl rfl (one_of HT_.out (by kernel_rfl)) (by decide) (fun K hK => ?_)
        obtain ⟨ay, cy, w', hr, ho2, hgr⟩ := rc_addN Try.underlying28 info50 _ w.heap.size _ _ j HMl.out w' HD.out (Nat.le_trans (Nat.le_of_lt hlt) (Nat.le_trans HN.out.2 (by decide))) (k, b2) bHNb HNb.out HB.out.size
        refine value_ (v := .slice ay (j + 1) cy) (w1 := w') (by rfl) rfl (append_run rfl (by rfl) (by rfl) hr) ?_
        clear hr
        have hSS := HD.out.keeps hgr hHeld (by decide)
        (try replace HNa := Lib.hid (HD.out.keeps hgr HNa.out (by decide)))
        replace HA := Lib.hid (HA.out.grown hgr (HA.out.apart HD.out (by decide)))
        replace HB := Lib.hid (pw_below_grown HB.out _ HB.out.size hgr (fun k hk => (World.ownsRow.lt HD.out k hk).1))
        replace HD := Lib.hid ho2
        clear ho2 hgr HNb
        refine hK.out _ _ (hSS) (fun hHeld => ?_)
        clear hK K
        refine norm_ (a' := ?_) ?_ ?_
        rotate_left
        · show Act.put _ (some 33) _ = _
          simp (maxSteps := 4000000) only [Act.put, List.setIfInBounds_toArray, List.set_cons_zero, List.set_cons_succ, i64_w, i32_w]
          try rfl
        refine pure_ (i := 8) (N := some 4) (v := ?_) (a' := ?_) #[true, true, true, true, true, true, true, true, true, false] rfl rfl (any_of HT_.out (by kernel_rfl)) (fun _ _ _ h => h) (Or.inl ⟨by rfl, ?_⟩) ?_ ?_
        rotate_left
        · intro w'
          go_simp
          try with_reducible rfl
        rotate_left
        · simp (maxSteps := 4000000) only [Act.put, List.setIfInBounds_toArray, List.set_cons_zero, List.set_cons_succ, i64_w, i32_w]
          try rfl
        refine pure_ (i := 9) (N := some 5) (v := ?_) (a' := ?_) #[true, true, true, true, true, true, true, true, true, true] rfl rfl (any_of HT_.out (by kernel_rfl)) (fun _ _ _ h => h) (Or.inl ⟨by rfl, ?_⟩) ?_ ?_
        rotate_left
        · intro w'
          go_simp
          try with_reducible rfl
        rotate_left
        · simp (maxSteps := 4000000) only [Act.put, List.setIfInBounds_toArray, List.set_cons_zero, List.set_cons_succ, i64_w, i32_w]
          try rfl
        refine done_ (done_of HT_.out (by kernel_rfl)) ?_
        go_wp2
        go_roundw
        case rel => exact ⟨j + 1, hlt, by rw [e3], by rw [HMap.out, HOf.out]; exact HA.out, by rw [HMap.out, HOf.out]; exact HD.out, HB.out⟩
        case measure => rw [e3]; simp only [RowKit.intOf, Int.toNat_natCast]; exact Nat.sub_lt_sub_left hlt (Nat.lt_succ_self j)
    · obtain rfl : j = N := Nat.le_antisymm hj (Nat.le_of_not_lt hlt)
      go_wp2
      go_ret2
      exact ⟨_, _, rfl, by rw [HRs.out]; exact HA.out, by rw [HRs.out]; exact HD.out, HB.out⟩
end Go.Proofs.Ytnojomoeaofkoaa
