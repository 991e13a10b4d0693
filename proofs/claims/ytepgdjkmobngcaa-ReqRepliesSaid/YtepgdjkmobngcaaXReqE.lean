/- req: Decode. No conditions beyond those that are written. -/
import Derived.Test.YtepgdjkmobngcaaXReqD
import Derived.Deep.CutRange
namespace Go.Proofs.Ytepgdjkmobngcaa
open Go.RowKit Go.Lib Go.Proofs.Ytepgdjkmobngcaa.P Go.Proofs.Ytepgdjkmobngcaa.BeS Go.Proofs.YtepgdjkmobngcaaW.PrintWords Go.Proofs.YtepgdjkmobngcaaW.PrintLast Go.Proofs.YtepgdjkmobngcaaW.PrintMore
set_option linter.unusedVariables false
set_option linter.unusedSimpArgs false
--@tables
theorem rq_size : (Try.prog.info? 39).map (·.size) = some 10 := by kernel_rfl
theorem RqAt.froz2 {w : World} {b : Nat} {q : RQ} {v : Value} (h : RqAt w b q v) : w.frozen? ⟨b, 0, none⟩ = false ∧ w.frozen? ⟨b, 1, none⟩ = false := by
  unfold RqAt at h
  refine ⟨?_, ?_⟩ <;> (unfold World.frozen?; rw [h]; rfl)
/-- Ten cells written over. -/
def set10 (w : World) (b : Nat) (q : RQ) (v : Value) : World :=
  (((((((((w.setCell ⟨b, 0, none⟩ (.int .u8 (q.k : Int))).setCell ⟨b, 1, none⟩ (.int .u8 (q.ek : Int))).setCell ⟨b, 2, none⟩ (.int .u64 (q.key : Int))).setCell ⟨b, 3, none⟩ (.int .i64 q.ref)).setCell ⟨b, 4, none⟩ (.int .i64 q.amt)).setCell ⟨b, 5, none⟩ (.int .i64 q.code)).setCell ⟨b, 6, none⟩ (.int .u8 (q.ak : Int))).setCell ⟨b, 7, none⟩ (.string q.name)).setCell ⟨b, 8, none⟩ v).setCell ⟨b, 9, none⟩ (.int .i64 q.n)
theorem RqAt.setK {w : World} {b : Nat} {q : RQ} {v : Value} (h : RqAt w b q v) (x : Nat) : RqAt (w.setCell ⟨b, 0, none⟩ (.int .u8 (x : Int))) b { q with k := x } v := heap_setCell_same w b 0 _ _ _ h
theorem set10_at {w : World} {b : Nat} {q0 : RQ} {v0 : Value} (h : RqAt w b q0 v0) (q : RQ) (v : Value) : RqAt (set10 w b q v) b q v :=
  (((((((((h.setK q.k).setEk q.ek).setKey q.key).setRef q.ref).setAmt q.amt).setCode q.code).setAk q.ak).setName q.name).setV v).setN q.n
theorem set10_below {B : Nat} {a w : World} {b : Nat} (h : Below B a w) (hb : B ≤ b) (q : RQ) (v : Value) : Below B a (set10 w b q v) :=
  below_set (below_set (below_set (below_set (below_set (below_set (below_set (below_set (below_set (below_set h hb) hb) hb) hb) hb) hb) hb) hb) hb) hb
theorem set10_grown {w : World} (b : Nat) (q : RQ) (v : Value) : w.grownBy (set10 w b q v) (some b) := by
  have h := fun (u : World) i x => Lib.grownBy_setCell u b i x
  exact grown_two (grown_two (grown_two (grown_two (grown_two (grown_two (grown_two (grown_two (grown_two (h _ _ _) (h _ _ _)) (h _ _ _)) (h _ _ _)) (h _ _ _)) (h _ _ _)) (h _ _ _)) (h _ _ _)) (h _ _ _)) (h _ _ _)
def decAns (o : Option (RQ × List Ln)) : RQ × List Ln × Int := match o with
  | some (q, xs) => (q, xs, 0)
  | none => (rq0 0, [], 4)
theorem rdE_is (g : Nat) (r : RdS) : rdE (some g) r = if fin r then 0 else 4 := by
  unfold rdE
  rw [if_neg (by simp)]
  by_cases h : fin r
  · rw [if_pos h, if_neg]
    rintro (h1 | h1)
    · rw [h.1] at h1; cases h1
    · exact h1 h.2
  · rw [if_neg h, if_pos]
    refine Classical.not_not.1 (fun hn => h ⟨?_, ?_⟩)
    · cases hr : r.2 with
      | false => rfl
      | true => exact absurd (.inl hr) hn
    · exact Classical.not_not.1 (fun hm => hn (.inr hm))
set_option maxHeartbeats 16000000 in
set_option maxRecDepth 8000 in
theorem req_decode (s : ByteArray) (hs : s.size ≤ 1000000) (w : World) :
    Calls Try.prog 10 #[.string s] w fun x w' => ∃ v, x = .returned (.tuple #[rqV (decAns (decV s.data.toList)).1 v, .int .i64 (decAns (decV s.data.toList)).2.2]) ∧ LRow w' 81 w.heap.size v (decAns (decV s.data.toList)).2.1 ∧ Below w.heap.size w w' := by
  have HS := Lib.hid hs; clear hs
  generalize hA : decAns (decV s.data.toList) = A
  have HA := Lib.hid hA; clear hA
  unfold decV at HA
  have hb := below_alloc (Below.refl w.heap.size w) (.cells #[.int .u8 0, .int .u8 0, .int .u64 0, .int .i64 0, .int .i64 0, .int .i64 0, .int .u8 0, .string { data := #[] }, .slice none 0 0, .int .i64 0] 39)
  have HB := Lib.hid hb; clear hb
  have HZ := Lib.hid (show RqAt _ w.heap.size (rq0 0) (.slice none 0 0) from heap_alloc_new w (.cells #[.int .u8 0, .int .u8 0, .int .u64 0, .int .i64 0, .int .i64 0, .int .i64 0, .int .u8 0, .string { data := #[] }, .slice none 0 0, .int .i64 0] 39))
  go_enter Try.func10, Try.ntmps10
  go_wp2_with fail
  generalize w.alloc (.cells #[.int .u8 0, .int .u8 0, .int .u64 0, .int .i64 0, .int .i64 0, .int .i64 0, .int .u8 0, .string { data := #[] }, .slice none 0 0, .int .i64 0] 39) = w1 at HB HZ ⊢
  generalize hbz : w.heap.size = bz at HZ ⊢
  have HBz := Lib.hid hbz; clear hbz
  refine (rd_new s (by have := HS.out; omega) w1).mono ?_
  rintro e w2 ⟨rfl, hr, _, hd⟩
  have HR := Lib.hid hr; clear hr
  have HZ1 := Lib.hid (blk_lt HZ.out)
  replace HZ := Lib.hid (show RqAt _ _ _ _ from blk_below HZ.out hd)
  replace HB := Lib.hid (chain2 HB.out hd); clear hd
  have HNz := Lib.hid (show bz ≠ w1.heap.size from fun e => by have := HZ1.out; omega)
  have HGb := Lib.hid (show bz ≤ w1.heap.size from by have := HZ1.out; omega)
  generalize w1.heap.size = g at HR HNz HGb ⊢
  clear HZ1
  go_wp2_with fail
  refine (rd_numberP (some g) (.pointer (some ⟨g, 0, none⟩)) rfl (s.data.toList, false) 1 w2 HR.out (by decide) (by decide)).mono ?_
  rintro e w3 ⟨rfl, hr, hg⟩
  rw [show numW 1 = 1 from rfl] at hr
  replace HR := Lib.hid hr; clear hr
  replace HZ := Lib.hid (HZ.out.grown hg HNz.out)
  replace HB := Lib.hid (pw_below_grown HB.out _ HB.out.size hg (fun i hi => by have h1 := HBz.out; have h2 := HGb.out; have h3 := Option.some.inj hi; omega)); clear hg
  have c1 := u8_small (rdN (s.data.toList, false) 1) (rdN1_lt _)
  generalize rdN (s.data.toList, false) 1 = k at c1 HA ⊢
  generalize tkR (s.data.toList, false) 1 = r1 at HR HA
  have HQ := Lib.hid (show RqAt _ w3.heap.size ⟨k, 0, 0, 0, 0, 0, 0, ⟨#[]⟩, 0⟩ (.slice none 0 0) from heap_alloc_new w3 (.cells #[.int .u8 (k : Int), .int .u8 0, .int .u64 0, .int .i64 0, .int .i64 0, .int .i64 0, .int .u8 0, .string { data := #[] }, .slice none 0 0, .int .i64 0] 39))
  have hd := below_alloc (Below.refl w3.heap.size w3) (.cells #[.int .u8 (k : Int), .int .u8 0, .int .u64 0, .int .i64 0, .int .i64 0, .int .i64 0, .int .u8 0, .string { data := #[] }, .slice none 0 0, .int .i64 0] 39)
  have HGq := Lib.hid (HR.out.lt g rfl)
  have HZq := Lib.hid (blk_lt HZ.out)
  replace HZ := Lib.hid (show RqAt _ _ _ _ from blk_below HZ.out hd)
  replace HR := Lib.hid (HR.out.below hd)
  replace HB := Lib.hid (chain2 HB.out hd); clear hd
  have q0 := HQ.out.cells.1
  simp only at q0
  go_wp2_with fail
  clear q0 c1
  generalize w3.alloc (.cells #[.int .u8 (k : Int), .int .u8 0, .int .u64 0, .int .i64 0, .int .i64 0, .int .i64 0, .int .u8 0, .string { data := #[] }, .slice none 0 0, .int .i64 0] 39) = w4 at HQ HZ HR HB ⊢
  have HNq := Lib.hid (show w3.heap.size ≠ g from fun e => by have := HGq.out; omega)
  have HNqz := Lib.hid (show bz ≠ w3.heap.size from fun e => by have := HZq.out; omega)
  have HBq := Lib.hid (show bz ≤ w3.heap.size from by have := HZq.out; omega)
  generalize w3.heap.size = bq at HQ HNq HNqz HBq ⊢
  clear HGq HZq
  refine (is_ok k w4).mono ?_
  rintro e w5 ⟨rfl, hd⟩
  replace hd := hd.below
  replace HQ := Lib.hid (show RqAt _ _ _ _ from blk_below HQ.out hd)
  replace HZ := Lib.hid (show RqAt _ _ _ _ from blk_below HZ.out hd)
  replace HR := Lib.hid (HR.out.below hd)
  replace HB := Lib.hid (chain2 HB.out hd); clear hd
  by_cases hk : isK k
  · rw [decide_eq_true hk]
    have hA := HA.out
    rw [if_pos hk] at hA
    replace HA := Lib.hid hA; clear hA
    have q0 := HQ.out.cells.1
    simp only at q0
    go_wp2_with fail
    refine (event_ok k w5).mono ?_
    rintro e w6 ⟨rfl, hd⟩
    replace hd := hd.below
    generalize hd9 : decide (1 ≤ k ∧ k ≤ 9) = b9
    have HD9 := Lib.hid hd9; clear hd9
    replace HQ := Lib.hid (show RqAt _ _ _ _ from blk_below HQ.out hd)
    replace HZ := Lib.hid (show RqAt _ _ _ _ from blk_below HZ.out hd)
    replace HR := Lib.hid (HR.out.below hd)
    replace HB := Lib.hid (chain2 HB.out hd); clear hd q0
    go_upto_if 20 with (fail)
    go_cut [] from 21 to 24 (fun wx => RqAt wx bq (rq0 k) (.slice none 0 0) ∧ RqAt wx bz (rq0 0) (.slice none 0 0) ∧ RdO wx (some g) r1 ∧ Below w.heap.size w wx)
    case first =>
      cases b9 with
      | true =>
        have h9 := of_decide_eq_true HD9.out
        have q0 := HQ.out.cells.1
        have q1 := HQ.out.cells.2.1
        have f1 := HQ.out.froz2.2
        simp only at q0 q1
        go_wp2_with fail
        go_meet
        case rel => exact ⟨by have h := HQ.out.setEk k; unfold rq0; rw [if_pos h9.2]; exact h, HZ.out.grown (Lib.grownBy_setCell _ bq 1 _) HNqz.out, HR.out.set HNq.out (i := 1) _, below_set HB.out (by have h1 := HBz.out; have h2 := HBq.out; omega)⟩
      | false =>
        have h9 := of_decide_eq_false HD9.out
        go_wp2_with fail
        go_meet
        case rel => exact ⟨by unfold rq0; rw [if_neg (by have h := (isK_iff k).1 hk; omega)]; exact HQ.out, HZ.out, HR.out, HB.out⟩
    case rest =>
      obtain ⟨hq, hz, hr, hd⟩ := hcut
      replace HQ := Lib.hid hq; clear hq
      replace HZ := Lib.hid hz; clear hz
      replace HR := Lib.hid hr; clear hr
      replace HB := Lib.hid hd; clear hd
      go_wp2_with fail
      refine (req_read k bq g hk HNq.out r1 wc HQ.out HR.out).mono ?_
      rintro e w7 ⟨v, rfl, hq, hl, hr, ht⟩
      replace HQ := Lib.hid hq; clear hq
      have HL0 := Lib.hid hl
      have HZw := Lib.hid (blk_lt HZ.out)
      have HL := Lib.hid (hl.mono HB.out.size); clear hl
      replace HR := Lib.hid hr; clear hr
      replace HZ := Lib.hid (show RqAt _ _ _ _ from ht.blk HZ.out (fun e => e.elim HNqz.out HNz.out))
      replace HB := Lib.hid (HB.out.trans (ht.below (fun i hi => by have h1 := HBz.out; have h2 := HBq.out; have h3 := HGb.out; rcases hi with hi | hi <;> omega) HB.out.size)); clear ht
      generalize rqRd k r1 = D at HQ HL HR HA ⊢
      obtain ⟨q, xs, er, r2⟩ := D
      have HLne := Lib.hid (show ∀ j, v.ownBlock = some j → bz ≠ j from fun j hj e => by have h1 := (World.ownsRow.lt HL0.out j hj).1; have h2 := HZw.out; omega)
      simp only at HQ HL HR HA ⊢
      by_cases her : er = 0
      · subst her
        go_wp2_with fail
        refine (rd_end (some g) r2 w7 HR.out).mono ?_
        rintro e w8 ⟨rfl, hd⟩
        rw [rdE_is]
        replace HQ := Lib.hid (show RqAt _ _ _ _ from blk_below HQ.out hd)
        replace HL := Lib.hid (HL.out.below hd)
        replace HZ := Lib.hid (show RqAt _ _ _ _ from blk_below HZ.out hd)
        replace HB := Lib.hid (chain2 HB.out hd); clear hd
        by_cases hf : fin r2
        · rw [if_pos hf]
          have hA := HA.out
          rw [if_pos ⟨trivial, hf⟩] at hA
          subst hA
          obtain ⟨va, vc, rfl⟩ := HL.out.form
          obtain ⟨z0, z1, z2, z3, z4, z5, z6, z7, z8, z9⟩ := HZ.out.cells
          obtain ⟨f2, f3, f4, f5, f6, f7, f8, f9⟩ := HZ.out.froz
          obtain ⟨f0, f1⟩ := HZ.out.froz2
          obtain ⟨q0, q1, q2, q3, q4, q5, q6, q7, q8, q9⟩ := HQ.out.cells
          go_wp2_with fail
          have hz := set10_at HZ.out q (.slice va xs.length vc)
          refine bodyPost_ret (results_ct rfl _ _ bz 39 _ (0, 0) _ rfl hz Try.underlying39 rfl rq_size) rfl ?_
          refine ⟨_, rfl, HL.out.grown (set10_grown bz q _) ?_, set10_below HB.out (by rw [HBz.out]; exact Nat.le_refl _) q _⟩
          cases hv : (Value.slice va xs.length vc).ownBlock with
          | none => exact .inl rfl
          | some j => exact .inr (fun e => HLne.out j hv (Option.some.inj e).symm)
        · rw [if_neg hf]
          have hA := HA.out
          rw [if_neg (fun h => hf h.2)] at hA
          replace HA := Lib.hid hA; clear hA
          obtain ⟨z0, z1, z2, z3, z4, z5, z6, z7, z8, z9⟩ := HZ.out.cells
          obtain ⟨f2, f3, f4, f5, f6, f7, f8, f9⟩ := HZ.out.froz
          obtain ⟨f0, f1⟩ := HZ.out.froz2
          go_wp2_with fail
          have hz := set10_at HZ.out (rq0 0) (.slice none 0 0)
          refine bodyPost_ret (results_ct rfl _ _ bz 39 _ (0, 0) _ rfl hz Try.underlying39 rfl rq_size) rfl ?_
          rw [← HA.out]
          exact ⟨_, rfl, World.ownsRow_nil _ _ _ _, set10_below HB.out (by rw [HBz.out]; exact Nat.le_refl _) (rq0 0) (.slice none 0 0)⟩
      · have hA := HA.out
        rw [if_neg (fun h => her h.1)] at hA
        replace HA := Lib.hid hA; clear hA
        have c2 : (er == 0) = false := beq_eq_false_iff_ne.2 her
        have c3 : (er != 0) = true := by simp [bne, c2]
        obtain ⟨z0, z1, z2, z3, z4, z5, z6, z7, z8, z9⟩ := HZ.out.cells
        obtain ⟨f2, f3, f4, f5, f6, f7, f8, f9⟩ := HZ.out.froz
        obtain ⟨f0, f1⟩ := HZ.out.froz2
        go_wp2_with fail
        have hz := set10_at HZ.out (rq0 0) (.slice none 0 0)
        refine bodyPost_ret (results_ct rfl _ _ bz 39 _ (0, 0) _ rfl hz Try.underlying39 rfl rq_size) rfl ?_
        rw [← HA.out]
        exact ⟨_, rfl, World.ownsRow_nil _ _ _ _, set10_below HB.out (by rw [HBz.out]; exact Nat.le_refl _) (rq0 0) (.slice none 0 0)⟩
  · rw [decide_eq_false hk]
    have hA := HA.out
    rw [if_neg hk] at hA
    replace HA := Lib.hid hA; clear hA
    obtain ⟨z0, z1, z2, z3, z4, z5, z6, z7, z8, z9⟩ := HZ.out.cells
    obtain ⟨f2, f3, f4, f5, f6, f7, f8, f9⟩ := HZ.out.froz
    obtain ⟨f0, f1⟩ := HZ.out.froz2
    go_wp2_with fail
    have hz := set10_at HZ.out (rq0 0) (.slice none 0 0)
    refine bodyPost_ret (results_ct rfl _ _ bz 39 _ (0, 0) _ rfl hz Try.underlying39 rfl rq_size) rfl ?_
    rw [← HA.out]
    exact ⟨_, rfl, World.ownsRow_nil _ _ _ _, set10_below HB.out (by rw [HBz.out]; exact Nat.le_refl _) (rq0 0) (.slice none 0 0)⟩
end Go.Proofs.Ytepgdjkmobngcaa
