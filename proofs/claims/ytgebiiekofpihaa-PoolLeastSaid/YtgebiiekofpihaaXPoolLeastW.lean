/- PoolLeast: what is taken was free, and none that was free is worn less; by Most none is worn more: the walk. No conditions beyond the form's own reach. -/
import Derived.Test.YtgebiiekofpihaaXPoolLeastL
import Derived.Test.YtgebiiekofpihaaXMapB
namespace Go.Proofs.Ytgebiiekofpihaa
open Go.RowKit Go.Lib Go.Proofs.YtgebiiekofpihaaW.PrintWords Go.Proofs.YtgebiiekofpihaaW.PrintLast Go.Proofs.YtgebiiekofpihaaW.PrintMore
set_option linter.unusedVariables false
set_option linter.unusedSimpArgs false
--@tables
/-- A slice of bytes that came in: what its first n places hold. -/
def BytesIn (w : World) (a : Option Addr) (n : Nat) (z : List Int) : Prop := ∀ i, i < n → ∃ ad, a = some ad ∧ w.cell? (ad.add i) = some (.int .u8 (z.getD i 0)) ∧ 0 ≤ z.getD i 0 ∧ z.getD i 0 < 256
theorem BytesIn.below {w w' : World} {a : Option Addr} {n : Nat} {z : List Int} (h : BytesIn w a n z) (hb : Below w.heap.size w w') : BytesIn w' a n z := by
  intro i hi
  obtain ⟨ad, h1, h2, h3⟩ := h i hi
  exact ⟨ad, h1, pw_cell_below hb h2, h3⟩
def freeF (bs : List Bk) (j : Nat) : Int → Bool := fun i => (decide (0 ≤ i ∧ i < (j : Int)) && decide (stB bs i = 1))
theorem freeF_step (bs : List Bk) (j : Nat) : (fun i : Int => if i = (j : Int) then decide (stB bs (j : Int) = 1) else freeF bs j i) = freeF bs (j + 1) := by
  funext i
  unfold freeF
  by_cases h : i = (j : Int)
  · subst h
    rw [if_pos rfl, decide_eq_true (show (0 : Int) ≤ (j : Int) ∧ (j : Int) < ((j + 1 : Nat) : Int) by omega), Bool.true_and]
  · rw [if_neg h]
    congr 1
    rw [decide_eq_decide]
    omega
theorem freeF_in (bs : List Bk) (n i : Nat) (hi : i < n) (h : i < bs.length) : freeF bs n (i : Int) = decide (bs[i].1 = 1) := by
  unfold freeF
  rw [decide_eq_true (show (0 : Int) ≤ (i : Int) ∧ (i : Int) < (n : Int) by omega), Bool.true_and, stB_in bs i h]
theorem i64_nat {b n : Nat} (h : b < n) (hn : n ≤ 30) : I64 (b : Int) := i64_of _ (by omega) (by omega)
theorem small_max {b n : Nat} (h : b < n) (hn : n ≤ 30) : b < maxLen := by unfold maxLen; omega
theorem PoolAt.grown {w w' : World} {g r b : Nat} {bs : List Bk} (h : PoolAt w g r bs) (hg : w.grownBy w' (some b)) (h1 : g ≠ b) (h2 : r ≠ b) : PoolAt w' g r bs :=
  ⟨(hg.block g (blk_lt h.head) (fun e => h1 (by cases e; rfl))).trans h.head, (hg.block r (blk_lt h.row) (fun e => h2 (by cases e; rfl))).trans h.row, h.ne, h.max⟩

set_option maxHeartbeats 8000000 in
set_option maxRecDepth 100000 in
theorem poolLeast_walk (a : Option Addr) (len cap : Nat) (z : List Int) (hlc : len ≤ cap) (hcm : cap ≤ maxLen) (us : Nat) (hus : us < 4294967296) (most : Bool) (w : World) (hz : BytesIn w a len z) :
    Calls Try.prog 3 #[.slice a len cap, .int .u32 (us : Int), .bool most] w fun e w' => e = .returned (.bool true) ∧ Below w.heap.size w w' := by
  have HZ := Lib.hid hz; clear hz
  obtain ⟨q, hq⟩ : ∃ q : Nat, (if 30 < (len : Int) then 30 else (len : Int)) = (q : Int) := ⟨min len 30, by split <;> omega⟩
  obtain ⟨n, hn, hn1, hn2⟩ : ∃ n : Nat, (if 1 < (q : Int) then (q : Int) else 1) = (n : Int) ∧ 1 ≤ n ∧ n ≤ 30 := ⟨max 1 q, by split <;> omega, by omega, by split at hq <;> omega⟩
  obtain ⟨M, hM, hM1, hM2⟩ : ∃ M : Nat, (if (n : Int) < (len : Int) then (n : Int) else (len : Int)) = (M : Int) ∧ M ≤ len ∧ M ≤ n := ⟨min len n, by split <;> omega, by omega, by omega⟩
  have hMi : (if n < len then (n : Int) else (len : Int)) = (M : Int) := by rw [← hM]; split <;> split <;> omega
  have c1 : (0 ≤ (M : Int)) = True := eq_true (by omega)
  have c2 : ((M : Int) ≤ (cap : Int)) = True := eq_true (by omega)
  have c3 : (M ≤ cap) = True := eq_true (by omega)
  have c4 : decide (M ≤ cap) = true := decide_eq_true (by omega)
  have HN := Lib.hid (And.intro hn1 hn2); clear hn1 hn2
  have HM := Lib.hid (And.intro hM1 hM2); clear hM1 hM2
  go_enter Try.func3, Try.ntmps3
  go_wp2_with fail
  clear hq hn
  refine (pool_new n HN.out.1 (Nat.le_trans HN.out.2 (by decide)) w).mono ?_
  rintro e w1 ⟨g, r, rfl, hg1, hr1, hp, hb⟩
  have HG := Lib.hid (And.intro hg1 hr1); clear hr1 hg1
  have HP := Lib.hid hp; clear hp
  have HB := Lib.hid hb; clear hb
  go_wp2_with fail
  refine (wakes_ok w1).mono ?_
  rintro e w2 ⟨rfl, hd⟩
  replace HP := Lib.hid (HP.out.below hd)
  replace HB := Lib.hid (chainC HB.out hd); clear hd
  go_wp2_with fail
  clear hM hMi c1 c2 c3 c4
  go_loopw [45] (fun i wr => ∃ j : Nat, ∃ bs : List Bk, j ≤ M ∧ i = .int .i64 (j : Int) ∧ bs.length = n ∧ TwoB bs ∧ PoolAt wr g r bs ∧ Below w.heap.size w wr) (fun i _ => M - (RowKit.intOf i).toNat)
  case atStart => exact ⟨0, _, Nat.zero_le _, rfl, List.length_replicate .., fun b hb => by rw [List.eq_of_mem_replicate hb]; exact .inl rfl, HP.out, HB.out⟩
  case round =>
    clear HP HB
    obtain ⟨j, bs, hj, rfl, h1, h2, h3, h4⟩ := hrel
    have HL := Lib.hid h1; clear h1
    have HTw := Lib.hid h2; clear h2
    have HP := Lib.hid h3; clear h3
    have HB := Lib.hid h4; clear h4
    by_cases hlt : j < M
    · obtain ⟨ad, rfl, hc, b0, b1⟩ := (HZ.out.below HB.out) j (Nat.lt_of_lt_of_le hlt HM.out.1)
      obtain ⟨x, hx⟩ := Int.eq_ofNat_of_zero_le b0
      rw [hx] at hc b1
      clear hx b0
      have ex : wrap64 (x : Int) = (x : Int) := by unfold wrap64; omega
      have e3 : wrap64 ((j : Int) + 1) = ((j + 1 : Nat) : Int) := wrap_succ j (Nat.lt_of_lt_of_le hlt (Nat.le_trans HM.out.2 (Nat.le_trans HN.out.2 (by decide))))
      clear b1
      go_wp2_with fail
      refine (pool_worn g r bs (j : Int) (x : Int) wr HP.out).mono ?_
      rintro e w3 ⟨rfl, hp, hd⟩
      have htw := two_worn HTw.out (j : Int) (x : Int)
      generalize wornL bs (j : Int) (x : Int) = bs2 at hp htw
      generalize wornE bs (j : Int) (x : Int) = z1
      replace HP := Lib.hid hp; clear hp
      replace HL := Lib.hid (htw.2.trans HL.out)
      replace HTw := Lib.hid htw.1; clear htw
      replace HB := Lib.hid (below_row HB.out HG.out.2 hd HB.out.size); clear hd hc
      have hj0 : (0 ≤ (j : Int)) = True := eq_true (Int.natCast_nonneg j)
      go_wp2_with fail
      · refine (pool_set g r bs2 (j : Int) 2 w3 HP.out).mono ?_
        rintro e w4 ⟨rfl, hp, hd⟩
        have htw := two_set HTw.out (j : Int)
        generalize setL bs2 (j : Int) 2 = bs3 at hp htw
        generalize setE bs2 (j : Int) 2 = z2
        replace HP := Lib.hid hp; clear hp
        replace HL := Lib.hid (htw.2.trans HL.out)
        replace HTw := Lib.hid htw.1; clear htw
        replace HB := Lib.hid (below_row HB.out HG.out.2 hd HB.out.size); clear hd
        go_wp2
        go_roundw
        case rel => exact ⟨j + 1, bs3, hlt, by rw [e3], HL.out, HTw.out, HP.out, HB.out⟩
        case measure => rw [e3]; simp only [RowKit.intOf, Int.toNat_natCast]; exact Nat.sub_lt_sub_left hlt (Nat.lt_succ_self j)
      · go_roundw
        case rel => exact ⟨j + 1, bs2, hlt, by rw [e3], HL.out, HTw.out, HP.out, HB.out⟩
        case measure => rw [e3]; simp only [RowKit.intOf, Int.toNat_natCast]; exact Nat.sub_lt_sub_left hlt (Nat.lt_succ_self j)
    · obtain rfl : j = M := Nat.le_antisymm hj (Nat.le_of_not_lt hlt)
      clear HZ HM hj hlt
      have hmm := @run_makeMap Try.prog
      have HMp := Lib.hid (MapB.made wr)
      have ha := (Below.refl wr.heap.size wr).alloc (Nat.le_refl _) (.map #[] 0)
      have hgb : g ≠ wr.heap.size ∧ r ≠ wr.heap.size := ⟨fun e => Nat.lt_irrefl _ (e ▸ blk_lt HP.out.head), fun e => Nat.lt_irrefl _ (e ▸ blk_lt HP.out.row)⟩
      have HGb := Lib.hid hgb; clear hgb
      have HBw := Lib.hid HB.out.size
      replace HP := Lib.hid (HP.out.below ha)
      replace HB := Lib.hid (chainC HB.out ha); clear ha
      go_wp2_with fail
      generalize wr.alloc (.map #[] 0) = w3 at HMp HP HB ⊢
      generalize wr.heap.size = bm at HMp HGb HBw ⊢
      clear hmm
      go_loopw [66] (fun i wr => ∃ j : Nat, j ≤ n ∧ i = .int .i64 (j : Int) ∧ MapB wr bm j (freeF bs j) ∧ PoolAt wr g r bs ∧ Below w.heap.size w wr) (fun i _ => n - (RowKit.intOf i).toNat)
      case atStart =>
        refine ⟨0, Nat.zero_le _, rfl, ?_, HP.out, HB.out⟩
        have e : freeF bs 0 = fun _ => false := by
          funext i
          unfold freeF
          rw [decide_eq_false (show ¬ (0 ≤ i ∧ i < ((0 : Nat) : Int)) by omega), Bool.false_and]
        rw [e]
        exact HMp.out
      case round =>
        clear HMp HP HB
        obtain ⟨j, hj, rfl, h1, h2, h3⟩ := hrel
        have HMp := Lib.hid h1; clear h1
        have HP := Lib.hid h2; clear h2
        have HB := Lib.hid h3; clear h3
        by_cases hlt : j < n
        · have e3 : wrap64 ((j : Int) + 1) = ((j + 1 : Nat) : Int) := wrap_succ j (Nat.lt_of_lt_of_le hlt (Nat.le_trans HN.out.2 (by decide)))
          have HI := Lib.hid (i64_nat hlt HN.out.2)
          have HSt := Lib.hid (freeF_step bs j)
          go_wp2_with fail
          refine (pool_state g r bs (j : Int) wr HP.out).mono ?_
          rintro e w5 ⟨rfl, rfl⟩
          generalize stB bs (j : Int) = sv at HSt ⊢
          go_wp2_with (at_mapUpdate; refine wpList_mapB_store rfl _ rfl _ _ _ rfl bm j _ rfl HMp.out (small_max hlt HN.out.2) (j : Int) (decide (sv = 1)) rfl (by first | rfl | simp) HI.out ?_)
          intro w6 hm6 hg6
          have hm7 : MapB w6 bm (j + 1) (freeF bs (j + 1)) := by rw [← HSt.out]; exact hm6
          clear hm6
          replace HMp := Lib.hid hm7; clear hm7
          replace HP := Lib.hid (HP.out.grown hg6 HGb.out.1 HGb.out.2)
          replace HB := Lib.hid (below_row HB.out HBw.out hg6 HB.out.size); clear hg6
          go_wp2
          go_roundw
          case rel => exact ⟨j + 1, hlt, by rw [e3], HMp.out, HP.out, HB.out⟩
          case measure => rw [e3]; simp only [RowKit.intOf, Int.toNat_natCast]; exact Nat.sub_lt_sub_left hlt (Nat.lt_succ_self j)
        · obtain rfl : j = n := Nat.le_antisymm hj (Nat.le_of_not_lt hlt)
          clear hlt hj
          generalize hjn : j = n at *
          go_wp2_with fail
          refine (pool_take g r bs wr HP.out).mono ?_
          rintro e w5 ⟨rfl, hp, hd⟩
          replace HMp := Lib.hid (HMp.out.kept hd (fun e => by have := HGb.out.2; cases e; exact this rfl))
          replace HB := Lib.hid (below_row HB.out HG.out.2 hd HB.out.size); clear hd
          rcases chosen_take bs with ⟨hv, hl, hno⟩ | ⟨k, hk, hv, hl, hfr, hmin⟩
          · rw [hv]
            rw [hl] at hp
            replace HP := Lib.hid hp
            have HNo := Lib.hid hno
            clear hp hv hl hno
            cases most with
            | true =>
              go_wp2_with fail
              go_loopw [99] (fun i wr => ∃ b : Nat, b ≤ n ∧ i = .int .i64 (b : Int) ∧ MapB wr bm n (freeF bs n) ∧ PoolAt wr g r (bs) ∧ Below w.heap.size w wr) (fun i _ => n - (RowKit.intOf i).toNat)
              case atStart => exact ⟨0, Nat.zero_le _, rfl, HMp.out, HP.out, HB.out⟩
              case round =>
                clear HMp HP HB
                obtain ⟨b, hj, rfl, h1, h2, h3⟩ := hrel
                have HMp := Lib.hid h1; clear h1
                have HP := Lib.hid h2; clear h2
                have HB := Lib.hid h3; clear h3
                by_cases hlt : b < n
                · have e3 : wrap64 ((b : Int) + 1) = ((b + 1 : Nat) : Int) := wrap_succ b (Nat.lt_of_lt_of_le hlt (Nat.le_trans HN.out.2 (by decide)))
                  have HI := Lib.hid (i64_nat hlt HN.out.2)
                  have hlk := HMp.out.look (b : Int) HI.out
                  have hbl : b < bs.length := by rw [HL.out]; exact hlt
                  rw [freeF_in bs n b hlt hbl] at hlk
                  rw [decide_eq_false (HNo.out b hbl)] at hlk
                  have HLk := hlk; clear hlk
                  go_wp2
                  go_roundw
                  case rel => exact ⟨b + 1, hlt, by rw [e3], HMp.out, HP.out, HB.out⟩
                  case measure => rw [e3]; simp only [RowKit.intOf, Int.toNat_natCast]; exact Nat.sub_lt_sub_left hlt (Nat.lt_succ_self b)
                · obtain rfl : b = n := Nat.le_antisymm hj (Nat.le_of_not_lt hlt)
                  go_wp2
                  go_ret
                  exact ⟨rfl, HB.out⟩
            | false =>
              go_wp2_with fail
              go_loopw [99] (fun i wr => ∃ b : Nat, b ≤ n ∧ i = .int .i64 (b : Int) ∧ MapB wr bm n (freeF bs n) ∧ PoolAt wr g r (bs) ∧ Below w.heap.size w wr) (fun i _ => n - (RowKit.intOf i).toNat)
              case atStart => exact ⟨0, Nat.zero_le _, rfl, HMp.out, HP.out, HB.out⟩
              case round =>
                clear HMp HP HB
                obtain ⟨b, hj, rfl, h1, h2, h3⟩ := hrel
                have HMp := Lib.hid h1; clear h1
                have HP := Lib.hid h2; clear h2
                have HB := Lib.hid h3; clear h3
                by_cases hlt : b < n
                · have e3 : wrap64 ((b : Int) + 1) = ((b + 1 : Nat) : Int) := wrap_succ b (Nat.lt_of_lt_of_le hlt (Nat.le_trans HN.out.2 (by decide)))
                  have HI := Lib.hid (i64_nat hlt HN.out.2)
                  have hlk := HMp.out.look (b : Int) HI.out
                  have hbl : b < bs.length := by rw [HL.out]; exact hlt
                  rw [freeF_in bs n b hlt hbl] at hlk
                  rw [decide_eq_false (HNo.out b hbl)] at hlk
                  have HLk := hlk; clear hlk
                  go_wp2
                  go_roundw
                  case rel => exact ⟨b + 1, hlt, by rw [e3], HMp.out, HP.out, HB.out⟩
                  case measure => rw [e3]; simp only [RowKit.intOf, Int.toNat_natCast]; exact Nat.sub_lt_sub_left hlt (Nat.lt_succ_self b)
                · obtain rfl : b = n := Nat.le_antisymm hj (Nat.le_of_not_lt hlt)
                  go_wp2
                  go_ret
                  exact ⟨rfl, HB.out⟩
          · rw [hv]
            rw [hl] at hp
            replace HP := Lib.hid hp
            have HFr := Lib.hid hfr
            have HMin := Lib.hid hmin
            have HIk := Lib.hid (i64_nat (show k < n by rw [← HL.out]; exact hk) HN.out.2)
            clear hp hv hl hfr hmin
            cases most with
            | false =>
              go_wp2_with fail
              go_loopw [99] (fun i wr => ∃ b : Nat, b ≤ n ∧ i = .int .i64 (b : Int) ∧ MapB wr bm n (freeF bs n) ∧ PoolAt wr g r (bs.set k (2, bs[k].2)) ∧ Below w.heap.size w wr) (fun i _ => n - (RowKit.intOf i).toNat)
              case atStart => exact ⟨0, Nat.zero_le _, rfl, HMp.out, HP.out, HB.out⟩
              case round =>
                clear HMp HP HB
                obtain ⟨b, hj, rfl, h1, h2, h3⟩ := hrel
                have HMp := Lib.hid h1; clear h1
                have HP := Lib.hid h2; clear h2
                have HB := Lib.hid h3; clear h3
                by_cases hlt : b < n
                · have e3 : wrap64 ((b : Int) + 1) = ((b + 1 : Nat) : Int) := wrap_succ b (Nat.lt_of_lt_of_le hlt (Nat.le_trans HN.out.2 (by decide)))
                  have HI := Lib.hid (i64_nat hlt HN.out.2)
                  have hlk := HMp.out.look (b : Int) HI.out
                  have hbl : b < bs.length := by rw [HL.out]; exact hlt
                  rw [freeF_in bs n b hlt hbl] at hlk
                  by_cases hfr : bs[b].1 = 1
                  · rw [decide_eq_true hfr] at hlk
                    have hle := HMin.out b hbl hfr
                    rw [← weB_in bs b hbl, ← weB_in bs k hk] at hle
                    have hwb := weB_keep bs k b 2 hk
                    have hwk := weB_keep bs k k 2 hk
                    generalize weB bs (b : Int) = wb at hle hwb
                    generalize weB bs (k : Int) = wk at hle hwk
                    have HWW := Lib.hid (And.intro hwb hwk); clear hwb hwk hfr
                    have cd : decide (wb < wk) = false := decide_eq_false (Int.not_lt.mpr hle)
                    have cd2 : ¬ wb < wk := Int.not_lt.mpr hle
                    go_wp2_with fail
                    refine (pool_wear g r _ (b : Int) wr HP.out).mono ?_
                    rintro e w7 ⟨rfl, rfl⟩
                    rw [HWW.out.1]
                    clear hlk
                    go_wp2_with fail
                    refine (pool_wear g r _ (k : Int) w7 HP.out).mono ?_
                    rintro e w8 ⟨rfl, rfl⟩
                    rw [HWW.out.2]
                    go_wp2
                    go_roundw
                    case rel => exact ⟨b + 1, hlt, by rw [e3], HMp.out, HP.out, HB.out⟩
                    case measure => rw [e3]; simp only [RowKit.intOf, Int.toNat_natCast]; exact Nat.sub_lt_sub_left hlt (Nat.lt_succ_self b)
                  · rw [decide_eq_false hfr] at hlk
                    clear hfr
                    go_wp2
                    go_roundw
                    case rel => exact ⟨b + 1, hlt, by rw [e3], HMp.out, HP.out, HB.out⟩
                    case measure => rw [e3]; simp only [RowKit.intOf, Int.toNat_natCast]; exact Nat.sub_lt_sub_left hlt (Nat.lt_succ_self b)
                · obtain rfl : b = n := Nat.le_antisymm hj (Nat.le_of_not_lt hlt)
                  have HI := HIk
                  have hlk := HMp.out.look (k : Int) HI.out
                  rw [freeF_in bs b k (by rw [← HL.out]; exact hk) hk, decide_eq_true HFr.out] at hlk
                  go_wp2_with fail
                  refine (pool_state g r _ (k : Int) wr HP.out).mono ?_
                  rintro e w7 ⟨rfl, rfl⟩
                  rw [stB_set bs k hk]
                  clear hlk
                  go_wp2
                  go_ret
                  exact ⟨rfl, HB.out⟩
            | true =>
              go_wp2_with fail
              refine (pool_set g r _ (k : Int) 1 w5 HP.out).mono ?_
              rintro e w6 ⟨rfl, hp, hd⟩
              rw [setL_set bs k hk _ (show (2 : Int) ≠ 3 by decide), set_same bs k hk HFr.out] at hp
              generalize setE (bs.set k (2, bs[k].2)) (k : Int) 1 = z2
              replace HP := Lib.hid hp; clear hp
              replace HMp := Lib.hid (HMp.out.kept hd (fun e => by have := HGb.out.2; cases e; exact this rfl))
              replace HB := Lib.hid (below_row HB.out HG.out.2 hd HB.out.size); clear hd
              go_wp2_with fail
              refine (pool_most g r bs w6 HP.out).mono ?_
              rintro e w7 ⟨rfl, hp, hd⟩
              replace HMp := Lib.hid (HMp.out.kept hd (fun e => by have := HGb.out.2; cases e; exact this rfl))
              replace HB := Lib.hid (below_row HB.out HG.out.2 hd HB.out.size); clear hd
              rcases chosen_most bs with ⟨_, _, hno⟩ | ⟨k2, hk2, hv, hl, hfr, hmin⟩
              · exact absurd HFr.out (hno k hk)
              · rw [hv]
                rw [hl] at hp
                replace HP := Lib.hid hp
                replace HFr := Lib.hid hfr
                replace HMin := Lib.hid hmin
                replace HIk := Lib.hid (i64_nat (show k2 < n by rw [← HL.out]; exact hk2) HN.out.2)
                clear hp hv hl hfr hmin
                go_wp2_with fail
                go_loopw [99] (fun i wr => ∃ b : Nat, b ≤ n ∧ i = .int .i64 (b : Int) ∧ MapB wr bm n (freeF bs n) ∧ PoolAt wr g r (bs.set k2 (2, bs[k2].2)) ∧ Below w.heap.size w wr) (fun i _ => n - (RowKit.intOf i).toNat)
                case atStart => exact ⟨0, Nat.zero_le _, rfl, HMp.out, HP.out, HB.out⟩
                case round =>
                  clear HMp HP HB
                  obtain ⟨b, hj, rfl, h1, h2, h3⟩ := hrel
                  have HMp := Lib.hid h1; clear h1
                  have HP := Lib.hid h2; clear h2
                  have HB := Lib.hid h3; clear h3
                  by_cases hlt : b < n
                  · have e3 : wrap64 ((b : Int) + 1) = ((b + 1 : Nat) : Int) := wrap_succ b (Nat.lt_of_lt_of_le hlt (Nat.le_trans HN.out.2 (by decide)))
                    have HI := Lib.hid (i64_nat hlt HN.out.2)
                    have hlk := HMp.out.look (b : Int) HI.out
                    have hbl : b < bs.length := by rw [HL.out]; exact hlt
                    rw [freeF_in bs n b hlt hbl] at hlk
                    by_cases hfr : bs[b].1 = 1
                    · rw [decide_eq_true hfr] at hlk
                      have hle := HMin.out b hbl hfr
                      rw [← weB_in bs b hbl, ← weB_in bs k2 hk2] at hle
                      have hwb := weB_keep bs k2 b 2 hk2
                      have hwk := weB_keep bs k2 k2 2 hk2
                      generalize weB bs (b : Int) = wb at hle hwb
                      generalize weB bs (k2 : Int) = wk at hle hwk
                      have HWW := Lib.hid (And.intro hwb hwk); clear hwb hwk hfr
                      have cd : decide (wk < wb) = false := decide_eq_false (Int.not_lt.mpr hle)
                      have cd2 : ¬ wk < wb := Int.not_lt.mpr hle
                      go_wp2_with fail
                      refine (pool_wear g r _ (b : Int) wr HP.out).mono ?_
                      rintro e w7 ⟨rfl, rfl⟩
                      rw [HWW.out.1]
                      clear hlk
                      go_wp2_with fail
                      refine (pool_wear g r _ (k2 : Int) w7 HP.out).mono ?_
                      rintro e w8 ⟨rfl, rfl⟩
                      rw [HWW.out.2]
                      go_wp2
                      go_roundw
                      case rel => exact ⟨b + 1, hlt, by rw [e3], HMp.out, HP.out, HB.out⟩
                      case measure => rw [e3]; simp only [RowKit.intOf, Int.toNat_natCast]; exact Nat.sub_lt_sub_left hlt (Nat.lt_succ_self b)
                    · rw [decide_eq_false hfr] at hlk
                      clear hfr
                      go_wp2
                      go_roundw
                      case rel => exact ⟨b + 1, hlt, by rw [e3], HMp.out, HP.out, HB.out⟩
                      case measure => rw [e3]; simp only [RowKit.intOf, Int.toNat_natCast]; exact Nat.sub_lt_sub_left hlt (Nat.lt_succ_self b)
                  · obtain rfl : b = n := Nat.le_antisymm hj (Nat.le_of_not_lt hlt)
                    have HI := HIk
                    have hlk := HMp.out.look (k2 : Int) HI.out
                    rw [freeF_in bs b k2 (by rw [← HL.out]; exact hk2) hk2, decide_eq_true HFr.out] at hlk
                    go_wp2_with fail
                    refine (pool_state g r _ (k2 : Int) wr HP.out).mono ?_
                    rintro e w7 ⟨rfl, rfl⟩
                    rw [stB_set bs k2 hk2]
                    clear hlk
                    go_wp2
                    go_ret
                    exact ⟨rfl, HB.out⟩
theorem poolLeast_law (a0 : Option Addr) (len0 cap0 : Nat) (z0 : List Int) (a1 : Int) (a2 : Bool) (W : World) (w0 : (a0 = none ∧ len0 = 0 ∧ cap0 = 0 ∧ z0 = []) ∨ ∃ x, a0 = some x ∧ len0 ≤ cap0 ∧ cap0 ≤ maxLen ∧ z0.length = cap0 ∧ (∀ i, i < z0.length → W.cell? (x.add i) = some (.int .u8 (z0.getD i 0))) ∧ ∀ n ∈ z0, (Lit.int .u8 n).wf = true) (y0 : len0 * 1 ≤ 140737488351232) (w1 : (Lit.int .u32 a1).wf = true) :
    Calls Try.prog 3 #[.slice a0 len0 cap0, .int .u32 a1, .bool a2] W fun e w' => e = .returned (.bool true) ∧ Below W.heap.size W w' := by
  have b1 : 0 ≤ a1 ∧ a1 < 4294967296 := by simp [Lit.wf, IntKind.min, IntKind.max, IntKind.signed, IntKind.bits] at w1; omega
  obtain ⟨l, rfl⟩ := Int.eq_ofNat_of_zero_le b1.1
  rcases w0 with ⟨rfl, rfl, rfl, rfl⟩ | ⟨x, rfl, h1, h2, h3, h4, h5⟩
  · exact poolLeast_walk none 0 0 [] (Nat.le_refl _) (Nat.zero_le _) l (by omega) a2 W (fun i hi => absurd hi (Nat.not_lt_zero _))
  · refine poolLeast_walk (some x) len0 cap0 z0 h1 h2 l (by omega) a2 W (fun i hi => ⟨x, rfl, h4 i (by omega), ?_⟩)
    have hl : i < z0.length := by omega
    have h := h5 (z0.getD i 0) (by rw [List.getD_eq_getElem?_getD, List.getElem?_eq_getElem hl]; exact List.getElem_mem hl)
    simp [Lit.wf, IntKind.min, IntKind.max, IntKind.signed, IntKind.bits] at h
    simp only [List.getD_eq_getElem?_getD] at h ⊢
    omega
end Go.Proofs.Ytgebiiekofpihaa
