/- The law's list, of two lists that are the same; the plain law of SaleFinds. No conditions beyond those that are written. -/
import Derived.Test.YtdeeakjkhcdkaaaXSaleF3
import Derived.Test.YtdeeakjkhcdkaaaXSaleN
namespace Go.Proofs.Ytdeeakjkhcdkaaa
open Go.RowKit Go.Lib Go.Proofs.YtdeeakjkhcdkaaaW.PrintWords Go.Proofs.YtdeeakjkhcdkaaaW.PrintLast Go.Proofs.YtdeeakjkhcdkaaaW.PrintMore
set_option linter.unusedVariables false
set_option linter.unusedSimpArgs false
--@tables
theorem num_cell {w : World} {g off n cap : Nat} {ns : List Int} (h : RowS encN w (.slice (some ⟨g, off, none⟩) n cap) ns) (j : Nat) (hj : j < ns.length) : w.cell? ⟨g, off + j, none⟩ = some (.int .i64 ns[j]) := by
  rcases h with ⟨h, _⟩ | ⟨g', off', cap', h1, h2, h3, h4, h5⟩
  · cases h
  · simp only [Value.slice.injEq, Option.some.injEq, Addr.mk.injEq, and_true] at h1
    obtain ⟨⟨rfl, rfl⟩, _, rfl⟩ := h1
    have := h5 (j * 1 + 0) _ (by rw [flat_get encN 1 encN_len ns j 0 hj (by decide)]; rfl)
    simpa using this
theorem num_at {w : World} {a : Option Addr} {n cap : Nat} {ns : List Int} (h : RowS encN w (.slice a n cap) ns) (hn : 0 < ns.length) : ∃ gg off, a = some ⟨gg, off, none⟩ := by
  rcases h with ⟨_, h⟩ | ⟨g', off', cap', h1, _⟩
  · rw [h] at hn; cases hn
  · simp only [Value.slice.injEq] at h1
    exact ⟨_, _, h1.1⟩
set_option maxHeartbeats 4000000 in
theorem list_same (ns : List Int) (hl : ns.length ≤ 1000) (va vb : Value) (w : World) (ha : RowS encN w va ns) (hb : RowS encN w vb ns) :
    Calls Try.prog 14 #[va, vb] w fun e w' => e = .returned (.bool true) ∧ Below w.heap.size w w' := by
  obtain ⟨aa, ca, rfl, _⟩ := ha.len
  obtain ⟨ab, cb, rfl, _⟩ := hb.len
  have HA := Lib.hid ha; clear ha
  have HB := Lib.hid hb; clear hb
  obtain ⟨n, hn⟩ : ∃ n, n = ns.length := ⟨_, rfl⟩
  rw [← hn] at HA HB hl ⊢
  have HN := Lib.hid hn; clear hn
  have HL := Lib.hid hl; clear hl
  go_enter Try.func14, Try.ntmps14
  go_wp2_with fail
  go_loopw [13] (fun i wr => ∃ j : Nat, j ≤ n ∧ i = .int .i64 (j : Int) ∧ Below w.heap.size w wr) (fun i _ => n - (RowKit.intOf i).toNat)
  case atStart => exact ⟨0, Nat.zero_le _, rfl, Below.refl _ _⟩
  case round =>
    obtain ⟨j, hj, rfl, hd⟩ := hrel
    have HD := Lib.hid hd; clear hd
    by_cases hlt : j < n
    · have e3 : wrap64 ((j : Int) + 1) = ((j + 1 : Nat) : Int) := wrap_succS j (by have := HL.out; omega)
      have hjn : j < ns.length := by have := HN.out; omega
      obtain ⟨g1, o1, rfl⟩ := num_at HA.out (by omega)
      obtain ⟨g2, o2, rfl⟩ := num_at HB.out (by omega)
      have l1 := num_cell (HA.out.below HD.out) j hjn
      have l2 := num_cell (HB.out.below HD.out) j hjn
      generalize ns[j] = x at l1 l2
      have hq0 : (0 ≤ (j : Int)) = True := eq_true (by omega)
      have hq1 : ((j : Int) < (n : Int)) = True := eq_true (by omega)
      have Hlt := Lib.hid hlt
      clear hjn
      go_wp2_with fail
      go_quiet (fail)
      go_wp2_with fail
      exact ⟨⟨j + 1, Hlt.out, by rw [e3], below_drewQ HD.out _⟩, by rw [e3]; simp only [RowKit.intOf, Int.toNat_natCast]; exact Nat.sub_lt_sub_left Hlt.out (Nat.lt_succ_self j)⟩
    · obtain rfl : j = n := Nat.le_antisymm hj (Nat.le_of_not_lt hlt)
      go_wp2
      go_ret
      exact ⟨by rfl, HD.out⟩
/-- What the law asks of a kept transaction. -/
def wantF (kind : Int) (a : AK) (t : TP) : Bool := (decide (6 < kind) || (t.kind == kind || t.kind == 1)) && (((a.acc == 0) || t.ls.any (onL a.acc)) && (((a.shift == 0) || (t.shift == a.shift)) && (decide (a.least ≤ t.amount) && (decide (t.amount ≤ a.most) && (!a.open_ || ((t.kind == 1) && decide (0 < t.left)))))))
theorem want_meets (kind : Int) (a : AK) (t : TP) (hk : a.ks = if kind ≤ 6 then [kind, 1] else []) (hl : 0 ≤ t.left) : wantF kind a t = meetsF a t := by
  have h1 : (!bad1 a t) = (decide (6 < kind) || (t.kind == kind || t.kind == 1)) := by
    unfold bad1 HasK
    rw [hk]
    by_cases h6 : kind ≤ 6
    · rw [if_pos h6, show decide (6 < kind) = false from decide_eq_false (by omega)]
      simp only [List.isEmpty_cons, Bool.not_false, Bool.true_and, Bool.not_not, List.any_cons, List.any_nil, Bool.or_false, Bool.false_or]
      congr 1
      · rw [Bool.eq_iff_iff]; simp; exact eq_comm
      · rw [Bool.eq_iff_iff]; simp; exact eq_comm
    · rw [if_neg h6, show decide (6 < kind) = true from decide_eq_true (by omega)]; rfl
  have h4 : (!bad4 a t) = (!a.open_ || ((t.kind == 1) && decide (0 < t.left))) := by
    unfold bad4
    cases a.open_ with
    | false => rfl
    | true =>
      simp only [Bool.true_and, Bool.not_or, Bool.not_not, Bool.not_true, Bool.false_or]
      congr 1
      rw [Bool.eq_iff_iff]
      simp
      omega
  have h2 : (!bad2 a t) = ((a.shift == 0) || (t.shift == a.shift)) := by unfold bad2; simp
  have h3 : (!bad3 a t) = ((a.acc == 0) || t.ls.any (onL a.acc)) := by unfold bad3; simp
  unfold wantF meetsF good5
  rw [h1, h2, h3, h4]
  generalize (decide (6 < kind) || (t.kind == kind || t.kind == 1)) = x1
  generalize ((a.acc == 0) || t.ls.any (onL a.acc)) = x2
  generalize ((a.shift == 0) || (t.shift == a.shift)) = x3
  generalize decide (a.least ≤ t.amount) = x4
  generalize decide (t.amount ≤ a.most) = x5
  generalize (!a.open_ || ((t.kind == 1) && decide (0 < t.left))) = x6
  cases x1 <;> cases x2 <;> cases x3 <;> cases x4 <;> cases x5 <;> cases x6 <;> rfl
theorem nums_congr {p q : TP → Bool} {ps : List TP} (h : ∀ t ∈ ps, p t = q t) : numsF p ps = numsF q ps := by
  unfold numsF
  rw [List.filter_congr h]
end Go.Proofs.Ytdeeakjkhcdkaaa
