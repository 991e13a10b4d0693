/- bbt: the bits of a table, plainly. No conditions. -/
import Derived.Test.YtopglieihhgaaaaXBbtIdx
import Derived.Test.YtopglieihhgaaaaXBePure
import Derived.Test.YtopglieihhgaaaaPx3
namespace Go.Proofs.Ytopglieihhgaaaa
open Go.RowKit Go.Proofs.Ytopglieihhgaaaa.P Go.Proofs.Ytopglieihhgaaaa.BeS Go.Proofs.YtopglieihhgaaaaW.PrintWords Go.Proofs.YtopglieihhgaaaaW.PrintLast Go.Proofs.YtopglieihhgaaaaW.PrintMore
set_option linter.unusedVariables false
set_option linter.unusedSimpArgs false
def orB (a i : Int) : Int := Go.bits .or .u8 a (shr .u8 128 i)
def tsB (a j : Int) : Bool := Go.bits .and .u8 a (shr .u8 128 j) != 0
theorem or_tbl : ((List.range 256).all fun a => (List.range 8).all fun i => decide (0 ≤ orB (a : Nat) (i : Nat) ∧ orB (a : Nat) (i : Nat) < 256) && (List.range 8).all fun j => (tsB (orB (a : Nat) (i : Nat)) (j : Nat) == ((i == j) || tsB (a : Nat) (j : Nat)))) = true := by kernel_rfl
theorem ts_zero : ((List.range 8).all fun j => !(tsB 0 (j : Nat))) = true := by kernel_rfl
theorem ts_zero_at (j : Nat) (hj : j < 8) : tsB 0 (j : Int) = false := by
  have := List.all_eq_true.1 ts_zero j (List.mem_range.2 hj)
  simpa using this
theorem or_at (a i : Nat) (ha : a < 256) (hi : i < 8) : (∃ b : Nat, orB a i = (b : Int) ∧ b < 256) ∧ ∀ j : Nat, j < 8 → tsB (orB a i) j = ((i == j) || tsB a j) := by
  have h1 := List.all_eq_true.1 or_tbl a (List.mem_range.2 ha)
  have h2 := List.all_eq_true.1 h1 i (List.mem_range.2 hi)
  rw [Bool.and_eq_true] at h2
  have h3 := of_decide_eq_true h2.1
  refine ⟨⟨(orB a i).toNat, by omega, by omega⟩, fun j hj => ?_⟩
  have := List.all_eq_true.1 h2.2 j (List.mem_range.2 hj)
  exact beq_iff_eq.1 this
def stB (B : List Int) (x : Int) : List Int := B.set (x.toNat / 8) (orB (B.getD (x.toNat / 8) 0) ((x.toNat % 8 : Nat) : Int))
def BOk (B : List Int) (c : Nat) : Prop := ∃ b : Nat, B.getD c 0 = (b : Int) ∧ b < 256
theorem fold_bits (nb : Nat) (ls : List Int) : ∀ B : List Int, (∀ x ∈ ls, 0 ≤ x ∧ x.toNat / 8 < nb) → B.length = nb → (∀ c, c < nb → BOk B c) →
    (ls.foldl stB B).length = nb ∧ ∀ c, c < nb → BOk (ls.foldl stB B) c ∧ ∀ j, j < 8 → tsB ((ls.foldl stB B).getD c 0) ((j : Nat) : Int) = (decide (((8 * c + j : Nat) : Int) ∈ ls) || tsB (B.getD c 0) ((j : Nat) : Int)) := by
  induction ls with
  | nil =>
    intro B _ hl hB
    exact ⟨hl, fun c hc => ⟨hB c hc, fun j hj => by simp⟩⟩
  | cons x ls ih =>
    intro B hx hl hB
    obtain ⟨hx0, hxn⟩ := hx x (List.mem_cons_self ..)
    obtain ⟨b, hb, hb2⟩ := hB _ hxn
    have ho := or_at b (x.toNat % 8) hb2 (Nat.mod_lt _ (by decide))
    have hg : ∀ c, (stB B x).getD c 0 = if x.toNat / 8 = c then orB (b : Int) ((x.toNat % 8 : Nat) : Int) else B.getD c 0 := by
      intro c
      unfold stB
      rw [hb, List.getD_eq_getElem?_getD, List.getElem?_set]
      by_cases h : x.toNat / 8 = c
      · rw [if_pos h, if_pos h, if_pos (by omega)]; rfl
      · rw [if_neg h, if_neg h, ← List.getD_eq_getElem?_getD]
    obtain ⟨h1, h2⟩ := ih (stB B x) (fun y hy => hx y (List.mem_cons_of_mem _ hy)) (by unfold stB; rw [List.length_set, hl]) (fun c hc => by
      unfold BOk
      rw [hg c]
      by_cases h : x.toNat / 8 = c
      · rw [if_pos h]; exact ho.1
      · rw [if_neg h]; exact hB c hc)
    refine ⟨h1, fun c hc => ⟨(h2 c hc).1, fun j hj => ?_⟩⟩
    rw [List.foldl_cons, (h2 c hc).2 j hj, hg c]
    have hm : (((8 * c + j : Nat) : Int) ∈ x :: ls) ↔ ((((8 * c + j : Nat) : Int) = x) ∨ ((8 * c + j : Nat) : Int) ∈ ls) := List.mem_cons
    by_cases h : x.toNat / 8 = c
    · rw [if_pos h, ho.2 j hj, ← show B.getD c 0 = (b : Int) from h ▸ hb]
      by_cases h3 : x.toNat % 8 = j
      · have h4 : ((8 * c + j : Nat) : Int) = x := by omega
        rw [decide_eq_true (hm.2 (.inl h4)), show (x.toNat % 8 == j) = true from beq_iff_eq.2 h3]
        simp
      · have h4 : ¬ ((8 * c + j : Nat) : Int) = x := by omega
        rw [show (x.toNat % 8 == j) = false from beq_eq_false_iff_ne.2 h3, Bool.false_or]
        congr 1
        rw [decide_eq_decide, hm]
        exact ⟨.inr, fun h => h.resolve_left h4⟩
    · rw [if_neg h]
      have h4 : ¬ ((8 * c + j : Nat) : Int) = x := by omega
      congr 1
      rw [decide_eq_decide, hm]
      exact ⟨.inr, fun h => h.resolve_left h4⟩
def nbB (n : Nat) : Nat := (n + 7) / 8
def bitsB (n : Nat) (xs : List Bool) : List Int := (idx n xs).foldl stB (List.replicate (nbB n) 0)
theorem mem_idx (n : Nat) (xs : List Bool) (q : Nat) : ((q : Int) ∈ idx n xs) ↔ q < n ∧ xs.getD q false = true := by
  unfold idx
  rw [List.mem_map]
  constructor
  · rintro ⟨r, hr, e⟩
    rw [List.mem_filter, List.mem_range] at hr
    obtain rfl : r = q := by exact_mod_cast e
    exact hr
  · rintro ⟨h1, h2⟩
    exact ⟨q, List.mem_filter.2 ⟨List.mem_range.2 h1, h2⟩, rfl⟩
theorem idx_in (n : Nat) (xs : List Bool) (x : Int) (h : x ∈ idx n xs) : 0 ≤ x ∧ x.toNat / 8 < nbB n := by
  unfold idx at h
  obtain ⟨r, hr, rfl⟩ := List.mem_map.1 h
  rw [List.mem_filter, List.mem_range] at hr
  unfold nbB
  have := hr.1
  omega
theorem bits_at (n : Nat) (xs : List Bool) : (bitsB n xs).length = nbB n ∧ ∀ c, c < nbB n → BOk (bitsB n xs) c ∧ ∀ j, j < 8 → tsB ((bitsB n xs).getD c 0) ((j : Nat) : Int) = decide (8 * c + j < n ∧ xs.getD (8 * c + j) false = true) := by
  have hz : ∀ c, (List.replicate (nbB n) (0 : Int)).getD c 0 = 0 := fun c => by
    rw [List.getD_eq_getElem?_getD, List.getElem?_replicate]
    split <;> rfl
  obtain ⟨h1, h2⟩ := fold_bits (nbB n) (idx n xs) (List.replicate (nbB n) 0) (fun x hx => idx_in n xs x hx) List.length_replicate (fun c hc => ⟨0, by rw [hz]; rfl, by decide⟩)
  refine ⟨h1, fun c hc => ⟨(h2 c hc).1, fun j hj => ?_⟩⟩
  have := (h2 c hc).2 j hj
  rw [hz, ts_zero_at j hj, Bool.or_false] at this
  unfold bitsB
  rw [this, decide_eq_decide]
  exact mem_idx n xs _
def textS (v n : Nat) (xs : List Bool) : ByteArray := (str (putL v 8) ++ strOfNums (bitsB n xs)) ++ ⟨(Lib.repeatL (⟨#[0]⟩ : ByteArray).data.toList (56 - nbB n)).toArray⟩
theorem bytes_f (n : Nat) (h : n ≤ 256) : bbt_bytes.f (n : Int) = some ((nbB n : Nat) : Int) := by
  unfold bbt_bytes.f nbB
  congr 1
  rw [show wrap64 ((n : Int) + 8) = ((n + 8 : Nat) : Int) by unfold wrap64; omega, show wrap64 (((n + 8 : Nat) : Int) - 1) = ((n + 7 : Nat) : Int) by unfold wrap64; omega, Int.tdiv_eq_ediv_of_nonneg (by omega)]
  unfold wrap64
  omega
theorem fold_len (ls : List Int) : ∀ B : List Int, (ls.foldl stB B).length = B.length := by
  induction ls with
  | nil => intro B; rfl
  | cons x ls ih => intro B; rw [List.foldl_cons, ih]; unfold stB; rw [List.length_set]
theorem nums_size (l : List Int) : (strOfNums l).size = l.length := by
  show ((l.map _).toArray).size = _
  rw [List.size_toArray, List.length_map]
theorem rep_f (n : Nat) (h : n ≤ 56) : strings_Repeat.f (⟨#[0]⟩ : ByteArray) (n : Int) = some ⟨(Lib.repeatL (⟨#[0]⟩ : ByteArray).data.toList n).toArray⟩ := by
  unfold strings_Repeat.f
  rw [if_pos ⟨by omega, by rw [Int.toNat_natCast]; show 1 * n ≤ 1000000; omega⟩, Int.toNat_natCast]
theorem rep_size (n : Nat) : (⟨(Lib.repeatL (⟨#[0]⟩ : ByteArray).data.toList n).toArray⟩ : ByteArray).size = n := by
  show ((Lib.repeatL [0] n).toArray).size = n
  rw [List.size_toArray, Lib.repeatL_length]
  simp
end Go.Proofs.Ytopglieihhgaaaa
