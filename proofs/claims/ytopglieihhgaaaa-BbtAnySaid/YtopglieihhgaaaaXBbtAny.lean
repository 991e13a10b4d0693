/- BbtAny, plainly: in whatever order blocks become bad. No conditions. -/
import Derived.Test.YtopglieihhgaaaaPx8
import Derived.Test.YtopglieihhgaaaaXOpen
namespace Go.Proofs.Ytopglieihhgaaaa
open Go.RowKit Go.Proofs.Ytopglieihhgaaaa.P Go.Proofs.YtopglieihhgaaaaW.PrintWords Go.Proofs.YtopglieihhgaaaaW.PrintLast Go.Proofs.YtopglieihhgaaaaW.PrintMore
set_option linter.unusedVariables false
set_option linter.unusedSimpArgs false
def idx (n : Nat) (xs : List Bool) : List Int := ((List.range n).filter (fun k => xs.getD k false)).map (fun (k : Nat) => (k : Int))
theorem idx_succ (n : Nat) (xs : List Bool) : idx (n + 1) xs = idx n xs ++ (if xs.getD n false = true then [(n : Int)] else []) := by
  unfold idx
  rw [List.range_succ, List.filter_append, List.map_append]
  congr 1
  by_cases h : xs.getD n false = true
  · rw [if_pos h]
    show List.map _ (match xs.getD n false with | true => n :: List.filter _ [] | false => List.filter _ []) = _
    rw [h]; rfl
  · rw [if_neg h]
    show List.map _ (match xs.getD n false with | true => n :: List.filter _ [] | false => List.filter _ []) = _
    rw [Bool.eq_false_iff.2 h]; rfl
theorem idx_len (n : Nat) (xs : List Bool) : (idx n xs).length ≤ n := by
  unfold idx
  rw [List.length_map]
  exact Nat.le_trans (List.length_filter_le _ _) (by rw [List.length_range]; exact Nat.le_refl _)
theorem idx_up (n : Nat) (xs : List Bool) : (idx n xs).Pairwise (· < ·) := by
  unfold idx
  rw [List.pairwise_map]
  refine List.Pairwise.imp ?_ (List.Pairwise.filter _ List.pairwise_lt_range)
  intro a b h
  exact Int.ofNat_lt.2 h
theorem w64n (n : Nat) (h : n < 1000) : wrap64 ((n : Int) + 1) = ((n + 1 : Nat) : Int) := by unfold wrap64; omega
theorem list_l0 (xs : List Bool) (hx : xs.length ≤ 500) (d : Nat) : ∀ (k i : Nat), i + d = xs.length → d < k → bbt_Table_List.l0 k (idx i xs) xs (xs.length : Int) (i : Int) = some (idx xs.length xs) := by
  induction d with
  | zero =>
    intro k i h hk
    obtain ⟨k, rfl⟩ : ∃ m, k = m + 1 := ⟨k - 1, by omega⟩
    simp only [bbt_Table_List.l0]
    rw [if_neg (by omega), show i = xs.length by omega]
  | succ d ih =>
    intro k i h hk
    obtain ⟨k, rfl⟩ : ∃ m, k = m + 1 := ⟨k - 1, by omega⟩
    simp only [bbt_Table_List.l0]
    have hs := idx_succ i xs
    have hr : rdOf false xs (i : Int) = xs.getD i false := by unfold rdOf; rw [Int.toNat_natCast]
    rw [if_pos (by omega), if_pos (by omega), if_pos (by omega), hr, w64n i (by omega)]
    by_cases hb : xs.getD i false = true
    · rw [if_pos hb] at hs ⊢
      rw [if_pos (by have := idx_len i xs; omega), ← hs]
      exact ih k (i + 1) (by omega) (by omega)
    · rw [if_neg hb] at hs ⊢
      rw [List.append_nil] at hs
      rw [← hs]
      exact ih k (i + 1) (by omega) (by omega)
theorem list_f (v : Int) (xs : List Bool) (hx : xs.length ≤ 500) (k : Nat) (hk : xs.length < k) : bbt_Table_List.f k v xs = some (idx xs.length xs) := by
  unfold bbt_Table_List.f
  exact list_l0 xs hx xs.length k 0 (by omega) hk
def marks (s : Nat → Nat) : Nat → List Bool
  | 0 => List.replicate 40 false
  | j + 1 => (marks s j).set (s j) true
theorem marks_len (s : Nat → Nat) (j : Nat) : (marks s j).length = 40 := by
  induction j with
  | zero => exact List.length_replicate
  | succ j ih => rw [marks, List.length_set, ih]
theorem marks_get (s : Nat → Nat) (j : Nat) (q : Nat) (hq : q < 40) : (marks s j).getD q false = true ↔ ∃ i, i < j ∧ s i = q := by
  induction j with
  | zero =>
    have e : (List.replicate 40 false).getD q false = false := by rw [List.getD_eq_getElem?_getD, List.getElem?_replicate, if_pos hq]; rfl
    constructor
    · intro h
      exact absurd (e.symm.trans h) (by decide)
    · rintro ⟨i, hi, _⟩
      omega
  | succ j ih =>
    rw [marks, List.getD_eq_getElem?_getD, List.getElem?_set]
    by_cases h : s j = q
    · rw [if_pos h, if_pos (by rw [marks_len]; omega)]
      exact ⟨fun _ => ⟨j, by omega, h⟩, fun _ => rfl⟩
    · rw [if_neg h, ← List.getD_eq_getElem?_getD, ih]
      constructor
      · rintro ⟨i, hi, e⟩
        exact ⟨i, by omega, e⟩
      · rintro ⟨i, hi, e⟩
        refine ⟨i, ?_, e⟩
        rcases Nat.lt_or_ge i j with h1 | h1
        · exact h1
        · exact absurd (by rw [show j = i by omega]; exact e) h
theorem marks_eq (s r : Nat → Nat) (n : Nat) (h : ∀ q, (∃ i, i < n ∧ s i = q) ↔ ∃ i, i < n ∧ r i = q) : marks s n = marks r n := by
  apply List.ext_getElem (by rw [marks_len, marks_len])
  intro q h1 h2
  have h40 : q < 40 := by rw [marks_len] at h1; exact h1
  have e1 := marks_get s n q h40
  have e2 := marks_get r n q h40
  rw [List.getD_eq_getElem?_getD, List.getElem?_eq_getElem h1, Option.getD_some] at e1
  rw [List.getD_eq_getElem?_getD, List.getElem?_eq_getElem h2, Option.getD_some] at e2
  rw [Bool.eq_iff_iff, e1, e2, h q]
def sA (l : List Int) (i : Nat) : Nat := ((l.getD i 0) % 40).toNat
def sB (l : List Int) (t i : Nat) : Nat := sA l ((i + t) % l.length)
theorem rot (l : List Int) (t : Nat) (q : Nat) : (∃ i, i < l.length ∧ sA l i = q) ↔ ∃ i, i < l.length ∧ sB l t i = q := by
  constructor
  · rintro ⟨i, hi, e⟩
    have h0 : 0 < l.length := by omega
    refine ⟨(i + (l.length - t % l.length)) % l.length, Nat.mod_lt _ h0, ?_⟩
    unfold sB
    rw [← e]
    congr 1
    have h1 := Nat.mod_lt t h0
    rw [Nat.mod_add_mod, Nat.add_assoc, Nat.add_mod]
    have : (l.length - t % l.length + t) % l.length = 0 := by
      rw [show l.length - t % l.length + t = l.length * (1 + t / l.length) by
        have := Nat.div_add_mod t l.length
        rw [Nat.mul_add]; omega]
      exact Nat.mul_mod_right _ _
    rw [this, Nat.add_zero, Nat.mod_mod, Nat.mod_eq_of_lt hi]
  · rintro ⟨i, hi, e⟩
    exact ⟨(i + t) % l.length, Nat.mod_lt _ (by omega), e⟩
theorem sA_lt (l : List Int) (i : Nat) : sA l i < 40 := by unfold sA; omega
theorem with_f (v : Nat) (hv : v < 1000) (xs : List Bool) (hx : xs.length = 40) (q : Nat) (hq : q < 40) : bbt_Table_With.f (v : Int) xs (q : Int) = some (((v + 1 : Nat) : Int), xs.set q true, 0) := by
  unfold bbt_Table_With.f
  rw [if_pos (by omega), if_neg (by omega), if_pos (by omega), Int.toNat_natCast]
  rw [show IntKind.u64.wrap ((v : Int) + 1) = ((v + 1 : Nat) : Int) by rw [IntKind.wrap_u64]; omega]
theorem any_l1 (x : List Int) (hx : x.length ≤ 40) (hp : x.Pairwise (· < ·)) (d : Nat) : ∀ (k i : Nat), i + d = x.length → d < k → tillrolllaw09_BbtAny.l1 k x x (x.length : Int) (i : Int) = some true := by
  induction d with
  | zero =>
    intro k i h hk
    obtain ⟨k, rfl⟩ : ∃ m, k = m + 1 := ⟨k - 1, by omega⟩
    simp only [tillrolllaw09_BbtAny.l1]
    rw [if_neg (by omega)]
  | succ d ih =>
    intro k i h hk
    obtain ⟨k, rfl⟩ : ∃ m, k = m + 1 := ⟨k - 1, by omega⟩
    simp only [tillrolllaw09_BbtAny.l1]
    rw [if_pos (by omega), if_pos (by omega), if_pos (by omega), if_pos (by omega), if_pos trivial, w64n i (by omega)]
    have hn := ih k (i + 1) (by omega) (by omega)
    by_cases h0 : (i : Int) > 0
    · rw [if_pos h0]
      have e1 : wrap64 ((i : Int) - 1) = ((i - 1 : Nat) : Int) := by unfold wrap64; omega
      have hlt : rd x ((i - 1 : Nat) : Int) < rd x (i : Int) := by
        unfold rd
        rw [Int.toNat_natCast, Int.toNat_natCast, List.getD_eq_getElem?_getD, List.getD_eq_getElem?_getD, List.getElem?_eq_getElem (show i - 1 < x.length by omega), List.getElem?_eq_getElem (show i < x.length by omega)]
        exact List.pairwise_iff_getElem.1 hp (i - 1) i (by omega) (by omega) (by omega)
      rw [e1, if_pos (by omega), if_pos (by omega), if_neg (by omega)]
      exact hn
    · rw [if_neg h0]
      exact hn
theorem any_l0 (l : List Int) (t : Nat) (hl : l.length ≤ 30) (hv : ∀ i, 0 ≤ l.getD i 0 ∧ l.getD i 0 ≤ 255) (ht : t ≤ 255) (d : Nat) : ∀ (k j : Nat), j + d = l.length → d + 200 < k →
    tillrolllaw09_BbtAny.l0 k l (t : Int) (l.length : Int) (j : Int) (j : Int) (marks (sA l) j) (j : Int) (marks (sB l t) j) = some true := by
  induction d with
  | zero =>
    intro k j h hk
    obtain ⟨k, rfl⟩ : ∃ m, k = m + 2 := ⟨k - 2, by omega⟩
    have hj : j = l.length := by omega
    subst hj
    rw [marks_eq (sA l) (sB l t) l.length (rot l t)]
    have hm := marks_len (sB l t) l.length
    simp only [tillrolllaw09_BbtAny.l0]
    rw [if_neg (by omega), list_f _ _ (by omega) (k + 1) (by omega), Option.bind_some, Option.bind_some, if_pos rfl]
    simp only [bbt_Table_Version.f, Option.bind_some]
    rw [if_pos (by rw [IntKind.wrap_u64]; omega), show (((l.length : Nat) : Int) != ((l.length : Nat) : Int)) = false by simp]
    simp only [tillrolllaw09_BbtAny.j2]
    rw [if_neg (by simp)]
    have hlen := idx_len (marks (sB l t) l.length).length (marks (sB l t) l.length)
    exact any_l1 _ (by omega) (idx_up _ _) _ k 0 (Nat.zero_add _) (by omega)
  | succ d ih =>
    intro k j h hk
    obtain ⟨k, rfl⟩ : ∃ m, k = m + 1 := ⟨k - 1, by omega⟩
    simp only [tillrolllaw09_BbtAny.l0]
    have e1 : wrap64 ((j : Int) + wrap64 (t : Int)) = ((j + t : Nat) : Int) := by unfold wrap64; omega
    have e2 : Int.tmod ((j + t : Nat) : Int) (l.length : Int) = (((j + t) % l.length : Nat) : Int) := by
      rw [Int.tmod_eq_emod_of_nonneg (by omega)]; rfl
    have hlt := Nat.mod_lt (j + t) (show 0 < l.length by omega)
    have key : ∀ i : Nat, Int.tmod (wrap64 (rd l (i : Int))) 40 = (sA l i : Int) := by
      intro i
      have := hv i
      unfold rd sA
      rw [Int.toNat_natCast, show wrap64 (l.getD i 0) = l.getD i 0 by unfold wrap64; omega, Int.tmod_eq_emod_of_nonneg this.1]
      omega
    rw [if_pos (by omega), if_pos (by omega), if_pos (by omega), key j, with_f j (by omega) _ (marks_len _ _) _ (sA_lt _ _), Option.bind_some, if_neg (by omega), e1, e2, if_pos (by omega), if_pos (by omega), key, with_f j (by omega) _ (marks_len _ _) _ (sA_lt _ _), Option.bind_some]
    simp only
    rw [if_pos trivial, if_pos trivial, w64n j (by omega)]
    exact ih k (j + 1) (by omega) (by omega)
theorem wakes_f9 : tillrolllaw09_wakes.f 300 = some true := by kernel_rfl
theorem bbtAny_pure : tillrolllaw09_BbtAny.Pure := by
  intro l0 a1 h1 h2 h3 h4
  refine ⟨300, ?_⟩
  unfold tillrolllaw09_BbtAny.f
  have hnew : bbt_New.f 40 = some (0, List.replicate 40 false, 0) := by kernel_rfl
  have hmn : mn (l0.length : Int) 30 = ((min l0.length 30 : Nat) : Int) := by unfold mn; split <;> omega
  rw [hnew, Option.bind_some, Option.bind_some, hmn, if_pos (by omega), if_pos (by omega), wakes_f9, Option.bind_some, if_pos rfl, if_pos rfl, Int.toNat_natCast]
  have hl : (l0.take (min l0.length 30)).length ≤ 30 := by rw [List.length_take]; omega
  have hvv : ∀ i, 0 ≤ (l0.take (min l0.length 30)).getD i 0 ∧ (l0.take (min l0.length 30)).getD i 0 ≤ 255 := by
    intro i
    rw [List.getD_eq_getElem?_getD]
    rcases Nat.lt_or_ge i (l0.take (min l0.length 30)).length with hi | hi
    · rw [List.getElem?_eq_getElem hi, Option.getD_some]
      have hm := List.mem_of_mem_take (List.getElem_mem hi)
      have := h3 _ hm
      obtain ⟨v, hv, hb⟩ := wf_u8 this
      omega
    · rw [List.getElem?_eq_none hi]
      exact ⟨by decide, by decide⟩
  obtain ⟨t, rfl, ht⟩ := wf_u8 h4
  generalize l0.take (min l0.length 30) = l at hl hvv ⊢
  simp only [tillrolllaw09_BbtAny.j0]
  rw [if_neg (by decide)]
  exact any_l0 l t hl hvv (by omega) l.length 299 0 (Nat.zero_add _) (by omega)
end Go.Proofs.Ytopglieihhgaaaa
