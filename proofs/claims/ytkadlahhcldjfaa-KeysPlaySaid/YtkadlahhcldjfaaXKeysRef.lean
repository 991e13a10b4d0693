/- keys: the document's Put and Match are the plain ones. No conditions. -/
import Derived.Test.YtkadlahhcldjfaaXKeysPut
import Derived.Test.YtkadlahhcldjfaaXKeysC
import Derived.Test.YtkadlahhcldjfaaXBeSpec
import Derived.Test.YtkadlahhcldjfaaPx2
import Derived.Test.YtkadlahhcldjfaaPx3
namespace Go.Proofs.Ytkadlahhcldjfaa
open Go.RowKit Go.Lib Go.Proofs.Ytkadlahhcldjfaa.P Go.Proofs.Ytkadlahhcldjfaa.BeS Go.Proofs.YtkadlahhcldjfaaW.PrintWords Go.Proofs.YtkadlahhcldjfaaW.PrintLast Go.Proofs.YtkadlahhcldjfaaW.PrintMore
set_option linter.unusedVariables false
set_option linter.unusedSimpArgs false
theorem toL_inj {a b : ByteArray} (h : a.toList = b.toList) : a = b := by
  have e : ∀ s : ByteArray, s.toList = s.data.toList := fun s => by conv => lhs; rw [of_data s, str_toList]
  rw [e, e] at h
  exact ByteArray.ext (Array.toList_inj.1 h)
def sE (e : KE) : S45 := ⟨e.key, e.body, e.num⟩
def uE (x : S45) : KE := ⟨x.f0, x.f1, x.f2⟩
theorem rd_sE (es : List KE) (i : Nat) (hi : i < es.length) : rd_T45 (es.map sE) (i : Int) = sE es[i] := by
  unfold rd_T45
  rw [Int.toNat_natCast, List.getD_eq_getElem?_getD, List.getElem?_map, List.getElem?_eq_getElem hi]
  rfl
theorem rfind_l0 (es : List KE) (hes : es.length ≤ 100) (key : Int) (d : Nat) : ∀ (k i : Nat), i + d = es.length → d < k → (∀ j, ∀ h : j < i, ∀ h2 : j < es.length, ¬ es[j].key = key) → ∃ r, tillrollref24_find.l0 k (es.map sE) key (i : Int) = some r ∧ IdxIs key es r := by
  induction d with
  | zero =>
    intro k i h hk hn
    obtain ⟨k, rfl⟩ : ∃ q, k = q + 1 := ⟨k - 1, by omega⟩
    simp only [tillrollref24_find.l0]
    refine ⟨-1, by rw [if_neg (by rw [List.length_map]; omega)], .inl ⟨rfl, fun e he => ?_⟩⟩
    obtain ⟨j, hj, rfl⟩ := List.getElem_of_mem he
    exact hn j (by omega) hj
  | succ d ih =>
    intro k i h hk hn
    obtain ⟨k, rfl⟩ : ∃ q, k = q + 1 := ⟨k - 1, by omega⟩
    simp only [tillrollref24_find.l0]
    have hi : i < es.length := by omega
    rw [if_pos (by rw [List.length_map]; omega), if_pos (by omega), rd_sE es i hi]
    by_cases he : es[i].key = key
    · refine ⟨(i : Int), by rw [if_pos (show (sE es[i]).f0 = key from he)], .inr ⟨i, hi, rfl, he, fun j hj => hn j hj (by omega)⟩⟩
    · rw [if_neg (show ¬ (sE es[i]).f0 = key from he), show wrap64 ((i : Int) + 1) = ((i + 1 : Nat) : Int) by unfold wrap64; omega]
      refine ih k (i + 1) (by omega) (by omega) (fun j hj h2 => ?_)
      rcases Nat.lt_or_ge j i with h3 | h3
      · exact hn j h3 h2
      · obtain rfl : j = i := by omega
        exact he
theorem rfind_f (es : List KE) (hes : es.length ≤ 100) (key : Int) (k : Nat) (hk : 200 < k) : ∃ r, tillrollref24_find.f k (es.map sE) key = some r ∧ IdxIs key es r :=
  rfind_l0 es hes key es.length k 0 (Nat.zero_add _) (by omega) (fun j h => by omega)
theorem rmatch_f (es : List KE) (hes : es.length ≤ 100) (key : Int) (body : ByteArray) (k : Nat) (hk : 200 < k) : tillrollref24_Match.f k (es.map sE) key body = some (matchK es key body) := by
  obtain ⟨r, h1, h2⟩ := rfind_f es hes key k hk
  unfold tillrollref24_Match.f matchK
  rw [h1, Option.bind_some]
  rcases h2 with ⟨rfl, hn⟩ | ⟨i, hi, rfl, he, hj⟩
  · rw [if_pos (by decide), find_none hn]
  · rw [if_neg (by omega), if_pos (by omega), if_pos (by rw [List.length_map]; omega), rd_sE es i hi, find_some hi he hj]
    simp only
    by_cases hb : es[i].body = body
    · rw [if_pos hb, if_pos (show (sE es[i]).f1.toList = body.toList by rw [← hb]; rfl)]
      rfl
    · rw [if_neg hb, if_neg]
      intro h
      exact hb (toL_inj h)
def keptE (lim : Nat) (es : List KE) (i : Nat) : List KE := if lim ≤ es.length then (es.take i).drop 1 else es.take i
theorem rput_l0 (lim : Nat) (es : List KE) (hes : es.length ≤ 100) (e : KE) (d : Nat) : ∀ (k i : Nat), i + d = es.length → d < k →
    tillrollref24_Put.l0 k (es.map sE) (lim : Int) ((keptE lim es i).map sE) (i : Int) e.key e.body e.num = some ((moreK lim es e).map sE, 0) := by
  have hlen : ∀ i, (keptE lim es i).length ≤ 100 := fun i => by
    unfold keptE
    split
    · rw [List.length_drop, List.length_take]; omega
    · rw [List.length_take]; omega
  induction d with
  | zero =>
    intro k i h hk
    obtain ⟨k, rfl⟩ : ∃ q, k = q + 1 := ⟨k - 1, by omega⟩
    simp only [tillrollref24_Put.l0]
    rw [if_neg (by rw [List.length_map]; omega), if_pos (by rw [List.length_map]; have := hlen i; omega)]
    unfold keptE moreK
    rw [List.take_of_length_le (by omega), List.map_append]
    rfl
  | succ d ih =>
    intro k i h hk
    obtain ⟨k, rfl⟩ : ∃ q, k = q + 1 := ⟨k - 1, by omega⟩
    simp only [tillrollref24_Put.l0]
    have hi : i < es.length := by omega
    have hn := ih k (i + 1) (by omega) (by omega)
    have hw : wrap64 ((i : Int) + 1) = ((i + 1 : Nat) : Int) := by unfold wrap64; omega
    have htk : es.take (i + 1) = es.take i ++ [es[i]] := List.take_succ_eq_append_getElem hi
    rw [if_pos (by rw [List.length_map]; omega), rd_sE es i hi, hw]
    have more : ¬ (lim ≤ es.length ∧ i = 0) → (keptE lim es i).map sE ++ [(⟨(sE es[i]).f0, (sE es[i]).f1, (sE es[i]).f2⟩ : S45)] = (keptE lim es (i + 1)).map sE := by
      intro hc
      unfold keptE
      by_cases hl : lim ≤ es.length
      · rw [if_pos hl, if_pos hl, htk, List.drop_append_of_le_length (by rw [List.length_take]; omega), List.map_append]
        rfl
      · rw [if_neg hl, if_neg hl, htk, List.map_append]
        rfl
    by_cases h0 : (i : Int) > 0
    · rw [if_pos h0, if_pos (by omega), if_pos (by rw [List.length_map]; have := hlen i; omega), more (fun h => by omega)]
      exact hn
    · rw [if_neg h0]
      by_cases hl : (((es.map sE).length : Nat) : Int) < (lim : Int)
      · rw [if_pos hl, if_pos (by omega), if_pos (by rw [List.length_map]; have := hlen i; omega), more (fun h => by rw [List.length_map] at hl; omega)]
        exact hn
      · rw [if_neg hl]
        rw [List.length_map] at hl
        obtain rfl : i = 0 := by omega
        have e1 : keptE lim es 0 = keptE lim es (0 + 1) := by
          unfold keptE
          rw [if_pos (by omega), if_pos (by omega), htk]
          rfl
        rw [e1]
        exact hn
theorem rput_f (lim : Nat) (es : List KE) (hes : es.length ≤ 100) (e : KE) (k : Nat) (hk : 300 < k) :
    tillrollref24_Put.f k (es.map sE) (lim : Int) e.key e.body e.num = some ((putK lim es e).1.map sE, (putK lim es e).2) := by
  obtain ⟨k, rfl⟩ : ∃ q, k = q + 1 := ⟨k - 1, by omega⟩
  have bad : rightK e = false → tillrollref24_Put.j0 (k + 1) (es.map sE) (lim : Int) true e.key e.body e.num = some ((putK lim es e).1.map sE, (putK lim es e).2) := by
    intro h
    simp only [tillrollref24_Put.j0]
    unfold putK
    rw [if_pos trivial, if_neg (by rw [h]; decide)]
  have good : rightK e = true → tillrollref24_Put.j0 (k + 1) (es.map sE) (lim : Int) false e.key e.body e.num = some ((putK lim es e).1.map sE, (putK lim es e).2) := by
    intro h
    obtain ⟨r, h1, h2⟩ := rfind_f es hes e.key k (by omega)
    simp only [tillrollref24_Put.j0]
    unfold putK
    rw [if_neg (by decide), h1, Option.bind_some, if_pos h]
    rcases h2 with ⟨rfl, hn⟩ | ⟨i, hi, rfl, he, hj⟩
    · rw [if_neg (by decide), find_none hn, if_neg (by decide)]
      have := rput_l0 lim es hes e es.length k 0 (Nat.zero_add _) (by omega)
      rw [show keptE lim es 0 = [] by unfold keptE; split <;> rfl] at this
      exact this
    · rw [if_pos (by omega), find_some hi he hj]
      rfl
  have hr : rightK e = decide (e.body.size ≤ 255 ∧ 1 ≤ e.num ∧ e.num ≤ 4294967295) := by unfold rightK; simp [Bool.decide_and]
  unfold tillrollref24_Put.f
  by_cases h1 : (e.body.size : Int) > 255
  · rw [if_pos h1]
    exact bad (by rw [hr]; exact decide_eq_false (fun h => by omega))
  · rw [if_neg h1]
    by_cases h2 : e.num < 1
    · rw [if_pos h2]
      exact bad (by rw [hr]; exact decide_eq_false (fun h => by omega))
    · rw [if_neg h2]
      by_cases h3 : e.num > 4294967295
      · rw [decide_eq_true h3]
        exact bad (by rw [hr]; exact decide_eq_false (fun h => by omega))
      · rw [decide_eq_false h3]
        exact good (by rw [hr]; exact decide_eq_true (by omega))
end Go.Proofs.Ytkadlahhcldjfaa
