/- BbtBack, plainly: a table's bytes are it again. No conditions. -/
import Derived.Test.YtopglieihhgaaaaXBbtIdx
import Derived.Test.YtopglieihhgaaaaXBePure
import Derived.Test.YtopglieihhgaaaaPx7
namespace Go.Proofs.Ytopglieihhgaaaa
open Go.RowKit Go.Proofs.Ytopglieihhgaaaa.P Go.Proofs.Ytopglieihhgaaaa.BeS Go.Proofs.YtopglieihhgaaaaW.PrintWords Go.Proofs.YtopglieihhgaaaaW.PrintLast Go.Proofs.YtopglieihhgaaaaW.PrintMore
set_option linter.unusedVariables false
set_option linter.unusedSimpArgs false
def orB (a i : Int) : Int := Go.bits .or .u8 a (shr .u8 128 i)
def tsB (a j : Int) : Bool := Go.bits .and .u8 a (shr .u8 128 j) != 0
theorem or_tbl : ((List.range 256).all fun a => (List.range 8).all fun i => decide (0 ≤ orB (a : Nat) (i : Nat) ∧ orB (a : Nat) (i : Nat) < 256) && (List.range 8).all fun j => (tsB (orB (a : Nat) (i : Nat)) (j : Nat) == ((i == j) || tsB (a : Nat) (j : Nat)))) = true := by kernel_rfl
theorem ts_zero : ((List.range 8).all fun j => !(tsB 0 (j : Nat))) = true := by kernel_rfl
theorem ts_zero_at (j : Nat) (hj : j < 8) : tsB 0 (j : Int) = false := by
  have := List.all_eq_true.1 ts_zero j (List.mem_range.2 hj)
  simpa using this
theorem or_at (a i : Nat) (ha : a < 256) (hi : i < 8) : (∃ b : Nat, orB a i = (b : Int) ∧ b < 256) ∧ ∀ j : Nat, j < 8 → tsB (orB a i) j = ((i == j) || tsB a j) := by
  have h1 := List.all_eq_true.1 or_tbl a (List.mem_range.2 ha)
  have h2 := List.all_eq_true.1 h1 i (List.mem_range.2 hi)
  rw [Bool.and_eq_true] at h2
  have h3 := of_decide_eq_true h2.1
  refine ⟨⟨(orB a i).toNat, by omega, by omega⟩, fun j hj => ?_⟩
  have := List.all_eq_true.1 h2.2 j (List.mem_range.2 hj)
  exact beq_iff_eq.1 this
def stB (B : List Int) (x : Int) : List Int := B.set (x.toNat / 8) (orB (B.getD (x.toNat / 8) 0) ((x.toNat % 8 : Nat) : Int))
def BOk (B : List Int) (c : Nat) : Prop := ∃ b : Nat, B.getD c 0 = (b : Int) ∧ b < 256
theorem fold_bits (nb : Nat) (ls : List Int) : ∀ B : List Int, (∀ x ∈ ls, 0 ≤ x ∧ x.toNat / 8 < nb) → B.length = nb → (∀ c, c < nb → BOk B c) →
    (ls.foldl stB B).length = nb ∧ ∀ c, c < nb → BOk (ls.foldl stB B) c ∧ ∀ j, j < 8 → tsB ((ls.foldl stB B).getD c 0) ((j : Nat) : Int) = (decide (((8 * c + j : Nat) : Int) ∈ ls) || tsB (B.getD c 0) ((j : Nat) : Int)) := by
  induction ls with
  | nil =>
    intro B _ hl hB
    exact ⟨hl, fun c hc => ⟨hB c hc, fun j hj => by simp⟩⟩
  | cons x ls ih =>
    intro B hx hl hB
    obtain ⟨hx0, hxn⟩ := hx x (List.mem_cons_self ..)
    obtain ⟨b, hb, hb2⟩ := hB _ hxn
    have ho := or_at b (x.toNat % 8) hb2 (Nat.mod_lt _ (by decide))
    have hg : ∀ c, (stB B x).getD c 0 = if x.toNat / 8 = c then orB (b : Int) ((x.toNat % 8 : Nat) : Int) else B.getD c 0 := by
      intro c
      unfold stB
      rw [hb, List.getD_eq_getElem?_getD, List.getElem?_set]
      by_cases h : x.toNat / 8 = c
      · rw [if_pos h, if_pos h, if_pos (by omega)]; rfl
      · rw [if_neg h, if_neg h, ← List.getD_eq_getElem?_getD]
    obtain ⟨h1, h2⟩ := ih (stB B x) (fun y hy => hx y (List.mem_cons_of_mem _ hy)) (by unfold stB; rw [List.length_set, hl]) (fun c hc => by
      unfold BOk
      rw [hg c]
      by_cases h : x.toNat / 8 = c
      · rw [if_pos h]; exact ho.1
      · rw [if_neg h]; exact hB c hc)
    refine ⟨h1, fun c hc => ⟨(h2 c hc).1, fun j hj => ?_⟩⟩
    rw [List.foldl_cons, (h2 c hc).2 j hj, hg c]
    have hm : (((8 * c + j : Nat) : Int) ∈ x :: ls) ↔ ((((8 * c + j : Nat) : Int) = x) ∨ ((8 * c + j : Nat) : Int) ∈ ls) := List.mem_cons
    by_cases h : x.toNat / 8 = c
    · rw [if_pos h, ho.2 j hj, ← show B.getD c 0 = (b : Int) from h ▸ hb]
      by_cases h3 : x.toNat % 8 = j
      · have h4 : ((8 * c + j : Nat) : Int) = x := by omega
        rw [decide_eq_true (hm.2 (.inl h4)), show (x.toNat % 8 == j) = true from beq_iff_eq.2 h3]
        simp
      · have h4 : ¬ ((8 * c + j : Nat) : Int) = x := by omega
        rw [show (x.toNat % 8 == j) = false from beq_eq_false_iff_ne.2 h3, Bool.false_or]
        congr 1
        rw [decide_eq_decide, hm]
        exact ⟨.inr, fun h => h.resolve_left h4⟩
    · rw [if_neg h]
      have h4 : ¬ ((8 * c + j : Nat) : Int) = x := by omega
      congr 1
      rw [decide_eq_decide, hm]
      exact ⟨.inr, fun h => h.resolve_left h4⟩
def nbB (n : Nat) : Nat := (n + 7) / 8
def bitsB (n : Nat) (xs : List Bool) : List Int := (idx n xs).foldl stB (List.replicate (nbB n) 0)
theorem mem_idx (n : Nat) (xs : List Bool) (q : Nat) : ((q : Int) ∈ idx n xs) ↔ q < n ∧ xs.getD q false = true := by
  unfold idx
  rw [List.mem_map]
  constructor
  · rintro ⟨r, hr, e⟩
    rw [List.mem_filter, List.mem_range] at hr
    obtain rfl : r = q := by exact_mod_cast e
    exact hr
  · rintro ⟨h1, h2⟩
    exact ⟨q, List.mem_filter.2 ⟨List.mem_range.2 h1, h2⟩, rfl⟩
theorem idx_in (n : Nat) (xs : List Bool) (x : Int) (h : x ∈ idx n xs) : 0 ≤ x ∧ x.toNat / 8 < nbB n := by
  unfold idx at h
  obtain ⟨r, hr, rfl⟩ := List.mem_map.1 h
  rw [List.mem_filter, List.mem_range] at hr
  unfold nbB
  have := hr.1
  omega
theorem bits_at (n : Nat) (xs : List Bool) : (bitsB n xs).length = nbB n ∧ ∀ c, c < nbB n → BOk (bitsB n xs) c ∧ ∀ j, j < 8 → tsB ((bitsB n xs).getD c 0) ((j : Nat) : Int) = decide (8 * c + j < n ∧ xs.getD (8 * c + j) false = true) := by
  have hz : ∀ c, (List.replicate (nbB n) (0 : Int)).getD c 0 = 0 := fun c => by
    rw [List.getD_eq_getElem?_getD, List.getElem?_replicate]
    split <;> rfl
  obtain ⟨h1, h2⟩ := fold_bits (nbB n) (idx n xs) (List.replicate (nbB n) 0) (fun x hx => idx_in n xs x hx) List.length_replicate (fun c hc => ⟨0, by rw [hz]; rfl, by decide⟩)
  refine ⟨h1, fun c hc => ⟨(h2 c hc).1, fun j hj => ?_⟩⟩
  have := (h2 c hc).2 j hj
  rw [hz, ts_zero_at j hj, Bool.or_false] at this
  unfold bitsB
  rw [this, decide_eq_decide]
  exact mem_idx n xs _
def textS (v n : Nat) (xs : List Bool) : ByteArray := (str (putL v 8) ++ strOfNums (bitsB n xs)) ++ ⟨(Lib.repeatL (⟨#[0]⟩ : ByteArray).data.toList (56 - nbB n)).toArray⟩
theorem bytes_f (n : Nat) (h : n ≤ 256) : bbt_bytes.f (n : Int) = some ((nbB n : Nat) : Int) := by
  unfold bbt_bytes.f nbB
  congr 1
  rw [show wrap64 ((n : Int) + 8) = ((n + 8 : Nat) : Int) by unfold wrap64; omega, show wrap64 (((n + 8 : Nat) : Int) - 1) = ((n + 7 : Nat) : Int) by unfold wrap64; omega, Int.tdiv_eq_ediv_of_nonneg (by omega)]
  unfold wrap64
  omega
theorem fold_len (ls : List Int) : ∀ B : List Int, (ls.foldl stB B).length = B.length := by
  induction ls with
  | nil => intro B; rfl
  | cons x ls ih => intro B; rw [List.foldl_cons, ih]; unfold stB; rw [List.length_set]
theorem nums_size (l : List Int) : (strOfNums l).size = l.length := by
  show ((l.map _).toArray).size = _
  rw [List.size_toArray, List.length_map]
theorem rep_f (n : Nat) (h : n ≤ 56) : strings_Repeat.f (⟨#[0]⟩ : ByteArray) (n : Int) = some ⟨(Lib.repeatL (⟨#[0]⟩ : ByteArray).data.toList n).toArray⟩ := by
  unfold strings_Repeat.f
  rw [if_pos ⟨by omega, by rw [Int.toNat_natCast]; show 1 * n ≤ 1000000; omega⟩, Int.toNat_natCast]
theorem rep_size (n : Nat) : (⟨(Lib.repeatL (⟨#[0]⟩ : ByteArray).data.toList n).toArray⟩ : ByteArray).size = n := by
  show ((Lib.repeatL [0] n).toArray).size = n
  rw [List.size_toArray, Lib.repeatL_length]
  simp
theorem text_l0 (v n : Nat) (hv : v < 18446744073709551616) (hn : n ≤ 256) (xs : List Bool) (d : Nat) : ∀ (k i : Nat), i + d = (idx n xs).length → d < k →
    bbt_Table_Text.l0 k 64 (nbB n : Nat) (((idx n xs).take i).foldl stB (List.replicate (nbB n) 0)) (idx n xs) ((idx n xs).length : Int) (i : Int) (v : Int) xs = some (textS v n xs, 0) := by
  have hnb : nbB n ≤ 32 := by unfold nbB; omega
  have hlen := idx_len n xs
  induction d with
  | zero =>
    intro k i h hk
    obtain ⟨k, rfl⟩ : ∃ m, k = m + 1 := ⟨k - 1, by omega⟩
    simp only [bbt_Table_Text.l0]
    have hB : (bitsB n xs).length = nbB n := (bits_at n xs).1
    rw [if_neg (by omega), List.take_of_length_le (by omega), put_f v hv, Option.bind_some, show (if 1 ≤ (8 : Int) ∧ (8 : Int) ≤ 8 then str (putL v (Int.toNat 8)) else str []) = str (putL v 8) from if_pos ⟨by decide, by decide⟩]
    rw [show (idx n xs).foldl stB (List.replicate (nbB n) 0) = bitsB n xs from rfl]
    rw [if_pos (by rw [str_size, putL_length, nums_size, hB]; omega)]
    rw [show wrap64 (wrap64 (64 - 8) - ((nbB n : Nat) : Int)) = ((56 - nbB n : Nat) : Int) by unfold wrap64; omega, rep_f _ (by omega), Option.bind_some]
    rw [if_pos (by rw [ByteArray.size_append, str_size, putL_length, nums_size, hB, rep_size]; omega)]
    rfl
  | succ d ih =>
    intro k i h hk
    obtain ⟨k, rfl⟩ : ∃ m, k = m + 1 := ⟨k - 1, by omega⟩
    simp only [bbt_Table_Text.l0]
    have hi : i < (idx n xs).length := by omega
    obtain ⟨x0, x1⟩ := idx_in n xs _ (List.getElem_mem hi)
    have hr : rd (idx n xs) (i : Int) = (idx n xs)[i] := by unfold rd; rw [Int.toNat_natCast, List.getD_eq_getElem?_getD, List.getElem?_eq_getElem hi]; rfl
    have hnext := ih k (i + 1) (by omega) (by omega)
    rw [List.take_succ_eq_append_getElem hi, List.foldl_append] at hnext
    rw [hr]
    generalize (idx n xs)[i] = x at x0 x1 hnext
    have hl : (((idx n xs).take i).foldl stB (List.replicate (nbB n) 0)).length = nbB n := by rw [fold_len, List.length_replicate]
    generalize ((idx n xs).take i).foldl stB (List.replicate (nbB n) 0) = B at hl hnext ⊢
    have e1 : wrap64 (Int.tdiv x 8) = ((x.toNat / 8 : Nat) : Int) := by rw [Int.tdiv_eq_ediv_of_nonneg x0]; unfold wrap64; omega
    have e2 : Int.tmod x 8 = ((x.toNat % 8 : Nat) : Int) := by rw [Int.tmod_eq_emod_of_nonneg x0]; omega
    rw [if_pos (by omega), if_pos (by omega), if_pos (by omega), e1, e2, if_pos (by omega), if_pos (by omega), if_pos (by omega), Int.toNat_natCast, w64n i (by omega)]
    unfold rd
    rw [Int.toNat_natCast]
    exact hnext
theorem text_f (v n : Nat) (hv : v < 18446744073709551616) (hn : n ≤ 256) (h1 : 1 ≤ n) (xs : List Bool) (hx : xs.length = n) (k : Nat) (hk : 300 < k) : bbt_Table_Text.f k (v : Int) xs 64 = some (textS v n xs, 0) := by
  have hnb : nbB n ≤ 32 ∧ 1 ≤ nbB n := by unfold nbB; omega
  have hlen := idx_len n xs
  unfold bbt_Table_Text.f
  rw [hx, bytes_f n hn, Option.bind_some, if_neg (by omega), if_neg (by unfold wrap64; omega), show decide ((64 : Int) > 1024) = false from rfl]
  obtain ⟨k, rfl⟩ : ∃ m, k = m + 1 := ⟨k - 1, by omega⟩
  simp only [bbt_Table_Text.j0]
  rw [if_neg (by decide), if_pos (by omega), if_pos (by omega), list_f _ _ (by omega) k (by omega), Option.bind_some, hx, Int.toNat_natCast]
  exact text_l0 v n hv hn xs (idx n xs).length k 0 (Nat.zero_add _) (by omega)
theorem textS_size (v n : Nat) (hn : n ≤ 256) (xs : List Bool) : (textS v n xs).size = 64 := by
  have hnb : nbB n ≤ 32 := by unfold nbB; omega
  unfold textS
  rw [ByteArray.size_append, ByteArray.size_append, str_size, putL_length, nums_size, (bits_at n xs).1, rep_size]
  omega
def bitS (s : ByteArray) (q : Nat) : Bool := tsB (bt s ((8 + q / 8 : Nat) : Int)) ((q % 8 : Nat) : Int)
theorem text_bits (v n : Nat) (hn : n ≤ 256) (xs : List Bool) (hx : xs.length = n) (q : Nat) (hq : q < 448) : bitS (textS v n xs) q = xs.getD q false := by
  have hnb : nbB n ≤ 32 := by unfold nbB; omega
  obtain ⟨hB, hbits⟩ := bits_at n xs
  have hsz := textS_size v n hn xs
  have hlt : 8 + q / 8 < (textS v n xs).data.toList.length := by rw [Array.length_toList]; show 8 + q / 8 < (textS v n xs).size; omega
  have hd : (textS v n xs).data.toList = (putL v 8 ++ (bitsB n xs).map (fun n => UInt8.ofNat n.toNat)) ++ Lib.repeatL (⟨#[0]⟩ : ByteArray).data.toList (56 - nbB n) := by
    unfold textS
    simp [strOfNums, str]
  have hbt : bt (textS v n xs) ((8 + q / 8 : Nat) : Int) = if q / 8 < nbB n then (bitsB n xs).getD (q / 8) 0 else 0 := by
    have e1 : bt (textS v n xs) ((8 + q / 8 : Nat) : Int) = (((textS v n xs).data.toList[8 + q / 8]'hlt).toNat : Int) := by
      unfold bt
      rw [dif_pos (by rw [Int.toNat_natCast]; omega)]
      rfl
    rw [e1]
    have hl8 : (putL v 8).length = 8 := putL_length _ _
    have hg : (textS v n xs).data.toList[8 + q / 8]? = if q / 8 < nbB n then some (UInt8.ofNat ((bitsB n xs).getD (q / 8) 0).toNat) else some 0 := by
      rw [hd]
      by_cases h : q / 8 < nbB n
      · rw [if_pos h, List.getElem?_append_left (by rw [List.length_append, List.length_map]; omega), List.getElem?_append_right (by omega), hl8, Nat.add_sub_cancel_left, List.getElem?_map, List.getD_eq_getElem?_getD, List.getElem?_eq_getElem (by omega)]
        rfl
      · rw [if_neg h, List.getElem?_append_right (by rw [List.length_append, List.length_map]; omega)]
        show (Lib.repeatL (List.replicate 1 0) (56 - nbB n))[_]? = _
        rw [Lib.repeatL_replicate, List.getElem?_replicate, if_pos (by rw [List.length_append, List.length_map]; omega)]
    rw [List.getElem?_eq_getElem hlt] at hg
    by_cases h : q / 8 < nbB n
    · rw [if_pos h] at hg ⊢
      rw [Option.some.inj hg]
      obtain ⟨b, hb, hb2⟩ := (hbits _ h).1
      rw [hb, Int.toNat_natCast, UInt8.toNat_ofNat', Nat.mod_eq_of_lt hb2]
    · rw [if_neg h] at hg ⊢
      rw [Option.some.inj hg]
      rfl
  unfold bitS
  rw [hbt]
  by_cases h : q / 8 < nbB n
  · rw [if_pos h, (hbits _ h).2 _ (Nat.mod_lt _ (by decide)), show 8 * (q / 8) + q % 8 = q by omega]
    by_cases h2 : q < n
    · cases hb : xs.getD q false with
      | true => exact decide_eq_true ⟨h2, rfl⟩
      | false => exact decide_eq_false (fun h => by cases h.2)
    · rw [decide_eq_false (fun h => h2 h.1), List.getD_eq_getElem?_getD, List.getElem?_eq_none (by omega)]
      rfl
  · rw [if_neg h, ts_zero_at _ (Nat.mod_lt _ (by decide)), List.getD_eq_getElem?_getD, List.getElem?_eq_none (by unfold nbB at h; omega)]
    rfl
def outP (s : ByteArray) (n i : Nat) : List Bool := (List.range n).map fun q => if q < i then bitS s q else false
theorem outP_set (s : ByteArray) (n i : Nat) (hi : i < n) : (outP s n i).set i (bitS s i) = outP s n (i + 1) := by
  unfold outP
  apply List.ext_getElem (by simp)
  intro q h1 h2
  rw [List.getElem_set]
  simp only [List.getElem_map, List.getElem_range]
  by_cases h : i = q
  · subst h; rw [if_pos rfl, if_pos (by omega)]
  · rw [if_neg h]
    by_cases h3 : q < i
    · rw [if_pos h3, if_pos (by omega)]
    · rw [if_neg h3, if_neg (by omega)]
theorem parse_l0 (s : ByteArray) (hs : s.size = 64) (v n : Nat) (hv : v < 18446744073709551616) (hn : n ≤ 256) (h1 : 1 ≤ n) (d : Nat) : ∀ (k i : Nat), i + d = n → d + 400 < k →
    bbt_Parse.l0 k s (n : Int) (i : Int) (v : Int) (outP s n i) = some (if (textS v n (outP s n n)).toList = s.toList then ((v : Int), outP s n n, 0) else (0, [], 4)) := by
  have hol : ∀ i, (outP s n i).length = n := fun i => by unfold outP; rw [List.length_map, List.length_range]
  induction d with
  | zero =>
    intro k i h hk
    obtain ⟨k, rfl⟩ : ∃ m, k = m + 1 := ⟨k - 1, by omega⟩
    simp only [bbt_Parse.l0]
    rw [if_neg (by omega), hs, show ((64 : Nat) : Int) = 64 from rfl, show i = n by omega, text_f v n hv hn h1 _ (hol n) k (by omega), Option.bind_some, if_pos rfl]
    by_cases h : (textS v n (outP s n n)).toList = s.toList
    · rw [if_pos h, if_pos h]
    · rw [if_neg h, if_neg h]
  | succ d ih =>
    intro k i h hk
    obtain ⟨k, rfl⟩ : ∃ m, k = m + 1 := ⟨k - 1, by omega⟩
    simp only [bbt_Parse.l0]
    have e1 : wrap64 (8 + wrap64 (Int.tdiv (i : Int) 8)) = ((8 + i / 8 : Nat) : Int) := by rw [Int.tdiv_eq_ediv_of_nonneg (by omega)]; unfold wrap64; omega
    have e2 : Int.tmod (i : Int) 8 = ((i % 8 : Nat) : Int) := by rw [Int.tmod_eq_emod_of_nonneg (by omega)]; omega
    rw [if_pos (by omega), e1, e2, if_pos (by omega), if_pos (by omega), if_pos (by omega), if_pos (by omega), if_pos (by rw [hol]; omega), Int.toNat_natCast, w64n i (by omega)]
    have hset := outP_set s n i (by omega)
    have := ih k (i + 1) (by omega) (by omega)
    rw [← hset] at this
    exact this
theorem parse_f9 (v n m : Nat) (hv : v < 18446744073709551616) (hm : m ≤ 256) (xs : List Bool) (hn : n ≤ 256) (h1 : 1 ≤ n) (k : Nat) (hk : 800 < k) :
    bbt_Parse.f k (textS v m xs) (n : Int) = some (if (textS v n (outP (textS v m xs) n n)).toList = (textS v m xs).toList then ((v : Int), outP (textS v m xs) n n, 0) else (0, [], 4)) := by
  have hnb : nbB n ≤ 32 := by unfold nbB; omega
  have hs := textS_size v m hm xs
  unfold bbt_Parse.f
  have hnew : bbt_New.f (n : Int) = some (0, List.replicate n false, 0) := by
    unfold bbt_New.f
    rw [if_neg (by omega), if_neg (by omega), if_pos (by omega), if_pos (by omega), Int.toNat_natCast]
  have hx : (textS v m xs).extract 0 8 = str (putL v 8) := by
    have hd : (textS v m xs).data.toList = putL v 8 ++ ((bitsB m xs).map (fun n => UInt8.ofNat n.toNat) ++ Lib.repeatL (⟨#[0]⟩ : ByteArray).data.toList (56 - nbB m)) := by
      unfold textS
      simp [strOfNums, str]
    rw [of_data (textS v m xs), str_extract, List.drop_zero, hd]
    rw [List.take_append_of_le_length (Nat.le_of_eq (putL_length _ _).symm), List.take_of_length_le (Nat.le_of_eq (putL_length _ _))]
  rw [hnew, Option.bind_some, if_pos rfl, bytes_f n hn, Option.bind_some, hs, if_neg (by unfold wrap64; omega), if_pos (by decide), if_pos (by decide), hx, get_str _ (by rw [putL_length]; exact Nat.le_refl _) k (by omega), Option.bind_some, getN_putL, Nat.mod_eq_of_lt (by simpa using hv), List.length_replicate]
  have e0 : List.replicate n false = outP (textS v m xs) n 0 := by
    unfold outP
    apply List.ext_getElem (by simp)
    intro q h1 h2
    simp
  rw [e0]
  exact parse_l0 _ hs v n hv hn h1 n k 0 (Nat.zero_add _) (by omega)
theorem outP_self (v n : Nat) (hn : n ≤ 256) (xs : List Bool) (hx : xs.length = n) : outP (textS v n xs) n n = xs := by
  unfold outP
  apply List.ext_getElem (by rw [List.length_map, List.length_range, hx])
  intro q h1 h2
  simp only [List.getElem_map, List.getElem_range]
  rw [if_pos (by omega), text_bits v n hn xs hx q (by omega), List.getD_eq_getElem?_getD, List.getElem?_eq_getElem h2]
  rfl
theorem idx_more (xs : List Bool) (d : Nat) : idx (xs.length + d) xs = idx xs.length xs := by
  induction d with
  | zero => rfl
  | succ d ih =>
    rw [← Nat.add_assoc, idx_succ, ih, if_neg, List.append_nil]
    rw [List.getD_eq_getElem?_getD, List.getElem?_eq_none (by omega)]
    decide
theorem idx_same (xs ys : List Bool) (hx : xs.length ≤ 256) (hy : ys.length ≤ 256) (h : ∀ q, q < 448 → xs.getD q false = ys.getD q false) : idx xs.length xs = idx ys.length ys := by
  rw [← idx_more xs (256 - xs.length), ← idx_more ys (256 - ys.length), show xs.length + (256 - xs.length) = 256 by omega, show ys.length + (256 - ys.length) = 256 by omega]
  unfold idx
  congr 1
  apply List.filter_congr
  intro q hq
  rw [h q (by have := List.mem_range.1 hq; omega)]
theorem back_l1 (v m : Nat) (hv : v < 1000) (hm : m ≤ 256) (hm1 : 1 ≤ m) (xs : List Bool) (hx : xs.length = m) (o : Nat) (ho : o < 256) (d : Nat) : ∀ (k i : Nat), i + d = (idx m xs).length → d + 900 < k →
    tillrolllaw09_BbtBack.l1 k (o : Int) (textS v m xs) (idx m xs) ((idx m xs).length : Int) (i : Int) (v : Int) xs (v : Int) xs = some true := by
  have hlen := idx_len m xs
  induction d with
  | zero =>
    intro k i h hk
    obtain ⟨k, rfl⟩ : ∃ q, k = q + 1 := ⟨k - 1, by omega⟩
    simp only [tillrolllaw09_BbtBack.l1]
    have e1 : wrap64 (1 + wrap64 (o : Int)) = ((1 + o : Nat) : Int) := by unfold wrap64; omega
    rw [if_neg (by omega), e1, parse_f9 v (1 + o) m (by omega) hm xs (by omega) (by omega) k (by omega), Option.bind_some]
    by_cases h : (textS v (1 + o) (outP (textS v m xs) (1 + o) (1 + o))).toList = (textS v m xs).toList
    · rw [if_pos h]
      simp only
      have hol : (outP (textS v m xs) (1 + o) (1 + o)).length = 1 + o := by unfold outP; rw [List.length_map, List.length_range]
      have hs : textS v (1 + o) (outP (textS v m xs) (1 + o) (1 + o)) = textS v m xs := by
        have e : ∀ s : ByteArray, s.toList = s.data.toList := fun s => by conv => lhs; rw [of_data s, str_toList]
        rw [e, e] at h
        rw [of_data (textS v (1 + o) _), h, ← of_data]
      have hb : ∀ q, q < 448 → (outP (textS v m xs) (1 + o) (1 + o)).getD q false = xs.getD q false := by
        intro q hq
        rw [← text_bits v (1 + o) (by omega) _ hol q hq, ← text_bits v m hm xs hx q hq, hs]
      have hi := idx_same _ xs (by omega) (by omega) hb
      rw [if_neg (by decide), if_pos trivial, list_f _ _ (by omega) k (by omega), Option.bind_some, list_f _ _ (by omega) k (by omega), Option.bind_some, hi]
      simp
    · rw [if_neg h]
      rfl
  | succ d ih =>
    intro k i h hk
    obtain ⟨k, rfl⟩ : ∃ q, k = q + 1 := ⟨k - 1, by omega⟩
    simp only [tillrolllaw09_BbtBack.l1]
    rw [if_pos (by omega), if_pos (by omega), if_pos (by omega), list_f _ _ (by omega) k (by omega), Option.bind_some, hx, if_pos (by omega), if_pos rfl, w64n i (by omega)]
    exact ih k (i + 1) (by omega) (by omega)
theorem back_l0 (n : Nat) (hn : n ≤ 256) (h1 : 1 ≤ n) (o : Nat) (ho : o < 256) (l : List Int) (hl : l.length ≤ 40) (hv : ∀ i, 0 ≤ l.getD i 0 ∧ l.getD i 0 ≤ 255) (d : Nat) : ∀ (k i : Nat) (xs : List Bool), i + d = l.length → d + 2000 < k → xs.length = n →
    tillrolllaw09_BbtBack.l0 k (o : Int) (n : Int) l (l.length : Int) (i : Int) (i : Int) xs = some true := by
  induction d with
  | zero =>
    intro k i xs h hk hx
    obtain ⟨k, rfl⟩ : ∃ q, k = q + 2 := ⟨k - 2, by omega⟩
    simp only [tillrolllaw09_BbtBack.l0]
    rw [if_neg (by omega), text_f i n (by omega) hn h1 xs hx (k + 1) (by omega), Option.bind_some]
    have hp : bbt_Parse.f (k + 1) (textS i n xs) (n : Int) = some ((i : Int), xs, 0) := by rw [parse_f9 i n n (by omega) hn xs hn h1 (k + 1) (by omega), outP_self i n hn xs hx, if_pos rfl]
    have hq : ∀ v : Int, bbt_Table_List.f (k + 1) v xs = some (idx xs.length xs) := fun v => list_f _ _ (by omega) (k + 1) (by omega)
    show ((bbt_Parse.f (k + 1) (textS i n xs) (n : Int)).bind _) = _
    rw [hp, Option.bind_some, if_pos rfl, if_pos rfl]
    show (if (i : Int) = (i : Int) then ((bbt_Table_List.f (k + 1) (i : Int) xs).bind _) else _) = _
    rw [if_pos rfl, hq, Option.bind_some, Option.bind_some, show (((idx xs.length xs).length : Int) != ((idx xs.length xs).length : Int)) = false by simp]
    simp only [tillrolllaw09_BbtBack.j2]
    rw [if_neg (by decide), list_f _ _ (by omega) k (by omega), Option.bind_some, hx]
    have hlen := idx_len n xs
    exact back_l1 i n (by omega) hn h1 xs hx o ho (idx n xs).length k 0 (Nat.zero_add _) (by omega)
  | succ d ih =>
    intro k i xs h hk hx
    obtain ⟨k, rfl⟩ : ∃ q, k = q + 1 := ⟨k - 1, by omega⟩
    simp only [tillrolllaw09_BbtBack.l0]
    have hr := hv i
    have key : Int.tmod (wrap64 (rd l (i : Int))) (n : Int) = (((l.getD i 0).toNat % n : Nat) : Int) := by
      unfold rd
      rw [Int.toNat_natCast, show wrap64 (l.getD i 0) = l.getD i 0 by unfold wrap64; omega]
      obtain ⟨q, hq⟩ := Int.eq_ofNat_of_zero_le hr.1
      rw [hq, Int.toNat_natCast, Int.tmod_eq_emod_of_nonneg (by omega)]
      rfl
    have hlt := Nat.mod_lt (l.getD i 0).toNat (show 0 < n by omega)
    have hw : bbt_Table_With.f (i : Int) xs (((l.getD i 0).toNat % n : Nat) : Int) = some (((i + 1 : Nat) : Int), xs.set ((l.getD i 0).toNat % n) true, 0) := by
      unfold bbt_Table_With.f
      rw [if_pos (by omega), if_neg (by omega), if_pos (by omega), Int.toNat_natCast]
      rw [show IntKind.u64.wrap ((i : Int) + 1) = ((i + 1 : Nat) : Int) by rw [IntKind.wrap_u64]; omega]
    rw [if_pos (by omega), if_pos (by omega), if_pos (by omega), if_neg (by omega), key, hw, Option.bind_some]
    simp only
    rw [if_pos trivial, w64n i (by omega)]
    exact ih k (i + 1) _ (by omega) (by omega) (by rw [List.length_set, hx])
theorem wakes_f9b : tillrolllaw09_wakes.f 3000 = some true := by
  have h : ∀ d : Nat, tillrolllaw09_wakes.f (300 + d) = some true := by
    intro d
    induction d with
    | zero => exact wakes_f9
    | succ d ih => exact tillrolllaw09_wakes.mono (300 + d) _ ih
  exact h 2700
theorem bbtBack_pure : tillrolllaw09_BbtBack.Pure := by
  intro a0 l1 a2 h0 h1 h2 h3 h4
  obtain ⟨a, rfl, ha⟩ := wf_u8 h0
  obtain ⟨o, rfl, ho⟩ := wf_u8 h4
  refine ⟨3000, ?_⟩
  unfold tillrolllaw09_BbtBack.f
  have e1 : wrap64 (1 + wrap64 (a : Int)) = ((1 + a : Nat) : Int) := by unfold wrap64; omega
  have hnew : bbt_New.f ((1 + a : Nat) : Int) = some (0, List.replicate (1 + a) false, 0) := by
    unfold bbt_New.f
    rw [if_neg (by omega), if_neg (by omega), if_pos (by omega), if_pos (by omega), Int.toNat_natCast]
  have hmn : mn (l1.length : Int) 40 = ((min l1.length 40 : Nat) : Int) := by unfold mn; split <;> omega
  rw [e1, hnew, Option.bind_some, wakes_f9b, Option.bind_some, if_pos rfl]
  simp only [tillrolllaw09_BbtBack.j0]
  rw [if_neg (by decide), hmn, if_pos (by omega), if_pos (by omega), Int.toNat_natCast]
  have hl : (l1.take (min l1.length 40)).length ≤ 40 := by rw [List.length_take]; omega
  have hvv : ∀ i, 0 ≤ (l1.take (min l1.length 40)).getD i 0 ∧ (l1.take (min l1.length 40)).getD i 0 ≤ 255 := by
    intro i
    rw [List.getD_eq_getElem?_getD]
    rcases Nat.lt_or_ge i (l1.take (min l1.length 40)).length with hi | hi
    · rw [List.getElem?_eq_getElem hi, Option.getD_some]
      have hm := List.mem_of_mem_take (List.getElem_mem hi)
      obtain ⟨v, hv, hb⟩ := wf_u8 (h3 _ hm)
      omega
    · rw [List.getElem?_eq_none hi]
      exact ⟨by decide, by decide⟩
  generalize l1.take (min l1.length 40) = l at hl hvv ⊢
  exact back_l0 (1 + a) (by omega) (by omega) o ho l hl hvv l.length 2999 0 _ (Nat.zero_add _) (by omega) List.length_replicate
end Go.Proofs.Ytopglieihhgaaaa
