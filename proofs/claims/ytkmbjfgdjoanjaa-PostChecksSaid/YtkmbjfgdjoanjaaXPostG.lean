/- post: the law's 'even' and 'same' out of the printed functions. No conditions beyond the form's own reach. -/
import Derived.Test.YtkmbjfgdjoanjaaXPostD
import Derived.Laws.BitsLemmas
import Derived.Test.YtkmbjfgdjoanjaaPx2
import Derived.Test.YtkmbjfgdjoanjaaPx3
namespace Go.Proofs.Ytkmbjfgdjoanjaa
open Go.RowKit Go.Lib Go.Proofs.Ytkmbjfgdjoanjaa.P Go.Proofs.YtkmbjfgdjoanjaaW.PrintWords Go.Proofs.YtkmbjfgdjoanjaaW.PrintLast Go.Proofs.YtkmbjfgdjoanjaaW.PrintMore
set_option linter.unusedVariables false
set_option linter.unusedSimpArgs false
--@tables
theorem lns_C {α : Type} (d : Go.Proofs.YtkmbjfgdjoanjaaW.PrintWords.Kd α) (f : Ln → α) (hsz : d.sz = 2) (hmk : ∀ w p, d.K w (f p) [.int .i64 p.1, .int .i64 p.2]) {w : World} {a : Option Addr} {xs : List Ln} (h : LnsAt w a xs) (hl : xs.length ≤ maxLen) : d.C w a xs.length (xs.map f) := by
  refine ⟨List.length_map _, by unfold maxLen at hl; omega, fun hn => ?_⟩
  obtain ⟨g, off, ha, _, _⟩ := h 0 hn
  refine ⟨⟨g, off, none⟩, ha, fun j p hj => ?_⟩
  rw [List.getElem?_map] at hj
  obtain ⟨q, hq, rfl⟩ := Option.map_eq_some_iff.1 hj
  obtain ⟨hj', rfl⟩ := List.getElem?_eq_some_iff.1 hq
  obtain ⟨g', off', ha', k0, k1⟩ := h j hj'
  rw [ha] at ha'
  simp only [Option.some.injEq, Addr.mk.injEq, and_true] at ha'
  obtain ⟨rfl, rfl⟩ := ha'
  refine ⟨[.int .i64 xs[j].1, .int .i64 xs[j].2], by rw [hsz]; rfl, hmk w xs[j], fun i u hu => ?_⟩
  rw [Addr.add_lit, hsz]
  match i, hu with
  | 0, hu => simp only [List.getElem?_cons_zero, Option.some.injEq] at hu; rw [← hu]; exact k0
  | 1, hu =>
    simp only [List.getElem?_cons_succ, List.getElem?_cons_zero, Option.some.injEq] at hu
    rw [← hu, ← Nat.add_assoc]; exact k1
  | i + 2, hu => simp at hu
theorem reps_flat {α : Type} {R : α → List Value → Prop} (f : α → Ln) (hR : ∀ p c, R p c → c = encL (f p)) (ps : List α) : ∀ cs : List Value, Reps R 2 ps cs → cs = (ps.map f).flatMap encL := by
  induction ps with
  | nil =>
    intro cs h
    have := h.1
    simp at this
    rw [this]; rfl
  | cons p ps ih =>
    intro cs h
    have h0 := hR _ _ (h.2 0 p rfl)
    rw [Nat.zero_mul, List.drop_zero] at h0
    have h1 : Reps R 2 ps (cs.drop 2) := ⟨by have := h.1; rw [List.length_cons] at this; rw [List.length_drop]; omega, fun j q hq => by
      have := h.2 (j + 1) q hq
      rw [List.drop_drop, show 2 + j * 2 = (j + 1) * 2 by omega]
      exact this⟩
    have h2 := ih _ h1
    rw [List.map_cons, List.flatMap_cons, ← h2, ← h0, List.take_append_drop]
theorem R_LRow {α : Type} (d : Go.Proofs.YtkmbjfgdjoanjaaW.PrintWords.Kd α) (f : α → Ln) (hsz : d.sz = 2) (hop : ∀ {w : World} {base : Nat} {ok : Nat → Prop} {x : α} {cs : List Value}, d.M w base ok x cs → cs = encL (f x)) {w : World} {e base : Nat} {ok : Nat → Prop} {v : Value} {xs : List α} (h : d.R e w base ok v xs) : LRow w e base v (xs.map f) := by
  obtain ⟨_, inner, ho, hr⟩ := h
  rw [hsz] at ho hr
  have := reps_flat f (fun p c hp => hop hp) xs inner hr
  unfold LRow
  rw [List.length_map, ← this]
  exact ho
def sW (p : Ln) : S52 := ⟨p.1, p.2⟩
def sP (p : Ln) : S81 := ⟨p.1, p.2⟩
def sR (p : Ln) : S82 := ⟨p.1, p.2⟩
def uW (x : S52) : Ln := (x.f0, x.f1)
def uP (x : S81) : Ln := (x.f0, x.f1)
def uR (x : S82) : Ln := (x.f0, x.f1)
theorem nat_or1 (a : Nat) : a ||| 1 = 2 * (a / 2) + 1 := by
  have h := Nat.two_pow_add_eq_or_of_lt (i := 1) (b := 1) (by decide) (a / 2)
  have h0 := Nat.two_pow_add_eq_or_of_lt (i := 1) (b := a % 2) (Nat.mod_lt _ (by decide)) (a / 2)
  have e : 2 ^ 1 * (a / 2) + a % 2 = a := by rw [Nat.pow_one]; exact Nat.div_add_mod a 2
  rw [e] at h0
  rw [Nat.pow_one] at h
  rcases Nat.mod_two_eq_zero_or_one a with hm | hm
  · rw [hm, Nat.pow_one, Nat.or_zero] at h0
    rw [h, ← h0]
  · rw [hm, Nat.pow_one] at h0
    conv => lhs; rw [h0]
    rw [Nat.or_assoc, Nat.or_self, h]
theorem or1 (t : Int) (h0 : -9223372036854775808 ≤ t) (h1 : t < 9223372036854775808) : Go.bits .or .i64 t 1 = 2 * (t / 2) + 1 := by
  unfold Go.bits
  show IntKind.i64.wrap (((BitVec.ofInt 64 t ||| BitVec.ofInt 64 1).toNat : Nat) : Int) = _
  rw [BitVec.toNat_or, BitVec.toNat_ofInt, BitVec.toNat_ofInt, show ((1 : Int) % ((2 ^ 64 : Nat) : Int)).toNat = 1 from by decide, nat_or1, IntKind.wrap_i64]
  have h2 : ((2 ^ 64 : Nat) : Int) = 18446744073709551616 := by decide
  rw [h2]
  omega
def ev1 (p : Ln) : Ln := (1 + (max 0 p.1) % 5, 2 * (Int.tmod p.2 1000000 / 2) + 1)
theorem ev1_bound (p : Ln) : (1 ≤ (ev1 p).1 ∧ (ev1 p).1 ≤ 5) ∧ -1000001 ≤ (ev1 p).2 ∧ (ev1 p).2 ≤ 1000001 ∧ (ev1 p).2 % 2 = 1 := by
  unfold ev1
  simp only
  have h1 : -1000000 < Int.tmod p.2 1000000 := Int.lt_tmod_of_pos _ (by decide)
  have h2 : Int.tmod p.2 1000000 < 1000000 := Int.tmod_lt_of_pos _ (by decide)
  omega
def evenL (xs : List Ln) : List Ln := if allS ((xs.take 7).map ev1) ≠ 0 ∨ ((xs.take 7).map ev1).length < 2 then (xs.take 7).map ev1 ++ [(5, -allS ((xs.take 7).map ev1))] else (xs.take 7).map ev1
theorem allS_snoc (ys : List Ln) (p : Ln) : allS (ys ++ [p]) = allS ys + p.2 := by
  unfold allS
  rw [List.map_append]
  induction ys.map (·.2) with
  | nil => simp
  | cons x l ih => rw [List.cons_append, List.sum_cons, List.sum_cons, ih]; omega
theorem evS_bound (zs : List Ln) : -(zs.length * 1000001 : Int) ≤ allS (zs.map ev1) ∧ allS (zs.map ev1) ≤ zs.length * 1000001 := by
  induction zs with
  | nil => simp [allS]
  | cons z zs ih =>
    have := ev1_bound z
    unfold allS at ih ⊢
    rw [List.map_cons, List.map_cons, List.sum_cons, List.length_cons]
    omega
theorem even_l0 (zs : List Ln) (hz : zs.length ≤ 7) (d : Nat) : ∀ (k i : Nat), i + d = zs.length → d < k →
    tillrolllaw22_even.l0 k (((zs.take i).map ev1).map sW) (allS ((zs.take i).map ev1)) (zs.map sW) (zs.length : Int) (i : Int) = some ((if allS (zs.map ev1) ≠ 0 ∨ (zs.map ev1).length < 2 then zs.map ev1 ++ [(5, -allS (zs.map ev1))] else zs.map ev1).map sW) := by
  induction d with
  | zero =>
    intro k i h hk
    obtain ⟨k, rfl⟩ : ∃ m, k = m + 1 := ⟨k - 1, by omega⟩
    obtain rfl : i = zs.length := by omega
    rw [List.take_length]
    have hb := evS_bound zs
    simp only [tillrolllaw22_even.l0]
    rw [if_neg (by omega)]
    have hl : ((zs.map ev1).map sW).length < 8796093022208 := by rw [List.length_map, List.length_map]; omega
    have hw : wrap64 (-allS (zs.map ev1)) = -allS (zs.map ev1) := by unfold wrap64; omega
    by_cases h0 : allS (zs.map ev1) = 0
    · rw [if_pos h0]
      by_cases h2 : (zs.map ev1).length < 2
      · rw [if_pos (by rw [List.length_map]; omega), if_pos hl, if_pos (.inr h2), hw, List.map_append]; rfl
      · rw [if_neg (by rw [List.length_map]; omega), if_neg (by rintro (h | h); exact h h0; exact h2 h)]
    · rw [if_neg h0, if_pos hl, if_pos (.inl h0), hw, List.map_append]; rfl
  | succ d ih =>
    intro k i h hk
    obtain ⟨k, rfl⟩ : ∃ m, k = m + 1 := ⟨k - 1, by omega⟩
    have hi : i < zs.length := by omega
    have hrd : rd_T52 (zs.map sW) (i : Int) = sW zs[i] := by
      unfold rd_T52
      rw [Int.toNat_natCast, List.getD_eq_getElem?_getD, List.getElem?_map, List.getElem?_eq_getElem hi]
      rfl
    have ht : zs.take (i + 1) = zs.take i ++ [zs[i]] := List.take_succ_eq_append_getElem hi
    have hb := evS_bound (zs.take (i + 1))
    have hbl : (zs.take (i + 1)).length ≤ 7 := by rw [List.length_take]; omega
    have h1 : -1000000 < Int.tmod zs[i].2 1000000 := Int.lt_tmod_of_pos _ (by decide)
    have h2 : Int.tmod zs[i].2 1000000 < 1000000 := Int.tmod_lt_of_pos _ (by decide)
    have hor : Go.bits .or .i64 (Int.tmod (sW zs[i]).f1 1000000) 1 = (ev1 zs[i]).2 := or1 _ (by show _ ≤ Int.tmod zs[i].2 1000000; omega) (by show Int.tmod zs[i].2 1000000 < _; omega)
    have hmx : 1 + (mx 0 (sW zs[i]).f0) % 5 = (ev1 zs[i]).1 := by
      show 1 + (mx 0 zs[i].1) % 5 = 1 + (max 0 zs[i].1) % 5
      have : mx 0 zs[i].1 = max 0 zs[i].1 := by unfold mx; omega
      rw [this]
    simp only [tillrolllaw22_even.l0]
    rw [if_pos (by omega), if_pos (by omega), if_pos (by rw [List.length_map]; omega), if_pos (by rw [List.length_map, List.length_map, List.length_take]; omega), hrd, hor, hmx]
    have e1 : ((zs.take i).map ev1).map sW ++ [(⟨(ev1 zs[i]).1, (ev1 zs[i]).2⟩ : S52)] = ((zs.take (i + 1)).map ev1).map sW := by
      rw [ht, List.map_append, List.map_append]; rfl
    have e2 : allS ((zs.take i).map ev1) + (ev1 zs[i]).2 = allS ((zs.take (i + 1)).map ev1) := by
      rw [ht, List.map_append, List.map_cons, List.map_nil, allS_snoc]
    rw [e1, e2, show wrap64 (allS ((zs.take (i + 1)).map ev1)) = allS ((zs.take (i + 1)).map ev1) by unfold wrap64; omega, show wrap64 ((i : Int) + 1) = ((i + 1 : Nat) : Int) by unfold wrap64; omega]
    exact ih k (i + 1) (by omega) (by omega)
theorem even_f (xs : List Ln) (k : Nat) (hk : 10 < k) : tillrolllaw22_even.f k (xs.map sW) = some ((evenL xs).map sW) := by
  unfold tillrolllaw22_even.f
  have hm : mn (((xs.map sW).length : Nat) : Int) 7 = (((xs.take 7).length : Nat) : Int) := by
    rw [List.length_map, List.length_take]; unfold mn; omega
  have hl : (xs.take 7).length ≤ 7 := by rw [List.length_take]; omega
  have hl2 : (xs.take 7).length ≤ xs.length := by rw [List.length_take]; omega
  rw [hm, if_pos (by omega), if_pos (by rw [List.length_map]; omega), Int.toNat_natCast, Option.bind_some, ← List.map_take]
  have ht : xs.take (xs.take 7).length = xs.take 7 := by rw [List.length_take, ← List.take_eq_take_min]
  rw [ht, List.length_map]
  have := even_l0 (xs.take 7) hl (xs.take 7).length k 0 (by omega) (by omega)
  rw [List.take_zero] at this
  exact this
theorem even_ok (a : Option Addr) (xs : List Ln) (cap : Nat) (hcap : xs.length ≤ cap ∧ cap ≤ maxLen) (w : World) (h : LnsAt w a xs) :
    Calls Try.prog 8 #[.slice a xs.length cap] w fun e w' => ∃ v, e = .returned v ∧ LRow w' 52 w.heap.size v (evenL xs) ∧ Below w.heap.size w w' := by
  have hcon := tillrolllaw22_even.calls 20 a cap (xs.map sW) _ w (by rw [List.length_map]; exact lns_C k52 sW rfl (fun w p => k52_mk w (sW p)) h (Nat.le_trans hcap.1 hcap.2)) (by rw [List.length_map]; exact hcap.1) (even_f xs 20 (by decide))
  rw [List.length_map] at hcon
  refine hcon.mono ?_
  rintro e w' ⟨v, rfl, hr, hb⟩
  refine ⟨v, rfl, ?_, hb⟩
  have := R_LRow k52 uW rfl (fun hM => k52_openM hM) hr
  rw [List.map_map] at this
  rwa [show uW ∘ sW = id from rfl, List.map_id] at this
theorem same_l0 (xs ys : List Ln) (hx : xs.length ≤ 1000) (hxy : xs.length = ys.length) (d : Nat) : ∀ (k i : Nat), i + d = xs.length → d < k →
    tillrolllaw22_same.l0 k (xs.map sP) (ys.map sR) (xs.length : Int) (i : Int) = some (decide (xs.drop i = ys.drop i)) := by
  induction d with
  | zero =>
    intro k i h hk
    obtain ⟨k, rfl⟩ : ∃ m, k = m + 1 := ⟨k - 1, by omega⟩
    simp only [tillrolllaw22_same.l0]
    rw [if_neg (by omega), List.drop_of_length_le (by omega), List.drop_of_length_le (by omega)]
    rfl
  | succ d ih =>
    intro k i h hk
    obtain ⟨k, rfl⟩ : ∃ m, k = m + 1 := ⟨k - 1, by omega⟩
    have hi : i < xs.length := by omega
    have hi2 : i < ys.length := by omega
    have hrd : rd_T81 (xs.map sP) (i : Int) = sP xs[i] := by
      unfold rd_T81
      rw [Int.toNat_natCast, List.getD_eq_getElem?_getD, List.getElem?_map, List.getElem?_eq_getElem hi]
      rfl
    have hrd2 : rd_T82 (ys.map sR) (i : Int) = sR ys[i] := by
      unfold rd_T82
      rw [Int.toNat_natCast, List.getD_eq_getElem?_getD, List.getElem?_map, List.getElem?_eq_getElem hi2]
      rfl
    simp only [tillrolllaw22_same.l0]
    rw [if_pos (by omega), if_pos (by omega), if_pos (by rw [List.length_map]; omega), if_pos (by rw [List.length_map]; omega), hrd, hrd2]
    have key : (xs.drop i = ys.drop i) ↔ (xs[i] = ys[i] ∧ xs.drop (i + 1) = ys.drop (i + 1)) := by
      rw [List.drop_eq_getElem_cons hi, List.drop_eq_getElem_cons hi2, List.cons.injEq]
    show (if xs[i].1 = ys[i].1 then (if xs[i].2 = ys[i].2 then _ else _) else _) = _
    by_cases h1 : xs[i].1 = ys[i].1
    · rw [if_pos h1]
      by_cases h2 : xs[i].2 = ys[i].2
      · rw [if_pos h2, show wrap64 ((i : Int) + 1) = ((i + 1 : Nat) : Int) by unfold wrap64; omega, ih k (i + 1) (by omega) (by omega)]
        have : xs[i] = ys[i] := Prod.ext h1 h2
        exact congrArg some (decide_eq_decide.2 (by rw [key]; exact ⟨fun h => ⟨this, h⟩, fun h => h.2⟩))
      · rw [if_neg h2]
        have : ¬ xs[i] = ys[i] := fun e => h2 (by rw [e])
        exact congrArg some (decide_eq_false (fun h => this (key.1 h).1)).symm
    · rw [if_neg h1]
      have : ¬ xs[i] = ys[i] := fun e => h1 (by rw [e])
      exact congrArg some (decide_eq_false (fun h => this (key.1 h).1)).symm
theorem same_f (xs ys : List Ln) (hx : xs.length ≤ 1000) (k : Nat) (hk : 1000 < k) : tillrolllaw22_same.f k (xs.map sP) (ys.map sR) = some (decide (xs = ys)) := by
  unfold tillrolllaw22_same.f
  rw [List.length_map, List.length_map]
  by_cases h : xs.length = ys.length
  · rw [if_pos (by omega)]
    exact same_l0 xs ys hx h xs.length k 0 (by omega) (by omega)
  · rw [if_neg (by omega)]
    have : ¬ xs = ys := fun e => h (by rw [e])
    simp [this]
theorem same_ok (xs ys : List Ln) (hx : xs.length ≤ 1000) {E B E' B' : Nat} {v u : Value} {w : World} (h : LRow w E B v xs) (h' : LRow w E' B' u ys) :
    Calls Try.prog 14 #[v, u] w fun e w' => e = .returned (.bool (decide (xs = ys))) ∧ Drawn0 w w' := by
  obtain ⟨a, c, rfl, hc, ha⟩ := h.at'
  obtain ⟨a', c', rfl, hc', ha'⟩ := h'.at'
  have hcon := tillrolllaw22_same.calls 2000 a c (xs.map sP) a' c' (ys.map sR) _ w (by rw [List.length_map]; exact lns_C k81 sP rfl (fun w p => k81_mk w (sP p)) ha (Nat.le_trans hc.1 hc.2)) (by rw [List.length_map]; exact hc.1) (by rw [List.length_map]; exact lns_C k82 sR rfl (fun w p => k82_mk w (sR p)) ha' (Nat.le_trans hc'.1 hc'.2)) (by rw [List.length_map]; exact hc'.1) (same_f xs ys hx 2000 (by decide))
  rw [List.length_map, List.length_map] at hcon
  exact hcon
end Go.Proofs.Ytkmbjfgdjoanjaa
