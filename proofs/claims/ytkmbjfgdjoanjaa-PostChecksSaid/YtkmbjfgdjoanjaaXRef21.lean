/- The document's chart: Add of an account behind all others, named "x" of kind 1. No conditions beyond the form's own reach. -/
import Derived.Test.YtkmbjfgdjoanjaaXPostE
import Derived.Test.YtkmbjfgdjoanjaaPx1
namespace Go.Proofs.Ytkmbjfgdjoanjaa
open Go.RowKit Go.Lib Go.Proofs.Ytkmbjfgdjoanjaa.P Go.Proofs.YtkmbjfgdjoanjaaW.PrintWords Go.Proofs.YtkmbjfgdjoanjaaW.PrintLast Go.Proofs.YtkmbjfgdjoanjaaW.PrintMore
set_option linter.unusedVariables false
set_option linter.unusedSimpArgs false
--@tables
abbrev Ac := Int × Int × ByteArray
def encA3 (a : Ac) : List Value := [.int .i64 a.1, .int .u8 a.2.1, .string a.2.2]
theorem encA3_len (a : Ac) : (encA3 a).length = 3 := rfl
def ARow (w : World) (B : Nat) (v : Value) (xs : List Ac) : Prop := w.ownsRow B 79 3 v xs.length (xs.flatMap encA3)
theorem ARow.form {w : World} {B : Nat} {v : Value} {xs : List Ac} (h : ARow w B v xs) : ∃ a c, v = .slice a xs.length c := own_slice h
theorem ARow.below {w w' : World} {B : Nat} {v : Value} {xs : List Ac} (h : ARow w B v xs) (hb : Below w.heap.size w w') : ARow w' B v xs := pw_own_below h hb
theorem ARow.s {w : World} {B : Nat} {v : Value} {xs : List Ac} (h : ARow w B v xs) : RowS encA3 w v xs := RowS.of_owns h
theorem a3_cells {w : World} {b T : Nat} {u0 u1 u2 : Value} (h : w.heap[b]? = some (.cells #[u0, u1, u2] T (0, 0))) : w.cell? ⟨b, 0, none⟩ = some u0 ∧ w.cell? ⟨b, 1, none⟩ = some u1 ∧ w.cell? ⟨b, 2, none⟩ = some u2 := by
  refine ⟨?_, ?_, ?_⟩ <;> (unfold World.cell?; rw [h]; rfl)
theorem a3_info : (Try.prog.info? 79).map (fun i => (i.zero, i.size, i.bytes)) = some (some (.agg #[.int .i64 0, .int .u8 0, .string ByteArray.empty]), 3, 32) := by kernel_rfl
theorem a_add (ty B : Nat) (v : Value) (xs : List Ac) (n : Nat) (hn : xs.length = n) (w : World) (h : ARow w B v xs) (hl : n ≤ 1000) (x : Ac) (bN : Nat) (hN : w.heap[bN]? = some (.cells #[.int .i64 x.1, .int .u8 x.2.1, .string x.2.2] 79 (0, 0))) (hB : B ≤ w.heap.size) :
    ∃ a c w', (Builtin.append_ #[24, 24] ty #[v, .slice (some ⟨bN, 0, none⟩) 1 1]).run Try.prog w = .ok (.slice a (n + 1) c) w' ∧ ARow w' B (.slice a (n + 1) c) (xs ++ [x]) ∧ w.grownBy w' v.ownBlock := by
  subst hn
  obtain ⟨i0, hi, hz0, hz1, hz2⟩ := info_parts a3_info
  obtain ⟨c0, c1, c2⟩ := a3_cells hN
  obtain ⟨v', w', hr, ho, hg, _⟩ := run_append_own w (P := Try.prog) B 24 ty 79 i0 (.agg #[.int .i64 0, .int .u8 0, .string ByteArray.empty]) 3 32 Try.underlying24 hi hz0 hz1 hz2 rfl (by decide) v xs.length (xs.flatMap encA3) h ⟨bN, 0, none⟩ 1 1 (encA3 x) rfl (fun j u hu => by
    rw [Addr.add_lit, Nat.zero_add]
    match j, hu with
    | 0, hu => simp [encA3] at hu; rw [← hu]; exact c0
    | 1, hu => simp [encA3] at hu; rw [← hu]; exact c1
    | 2, hu => simp [encA3] at hu; rw [← hu]; exact c2
    | j + 3, hu => simp [encA3] at hu) (fun u hu => by
      simp only [encA3, List.mem_cons, List.not_mem_nil, or_false] at hu
      obtain rfl | rfl | rfl := hu <;> rfl) (by unfold maxLen; omega) (by omega) hB
  obtain ⟨a, c, rfl⟩ := own_slice ho
  refine ⟨a, c, w', hr, ?_, hg⟩
  unfold ARow
  rw [List.length_append, List.flatMap_append]
  simpa using ho
theorem a_at {w : World} {v : Value} {xs : List Ac} (h : RowS encA3 w v xs) (j : Nat) (hj : j < xs.length) : ∃ g off cap, v = .slice (some ⟨g, off, none⟩) xs.length cap ∧ w.cell? ⟨g, off + j * 3, none⟩ = some (.int .i64 xs[j].1) ∧ w.cell? ⟨g, off + j * 3 + 1, none⟩ = some (.int .u8 xs[j].2.1) ∧ w.cell? ⟨g, off + j * 3 + 2, none⟩ = some (.string xs[j].2.2) := by
  rcases h with ⟨_, rfl⟩ | ⟨g, off, cap, h1, _, _, _, h5⟩
  · exact absurd hj (Nat.not_lt_zero _)
  · refine ⟨g, off, cap, h1, ?_, ?_, ?_⟩
    · exact h5 (j * 3 + 0) _ (flat_get encA3 3 encA3_len xs j 0 hj (by decide))
    · have := h5 (j * 3 + 1) _ (flat_get encA3 3 encA3_len xs j 1 hj (by decide))
      rw [← Nat.add_assoc] at this
      exact this
    · have := h5 (j * 3 + 2) _ (flat_get encA3 3 encA3_len xs j 2 hj (by decide))
      rw [← Nat.add_assoc] at this
      exact this
def s79 (a : Ac) : S79 := ⟨a.1, a.2.1, a.2.2⟩
/-- A row in the printed functions' words. -/
theorem a_C {w : World} {v : Value} {xs : List Ac} (h : RowS encA3 w v xs) : ∃ A c, v = .slice A xs.length c ∧ xs.length ≤ c ∧ Kd.C k79 w A xs.length (xs.map s79) := by
  rcases h with ⟨rfl, rfl⟩ | ⟨g, off, cap, h1, h2, h3, _, h5⟩
  · exact ⟨none, 0, rfl, Nat.le_refl _, rfl, by decide, fun h => absurd h (Nat.lt_irrefl _)⟩
  · refine ⟨_, cap, h1, h2, List.length_map _, by unfold maxLen at h3; omega, fun hn => ⟨⟨g, off, none⟩, rfl, fun j p hj => ?_⟩⟩
    rw [List.getElem?_map] at hj
    obtain ⟨q, hq, rfl⟩ := Option.map_eq_some_iff.1 hj
    obtain ⟨hj', rfl⟩ := List.getElem?_eq_some_iff.1 hq
    refine ⟨encA3 xs[j], rfl, k79_mk w (s79 xs[j]), fun i u hu => ?_⟩
    have hi : i < 3 := (List.getElem?_eq_some_iff.1 hu).1
    rw [Addr.add_lit]
    exact h5 (j * 3 + i) u (by rw [flat_get encA3 3 encA3_len xs j i hj' hi]; exact hu)
def fnd : List Ac → Int → Nat → Int
  | [], _, _ => -1
  | x :: xs, a, i => if x.1 = a then (i : Int) else fnd xs a (i + 1)
theorem find_l0 (l : List Ac) (hl : l.length ≤ 1000) (a : Int) (d : Nat) : ∀ (k i : Nat), i + d = l.length → d < k → tillrollref21_Find.l0 k (l.map s79) a (i : Int) = some (fnd (l.drop i) a i) := by
  induction d with
  | zero =>
    intro k i h hk
    obtain ⟨k, rfl⟩ : ∃ m, k = m + 1 := ⟨k - 1, by omega⟩
    simp only [tillrollref21_Find.l0]
    rw [if_neg (by rw [List.length_map]; omega), List.drop_of_length_le (by omega)]
    rfl
  | succ d ih =>
    intro k i h hk
    obtain ⟨k, rfl⟩ : ∃ m, k = m + 1 := ⟨k - 1, by omega⟩
    have hi : i < l.length := by omega
    simp only [tillrollref21_Find.l0]
    have hrd : rd_T79 (l.map s79) (i : Int) = s79 l[i] := by
      unfold rd_T79
      rw [Int.toNat_natCast, List.getD_eq_getElem?_getD, List.getElem?_map, List.getElem?_eq_getElem hi]
      rfl
    rw [if_pos (by rw [List.length_map]; omega), if_pos (by omega), hrd, List.drop_eq_getElem_cons hi]
    unfold fnd
    show (if l[i].1 = a then _ else _) = _
    by_cases hc : l[i].1 = a
    · rw [if_pos hc, if_pos hc]
    · rw [if_neg hc, if_neg hc, show wrap64 ((i : Int) + 1) = ((i + 1 : Nat) : Int) by unfold wrap64; omega]
      exact ih k (i + 1) (by omega) (by omega)
theorem find_f (l : List Ac) (hl : l.length ≤ 1000) (a : Int) (k : Nat) (hk : 1000 < k) : tillrollref21_Find.f k (l.map s79) a = some (fnd l a 0) := find_l0 l hl a l.length k 0 (by omega) (by omega)
theorem fnd_none (l : List Ac) (a : Int) (h : ∀ x ∈ l, x.1 < a) : ∀ i, fnd l a i = -1 := by
  induction l with
  | nil => intro i; rfl
  | cons x l ih =>
    intro i
    unfold fnd
    have := h x List.mem_cons_self
    rw [if_neg (by omega)]
    exact ih (fun y hy => h y (List.mem_cons_of_mem _ hy)) _
set_option maxHeartbeats 4000000 in
theorem rright_x (k : Int) (h1 : 1 ≤ k) (h2 : k ≤ 65535) (w : World) :
    Calls Try.prog 43 #[.agg #[.int .i64 k, .int .u8 1, .string { data := #[120] }]] w fun e w' => e = .returned (.bool true) ∧ Below w.heap.size w w' := by
  have d1 : decide (k < 1) = false := decide_eq_false (by omega)
  have d2 : decide (65535 < k) = false := decide_eq_false (by omega)
  have HB := Lib.hid (below_alloc (Below.refl w.heap.size w) (.cells #[.int .i64 k, .int .u8 1, .string { data := #[120] }] 79))
  have HX := Lib.hid (heap_alloc_new w (.cells #[.int .i64 k, .int .u8 1, .string { data := #[120] }] 79))
  go_enter Try.func43, Try.ntmps43
  go_wp2_with fail
  clear d1 d2
  generalize w.alloc (.cells #[.int .i64 k, .int .u8 1, .string { data := #[120] }] 79) = w1 at HB HX ⊢
  generalize hb : w.heap.size = b at HX ⊢
  have HBs := Lib.hid hb; clear hb
  go_loopw [3] (fun i wr => ∃ p : Nat, p ≤ 1 ∧ i = .int .i64 (p : Int) ∧ wr = w1) (fun i wr => 1 - (RowKit.intOf i).toNat)
  case atStart => exact ⟨0, by decide, rfl, by first | rfl | trivial⟩
  case round =>
    obtain ⟨p, hp, rfl, rfl⟩ := hrel
    obtain ⟨x0, x1, x2⟩ := a3_cells HX.out
    rcases (by omega : p = 0 ∨ p = 1) with rfl | rfl
    · go_wp2
      go_roundw
      case rel => exact ⟨1, by decide, rfl, by first | rfl | trivial⟩
      case measure => decide
    · go_wp2
      go_ret
      exact ⟨rfl, HB.out⟩
end Go.Proofs.Ytkmbjfgdjoanjaa
