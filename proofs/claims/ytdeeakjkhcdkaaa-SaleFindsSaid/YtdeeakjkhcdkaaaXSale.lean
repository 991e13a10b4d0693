/- sale: what a register holds; within, back, find. No conditions beyond those that are written. -/
import Derived.Test.YtdeeakjkhcdkaaaProg
import Derived.Test.YtdeeakjkhcdkaaaXOwnRow
import Derived.Test.YtdeeakjkhcdkaaaWLast
import Derived.Test.YtdeeakjkhcdkaaaWMore
import Derived.Test.YtdeeakjkhcdkaaaWTab
import Derived.Deep.LoopGhost
import Derived.Deep.QuietTactic
import Derived.BigQuiet
import Derived.Lib.Walk
import Derived.Lib.SliceRun
import Derived.OwnWalk
import Derived.WalkKit
import Derived.Laws.MakeOwn
import Derived.Lib.SlicesS
import Derived.Laws.AppendOwnNone
namespace Go.Proofs.Ytdeeakjkhcdkaaa
open Go.RowKit Go.Lib Go.Proofs.YtdeeakjkhcdkaaaW.PrintWords Go.Proofs.YtdeeakjkhcdkaaaW.PrintLast Go.Proofs.YtdeeakjkhcdkaaaW.PrintMore
set_option linter.unusedVariables false
set_option linter.unusedSimpArgs false
--@tables
/-- A line; a transaction. -/
structure LN where
  acc : Int
  amt : Int
structure TP where
  num : Int
  kind : Int
  shift : Int
  ref : Int
  amount : Int
  left : Int
  void : Bool
  ls : List LN
def encL (l : LN) : List Value := [.int .i64 l.acc, .int .i64 l.amt]
theorem encL_len (l : LN) : (encL l).length = 2 := rfl
theorem encL_one : ∀ l : LN, ∀ u ∈ encL l, u.oneCell' = true := by
  intro l u hu
  simp only [encL, List.mem_cons, List.not_mem_nil, or_false] at hu
  obtain rfl | rfl := hu <;> rfl
theorem ln_info : (Try.prog.info? 58).map (fun i => (i.zero, i.size, i.bytes)) = some (some (.agg #[.int .i64 0, .int .i64 0]), 2, 16) := by kernel_rfl
/-- A transaction's cells, its lines where v says. -/
def cellsT (t : TP) (v : Value) : List Value := [.int .i64 t.num, .int .u8 t.kind, .int .i64 t.shift, .int .i64 t.ref, .int .i64 t.amount, .int .i64 t.left, .bool t.void, v]
def aggT (t : TP) (v : Value) : Value := .agg #[.int .i64 t.num, .int .u8 t.kind, .int .i64 t.shift, .int .i64 t.ref, .int .i64 t.amount, .int .i64 t.left, .bool t.void, v]
/-- A slice value is a cell. -/
def isSl (v : Value) : Value := match v with | .slice a n c => .slice a n c | _ => .slice none 0 0
def encT (x : TP × Value) : List Value := cellsT x.1 (isSl x.2)
theorem encT_len (x : TP × Value) : (encT x).length = 8 := rfl
theorem encT_one : ∀ x : TP × Value, ∀ u ∈ encT x, u.oneCell' = true := by
  intro x u hu
  simp only [encT, cellsT, List.mem_cons, List.not_mem_nil, or_false] at hu
  obtain rfl | rfl | rfl | rfl | rfl | rfl | rfl | rfl := hu
  all_goals first | rfl | (unfold isSl; split <;> rfl)
theorem tx_info : (Try.prog.info? 37).map (fun i => (i.zero, i.size, i.bytes)) = some (some (.agg #[.int .i64 0, .int .u8 0, .int .i64 0, .int .i64 0, .int .i64 0, .int .i64 0, .bool false, .slice none 0 0]), 8, 80) := by kernel_rfl
/-- The lines of a transaction, in a row of the caller's. -/
def LinesAt (w : World) (base : Nat) (x : TP × Value) : Prop := RowO encL 2 58 w base x.2 x.1.ls
theorem LinesAt.sl {w : World} {base : Nat} {x : TP × Value} (h : LinesAt w base x) : isSl x.2 = x.2 := by
  obtain ⟨a, c, h⟩ := RowO.form h
  rw [h]; rfl
/-- A register in a block g, its row v, its transactions xs (each with the row of its lines). -/
structure RegV (w : World) (base g : Nat) (v : Value) (keep next : Nat) (xs : List (TP × Value)) : Prop where
  low : base ≤ g
  box : w.heap[g]? = some (.cells #[.int .i64 (keep : Int), .int .i64 (next : Int), v] 88 (0, 0))
  row : RowO encT 8 37 w base v xs
  lines : ∀ x ∈ xs, LinesAt w base x
  k1 : 1 ≤ keep
  k2 : keep ≤ 512
  n1 : xs.length < next
  n2 : next ≤ 4294967296
  len : xs.length ≤ keep
  lf : ∀ x ∈ xs, 0 ≤ x.1.left ∧ x.1.left ≤ 4611686018427387904
  ll : ∀ x ∈ xs, x.1.ls.length ≤ 8
theorem RegV.below {w w' : World} {base g : Nat} {v : Value} {keep next : Nat} {xs : List (TP × Value)} (h : RegV w base g v keep next xs) (hb : Below w.heap.size w w') : RegV w' base g v keep next xs :=
  { h with box := blk_below h.box hb, row := h.row.below hb, lines := fun x hx => (h.lines x hx).below hb }
theorem RegV.lt {w : World} {base g : Nat} {v : Value} {keep next : Nat} {xs : List (TP × Value)} (h : RegV w base g v keep next xs) : g < w.heap.size := blk_lt h.box
theorem RegV.sl {w : World} {base g : Nat} {v : Value} {keep next : Nat} {xs : List (TP × Value)} (h : RegV w base g v keep next xs) : ∃ a c, v = .slice a xs.length c := h.row.form
theorem RegV.cells {w : World} {base g : Nat} {v : Value} {keep next : Nat} {xs : List (TP × Value)} (h : RegV w base g v keep next xs) : w.cell? ⟨g, 0, none⟩ = some (.int .i64 (keep : Int)) ∧ w.cell? ⟨g, 1, none⟩ = some (.int .i64 (next : Int)) ∧ w.cell? ⟨g, 2, none⟩ = some v :=
  ⟨cell_of_row w g 0 _ _ (0, 0) h.box, cell_of_row w g 1 _ _ (0, 0) h.box, cell_of_row w g 2 _ _ (0, 0) h.box⟩

/-- 'within'. -/
def inR (n lo hi : Int) : Bool := decide (lo ≤ n) && decide (n ≤ hi)
theorem within_ok (n lo hi : Int) (w : World) : Calls Try.prog 27 #[.int .i64 n, .int .i64 lo, .int .i64 hi] w fun e w' => e = .returned (.bool (inR n lo hi)) ∧ w = w' := by
  unfold inR
  by_cases h1 : lo ≤ n
  · rw [decide_eq_true h1, Bool.true_and]
    have a1 : decide (lo ≤ n) = true := decide_eq_true h1
    go_enter Try.func27, Try.ntmps27
    go_wp2
    go_ret
    exact ⟨rfl, rfl⟩
  · rw [decide_eq_false h1, Bool.false_and]
    have a1 : decide (lo ≤ n) = false := decide_eq_false h1
    go_enter Try.func27, Try.ntmps27
    go_wp2
    go_ret
    exact ⟨rfl, rfl⟩
def backK (k : Int) : Bool := decide (k = 2) || decide (k = 3)
theorem back_ok (k : Int) (w : World) : Calls Try.prog 36 #[.int .u8 k] w fun e w' => e = .returned (.bool (backK k)) ∧ w = w' := by
  unfold backK
  by_cases h1 : k = 2
  · subst h1
    go_enter Try.func36, Try.ntmps36
    go_wp2
    go_ret
    exact ⟨rfl, rfl⟩
  · have a1 : (k == 2) = false := by simpa using h1
    by_cases h2 : k = 3
    · subst h2
      go_enter Try.func36, Try.ntmps36
      go_wp2
      go_ret
      exact ⟨rfl, rfl⟩
    · have a2 : (k == 3) = false := by simpa using h2
      rw [decide_eq_false h1, decide_eq_false h2]
      go_enter Try.func36, Try.ntmps36
      go_wp2
      go_ret
      exact ⟨rfl, rfl⟩

theorem find_nil (n : Int) (w : World) : Calls Try.prog 31 #[.pointer none, .int .i64 n] w fun e w' => e = .returned (.pointer none) ∧ Drawn0 w w' := by
  go_enter Try.func31, Try.ntmps31
  go_wp2_with fail
  go_quiet (fail)
  go_wp2
  go_ret
  exact ⟨rfl, (Drawn0.refl _).step _⟩
set_option maxHeartbeats 2000000 in
/-- The kept transaction of a number: there is none. -/
theorem find_none {base g : Nat} {v : Value} {keep next : Nat} {xs : List (TP × Value)} (n : Int) (w : World) (h : RegV w base g v keep next xs) (hn : (next : Int) ≤ n ∨ n < (next : Int) - (xs.length : Int)) :
    Calls Try.prog 31 #[.pointer (some ⟨g, 0, none⟩), .int .i64 n] w fun e w' => e = .returned (.pointer none) ∧ Drawn0 w w' := by
  obtain ⟨a, c, rfl⟩ := h.sl
  obtain ⟨c0, c1, c2⟩ := h.cells
  have h1 := h.n1
  have h2 := h.n2
  clear h
  by_cases hq : (next : Int) ≤ n
  · have a1 : decide ((next : Int) ≤ n) = true := decide_eq_true hq
    clear hn
    go_enter Try.func31, Try.ntmps31
    go_wp2_with fail
    go_quiet (fail)
    go_wp2
    go_ret
    exact ⟨rfl, (Drawn0.refl _).step _⟩
  · have a1 : decide ((next : Int) ≤ n) = false := decide_eq_false hq
    have a2 : wrap64 ((next : Int) - (xs.length : Int)) = (next : Int) - (xs.length : Int) := by unfold wrap64; omega
    have a3 : decide (n < (next : Int) - (xs.length : Int)) = true := decide_eq_true (by omega)
    have a4 : IntKind.i64.wrap ((next : Int) - (xs.length : Int)) = (next : Int) - (xs.length : Int) := by rw [IntKind.wrap_i64]; omega
    clear hn hq h1 h2
    go_enter Try.func31, Try.ntmps31
    go_wp2_with fail
    go_quiet (fail)
    go_wp2
    go_ret
    exact ⟨rfl, (Drawn0.refl _).step _⟩
set_option maxHeartbeats 2000000 in
/-- There is one: its place. -/
theorem find_some {base g : Nat} {a : Option Addr} {c len : Nat} {keep next : Nat} {xs : List (TP × Value)} (i : Nat) (hi : i < xs.length) (n : Int) (w : World) (h : RegV w base g (.slice a len c) keep next xs) (hn : n = (next : Int) - (xs.length : Int) + (i : Int)) :
    Calls Try.prog 31 #[.pointer (some ⟨g, 0, none⟩), .int .i64 n] w fun e w' => ∃ gr off, a = some ⟨gr, off, none⟩ ∧ e = .returned (.pointer (some ⟨gr, off + i * 8, none⟩)) ∧ Drawn0 w w' := by
  obtain ⟨gr, off, cc, hv⟩ := h.row.form1 (by omega)
  simp only [Value.slice.injEq] at hv
  obtain ⟨rfl, rfl, rfl⟩ := hv
  obtain ⟨c0, c1, c2⟩ := h.cells
  have h1 := h.n1
  have h2 := h.n2
  have h3 := h.len
  have h4 := h.k2
  clear h
  have a1 : decide ((next : Int) ≤ n) = false := decide_eq_false (by omega)
  have a2 : wrap64 ((next : Int) - (xs.length : Int)) = (next : Int) - (xs.length : Int) := by unfold wrap64; omega
  have a3 : decide (n < (next : Int) - (xs.length : Int)) = false := decide_eq_false (by omega)
  have a4 : IntKind.i64.wrap ((next : Int) - (xs.length : Int)) = (next : Int) - (xs.length : Int) := by rw [IntKind.wrap_i64]; omega
  have a5 : IntKind.i64.wrap (n - ((next : Int) - (xs.length : Int))) = (i : Int) := by rw [IntKind.wrap_i64]; omega
  have a6 : wrap64 (n - ((next : Int) - (xs.length : Int))) = (i : Int) := by unfold wrap64; omega
  have a7 : ((i : Int) < (xs.length : Int)) = True := eq_true (by omega)
  have a8 : (0 ≤ (i : Int)) = True := eq_true (by omega)
  clear hn h1 h2 h3 h4 hi
  go_enter Try.func31, Try.ntmps31
  go_wp2_with fail
  go_quiet (fail)
  go_wp2_with fail
  go_quiet (fail)
  go_wp2
  go_ret
  exact ⟨gr, off, rfl, rfl, ((Drawn0.refl _).step _).step _⟩
end Go.Proofs.Ytdeeakjkhcdkaaa
