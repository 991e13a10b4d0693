/- where: a map of logical pages in memory, and what each of its methods does. No conditions beyond the form's own reach. -/
import Derived.Test.YthapekmdnokniaaXMapV
import Derived.Test.YthapekmdnokniaaXWhereM
import Derived.Test.YthapekmdnokniaaWMore
import Derived.Test.YthapekmdnokniaaWTab
import Derived.Test.YthapekmdnokniaaWLast
import Derived.Test.YthapekmdnokniaaProg
import Derived.Lib.Hide
import Derived.Lib.BufferOwn
import Derived.DeepKeys4
namespace Go.Proofs.Ythapekmdnokniaa
open Go.RowKit Go.Lib Go.Maps Go.Proofs.YthapekmdnokniaaW.PrintWords Go.Proofs.YthapekmdnokniaaW.PrintLast Go.Proofs.YthapekmdnokniaaW.PrintMore
set_option linter.unusedVariables false
set_option linter.unusedSimpArgs false
--@tables
theorem laidOut : laidOutB Try.prog = true := by kernel_rfl
def ekP (p : Int × Int) : Value := .agg #[.int .i64 p.1, .int .i64 p.2]
def okP (p : Int × Int) : Prop := I64 p.1 ∧ I64 p.2
theorem place_wide : (match Try.prog.underlying 30 with | some (.array _ _) | some (.struct _) => true | _ => false) = true := by rw [Try.underlying30]
theorem place_law : WideMaps.KeyLaw Try.prog 30 := deep_law_laid laidOut (m := 3) (by omega) (of_decide_eq_true (by kernel_rfl)) (by kernel_rfl) place_wide
theorem place_keytype : Try.prog.keyType 30 = true := by kernel_rfl
theorem place_cells : Try.prog.cellsOf 30 = 2 := by kernel_rfl
theorem int_cells : Try.prog.cellsOf 3 = 1 := by kernel_rfl
theorem two_of {n : Nat} (h : 2 ≤ n) : ∃ m, n = m + 2 := ⟨n - 2, by omega⟩
theorem types_two : ∃ n, Try.prog.types.size = n + 2 := two_of (of_decide_eq_true (by kernel_rfl))
theorem place_lit (p : Int × Int) (h : okP p) : ∃ l, keyOf Try.prog 30 (ekP p) = some l := by
  obtain ⟨n, hn⟩ := types_two
  exact lits_two Try.underlying30 Try.underlying3 Try.underlying3 place_cells int_cells int_cells rfl rfl rfl rfl place_keytype hn h.1 h.2
theorem keyP : KeyE Try.prog 30 ekP okP :=
  ⟨Keyed.of_law place_law, place_lit, fun a b h => by
    obtain ⟨a1, a2⟩ := a
    obtain ⟨b1, b2⟩ := b
    unfold ekP at h
    simp only [Value.agg.injEq, Array.mk.injEq, List.cons.injEq, Value.int.injEq, true_and, and_true] at h
    rw [h.1, h.2]⟩
theorem keyN : KeyE Try.prog 3 (fun k : Int => Value.int .i64 k) I64 := keyE_int Try.underlying3
theorem zeroInt (w : World) : (zeroValue 3).run Try.prog w = .ok (.int .i64 0) w := by kernel_rfl
theorem zeroPl (w : World) : (zeroValue 30).run Try.prog w = .ok (.agg #[.int .i64 0, .int .i64 0]) w := by kernel_rfl
/-- The counts of a map. -/
def LiveAt (w : World) (bl : Nat) (live : List Int) : Prop := ∃ cur, w.heap[bl]? = some (.cells cur 3 (0, 0)) ∧ ∀ j, ∀ h : j < live.length, cur[j]? = some (.int .i64 live[j])
def encI (k : Int) : Value := .int .i64 k
structure WAt (base : Nat) (w : World) (g B P L : Nat) (s : WS) (bm bo bl cap : Nat) : Prop where
  b1 : base ≤ g ∧ base ≤ bm ∧ base ≤ bo ∧ base ≤ bl
  ne : bm ≠ bo ∧ g ≠ bl ∧ B ≤ cap ∧ cap ≤ maxLen
  box : w.heap[g]? = some (.cells #[.int .i64 (B : Int), .int .i64 (P : Int), .int .i64 (L : Int), .map (some bm), .map (some bo), .slice (some ⟨bl, 0, none⟩) B cap] 63 (0, 0))
  mat : MapV Try.prog 3 (fun k : Int => Value.int .i64 k) I64 w bm s.ca (fun k => (s.at_ k).map ekP)
  mow : MapV Try.prog 30 ekP okP w bo s.co (fun p => (s.ow p).map encI)
  lv : LiveAt w bl s.live
theorem WAt.below {base : Nat} {w w' : World} {g B P L : Nat} {s : WS} {bm bo bl cap : Nat} (h : WAt base w g B P L s bm bo bl cap) (hb : Below w.heap.size w w') : WAt base w' g B P L s bm bo bl cap := by
  obtain ⟨h1, h2, h3, h4, h5, cur, h6, h7⟩ := h
  exact ⟨h1, h2, blk_below h3 hb, h4.below hb, h5.below hb, ⟨cur, blk_below h6 hb, h7⟩⟩
theorem w6_cells {w : World} {g T : Nat} {u0 u1 u2 u3 u4 u5 : Value} (h : w.heap[g]? = some (.cells #[u0, u1, u2, u3, u4, u5] T (0, 0))) : w.cell? ⟨g, 0, none⟩ = some u0 ∧ w.cell? ⟨g, 1, none⟩ = some u1 ∧ w.cell? ⟨g, 2, none⟩ = some u2 ∧ w.cell? ⟨g, 3, none⟩ = some u3 ∧ w.cell? ⟨g, 4, none⟩ = some u4 ∧ w.cell? ⟨g, 5, none⟩ = some u5 := by
  refine ⟨?_, ?_, ?_, ?_, ?_, ?_⟩ <;> (unfold World.cell?; rw [h]; rfl)
theorem w2_cells {w : World} {g T : Nat} {u0 u1 : Value} (h : w.heap[g]? = some (.cells #[u0, u1] T (0, 0))) : w.cell? ⟨g, 0, none⟩ = some u0 ∧ w.cell? ⟨g, 1, none⟩ = some u1 := by
  constructor <;> (unfold World.cell?; rw [h]; rfl)
theorem chain2 {w a b : World} (h : Below w.heap.size w a) (k : Below a.heap.size a b) : Below w.heap.size w b := below_then h h.size k
/-- The numbers that a map bears. -/
structure WIn (B P L : Nat) : Prop where
  b : 1 ≤ B ∧ B ≤ 256
  p : 1 ≤ P ∧ P ≤ 64
  l : 1 ≤ L ∧ L ≤ 4096
def chkE (L : Nat) (k : Int) : Int := if k < 0 ∨ (L : Int) ≤ k then 3 else 0
def isP (B P : Nat) (p : Int × Int) : Bool := decide (0 ≤ p.1 ∧ p.1 < B ∧ 0 ≤ p.2 ∧ p.2 < P)
set_option maxHeartbeats 4000000 in
theorem check_ok (k : Int) {base : Nat} {w : World} {g B P L : Nat} {s : WS} {bm bo bl cap : Nat} (h : WAt base w g B P L s bm bo bl cap) :
    Calls Try.prog 21 #[.pointer (some ⟨g, 0, none⟩), .int .i64 k] w fun e w' => e = .returned (.int .i64 (chkE L k)) ∧ w = w' := by
  obtain ⟨c0, c1, c2, c3, c4, c5⟩ := w6_cells h.box
  by_cases h1 : k < 0
  · have d1 : decide (k < 0) = true := decide_eq_true h1
    have HV := Lib.hid (show chkE L k = 3 from if_pos (.inl h1))
    go_enter Try.func21, Try.ntmps21
    go_wp2
    go_ret
    exact ⟨by rw [HV.out]; rfl, rfl⟩
  · have d1 : decide (k < 0) = false := decide_eq_false h1
    by_cases h2 : (L : Int) ≤ k
    · have d2 : decide ((L : Int) ≤ k) = true := decide_eq_true h2
      have HV := Lib.hid (show chkE L k = 3 from if_pos (.inr h2))
      go_enter Try.func21, Try.ntmps21
      go_wp2
      go_ret
      exact ⟨by rw [HV.out]; rfl, rfl⟩
    · have d2 : decide ((L : Int) ≤ k) = false := decide_eq_false h2
      have HV := Lib.hid (show chkE L k = 0 from if_neg (fun e => e.elim h1 h2))
      go_enter Try.func21, Try.ntmps21
      go_wp2
      go_ret
      exact ⟨by rw [HV.out]; rfl, rfl⟩
end Go.Proofs.Ythapekmdnokniaa
