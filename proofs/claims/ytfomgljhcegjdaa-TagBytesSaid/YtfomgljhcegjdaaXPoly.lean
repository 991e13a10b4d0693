/- The contracts of layer 2 (poly): Last, More, Sum of a table that is there, and of a nil one; Make. Conditions: the size of a text. -/
import Derived.Test.YtfomgljhcegjdaaXPolyStep
import Derived.Lib.Hide
import Derived.Deep.QuietTactic
import Derived.BigQuiet
import Derived.Test.YtfomgljhcegjdaaPx3
namespace Go.Proofs.Ytfomgljhcegjdaa
open Go.RowKit Go.Proofs.YtfomgljhcegjdaaW.PrintWords Go.Proofs.YtfomgljhcegjdaaW.PrintLast Go.Proofs.YtfomgljhcegjdaaW.PrintMore Go.Proofs.Ytfomgljhcegjdaa.P Go.Proofs.Ytfomgljhcegjdaa.PoS
set_option linter.unusedVariables false
set_option linter.unusedSimpArgs false

/-- The table's cells stand in a block. -/
def TabAt (w : World) (g : Nat) : Prop := ∀ b : Nat, b < 256 → w.cell? ⟨g, b, none⟩ = some (.int .u32 (v32 (tabN b)))
theorem TabAt.drewN {w : World} {g : Nat} (h : TabAt w g) (n : Nat) : TabAt (w.drewN n) g := h
theorem TabAt.below {w w' : World} {g : Nat} (h : TabAt w g) (hb : Below w.heap.size w w') : TabAt w' g := fun b hb2 => pw_cell_below hb (h b hb2)

theorem poly_Last.calls (s : BitVec 32) (w : World) : Calls Try.prog 38 #[.int .u32 (v32 s)] w fun e w' => e = .returned (.int .u32 (v32 (~~~s))) ∧ Drawn0 w w' := by
  go_enter Try.func38, Try.ntmps38
  go_wp2
  go_ret
  refine ⟨?_, Drawn0.refl _⟩
  have e : IntKind.u32.max = v32 (BitVec.allOnes 32) := rfl
  simp only [e, xor_v, BitVec.allOnes_xor]
  rfl

set_option maxHeartbeats 2000000 in
theorem poly_More.calls (g : Nat) (st : BitVec 32) (s : ByteArray) (hs : s.size ≤ 140737488351232) (w : World) (ht : TabAt w g) :
    Calls Try.prog 35 #[.pointer (some ⟨g, 0, none⟩), .int .u32 (v32 st), .string s] w fun e w' => e = .returned (.int .u32 (v32 (more st s.data.toList))) ∧ Drawn0 w w' := by
  have hl : s.data.toList.length = s.size := Array.length_toList
  have Ht := Lib.hid ht; clear ht
  go_enter Try.func35, Try.ntmps35
  go_wp2
  go_loopw [1, 7, 13] (fun x _ i wr => ∃ k : Nat, k ≤ s.size ∧ i = .int .i64 (k : Int) ∧ x = .int .u32 (v32 (more st (s.data.toList.take k))) ∧ Drawn0 w wr) (fun _ _ i _ => s.size - (intOf i).toNat)
  case atStart => exact ⟨0, Nat.zero_le _, rfl, rfl, Drawn0.refl _⟩
  case round =>
    obtain ⟨k, hk, rfl, rfl, hd⟩ := hrel
    by_cases hlt : k < s.size
    · generalize hx : more st (s.data.toList.take k) = x at *
      have Hx := Lib.hid hx; clear hx
      have Hd := Lib.hid hd; clear hd
      have hi : k < s.data.toList.length := by omega
      obtain ⟨c, hc⟩ : ∃ c : UInt8, s.data.toList[k] = c := ⟨_, rfl⟩
      have hr := v32_range x
      have Hr := Lib.hid hr; clear hr
      have hq0 : (0 : Int) ≤ (k : Int) := by omega
      have hq1 : (k : Int) < (s.size : Int) := by omega
      have e1 : IntKind.u32.wrap (v32 x * 256) = v32 (x <<< 8) := by rw [IntKind.wrap_u32]; exact shl8_v x
      have e2 : Go.bits .xor .u8 (IntKind.u8.wrap (v32 x / 16777216)) ((s[k].toNat : Nat) : Int) = (((idx x s[k]).toNat : Nat) : Int) := by
        have h0 : IntKind.u8.wrap (v32 x / 16777216) = v32 x / (16777216 : Int) := by rw [IntKind.wrap_u8]; have := Hr.out; omega
        rw [h0]; exact idx_v x s[k]
      have e3 : wr.cell? ⟨g, (idx x s[k]).toNat, none⟩ = some (.int .u32 (v32 (tab (idx x s[k])))) := by
        obtain ⟨n, rfl⟩ := Hd.out.out
        rw [← tab_idx]
        exact Ht.out _ (idx x s[k]).isLt
      have e4 : Go.bits .xor .u32 (v32 (x <<< 8)) (v32 (tab (idx x s[k]))) = v32 (next x s[k]) := xor_v _ _
      have e5 : (0 : Int) ≤ (((idx x s[k]).toNat : Nat) : Int) := by omega
      have e6 : (((idx x s[k]).toNat : Nat) : Int) < 256 := by have := (idx x s[k]).isLt; omega
      go_wp2_with fail
      go_quiet (fail)
      go_wp2
      go_roundw
      case rel => 
        refine ⟨k + 1, by omega, by go_num, ?_, Hd.out.step _⟩
        rw [List.take_succ_eq_append_getElem hi, more_append, Hx.out]
        rfl
      case measure => simp [intOf]; omega
    · have Hd := Lib.hid hd; clear hd
      have hx : more st (s.data.toList.take k) = more st s.data.toList := by rw [List.take_of_length_le (by omega)]
      rw [hx]
      clear hx
      go_wp2
      go_ret
      exact ⟨rfl, Hd.out⟩

theorem poly_More.nil (st : BitVec 32) (s : ByteArray) (w : World) :
    Calls Try.prog 35 #[.pointer none, .int .u32 (v32 st), .string s] w fun e w' => e = .returned (.int .u32 (v32 st)) ∧ Drawn0 w w' := by
  go_enter Try.func35, Try.ntmps35
  go_wp2
  go_ret
  exact ⟨rfl, Drawn0.refl _⟩

/-- The table's cells, the first k of them filled. -/
def tabCells (k : Nat) : Array Value := ((List.range 256).map fun j => Value.int .u32 (if j < k then v32 (tabN j) else 0)).toArray
theorem tabCells_size (k : Nat) : (tabCells k).size = 256 := by simp [tabCells]
theorem tabCells_get (k j : Nat) (hj : j < 256) : (tabCells k)[j]? = some (.int .u32 (if j < k then v32 (tabN j) else 0)) := by
  simp [tabCells, hj]
theorem tabCells_set (k : Nat) (hk : k < 256) : (tabCells k).setIfInBounds k (.int .u32 (v32 (tabN k))) = tabCells (k + 1) := by
  apply Array.ext_getElem?
  intro j
  by_cases hj : j < 256
  · rw [Array.getElem?_setIfInBounds, tabCells_get _ _ hj, tabCells_get _ _ hj, tabCells_size]
    by_cases c : k = j
    · subst c
      rw [if_pos rfl, if_pos hk, if_pos (by omega)]
    · rw [if_neg c]
      congr 3
      exact propext (by omega)
  · rw [Array.getElem?_eq_none (by rw [Array.size_setIfInBounds, tabCells_size]; omega), Array.getElem?_eq_none (by rw [tabCells_size]; omega)]
theorem tabCells_one (k : Nat) : (tabCells k).all (·.oneCell') = true := by
  rw [Array.all_eq_true_iff_forall_mem]
  intro v hv
  simp only [tabCells, List.mem_toArray, List.mem_map] at hv
  obtain ⟨j, _, rfl⟩ := hv
  rfl
theorem TabAt.of_block {w : World} {g : Nat} {t : TypeId} {fr : Nat × Nat} (h : w.heap[g]? = some (.cells (tabCells 256) t fr)) : TabAt w g := fun b hb => by
  rw [cell_of_row w g b _ t fr h, tabCells_get _ _ hb, if_pos hb]

theorem below_setRow {B : Nat} {a w : World} (h : Below B a w) {g : Nat} (hg : B ≤ g) (cs : Array Value) : Below B a (w.setRow g cs) :=
  h.trans ⟨rfl, rfl, rfl, by simp, fun k hk => setRow_other w g k cs (by omega)⟩
theorem make_zero (w : World) : (zeroValue 27).run Try.prog w = .ok (.agg (tabCells 0)) w := by kernel_rfl
theorem make_info : (Try.prog.info? 27).map (·.size) = some (tabCells 256).size := by kernel_rfl

set_option maxHeartbeats 2000000 in
set_option maxRecDepth 100000 in
theorem poly_Make.calls (w : World) :
    Calls Try.prog 7 #[] w fun e w' => e = .returned (.agg (tabCells 256)) ∧ Below w.heap.size w w' := by
  have hz := make_zero
  go_enter Try.func7, Try.ntmps7
  go_wp2
  clear hz
  go_loopw [2, 3] (fun _ i wr => ∃ k : Nat, k ≤ 256 ∧ i = .int .i64 (k : Int) ∧ wr.heap[w.heap.size]? = some (.cells (tabCells 0) 27 (0, 0)) ∧ wr.heap[w.heap.size + 1]? = some (.cells (tabCells k) 27 (0, 0)) ∧ Below w.heap.size w wr) (fun _ i _ => 256 - (intOf i).toNat)
  case atStart => exact ⟨0, Nat.zero_le _, rfl, heap_alloc2_old w _ _, heap_alloc2_new w _ _, ((Below.refl _ _).alloc (Nat.le_refl _) _).alloc (by simp) _⟩
  case round =>
    obtain ⟨k, hk, rfl, h1, h2, hb⟩ := hrel
    have H1 := Lib.hid h1; clear h1
    have H2 := Lib.hid h2; clear h2
    have Hb := Lib.hid hb; clear hb
    by_cases hlt : k < 256
    · have hs := step_tab k hlt 10 (by decide)
      have Hs := Lib.hid hs; clear hs
      go_wp2_with fail
      refine (poly_step.calls _ _ _ _ Hs.out).mono ?_
      rintro e w1 ⟨rfl, ⟨n, rfl⟩⟩
      have hc : (wr.drewN n).cell? ⟨w.heap.size + 1, k, none⟩ = some (.int .u32 0) := (cell_of_row (wr.drewN n) _ _ _ _ _ H2.out).trans (by rw [tabCells_get _ _ hlt, if_neg (by omega)])
      have hf : (wr.drewN n).frozen? ⟨w.heap.size + 1, k, none⟩ = false := frozen_of_row _ _ _ _ _ H2.out
      generalize hw1 : wr.drewN n = w1 at hc hf ⊢
      have G2 : w1.heap[w.heap.size + 1]? = some (.cells (tabCells k) 27 (0, 0)) := by rw [← hw1]; exact H2.out
      have G1 : w1.heap[w.heap.size]? = some (.cells (tabCells 0) 27 (0, 0)) := by rw [← hw1]; exact H1.out
      have Gb : Below w.heap.size w w1 := by rw [← hw1]; exact pw_below_drewN Hb.out n
      have K1 := Lib.hid G1; clear G1
      have K2 := Lib.hid G2; clear G2
      have Kb := Lib.hid Gb; clear Gb
      clear hw1
      go_wp2
      go_roundw
      case rel =>
        refine ⟨k + 1, by omega, by go_num, ?_, ?_, Kb.out.setCell (by simp) _⟩
        · rw [heap_setCell_other _ _ _ _ (by simp)]; exact K1.out
        · rw [heap_setCell_same _ _ _ _ _ _ K2.out, tabCells_set k hlt]
      case measure => simp [intOf]; omega
    · obtain rfl : k = 256 := by omega
      have hg2 := H2.out
      have K2 := Lib.hid hg2; clear hg2
      go_wp2_with (first | refine wpList_load_row rfl 27 _ rfl (w.heap.size + 1) rfl 27 (tabCells 256) _ _ K2.out Try.underlying27 rfl make_info ?_ | refine wpList_store_row rfl 27 _ _ rfl w.heap.size (tabCells 256) rfl rfl 27 (tabCells 0) H1.out make_info (by rw [tabCells_size, tabCells_size]) (tabCells_one _) ?_)
      refine bodyPost_ret (v := .agg (tabCells 256)) (results_cell_row rfl _ _ w.heap.size 27 (tabCells 256) (0, 0) _ rfl (setRow_heap wr w.heap.size _ _ _ _ H1.out) Try.underlying27 rfl make_info) rfl ⟨rfl, ?_⟩
      exact below_setRow Hb.out (Nat.le_refl _) _
end Go.Proofs.Ytfomgljhcegjdaa
