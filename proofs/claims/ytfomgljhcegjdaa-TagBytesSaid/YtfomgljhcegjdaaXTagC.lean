/- tag: the law's 'tame' and 'of', and the signs of life. No conditions beyond the form's own reach. -/
import Derived.Test.YtfomgljhcegjdaaXTagB
import Derived.Test.YtfomgljhcegjdaaWEqStruct
import Derived.Test.YtfomgljhcegjdaaPx6
import Derived.Test.YtfomgljhcegjdaaPx5
namespace Go.Proofs.Ytfomgljhcegjdaa
open Go.RowKit Go.Lib Go.Proofs.Ytfomgljhcegjdaa.P Go.Proofs.Ytfomgljhcegjdaa.BeS Go.Proofs.Ytfomgljhcegjdaa.PoS Go.Proofs.YtfomgljhcegjdaaW.PrintWords Go.Proofs.YtfomgljhcegjdaaW.PrintLast Go.Proofs.YtfomgljhcegjdaaW.PrintMore
set_option linter.unusedVariables false
set_option linter.unusedSimpArgs false
--@tables
def tameT (t : Tg) : Tg := ⟨1 + t.kind % 3, (max 0 t.log) % 65536, t.seq, (max 0 t.pos) % (1 + (max 0 t.len) % 255), 1 + (max 0 t.len) % 255⟩
theorem tame_right (t : Tg) : (tameT t).right = true := by
  rw [right_iff]
  unfold tameT
  simp only
  have h : 0 < 1 + (max 0 t.len) % 255 := by omega
  have h1 := Int.emod_nonneg (max 0 t.pos) (show (1 + (max 0 t.len) % 255) ≠ 0 by omega)
  have h2 := Int.emod_lt_of_pos (max 0 t.pos) h
  generalize (max 0 t.pos) % (1 + (max 0 t.len) % 255) = q at h1 h2 ⊢
  omega
theorem tame_seq (t : Tg) : (tameT t).seq = t.seq := rfl
theorem tame_f (t : Tg) (hk : t.kind < 256) : tillrolllaw06_tame.f (t.kind : Int) t.log (t.seq : Int) t.pos t.len = some (((tameT t).kind : Int), (tameT t).log, ((tameT t).seq : Int), (tameT t).pos, (tameT t).len) := by
  unfold tillrolllaw06_tame.f tameT
  have e0 : ∀ x, mx 0 x = max 0 x := fun x => by unfold mx; omega
  have e1 : (1 + Int.tmod (t.kind : Int) 3) % 256 = ((1 + t.kind % 3 : Nat) : Int) := by rw [Int.tmod_eq_emod_of_nonneg (by omega)]; omega
  have hm : Int.tmod (max 0 t.pos) (1 + max 0 t.len % 255) = (max 0 t.pos) % (1 + max 0 t.len % 255) := Int.tmod_eq_emod_of_nonneg (by omega)
  have hl : Int.tmod (max 0 t.log) 65536 = (max 0 t.log) % 65536 := Int.tmod_eq_emod_of_nonneg (by omega)
  rw [e0, e0, e0, e1, hm, hl, if_neg (by omega)]
theorem tame_ok (t : Tg) (hk : t.kind < 256) (w : World) : Calls Try.prog 8 #[tgV t] w fun e w' => e = .returned (tgV (tameT t)) ∧ Below w.heap.size w w' := by
  refine (tillrolllaw06_tame.calls _ _ _ _ _ _ _ _ _ _ w (tame_f t hk)).mono ?_
  rintro e w' ⟨rfl, hb⟩
  exact ⟨rfl, hb⟩
theorem of_ok (t : Tg) (w : World) : Calls Try.prog 10 #[tgV t] w fun e w' => e = .returned (tgV t) ∧ Below w.heap.size w w' := by
  refine (tillrolllaw06_of.calls _ _ _ _ _ _ _ _ _ _ w rfl).mono ?_
  rintro e w' ⟨rfl, hb⟩
  exact ⟨rfl, hb⟩
def tW : Tg := ⟨2, 0, 5, 0, 1⟩
def dW : ByteArray := { data := #[100, 97, 116, 97] }
theorem tW_take : (str (frameT tW dW.data.toList)).extract 0 14 = { data := #[255, 2, 0, 0, 0, 0, 0, 0, 0, 0, 0, 5, 0, 1] } := by
  rw [str_extract, List.drop_zero, show (14 : Nat) = min 14 28 from rfl, ← List.take_take, frame_take]
  decide
set_option maxHeartbeats 4000000 in
set_option maxRecDepth 100000 in
theorem wakes_ok6 (w : World) : Calls Try.prog 16 #[] w fun e w' => e = .returned (.bool true) ∧ Below w.heap.size w w' := by
  have hz := make_zero
  go_enter Try.func16, Try.ntmps16
  go_wp2_with fail
  refine (poly_Make.calls _).mono ?_
  rintro e w1 ⟨rfl, hb1⟩
  have Hb1 := Lib.hid hb1; clear hb1
  go_wp2_with (refine wpList_store_row rfl 27 _ _ rfl w1.heap.size (tabCells 256) rfl rfl 27 (tabCells 0) (heap_alloc_new w1 _) make_info (by rw [tabCells_size, tabCells_size]) (tabCells_one _) ?_)
  clear hz
  obtain ⟨hT, hB, hS⟩ := made_facts Hb1.out _ rfl
  generalize (w1.alloc (.cells (tabCells 0) 27)).setRow w1.heap.size (tabCells 256) = w2 at hT hB ⊢
  generalize w1.heap.size = gp at hT ⊢
  have HT := Lib.hid hT; clear hT
  have HB := Lib.hid hB; clear hB hS Hb1
  refine (frame_ok gp tW (by decide) dW (by decide) w2 HT.out).mono ?_
  rintro e w3 ⟨rfl, ht, hd⟩
  replace HT := Lib.hid ht; clear ht
  replace HB := Lib.hid (chain2 HB.out hd); clear hd
  rw [show frV tW dW.data.toList = (frameT tW dW.data.toList, 0) from if_pos (by decide)]
  have HE := Lib.hid (show (str (frameT tW dW.data.toList)).data.toList = frameT tW dW.data.toList from str_data _)
  have H14 := Lib.hid tW_take
  have HSz := Lib.hid (show (str (frameT tW dW.data.toList)).size = 32 by rw [str_size, frameT_len])
  simp only
  generalize str (frameT tW dW.data.toList) = S at HE H14 HSz ⊢
  go_wp2_with fail
  refine (parse_ok gp dW S (by decide) (by rw [HSz.out]; decide) w3 HT.out).mono ?_
  rintro e w4 ⟨rfl, ht, hd⟩
  replace HT := Lib.hid ht; clear ht
  replace HB := Lib.hid (chain2 HB.out hd); clear hd
  rw [HE.out, parse_frame tW (by decide) (by decide)]
  unfold tgV tW
  simp only
  have h14 := H14.out
  have hsz : (S.size : Int) = 32 := by rw [HSz.out]; rfl
  have hsz2 := HSz.out
  go_wp2_with fail
  go_ret
  exact ⟨rfl, below_then HB.out HB.out.size (below_alloc (Below.refl _ _) _)⟩
/-- A box of a tag. -/
def TgAt (w : World) (b T : Nat) (t : Tg) : Prop := w.heap[b]? = some (.cells #[.int .u8 (t.kind : Int), .int .i64 t.log, .int .u64 (t.seq : Int), .int .i64 t.pos, .int .i64 t.len] T (0, 0))
theorem TgAt.below {w w' : World} {b T : Nat} {t : Tg} (h : TgAt w b T t) (hb : Below w.heap.size w w') : TgAt w' b T t := blk_below h hb
theorem TgAt.new (w : World) (T : Nat) (t : Tg) : TgAt (w.alloc (.cells #[.int .u8 (t.kind : Int), .int .i64 t.log, .int .u64 (t.seq : Int), .int .i64 t.pos, .int .i64 t.len] T)) w.heap.size T t := heap_alloc_new w _
structure Tg.Ok (t : Tg) : Prop where
  kind : t.kind < 256
  seq : t.seq < 18446744073709551616
theorem tame_kind (t : Tg) : (tameT t).kind < 256 := by unfold tameT; show 1 + t.kind % 3 < 256; omega
end Go.Proofs.Ytfomgljhcegjdaa
