/- SaleLeft: the call's three maps. No conditions beyond the form's own reach. -/
import Derived.Test.YtdeeakjkhcdkaaaXSaleLeftL
import Derived.Test.YtdeeakjkhcdkaaaXMapV
import Derived.Maps.RangeWalk
namespace Go.Proofs.Ytdeeakjkhcdkaaa
open Go.RowKit Go.Lib Go.Maps Go.Proofs.YtdeeakjkhcdkaaaW.PrintWords Go.Proofs.YtdeeakjkhcdkaaaW.PrintLast Go.Proofs.YtdeeakjkhcdkaaaW.PrintMore
set_option linter.unusedVariables false
set_option linter.unusedSimpArgs false
--@tables
def ekI (k : Int) : Value := .int .i64 k
theorem keyI : KeyE Try.prog 3 ekI I64 := keyE_int Try.underlying3
theorem zeroI64 (w : World) : (zeroValue 2).run Try.prog w = .ok (.int .i64 0) w := by kernel_rfl
theorem zeroBo (w : World) : (zeroValue 4).run Try.prog w = .ok (.bool false) w := by kernel_rfl
theorem MapV.blk {w w' : World} {b c : Nat} {f : Int → Option Value} (h : MapV Try.prog 3 ekI I64 w b c f) (hb : w'.heap[b]? = w.heap[b]?) : MapV Try.prog 3 ekI I64 w' b c f := by
  obtain ⟨D, ⟨es, clock, h1, F, hs, hD⟩, h2⟩ := h
  exact ⟨D, ⟨es, clock, hb.trans h1, F, hs, hD⟩, h2⟩
theorem MapV.typ {w : World} {b c : Nat} {f : Int → Option Value} (h : MapV Try.prog 3 ekI I64 w b c f) : ∃ es clock, w.heap[b]? = some (.map es clock) := by
  obtain ⟨D, ⟨es, clock, h1, _⟩, _⟩ := h
  exact ⟨es, clock, h1⟩
/-- A tally: what is read at each key (z where nothing stands). -/
def MapQ (w : World) (b n : Nat) (z : Value) (F : Int → Value) : Prop := ∃ c f, c ≤ n ∧ MapV Try.prog 3 ekI I64 w b c f ∧ ∀ k, I64 k → (f k).getD z = F k
/-- The amounts: what stands at each key. -/
def MapA (w : World) (b n : Nat) (A : Int → Option Int) : Prop := ∃ c f, c ≤ n ∧ MapV Try.prog 3 ekI I64 w b c f ∧ ∀ k, I64 k → f k = (A k).map fun x => .int .i64 x
theorem MapQ.made (w : World) (z : Value) : MapQ (w.alloc (.map #[] 0)) w.heap.size 0 z (fun _ => z) := ⟨0, fun _ => none, Nat.le_refl _, MapV.made w, fun k _ => rfl⟩
theorem MapA.made (w : World) : MapA (w.alloc (.map #[] 0)) w.heap.size 0 (fun _ => none) := ⟨0, fun _ => none, Nat.le_refl _, MapV.made w, fun k _ => rfl⟩
theorem MapQ.blk {w w' : World} {b n : Nat} {z : Value} {F : Int → Value} (h : MapQ w b n z F) (hb : w'.heap[b]? = w.heap[b]?) : MapQ w' b n z F := by
  obtain ⟨c, f, h1, h2, h3⟩ := h
  exact ⟨c, f, h1, h2.blk hb, h3⟩
theorem MapA.blk {w w' : World} {b n : Nat} {A : Int → Option Int} (h : MapA w b n A) (hb : w'.heap[b]? = w.heap[b]?) : MapA w' b n A := by
  obtain ⟨c, f, h1, h2, h3⟩ := h
  exact ⟨c, f, h1, h2.blk hb, h3⟩
theorem MapQ.typ {w : World} {b n : Nat} {z : Value} {F : Int → Value} (h : MapQ w b n z F) : ∃ es clock, w.heap[b]? = some (.map es clock) := by obtain ⟨c, f, h1, h2, h3⟩ := h; exact h2.typ
theorem MapA.typ {w : World} {b n : Nat} {A : Int → Option Int} (h : MapA w b n A) : ∃ es clock, w.heap[b]? = some (.map es clock) := by obtain ⟨c, f, h1, h2, h3⟩ := h; exact h2.typ
theorem MapQ.lt {w : World} {b n : Nat} {z : Value} {F : Int → Value} (h : MapQ w b n z F) : b < w.heap.size := by obtain ⟨_, _, h⟩ := h.typ; exact blk_lt h
theorem MapA.lt {w : World} {b n : Nat} {A : Int → Option Int} (h : MapA w b n A) : b < w.heap.size := by obtain ⟨_, _, h⟩ := h.typ; exact blk_lt h
theorem MapQ.below {w w' : World} {b n : Nat} {z : Value} {F : Int → Value} (h : MapQ w b n z F) (hb : Below w.heap.size w w') : MapQ w' b n z F := h.blk (hb.block b h.lt)
theorem MapA.below {w w' : World} {b n : Nat} {A : Int → Option Int} (h : MapA w b n A) (hb : Below w.heap.size w w') : MapA w' b n A := h.blk (hb.block b h.lt)
theorem MapQ.mono {w : World} {b n m : Nat} {z : Value} {F : Int → Value} (h : MapQ w b n z F) (hm : n ≤ m) : MapQ w b m z F := by obtain ⟨c, f, h1, h2⟩ := h; exact ⟨c, f, Nat.le_trans h1 hm, h2⟩
theorem MapA.mono {w : World} {b n m : Nat} {A : Int → Option Int} (h : MapA w b n A) (hm : n ≤ m) : MapA w b m A := by obtain ⟨c, f, h1, h2⟩ := h; exact ⟨c, f, Nat.le_trans h1 hm, h2⟩
theorem RegAt.typ {w : World} {base g keep next : Nat} {ps : List TP} (h : RegAt w base g keep next ps) : ∃ c, w.heap[g]? = some (.cells c 88 (0, 0)) := by obtain ⟨v, xs, h1, _⟩ := h; exact ⟨_, h1.box⟩
/-- A map is none of a register's blocks. -/
theorem map_TR {w : World} {base g keep next b clock : Nat} {ps : List TP} {es : Array MapEntry} (h : RegAt w base g keep next ps) (hb : w.heap[b]? = some (.map es clock)) : ¬ TR base g w b := by
  rintro (rfl | ⟨_, c, hc⟩)
  · obtain ⟨c, hc⟩ := h.typ; rw [hb] at hc; simp at hc
  · rw [hb] at hc; simp at hc
theorem MapQ.touch {w w' : World} {b n base g keep next : Nat} {ps : List TP} {z : Value} {F : Int → Value} (h : MapQ w b n z F) (hr : RegAt w base g keep next ps) (ht : Touch (TR base g w) w w') : MapQ w' b n z F := by
  obtain ⟨es, clock, hb⟩ := h.typ
  exact h.blk (ht.block b h.lt (map_TR hr hb))
theorem MapA.touch {w w' : World} {b n base g keep next : Nat} {ps : List TP} {A : Int → Option Int} (h : MapA w b n A) (hr : RegAt w base g keep next ps) (ht : Touch (TR base g w) w w') : MapA w' b n A := by
  obtain ⟨es, clock, hb⟩ := h.typ
  exact h.blk (ht.block b h.lt (map_TR hr hb))
/-- Something that is no row of cells is written: the register stays. -/
theorem RegAt.map {w w' : World} {base g keep next b : Nat} {ps : List TP} {o : Obj} (h : RegAt w base g keep next ps) (hb : w.heap[b]? = some o) (ho : ∀ c t z, o ≠ .cells c t z) (hg : w.grownBy w' (some b)) : RegAt w' base g keep next ps := by
  obtain ⟨v, xs, h1, h2⟩ := h
  have no : ∀ c t z, w.heap[b]? ≠ some (.cells c t z) := fun c t z e => ho c t z (by rw [hb] at e; exact Option.some.inj e)
  refine ⟨v, xs, { h1 with box := (hg.block g h1.lt (fun e => ?_)).trans h1.box, row := h1.row.grown hg ?_, lines := fun x hx => RowO.grown (h1.lines x hx) hg ?_ }, h2⟩
  · cases e; exact no _ _ _ h1.box
  · cases hv : v.ownBlock with
    | none => exact .inl rfl
    | some k => right; intro e; cases e; obtain ⟨c, hc⟩ := h1.row.typ b hv; exact no _ _ _ hc
  · cases hv : x.2.ownBlock with
    | none => exact .inl rfl
    | some k => right; intro e; cases e; obtain ⟨c, hc⟩ := RowO.typ (h1.lines x hx) b hv; exact no _ _ _ hc
/-- What Add may write: blocks that were there in an elder world. -/
theorem add_atB {base g keep next : Nat} {ps : List TP} (t : TP) (tv : Value) (w0 w : World) (h : RegAt w0 base g keep next ps) (hb : Below w0.heap.size w0 w) (hk : 0 ≤ t.kind ∧ t.kind < 256) (hr : RowS encL w tv t.ls) (hl : t.ls.length ≤ 1000000) :
    Calls Try.prog 10 #[.pointer (some ⟨g, 0, none⟩), aggT t tv] w fun e w' => e = .returned (.tuple #[.int .i64 (addN next ps t), .int .i64 (addC next ps t)]) ∧ RegAt w' base g keep (nextR next ps t) (afterR keep next ps t) ∧ Touch (fun k => k < w0.heap.size ∧ TR base g w k) w w' := by
  obtain ⟨v, xs, h0, rfl⟩ := h
  have h1 := h0.below hb
  refine (add_ok t tv w h1 hk hr hl).mono ?_
  rintro e w' ⟨rfl, hp⟩
  refine ⟨rfl, ?_⟩
  unfold AddPost at hp
  unfold nextR afterR
  by_cases hc : addC next (xs.map Prod.fst) t = 0
  · rw [if_pos hc] at hp ⊢
    rw [if_pos hc]
    obtain ⟨v', xs', k1, k2, k3, k4⟩ := hp
    refine ⟨⟨v', xs', k1, k2⟩, k3.mono fun k hk => ?_⟩
    rcases hk with rfl | h
    · exact ⟨h0.lt, .inl rfl⟩
    · exact ⟨(h0.row.lt k h).2, .inr ⟨(h1.row.lt k h).1, h1.row.typ k h⟩⟩
  · rw [if_neg hc] at hp ⊢
    rw [if_neg hc]
    exact ⟨⟨v, xs, h1.below hp, rfl⟩, Touch.of _ hp⟩
theorem MapQ.grown {w w' : World} {b n c : Nat} {z : Value} {F : Int → Value} (h : MapQ w b n z F) (hg : w.grownBy w' (some c)) (hne : b ≠ c) : MapQ w' b n z F := h.blk (hg.block b h.lt (fun e => hne (by cases e; rfl)))
theorem MapA.grown {w w' : World} {b n c : Nat} {A : Int → Option Int} (h : MapA w b n A) (hg : w.grownBy w' (some c)) (hne : b ≠ c) : MapA w' b n A := h.blk (hg.block b h.lt (fun e => hne (by cases e; rfl)))
theorem MapQ.congr {w : World} {b n : Nat} {z : Value} {F G : Int → Value} (h : MapQ w b n z F) (hg : ∀ k, F k = G k) : MapQ w b n z G := by obtain ⟨c, f, h1, h2, h3⟩ := h; exact ⟨c, f, h1, h2, fun k hk => (h3 k hk).trans (hg k)⟩
theorem MapQ.lookI {w : World} {b n : Nat} {F : Int → Value} (h : MapQ w b n (.int .i64 0) F) (k : Int) (hk : I64 k) : (Instr.lookup 28 (.map (some b)) (.int .i64 k) false).run Try.prog w = .ok (F k) w := by
  obtain ⟨c, f, h1, h2, h3⟩ := h
  rw [← h3 k hk]
  exact h2.look keyI Try.underlying28 (zeroI64 w) k hk
theorem MapQ.lookB {w : World} {b n : Nat} {F : Int → Value} (h : MapQ w b n (.bool false) F) (k : Int) (hk : I64 k) : (Instr.lookup 29 (.map (some b)) (.int .i64 k) false).run Try.prog w = .ok (F k) w := by
  obtain ⟨c, f, h1, h2, h3⟩ := h
  rw [← h3 k hk]
  exact h2.look keyI Try.underlying29 (zeroBo w) k hk
theorem MapA.look {w : World} {b n : Nat} {A : Int → Option Int} (h : MapA w b n A) (k : Int) (hk : I64 k) : (Instr.lookup 28 (.map (some b)) (.int .i64 k) false).run Try.prog w = .ok (.int .i64 ((A k).getD 0)) w := by
  obtain ⟨c, f, h1, h2, h3⟩ := h
  have := h2.look keyI Try.underlying28 (zeroI64 w) k hk
  rw [h3 k hk] at this
  cases hA : A k with
  | none => rw [hA] at this; exact this
  | some x => rw [hA] at this; exact this
theorem wpList_mapQ {ops : Array Oper} {rest : List Oper} {o : Oper} {a : Act} {Q : Exit → Act → World → Prop} {w : World} {b n : Nat} {z : Value} {F : Int → Value} (hg : o.guard = none) (m x v : Operand) (t : TypeId) (hop : o.op = Op.mapUpdate t m x v) {e : TypeId} (ht : Try.prog.underlying t = some (.map 3 e))
    (hm : a.eval m = .map (some b)) (h : MapQ w b n z F) (hn : n < 100000) (k : Int) (hk : I64 k) (val : Value) (hx : a.eval x = .int .i64 k) (hv : a.eval v = val)
    (hK : ∀ w', MapQ w' b (n + 1) z (fun j => if j = k then val else F j) → w.grownBy w' (some b) → wpList Try.prog ops Q rest (a.put o.dst undef) w') : wpList Try.prog ops Q (o :: rest) a w := by
  obtain ⟨c, f, h1, h2, h3⟩ := h
  refine wpList_mapV_store hg m x v t hop keyI ht hm h2 (by unfold maxLen; omega) k hk val hx hv (fun w' q1 q2 => hK w' ⟨_, _, ?_, q1, fun j hj => ?_⟩ q2)
  · split <;> omega
  · dsimp only
    split
    · rfl
    · exact h3 j hj
theorem wpList_mapA {ops : Array Oper} {rest : List Oper} {o : Oper} {a : Act} {Q : Exit → Act → World → Prop} {w : World} {b n : Nat} {A : Int → Option Int} (hg : o.guard = none) (m x v : Operand) (t : TypeId) (hop : o.op = Op.mapUpdate t m x v) {e : TypeId} (ht : Try.prog.underlying t = some (.map 3 e))
    (hm : a.eval m = .map (some b)) (h : MapA w b n A) (hn : n < 100000) (k : Int) (hk : I64 k) (val : Int) (hx : a.eval x = .int .i64 k) (hv : a.eval v = .int .i64 val)
    (hK : ∀ w', MapA w' b (n + 1) (fun j => if j = k then some val else A j) → w.grownBy w' (some b) → wpList Try.prog ops Q rest (a.put o.dst undef) w') : wpList Try.prog ops Q (o :: rest) a w := by
  obtain ⟨c, f, h1, h2, h3⟩ := h
  refine wpList_mapV_store hg m x v t hop keyI ht hm h2 (by unfold maxLen; omega) k hk _ hx hv (fun w' q1 q2 => hK w' ⟨_, _, ?_, q1, fun j hj => ?_⟩ q2)
  · split <;> omega
  · dsimp only
    split
    · rfl
    · exact h3 j hj
theorem i64_next (n : Nat) (h : n < 100000) : I64 ((n : Nat) : Int) := i64_of _ (by omega) (by omega)
end Go.Proofs.Ytdeeakjkhcdkaaa
