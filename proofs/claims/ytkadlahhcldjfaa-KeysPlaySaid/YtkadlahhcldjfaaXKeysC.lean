/- keys: Match, New, List, Clone. -/
import Derived.Test.YtkadlahhcldjfaaXKeysB
import Derived.Laws.AppendOwnNone
import Derived.Lib.SlicesS
namespace Go.Proofs.Ytkadlahhcldjfaa
open Go.RowKit Go.Lib Go.Proofs.YtkadlahhcldjfaaW.PrintWords Go.Proofs.YtkadlahhcldjfaaW.PrintLast
set_option linter.unusedVariables false
set_option linter.unusedSimpArgs false
--@tables
def matchK (es : List KE) (key : Int) (body : ByteArray) : Int × Int := match findK key es with
  | none => (0, 15)
  | some x => if x.body = body then (x.num, 0) else (0, 17)

set_option maxHeartbeats 2000000 in
set_option maxRecDepth 100000 in
theorem keys_match (g lim : Nat) (es : List KE) (key : Int) (body : ByteArray) (w : World) (h : KeysAt w g lim es) :
    Calls Try.prog 9 #[.pointer (some ⟨g, 0, none⟩), .int .u64 key, .string body] w fun x w' => x = .returned (.tuple #[.int .i64 (matchK es key body).1, .int .i64 (matchK es key body).2]) ∧ Below w.heap.size w w' := by
  have HK := Lib.hid h; clear h
  go_enter Try.func9, Try.ntmps9
  go_wp2_with fail
  refine (keys_find g lim es key w HK.out).mono ?_
  rintro e w' ⟨rfl, hb⟩
  have HB := Lib.hid hb; clear hb
  unfold foundK
  cases ho : findK key es with
  | none =>
    have HO := Lib.hid (show matchK es key body = (0, 15) by unfold matchK; rw [ho])
    clear ho
    go_wp2
    go_ret2
    rw [HO.out]
    exact ⟨rfl, HB.out.alloc HB.out.size _⟩
  | some x =>
    by_cases hbd : x.body = body
    · have HO := Lib.hid (show matchK es key body = (x.num, 0) by unfold matchK; rw [ho]; exact if_pos hbd)
      clear ho
      subst hbd
      go_wp2
      go_ret2
      rw [HO.out]
      exact ⟨rfl, HB.out.alloc HB.out.size _⟩
    · have HO := Lib.hid (show matchK es key body = (0, 17) by unfold matchK; rw [ho]; exact if_neg hbd)
      clear ho
      have hne := (Lib.bytes_beq_false_iff x.body body).mpr hbd
      go_wp2
      go_ret2
      rw [HO.out]
      exact ⟨rfl, HB.out.alloc HB.out.size _⟩

set_option maxHeartbeats 2000000 in
theorem keys_new (lim : Nat) (h1 : 1 ≤ lim) (h2 : lim ≤ 64) (w : World) :
    Calls Try.prog 6 #[.int .i64 (lim : Int)] w fun x w' => ∃ g, x = .returned (.tuple #[.pointer (some ⟨g, 0, none⟩), .int .i64 0]) ∧ w.heap.size ≤ g ∧ KeysAt w' g lim [] ∧ Below w.heap.size w w' := by
  have a1 : decide ((lim : Int) < 1) = false := decide_eq_false (by omega)
  have a2 : decide (64 < (lim : Int)) = false := decide_eq_false (by omega)
  go_enter Try.func6, Try.ntmps6
  go_wp2
  go_ret2
  refine ⟨_, rfl, Nat.le_refl _, ⟨.slice none 0 0, ?_, ?_, ?_, RowS.nil _ _, by simp [Value.ownBlock], by simp, h1, h2⟩, (Below.refl _ w).alloc (Nat.le_refl _) _⟩
  · rw [World.cell?_alloc_new]; rfl
  · rw [World.cell?_alloc_new]; rfl
  · unfold World.frozen?; rw [heap_alloc_new]; rfl

theorem encK_one : ∀ es : List KE, ∀ u ∈ es.flatMap encK, u.oneCell' = true := by
  intro es u hu
  obtain ⟨e, _, he⟩ := List.mem_flatMap.mp hu
  simp only [encK, List.mem_cons, List.not_mem_nil, or_false] at he
  obtain rfl | rfl | rfl := he <;> rfl
theorem owns_base {w : World} {base base' : Nat} {e : TypeId} {k n : Nat} {v : Value} {xs : List Value} (h : w.ownsRow base e k v n xs) (hb : base' ≤ base) : w.ownsRow base' e k v n xs := by
  obtain ⟨h1, h2⟩ := h
  refine ⟨h1, ?_⟩
  rcases h2 with h2 | ⟨g, cap, cur, h3, h4, h5⟩
  · exact .inl h2
  · exact .inr ⟨g, cap, cur, h3, Nat.le_trans hb h4, h5⟩

set_option maxHeartbeats 2000000 in
set_option maxRecDepth 100000 in
/-- 'slices.Clone(s)'. -/
theorem keys_clone (es : List KE) (hes : es.length ≤ 1000) (v : Value) (w : World) (hr : RowS encK w v es) :
    Calls Try.prog 20 #[v] w fun x w' => ∃ v', x = .returned v' ∧ w'.ownsRow w.heap.size 30 3 v' es.length (es.flatMap encK) ∧ Below w.heap.size w w' := by
  have q22 : ∀ (w : World) (a : Option Addr) (n c n' c' : Nat), (binOp .eql 33 (.slice a n c) (.slice none n' c')).run Try.prog w = .ok (.bool a.isNone) w := fun w a n c n' c' => Lib.run_eql_slice_nil w _ _ a n c n' c' Try.underlying33
  rcases hr with ⟨rfl, rfl⟩ | ⟨g, off, cap, rfl, h2, h3, h4, h5⟩
  · go_enter Try.func20, Try.ntmps20
    go_wp2
    go_ret
    exact ⟨_, rfl, World.ownsRow_nil _ _ _ _, Below.refl _ _⟩
  · obtain ⟨i0, hi, hz0, hz1, hz2⟩ := info_parts ke_info
    have A := Lib.hid h5
    have HE := Lib.hid hes
    clear h5 hes h2 h3 h4
    go_enter Try.func20, Try.ntmps20
    go_wp2_with (at_builtin; refine wpList_append_own _ rfl _ _ 33 rfl w.heap.size 30 i0 (.agg #[.int .u64 0, .string ByteArray.empty, .int .i64 0]) 3 32 Try.underlying33 hi hz0 hz1 hz2 rfl (by decide) _ _ _ rfl (World.ownsRow_made w #[] 0 (Nat.le_refl _) (Nat.zero_le _) rfl) ⟨g, off, none⟩ es.length cap (es.flatMap encK) rfl ?qc1 ?qc2 ?qc3 ?qc4 ?qc5 ?qc6 ?_)
    case qc1 => exact flat_len encK 3 encK_len es
    case qc2 =>
      intro j u hj
      rw [Addr.add_lit]
      exact Lib.cell?_alloc_some _ (A.out j u hj)
    case qc3 => exact encK_one es
    case qc4 => have := HE.out; unfold maxLen; omega
    case qc5 => have := HE.out; omega
    case qc6 => simp
    intro v' w1 hown hgrow hnil
    go_wp2
    go_ret
    refine ⟨v', rfl, by simpa using hown, ?_⟩
    exact ((Below.refl _ w).alloc (Nat.le_refl _) _).grown hgrow (by simp) (by intro k hk; simp [Value.ownBlock] at hk; omega)

set_option maxHeartbeats 2000000 in
theorem keys_list (g lim : Nat) (es : List KE) (w : World) (h : KeysAt w g lim es) :
    Calls Try.prog 10 #[.pointer (some ⟨g, 0, none⟩)] w fun x w' => ∃ v, x = .returned v ∧ RowS encK w' v es ∧ Below w.heap.size w w' := by
  obtain ⟨v, h1, h2, h3, h4, h5, h6, h7, h8⟩ := h
  have hl : es.length ≤ 1000 := by omega
  clear h1 h3 h5 h6 h7 h8
  obtain ⟨ad, cap, rfl, _⟩ := h4.len
  have HL := Lib.hid hl; clear hl
  have HR := Lib.hid h4; clear h4
  go_enter Try.func10, Try.ntmps10
  go_wp2_with fail
  refine (keys_clone es HL.out _ w HR.out).mono ?_
  rintro e w' ⟨v', rfl, ho, hb⟩
  go_wp2
  go_ret
  exact ⟨v', rfl, RowS.of_owns ho, hb⟩
end Go.Proofs.Ytkadlahhcldjfaa
