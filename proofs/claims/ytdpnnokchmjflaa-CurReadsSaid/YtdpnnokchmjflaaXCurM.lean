/- Layer 4's laws: fields that came in, and rows of them. No program's walk. -/
import Derived.Test.YtdpnnokchmjflaaXCurOf
namespace Go.Proofs.Ytdpnnokchmjflaa
open Go.RowKit Go.Lib Go.Proofs.Ytdpnnokchmjflaa.P Go.Proofs.Ytdpnnokchmjflaa.BeS Go.Proofs.YtdpnnokchmjflaaW.PrintWords Go.Proofs.YtdpnnokchmjflaaW.PrintLast Go.Proofs.YtdpnnokchmjflaaW.PrintMore
set_option linter.unusedVariables false
set_option linter.unusedSimpArgs false
--@tables
/-- The cells of one field at a place. -/
def FdAt (w : World) (g o : Nat) (f : Fd) : Prop := w.cell? ⟨g, o, none⟩ = some (.int .i64 f.kind) ∧ w.cell? ⟨g, o + 1, none⟩ = some (.int .i64 f.width) ∧ w.cell? ⟨g, o + 2, none⟩ = some (.int .u64 (f.n : Int)) ∧ w.cell? ⟨g, o + 3, none⟩ = some (.string f.s)
theorem FdAt.below {w w' : World} {g o : Nat} {f : Fd} (h : FdAt w g o f) (hb : Below w.heap.size w w') : FdAt w' g o f :=
  ⟨pw_cell_below hb h.1, pw_cell_below hb h.2.1, pw_cell_below hb h.2.2.1, pw_cell_below hb h.2.2.2⟩
def FdsAt (w : World) (a : Option Addr) (fs : List Fd) : Prop := ∀ i, ∀ h : i < fs.length, fs[i].In ∧ ∃ g off, a = some ⟨g, off, none⟩ ∧ FdAt w g (off + i * 4) fs[i]
theorem fds_of {w : World} {a : Option Addr} {len : Nat} (h : RowIn w [.int .i64, .int .i64, .int .u64, .str] a len) : ∃ fs : List Fd, fs.length = len ∧ FdsAt w a fs := by
  obtain ⟨fs, h1, h2⟩ := list_of (fun i (f : Fd) => f.In ∧ ∃ g off, a = some ⟨g, off, none⟩ ∧ FdAt w g (off + i * 4) f) len (fun i hi => by
    obtain ⟨g, off, vs, rfl, ho, hc⟩ := h i hi
    obtain ⟨v0, vs1, rfl, ⟨k, rfl, hk⟩, ho1⟩ := Kd.oks_cons ho
    obtain ⟨v1, vs2, rfl, ⟨wd, rfl, hw⟩, ho2⟩ := Kd.oks_cons ho1
    obtain ⟨v2, vs3, rfl, ⟨n, rfl, hn⟩, ho3⟩ := Kd.oks_cons ho2
    obtain ⟨v3, vs4, rfl, ⟨s, rfl, hs⟩, ho4⟩ := Kd.oks_cons ho3
    obtain ⟨m, rfl, hm⟩ := wf_u64 hn
    exact ⟨⟨k, wd, m, s⟩, ⟨(wf_i64 hk).1, (wf_i64 hk).2, (wf_i64 hw).1, (wf_i64 hw).2, hm⟩, g, off, rfl, hc 0 _ rfl, hc 1 _ rfl, hc 2 _ rfl, hc 3 _ rfl⟩)
  exact ⟨fs, h1, h2⟩
theorem encF_one : ∀ es : List Fd, ∀ u ∈ es.flatMap encF, u.oneCell' = true := by
  intro es u hu
  obtain ⟨e, _, he⟩ := List.mem_flatMap.mp hu
  simp only [encF, List.mem_cons, List.not_mem_nil, or_false] at he
  obtain rfl | rfl | rfl | rfl := he <;> rfl
/-- An own row of fields. -/
def FRow (w : World) (base : Nat) (v : Value) (fs : List Fd) : Prop := w.ownsRow base 27 4 v fs.length (fs.flatMap encF)
theorem FRow.below {w w' : World} {base : Nat} {v : Value} {fs : List Fd} (h : FRow w base v fs) (hb : Below w.heap.size w w') : FRow w' base v fs := pw_own_below h hb
theorem FRow.form {w : World} {base : Nat} {v : Value} {fs : List Fd} (h : FRow w base v fs) : ∃ a c, v = .slice a fs.length c := own_slice h
theorem FRow.at_ {w : World} {base : Nat} {v : Value} {fs : List Fd} (h : FRow w base v fs) (i : Nat) (hi : i < fs.length) : ∃ g cap, v = .slice (some ⟨g, 0, none⟩) fs.length cap ∧ FdAt w g (i * 4) fs[i] := by
  rcases h.2 with ⟨rfl, h2⟩ | ⟨g, cap, cur, rfl, _⟩
  · omega
  · have hc := h.cells (g := g) rfl
    have hx : ∀ j u, (encF fs[i])[j]? = some u → w.cell? ⟨g, i * 4 + j, none⟩ = some u := by
      intro j u hu
      have hj : j < 4 := (List.getElem?_eq_some_iff.1 hu).1
      have := hc (i * 4 + j) u (by rw [flat_get encF 4 encF_len fs i j hi hj]; exact hu)
      rw [Addr.add_lit, Nat.zero_add] at this
      exact this
    exact ⟨g, cap, rfl, hx 0 _ rfl, hx 1 _ rfl, hx 2 _ rfl, hx 3 _ rfl⟩
theorem fd_info : (Try.prog.info? 27).map (fun i => (i.zero, i.size, i.bytes)) = some (some (.agg #[.int .i64 0, .int .i64 0, .int .u64 0, .string ByteArray.empty]), 4, 40) := by kernel_rfl
theorem FRow.more {w : World} {base : Nat} {v : Value} {fs : List Fd} {f : Fd} (h : w.ownsRow base 27 4 v (fs.length + 1) (fs.flatMap encF ++ encF f)) : FRow w base v (fs ++ [f]) := by
  unfold FRow
  rw [List.length_append, List.flatMap_append]
  simpa using h
end Go.Proofs.Ytdpnnokchmjflaa
