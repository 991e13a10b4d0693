/- sale: meets. No conditions beyond those that are written. -/
import Derived.Test.YtdeeakjkhcdkaaaXSaleF
import Derived.Deep.Cut
namespace Go.Proofs.Ytdeeakjkhcdkaaa
open Go.RowKit Go.Lib Go.Proofs.YtdeeakjkhcdkaaaW.PrintWords Go.Proofs.YtdeeakjkhcdkaaaW.PrintLast Go.Proofs.YtdeeakjkhcdkaaaW.PrintMore
set_option linter.unusedVariables false
set_option linter.unusedSimpArgs false
--@tables
/-- What is asked for. -/
structure AK where
  ks : List Int
  shift : Int
  acc : Int
  least : Int
  most : Int
  open_ : Bool
def aggK (a : AK) (kv : Value) : Value := .agg #[kv, .int .i64 a.shift, .int .i64 a.acc, .int .i64 a.least, .int .i64 a.most, .bool a.open_]
def bad1 (a : AK) (t : TP) : Bool := !a.ks.isEmpty && !HasK t.kind a.ks
def bad2 (a : AK) (t : TP) : Bool := !(a.shift == 0) && !(t.shift == a.shift)
def bad3 (a : AK) (t : TP) : Bool := !(a.acc == 0) && !t.ls.any (onL a.acc)
def bad4 (a : AK) (t : TP) : Bool := a.open_ && (!(t.kind == 1) || (t.left == 0))
def good5 (a : AK) (t : TP) : Bool := decide (a.least ≤ t.amount) && decide (t.amount ≤ a.most)
def meetsF (a : AK) (t : TP) : Bool := !bad1 a t && (!bad2 a t && (!bad3 a t && (!bad4 a t && good5 a t)))
/-- A block of six cells: what is asked. -/
def BoxK (w : World) (b : Nat) (a : AK) (kv : Value) : Prop := w.heap[b]? = some (.cells #[kv, .int .i64 a.shift, .int .i64 a.acc, .int .i64 a.least, .int .i64 a.most, .bool a.open_] 55 (0, 0))
theorem BoxK.cells {w : World} {b : Nat} {a : AK} {kv : Value} (h : BoxK w b a kv) : w.cell? ⟨b, 0, none⟩ = some kv ∧ w.cell? ⟨b, 1, none⟩ = some (.int .i64 a.shift) ∧ w.cell? ⟨b, 2, none⟩ = some (.int .i64 a.acc) ∧ w.cell? ⟨b, 3, none⟩ = some (.int .i64 a.least) ∧ w.cell? ⟨b, 4, none⟩ = some (.int .i64 a.most) ∧ w.cell? ⟨b, 5, none⟩ = some (.bool a.open_) :=
  ⟨cell_of_row w b 0 _ _ (0, 0) h, cell_of_row w b 1 _ _ (0, 0) h, cell_of_row w b 2 _ _ (0, 0) h, cell_of_row w b 3 _ _ (0, 0) h, cell_of_row w b 4 _ _ (0, 0) h, cell_of_row w b 5 _ _ (0, 0) h⟩
structure MeetW (w0 w : World) (ba bt : Nat) (a : AK) (kv : Value) (t : TP) (tv : Value) : Prop where
  k : BoxK w ba a kv
  bx : BoxT w bt t tv
  ks : RowS encU w kv a.ks
  ls : RowS encL w tv t.ls
  b : Below w0.heap.size w0 w
theorem MeetW.below {w0 w w' : World} {ba bt : Nat} {a : AK} {kv : Value} {t : TP} {tv : Value} (h : MeetW w0 w ba bt a kv t tv) (hb : Below w.heap.size w w') : MeetW w0 w' ba bt a kv t tv := ⟨blk_below h.k hb, h.bx.below hb, h.ks.below hb, h.ls.below hb, chain2 h.b hb⟩
set_option maxHeartbeats 8000000 in
set_option maxRecDepth 100000 in
theorem meets_ok (a : AK) (kv : Value) (t : TP) (tv : Value) (w : World) (hks : RowS encU w kv a.ks) (hkl : a.ks.length ≤ 1000) (hr : RowS encL w tv t.ls) (hl : t.ls.length ≤ 1000000) :
    Calls Try.prog 34 #[aggK a kv, aggT t tv] w fun e w' => e = .returned (.bool (meetsF a t)) ∧ Below w.heap.size w w' := by
  unfold aggT aggK
  obtain ⟨va, vc, rfl, _⟩ := hr.len
  obtain ⟨ka, kc, rfl, _⟩ := hks.len
  have b1 := below_alloc (Below.refl w.heap.size w) (.cells #[.slice ka a.ks.length kc, .int .i64 a.shift, .int .i64 a.acc, .int .i64 a.least, .int .i64 a.most, .bool a.open_] 55)
  have s1 := alloc_size w (.cells #[.slice ka a.ks.length kc, .int .i64 a.shift, .int .i64 a.acc, .int .i64 a.least, .int .i64 a.most, .bool a.open_] 55)
  have b2 := below_alloc b1 (.cells #[.int .i64 t.num, .int .u8 t.kind, .int .i64 t.shift, .int .i64 t.ref, .int .i64 t.amount, .int .i64 t.left, .bool t.void, .slice va t.ls.length vc] 37)
  have hx := BoxT.new (w.alloc (.cells #[.slice ka a.ks.length kc, .int .i64 a.shift, .int .i64 a.acc, .int .i64 a.least, .int .i64 a.most, .bool a.open_] 55)) t (.slice va t.ls.length vc)
  rw [s1] at hx
  have HM := Lib.hid (MeetW.mk (show BoxK _ w.heap.size a (.slice ka a.ks.length kc) from alloc_keep (heap_alloc_new w _) _) hx (hks.below b2) (hr.below b2) b2)
  have HKl := Lib.hid hkl; clear hkl
  have HL := Lib.hid hl; clear hl
  clear b1 s1 b2 hx hr hks
  go_enter Try.func34, Try.ntmps34
  go_upto_region 1 with (fail)
  generalize (w.alloc (.cells #[.slice ka a.ks.length kc, .int .i64 a.shift, .int .i64 a.acc, .int .i64 a.least, .int .i64 a.most, .bool a.open_] 55)).alloc (.cells #[.int .i64 t.num, .int .u8 t.kind, .int .i64 t.shift, .int .i64 t.ref, .int .i64 t.amount, .int .i64 t.left, .bool t.void, .slice va t.ls.length vc] 37) = W at HM ⊢
  generalize w.heap.size + 1 = bt at HM ⊢
  generalize hba : w.heap.size = ba at HM ⊢
  clear hba
  go_cut [0, 1, 5] from 6 (fun s0 s1 s5 wx => s5 = .bool (bad1 a t) ∧ MeetW w wx ba bt a (.slice ka a.ks.length kc) t (.slice va t.ls.length vc))
  case first =>
    obtain ⟨x0, x1, x2, x3, x4, x5⟩ := HM.out.k.cells
    obtain ⟨y0, y1, y2, y3, y4, y5, y6, y7⟩ := HM.out.bx.cells
    by_cases he : a.ks.length = 0
    · have q1 : decide (0 < a.ks.length) = false := decide_eq_false (by omega)
      have q2 : decide (0 < (a.ks.length : Int)) = false := decide_eq_false (by omega)
      have HE := Lib.hid (show bad1 a t = false by unfold bad1; rw [List.length_eq_zero_iff.mp he]; rfl)
      clear he
      go_wp2_with fail
      go_meet
      case rel => exact ⟨by rw [HE.out], HM.out⟩
    · have q1 : decide (0 < a.ks.length) = true := decide_eq_true (by omega)
      have q2 : decide (0 < (a.ks.length : Int)) = true := decide_eq_true (by omega)
      have HE := Lib.hid (show bad1 a t = !HasK t.kind a.ks by unfold bad1; cases hk : a.ks with | nil => rw [hk] at he; simp at he | cons x xs => rfl)
      clear he
      go_wp2_with fail
      refine (kinds_has t.kind a.ks HKl.out _ W HM.out.ks).mono ?_
      rintro e w' ⟨rfl, hd⟩
      replace HM := Lib.hid (HM.out.below hd)
      clear hd x0 x1 x2 x3 x4 x5 y0 y1 y2 y3 y4 y5 y6 y7
      go_wp2_with fail
      go_meet
      case rel => exact ⟨by rw [HE.out], HM.out⟩
  case rest =>
    obtain ⟨rfl, hm⟩ := hcut
    clear HM
    have HM := Lib.hid hm; clear hm
    cases h1 : bad1 a t with
    | true =>
      have HF := Lib.hid (show meetsF a t = false by unfold meetsF; rw [h1]; rfl)
      go_wp2
      go_ret
      exact ⟨by rw [HF.out]; rfl, HM.out.b⟩
    | false =>
      have H1 := Lib.hid h1
      clear h1
      go_upto_region 2 with (fail)
      go_cut [0, 1, 5] from 6 (fun s0 s1 s5 wx => s5 = .bool (bad2 a t) ∧ MeetW w wx ba bt a (.slice ka a.ks.length kc) t (.slice va t.ls.length vc))
      case first =>
        obtain ⟨x0, x1, x2, x3, x4, x5⟩ := HM.out.k.cells
        obtain ⟨y0, y1, y2, y3, y4, y5, y6, y7⟩ := HM.out.bx.cells
        by_cases he : a.shift = 0
        · have q1 : (a.shift == 0) = true := by simpa using he
          have q2 : (a.shift != 0) = false := by rw [bne, q1]; rfl
          have HE := Lib.hid (show bad2 a t = false by unfold bad2; rw [q1]; rfl)
          clear he
          go_wp2_with fail
          go_meet
          case rel => exact ⟨by rw [HE.out], HM.out⟩
        · have q1 : (a.shift == 0) = false := by simpa using he
          have q2 : (a.shift != 0) = true := by rw [bne, q1]; rfl
          have HE := Lib.hid (show bad2 a t = !(t.shift == a.shift) by unfold bad2; rw [q1]; rfl)
          clear he
          go_wp2_with fail
          go_meet
          case rel => exact ⟨by rw [HE.out]; rfl, HM.out⟩
      case rest =>
        obtain ⟨rfl, hm⟩ := hcut
        clear HM
        have HM := Lib.hid hm; clear hm
        cases h2 : bad2 a t with
        | true =>
          have HF := Lib.hid (show meetsF a t = false by unfold meetsF; rw [H1.out, h2]; simp)
          go_wp2
          go_ret
          exact ⟨by rw [HF.out]; rfl, HM.out.b⟩
        | false =>
          have H2 := Lib.hid h2
          clear h2
          go_upto_region 3 with (fail)
          go_cut [0, 1, 5] from 6 (fun s0 s1 s5 wx => s5 = .bool (bad3 a t) ∧ MeetW w wx ba bt a (.slice ka a.ks.length kc) t (.slice va t.ls.length vc))
          case first =>
            obtain ⟨x0, x1, x2, x3, x4, x5⟩ := HM.out.k.cells
            obtain ⟨y0, y1, y2, y3, y4, y5, y6, y7⟩ := HM.out.bx.cells
            by_cases he : a.acc = 0
            · have q1 : (a.acc == 0) = true := by simpa using he
              have q2 : (a.acc != 0) = false := by rw [bne, q1]; rfl
              have HE := Lib.hid (show bad3 a t = false by unfold bad3; rw [q1]; rfl)
              clear he
              go_wp2_with fail
              go_meet
              case rel => exact ⟨by rw [HE.out], HM.out⟩
            · have q1 : (a.acc == 0) = false := by simpa using he
              have q2 : (a.acc != 0) = true := by rw [bne, q1]; rfl
              have HE := Lib.hid (show bad3 a t = !t.ls.any (onL a.acc) by unfold bad3; rw [q1]; rfl)
              have hon := on_ok t (.slice va t.ls.length vc) a.acc wc HM.out.ls HL.out
              unfold aggT at hon
              have HOn := Lib.hid hon; clear hon
              clear he
              go_wp2_with fail
              refine HOn.out.mono ?_
              clear HOn
              rintro e w' ⟨rfl, hd⟩
              replace HM := Lib.hid (HM.out.below hd)
              clear hd x0 x1 x2 x3 x4 x5 y0 y1 y2 y3 y4 y5 y6 y7
              go_wp2_with fail
              go_meet
              case rel => exact ⟨by rw [HE.out], HM.out⟩
          case rest =>
            obtain ⟨rfl, hm⟩ := hcut
            clear HM
            have HM := Lib.hid hm; clear hm
            cases h3 : bad3 a t with
            | true =>
              have HF := Lib.hid (show meetsF a t = false by unfold meetsF; rw [H1.out, H2.out, h3]; simp)
              go_wp2
              go_ret
              exact ⟨by rw [HF.out]; rfl, HM.out.b⟩
            | false =>
              have H3 := Lib.hid h3
              clear h3
              go_upto_region 5 with (fail)
              go_cut [0, 1, 5, 38] from 39 (fun s0 s1 s6 s5 wx => s5 = .bool (bad4 a t) ∧ MeetW w wx ba bt a (.slice ka a.ks.length kc) t (.slice va t.ls.length vc))
              case first =>
                obtain ⟨x0, x1, x2, x3, x4, x5⟩ := HM.out.k.cells
                obtain ⟨y0, y1, y2, y3, y4, y5, y6, y7⟩ := HM.out.bx.cells
                cases he : a.open_ with
                | false =>
                  have HE := Lib.hid (show bad4 a t = false by unfold bad4; rw [he]; rfl)
                  rw [he] at x5
                  replace he := Lib.hid he
                  go_wp2_with fail
                  go_meet
                  case rel => exact ⟨by rw [HE.out], HM.out⟩
                | true =>
                  rw [he] at x5
                  by_cases hk : t.kind = 1
                  · have q1 : (t.kind == 1) = true := by simpa using hk
                    have q2 : (t.kind != 1) = false := by rw [bne, q1]; rfl
                    have HE := Lib.hid (show bad4 a t = (t.left == 0) by unfold bad4; rw [he, q1]; rfl)
                    replace he := Lib.hid he
                    clear hk
                    go_wp2_with fail
                    go_meet
                    case rel => exact ⟨by rw [HE.out], HM.out⟩
                  · have q1 : (t.kind == 1) = false := by simpa using hk
                    have q2 : (t.kind != 1) = true := by rw [bne, q1]; rfl
                    have HE := Lib.hid (show bad4 a t = true by unfold bad4; rw [he, q1]; rfl)
                    replace he := Lib.hid he
                    clear hk
                    go_wp2_with fail
                    go_meet
                    case rel => exact ⟨by rw [HE.out], HM.out⟩
              case rest =>
                obtain ⟨rfl, hm⟩ := hcut
                clear HM
                have HM := Lib.hid hm; clear hm
                cases h4 : bad4 a t with
                | true =>
                  have HF := Lib.hid (show meetsF a t = false by unfold meetsF; rw [H1.out, H2.out, H3.out, h4]; simp)
                  go_wp2
                  go_ret
                  exact ⟨by rw [HF.out]; rfl, HM.out.b⟩
                | false =>
                  have H4 := Lib.hid h4
                  clear h4
                  obtain ⟨x0, x1, x2, x3, x4, x5⟩ := HM.out.k.cells
                  obtain ⟨y0, y1, y2, y3, y4, y5, y6, y7⟩ := HM.out.bx.cells
                  have HF := Lib.hid (show meetsF a t = good5 a t by unfold meetsF; rw [H1.out, H2.out, H3.out, H4.out]; simp)
                  by_cases hg : a.least ≤ t.amount
                  · have q1 : decide (a.least ≤ t.amount) = true := decide_eq_true hg
                    have HE := Lib.hid (show good5 a t = decide (t.amount ≤ a.most) by unfold good5; rw [q1]; rfl)
                    clear hg
                    go_wp2
                    go_ret
                    exact ⟨by rw [HF.out, HE.out]; rfl, HM.out.b⟩
                  · have q1 : decide (a.least ≤ t.amount) = false := decide_eq_false hg
                    have HE := Lib.hid (show good5 a t = false by unfold good5; rw [q1]; rfl)
                    clear hg
                    go_wp2
                    go_ret
                    exact ⟨by rw [HF.out, HE.out]; rfl, HM.out.b⟩
end Go.Proofs.Ytdeeakjkhcdkaaa
