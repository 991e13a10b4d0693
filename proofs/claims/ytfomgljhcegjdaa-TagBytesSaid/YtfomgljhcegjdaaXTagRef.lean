/- The document's tags out of the printed functions. No conditions. -/
import Derived.Test.YtfomgljhcegjdaaXTagL
import Derived.Test.YtfomgljhcegjdaaXPolyRef
import Derived.Test.YtfomgljhcegjdaaXBeRef
import Derived.Test.YtfomgljhcegjdaaPx7
import Derived.Test.YtfomgljhcegjdaaPx8
namespace Go.Proofs.Ytfomgljhcegjdaa
open Go.RowKit Go.Proofs.Ytfomgljhcegjdaa.P Go.Proofs.Ytfomgljhcegjdaa.BeS Go.Proofs.Ytfomgljhcegjdaa.PoS Go.Proofs.YtfomgljhcegjdaaW.PrintWords Go.Proofs.YtfomgljhcegjdaaW.PrintLast Go.Proofs.YtfomgljhcegjdaaW.PrintMore
set_option linter.unusedVariables false
set_option linter.unusedSimpArgs false
def frW (t : Tg) (d : List UInt8) : List UInt8 × Int := if t.right = true then (frameT t d, 0) else ([], 2)
theorem rright_f (t : Tg) : tillrollref06_Right.f (t.kind : Int) t.log (t.seq : Int) t.pos t.len = some t.right := by
  obtain ⟨k, l, s, p, n⟩ := t
  unfold tillrollref06_Right.f Tg.right
  simp only
  repeat' split
  all_goals (congr 1; simp only [eq_comm (a := false), decide_eq_false_iff_not, decide_eq_decide]; omega)
theorem num_str (n : Int) : strOfNums [n] = str [UInt8.ofNat n.toNat] := by rw [strOfNums_cons]; rfl
theorem num2_str (n m : Int) : strOfNums [n, m] = str [UInt8.ofNat n.toNat, UInt8.ofNat m.toNat] := by rw [strOfNums_cons, strOfNums_cons]; rfl
theorem putL1 (n : Nat) : putL n 1 = [UInt8.ofNat n] := by
  have h := getN_putL n 1
  have hl := putL_length n 1
  match hp : putL n 1, hl with
  | [x], _ =>
    rw [hp] at h
    have : x.toNat = n % 256 := by simpa [getN] using h
    congr 1
    apply UInt8.toNat_inj.1
    rw [this, UInt8.toNat_ofNat']
theorem fr_l0 (a : ByteArray) (r : Option (ByteArray × Int)) (d : Nat) : ∀ (x : List UInt8) (k : Nat), x.length + d = 28 → d < k →
    tillrollref06_Frame.l0 (k - d) a (str (x ++ List.replicate d 0)) = r → tillrollref06_Frame.l0 k a (str x) = r := by
  induction d with
  | zero =>
    intro x k h hk hr
    rw [List.replicate_zero, List.append_nil, Nat.sub_zero] at hr
    exact hr
  | succ d ih =>
    intro x k h hk hr
    obtain ⟨k, rfl⟩ : ∃ m, k = m + 1 := ⟨k - 1, by omega⟩
    simp only [tillrollref06_Frame.l0]
    rw [if_pos (by rw [str_size]; omega), if_pos (by rw [str_size]; omega), show (⟨#[0]⟩ : ByteArray) = str [0] from rfl, str_append]
    refine ih (x ++ [0]) k (by rw [List.length_append]; simp; omega) (by omega) ?_
    rw [List.append_assoc, show [0] ++ List.replicate d (0 : UInt8) = List.replicate (d + 1) 0 from rfl, ← hr]
    congr 1
    omega
theorem ref_frame_f (t : Tg) (hk0 : t.kind < 256) (hs : t.seq < 18446744073709551616) (d : ByteArray) (hd : d.size ≤ 1000) (k : Nat) (hk : 20000 < k) :
    tillrollref06_Frame.f k (t.kind : Int) t.log (t.seq : Int) t.pos t.len d = some (str (frW t d.data.toList).1, (frW t d.data.toList).2) := by
  unfold tillrollref06_Frame.f frW
  rw [rright_f t, Option.bind_some]
  by_cases hr : t.right = true
  · rw [if_pos hr, if_pos hr]
    obtain ⟨h1, h2, h3, h4⟩ := (right_iff t).1 hr
    obtain ⟨kd, l, s, p, n⟩ := t
    simp only at h1 h2 h3 h4 hs hk0 ⊢
    obtain ⟨l, rfl⟩ := Int.eq_ofNat_of_zero_le h2.1
    obtain ⟨p, rfl⟩ := Int.eq_ofNat_of_zero_le h4.1
    obtain ⟨n, rfl⟩ := Int.eq_ofNat_of_zero_le (show 0 ≤ n by omega)
    rw [show IntKind.u64.wrap (l : Int) = (l : Int) from wrap_u64_in _ (by omega) (by omega)]
    rw [show (2 : Int) = ((2 : Nat) : Int) from rfl, ref_put_in l (by omega) 2 (by decide) (by decide) k (by omega), Option.bind_some]
    rw [show (8 : Int) = ((8 : Nat) : Int) from rfl, ref_put_in s hs 8 (by decide) (by decide) k (by omega), Option.bind_some, Option.bind_some]
    rw [num_str, show (⟨#[255]⟩ : ByteArray) = str [255] from rfl, str_append, str_append, str_append, Option.bind_some, num2_str, str_append]
    rw [if_pos (by simp only [str_size, List.length_append, List.length_cons, List.length_nil, putL_length]; omega), if_pos (by simp only [str_size, List.length_append, List.length_cons, List.length_nil, putL_length]; omega), if_pos (by simp only [str_size, List.length_append, List.length_cons, List.length_nil, putL_length]; omega), if_pos (by simp only [str_size, List.length_append, List.length_cons, List.length_nil, putL_length]; omega)]
    refine fr_l0 d _ 14 _ k (by simp [putL_length]) (by omega) ?_
    have e : ([255] ++ [UInt8.ofNat ((kd : Int)).toNat] ++ putL l 2 ++ putL s 8 ++ [UInt8.ofNat ((p : Int) % 256).toNat, UInt8.ofNat ((n : Int) % 256).toNat]) ++ List.replicate 14 0 = bytesT ⟨kd, (l : Int), s, (p : Int), (n : Int)⟩ := by
      have e1 : ((p : Int) % 256).toNat = p := by omega
      have e2 : ((n : Int) % 256).toNat = n := by omega
      unfold bytesT
      simp only [Int.toNat_natCast]
      rw [e1, e2, putL1, putL1, putL1]
      simp
    rw [e]
    obtain ⟨q, hq⟩ : ∃ q, k - 14 = q + 1 := ⟨k - 15, by omega⟩
    rw [hq]
    simp only [tillrollref06_Frame.l0]
    have hbl := bytesT_len ⟨kd, (l : Int), s, (p : Int), (n : Int)⟩
    unfold frameT sumT
    generalize bytesT ⟨kd, (l : Int), s, (p : Int), (n : Int)⟩ = bT at hbl
    rw [if_neg (by rw [str_size]; omega), if_pos (by rw [str_size]; omega)]
    have hdl : (d ++ str bT).data.toList = d.data.toList ++ bT := by simp [str_data]
    have hsz : (d ++ str bT).size = d.size + 28 := by rw [ByteArray.size_append, str_size, hbl]
    rw [ref_sum_f (d ++ str bT) (by omega) q (by omega), Option.bind_some, hdl]
    unfold v32
    rw [show (4 : Int) = ((4 : Nat) : Int) from rfl, ref_put_in _ (Nat.lt_trans (BitVec.isLt _) (by decide)) 4 (by decide) (by decide) q (by omega), Option.bind_some]
    rw [if_pos (by rw [str_size, str_size, putL_length]; omega), str_append]
  · rw [if_neg hr, if_neg hr]
    rfl
end Go.Proofs.Ytfomgljhcegjdaa
