/- Contracts of the library, laid by the kit's shelf at this chapter's program (its tools printed them; names turned). No conditions. -/
import Derived.Shelf.Strings.Builder1
import Derived.Shelf.Strings.Builder2
import Derived.Shelf.Strings.BuilderF
import Derived.Shelf.Strings.Prefix
import Derived.Shelf.Bits.Mul64
import Derived.Shelf.Strings.Repeat
import Derived.Test.YtopglieihhgaaaaProg
namespace Go.Proofs.Ytopglieihhgaaaa
open Go.Shelf
def sh_lays105_ren : Go.Shelf.Ren := ⟨fun | 105 => 20 | 212 => 24 | 99 => 25 | 165 => 26 | 166 => 27 | 170 => 28 | 169 => 29 | 263 => 30 | 264 => 31 | 206 => 32 | 240 => 33 | 241 => 34 | 276 => 35 | 277 => 36 | n => n, fun | 9 => 9 | 3 => 3 | 4 => 4 | 20 => 20 | 0 => 0 | 46 => 50 | 109 => 51 | 5 => 5 | 72 => 56 | 76 => 60 | 51 => 63 | 146 => 64 | 53 => 23 | 148 => 66 | 70 => 54 | 37 => 22 | 75 => 59 | 127 => 68 | 164 => 69 | 80 => 62 | n => n, fun | n => n⟩
theorem sh_lays105 : Go.Proofs.Lays.n105 Try.prog sh_lays105_ren := {
  mixed := by kernel_rfl
  f99 := Try.func25.trans (congrArg some (by kernel_rfl))
  f105 := Try.func20.trans (congrArg some (by kernel_rfl))
  f165 := Try.func26.trans (congrArg some (by kernel_rfl))
  f166 := Try.func27.trans (congrArg some (by kernel_rfl))
  f169 := Try.func29.trans (congrArg some (by kernel_rfl))
  f170 := Try.func28.trans (congrArg some (by kernel_rfl))
  f206 := Try.func32.trans (congrArg some (by kernel_rfl))
  f212 := Try.func24.trans (congrArg some (by kernel_rfl))
  f240 := Try.func33.trans (congrArg some (by kernel_rfl))
  f241 := Try.func34.trans (congrArg some (by kernel_rfl))
  f263 := Try.func30.trans (congrArg some (by kernel_rfl))
  f264 := Try.func31.trans (congrArg some (by kernel_rfl))
  f276 := Try.func35.trans (congrArg some (by kernel_rfl))
  f277 := Try.func36.trans (congrArg some (by kernel_rfl))
  t0 := Try.underlying0
  a0 := Try.isAgg0
  z0 := Try.sizeOf0
  v0 := Try.zeroValue0
  t3 := Try.underlying3
  a3 := Try.isAgg3
  z3 := Try.sizeOf3
  v3 := Try.zeroValue3
  t4 := Try.underlying4
  a4 := Try.isAgg4
  z4 := Try.sizeOf4
  v4 := Try.zeroValue4
  t5 := Try.underlying5
  a5 := Try.isAgg5
  z5 := Try.sizeOf5
  v5 := Try.zeroValue5
  t9 := Try.underlying9
  a9 := Try.isAgg9
  z9 := Try.sizeOf9
  v9 := Try.zeroValue9
  t20 := Try.underlying20
  a20 := Try.isAgg20
  z20 := Try.sizeOf20
  v20 := Try.zeroValue20
  t37 := Try.underlying22
  a37 := Try.isAgg22
  z37 := Try.sizeOf22
  v37 := Try.zeroValue22
  t46 := Try.underlying50
  a46 := Try.isAgg50
  z46 := Try.sizeOf50
  v46 := Try.zeroValue50
  t51 := Try.underlying63
  a51 := Try.isAgg63
  z51 := Try.sizeOf63
  v51 := Try.zeroValue63
  t53 := Try.underlying23
  a53 := Try.isAgg23
  z53 := Try.sizeOf23
  v53 := Try.zeroValue23
  t70 := Try.underlying54
  a70 := Try.isAgg54
  z70 := Try.sizeOf54
  v70 := Try.zeroValue54
  t72 := Try.underlying56
  a72 := Try.isAgg56
  z72 := Try.sizeOf56
  v72 := Try.zeroValue56
  t75 := Try.underlying59
  a75 := Try.isAgg59
  z75 := Try.sizeOf59
  v75 := Try.zeroValue59
  t76 := Try.underlying60
  a76 := Try.isAgg60
  z76 := Try.sizeOf60
  v76 := Try.zeroValue60
  t109 := Try.underlying51
  a109 := Try.isAgg51
  z109 := Try.sizeOf51
  v109 := Try.zeroValue51
  t127 := Try.underlying68
  a127 := Try.isAgg68
  z127 := Try.sizeOf68
  v127 := Try.zeroValue68
  t146 := Try.underlying64
  a146 := Try.isAgg64
  z146 := Try.sizeOf64
  v146 := Try.zeroValue64
  t148 := Try.underlying66
  a148 := Try.isAgg66
  z148 := Try.sizeOf66
  v148 := Try.zeroValue66
  t164 := Try.underlying69
  a164 := Try.isAgg69
  z164 := Try.sizeOf69
  v164 := Try.zeroValue69 }
theorem sh_Builder_Extra_105 : Builder.Extra Try.prog sh_lays105_ren := {
  sizeBuilder := by kernel_rfl
  liesBuilder := by kernel_rfl
  t5 := Try.underlying5
  a5 := Try.isAgg5
  z5 := Try.sizeOf5
  v5 := Try.zeroValue5
  infoByte := by kernel_rfl
  cellsByte := by kernel_rfl
  sizeByte := by kernel_rfl
  neB5 := by decide }
open Go.RowKit Go.Lib in
theorem sh_strings_Repeat (s : ByteArray) (c : Nat) (w : World) (hc : c ≤ 9223372036854775807) (hlen : s.size * c ≤ 140737488355328) :
    Calls Try.prog 20 #[.string s, .int .i64 c] w fun e w' => e = .returned (.string ⟨(Lib.repeatL s.data.toList c).toArray⟩) ∧ Below w.heap.size w w' := Any.strings_Repeat sh_lays105 sh_Builder_Extra_105 s c w hc hlen
end Go.Proofs.Ytopglieihhgaaaa
