/- Contracts of the library, laid by the kit's shelf at this chapter's program (its tools printed them; names turned). No conditions. -/
import Derived.Shelf.Strings.Builder1
import Derived.Shelf.Strings.Builder2
import Derived.Shelf.Strings.BuilderF
import Derived.Shelf.Strings.Prefix
import Derived.Shelf.Bits.Mul64
import Derived.Shelf.Strings.Repeat
import Derived.Test.YtfomgljhcegjdaaProg
namespace Go.Proofs.Ytfomgljhcegjdaa
open Go.Shelf
def sh_lays99_ren : Go.Shelf.Ren := ⟨fun | 99 => 28 | 206 => 45 | n => n, fun | 9 => 9 | 4 => 4 | 3 => 3 | n => n, fun | n => n⟩
theorem sh_lays99 : Go.Proofs.Lays.n99 Try.prog sh_lays99_ren := {
  mixed := by kernel_rfl
  f99 := Try.func28.trans (congrArg some (by kernel_rfl))
  f206 := Try.func45.trans (congrArg some (by kernel_rfl))
  t3 := Try.underlying3
  a3 := Try.isAgg3
  z3 := Try.sizeOf3
  v3 := Try.zeroValue3
  t4 := Try.underlying4
  a4 := Try.isAgg4
  z4 := Try.sizeOf4
  v4 := Try.zeroValue4
  t9 := Try.underlying9
  a9 := Try.isAgg9
  z9 := Try.sizeOf9
  v9 := Try.zeroValue9 }
open Go.RowKit Go.Lib in
theorem sh_strings_HasPrefix (s p : ByteArray) (w : World) :
    Calls Try.prog 28 #[.string s, .string p] w fun e w' => e = .returned (.bool (Lib.hasPrefix s.data.toList p.data.toList)) ∧ w' = w := Any.strings_HasPrefix sh_lays99 s p w
def sh_lays105_ren : Go.Shelf.Ren := ⟨fun | 105 => 17 | 212 => 27 | 99 => 28 | 165 => 29 | 166 => 30 | 170 => 31 | 169 => 32 | 263 => 43 | 264 => 44 | 206 => 45 | 240 => 46 | 241 => 47 | 276 => 54 | 277 => 55 | n => n, fun | 9 => 9 | 3 => 3 | 4 => 4 | 20 => 20 | 0 => 0 | 46 => 60 | 109 => 66 | 5 => 5 | 72 => 70 | 76 => 74 | 51 => 25 | 146 => 89 | 53 => 22 | 148 => 91 | 70 => 68 | 37 => 52 | 75 => 73 | 127 => 93 | 164 => 103 | 80 => 61 | n => n, fun | n => n⟩
theorem sh_lays105 : Go.Proofs.Lays.n105 Try.prog sh_lays105_ren := {
  mixed := by kernel_rfl
  f99 := Try.func28.trans (congrArg some (by kernel_rfl))
  f105 := Try.func17.trans (congrArg some (by kernel_rfl))
  f165 := Try.func29.trans (congrArg some (by kernel_rfl))
  f166 := Try.func30.trans (congrArg some (by kernel_rfl))
  f169 := Try.func32.trans (congrArg some (by kernel_rfl))
  f170 := Try.func31.trans (congrArg some (by kernel_rfl))
  f206 := Try.func45.trans (congrArg some (by kernel_rfl))
  f212 := Try.func27.trans (congrArg some (by kernel_rfl))
  f240 := Try.func46.trans (congrArg some (by kernel_rfl))
  f241 := Try.func47.trans (congrArg some (by kernel_rfl))
  f263 := Try.func43.trans (congrArg some (by kernel_rfl))
  f264 := Try.func44.trans (congrArg some (by kernel_rfl))
  f276 := Try.func54.trans (congrArg some (by kernel_rfl))
  f277 := Try.func55.trans (congrArg some (by kernel_rfl))
  t0 := Try.underlying0
  a0 := Try.isAgg0
  z0 := Try.sizeOf0
  v0 := Try.zeroValue0
  t3 := Try.underlying3
  a3 := Try.isAgg3
  z3 := Try.sizeOf3
  v3 := Try.zeroValue3
  t4 := Try.underlying4
  a4 := Try.isAgg4
  z4 := Try.sizeOf4
  v4 := Try.zeroValue4
  t5 := Try.underlying5
  a5 := Try.isAgg5
  z5 := Try.sizeOf5
  v5 := Try.zeroValue5
  t9 := Try.underlying9
  a9 := Try.isAgg9
  z9 := Try.sizeOf9
  v9 := Try.zeroValue9
  t20 := Try.underlying20
  a20 := Try.isAgg20
  z20 := Try.sizeOf20
  v20 := Try.zeroValue20
  t37 := Try.underlying52
  a37 := Try.isAgg52
  z37 := Try.sizeOf52
  v37 := Try.zeroValue52
  t46 := Try.underlying60
  a46 := Try.isAgg60
  z46 := Try.sizeOf60
  v46 := Try.zeroValue60
  t51 := Try.underlying25
  a51 := Try.isAgg25
  z51 := Try.sizeOf25
  v51 := Try.zeroValue25
  t53 := Try.underlying22
  a53 := Try.isAgg22
  z53 := Try.sizeOf22
  v53 := Try.zeroValue22
  t70 := Try.underlying68
  a70 := Try.isAgg68
  z70 := Try.sizeOf68
  v70 := Try.zeroValue68
  t72 := Try.underlying70
  a72 := Try.isAgg70
  z72 := Try.sizeOf70
  v72 := Try.zeroValue70
  t75 := Try.underlying73
  a75 := Try.isAgg73
  z75 := Try.sizeOf73
  v75 := Try.zeroValue73
  t76 := Try.underlying74
  a76 := Try.isAgg74
  z76 := Try.sizeOf74
  v76 := Try.zeroValue74
  t109 := Try.underlying66
  a109 := Try.isAgg66
  z109 := Try.sizeOf66
  v109 := Try.zeroValue66
  t127 := Try.underlying93
  a127 := Try.isAgg93
  z127 := Try.sizeOf93
  v127 := Try.zeroValue93
  t146 := Try.underlying89
  a146 := Try.isAgg89
  z146 := Try.sizeOf89
  v146 := Try.zeroValue89
  t148 := Try.underlying91
  a148 := Try.isAgg91
  z148 := Try.sizeOf91
  v148 := Try.zeroValue91
  t164 := Try.underlying103
  a164 := Try.isAgg103
  z164 := Try.sizeOf103
  v164 := Try.zeroValue103 }
theorem sh_Builder_Extra_105 : Builder.Extra Try.prog sh_lays105_ren := {
  sizeBuilder := by kernel_rfl
  liesBuilder := by kernel_rfl
  t5 := Try.underlying5
  a5 := Try.isAgg5
  z5 := Try.sizeOf5
  v5 := Try.zeroValue5
  infoByte := by kernel_rfl
  cellsByte := by kernel_rfl
  sizeByte := by kernel_rfl
  neB5 := by decide }
open Go.RowKit Go.Lib in
theorem sh_strings_Repeat (s : ByteArray) (c : Nat) (w : World) (hc : c ≤ 9223372036854775807) (hlen : s.size * c ≤ 140737488355328) :
    Calls Try.prog 17 #[.string s, .int .i64 c] w fun e w' => e = .returned (.string ⟨(Lib.repeatL s.data.toList c).toArray⟩) ∧ Below w.heap.size w w' := Any.strings_Repeat sh_lays105 sh_Builder_Extra_105 s c w hc hlen
end Go.Proofs.Ytfomgljhcegjdaa
