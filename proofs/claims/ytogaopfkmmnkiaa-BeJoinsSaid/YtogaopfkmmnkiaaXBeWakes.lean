/- The signs of life of layer 1's laws: true. No conditions. -/
import Derived.Test.YtogaopfkmmnkiaaXBeSign
import Derived.Test.YtogaopfkmmnkiaaPx8
namespace Go.Proofs.Ytogaopfkmmnkiaa
open Go.RowKit Go.Proofs.YtogaopfkmmnkiaaW.PrintWords Go.Proofs.YtogaopfkmmnkiaaW.PrintLast Go.Proofs.YtogaopfkmmnkiaaW.PrintMore Go.Proofs.Ytogaopfkmmnkiaa.P
set_option linter.unusedVariables false
set_option linter.unusedSimpArgs false
namespace BeS
theorem wakes_f (k : Nat) (hk : 10 < k) : tillrolllaw01_wakes.f k = some true := by
  unfold tillrolllaw01_wakes.f
  have e1 : be_Put.f 258 2 = some (str [1, 2]) := put_in 258 (by decide) 2 (by decide) (by decide)
  have e2 : be_Get.f k (⟨#[1, 2]⟩ : ByteArray) = some 258 := get_str [1, 2] (by decide) k (by omega)
  have e3 : be_Sign.f 255 8 = some (-1) := sign_f 255 (by decide) 8 (by decide) (by decide)
  have e4 : be_Fits.f 255 1 = some true := fits_f 255 (by decide) 1 (by decide) (by decide)
  have e5 : be_Fits.f 256 1 = some false := fits_f 256 (by decide) 1 (by decide) (by decide)
  have e6 : be_Wide.f (-128) 8 = some true := wide_f (-128) 8 (by decide) (by decide)
  rw [e1]
  simp only [Option.bind_some]
  rw [str_toList, if_pos rfl, e2]
  simp only [Option.bind_some]
  rw [if_pos trivial, e3]
  simp only [Option.bind_some]
  rw [if_pos trivial, e4]
  simp only [Option.bind_some]
  rw [if_pos trivial, e5]
  simp only [Option.bind_some]
  rw [if_neg (by decide), e6]
  rfl
end BeS
end Go.Proofs.Ytogaopfkmmnkiaa
