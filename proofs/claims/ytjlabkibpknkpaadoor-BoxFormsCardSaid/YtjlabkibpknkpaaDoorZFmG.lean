-- Printed by prune.py: the used part of a text.
import Derived.Test.YtjlabkibpknkpaaDoorZShelf
import Derived.Test.YtjlabkibpknkpaaDoorZCm
namespace Go.Proofs.YtjlabkibpknkpaaDoor.FmG
open Go.RowKit Go.Proofs.YtjlabkibpknkpaaDoorW.PrintWords Go.Proofs.YtjlabkibpknkpaaDoorW.PrintLast Go.Proofs.YtjlabkibpknkpaaDoorW.PrintMore
set_option linter.unusedVariables false
set_option linter.unusedSimpArgs false
def strings_IndexByte.f (a0 : ByteArray) (a1 : Int) : Option Int := some (Lib.indexByte a0.data.toList a1.toNat.toUInt8)
theorem strings_IndexByte.calls (a0 : ByteArray) (a1 : Int) (r : Int) (w : World) (h : strings_IndexByte.f a0 a1 = some r) : Calls Tryd.prog 55 #[.string a0, .int .u8 a1] w fun e w' => e = .returned (.int .i64 r) ∧ Drawn0 w w' := by
  cases h
  refine (Tryd.strings_IndexByte a0 a1 w).mono ?_
  rintro e w' ⟨rfl, rfl⟩
  exact ⟨rfl, Drawn0.refl _⟩
end Go.Proofs.YtjlabkibpknkpaaDoor.FmG
