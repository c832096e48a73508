-- Written by a program of this claim's session (wip/tool/prune.py): what is used of a longer text. Not trusted: Lean checks it.
import Derived.Test.YtjlabkibpknkpaaDoorZFmC
namespace Go.Proofs.YtjlabkibpknkpaaDoor.FsP
open Go.RowKit Go.Proofs.YtjlabkibpknkpaaDoorW.PrintWords Go.Proofs.YtjlabkibpknkpaaDoorW.PrintLast Go.Proofs.YtjlabkibpknkpaaDoorW.PrintMore Go.Proofs.YtjlabkibpknkpaaDoor.FmM Go.Proofs.YtjlabkibpknkpaaDoor.PkP Go.Proofs.YtjlabkibpknkpaaDoor.FmN Go.Proofs.YtjlabkibpknkpaaDoor.FmC
set_option linter.unusedVariables false
set_option linter.unusedSimpArgs false
open Classical
theorem toList_inj {x y : ByteArray} : x.toList = y.toList ↔ x = y := by
  constructor
  · intro h
    rw [ByteArray.toList_eq, ByteArray.toList_eq] at h
    exact ByteArray.ext (Array.toList_inj.1 h)
  · rintro rfl; rfl
section
variable (a0 b0 : ByteArray) (a1 a2 a3 b1 b2 b3 : Int) (aw bw : List ByteArray) (am bm : List S31)
end
end Go.Proofs.YtjlabkibpknkpaaDoor.FsP
