-- Written by a program of this claim's session (wip/tool/prune.py): what is used of a longer text. Not trusted: Lean checks it.
import Derived.Test.YtjlabkibpknkpaaZFpV
import Derived.Test.YtjlabkibpknkpaaZFmA
namespace Go.Proofs.Ytjlabkibpknkpaa.FpW
open Go.RowKit Go.Proofs.YtjlabkibpknkpaaW.PrintWords Go.Proofs.YtjlabkibpknkpaaW.PrintLast Go.Proofs.YtjlabkibpknkpaaW.PrintMore Go.Proofs.Ytjlabkibpknkpaa.FmM Go.Proofs.Ytjlabkibpknkpaa.PkP Go.Proofs.Ytjlabkibpknkpaa.FmN Go.Proofs.Ytjlabkibpknkpaa.FmC Go.Proofs.Ytjlabkibpknkpaa.FmH Go.Proofs.Ytjlabkibpknkpaa.FmY Go.Proofs.Ytjlabkibpknkpaa.FmA Go.Proofs.Ytjlabkibpknkpaa.FpP Go.Proofs.Ytjlabkibpknkpaa.FpQ Go.Proofs.Ytjlabkibpknkpaa.FpS Go.Proofs.Ytjlabkibpknkpaa.FpV
set_option linter.unusedVariables false
set_option linter.unusedSimpArgs false
theorem parse_no {bs : List Int} {id : ByteArray} (h : (parseP bs id).2 ≠ 0) : (parseP bs id).1 = noBox := by
  unfold parseP at h ⊢
  (repeat' split at h) <;> (repeat' split) <;> first | rfl | (exfalso; simp at h; done) | contradiction
end Go.Proofs.Ytjlabkibpknkpaa.FpW
