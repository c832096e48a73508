-- Written by a program of this claim's session (wip/tool/prune.py): what is used of a longer text. Not trusted: Lean checks it.
import Derived.Test.YtjlabkibpknkpaaZFmA
namespace Go.Proofs.Ytjlabkibpknkpaa.FmL
open Go.RowKit Go.Proofs.YtjlabkibpknkpaaW.PrintWords Go.Proofs.YtjlabkibpknkpaaW.PrintLast Go.Proofs.YtjlabkibpknkpaaW.PrintMore Go.Proofs.Ytjlabkibpknkpaa.FmG Go.Proofs.Ytjlabkibpknkpaa.FmM Go.Proofs.Ytjlabkibpknkpaa.PkP Go.Proofs.Ytjlabkibpknkpaa.FmN Go.Proofs.Ytjlabkibpknkpaa.FmB Go.Proofs.Ytjlabkibpknkpaa.FmC Go.Proofs.Ytjlabkibpknkpaa.FmH Go.Proofs.Ytjlabkibpknkpaa.FmY Go.Proofs.Ytjlabkibpknkpaa.FmA
set_option linter.unusedVariables false
set_option linter.unusedSimpArgs false
theorem headE_le (a0 : ByteArray) (a1 a2 a3 : Int) (ws : List ByteArray) (ms : List S35) : (headE a0 a1 a2 a3 ws ms).length ≤ 100 + a0.size + 6 * ws.length + sumW ws := by
  have h1 := encNs_len [a1, a2, a3]
  have h2 := encT_len a0
  have h3 := encNs_len [(ws.length : Int)]
  have h4 := encTs_len ws
  have h5 := encNs_len [(ms.length : Int)]
  unfold headE
  simp only [List.length_append, List.length_cons, List.length_nil] at *
  omega
end Go.Proofs.Ytjlabkibpknkpaa.FmL
