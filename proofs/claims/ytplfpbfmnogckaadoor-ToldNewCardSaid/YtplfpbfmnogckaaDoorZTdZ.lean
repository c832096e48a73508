-- Printed by prune.py: the used part of a text.
import Derived.Test.YtplfpbfmnogckaaDoorZMpI
import Derived.Test.YtplfpbfmnogckaaDoorZTdO
import Derived.Test.YtplfpbfmnogckaaDoorZTg
namespace Go.Proofs.YtplfpbfmnogckaaDoor.TdZ
open Go.RowKit Go.Proofs.YtplfpbfmnogckaaDoorW.PrintWords Go.Proofs.YtplfpbfmnogckaaDoorW.PrintLast Go.Proofs.YtplfpbfmnogckaaDoorW.PrintMore Go.Proofs.YtplfpbfmnogckaaDoor.TdG Go.Proofs.YtplfpbfmnogckaaDoor.TdM Go.Proofs.YtplfpbfmnogckaaDoor.TdP Go.Proofs.YtplfpbfmnogckaaDoor.TdD Go.Proofs.YtplfpbfmnogckaaDoor.ItT Go.Proofs.YtplfpbfmnogckaaDoor.ItO Go.Proofs.YtplfpbfmnogckaaDoor.TdF Go.Proofs.YtplfpbfmnogckaaDoor.TdS Go.Proofs.YtplfpbfmnogckaaDoor.TdA Go.Proofs.YtplfpbfmnogckaaDoor.TdW Go.Proofs.YtplfpbfmnogckaaDoor.TdR Go.Proofs.YtplfpbfmnogckaaDoor.TdN Go.Proofs.YtplfpbfmnogckaaDoor.MpI Go.Proofs.YtplfpbfmnogckaaDoor.TdO Go.Proofs.YtplfpbfmnogckaaDoor.Rw
set_option linter.unusedVariables false
set_option linter.unusedSimpArgs false
theorem info_msgs : (Tryd.prog.info? 34).map (fun i => (i.zero, i.size, i.bytes)) = some (some (.agg #[.int .i64 0, .int .i64 0, .int .i64 0, .string ⟨#[]⟩, .int .i64 0, .slice none 0 0, .string ⟨#[]⟩]), 7, 88) := by kernel_rfl
theorem wf64 {n : Int} (h0 : -9223372036854775808 ≤ n) (h1 : n ≤ 9223372036854775807) : (Lit.int .i64 n).wf = true := by
  have h2 : IntKind.i64.min = -9223372036854775808 := rfl
  have h3 : IntKind.i64.max = 9223372036854775807 := rfl
  simp [Lit.wf, h2, h3]
  omega
theorem rd_nat (l : List Int) {k : Nat} (hk : k < l.length) : Go.Proofs.YtplfpbfmnogckaaDoorW.PrintWords.rd l (k : Int) = l[k] := by
  unfold Go.Proofs.YtplfpbfmnogckaaDoorW.PrintWords.rd
  rw [Int.toNat_natCast, List.getD_eq_getElem?_getD, List.getElem?_eq_getElem hk]
  rfl
end Go.Proofs.YtplfpbfmnogckaaDoor.TdZ
