-- Printed by prune.py: the used part of a text.
import Derived.Test.YtplfpbfmnogckaaDoorZTdN
namespace Go.Proofs.YtplfpbfmnogckaaDoor.TdO
open Go.RowKit Go.Proofs.YtplfpbfmnogckaaDoorW.PrintWords Go.Proofs.YtplfpbfmnogckaaDoorW.PrintLast Go.Proofs.YtplfpbfmnogckaaDoorW.PrintMore Go.Proofs.YtplfpbfmnogckaaDoor.TdG Go.Proofs.YtplfpbfmnogckaaDoor.TdM Go.Proofs.YtplfpbfmnogckaaDoor.TdP Go.Proofs.YtplfpbfmnogckaaDoor.TdD Go.Proofs.YtplfpbfmnogckaaDoor.ItT Go.Proofs.YtplfpbfmnogckaaDoor.ItO Go.Proofs.YtplfpbfmnogckaaDoor.TdF Go.Proofs.YtplfpbfmnogckaaDoor.TdS Go.Proofs.YtplfpbfmnogckaaDoor.TdA Go.Proofs.YtplfpbfmnogckaaDoor.TdW Go.Proofs.YtplfpbfmnogckaaDoor.TdR Go.Proofs.YtplfpbfmnogckaaDoor.TdN
set_option linter.unusedVariables false
set_option linter.unusedSimpArgs false
theorem low_nat (x : Int) (n : Nat) (h0 : 0 < n) (h1 : n ≤ 1000000) : ∃ q : Nat, wrap64 ((IntKind.u64.wrap x).tmod (n : Int)) = (q : Int) ∧ q < n := by
  have e : IntKind.u64.wrap x = x % 18446744073709551616 := by simp [IntKind.wrap, IntKind.bits, IntKind.signed]
  have h2 : (0 : Int) ≤ x % 18446744073709551616 := Int.emod_nonneg _ (by decide)
  rw [e, Int.tmod_eq_emod_of_nonneg h2]
  have h3 : 0 ≤ x % 18446744073709551616 % (n : Int) := Int.emod_nonneg _ (by omega)
  have h4 : x % 18446744073709551616 % (n : Int) < (n : Int) := Int.emod_lt_of_pos _ (by omega)
  generalize x % 18446744073709551616 % (n : Int) = q at *
  exact ⟨q.toNat, by rw [w64s (by omega) (by omega)]; omega, by omega⟩
end Go.Proofs.YtplfpbfmnogckaaDoor.TdO
