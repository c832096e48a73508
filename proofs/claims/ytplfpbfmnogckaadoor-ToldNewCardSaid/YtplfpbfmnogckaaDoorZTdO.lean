-- Printed by prune.py: the used part of a text.
import Derived.Test.YtplfpbfmnogckaaDoorZTdN
namespace Go.Proofs.YtplfpbfmnogckaaDoor.TdO
open Go.RowKit Go.Proofs.YtplfpbfmnogckaaDoorW.PrintWords Go.Proofs.YtplfpbfmnogckaaDoorW.PrintLast Go.Proofs.YtplfpbfmnogckaaDoorW.PrintMore Go.Proofs.YtplfpbfmnogckaaDoor.TdG Go.Proofs.YtplfpbfmnogckaaDoor.TdM Go.Proofs.YtplfpbfmnogckaaDoor.TdP Go.Proofs.YtplfpbfmnogckaaDoor.TdD Go.Proofs.YtplfpbfmnogckaaDoor.ItT Go.Proofs.YtplfpbfmnogckaaDoor.ItO Go.Proofs.YtplfpbfmnogckaaDoor.TdF Go.Proofs.YtplfpbfmnogckaaDoor.TdS Go.Proofs.YtplfpbfmnogckaaDoor.TdA Go.Proofs.YtplfpbfmnogckaaDoor.TdW Go.Proofs.YtplfpbfmnogckaaDoor.TdR Go.Proofs.YtplfpbfmnogckaaDoor.TdN
set_option linter.unusedVariables false
set_option linter.unusedSimpArgs false
theorem low_nat (x : Int) (n : Nat) (h0 : 0 < n) (h1 : n ≤ 1000000) : ∃ q : Nat, wrap64 ((IntKind.u64.wrap x).tmod (n : Int)) = (q : Int) ∧ q < n := by
  have e : IntKind.u64.wrap x = x % 18446744073709551616 := by simp [IntKind.wrap, IntKind.bits, IntKind.signed]
  have h2 : (0 : Int) ≤ x % 18446744073709551616 := Int.emod_nonneg _ (by decide)
  rw [e, Int.tmod_eq_emod_of_nonneg h2]
  have h3 : 0 ≤ x % 18446744073709551616 % (n : Int) := Int.emod_nonneg _ (by omega)
  have h4 : x % 18446744073709551616 % (n : Int) < (n : Int) := Int.emod_lt_of_pos _ (by omega)
  generalize x % 18446744073709551616 % (n : Int) = q at *
  exact ⟨q.toNat, by rw [w64s (by omega) (by omega)]; omega, by omega⟩
theorem sync_n (cut : Bool) (a0 : ByteArray) (a1 a2 a3 : Int) (aA4 : Option Addr) (ac4 : Nat) (aw : List ByteArray) (aA5 : Option Addr) (ac5 : Nat) (am : List S34) (A : Option Addr) (n c : Nat) (l : List S37) (w w0 : World) (hW : Below w0.heap.size w0 w) (ht : Tab w0) (hB : BoxIn w0 a0 aA4 ac4 aw aA5 ac5 am) (hL : BoxLight aw am) (hn : n = l.length) (hCl : Kd.C k37 w A n l) (hcl : n ≤ c) (hl : n ≤ 10000) :
    Calls Tryd.prog 15 #[.slice A n c, .agg #[.string a0, .int .i64 a1, .int .i64 a2, .int .i64 a3, .slice aA4 aw.length ac4, .slice aA5 am.length ac5], .bool cut] w fun e w' => ∃ A1 A2 c2, e = .returned (.tuple #[.slice A1 (outS cut am l).length (outS cut am l).length, .slice A2 (linesS cut aw am l).length c2]) ∧ Kd.C k37 w' A1 (outS cut am l).length (outS cut am l) ∧ Below w.heap.size w w' := by
  subst hn
  refine (sync_calls cut a0 a1 a2 a3 aA4 ac4 aw aA5 ac5 am A c l w (ht.below hW) (Kd.C_below hB.C4 hW) hB.c4 (Kd.C_below hB.C5 hW) hB.c5 hCl hcl hL.ms hL.n5 hl).mono ?_
  rintro e w' ⟨A1, A2, c2, rfl, h1, _, _, hb⟩
  exact ⟨A1, A2, c2, rfl, h1, hb⟩
end Go.Proofs.YtplfpbfmnogckaaDoor.TdO
