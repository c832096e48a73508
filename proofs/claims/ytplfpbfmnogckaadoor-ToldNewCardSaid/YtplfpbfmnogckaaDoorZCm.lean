-- Printed by prune.py: the used part of a text.
import Derived.Test.YtplfpbfmnogckaaDoorProg
import Derived.Lib.AppendStr
import Derived.Lib.BufferMore
import Derived.Test.YtplfpbfmnogckaaDoorZWWords
import Derived.Test.YtplfpbfmnogckaaDoorZWLast
import Derived.Test.YtplfpbfmnogckaaDoorZWMore
namespace Go.Proofs.YtplfpbfmnogckaaDoor.Cm
open Go.RowKit Go.Proofs.YtplfpbfmnogckaaDoorW.PrintWords Go.Proofs.YtplfpbfmnogckaaDoorW.PrintLast Go.Proofs.YtplfpbfmnogckaaDoorW.PrintMore
set_option linter.unusedVariables false
set_option linter.unusedSimpArgs false
section
variable {P : Program} (w : World)
end
section
variable {P : Program} {ops : Array Oper} {rest : List Oper} {o : Oper} {a : Act} {Q : Exit → Act → World → Prop}
end
theorem cut_arg2 {P : Program} {f : FuncId} {A : Option Addr} {m n c : Nat} {v : Value} {w : World} {Q : Ending → World → Prop} (hl : m = n) (h : Calls P f #[.slice A m c, v] w Q) : Calls P f #[.slice A n c, v] w Q := by
  subst hl
  exact h
theorem take_len {α : Type} {l : List α} {x : Int} (h0 : 0 ≤ x) (h1 : x ≤ (l.length : Int)) : (l.take x.toNat).length = x.toNat := by
  rw [List.length_take]; omega
end Go.Proofs.YtplfpbfmnogckaaDoor.Cm
