-- Printed by prune.py: the used part of a text.
import Derived.Test.YtjljgcceapkdcaaZWInv
import Derived.Test.YtjljgcceapkdcaaZWN
namespace Go.Proofs.YtjljgcceapkdcaaW.PrintWords
open Go.RowKit
end Go.Proofs.YtjljgcceapkdcaaW.PrintWords
namespace Go.Proofs.YtjljgcceapkdcaaW.PrintLast
section
variable {ops : Array Oper} {a : Act} {o og : Oper} {g : Nat} {t : Tmp} {u : Bool}
theorem eval_of {v : Value} (h : a.tmps[t]? = some v) : a.eval (.tmp t) = v := by simp [Act.eval, h]
end
end Go.Proofs.YtjljgcceapkdcaaW.PrintLast
