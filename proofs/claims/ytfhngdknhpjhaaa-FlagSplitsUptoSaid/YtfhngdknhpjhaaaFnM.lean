-- Written by a program of this claim's session (wip/tool/pp.sh). Not trusted: Lean checks it.
import Derived.Test.YtfhngdknhpjhaaaFnM0
import Derived.Test.YtfhngdknhpjhaaaFnM1
namespace Go.Proofs.Ytfhngdknhpjhaaa.FnM
open Go.RowKit Go.Proofs.YtfhngdknhpjhaaaW.PrintWords Go.Proofs.YtfhngdknhpjhaaaW.PrintLast Go.Proofs.YtfhngdknhpjhaaaW.PrintMore
attribute [local go_sem] max2_int min2_int max_two min_two max_three min_three max_four min_four   -- for this text's walks alone
set_option linter.unusedVariables false
set_option linter.unusedSimpArgs false

end Go.Proofs.Ytfhngdknhpjhaaa.FnM
