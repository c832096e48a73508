-- Printed by prune.py: the used part of a text.
import Derived.Test.YtjlabkibpknkpaaDoorProg
import Derived.Below
import Derived.Deep.Draws
import Derived.Deep.AppendLies
import Derived.Maps.AppendAt
import Derived.OwnWalk
import Derived.Laws.BytesArg
import Derived.Laws.MakeOwn
import Derived.Laws.OwnMore
import Derived.Deep.OwnRows
import Derived.Tactics
import Derived.Lib.ConvBytes
import Derived.Laws.Slices
import Derived.WalkKit
import Derived.KernelRfl
import Derived.RowKit3
import Derived.Deep.LoopGhost
import Derived.Deep.QuietTactic
import Derived.BigQuiet
import Derived.WideLaws
import Derived.Deep.DeepCutAuto
import Derived.Deep.CutBlock
import Derived.Deep.RegionHeld3
import Derived.Laws.Rows
import Derived.Lib.AppendStr
import Derived.ArgAppend
import Derived.Laws.IdiomCopy
import Derived.OrdersHeld
import Derived.Laws.BitsLemmas
import Derived.RowKit
import Derived.Lib.BufferMore
import Derived.Test.YtjlabkibpknkpaaDoorZCm
import Derived.Test.YtjlabkibpknkpaaDoorZFmG
import Derived.Test.YtjlabkibpknkpaaDoorZWWords
import Derived.Test.YtjlabkibpknkpaaDoorZWLast
import Derived.Test.YtjlabkibpknkpaaDoorZWTab
import Derived.Test.YtjlabkibpknkpaaDoorZWApart
import Derived.Test.YtjlabkibpknkpaaDoorZWFoot
import Derived.Test.YtjlabkibpknkpaaDoorZWKept
import Derived.Test.YtjlabkibpknkpaaDoorZWShare
import Derived.Test.YtjlabkibpknkpaaDoorZWN
import Derived.Laws.StructEq
import Derived.Test.YtjlabkibpknkpaaDoorZWRepsOne
import Derived.Test.YtjlabkibpknkpaaDoorZWInv
import Derived.Test.YtjlabkibpknkpaaDoorZWInvWords
import Derived.Test.YtjlabkibpknkpaaDoorZWGuard
import Derived.Test.YtjlabkibpknkpaaDoorZWMore
namespace Go.Proofs.YtjlabkibpknkpaaDoor.FeM
open Go.RowKit Go.Proofs.YtjlabkibpknkpaaDoorW.PrintWords Go.Proofs.YtjlabkibpknkpaaDoorW.PrintLast Go.Proofs.YtjlabkibpknkpaaDoorW.PrintMore
attribute [local go_sem] max2_int min2_int max_two min_two max_three min_three max_four min_four
open Go.Proofs.YtjlabkibpknkpaaDoor.FmG
set_option linter.unusedVariables false
set_option linter.unusedSimpArgs false
def errW : Option Int → Value
  | none => .nilIface
  | some c => .iface 0 (.int .i64 c)
theorem errW_none : errW none = .nilIface := rfl
theorem errW_some (c : Int) : errW (some c) = .iface 0 (.int .i64 c) := rfl
end Go.Proofs.YtjlabkibpknkpaaDoor.FeM
