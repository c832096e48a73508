-- Printed by prune.py: the used part of a text.
import Derived.Test.YtjljgcceapkdcaaProg
import Derived.Below
import Derived.Deep.Draws
import Derived.Deep.AppendLies
import Derived.Maps.AppendAt
import Derived.OwnWalk
import Derived.Laws.BytesArg
import Derived.Laws.MakeOwn
import Derived.Laws.OwnMore
import Derived.Deep.OwnRows
import Derived.Tactics
import Derived.Lib.ConvBytes
import Derived.Laws.Slices
import Derived.WalkKit
import Derived.KernelRfl
import Derived.RowKit3
import Derived.Deep.LoopGhost
import Derived.Deep.QuietTactic
import Derived.BigQuiet
import Derived.WideLaws
import Derived.Deep.DeepCutAuto
import Derived.Deep.CutBlock
import Derived.Deep.RegionHeld3
import Derived.Laws.Rows
import Derived.Lib.AppendStr
import Derived.ArgAppend
import Derived.Laws.IdiomCopy
import Derived.OrdersHeld
import Derived.Laws.BitsLemmas
import Derived.RowKit
import Derived.Lib.BufferMore
import Derived.Test.YtjljgcceapkdcaaZWWords
import Derived.Test.YtjljgcceapkdcaaZWLast
import Derived.Test.YtjljgcceapkdcaaZWMore
import Derived.Test.YtjljgcceapkdcaaZWTab
import Derived.Test.YtjljgcceapkdcaaZWApart
import Derived.Test.YtjljgcceapkdcaaZWFoot
import Derived.Test.YtjljgcceapkdcaaZWKept
import Derived.Test.YtjljgcceapkdcaaZWShare
import Derived.Test.YtjljgcceapkdcaaZWN
import Derived.Test.YtjljgcceapkdcaaZWFootNe
import Derived.Test.YtjljgcceapkdcaaZWAt
import Derived.Laws.StructEq
import Derived.Test.YtjljgcceapkdcaaZWRepsOne
import Derived.Test.YtjljgcceapkdcaaZWInv
import Derived.Test.YtjljgcceapkdcaaZWInvWords
namespace Go.Proofs.Ytjljgcceapkdcaa.RkM
open Go.RowKit Go.Proofs.YtjljgcceapkdcaaW.PrintWords Go.Proofs.YtjljgcceapkdcaaW.PrintLast Go.Proofs.YtjljgcceapkdcaaW.PrintMore
attribute [local go_sem] max2_int min2_int max_two min_two max_three min_three max_four min_four
set_option linter.unusedVariables false
set_option linter.unusedSimpArgs false
def errW : Option Int → Value
  | none => .nilIface
  | some c => .iface 0 (.int .i64 c)
theorem errW_none : errW none = .nilIface := rfl
theorem errW_some (c : Int) : errW (some c) = .iface 0 (.int .i64 c) := rfl
theorem info5 : (Try.prog.info? 5).map (fun i => (i.zero, i.size, i.bytes)) = some (some (.int .u8 0), 1, 1) := by kernel_rfl
structure S45 where
  f0 : Int
  f1 : Int
  f2 : ByteArray
  f3 : (List Int)
  f4 : (List Int)
structure S48 where
  f0 : ByteArray
  f1 : (List Int)
structure S64 where
  f0 : ByteArray
  f1 : Bool
  f2 : (List Int)
def z64 : S64 := ⟨(⟨#[]⟩ : ByteArray), false, ([] : List Int)⟩
end Go.Proofs.Ytjljgcceapkdcaa.RkM
