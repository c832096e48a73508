-- Printed by prune.py: the used part of a text.
import Derived.Test.YtplfpbfmnogckaaDoorZItR
namespace Go.Proofs.YtplfpbfmnogckaaDoor.ItS
open Go.RowKit Go.Proofs.YtplfpbfmnogckaaDoorW.PrintWords Go.Proofs.YtplfpbfmnogckaaDoorW.PrintLast Go.Proofs.YtplfpbfmnogckaaDoorW.PrintMore Go.Proofs.YtplfpbfmnogckaaDoor.TdG Go.Proofs.YtplfpbfmnogckaaDoor.TdM Go.Proofs.YtplfpbfmnogckaaDoor.TdP Go.Proofs.YtplfpbfmnogckaaDoor.ItF Go.Proofs.YtplfpbfmnogckaaDoor.ItT Go.Proofs.YtplfpbfmnogckaaDoor.ItO Go.Proofs.YtplfpbfmnogckaaDoor.WdA Go.Proofs.YtplfpbfmnogckaaDoor.WdB Go.Proofs.YtplfpbfmnogckaaDoor.WdC Go.Proofs.YtplfpbfmnogckaaDoor.WdD Go.Proofs.YtplfpbfmnogckaaDoor.WdE Go.Proofs.YtplfpbfmnogckaaDoor.ItP Go.Proofs.YtplfpbfmnogckaaDoor.ItQ
set_option linter.unusedVariables false
theorem one_size : ∀ i : Fin 7, (nmI i.val).size ≤ 1000 := by decide +kernel
theorem one_bit : ∀ i : Fin 7, bitV 1 (nmI i.val) = 2 ^ i.val := by decide +kernel
theorem pow_ne : ∀ i : Fin 7, (2 : Int) ^ i.val ≠ 0 := by decide
def namesOf (n : Nat) : List ByteArray := selL (n : Int) nmI 7
def idsOf (n : Nat) : List Nat := (List.range 7).filter (fun i => bitI (n : Int) i)
theorem names_ids : ∀ n : Fin 128, namesOf n.val = (idsOf n.val).map nmI := by decide +kernel
theorem back_size : ∀ n : Fin 128, (ofP ((n.val : Nat) : Int) nmI).size ≤ 100 ∧ 2 ≤ (ofP ((n.val : Nat) : Int) nmI).size := by decide +kernel
theorem back_seg : ∀ n : Fin 128, n.val = 0 ∨ segB (ofP ((n.val : Nat) : Int) nmI) 1 (namesOf n.val) ((ofP ((n.val : Nat) : Int) nmI).size - 1) = true := by decide +kernel
end Go.Proofs.YtplfpbfmnogckaaDoor.ItS
