-- Printed by prune.py: the used part of a text.
import Derived.Test.YtplfpbfmnogckaaDoorZItR
namespace Go.Proofs.YtplfpbfmnogckaaDoor.ItS
open Go.RowKit Go.Proofs.YtplfpbfmnogckaaDoorW.PrintWords Go.Proofs.YtplfpbfmnogckaaDoorW.PrintLast Go.Proofs.YtplfpbfmnogckaaDoorW.PrintMore Go.Proofs.YtplfpbfmnogckaaDoor.TdG Go.Proofs.YtplfpbfmnogckaaDoor.TdM Go.Proofs.YtplfpbfmnogckaaDoor.TdP Go.Proofs.YtplfpbfmnogckaaDoor.ItF Go.Proofs.YtplfpbfmnogckaaDoor.ItT Go.Proofs.YtplfpbfmnogckaaDoor.ItO Go.Proofs.YtplfpbfmnogckaaDoor.WdA Go.Proofs.YtplfpbfmnogckaaDoor.WdB Go.Proofs.YtplfpbfmnogckaaDoor.WdC Go.Proofs.YtplfpbfmnogckaaDoor.WdD Go.Proofs.YtplfpbfmnogckaaDoor.WdE Go.Proofs.YtplfpbfmnogckaaDoor.ItP Go.Proofs.YtplfpbfmnogckaaDoor.ItQ
set_option linter.unusedVariables false
theorem one_text : ∀ i : Fin 7, 5 ≤ (ofP (2 ^ i.val) nmI).size ∧ (ofP (2 ^ i.val) nmI).size ≤ 30 ∧ (ofP (2 ^ i.val) nmI).extract 1 ((ofP (2 ^ i.val) nmI).size - 1) = nmI i.val := by decide +kernel
theorem one_seg : ∀ i : Fin 7, segB (nmI i.val) 0 [nmI i.val] (nmI i.val).size = true := by decide +kernel
theorem two_seg : ∀ i j : Fin 7, segB ((nmI i.val ++ ⟨#[32]⟩) ++ nmI j.val) 0 [nmI i.val, nmI j.val] ((nmI i.val ++ ⟨#[32]⟩) ++ nmI j.val).size = true := by decide +kernel
theorem two_size : ∀ i j : Fin 7, ((nmI i.val ++ ⟨#[32]⟩) ++ nmI j.val).size ≤ 1000 := by decide +kernel
theorem one_size : ∀ i : Fin 7, (nmI i.val).size ≤ 1000 := by decide +kernel
theorem one_all : ∀ i : Fin 7, sameB ALLB (nmI i.val) = false ∧ sameB FASTB (nmI i.val) = false := by decide +kernel
theorem one_bit : ∀ i : Fin 7, bitV 1 (nmI i.val) = 2 ^ i.val := by decide +kernel
theorem one_items (i : Fin 7) : ItemsOk (nmI i.val) [wd (nmI i.val)] := items_atoms (ts := [nmI i.val]) (one_size i) (by simp) (segB_seg _ _ _ _ (one_seg i))
theorem two_items (i j : Fin 7) : ItemsOk ((nmI i.val ++ ⟨#[32]⟩) ++ nmI j.val) [wd (nmI i.val), wd (nmI j.val)] := items_atoms (ts := [nmI i.val, nmI j.val]) (two_size i j) (by simp) (segB_seg _ _ _ _ (two_seg i j))
theorem pow_ne : ∀ i : Fin 7, (2 : Int) ^ i.val ≠ 0 := by decide
theorem one_ok (i : Fin 7) : ItOk [wd (nmI i.val)] := by
  intro x hx
  obtain rfl : x = wd (nmI i.val) := by simpa using hx
  exact ⟨Nat.le_trans (one_size i) (by decide), by rw [show (wd (nmI i.val)).f0 = 1 from rfl, show (wd (nmI i.val)).f1 = nmI i.val from rfl, one_bit i]; exact pow_ne i⟩
theorem or0 : ∀ i : Fin 7, bits .or .i64 0 ((2 : Int) ^ i.val) = 2 ^ i.val := by decide +kernel
theorem one_fold (i : Fin 7) : foldB [wd (nmI i.val)] = 2 ^ i.val := by
  show bits .or .i64 0 (bitV 1 (nmI i.val)) = _
  rw [one_bit i, or0 i]
end Go.Proofs.YtplfpbfmnogckaaDoor.ItS
