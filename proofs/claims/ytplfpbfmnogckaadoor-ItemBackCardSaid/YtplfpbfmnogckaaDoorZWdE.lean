-- Printed by prune.py: the used part of a text.
import Derived.Test.YtplfpbfmnogckaaDoorZWdD
namespace Go.Proofs.YtplfpbfmnogckaaDoor.WdE
open Go.RowKit Go.Proofs.YtplfpbfmnogckaaDoorW.PrintWords Go.Proofs.YtplfpbfmnogckaaDoorW.PrintLast Go.Proofs.YtplfpbfmnogckaaDoorW.PrintMore Go.Proofs.YtplfpbfmnogckaaDoor.TdM Go.Proofs.YtplfpbfmnogckaaDoor.WdA Go.Proofs.YtplfpbfmnogckaaDoor.WdB Go.Proofs.YtplfpbfmnogckaaDoor.WdC Go.Proofs.YtplfpbfmnogckaaDoor.WdD
set_option linter.unusedVariables false
def atomB (s : ByteArray) (p q : Nat) (a : ByteArray) : Bool := decide (p < q) && decide (q ≤ s.size) && (List.range (q - p)).all (fun j => atomC (bt s ((p + j : Nat) : Int))) && decide (a.data = (s.extract p q).data) && (decide (q = s.size) || !atomC (bt s (q : Int)))
theorem atomB_at {s : ByteArray} {p q : Nat} {a : ByteArray} (h : atomB s p q a = true) : AtomAt s p q a := by
  unfold atomB at h
  simp only [Bool.and_eq_true, Bool.or_eq_true, decide_eq_true_eq, List.all_eq_true, List.mem_range, Bool.not_eq_true'] at h
  obtain ⟨⟨⟨⟨h1, h2⟩, h3⟩, h4⟩, h5⟩ := h
  refine ⟨h1, h2, fun i hi hj => ?_, ByteArray.ext h4, h5⟩
  have := h3 (i - p) (by omega)
  rwa [show p + (i - p) = i by omega] at this
def segB (s : ByteArray) : Nat → List ByteArray → Nat → Bool
  | _, [], _ => false
  | p, [a], e => atomB s p e a
  | p, a :: b :: r, e => atomB s p (p + a.size) a && isB s ((p + a.size : Nat) : Int) 32 && segB s (p + a.size + 1) (b :: r) e
theorem segB_seg (s : ByteArray) (e : Nat) : ∀ (ts : List ByteArray) (p : Nat), segB s p ts e = true → Seg s p ts e
  | [], _, h => by simp [segB] at h
  | [a], _, h => atomB_at h
  | a :: b :: r, p, h => by
    rw [segB, Bool.and_eq_true, Bool.and_eq_true] at h
    exact ⟨p + a.size, atomB_at h.1.1, h.1.2, segB_seg s e (b :: r) _ h.2⟩
def UIDFL : ByteArray := ⟨#[40, 117, 105, 100, 32, 70, 76, 65, 71, 83, 41]⟩
def uidB : ByteArray := ⟨#[117, 105, 100]⟩
def flagsB : ByteArray := ⟨#[70, 76, 65, 71, 83]⟩
theorem awake_items : ItemsOk UIDFL ([wo] ++ [uidB, flagsB].map wd ++ [wc]) :=
  items_list (by decide) (by decide) 10 rfl (by decide +kernel) (segB_seg _ _ _ _ (by decide +kernel)) (by decide +kernel) (by decide +kernel)
end Go.Proofs.YtplfpbfmnogckaaDoor.WdE
