-- Written by a program of this claim's session (wip/tool/prune.py): what is used of a longer text. Not trusted: Lean checks it.
import Derived.Test.YtjlabkibpknkpaaZFmC
namespace Go.Proofs.Ytjlabkibpknkpaa.FmH
open Go.RowKit Go.Proofs.YtjlabkibpknkpaaW.PrintWords Go.Proofs.YtjlabkibpknkpaaW.PrintLast Go.Proofs.YtjlabkibpknkpaaW.PrintMore Go.Proofs.Ytjlabkibpknkpaa.FmG Go.Proofs.Ytjlabkibpknkpaa.FmM Go.Proofs.Ytjlabkibpknkpaa.PkP Go.Proofs.Ytjlabkibpknkpaa.FmN Go.Proofs.Ytjlabkibpknkpaa.FmB Go.Proofs.Ytjlabkibpknkpaa.FmC
set_option linter.unusedVariables false
set_option linter.unusedSimpArgs false
def sumW : List ByteArray → Nat
  | [] => 0
  | w :: r => w.size + sumW r
def sumM : List S35 → Nat
  | [] => 0
  | m :: r => wt m + sumM r
def bulk (a0 : ByteArray) (ws : List ByteArray) (ms : List S35) : Nat := a0.size + ws.length + ms.length + sumW ws + sumM ms
theorem mem_sumW : ∀ (ws : List ByteArray) (s : ByteArray), s ∈ ws → s.size ≤ sumW ws
  | [], _, h => by cases h
  | w :: r, s, h => by
    rw [sumW]
    rcases List.mem_cons.1 h with rfl | h
    · omega
    · have := mem_sumW r s h; omega
theorem mem_sumM : ∀ (ms : List S35) (m : S35), m ∈ ms → wt m ≤ sumM ms
  | [], _, h => by cases h
  | w :: r, s, h => by
    rw [sumM]
    rcases List.mem_cons.1 h with rfl | h
    · omega
    · have := mem_sumM r s h; omega
def encMs : Int → List S35 → List Int
  | _, [] => []
  | last, m :: r => encM m last ++ encMs m.f0 r
theorem encMs_len : ∀ (ms : List S35) (last : Int), (encMs last ms).length ≤ 42 * ms.length + 6 * sumM ms
  | [], _ => by simp [encMs, sumM]
  | m :: r, last => by
    have h1 := encM_len m last
    have h2 := encMs_len r m.f0
    rw [encMs, sumM, List.length_append, List.length_cons]; omega
end Go.Proofs.Ytjlabkibpknkpaa.FmH
