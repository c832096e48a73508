-- Printed by prune.py: the used part of a text.
import Derived.Test.YtjljgcceapkdcaaZRkO
namespace Go.Proofs.Ytjljgcceapkdcaa.RkP
open Go.RowKit Go.Proofs.YtjljgcceapkdcaaW.PrintWords Go.Proofs.YtjljgcceapkdcaaW.PrintLast Go.Proofs.YtjljgcceapkdcaaW.PrintMore Go.Proofs.Ytjljgcceapkdcaa.RkM Go.Proofs.Ytjljgcceapkdcaa.RkA Go.Proofs.Ytjljgcceapkdcaa.RkB Go.Proofs.Ytjljgcceapkdcaa.RkC Go.Proofs.Ytjljgcceapkdcaa.RkD Go.Proofs.Ytjljgcceapkdcaa.RkE Go.Proofs.Ytjljgcceapkdcaa.RkF Go.Proofs.Ytjljgcceapkdcaa.RkG Go.Proofs.Ytjljgcceapkdcaa.RkH Go.Proofs.Ytjljgcceapkdcaa.RkI Go.Proofs.Ytjljgcceapkdcaa.RkJ Go.Proofs.Ytjljgcceapkdcaa.RkK Go.Proofs.Ytjljgcceapkdcaa.RkL Go.Proofs.Ytjljgcceapkdcaa.RkO Go.Proofs.Ytjljgcceapkdcaa.Rw
set_option linter.unusedVariables false
set_option linter.unusedSimpArgs false
structure FInv (r : RS) (n k : Nat) (s : ByteArray) : Prop where
  fuse : r.fuse = (n : Int) - (k : Int)
  writes : r.writes = (k : Int)
  down : r.down = false
  ns : r.ns = [] ∨ ∃ f, r.ns = [f] ∧ f.nm = s ∧ f.d.size ≤ 1
  ls : r.ls.length = k
  room : r.room = 1000000
  ss : r.ss = []
theorem FInv.len {r : RS} {n k : Nat} {s : ByteArray} (h : FInv r n k s) : r.ns.length ≤ 1 := by
  rcases h.ns with e | ⟨f, e, _⟩ <;> rw [e] <;> simp
theorem FInv.step {r : RS} {n k : Nat} {s : ByteArray} (h : FInv r n k s) (hk : k < n) (A : Option Addr) (c : Nat) (d : ByteArray) (hd : d.size ≤ 1) (v : Value) : FInv (stepRS r ⟨s, false, A, c, d⟩ v) n (k + 1) s := by
  refine ⟨?_, ?_, h.down, .inr ⟨⟨s, A, c, d⟩, ?_, rfl, hd⟩, ?_, h.room, h.ss⟩
  · show fuseN r.fuse = _
    unfold fuseN
    rw [h.fuse]
    omega
  · show r.writes + 1 = _
    rw [h.writes]
    omega
  · show putF r.ns ⟨s, A, c, d⟩ = _
    unfold putF
    rcases h.ns with e | ⟨f, e, hf, _⟩
    · rw [e]; rfl
    · rw [e]
      have : dropF [f] s = [] := by
        unfold dropF
        rw [List.filter_cons_of_neg (by simpa using hf)]
        rfl
      show insF _ (dropF [f] s) = _
      rw [this]
      rfl
  · show (r.ls ++ [_]).length = _
    rw [List.length_append, h.ls]
    rfl
end Go.Proofs.Ytjljgcceapkdcaa.RkP
