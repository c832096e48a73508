-- Printed by prune.py: the used part of a text.
import Derived.Test.YtjljgcceapkdcaaZRkI
namespace Go.Proofs.Ytjljgcceapkdcaa.RkJ
open Go.RowKit Go.Proofs.YtjljgcceapkdcaaW.PrintWords Go.Proofs.YtjljgcceapkdcaaW.PrintLast Go.Proofs.YtjljgcceapkdcaaW.PrintMore Go.Proofs.Ytjljgcceapkdcaa.RkM Go.Proofs.Ytjljgcceapkdcaa.RkA Go.Proofs.Ytjljgcceapkdcaa.RkB Go.Proofs.Ytjljgcceapkdcaa.RkC Go.Proofs.Ytjljgcceapkdcaa.RkD Go.Proofs.Ytjljgcceapkdcaa.RkE Go.Proofs.Ytjljgcceapkdcaa.RkF Go.Proofs.Ytjljgcceapkdcaa.RkG Go.Proofs.Ytjljgcceapkdcaa.RkH Go.Proofs.Ytjljgcceapkdcaa.RkI Go.Proofs.Ytjljgcceapkdcaa.Rw
set_option linter.unusedVariables false
set_option linter.unusedSimpArgs false
theorem writeP_of {w0 w : World} {g : Nat} {r : RS} {s d : ByteArray} (hn : namedB s = true) (hz : d.size ≤ 200000) (hdn : r.down = false) {e : Ending} {w' : World} (h : GoP w0 w g r s d (numW r.ns s) (sumW r.ns s d) e w') : WriteP w0 w g r s d e w' := by
  have e0 : writeE r s d = if 40 < numW r.ns s ∨ r.room < sumW r.ns s d then 4 else if r.fuse = 0 then 5 else 0 := by
    unfold writeE
    rw [if_neg (by rw [hn]; simp; omega), if_neg (by rw [hdn]; simp)]
  obtain ⟨hk, h | h | h⟩ := h
  · obtain ⟨h1, rfl, h3⟩ := h
    have e1 : writeE r s d = 4 := by rw [e0, if_pos h1]
    exact ⟨by rw [e1], hk, .inr (.inr ⟨.inr e1, h3⟩)⟩
  · obtain ⟨h1, h2, rfl, h3⟩ := h
    have e1 : writeE r s d = 5 := by rw [e0, if_neg h1, if_pos h2]
    exact ⟨by rw [e1], hk, .inr (.inl ⟨e1, h3⟩)⟩
  · obtain ⟨h1, h2, rfl, h3⟩ := h
    have e1 : writeE r s d = 0 := by rw [e0, if_neg h1, if_neg h2]
    exact ⟨by rw [e1], hk, .inl ⟨e1, h3⟩⟩
theorem write_calls (w0 : World) (g : Nat) (r : RS) (s : ByteArray) (A : Option Addr) (c : Nat) (d : ByteArray) (w : World) (h : RackAt w0 w g r) (hC : Kd.C (Kd.int .u8) w A d.size (bytesOf d)) (hc : d.size ≤ c) (hn : r.ns.length ≤ 99999) (hl : r.ls.length ≤ 99999) (hw : 0 ≤ r.writes ∧ r.writes ≤ 4611686018427387904) :
    Calls Try.prog 16 #[.pointer (some ⟨g, 0, none⟩), .string s, .slice A d.size c] w (WriteP w0 w g r s d) := by
  by_cases h1 : namedB s = false ∨ 200000 < d.size
  · exact write_arg w0 g r s A c d w h h1
  · have hnm : namedB s = true := by
      cases hb : namedB s
      · exact absurd (.inl hb) h1
      · rfl
    have hz : d.size ≤ 200000 := by
      refine Nat.le_of_not_lt (fun h2 => h1 (.inr h2))
    by_cases hdn : r.down = true
    · exact write_down w0 g r s A c d w h hnm hz hdn
    · replace hdn : r.down = false := by simpa using hdn
      cases hf : findF r.ns s with
      | none =>
        refine (write_none w0 g r s A c d w h hnm hz hdn hC hc hn hl hw hf).mono (fun e w' hp => writeP_of hnm hz hdn ?_)
        rw [show numW r.ns s = r.ns.length + 1 by unfold numW; rw [hf]; rfl, show sumW r.ns s d = (sumF r.ns : Int) + (costN s d : Int) by unfold sumW; rw [hf]; simp]
        exact hp
      | some f =>
        refine (write_some w0 g r s A c d w h hnm hz hdn hC hc hn hl hw f hf).mono (fun e w' hp => writeP_of hnm hz hdn ?_)
        rw [show numW r.ns s = r.ns.length by unfold numW; rw [hf]; rfl, show sumW r.ns s d = (sumF r.ns : Int) + (costN s d : Int) - (costN s f.d : Int) by unfold sumW; rw [hf]]
        exact hp
section
variable (w0 : World) (g : Nat) (r : RS) (s : ByteArray) (w : World)
end
end Go.Proofs.Ytjljgcceapkdcaa.RkJ
