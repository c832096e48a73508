-- Printed by prune.py: the used part of a text.
import Derived.Test.YtjlabkibpknkpaaDoorZFmM0
import Derived.Test.YtjlabkibpknkpaaDoorZFmM1
import Derived.Test.YtjlabkibpknkpaaDoorZFmM2
import Derived.Test.YtjlabkibpknkpaaDoorZFmM3
import Derived.Test.YtjlabkibpknkpaaDoorZFmM4
import Derived.Test.YtjlabkibpknkpaaDoorZFmM6
import Derived.Test.YtjlabkibpknkpaaDoorZFmM7
import Derived.Test.YtjlabkibpknkpaaDoorZFmM8
import Derived.Test.YtjlabkibpknkpaaDoorZFmM9
import Derived.Test.YtjlabkibpknkpaaDoorZFmM10
import Derived.Test.YtjlabkibpknkpaaDoorZFmM11
import Derived.Test.YtjlabkibpknkpaaDoorZFmM12
import Derived.Test.YtjlabkibpknkpaaDoorZPkP
namespace Go.Proofs.YtjlabkibpknkpaaDoor.FmN
open Go.RowKit Go.Proofs.YtjlabkibpknkpaaDoorW.PrintWords Go.Proofs.YtjlabkibpknkpaaDoorW.PrintLast Go.Proofs.YtjlabkibpknkpaaDoorW.PrintMore Go.Proofs.YtjlabkibpknkpaaDoor.FmG Go.Proofs.YtjlabkibpknkpaaDoor.FmM Go.Proofs.YtjlabkibpknkpaaDoor.PkP
set_option linter.unusedVariables false
set_option linter.unusedSimpArgs false
def Evn {α : Type} (g : Nat → Option α) (r : α) : Prop := ∃ K, ∀ k, K ≤ k → g k = some r
theorem Evn.pure {α : Type} (r : α) : Evn (fun _ => some r) r := ⟨0, fun _ _ => rfl⟩
theorem Evn.bind {α β : Type} {g : Nat → Option α} {f : Nat → α → Option β} {x : α} {r : β} (h : Evn g x) (h2 : Evn (fun k => f k x) r) : Evn (fun k => (g k).bind (f k)) r := by
  obtain ⟨K, hK⟩ := h
  obtain ⟨L, hL⟩ := h2
  exact ⟨max K L, fun k hk => by show (g k).bind (f k) = some r; rw [hK k (by omega)]; exact hL k (by omega)⟩
theorem Evn.cast {α : Type} {g g2 : Nat → Option α} {r : α} (h : Evn g r) (he : ∀ k, g2 k = g k) : Evn g2 r := by
  obtain ⟨K, hK⟩ := h
  exact ⟨K, fun k hk => by rw [he]; exact hK k hk⟩
theorem Evn.round {α : Type} {g g2 : Nat → Option α} {r : α} (h : Evn g r) (he : ∀ k, g2 (k + 1) = g k) : Evn g2 r := by
  obtain ⟨K, hK⟩ := h
  refine ⟨K + 1, fun k hk => ?_⟩
  obtain ⟨j, rfl⟩ : ∃ j, k = j + 1 := ⟨k - 1, by omega⟩
  rw [he]
  exact hK j (by omega)
theorem Evn.get {α : Type} {g : Nat → Option α} {r : α} (h : Evn g r) : ∃ k, g k = some r := by
  obtain ⟨K, hK⟩ := h
  exact ⟨K, hK K (Nat.le_refl _)⟩
theorem w64s {x : Int} (h0 : -9223372036854775808 ≤ x) (h1 : x ≤ 9223372036854775807) : wrap64 x = x := by unfold wrap64; omega
theorem rd_nat (l : List Int) {i : Nat} (h : i < l.length) : Go.Proofs.YtjlabkibpknkpaaDoorW.PrintWords.rd l (i : Int) = l[i] := by
  unfold Go.Proofs.YtjlabkibpknkpaaDoorW.PrintWords.rd
  rw [Int.toNat_natCast, List.getD_eq_getElem?_getD, List.getElem?_eq_getElem h]; rfl
def wt (m : S31) : Nat := m.f5.length + m.f6.size + m.f3.size
end Go.Proofs.YtjlabkibpknkpaaDoor.FmN
