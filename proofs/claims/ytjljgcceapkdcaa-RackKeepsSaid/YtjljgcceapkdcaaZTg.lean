-- Printed by prune.py: the used part of a text.
import Derived.Test.YtjljgcceapkdcaaProg
import Derived.Lib.AppendStr
import Derived.Lib.BufferMore
import Derived.Test.YtjljgcceapkdcaaZWWords
import Derived.Test.YtjljgcceapkdcaaZWLast
import Derived.Test.YtjljgcceapkdcaaZWMore
import Derived.Test.YtjljgcceapkdcaaZWKept
import Derived.Test.YtjljgcceapkdcaaZWApart
import Derived.Test.YtjljgcceapkdcaaZWInvWords
namespace Go.Proofs.Ytjljgcceapkdcaa.Rw
open Go.RowKit Go.Proofs.YtjljgcceapkdcaaW.PrintWords Go.Proofs.YtjljgcceapkdcaaW.PrintLast Go.Proofs.YtjljgcceapkdcaaW.PrintMore
set_option linter.unusedVariables false
def AP (v u : Value) : Prop := v.ownBlock = none ∨ v.ownBlock ≠ u.ownBlock
theorem AP.symm {v u : Value} (h : AP v u) : AP u v := by
  cases hu : u.ownBlock with
  | none => exact .inl hu
  | some k =>
    refine .inr (fun e => ?_)
    rcases h with h | h
    · rw [h, hu] at e; cases e
    · exact h e.symm
theorem AP.nil (v : Value) : AP (.slice none 0 0) v := .inl rfl
def Tg {α : Type} (d : Kd α) (e : Nat) (w : World) (base : Nat) (v : Value) (l : List α) : Prop := d.R e w base (fun k => some k = v.ownBlock) v l
section
variable {α : Type} {d : Kd α} {e : Nat}
theorem Tg.of (hE : d.E = []) {w : World} {base : Nat} {v : Value} {l : List α} {ok : Nat → Prop} (h : d.R e w base ok v l) : Tg d e w base v l := Kd.R_tight hE h
theorem Tg.nil (d : Kd α) (e : Nat) (w : World) (base : Nat) : Tg d e w base (.slice none 0 0) [] := Kd.R_nil d e w base _
theorem Tg.any {w : World} {base : Nat} {v : Value} {l : List α} (h : Tg d e w base v l) : d.R e w base (fun _ => True) v l := Kd.R_mono h (fun _ _ => trivial)
theorem Tg.below {w w1 : World} {base : Nat} {v : Value} {l : List α} (h : Tg d e w base v l) (hb : Below w.heap.size w w1) : Tg d e w1 base v l := Kd.R_below h hb
theorem Tg.kept {w w1 : World} {base : Nat} {v u : Value} {l : List α} (h : Tg d e w base v l) (hk : Kept w w1 (fun k => some k = u.ownBlock)) (ha : AP v u) : Tg d e w1 base v l :=
  Kd.R_kept h hk (fun k h1 h2 => by
    rcases ha with ha | ha
    · rw [ha] at h1; cases h1
    · exact ha (h1.symm.trans h2))
theorem Tg.grown {w w1 : World} {base : Nat} {v u : Value} {l : List α} (h : Tg d e w base v l) (hg : w.grownBy w1 u.ownBlock) (ha : AP v u) : Tg d e w1 base v l :=
  h.kept (Kept.of_grown hg (Kept.refl _ _) (fun k hk => .inl hk.symm)) ha
theorem Tg.grown_none {w w1 : World} {base : Nat} {v : Value} {l : List α} (h : Tg d e w base v l) (hg : w.grownBy w1 none) : Tg d e w1 base v l :=
  Kd.R_kept h (S := fun _ => False) (Kept.of_grown hg (Kept.refl _ _) (fun k hk => by cases hk)) (fun _ _ h2 => h2)
end
theorem row_slice {α : Type} {d : Kd α} {e base : Nat} {w : World} {ok : Nat → Prop} {v : Value} {xs : List α} (h : d.R e w base ok v xs) : ∃ A n c, v = .slice A n c ∧ Aside0 (n = xs.length) ∧ Aside0 (n ≤ c ∧ d.C w A n xs) := by
  obtain ⟨A, c, rfl, h1, h2⟩ := Kd.R_reads h
  exact ⟨A, _, c, rfl, ⟨rfl⟩, ⟨h1, h2⟩⟩
theorem tg_C {α : Type} {d : Kd α} {e : Nat} {w : World} {base : Nat} {A : Option Addr} {n c : Nat} {xs : List α} (h : Tg d e w base (.slice A n c) xs) : n = xs.length ∧ n ≤ c ∧ d.C w A n xs := by
  have h1 := Kd.R_reads' h
  refine ⟨h1.1, h1.2.1, ?_⟩
  rw [h1.1]
  exact h1.2.2
end Go.Proofs.Ytjljgcceapkdcaa.Rw
