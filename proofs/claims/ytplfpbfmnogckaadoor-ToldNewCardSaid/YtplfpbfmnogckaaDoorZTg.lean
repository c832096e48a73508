-- Printed by prune.py: the used part of a text.
import Derived.Test.YtplfpbfmnogckaaDoorZCm
import Derived.Test.YtplfpbfmnogckaaDoorZWKept
import Derived.Test.YtplfpbfmnogckaaDoorZWApart
import Derived.Test.YtplfpbfmnogckaaDoorZWInvWords
import Derived.Test.YtplfpbfmnogckaaDoorZWMore
namespace Go.Proofs.YtplfpbfmnogckaaDoor.Rw
open Go.RowKit Go.Proofs.YtplfpbfmnogckaaDoorW.PrintWords Go.Proofs.YtplfpbfmnogckaaDoorW.PrintLast Go.Proofs.YtplfpbfmnogckaaDoorW.PrintMore
set_option linter.unusedVariables false
def AP (v u : Value) : Prop := v.ownBlock = none ∨ v.ownBlock ≠ u.ownBlock
theorem AP.symm {v u : Value} (h : AP v u) : AP u v := by
  cases hu : u.ownBlock with
  | none => exact .inl hu
  | some k =>
    refine .inr (fun e => ?_)
    rcases h with h | h
    · rw [h, hu] at e; cases e
    · exact h e.symm
theorem AP.nil (v : Value) : AP (.slice none 0 0) v := .inl rfl
def Tg {α : Type} (d : Kd α) (e : Nat) (w : World) (base : Nat) (v : Value) (l : List α) : Prop := d.R e w base (fun k => some k = v.ownBlock) v l
section
variable {α : Type} {d : Kd α} {e : Nat}
theorem Tg.of (hE : d.E = []) {w : World} {base : Nat} {v : Value} {l : List α} {ok : Nat → Prop} (h : d.R e w base ok v l) : Tg d e w base v l := Kd.R_tight hE h
theorem Tg.nil (d : Kd α) (e : Nat) (w : World) (base : Nat) : Tg d e w base (.slice none 0 0) [] := Kd.R_nil d e w base _
theorem Tg.any {w : World} {base : Nat} {v : Value} {l : List α} (h : Tg d e w base v l) : d.R e w base (fun _ => True) v l := Kd.R_mono h (fun _ _ => trivial)
theorem Tg.below {w w1 : World} {base : Nat} {v : Value} {l : List α} (h : Tg d e w base v l) (hb : Below w.heap.size w w1) : Tg d e w1 base v l := Kd.R_below h hb
theorem Tg.kept {w w1 : World} {base : Nat} {v u : Value} {l : List α} (h : Tg d e w base v l) (hk : Kept w w1 (fun k => some k = u.ownBlock)) (ha : AP v u) : Tg d e w1 base v l :=
  Kd.R_kept h hk (fun k h1 h2 => by
    rcases ha with ha | ha
    · rw [ha] at h1; cases h1
    · exact ha (h1.symm.trans h2))
theorem Tg.grown {w w1 : World} {base : Nat} {v u : Value} {l : List α} (h : Tg d e w base v l) (hg : w.grownBy w1 u.ownBlock) (ha : AP v u) : Tg d e w1 base v l :=
  h.kept (Kept.of_grown hg (Kept.refl _ _) (fun k hk => .inl hk.symm)) ha
end
end Go.Proofs.YtplfpbfmnogckaaDoor.Rw
