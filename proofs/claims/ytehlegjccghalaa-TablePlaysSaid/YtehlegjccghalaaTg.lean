import Derived.Test.YtehlegjccghalaaCm
import Derived.Test.YtehlegjccghalaaWKept
import Derived.Test.YtehlegjccghalaaWApart
import Derived.Test.YtehlegjccghalaaWInvWords
import Derived.Test.YtehlegjccghalaaWMore
/-! Rows of the call's own, told by their block alone: kept where another block is written. -/
namespace Go.Proofs.Ytehlegjccghalaa.Rw
open Go.RowKit Go.Proofs.YtehlegjccghalaaW.PrintWords Go.Proofs.YtehlegjccghalaaW.PrintLast Go.Proofs.YtehlegjccghalaaW.PrintMore
set_option linter.unusedVariables false
/-- Two rows in two blocks. -/
def AP (v u : Value) : Prop := v.ownBlock = none ∨ v.ownBlock ≠ u.ownBlock
theorem AP.symm {v u : Value} (h : AP v u) : AP u v := by
  cases hu : u.ownBlock with
  | none => exact .inl hu
  | some k =>
    refine .inr (fun e => ?_)
    rcases h with h | h
    · rw [h, hu] at e; cases e
    · exact h e.symm
theorem AP.nil (v : Value) : AP (.slice none 0 0) v := .inl rfl
/-- A row of the call's own. -/
def Tg {α : Type} (d : Kd α) (e : Nat) (w : World) (base : Nat) (v : Value) (l : List α) : Prop := d.R e w base (fun k => some k = v.ownBlock) v l
section
variable {α : Type} {d : Kd α} {e : Nat}
theorem Tg.of (hE : d.E = []) {w : World} {base : Nat} {v : Value} {l : List α} {ok : Nat → Prop} (h : d.R e w base ok v l) : Tg d e w base v l := Kd.R_tight hE h
theorem Tg.nil (d : Kd α) (e : Nat) (w : World) (base : Nat) : Tg d e w base (.slice none 0 0) [] := Kd.R_nil d e w base _
theorem Tg.any {w : World} {base : Nat} {v : Value} {l : List α} (h : Tg d e w base v l) : d.R e w base (fun _ => True) v l := Kd.R_mono h (fun _ _ => trivial)
theorem Tg.below {w w1 : World} {base : Nat} {v : Value} {l : List α} (h : Tg d e w base v l) (hb : Below w.heap.size w w1) : Tg d e w1 base v l := Kd.R_below h hb
theorem Tg.kept {w w1 : World} {base : Nat} {v u : Value} {l : List α} (h : Tg d e w base v l) (hk : Kept w w1 (fun k => some k = u.ownBlock)) (ha : AP v u) : Tg d e w1 base v l :=
  Kd.R_kept h hk (fun k h1 h2 => by
    rcases ha with ha | ha
    · rw [ha] at h1; cases h1
    · exact ha (h1.symm.trans h2))
theorem Tg.grown {w w1 : World} {base : Nat} {v u : Value} {l : List α} (h : Tg d e w base v l) (hg : w.grownBy w1 u.ownBlock) (ha : AP v u) : Tg d e w1 base v l :=
  h.kept (Kept.of_grown hg (Kept.refl _ _) (fun k hk => .inl hk.symm)) ha
theorem Tg.grown_none {w w1 : World} {base : Nat} {v : Value} {l : List α} (h : Tg d e w base v l) (hg : w.grownBy w1 none) : Tg d e w1 base v l :=
  Kd.R_kept h (S := fun _ => False) (Kept.of_grown hg (Kept.refl _ _) (fun k hk => by cases hk)) (fun _ _ h2 => h2)
theorem Tg.ap_left {w : World} {base : Nat} {v u : Value} {l : List α} (h : Tg d e w base u l) (hge : ∀ k, v.ownBlock = some k → w.heap.size ≤ k) : AP v u := own_apart' hge (Kd.R_lt h)
theorem Tg.ap_right {w : World} {base : Nat} {v u : Value} {l : List α} (h : Tg d e w base v l) (hat : ∃ b, u.ownBlock = some b ∧ w.heap.size ≤ b) : AP v u := by
  obtain ⟨b, e, hb⟩ := hat
  exact own_apart (Kd.R_lt h) (fun k hk => by rw [e] at hk; injection hk with hk; omega)
theorem Tg.ap_step {w : World} {base : Nat} {v u u1 : Value} {l : List α} (h : Tg d e w base v l) (ha : AP v u) (hat : u1.ownBlock = u.ownBlock ∨ ∃ b, u1.ownBlock = some b ∧ w.heap.size ≤ b) : AP v u1 := by
  rcases hat with e | hat
  · unfold AP; rw [e]; exact ha
  · exact h.ap_right hat
end
end Go.Proofs.Ytehlegjccghalaa.Rw
