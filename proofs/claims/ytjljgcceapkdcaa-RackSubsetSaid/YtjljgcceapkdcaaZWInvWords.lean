-- Printed by prune.py: the used part of a text.
import Derived.Test.YtjljgcceapkdcaaZWInv
import Derived.Test.YtjljgcceapkdcaaZWFootNe
namespace Go.Proofs.YtjljgcceapkdcaaW.PrintWords
open Go.RowKit
theorem own_apart {v1 v2 : Value} {n : Nat} (hlt : ∀ k, v1.ownBlock = some k → k < n) (hge : ∀ k, v2.ownBlock = some k → n ≤ k) : v1.ownBlock = none ∨ v1.ownBlock ≠ v2.ownBlock := by
  cases h : v1.ownBlock with
  | none => exact .inl rfl
  | some k => exact .inr (fun e => by have := hlt k h; have := hge k e.symm; omega)
end Go.Proofs.YtjljgcceapkdcaaW.PrintWords
namespace Go.Proofs.YtjljgcceapkdcaaW.PrintLast
section
variable {ops : Array Oper} {a : Act} {o og : Oper} {g : Nat} {t : Tmp} {u : Bool}
theorem eval_of {v : Value} (h : a.tmps[t]? = some v) : a.eval (.tmp t) = v := by simp [Act.eval, h]
theorem putSel_not {b : Nat → Bool} {j : Nat} (hj : b j = false) : ∀ {L : List (Nat × Tmp × Value)} {a : Act}, (L.all fun e => !(e.2.1 == t) || e.1 == j) = true → (putSel a b L).tmps[t]? = a.tmps[t]?
  | [], _, _ => rfl
  | e :: r, a, h => by
    rw [List.all_cons, Bool.and_eq_true] at h
    unfold putSel
    by_cases hb : b e.1 = true
    · rw [if_pos hb, putSel_not hj h.2]
      have he : e.2.1 ≠ t := by
        intro ht
        rw [Bool.or_eq_true] at h
        rcases h.1 with h1 | h1
        · simp [ht] at h1
        · rw [beq_iff_eq] at h1
          rw [h1, hj] at hb
          cases hb
      simp [Act.put, Array.getElem?_setIfInBounds_ne he]
    · rw [if_neg hb]
      exact putSel_not hj h.2
end
end Go.Proofs.YtjljgcceapkdcaaW.PrintLast
