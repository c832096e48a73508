-- Written by a program of this claim's session (wip/tool/prune.py): what is used of a longer text. Not trusted: Lean checks it.
import Derived.Test.YtjlabkibpknkpaaDoorZPkP
namespace Go.Proofs.YtjlabkibpknkpaaDoor.PkQ
open Go.Proofs.YtjlabkibpknkpaaDoor.PkP
set_option linter.unusedVariables false
def encT (t : List Int) : List Int := enc t.length ++ t
theorem enc_eq {n : Int} (h0 : 0 ≤ n) (h1 : n ≤ 1099511627776) (rest : List Int) : num (enc n ++ rest) = (n, ((enc n).length : Int), 0) := by
  rw [num_enc, cl_of h0 h1]
theorem rNum_enc {n : Int} (h0 : 0 ≤ n) (h1 : n ≤ 1099511627776) (rest : List Int) : rNum (enc n ++ rest) 0 = (n, rest, 0) := by
  unfold rNum
  rw [if_neg (by simp), enc_eq h0 h1, if_neg (by simp)]
  simp
theorem rText_enc {most : Int} {t : List Int} (h0 : t.length ≤ 1099511627776) (h1 : (t.length : Int) ≤ most) (rest : List Int) : rText most (encT t ++ rest) 0 = (t, rest, 0) := by
  unfold rText encT
  rw [if_neg (by simp), List.append_assoc, enc_eq (by omega) (by omega)]
  simp only
  rw [if_neg (show ¬ ((0 : Int) ≠ 0) by simp), if_neg (show ¬ ((t.length : Int) > most) by omega), if_neg (show ¬ ((t.length : Int) > ((enc t.length ++ (t ++ rest)).length : Int) - ((enc t.length).length : Int)) by simp; omega), if_neg (show ¬ ((0 : Int) ≠ 0) by simp)]
  simp
def low (x : Int) : Int := x % 18446744073709551616 % 1099511627777
def encs (l : List Int) : List Int := l.flatMap fun x => enc (low x)
def encTs (l : List (List Int)) : List Int := l.flatMap encT
theorem encTs_cons (x : List Int) (l : List (List Int)) : encTs (x :: l) = encT x ++ encTs l := rfl
theorem encTs_len (l : List (List Int)) (h : ∀ t ∈ l, t.length ≤ 300) : (encTs l).length ≤ 306 * l.length := by
  induction l with
  | nil => simp [encTs]
  | cons x l ih =>
    have h1 := h x List.mem_cons_self
    have := ih (fun t ht => h t (List.mem_cons_of_mem _ ht))
    have := enc_len x.length
    rw [encTs_cons, List.length_append, List.length_cons]
    unfold encT
    rw [List.length_append]; omega
end Go.Proofs.YtjlabkibpknkpaaDoor.PkQ
