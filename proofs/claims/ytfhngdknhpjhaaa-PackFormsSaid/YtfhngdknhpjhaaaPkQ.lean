/- The plain law of package pack: what is written is read as it was; what is cut short is too short. -/
import Derived.Test.YtfhngdknhpjhaaaPkP
namespace Go.Proofs.Ytfhngdknhpjhaaa.PkQ
open Go.Proofs.Ytfhngdknhpjhaaa.PkP
set_option linter.unusedVariables false

def encT (t : List Int) : List Int := enc t.length ++ t
theorem enc_eq {n : Int} (h0 : 0 ≤ n) (h1 : n ≤ 1099511627776) (rest : List Int) : num (enc n ++ rest) = (n, ((enc n).length : Int), 0) := by
  rw [num_enc, cl_of h0 h1]
theorem rNum_enc {n : Int} (h0 : 0 ≤ n) (h1 : n ≤ 1099511627776) (rest : List Int) : rNum (enc n ++ rest) 0 = (n, rest, 0) := by
  unfold rNum
  rw [if_neg (by simp), enc_eq h0 h1, if_neg (by simp)]
  simp
theorem rText_enc {most : Int} {t : List Int} (h0 : t.length ≤ 1099511627776) (h1 : (t.length : Int) ≤ most) (rest : List Int) : rText most (encT t ++ rest) 0 = (t, rest, 0) := by
  unfold rText encT
  rw [if_neg (by simp), List.append_assoc, enc_eq (by omega) (by omega)]
  simp only
  rw [if_neg (show ¬ ((0 : Int) ≠ 0) by simp), if_neg (show ¬ ((t.length : Int) > most) by omega), if_neg (show ¬ ((t.length : Int) > ((enc t.length ++ (t ++ rest)).length : Int) - ((enc t.length).length : Int)) by simp; omega), if_neg (show ¬ ((0 : Int) ≠ 0) by simp)]
  simp
theorem rNum_err (bs : List Int) {e : Int} (h : e ≠ 0) : rNum bs e = (0, bs, e) := by unfold rNum; rw [if_pos h]
theorem rText_err (most : Int) (bs : List Int) {e : Int} (h : e ≠ 0) : rText most bs e = ([], bs, e) := by unfold rText; rw [if_pos h]

/-- A reader of what was cut short: either it has met the end, or it stands in what is left. -/
def Short (rest bs : List Int) (e : Int) : Prop := e = 2 ∨ e = 0 ∧ ∃ m, m < rest.length ∧ bs = rest.take m
theorem short_num {n : Int} {rest bs : List Int} {e : Int} (h0 : 0 ≤ n) (h1 : n ≤ 1099511627776) (h : Short (enc n ++ rest) bs e) : Short rest (rNum bs e).2.1 (rNum bs e).2.2 := by
  rcases h with rfl | ⟨rfl, m, hm, rfl⟩
  · rw [rNum_err _ (by decide)]; exact .inl rfl
  · by_cases hlt : m < (enc n).length
    · rw [List.take_append_of_le_length (by omega)]
      unfold rNum
      rw [if_neg (by simp), num_short n m hlt, if_pos (by simp)]
      exact .inl rfl
    · have e1 : (enc n ++ rest).take m = enc n ++ rest.take (m - (enc n).length) := by
        rw [List.take_append, List.take_of_length_le (by omega)]
      rw [e1, rNum_enc h0 h1]
      exact .inr ⟨rfl, _, by simp at hm; omega, rfl⟩
theorem short_text {most : Int} {t rest bs : List Int} {e : Int} (h0 : t.length ≤ 1099511627776) (h1 : (t.length : Int) ≤ most) (h : Short (encT t ++ rest) bs e) : Short rest (rText most bs e).2.1 (rText most bs e).2.2 := by
  rcases h with rfl | ⟨rfl, m, hm, rfl⟩
  · rw [rText_err _ _ (by decide)]; exact .inl rfl
  · unfold encT at hm ⊢
    by_cases hlt : m < (enc t.length).length
    · rw [List.append_assoc, List.take_append_of_le_length (by omega)]
      unfold rText
      rw [if_neg (by simp), num_short _ m hlt]
      simp only
      rw [if_pos (by simp), if_pos (by simp)]
      exact .inl rfl
    · by_cases hlt2 : m < (enc t.length ++ t).length
      · have e1 : ((enc t.length ++ t) ++ rest).take m = enc t.length ++ t.take (m - (enc t.length).length) := by
          rw [List.take_append_of_le_length (by omega), List.take_append, List.take_of_length_le (by omega)]
        rw [e1]
        unfold rText
        rw [if_neg (by simp), enc_eq (by omega) (by omega)]
        simp only
        rw [if_neg (show ¬ ((0 : Int) ≠ 0) by simp), if_neg (show ¬ ((t.length : Int) > most) by omega), if_pos (show (t.length : Int) > ((enc t.length ++ t.take (m - (enc t.length).length)).length : Int) - ((enc t.length).length : Int) by simp at hlt2 ⊢; omega), if_pos (show (2 : Int) ≠ 0 by simp)]
        exact .inl rfl
      · have e1 : ((enc t.length ++ t) ++ rest).take m = encT t ++ rest.take (m - (enc t.length ++ t).length) := by
          rw [List.take_append, List.take_of_length_le (by omega)]; rfl
        rw [e1, rText_enc h0 h1]
        exact .inr ⟨rfl, _, by simp at hm hlt2 ⊢; omega, rfl⟩
theorem short_end {bs : List Int} {e : Int} (h : Short [] bs e) : e = 2 := by
  rcases h with h | ⟨_, m, hm, _⟩
  · exact h
  · simp at hm

/-- A whole number brought below 2^40 + 1, as the statement does it. -/
def low (x : Int) : Int := x % 18446744073709551616 % 1099511627777
theorem low_bd (x : Int) : 0 ≤ low x ∧ low x ≤ 1099511627776 := by unfold low; omega
/-- All numbers as bytes; all texts. -/
def encs (l : List Int) : List Int := l.flatMap fun x => enc (low x)
def encTs (l : List (List Int)) : List Int := l.flatMap encT
theorem encs_cons (x : Int) (l : List Int) : encs (x :: l) = enc (low x) ++ encs l := rfl
theorem encs_snoc (l : List Int) (x : Int) : encs (l ++ [x]) = encs l ++ enc (low x) := by simp [encs]
theorem encTs_snoc (l : List (List Int)) (x : List Int) : encTs (l ++ [x]) = encTs l ++ encT x := by simp [encTs]
theorem encTs_cons (x : List Int) (l : List (List Int)) : encTs (x :: l) = encT x ++ encTs l := rfl
theorem encs_len (l : List Int) : (encs l).length ≤ 6 * l.length := by
  induction l with
  | nil => simp [encs]
  | cons x l ih => rw [encs_cons, List.length_append, List.length_cons]; have := enc_len (low x); omega
theorem encTs_len (l : List (List Int)) (h : ∀ t ∈ l, t.length ≤ 300) : (encTs l).length ≤ 306 * l.length := by
  induction l with
  | nil => simp [encTs]
  | cons x l ih =>
    have h1 := h x List.mem_cons_self
    have := ih (fun t ht => h t (List.mem_cons_of_mem _ ht))
    have := enc_len x.length
    rw [encTs_cons, List.length_append, List.length_cons]
    unfold encT
    rw [List.length_append]; omega
theorem encs_drop (l : List Int) (k : Nat) (h : k < l.length) : encs (l.drop k) = enc (low l[k]) ++ encs (l.drop (k + 1)) := by rw [List.drop_eq_getElem_cons h, encs_cons]
theorem encTs_drop (l : List (List Int)) (k : Nat) (h : k < l.length) : encTs (l.drop k) = encT l[k] ++ encTs (l.drop (k + 1)) := by rw [List.drop_eq_getElem_cons h, encTs_cons]
theorem bytes_encs (l : List Int) : ∀ b ∈ encs l, 0 ≤ b ∧ b < 256 := by
  intro b hb
  obtain ⟨x, _, hx⟩ := List.mem_flatMap.1 hb
  exact enc_byte _ b hx
theorem bytes_encTs (l : List (List Int)) (h : ∀ t ∈ l, ∀ b ∈ t, 0 ≤ b ∧ b < 256) : ∀ b ∈ encTs l, 0 ≤ b ∧ b < 256 := by
  intro b hb
  obtain ⟨x, hx1, hx⟩ := List.mem_flatMap.1 hb
  rcases List.mem_append.1 hx with h1 | h1
  · exact enc_byte _ b h1
  · exact h x hx1 b h1
end Go.Proofs.Ytfhngdknhpjhaaa.PkQ
