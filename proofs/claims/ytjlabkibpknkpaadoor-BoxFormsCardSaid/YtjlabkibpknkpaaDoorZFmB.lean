-- Printed by prune.py: the used part of a text.
import Derived.Test.YtjlabkibpknkpaaDoorZFmN
namespace Go.Proofs.YtjlabkibpknkpaaDoor.FmB
open Go.RowKit Go.Proofs.YtjlabkibpknkpaaDoorW.PrintWords Go.Proofs.YtjlabkibpknkpaaDoorW.PrintLast Go.Proofs.YtjlabkibpknkpaaDoorW.PrintMore Go.Proofs.YtjlabkibpknkpaaDoor.FmG Go.Proofs.YtjlabkibpknkpaaDoor.FmM Go.Proofs.YtjlabkibpknkpaaDoor.PkP Go.Proofs.YtjlabkibpknkpaaDoor.FmN
set_option linter.unusedVariables false
set_option linter.unusedSimpArgs false
def OkB (b : Int) : Prop := 97 ≤ b ∧ b ≤ 122 ∨ 65 ≤ b ∧ b ≤ 90 ∨ 48 ≤ b ∧ b ≤ 57 ∨ b = 46 ∨ b = 95 ∨ b = 45 ∨ b = 36 ∨ b = 47
instance (b : Int) : Decidable (OkB b) := by unfold OkB; exact inferInstance
def okB (b : Int) : Bool := decide (OkB b)
def atomP (s : ByteArray) : Bool := (bytesOf s).all okB && decide (1 ≤ s.size ∧ s.size ≤ 24)
theorem idx5 : ∀ n : Fin 256, (0 ≤ Lib.indexByte [46, 95, 45, 36, 47] (n.val : Int).toNat.toUInt8 ↔ (n.val = 46 ∨ n.val = 95 ∨ n.val = 45 ∨ n.val = 36 ∨ n.val = 47)) := by decide +kernel
theorem idx_ok (c : Int) (h0 : 0 ≤ c) (h1 : c < 256) : (Lib.indexByte [46, 95, 45, 36, 47] c.toNat.toUInt8 ≥ 0) ↔ (c = 46 ∨ c = 95 ∨ c = 45 ∨ c = 36 ∨ c = 47) := by
  have h := idx5 ⟨c.toNat, by omega⟩
  simp only [Int.toNat_natCast] at h
  rw [ge_iff_le, h]
  omega
theorem atom_step (k : Nat) (s : ByteArray) (i : Nat) (h1 : i < s.size) (h9 : s.size ≤ 100000000) :
    flag_Atom.l0 (k + 1) s (s.size : Int) (i : Int) = if OkB (bt s i) then flag_Atom.l0 k s (s.size : Int) ((i + 1 : Nat) : Int) else some false := by
  have hw : wrap64 ((i : Int) + 1) = ((i + 1 : Nat) : Int) := w64s (by omega) (by omega)
  have hb := bt_range s i
  rw [flag_Atom.l0, if_pos (by omega), if_pos (by omega), if_pos (by omega), hw]
  generalize flag_Atom.l0 k s (s.size : Int) ((i + 1 : Nat) : Int) = R
  generalize bt s i = c at *
  have hi := idx_ok c hb.1 (by omega)
  simp only [strings_IndexByte.f, Option.bind_some]
  generalize hx : Lib.indexByte [46, 95, 45, 36, 47] c.toNat.toUInt8 = x at *
  clear hw hx h1 h9
  by_cases h : OkB c
  · rw [if_pos h]
    unfold OkB at h
    (repeat' split) <;> first | rfl | (exfalso; omega)
  · rw [if_neg h]
    unfold OkB at h
    (repeat' split) <;> first | rfl | (exfalso; omega)
theorem ratom_step (k : Nat) (s : ByteArray) (i : Nat) (h1 : i < s.size) (h9 : s.size ≤ 100000000) :
    mailsackref1_Atom.l0 (k + 1) s (s.size : Int) (i : Int) = if OkB (bt s i) then mailsackref1_Atom.l0 k s (s.size : Int) ((i + 1 : Nat) : Int) else some false := by
  have hw : wrap64 ((i : Int) + 1) = ((i + 1 : Nat) : Int) := w64s (by omega) (by omega)
  rw [mailsackref1_Atom.l0, if_pos (by omega), if_pos (by omega), if_pos (by omega), hw]
  generalize mailsackref1_Atom.l0 k s (s.size : Int) ((i + 1 : Nat) : Int) = R
  generalize bt s i = c at *
  clear hw h1 h9
  by_cases h : OkB c
  · rw [if_pos h]
    unfold OkB at h
    rcases h with h | h | h | h | h | h | h | h <;> simp (disch := omega) only [if_pos, if_neg]
  · rw [if_neg h]
    unfold OkB at h
    by_cases h97 : c < 97
    · by_cases h65 : c < 65
      · by_cases h48 : c < 48
        · simp (disch := omega) only [if_pos, if_neg]
        · simp (disch := omega) only [if_pos, if_neg]
      · simp (disch := omega) only [if_pos, if_neg]
    · simp (disch := omega) only [if_pos, if_neg]
theorem rd_byte (s : ByteArray) (i : Nat) (h : i < s.size) : (bytesOf s)[i]'(by rw [bytesOf_length]; exact h) = bt s i := by
  rw [← rd_bytesOf]
  unfold Go.Proofs.YtjlabkibpknkpaaDoorW.PrintWords.rd
  rw [List.getD_eq_getElem?_getD, Int.toNat_natCast, List.getElem?_eq_getElem (by rw [bytesOf_length]; exact h)]
  rfl
theorem all_drop (s : ByteArray) (i : Nat) (h : i < s.size) : ((bytesOf s).drop i).all okB = (okB (bt s i) && ((bytesOf s).drop (i + 1)).all okB) := by
  have hlt : i < (bytesOf s).length := by rw [bytesOf_length]; exact h
  rw [List.drop_eq_getElem_cons hlt, rd_byte s i h, List.all_cons]
theorem fatom_l0 (s : ByteArray) (h9 : s.size ≤ 100000000) : ∀ (m i : Nat), i + m = s.size → Evn (fun k => flag_Atom.l0 k s (s.size : Int) (i : Int)) (((bytesOf s).drop i).all okB && decide (1 ≤ s.size ∧ s.size ≤ 24)) := by
  intro m
  induction m with
  | zero =>
    intro i hi
    refine Evn.round (g := fun _ => some (decide (1 ≤ s.size ∧ s.size ≤ 24))) ?_ (fun k => ?_)
    · rw [List.drop_of_length_le (by rw [bytesOf_length]; omega)]
      exact Evn.pure _
    · rw [flag_Atom.l0, if_neg (by omega)]
      split
      · congr 1
        rw [decide_eq_decide]; omega
      · congr 1
        exact (decide_eq_false (by omega)).symm
  | succ m ih =>
    intro i hi
    rw [all_drop s i (by omega)]
    by_cases h : OkB (bt s i)
    · have z := Evn.round (ih (i + 1) (by omega)) (g2 := fun k => flag_Atom.l0 k s (s.size : Int) (i : Int)) (fun k => by rw [atom_step k s i (by omega) h9, if_pos h])
      rw [show okB (bt s i) = true from decide_eq_true h, Bool.true_and]
      exact z
    · rw [show okB (bt s i) = false from decide_eq_false h, Bool.false_and, Bool.false_and]
      exact Evn.round (Evn.pure false) (fun k => by rw [atom_step k s i (by omega) h9, if_neg h])
theorem fatom_ev (s : ByteArray) (h9 : s.size ≤ 100000000) : Evn (fun k => flag_Atom.f k s) (atomP s) := by
  have h := fatom_l0 s h9 s.size 0 (by omega)
  rw [List.drop_zero] at h
  exact h
theorem ratom_l0 (s : ByteArray) (h9 : s.size ≤ 100000000) : ∀ (m i : Nat), i + m = s.size → Evn (fun k => mailsackref1_Atom.l0 k s (s.size : Int) (i : Int)) (((bytesOf s).drop i).all okB) := by
  intro m
  induction m with
  | zero =>
    intro i hi
    refine Evn.round (g := fun _ => some true) ?_ (fun k => by unfold mailsackref1_Atom.l0; rw [if_neg (by omega)])
    rw [List.drop_of_length_le (by rw [bytesOf_length]; omega)]
    exact Evn.pure _
  | succ m ih =>
    intro i hi
    rw [all_drop s i (by omega)]
    by_cases h : OkB (bt s i)
    · have z := Evn.round (ih (i + 1) (by omega)) (g2 := fun k => mailsackref1_Atom.l0 k s (s.size : Int) (i : Int)) (fun k => by rw [ratom_step k s i (by omega) h9, if_pos h])
      rw [show okB (bt s i) = true from decide_eq_true h, Bool.true_and]
      exact z
    · rw [show okB (bt s i) = false from decide_eq_false h, Bool.false_and]
      exact Evn.round (Evn.pure false) (fun k => by rw [ratom_step k s i (by omega) h9, if_neg h])
theorem ratom_ev (s : ByteArray) : Evn (fun k => mailsackref1_Atom.f k s) (atomP s) := by
  unfold mailsackref1_Atom.f atomP
  by_cases h1 : (s.size : Int) < 1
  · rw [decide_eq_false (show ¬ (1 ≤ s.size ∧ s.size ≤ 24) by omega), Bool.and_false]
    refine Evn.round (Evn.pure false) (fun k => ?_)
    rw [if_pos h1, mailsackref1_Atom.j0, if_pos rfl]
  · by_cases h2 : (s.size : Int) > 24
    · rw [decide_eq_false (show ¬ (1 ≤ s.size ∧ s.size ≤ 24) by omega), Bool.and_false]
      refine Evn.round (Evn.pure false) (fun k => ?_)
      rw [if_neg h1, mailsackref1_Atom.j0, if_pos (decide_eq_true h2)]
    · rw [decide_eq_true (show 1 ≤ s.size ∧ s.size ≤ 24 by omega), Bool.and_true]
      have h := ratom_l0 s (by omega) s.size 0 (by omega)
      rw [List.drop_zero] at h
      refine Evn.round h (fun k => ?_)
      rw [if_neg h1, mailsackref1_Atom.j0, decide_eq_false h2, if_neg (by simp)]
      rfl
end Go.Proofs.YtjlabkibpknkpaaDoor.FmB
