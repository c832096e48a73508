import Derived.Test.YtfhngdknhpjhaaaFlM
/-! Package flag: what the printed functions compute, in plain words. -/
namespace Go.Proofs.Ytfhngdknhpjhaaa.FlP
open Go.RowKit Go.Proofs.YtfhngdknhpjhaaaW.PrintWords Go.Proofs.YtfhngdknhpjhaaaW.PrintLast Go.Proofs.YtfhngdknhpjhaaaW.PrintMore Go.Proofs.Ytfhngdknhpjhaaa.FlS Go.Proofs.Ytfhngdknhpjhaaa.FlB Go.Proofs.Ytfhngdknhpjhaaa.FlG Go.Proofs.Ytfhngdknhpjhaaa.FnM Go.Proofs.Ytfhngdknhpjhaaa.FlM
set_option linter.unusedVariables false
set_option linter.unusedSimpArgs false
def OkB (b : Int) : Prop := 97 ≤ b ∧ b ≤ 122 ∨ 65 ≤ b ∧ b ≤ 90 ∨ 48 ≤ b ∧ b ≤ 57 ∨ b = 46 ∨ b = 95 ∨ b = 45 ∨ b = 36 ∨ b = 47
instance (b : Int) : Decidable (OkB b) := by unfold OkB; exact inferInstance
/-- A sign of an atom. -/
def okB (b : Int) : Bool := decide (OkB b)
def atomP (s : ByteArray) : Bool := (bytesOf s).all okB && decide (1 ≤ s.size ∧ s.size ≤ 24)
theorem idx5 : ∀ n : Fin 256, (0 ≤ Lib.indexByte [46, 95, 45, 36, 47] (n.val : Int).toNat.toUInt8 ↔ (n.val = 46 ∨ n.val = 95 ∨ n.val = 45 ∨ n.val = 36 ∨ n.val = 47)) := by decide +kernel
theorem idx_ok (c : Int) (h0 : 0 ≤ c) (h1 : c < 256) : (Lib.indexByte [46, 95, 45, 36, 47] c.toNat.toUInt8 ≥ 0) ↔ (c = 46 ∨ c = 95 ∨ c = 45 ∨ c = 36 ∨ c = 47) := by
  have h := idx5 ⟨c.toNat, by omega⟩
  simp only [Int.toNat_natCast] at h
  rw [ge_iff_le, h]
  omega
theorem atom_step (k : Nat) (s : ByteArray) (i : Int) (h0 : 0 ≤ i) (h1 : i < s.size) (h9 : s.size ≤ 9223372036854775806) :
    flag_Atom.l0 (k + 1) s (s.size : Int) i = if OkB (bt s i) then flag_Atom.l0 k s (s.size : Int) (i + 1) else some false := by
  have hw : wrap64 (i + 1) = i + 1 := w64 (by omega) (by omega)
  have hb := bt_range s i
  rw [flag_Atom.l0, if_pos h1, if_pos h0, if_pos h1, hw]
  generalize flag_Atom.l0 k s (s.size : Int) (i + 1) = R
  generalize bt s i = c at *
  have hi := idx_ok c hb.1 (by omega)
  simp only [strings_IndexByte.f, Option.bind_some]
  generalize hx : Lib.indexByte [46, 95, 45, 36, 47] c.toNat.toUInt8 = x at *
  clear hw hx h0 h1 h9
  by_cases h : OkB c
  · rw [if_pos h]
    unfold OkB at h
    (repeat' split) <;> first | rfl | (exfalso; omega)
  · rw [if_neg h]
    unfold OkB at h
    (repeat' split) <;> first | rfl | (exfalso; omega)
theorem rd_byte (s : ByteArray) (i : Nat) (h : i < s.size) : (bytesOf s)[i]'(by rw [bytesOf_length]; exact h) = bt s i := by
  rw [← rd_bytesOf]
  unfold Go.Proofs.YtfhngdknhpjhaaaW.PrintWords.rd
  rw [List.getD_eq_getElem?_getD, Int.toNat_natCast, List.getElem?_eq_getElem (by rw [bytesOf_length]; exact h)]
  rfl
theorem atom_l0 (s : ByteArray) (h9 : s.size ≤ 9223372036854775806) : ∀ (m k i : Nat), i + m = s.size → m < k → flag_Atom.l0 k s (s.size : Int) (i : Int) = some (((bytesOf s).drop i).all okB && decide (1 ≤ s.size ∧ s.size ≤ 24)) := by
  intro m
  induction m with
  | zero =>
    intro k i hi hk
    obtain ⟨k, rfl⟩ : ∃ k', k = k' + 1 := ⟨k - 1, by omega⟩
    rw [flag_Atom.l0, if_neg (by omega), List.drop_of_length_le (by rw [bytesOf_length]; omega)]
    simp only [List.all_nil, Bool.true_and]
    split
    · congr 1
      rw [decide_eq_decide]
      omega
    · congr 1
      exact (decide_eq_false (by omega)).symm
  | succ m ih =>
    intro k i hi hk
    obtain ⟨k, rfl⟩ : ∃ k', k = k' + 1 := ⟨k - 1, by omega⟩
    have hlt : i < (bytesOf s).length := by rw [bytesOf_length]; omega
    rw [atom_step k s i (by omega) (by omega) h9, List.drop_eq_getElem_cons hlt, rd_byte s i (by omega), List.all_cons]
    have := ih k (i + 1) (by omega) (by omega)
    rw [show ((i + 1 : Nat) : Int) = (i : Int) + 1 by omega] at this
    rw [this]
    unfold okB
    by_cases h : OkB (bt s i)
    · rw [if_pos h, decide_eq_true h, Bool.true_and]
    · rw [if_neg h, decide_eq_false h, Bool.false_and, Bool.false_and]
theorem atom_f (s : ByteArray) (h9 : s.size ≤ 9223372036854775806) : flag_Atom.f (s.size + 1) s = some (atomP s) := by
  have := atom_l0 s h9 s.size (s.size + 1) 0 (by omega) (by omega)
  rw [List.drop_zero] at this
  exact this
/-! The contracts -/
theorem atom_calls (s : ByteArray) (w : World) (h9 : s.size ≤ 9223372036854775806) : Calls Try.prog 33 #[.string s] w fun e w' => e = .returned (.bool (atomP s)) ∧ Below w.heap.size w w' := by
  refine (flag_Atom.calls _ s _ w (atom_f s h9)).mono ?_
  rintro e w' ⟨rfl, hd⟩
  exact ⟨rfl, hd.below⟩
theorem may_calls (s : ByteArray) (w : World) (h9 : s.size ≤ 9223372036854775806) : Calls Try.prog 29 #[.string s] w fun e w' => e = .returned (.bool (atomP s)) ∧ Below w.heap.size w w' := by
  refine (flag_May.calls _ s (atomP s) w (by rw [flag_May.f, atom_f s h9]; rfl)).mono ?_
  rintro e w' ⟨rfl, hd⟩
  exact ⟨rfl, hd.below⟩
theorem awake_calls (w : World) : Calls Try.prog 27 #[] w fun e w' => e = .returned (.bool true) ∧ Below w.heap.size w w' :=
  mailsacklaw3_awake.calls 10 true w (by decide +kernel)
end Go.Proofs.Ytfhngdknhpjhaaa.FlP
