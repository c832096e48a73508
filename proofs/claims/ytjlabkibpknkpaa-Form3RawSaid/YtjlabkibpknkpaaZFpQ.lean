-- Written by a program of this claim's session (wip/tool/prune.py): what is used of a longer text. Not trusted: Lean checks it.
import Derived.Test.YtjlabkibpknkpaaZFpP
namespace Go.Proofs.Ytjlabkibpknkpaa.FpQ
open Go.RowKit Go.Proofs.YtjlabkibpknkpaaW.PrintWords Go.Proofs.YtjlabkibpknkpaaW.PrintLast Go.Proofs.YtjlabkibpknkpaaW.PrintMore Go.Proofs.Ytjlabkibpknkpaa.FmM Go.Proofs.Ytjlabkibpknkpaa.PkP Go.Proofs.Ytjlabkibpknkpaa.FmN Go.Proofs.Ytjlabkibpknkpaa.FmB Go.Proofs.Ytjlabkibpknkpaa.FmC Go.Proofs.Ytjlabkibpknkpaa.FmH Go.Proofs.Ytjlabkibpknkpaa.FmY Go.Proofs.Ytjlabkibpknkpaa.FpP
set_option linter.unusedVariables false
set_option linter.unusedSimpArgs false
theorem risP_len : ∀ (l : List Int) {n was : Int}, risP n was l = true → was < n → (l.length : Int) ≤ n - was - 1
  | [], n, was, _, h => by simp; omega
  | a :: r, n, was, h, h2 => by
    unfold risP at h
    split at h
    · cases h
    · split at h
      · cases h
      · have := risP_len r h (by omega)
        rw [List.length_cons]
        omega
theorem atom_sz {s : ByteArray} (h : atomP s = true) : 1 ≤ s.size ∧ s.size ≤ 24 := by
  unfold atomP at h
  rw [Bool.and_eq_true] at h
  exact of_decide_eq_true h.2
theorem msgOk_split {nw : Int} {m : S35} (h : msgOk nw m = true) : (1 ≤ m.f0 ∧ m.f0 < 1000000 ∧ 1 ≤ m.f1 ∧ m.f1 ≤ 1000000 ∧ 0 ≤ m.f2 ∧ m.f2 ≤ 1000000) ∧ atomP m.f3 = true ∧ (0 ≤ m.f4 ∧ m.f4 ≤ 31) ∧ risP nw (-1) m.f5 = true ∧ m.f6.size ≤ 300 := by
  unfold msgOk at h
  simp only [Bool.and_eq_true, decide_eq_true_eq] at h
  exact ⟨h.1.1.1.1, h.1.1.1.2, h.1.1.2, h.1.2, h.2⟩
theorem wordsOk_all : ∀ (l pre : List ByteArray), wordsOk pre l = true → ∀ w ∈ l, atomP w = true
  | [], _, _ => by simp
  | a :: r, pre, h => by
    unfold wordsOk at h
    split at h
    · rename_i ha
      split at h
      · cases h
      · intro w hw
        rcases List.mem_cons.1 hw with rfl | hw
        · exact ha
        · exact wordsOk_all r _ h w hw
    · cases h
def May (b : BoxV) : Prop := boxP b.f0 b.f1 b.f2 b.f3 b.f4 b.f5 = 0
structure MayOf (b : BoxV) : Prop where
  id : 1 ≤ b.f0.size ∧ b.f0.size ≤ 12
  n1 : 1 ≤ b.f1 ∧ b.f1 ≤ 1000000
  n2 : 1 ≤ b.f2 ∧ b.f2 ≤ 1000000
  n3 : 1 ≤ b.f3 ∧ b.f3 ≤ 1000000
  nw : b.f4.length ≤ 64
  nm : b.f5.length ≤ 60
  ws : wordsOk [] b.f4 = true
  ms : msgsOk (b.f4.length : Int) b.f2 b.f3 0 b.f5 = true
theorem bit01_0 {b : Bool} (h : bit01 b = 0) : b = true := by
  unfold bit01 at h
  split at h
  · assumption
  · cases h
theorem may_of {b : BoxV} (h : May b) : MayOf b := by
  unfold May boxP at h
  split at h
  · rename_i hh
    split at h
    · rename_i hl
      have hb := bit01_0 h
      rw [Bool.and_eq_true] at hb
      unfold headOk at hh
      rw [Bool.and_eq_true] at hh
      have h2 := of_decide_eq_true hh.2
      exact ⟨⟨(atom_sz hh.1).1, h2.1⟩, ⟨h2.2.1, h2.2.2.1⟩, ⟨h2.2.2.2.2.2.1, h2.2.2.2.2.2.2⟩, ⟨h2.2.2.2.1, h2.2.2.2.2.1⟩, hl.1, hl.2, hb.1, hb.2⟩
    · cases h
  · cases h
theorem sumW_bd : ∀ (l : List ByteArray) (B : Nat), (∀ w ∈ l, w.size ≤ B) → sumW l ≤ l.length * B
  | [], _, _ => by simp [sumW]
  | a :: r, B, h => by
    have h1 := h a List.mem_cons_self
    have h2 := sumW_bd r B (fun w hw => h w (List.mem_cons_of_mem _ hw))
    rw [sumW, List.length_cons, Nat.succ_mul]
    omega
theorem sumM_bd : ∀ (l : List S35) (B : Nat), (∀ m ∈ l, wt m ≤ B) → sumM l ≤ l.length * B
  | [], _, _ => by simp [sumM]
  | a :: r, B, h => by
    have h1 := h a List.mem_cons_self
    have h2 := sumM_bd r B (fun w hw => h w (List.mem_cons_of_mem _ hw))
    rw [sumM, List.length_cons, Nat.succ_mul]
    omega
theorem msgsOk_all : ∀ (l : List S35) {nw next high last : Int}, msgsOk nw next high last l = true → ∀ m ∈ l, msgOk nw m = true
  | [], _, _, _, _, _ => by simp
  | a :: r, nw, next, high, last, h => by
    unfold msgsOk at h
    split at h
    · rename_i hm
      split at h
      · cases h
      · split at h
        · cases h
        · split at h
          · cases h
          · intro m hm2
            rcases List.mem_cons.1 hm2 with rfl | hm2
            · exact hm
            · exact msgsOk_all r h m hm2
    · cases h
theorem may_bulk {b : BoxV} (h : May b) : bulk b.f0 b.f4 b.f5 ≤ 60000 ∧ b.f4.length ≤ 100 ∧ b.f5.length ≤ 100 := by
  obtain ⟨hid, h1, h2, h3, hnw, hnm, hws, hms⟩ := may_of h
  have hw := wordsOk_all _ _ hws
  have hm := msgsOk_all _ hms
  have s1 := sumW_bd b.f4 24 (fun w hm => (atom_sz (hw w hm)).2)
  have s2 := sumM_bd b.f5 388 (fun m hmm => by
    obtain ⟨q0, q3, q4, q5, q6⟩ := msgOk_split (hm m hmm)
    have ql := risP_len _ q5 (by omega)
    have q3' := atom_sz q3
    unfold wt
    omega)
  unfold bulk
  omega
theorem fNum_no {most : Int} {s : St} (h : ¬ Ok s) : fNum most s = (0, s) := by unfold fNum; rw [if_neg h]
theorem fTxt_no {most : Int} {s : St} (h : ¬ Ok s) : fTxt most s = (⟨#[]⟩, s) := by unfold fTxt; rw [if_neg h]
end Go.Proofs.Ytjlabkibpknkpaa.FpQ
