/- What puts leave in a table, in plain words. -/
import Derived.Test.YtehlegjccghalaaTbL
namespace Go.Proofs.Ytehlegjccghalaa.TbM
open Go.Proofs.Ytehlegjccghalaa.TbP Go.Proofs.Ytehlegjccghalaa.TbL
set_option linter.unusedVariables false
section
variable {α β : Type} {lt : α → α → Bool}
theorem mem_pk {room : Nat} {ks : List α} {x y : α} (hr : ¬ room ≤ ks.length) : y ∈ pk lt room ks x ↔ y = x ∨ y ∈ ks := by
  by_cases h : x ∈ ks
  · rw [pk_in h]
    constructor
    · exact .inr
    · rintro (rfl | h2)
      · exact h
      · exact h2
  · rw [pk_new h hr, mem_ins]
theorem mem_ck (ho : Ord lt) {ks : List α} (hs : Srt lt ks) {x y : α} : y ∈ ck lt ks x ↔ y ∈ ks ∧ y ≠ x := by
  by_cases h : x ∈ ks
  · rw [ck_in h, mem_del ho hs h]
  · rw [ck_out h]
    exact ⟨fun h2 => ⟨h2, fun e => h (e ▸ h2)⟩, fun h2 => h2.1⟩
theorem len_pk {room : Nat} {ks : List α} {x : α} : (pk lt room ks x).length ≤ ks.length + 1 := by
  by_cases h : x ∈ ks
  · rw [pk_in h]; omega
  · by_cases hr : room ≤ ks.length
    · rw [pk_full h hr]; omega
    · rw [pk_new h hr, ins_length (pos_le _ _)]; exact Nat.le_refl _
/-- A name that is there has the place that it is at. -/
theorem pos_at (ho : Ord lt) {ks : List α} (hs : Srt lt ks) {x : α} {j : Nat} (hj : ks[j]? = some x) : pos lt ks x = j :=
  inj_at ho hs ((pos_mem ho hs).1 (List.mem_of_getElem? hj)) hj
/-- What stands for each name is where it stood last. -/
def Stnd (l : List α) (k : Nat) (ks : List α) (vs : List Int) : Prop := ∀ (j : Nat) x v, ks[j]? = some x → vs[j]? = some v → ∃ i : Nat, i < k ∧ v = (i : Int) ∧ l[i]? = some x
theorem src_nil (l : List α) : Stnd l 0 [] [] := fun j x v h => by simp at h
theorem src_put (ho : Ord lt) {l : List α} {k room : Nat} {ks : List α} {vs : List Int} {x : α} (hs : Srt lt ks) (hl : vs.length = ks.length) (hr : ¬ room ≤ ks.length) (h : Stnd l k ks vs) (hx : l[k]? = some x) : Stnd l (k + 1) (pk lt room ks x) (pv lt room ks vs x (k : Int)) := by
  intro j y v hj hv
  by_cases hin : x ∈ ks
  · rw [pk_in hin] at hj
    rw [pv_in hin] at hv
    by_cases e : j = pos lt ks x
    · subst e
      rw [(pos_mem ho hs).1 hin] at hj
      injection hj with hj
      subst hj
      have := pos_lt_of_mem ho hs hin
      rw [List.getElem?_set_self (by omega)] at hv
      injection hv with hv
      exact ⟨k, by omega, hv.symm, hx⟩
    · rw [List.getElem?_set_ne (fun e2 => e e2.symm)] at hv
      obtain ⟨i, h1, h2, h3⟩ := h j y v hj hv
      exact ⟨i, by omega, h2, h3⟩
  · rw [pk_new hin hr] at hj
    rw [pv_new hin hr] at hv
    have hp := pos_le (lt := lt) ks x
    rw [getElem?_ins hp] at hj
    rw [getElem?_ins (by omega)] at hv
    by_cases h1 : j < pos lt ks x
    · rw [if_pos h1] at hj hv
      obtain ⟨i, h1, h2, h3⟩ := h j y v hj hv
      exact ⟨i, by omega, h2, h3⟩
    · rw [if_neg h1] at hj hv
      by_cases h2 : j = pos lt ks x
      · rw [if_pos h2] at hj hv
        injection hj with hj
        injection hv with hv
        subst hj
        exact ⟨k, by omega, hv.symm, hx⟩
      · rw [if_neg h2] at hj hv
        obtain ⟨i, h1, h2, h3⟩ := h (j - 1) y v hj hv
        exact ⟨i, by omega, h2, h3⟩
end
/-- From the name ahead plus one one comes to the next. -/
theorem pos_next {ks : List Int} (hs : Srt intLt ks) {j : Nat} {a b : Int} (ha : ks[j]? = some a) (hb : ks[j + 1]? = some b) : pos intLt ks (a + 1) = j + 1 := by
  have h1 := (List.getElem?_eq_some_iff.1 hb).1
  refine pos_eq ord_int hs (by omega) (fun t k ht hk => ?_) (fun k hk => ?_)
  · have h2 := (lt_pos' ord_int hs (x := b) hk).2 (by rw [pos_at ord_int hs hb]; exact ht)
    have h3 : ¬ intLt a k = true := fun h => by
      have := (lt_pos' ord_int hs (x := k) ha).1 h
      rw [pos_at ord_int hs hk] at this
      omega
    unfold intLt at h3 ⊢
    have := of_decide_eq_true (p := k < b) h2
    simp at h3
    exact decide_eq_true (by omega)
  · rw [hb] at hk
    injection hk with hk
    subst hk
    have h2 := (lt_pos' ord_int hs (x := b) ha).2 (by rw [pos_at ord_int hs hb]; omega)
    have := of_decide_eq_true (p := a < b) h2
    exact decide_eq_false (by omega)
theorem next_lt {ks : List Int} (hs : Srt intLt ks) {j : Nat} {a b : Int} (ha : ks[j]? = some a) (hb : ks[j + 1]? = some b) : a < b := by
  have h2 := (lt_pos' ord_int hs (x := b) ha).2 (by rw [pos_at ord_int hs hb]; omega)
  exact of_decide_eq_true (p := a < b) h2
end Go.Proofs.Ytehlegjccghalaa.TbM
