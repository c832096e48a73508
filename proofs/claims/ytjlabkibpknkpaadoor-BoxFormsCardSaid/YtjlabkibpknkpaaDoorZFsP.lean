-- Printed by prune.py: the used part of a text.
import Derived.Test.YtjlabkibpknkpaaDoorZFmC
namespace Go.Proofs.YtjlabkibpknkpaaDoor.FsP
open Go.RowKit Go.Proofs.YtjlabkibpknkpaaDoorW.PrintWords Go.Proofs.YtjlabkibpknkpaaDoorW.PrintLast Go.Proofs.YtjlabkibpknkpaaDoorW.PrintMore Go.Proofs.YtjlabkibpknkpaaDoor.FmM Go.Proofs.YtjlabkibpknkpaaDoor.PkP Go.Proofs.YtjlabkibpknkpaaDoor.FmN Go.Proofs.YtjlabkibpknkpaaDoor.FmC
set_option linter.unusedVariables false
set_option linter.unusedSimpArgs false
open Classical
theorem toList_inj {x y : ByteArray} : x.toList = y.toList ↔ x = y := by
  constructor
  · intro h
    rw [ByteArray.toList_eq, ByteArray.toList_eq] at h
    exact ByteArray.ext (Array.toList_inj.1 h)
  · rintro rfl; rfl
theorem drop_eq {α : Type} {l m : List α} (h : l.length = m.length) {i : Nat} (hi : i < l.length) : l.drop i = m.drop i ↔ l[i] = m[i]'(by omega) ∧ l.drop (i + 1) = m.drop (i + 1) := by
  rw [List.drop_eq_getElem_cons hi, List.drop_eq_getElem_cons (show i < m.length by omega), List.cons.injEq]
theorem sameTexts_l0 (l m : List ByteArray) (h : l.length = m.length) (hl : l.length ≤ 1000000) : ∀ (n i : Nat), i + n = l.length → Evn (fun k => mailsackref1_SameTexts.l0 k l m (l.length : Int) (i : Int)) (decide (l.drop i = m.drop i)) := by
  intro n
  induction n with
  | zero =>
    intro i hi
    refine Evn.round (Evn.pure _) (fun k => ?_)
    rw [mailsackref1_SameTexts.l0, if_neg (by omega), List.drop_of_length_le (by omega), List.drop_of_length_le (by omega)]
    simp
  | succ n ih =>
    intro i hi
    have hlt : i < l.length := by omega
    have e1 := rds_nat l hlt
    have e2 := rds_nat m (i := i) (by omega)
    by_cases he : l[i] = m[i]'(by omega)
    · have hd : decide (l.drop i = m.drop i) = decide (l.drop (i + 1) = m.drop (i + 1)) := by rw [decide_eq_decide, drop_eq h hlt]; simp [he]
      rw [hd]
      refine Evn.round (ih (i + 1) (by omega)) (fun k => ?_)
      rw [mailsackref1_SameTexts.l0, if_pos (by omega), if_pos (by omega), if_pos (by omega), if_pos (by omega), e1, e2, if_pos (toList_inj.2 he), w64s (by omega) (by omega)]
      rfl
    · have hd : decide (l.drop i = m.drop i) = false := by rw [decide_eq_false_iff_not, drop_eq h hlt]; exact fun q => he q.1
      rw [hd]
      refine Evn.round (Evn.pure _) (fun k => ?_)
      rw [mailsackref1_SameTexts.l0, if_pos (by omega), if_pos (by omega), if_pos (by omega), if_pos (by omega), e1, e2, if_neg (fun q => he (toList_inj.1 q))]
theorem sameTexts_ev (l m : List ByteArray) (hl : l.length ≤ 1000000) : Evn (fun k => mailsackref1_SameTexts.f k l m) (decide (l = m)) := by
  unfold mailsackref1_SameTexts.f
  by_cases h : l.length = m.length
  · have h2 := sameTexts_l0 l m h hl l.length 0 (by omega)
    rw [List.drop_zero, List.drop_zero] at h2
    exact h2.cast (fun k => by rw [if_pos (by omega)]; rfl)
  · rw [decide_eq_false (fun e => h (by rw [e]))]
    exact (Evn.pure false).cast (fun k => by rw [if_neg (by omega)])
theorem sameInts_l0 (l m : List Int) (h : l.length = m.length) (hl : l.length ≤ 1000000) : ∀ (n i : Nat), i + n = l.length → Evn (fun k => mailsackref1_sameInts.l0 k l m (l.length : Int) (i : Int)) (decide (l.drop i = m.drop i)) := by
  intro n
  induction n with
  | zero =>
    intro i hi
    refine Evn.round (Evn.pure _) (fun k => ?_)
    rw [mailsackref1_sameInts.l0, if_neg (by omega), List.drop_of_length_le (by omega), List.drop_of_length_le (by omega)]
    simp
  | succ n ih =>
    intro i hi
    have hlt : i < l.length := by omega
    have e1 := rd_nat l hlt
    have e2 := rd_nat m (i := i) (by omega)
    by_cases he : l[i] = m[i]'(by omega)
    · have hd : decide (l.drop i = m.drop i) = decide (l.drop (i + 1) = m.drop (i + 1)) := by rw [decide_eq_decide, drop_eq h hlt]; simp [he]
      rw [hd]
      refine Evn.round (ih (i + 1) (by omega)) (fun k => ?_)
      rw [mailsackref1_sameInts.l0, if_pos (by omega), if_pos (by omega), if_pos (by omega), if_pos (by omega), e1, e2, if_pos he, w64s (by omega) (by omega)]
      rfl
    · have hd : decide (l.drop i = m.drop i) = false := by rw [decide_eq_false_iff_not, drop_eq h hlt]; exact fun q => he q.1
      rw [hd]
      refine Evn.round (Evn.pure _) (fun k => ?_)
      rw [mailsackref1_sameInts.l0, if_pos (by omega), if_pos (by omega), if_pos (by omega), if_pos (by omega), e1, e2, if_neg he]
theorem sameInts_ev (l m : List Int) (hl : l.length ≤ 1000000) : Evn (fun k => mailsackref1_sameInts.f k l m) (decide (l = m)) := by
  unfold mailsackref1_sameInts.f
  by_cases h : l.length = m.length
  · have h2 := sameInts_l0 l m h hl l.length 0 (by omega)
    rw [List.drop_zero, List.drop_zero] at h2
    exact h2.cast (fun k => by rw [if_pos (by omega)]; rfl)
  · rw [decide_eq_false (fun e => h (by rw [e]))]
    exact (Evn.pure false).cast (fun k => by rw [if_neg (by omega)])
theorem sm_eq {a b : S31} : a = b ↔ a.f0 = b.f0 ∧ a.f1 = b.f1 ∧ a.f2 = b.f2 ∧ a.f3 = b.f3 ∧ a.f4 = b.f4 ∧ a.f5 = b.f5 ∧ a.f6 = b.f6 := by
  constructor
  · rintro rfl; exact ⟨rfl, rfl, rfl, rfl, rfl, rfl, rfl⟩
  · rintro ⟨h0, h1, h2, h3, h4, h5, h6⟩
    cases a; cases b
    simp only at h0 h1 h2 h3 h4 h5 h6
    rw [h0, h1, h2, h3, h4, h5, h6]
theorem sameMsg_ev (a b : S31) (hl : a.f5.length ≤ 1000000) : Evn (fun k => mailsackref1_SameMsg.f k a.f0 a.f1 a.f2 a.f3 a.f4 a.f5 a.f6 b.f0 b.f1 b.f2 b.f3 b.f4 b.f5 b.f6) (decide (a = b)) := by
  unfold mailsackref1_SameMsg.f
  by_cases h0 : a.f0 = b.f0
  · by_cases h1 : a.f1 = b.f1
    · by_cases h2 : a.f2 = b.f2
      · by_cases h3 : a.f3 = b.f3
        · by_cases h4 : a.f4 = b.f4
          · simp only [if_pos h0, if_pos h1, if_pos h2, if_pos (toList_inj.2 h3), if_pos h4]
            refine (sameInts_ev a.f5 b.f5 hl).bind ?_
            by_cases h5 : a.f5 = b.f5
            · refine (Evn.pure (decide (a = b))).cast (fun k => ?_)
              rw [if_pos (decide_eq_true h5)]
              congr 1
              rw [Bool.eq_iff_iff, beq_iff_eq, decide_eq_true_iff, toList_inj, sm_eq]
              simp [h0, h1, h2, h3, h4, h5]
            · rw [decide_eq_false (p := a = b) (fun e => h5 (by rw [e])), decide_eq_false (p := a.f5 = b.f5) h5]
              exact (Evn.pure false).cast (fun k => by rw [if_neg (by simp)])
          · rw [decide_eq_false (fun e => h4 (by rw [e]))]
            simp only [if_pos h0, if_pos h1, if_pos h2, if_pos (toList_inj.2 h3), if_neg h4]
            exact Evn.pure false
        · rw [decide_eq_false (fun e => h3 (by rw [e]))]
          simp only [if_pos h0, if_pos h1, if_pos h2, if_neg (fun q => h3 (toList_inj.1 q))]
          exact Evn.pure false
      · rw [decide_eq_false (fun e => h2 (by rw [e]))]
        simp only [if_pos h0, if_pos h1, if_neg h2]
        exact Evn.pure false
    · rw [decide_eq_false (fun e => h1 (by rw [e]))]
      simp only [if_pos h0, if_neg h1]
      exact Evn.pure false
  · rw [decide_eq_false (fun e => h0 (by rw [e]))]
    simp only [if_neg h0]
    exact Evn.pure false
section
variable (a0 b0 : ByteArray) (a1 a2 a3 b1 b2 b3 : Int) (aw bw : List ByteArray) (am bm : List S31)
theorem sameBox_l0 (h : am.length = bm.length) (hl : am.length ≤ 1000000) (hw : ∀ m ∈ am, m.f5.length ≤ 1000000) : ∀ (n i : Nat), i + n = am.length → Evn (fun k => mailsackref1_SameBox.l0 k (am.length : Int) (i : Int) a0 a1 a2 a3 aw am b0 b1 b2 b3 bw bm) (decide (am.drop i = bm.drop i)) := by
  intro n
  induction n with
  | zero =>
    intro i hi
    refine Evn.round (Evn.pure _) (fun k => ?_)
    rw [mailsackref1_SameBox.l0, if_neg (by omega), List.drop_of_length_le (by omega), List.drop_of_length_le (by omega)]
    simp
  | succ n ih =>
    intro i hi
    have hlt : i < am.length := by omega
    have e1 := rdm_nat am hlt
    have e2 := rdm_nat bm (i := i) (by omega)
    refine Evn.round (g := fun k => (mailsackref1_SameMsg.f k am[i].f0 am[i].f1 am[i].f2 am[i].f3 am[i].f4 am[i].f5 am[i].f6 (bm[i]'(by omega)).f0 (bm[i]'(by omega)).f1 (bm[i]'(by omega)).f2 (bm[i]'(by omega)).f3 (bm[i]'(by omega)).f4 (bm[i]'(by omega)).f5 (bm[i]'(by omega)).f6).bind fun t => if t = true then mailsackref1_SameBox.l0 k (am.length : Int) ((i + 1 : Nat) : Int) a0 a1 a2 a3 aw am b0 b1 b2 b3 bw bm else some false) ?_ (fun k => ?_)
    · refine (sameMsg_ev am[i] (bm[i]'(by omega)) (hw _ (List.getElem_mem hlt))).bind ?_
      by_cases he : am[i] = bm[i]'(by omega)
      · have hd : decide (am.drop i = bm.drop i) = decide (am.drop (i + 1) = bm.drop (i + 1)) := by rw [decide_eq_decide, drop_eq h hlt]; simp [he]
        rw [hd]
        exact (ih (i + 1) (by omega)).cast (fun k => by rw [if_pos (decide_eq_true he)])
      · have hd : decide (am.drop i = bm.drop i) = false := by rw [decide_eq_false_iff_not, drop_eq h hlt]; exact fun q => he q.1
        rw [hd, decide_eq_false he]
        exact (Evn.pure false).cast (fun k => by rw [if_neg (by simp)])
    · rw [mailsackref1_SameBox.l0, if_pos (by omega), if_pos (by omega), if_pos (by omega), if_pos (by omega), e1, e2, w64s (by omega) (by omega)]
      rfl
noncomputable def sameB : Bool := decide (a0 = b0 ∧ a1 = b1 ∧ a2 = b2 ∧ a3 = b3 ∧ aw = bw ∧ am = bm)
theorem sameB_self : sameB a0 a0 a1 a2 a3 a1 a2 a3 aw aw am am = true := by unfold sameB; exact decide_eq_true ⟨rfl, rfl, rfl, rfl, rfl, rfl⟩
theorem sameBox_ev (hl : am.length ≤ 1000000) (hw : ∀ m ∈ am, m.f5.length ≤ 1000000) (hl4 : aw.length ≤ 1000000) : Evn (fun k => mailsackref1_SameBox.f k a0 a1 a2 a3 aw am b0 b1 b2 b3 bw bm) (sameB a0 b0 a1 a2 a3 b1 b2 b3 aw bw am bm) := by
  have no : Evn (fun k => mailsackref1_SameBox.j0 k true a0 a1 a2 a3 aw am b0 b1 b2 b3 bw bm) false := Evn.round (Evn.pure false) (fun k => by rw [mailsackref1_SameBox.j0, if_pos rfl])
  unfold mailsackref1_SameBox.f sameB
  by_cases h0 : a0 = b0
  · by_cases h1 : a1 = b1
    · by_cases h2 : a2 = b2
      · by_cases h3 : a3 = b3
        · simp only [if_pos (toList_inj.2 h0), if_pos h1, if_pos h2, if_pos h3]
          refine (sameTexts_ev aw bw hl4).bind ?_
          by_cases h4 : aw = bw
          · by_cases h5 : am.length = bm.length
            · have hz := sameBox_l0 a0 b0 a1 a2 a3 b1 b2 b3 aw bw am bm h5 hl hw am.length 0 (by omega)
              rw [List.drop_zero, List.drop_zero] at hz
              have hd : decide (a0 = b0 ∧ a1 = b1 ∧ a2 = b2 ∧ a3 = b3 ∧ aw = bw ∧ am = bm) = decide (am = bm) := by rw [decide_eq_decide]; simp [h0, h1, h2, h3, h4]
              rw [hd]
              have hz2 : Evn (fun k => mailsackref1_SameBox.j0 k ((am.length : Int) != (bm.length : Int)) a0 a1 a2 a3 aw am b0 b1 b2 b3 bw bm) (decide (am = bm)) := hz.round (fun k => by
                rw [mailsackref1_SameBox.j0, if_neg (by rw [h5]; simp)]
                rfl)
              exact hz2.cast (fun k => by rw [if_pos (decide_eq_true h4)])
            · rw [decide_eq_false (p := a0 = b0 ∧ a1 = b1 ∧ a2 = b2 ∧ a3 = b3 ∧ aw = bw ∧ am = bm) (fun e => h5 (by rw [e.2.2.2.2.2]))]
              have hz2 : Evn (fun k => mailsackref1_SameBox.j0 k ((am.length : Int) != (bm.length : Int)) a0 a1 a2 a3 aw am b0 b1 b2 b3 bw bm) false := (Evn.pure false).round (fun k => by rw [mailsackref1_SameBox.j0, if_pos (bne_iff_ne.2 (by omega))])
              exact hz2.cast (fun k => by rw [if_pos (decide_eq_true h4)])
          · rw [decide_eq_false (p := a0 = b0 ∧ a1 = b1 ∧ a2 = b2 ∧ a3 = b3 ∧ aw = bw ∧ am = bm) (fun e => h4 e.2.2.2.2.1), decide_eq_false (p := aw = bw) h4]
            exact no.cast (fun k => by rw [if_neg (by simp)])
        · rw [decide_eq_false (fun e => h3 e.2.2.2.1)]
          simp only [if_pos (toList_inj.2 h0), if_pos h1, if_pos h2, if_neg h3]
          exact no
      · rw [decide_eq_false (fun e => h2 e.2.2.1)]
        simp only [if_pos (toList_inj.2 h0), if_pos h1, if_neg h2]
        exact no
    · rw [decide_eq_false (fun e => h1 e.2.1)]
      simp only [if_pos (toList_inj.2 h0), if_neg h1]
      exact no
  · rw [decide_eq_false (fun e => h0 e.1)]
    simp only [if_neg (fun q => h0 (toList_inj.1 q))]
    exact no
end
end Go.Proofs.YtjlabkibpknkpaaDoor.FsP
