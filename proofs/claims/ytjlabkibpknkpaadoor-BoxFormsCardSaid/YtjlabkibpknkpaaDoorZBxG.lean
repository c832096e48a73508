-- Printed by prune.py: the used part of a text.
import Derived.Test.YtjlabkibpknkpaaDoorZBxN
import Derived.Test.YtjlabkibpknkpaaDoorZFeM0
import Derived.Test.YtjlabkibpknkpaaDoorZFeM1
namespace Go.Proofs.YtjlabkibpknkpaaDoor.BxG
open Go.RowKit Go.Proofs.YtjlabkibpknkpaaDoorW.PrintWords Go.Proofs.YtjlabkibpknkpaaDoorW.PrintLast Go.Proofs.YtjlabkibpknkpaaDoorW.PrintMore Go.Proofs.YtjlabkibpknkpaaDoor.FmM Go.Proofs.YtjlabkibpknkpaaDoor.PkP Go.Proofs.YtjlabkibpknkpaaDoor.FmN Go.Proofs.YtjlabkibpknkpaaDoor.FmB Go.Proofs.YtjlabkibpknkpaaDoor.FmC Go.Proofs.YtjlabkibpknkpaaDoor.FsP Go.Proofs.YtjlabkibpknkpaaDoor.BxF Go.Proofs.YtjlabkibpknkpaaDoor.BxA
set_option linter.unusedVariables false
set_option linter.unusedSimpArgs false
open Classical
theorem equalS_l0 (l m : List ByteArray) (h : l.length = m.length) (hl : l.length ≤ 1000000) : ∀ (n i : Nat), i + n = l.length → Evn (fun k => FeM.slices_Equal_string_string.l0 k l m (l.length : Int) (i : Int)) (decide (l.drop i = m.drop i)) := by
  intro n
  induction n with
  | zero =>
    intro i hi
    refine Evn.round (Evn.pure _) (fun k => ?_)
    rw [FeM.slices_Equal_string_string.l0, if_neg (by omega), List.drop_of_length_le (by omega), List.drop_of_length_le (by omega)]
    simp
  | succ n ih =>
    intro i hi
    have hlt : i < l.length := by omega
    have e1 := rds_nat l hlt
    have e2 := rds_nat m (i := i) (by omega)
    by_cases he : l[i] = m[i]'(by omega)
    · have hd : decide (l.drop i = m.drop i) = decide (l.drop (i + 1) = m.drop (i + 1)) := by rw [decide_eq_decide, drop_eq h hlt]; simp [he]
      rw [hd]
      refine Evn.round (ih (i + 1) (by omega)) (fun k => ?_)
      rw [FeM.slices_Equal_string_string.l0, if_pos (by omega), if_pos (by omega), if_pos (by omega), if_pos (by omega), e1, e2, if_pos (toList_inj.2 he), w64s (by omega) (by omega)]
      rfl
    · have hd : decide (l.drop i = m.drop i) = false := by rw [decide_eq_false_iff_not, drop_eq h hlt]; exact fun q => he q.1
      rw [hd]
      refine Evn.round (Evn.pure _) (fun k => ?_)
      rw [FeM.slices_Equal_string_string.l0, if_pos (by omega), if_pos (by omega), if_pos (by omega), if_pos (by omega), e1, e2, if_neg (fun q => he (toList_inj.1 q))]
theorem equalS_ev (l m : List ByteArray) (hl : l.length ≤ 1000000) : Evn (fun k => FeM.slices_Equal_string_string.f k l m) (decide (l = m)) := by
  unfold FeM.slices_Equal_string_string.f
  by_cases h : l.length = m.length
  · have h2 := equalS_l0 l m h hl l.length 0 (by omega)
    rw [List.drop_zero, List.drop_zero] at h2
    exact h2.cast (fun k => by rw [if_pos (by omega)]; rfl)
  · rw [decide_eq_false (fun e => h (by rw [e]))]
    exact (Evn.pure false).cast (fun k => by rw [if_neg (by omega)])
theorem equalI_l0 (l m : List Int) (h : l.length = m.length) (hl : l.length ≤ 1000000) : ∀ (n i : Nat), i + n = l.length → Evn (fun k => FeM.slices_Equal_int_int.l0 k l m (l.length : Int) (i : Int)) (decide (l.drop i = m.drop i)) := by
  intro n
  induction n with
  | zero =>
    intro i hi
    refine Evn.round (Evn.pure _) (fun k => ?_)
    rw [FeM.slices_Equal_int_int.l0, if_neg (by omega), List.drop_of_length_le (by omega), List.drop_of_length_le (by omega)]
    simp
  | succ n ih =>
    intro i hi
    have hlt : i < l.length := by omega
    have e1 := rd_nat l hlt
    have e2 := rd_nat m (i := i) (by omega)
    by_cases he : l[i] = m[i]'(by omega)
    · have hd : decide (l.drop i = m.drop i) = decide (l.drop (i + 1) = m.drop (i + 1)) := by rw [decide_eq_decide, drop_eq h hlt]; simp [he]
      rw [hd]
      refine Evn.round (ih (i + 1) (by omega)) (fun k => ?_)
      rw [FeM.slices_Equal_int_int.l0, if_pos (by omega), if_pos (by omega), if_pos (by omega), if_pos (by omega), e1, e2, if_pos he, w64s (by omega) (by omega)]
      rfl
    · have hd : decide (l.drop i = m.drop i) = false := by rw [decide_eq_false_iff_not, drop_eq h hlt]; exact fun q => he q.1
      rw [hd]
      refine Evn.round (Evn.pure _) (fun k => ?_)
      rw [FeM.slices_Equal_int_int.l0, if_pos (by omega), if_pos (by omega), if_pos (by omega), if_pos (by omega), e1, e2, if_neg he]
theorem equalI_ev (l m : List Int) (hl : l.length ≤ 1000000) : Evn (fun k => FeM.slices_Equal_int_int.f k l m) (decide (l = m)) := by
  unfold FeM.slices_Equal_int_int.f
  by_cases h : l.length = m.length
  · have h2 := equalI_l0 l m h hl l.length 0 (by omega)
    rw [List.drop_zero, List.drop_zero] at h2
    exact h2.cast (fun k => by rw [if_pos (by omega)]; rfl)
  · rw [decide_eq_false (fun e => h (by rw [e]))]
    exact (Evn.pure false).cast (fun k => by rw [if_neg (by omega)])
theorem sameMsgB_ev (a b : S31) (hl : a.f5.length ≤ 1000000) : Evn (fun k => FeM.box_sameMsg.f k a.f0 a.f1 a.f2 a.f3 a.f4 a.f5 a.f6 b.f0 b.f1 b.f2 b.f3 b.f4 b.f5 b.f6) (decide (a = b)) := by
  unfold FeM.box_sameMsg.f
  by_cases h0 : a.f0 = b.f0
  · by_cases h1 : a.f1 = b.f1
    · by_cases h2 : a.f2 = b.f2
      · by_cases h3 : a.f3 = b.f3
        · by_cases h4 : a.f4 = b.f4
          · by_cases h6 : a.f6 = b.f6
            · simp only [if_pos h0, if_pos h1, if_pos h2, if_pos (toList_inj.2 h3), if_pos h4, if_pos (toList_inj.2 h6)]
              refine (equalI_ev a.f5 b.f5 hl).bind ?_
              refine (Evn.pure (decide (a = b))).cast (fun k => ?_)
              congr 1
              rw [decide_eq_decide, sm_eq]
              simp [h0, h1, h2, h3, h4, h6]
            · rw [decide_eq_false (fun e => h6 (by rw [e]))]
              simp only [if_pos h0, if_pos h1, if_pos h2, if_pos (toList_inj.2 h3), if_pos h4, if_neg (fun q => h6 (toList_inj.1 q))]
              exact Evn.pure false
          · rw [decide_eq_false (fun e => h4 (by rw [e]))]
            simp only [if_pos h0, if_pos h1, if_pos h2, if_pos (toList_inj.2 h3), if_neg h4]
            exact Evn.pure false
        · rw [decide_eq_false (fun e => h3 (by rw [e]))]
          simp only [if_pos h0, if_pos h1, if_pos h2, if_neg (fun q => h3 (toList_inj.1 q))]
          exact Evn.pure false
      · rw [decide_eq_false (fun e => h2 (by rw [e]))]
        simp only [if_pos h0, if_pos h1, if_neg h2]
        exact Evn.pure false
    · rw [decide_eq_false (fun e => h1 (by rw [e]))]
      simp only [if_pos h0, if_neg h1]
      exact Evn.pure false
  · rw [decide_eq_false (fun e => h0 (by rw [e]))]
    simp only [if_neg h0]
    exact Evn.pure false
theorem rwords_l0 (a0 : ByteArray) (a1 a2 a3 : Int) (ws : List ByteArray) (ms : List S31) (l : List Int) (hl : l.length ≤ 1000000) : ∀ (m i : Nat) (b : List ByteArray), i + m = l.length → b.length + m ≤ 1000000 → Evn (fun k => mailsackref1_WordsOf.l0 k b l (l.length : Int) (i : Int) a0 a1 a2 a3 ws ms) (b ++ selW ws (l.drop i)) := by
  intro m
  induction m with
  | zero =>
    intro i b hi hb
    refine Evn.round (g := fun _ => some b) ?_ (fun k => by rw [mailsackref1_WordsOf.l0, if_neg (by omega)])
    rw [List.drop_of_length_le (by omega), selW, List.append_nil]
    exact Evn.pure _
  | succ m ih =>
    intro i b hi hb
    have hlt : i < l.length := by omega
    rw [List.drop_eq_getElem_cons hlt, selW]
    by_cases h0 : l[i] ≥ 0
    · by_cases h1 : l[i] < (ws.length : Int)
      · rw [if_pos ⟨h0, h1⟩]
        have h := ih (i + 1) (b ++ [rdOf ByteArray.empty ws l[i]]) (by omega) (by rw [List.length_append]; simp; omega)
        rw [List.append_assoc] at h
        exact Evn.round h (fun k => by rw [mailsackref1_WordsOf.l0, if_pos (by omega), if_pos (by omega), if_pos (by omega), rd_nat l hlt, if_pos h0, if_pos h1, if_pos h0, if_pos (by omega), w64s (by omega) (by omega)]; rfl)
      · rw [if_neg (fun h => h1 h.2)]
        exact Evn.round (ih (i + 1) b (by omega) (by omega)) (fun k => by rw [mailsackref1_WordsOf.l0, if_pos (by omega), if_pos (by omega), if_pos (by omega), rd_nat l hlt, if_pos h0, if_neg h1, w64s (by omega) (by omega)]; rfl)
    · rw [if_neg (fun h => h0 h.1)]
      exact Evn.round (ih (i + 1) b (by omega) (by omega)) (fun k => by rw [mailsackref1_WordsOf.l0, if_pos (by omega), if_pos (by omega), if_pos (by omega), rd_nat l hlt, if_neg h0, w64s (by omega) (by omega)]; rfl)
theorem rwords_ev (a0 : ByteArray) (a1 a2 a3 : Int) (ws : List ByteArray) (ms : List S31) (l : List Int) (hl : l.length ≤ 1000000) (m0 m1 m2 : Int) (m3 : ByteArray) (m4 : Int) (m6 : ByteArray) : Evn (fun k => mailsackref1_WordsOf.f k a0 a1 a2 a3 ws ms m0 m1 m2 m3 m4 l m6) (selW ws l) := by
  have h := rwords_l0 a0 a1 a2 a3 ws ms l hl l.length 0 [] (by omega) (by simp; omega)
  rw [List.drop_zero, List.nil_append] at h
  exact h
theorem runseen_l0 (l : List S31) (hl : l.length ≤ 1000000) : ∀ (m i j : Nat), i + m = l.length → j + m ≤ 1000000 → Evn (fun k => mailsackref1_Unseen.l0 k (j : Int) l (l.length : Int) (i : Int)) ((j + unsN (l.drop i) : Nat) : Int) := by
  intro m
  induction m with
  | zero =>
    intro i j hi hj
    refine Evn.round (g := fun _ => some (j : Int)) ?_ (fun k => by rw [mailsackref1_Unseen.l0, if_neg (by omega)])
    rw [List.drop_of_length_le (by omega), unsN, Nat.add_zero]
    exact Evn.pure _
  | succ m ih =>
    intro i j hi hj
    have hlt : i < l.length := by omega
    rw [List.drop_eq_getElem_cons hlt, unsN]
    by_cases h0 : Go.bits .and .i64 l[i].f4 8 = 0
    · rw [if_pos h0]
      have h := ih (i + 1) (j + 1) (by omega) (by omega)
      rw [Nat.add_assoc] at h
      exact Evn.round h (fun k => by rw [mailsackref1_Unseen.l0, if_pos (by omega), if_pos (by omega), if_pos (by omega), rdm_nat l hlt, if_pos h0, w64s (by omega) (by omega), w64s (by omega) (by omega)]; rfl)
    · rw [if_neg h0, Nat.zero_add]
      exact Evn.round (ih (i + 1) j (by omega) (by omega)) (fun k => by rw [mailsackref1_Unseen.l0, if_pos (by omega), if_pos (by omega), if_pos (by omega), rdm_nat l hlt, if_neg h0, w64s (by omega) (by omega)]; rfl)
theorem runseen_ev (a0 : ByteArray) (a1 a2 a3 : Int) (ws : List ByteArray) (l : List S31) (hl : l.length ≤ 1000000) : Evn (fun k => mailsackref1_Unseen.f k a0 a1 a2 a3 ws l) ((unsN l : Nat) : Int) := by
  have h := runseen_l0 l hl l.length 0 0 (by omega) (by omega)
  rw [List.drop_zero, Nat.zero_add] at h
  exact h
theorem rfind_l0 (u : Int) (l : List S31) (hl : l.length ≤ 1000000) : ∀ (m i : Nat), i + m = l.length → Evn (fun k => mailsackref1_Find.l0 k u l (l.length : Int) (i : Int)) (findP u i (l.drop i)) := by
  intro m
  induction m with
  | zero =>
    intro i hi
    refine Evn.round (g := fun _ => some (-1)) ?_ (fun k => by rw [mailsackref1_Find.l0, if_neg (by omega)])
    rw [List.drop_of_length_le (by omega)]
    exact Evn.pure _
  | succ m ih =>
    intro i hi
    have hlt : i < l.length := by omega
    rw [List.drop_eq_getElem_cons hlt, findP]
    by_cases h : l[i].f0 = u
    · rw [if_pos h]
      exact Evn.round (Evn.pure _) (fun k => by rw [mailsackref1_Find.l0, if_pos (by omega), if_pos (by omega), if_pos (by omega), rdm_nat l hlt, if_pos h])
    · rw [if_neg h]
      exact Evn.round (ih (i + 1) (by omega)) (fun k => by rw [mailsackref1_Find.l0, if_pos (by omega), if_pos (by omega), if_pos (by omega), rdm_nat l hlt, if_neg h, w64s (by omega) (by omega)]; rfl)
theorem rfind_ev (a0 : ByteArray) (a1 a2 a3 : Int) (ws : List ByteArray) (l : List S31) (u : Int) (hl : l.length ≤ 1000000) : Evn (fun k => mailsackref1_Find.f k a0 a1 a2 a3 ws l u) (findP u 0 l) := by
  have h := rfind_l0 u l hl l.length 0 (by omega)
  rw [List.drop_zero] at h
  exact h
end Go.Proofs.YtjlabkibpknkpaaDoor.BxG
