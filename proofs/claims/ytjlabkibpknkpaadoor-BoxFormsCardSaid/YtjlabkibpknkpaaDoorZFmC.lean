-- Printed by prune.py: the used part of a text.
import Derived.Test.YtjlabkibpknkpaaDoorZFmB
namespace Go.Proofs.YtjlabkibpknkpaaDoor.FmC
open Go.RowKit Go.Proofs.YtjlabkibpknkpaaDoorW.PrintWords Go.Proofs.YtjlabkibpknkpaaDoorW.PrintLast Go.Proofs.YtjlabkibpknkpaaDoorW.PrintMore Go.Proofs.YtjlabkibpknkpaaDoor.FmG Go.Proofs.YtjlabkibpknkpaaDoor.FmM Go.Proofs.YtjlabkibpknkpaaDoor.PkP Go.Proofs.YtjlabkibpknkpaaDoor.FmN Go.Proofs.YtjlabkibpknkpaaDoor.FmB
set_option linter.unusedVariables false
set_option linter.unusedSimpArgs false
def risP (n : Int) : Int → List Int → Bool
  | _, [] => true
  | was, k :: r => if k ≤ was then false else if k ≥ n then false else risP n k r
def hasP (x : ByteArray) : List ByteArray → Bool
  | [] => false
  | y :: r => if y.toList = x.toList then true else hasP x r
def idxP (x : ByteArray) : Nat → List ByteArray → Int
  | _, [] => -1
  | i, y :: r => if x.toList = y.toList then (i : Int) else idxP x (i + 1) r
theorem idx_has (x : ByteArray) : ∀ (l : List ByteArray) (i : Nat), decide (idxP x i l ≥ 0) = hasP x l
  | [], _ => by simp [idxP, hasP]
  | y :: r, i => by
    unfold idxP hasP
    by_cases h : x.toList = y.toList
    · rw [if_pos h, if_pos h.symm]; exact decide_eq_true (by omega)
    · rw [if_neg h, if_neg (fun e => h e.symm)]; exact idx_has x r (i + 1)
theorem rds_nat (l : List ByteArray) {i : Nat} (h : i < l.length) : rdOf ByteArray.empty l (i : Int) = l[i] := by
  unfold rdOf
  rw [Int.toNat_natCast, List.getD_eq_getElem?_getD, List.getElem?_eq_getElem h]; rfl
theorem rdm_nat (l : List S31) {i : Nat} (h : i < l.length) : rd_T31 l (i : Int) = l[i] := by
  unfold rd_T31
  rw [Int.toNat_natCast, List.getD_eq_getElem?_getD, List.getElem?_eq_getElem h]; rfl
theorem index_l0 (x : ByteArray) (l : List ByteArray) (hl : l.length ≤ 1000000) : ∀ (m i : Nat), i + m = l.length → Evn (fun k => slices_Index_string_string.l0 k l x (l.length : Int) (i : Int)) (idxP x i (l.drop i)) := by
  intro m
  induction m with
  | zero =>
    intro i hi
    refine Evn.round (g := fun _ => some (-1)) ?_ (fun k => by rw [slices_Index_string_string.l0, if_neg (by omega)])
    rw [List.drop_of_length_le (by omega)]
    exact Evn.pure _
  | succ m ih =>
    intro i hi
    have hlt : i < l.length := by omega
    rw [List.drop_eq_getElem_cons hlt, idxP]
    by_cases h : x.toList = l[i].toList
    · rw [if_pos h]
      exact Evn.round (Evn.pure _) (fun k => by rw [slices_Index_string_string.l0, if_pos (by omega), if_pos (by omega), if_pos (by omega), rds_nat l hlt, if_pos h])
    · rw [if_neg h]
      exact Evn.round (ih (i + 1) (by omega)) (fun k => by rw [slices_Index_string_string.l0, if_pos (by omega), if_pos (by omega), if_pos (by omega), rds_nat l hlt, if_neg h, w64s (by omega) (by omega)]; rfl)
theorem contains_ev (x : ByteArray) (l : List ByteArray) (hl : l.length ≤ 1000000) : Evn (fun k => slices_Contains_string_string.f k l x) (hasP x l) := by
  have h := index_l0 x l hl l.length 0 (by omega)
  rw [List.drop_zero] at h
  unfold slices_Contains_string_string.f
  refine Evn.bind h ?_
  rw [idx_has]
  exact Evn.pure _
theorem has_l0 (x : ByteArray) (l : List ByteArray) (hl : l.length ≤ 1000000) : ∀ (m i : Nat), i + m = l.length → Evn (fun k => mailsackref1_Has.l0 k x l (l.length : Int) (i : Int)) (hasP x (l.drop i)) := by
  intro m
  induction m with
  | zero =>
    intro i hi
    refine Evn.round (g := fun _ => some false) ?_ (fun k => by rw [mailsackref1_Has.l0, if_neg (by omega)])
    rw [List.drop_of_length_le (by omega)]
    exact Evn.pure _
  | succ m ih =>
    intro i hi
    have hlt : i < l.length := by omega
    rw [List.drop_eq_getElem_cons hlt, hasP]
    by_cases h : l[i].toList = x.toList
    · rw [if_pos h]
      exact Evn.round (Evn.pure _) (fun k => by rw [mailsackref1_Has.l0, if_pos (by omega), if_pos (by omega), if_pos (by omega), rds_nat l hlt, if_pos h])
    · rw [if_neg h]
      exact Evn.round (ih (i + 1) (by omega)) (fun k => by rw [mailsackref1_Has.l0, if_pos (by omega), if_pos (by omega), if_pos (by omega), rds_nat l hlt, if_neg h, w64s (by omega) (by omega)]; rfl)
theorem has_ev (x : ByteArray) (l : List ByteArray) (hl : l.length ≤ 1000000) : Evn (fun k => mailsackref1_Has.f k l x) (hasP x l) := by
  have h := has_l0 x l hl l.length 0 (by omega)
  rw [List.drop_zero] at h
  exact h
theorem keys_l0 (n : Int) (l : List Int) (hl : l.length ≤ 1000000) : ∀ (m i : Nat) (was : Int), i + m = l.length → Evn (fun k => mailsackref1_keys.l0 k n was l (l.length : Int) (i : Int)) (risP n was (l.drop i)) := by
  intro m
  induction m with
  | zero =>
    intro i was hi
    refine Evn.round (g := fun _ => some true) ?_ (fun k => by rw [mailsackref1_keys.l0, if_neg (by omega)])
    rw [List.drop_of_length_le (by omega)]
    exact Evn.pure _
  | succ m ih =>
    intro i was hi
    have hlt : i < l.length := by omega
    rw [List.drop_eq_getElem_cons hlt, risP]
    by_cases h : l[i] ≤ was
    · rw [if_pos h]
      exact Evn.round (Evn.pure _) (fun k => by rw [mailsackref1_keys.l0, if_pos (by omega), if_pos (by omega), if_pos (by omega), rd_nat l hlt, if_pos h])
    · rw [if_neg h]
      by_cases h2 : l[i] ≥ n
      · rw [if_pos h2]
        exact Evn.round (Evn.pure _) (fun k => by rw [mailsackref1_keys.l0, if_pos (by omega), if_pos (by omega), if_pos (by omega), rd_nat l hlt, if_neg h, if_pos h2])
      · rw [if_neg h2]
        exact Evn.round (ih (i + 1) l[i] (by omega)) (fun k => by rw [mailsackref1_keys.l0, if_pos (by omega), if_pos (by omega), if_pos (by omega), rd_nat l hlt, if_neg h, if_neg h2, w64s (by omega) (by omega)]; rfl)
theorem keys_ev (n : Int) (l : List Int) (hl : l.length ≤ 1000000) : Evn (fun k => mailsackref1_keys.f k l n) (risP n (-1) l) := by
  have h := keys_l0 n l hl l.length 0 (-1) (by omega)
  rw [List.drop_zero] at h
  exact h
theorem rising_l0 (n : Int) (l : List Int) (hl : l.length ≤ 1000000) : ∀ (m i : Nat) (was : Int), i + m = l.length → Evn (fun k => box_rising.l0 k n was l (l.length : Int) (i : Int)) (risP n was (l.drop i)) := by
  intro m
  induction m with
  | zero =>
    intro i was hi
    refine Evn.round (g := fun _ => some true) ?_ (fun k => by rw [box_rising.l0, if_neg (by omega)])
    rw [List.drop_of_length_le (by omega)]
    exact Evn.pure _
  | succ m ih =>
    intro i was hi
    have hlt : i < l.length := by omega
    rw [List.drop_eq_getElem_cons hlt, risP]
    by_cases h : l[i] ≤ was
    · rw [if_pos h]
      exact Evn.round (Evn.pure _) (fun k => by rw [box_rising.l0, if_pos (by omega), if_pos (by omega), if_pos (by omega), rd_nat l hlt, if_pos h])
    · rw [if_neg h]
      by_cases h2 : l[i] ≥ n
      · rw [if_pos h2]
        exact Evn.round (Evn.pure _) (fun k => by rw [box_rising.l0, if_pos (by omega), if_pos (by omega), if_pos (by omega), rd_nat l hlt, if_neg h, if_pos h2])
      · rw [if_neg h2]
        exact Evn.round (ih (i + 1) l[i] (by omega)) (fun k => by rw [box_rising.l0, if_pos (by omega), if_pos (by omega), if_pos (by omega), rd_nat l hlt, if_neg h, if_neg h2, w64s (by omega) (by omega)]; rfl)
theorem rising_ev (n : Int) (l : List Int) (hl : l.length ≤ 1000000) : Evn (fun k => box_rising.f k l n) (risP n (-1) l) := by
  have h := rising_l0 n l hl l.length 0 (-1) (by omega)
  rw [List.drop_zero] at h
  exact h
def msgOk (nw : Int) (m : S31) : Bool := decide (1 ≤ m.f0 ∧ m.f0 < 1000000 ∧ 1 ≤ m.f1 ∧ m.f1 ≤ 1000000 ∧ 0 ≤ m.f2 ∧ m.f2 ≤ 1000000) && atomP m.f3 && decide (0 ≤ m.f4 ∧ m.f4 ≤ 31) && risP nw (-1) m.f5 && decide (m.f6.size ≤ 300)
def bit01 (b : Bool) : Int := if b = true then 0 else 1
theorem evn_ite {α : Type} {c : Prop} [Decidable c] {g g2 : Nat → Option α} {r : α} (h1 : c → Evn g r) (h2 : ¬ c → Evn g2 r) : Evn (fun k => if c then g k else g2 k) r := by
  by_cases h : c
  · simp only [if_pos h]; exact h1 h
  · simp only [if_neg h]; exact h2 h
theorem rmsg_ev (a0 : ByteArray) (a1 a2 a3 : Int) (ws : List ByteArray) (ms : List S31) (m : S31) (hw : wt m ≤ 1000000) : Evn (fun k => mailsackref1_MayMsg.f k a0 a1 a2 a3 ws ms m.f0 m.f1 m.f2 m.f3 m.f4 m.f5 m.f6) (bit01 (msgOk (ws.length : Int) m)) := by
  unfold wt at hw
  have hA := ratom_ev m.f3
  have hK := keys_ev (ws.length : Int) m.f5 (by omega)
  unfold mailsackref1_MayMsg.f msgOk
  generalize atomP m.f3 = A at *
  generalize risP (ws.length : Int) (-1) m.f5 = K at *
  refine evn_ite (fun h => ?_) (fun h1 => evn_ite (fun h => ?_) (fun h2 => evn_ite (fun h => ?_) (fun h3 => evn_ite (fun h => ?_) (fun h4 => evn_ite (fun h => ?_) (fun h5 => evn_ite (fun h => ?_) (fun h6 => hA.bind ?_))))))
  all_goals try (rw [decide_eq_false (by omega)]; exact Evn.pure _)
  rw [decide_eq_true (by omega)]
  cases A with
  | false => exact Evn.pure _
  | true =>
    simp only [Bool.true_and, if_true]
    refine evn_ite (fun h => ?_) (fun h7 => evn_ite (fun h => ?_) (fun h8 => hK.bind ?_))
    all_goals try (rw [decide_eq_false (by omega)]; exact Evn.pure _)
    rw [decide_eq_true (by omega)]
    cases K with
    | false => exact Evn.pure _
    | true =>
      simp only [Bool.true_and, if_true]
      refine evn_ite (fun h => ?_) (fun h9 => ?_)
      · rw [decide_eq_false (by omega)]; exact Evn.pure _
      · rw [decide_eq_true (by omega)]; exact Evn.pure _
theorem within_f (a b c : Int) : box_within.f a b c = some (decide (b ≤ a ∧ a ≤ c)) := by
  unfold box_within.f
  split
  · rename_i h
    congr 1
    rw [decide_eq_decide]; omega
  · rename_i h
    congr 1
    exact (decide_eq_false (by omega)).symm
theorem fmsg_ev (a0 : ByteArray) (a1 a2 a3 : Int) (ws : List ByteArray) (ms : List S31) (m : S31) (hw : wt m ≤ 1000000) : Evn (fun k => box_MayMsg.f k a0 a1 a2 a3 ws ms m.f0 m.f1 m.f2 m.f3 m.f4 m.f5 m.f6) (bit01 (msgOk (ws.length : Int) m)) := by
  unfold wt at hw
  have hA := fatom_ev m.f3 (by omega)
  have hK := rising_ev (ws.length : Int) m.f5 (by omega)
  unfold box_MayMsg.f msgOk
  simp only [within_f, Option.bind_some]
  generalize atomP m.f3 = A at *
  generalize risP (ws.length : Int) (-1) m.f5 = K at *
  simp only [decide_eq_true_eq]
  refine evn_ite (fun h1 => evn_ite (fun h2 => evn_ite (fun h3 => hA.bind ?_) (fun h => ?_)) (fun h => ?_)) (fun h => ?_)
  all_goals try (rw [decide_eq_false (by omega)]; exact Evn.pure _)
  rw [decide_eq_true (by omega)]
  cases A with
  | false => exact Evn.pure _
  | true =>
    simp only [Bool.true_and, if_true]
    refine evn_ite (fun h4 => hK.bind ?_) (fun h => ?_)
    all_goals try (rw [decide_eq_false (by omega)]; exact Evn.pure _)
    rw [decide_eq_true (by omega)]
    cases K with
    | false => exact Evn.pure _
    | true =>
      simp only [Bool.true_and, if_true]
      refine evn_ite (fun h => ?_) (fun h9 => ?_)
      · rw [decide_eq_false (by omega)]; exact Evn.pure _
      · rw [decide_eq_true (by omega)]; exact Evn.pure _
def wordsOk : List ByteArray → List ByteArray → Bool
  | _, [] => true
  | pre, w :: r => if atomP w = true then (if hasP w pre = true then false else wordsOk (pre ++ [w]) r) else false
def msgsOk (nw next high : Int) : Int → List S31 → Bool
  | _, [] => true
  | last, m :: r => if msgOk nw m = true then (if m.f0 ≤ last then false else if m.f0 ≥ next then false else if m.f1 > high then false else msgsOk nw next high m.f0 r) else false
theorem rmsgs (a0 : ByteArray) (a1 a2 a3 : Int) (ws : List ByteArray) (ms : List S31) (hl : ms.length ≤ 1000000) (hw : ∀ m ∈ ms, wt m ≤ 1000000) : ∀ (m i : Nat) (last : Int), i + m = ms.length → Evn (fun k => mailsackref1_MayBox.l1 k last ms (ms.length : Int) (i : Int) a0 a1 a2 a3 ws ms) (bit01 (msgsOk (ws.length : Int) a2 a3 last (ms.drop i))) := by
  intro m
  induction m with
  | zero =>
    intro i last hi
    refine Evn.round (g := fun _ => some 0) ?_ (fun k => by rw [mailsackref1_MayBox.l1, if_neg (by omega)])
    rw [List.drop_of_length_le (by omega)]
    exact Evn.pure _
  | succ m ih =>
    intro i last hi
    have hlt : i < ms.length := by omega
    rw [List.drop_eq_getElem_cons hlt, msgsOk]
    have hM := rmsg_ev a0 a1 a2 a3 ws ms ms[i] (hw _ (List.getElem_mem hlt))
    refine Evn.round (hM.bind (f := fun k t => if t = 0 then (if ms[i].f0 ≤ last then some 1 else if ms[i].f0 ≥ a2 then some 1 else if ms[i].f1 > a3 then some 1 else mailsackref1_MayBox.l1 k ms[i].f0 ms (ms.length : Int) ((i + 1 : Nat) : Int) a0 a1 a2 a3 ws ms) else some t) ?_) (fun k => ?_)
    · cases msgOk (ws.length : Int) ms[i] with
      | false => exact Evn.pure _
      | true =>
        simp only [bit01, if_true]
        refine evn_ite (fun h => ?_) (fun h1 => evn_ite (fun h => ?_) (fun h2 => evn_ite (fun h => ?_) (fun h3 => ?_)))
        · rw [if_pos h]; exact Evn.pure _
        · rw [if_neg h1, if_pos h]; exact Evn.pure _
        · rw [if_neg h1, if_neg h2, if_pos h]; exact Evn.pure _
        · rw [if_neg h1, if_neg h2, if_neg h3]; exact ih (i + 1) ms[i].f0 (by omega)
    · rw [mailsackref1_MayBox.l1, if_pos (by omega), if_pos (by omega), if_pos (by omega), rdm_nat ms hlt, w64s (by omega) (by omega)]
      rfl
theorem rwords (a0 : ByteArray) (a1 a2 a3 : Int) (ws : List ByteArray) (ms : List S31) (hl : ms.length ≤ 1000000) (hw : ∀ m ∈ ms, wt m ≤ 1000000) (hl4 : ws.length ≤ 1000000) (hs : ∀ s ∈ ws, s.size ≤ 100000000) : ∀ (m i : Nat), i + m = ws.length →
    Evn (fun k => mailsackref1_MayBox.l0 k ws (ws.length : Int) (i : Int) a0 a1 a2 a3 ws ms) (bit01 (wordsOk (ws.take i) (ws.drop i) && msgsOk (ws.length : Int) a2 a3 0 ms)) := by
  intro m
  induction m with
  | zero =>
    intro i hi
    have h := rmsgs a0 a1 a2 a3 ws ms hl hw ms.length 0 0 (by omega)
    rw [List.drop_zero] at h
    rw [List.drop_of_length_le (by omega)]
    exact Evn.round h (fun k => by rw [mailsackref1_MayBox.l0, if_neg (by omega)]; rfl)
  | succ m ih =>
    intro i hi
    have hlt : i < ws.length := by omega
    rw [List.drop_eq_getElem_cons hlt, wordsOk]
    have hA := ratom_ev ws[i]
    have hH := has_ev ws[i] (ws.take i) (by rw [List.length_take]; omega)
    refine Evn.round (hA.bind (f := fun k t => if t = true then ((mailsackref1_Has.f k (ws.take i) ws[i]).bind fun t2 => if t2 = true then some 1 else mailsackref1_MayBox.l0 k ws (ws.length : Int) ((i + 1 : Nat) : Int) a0 a1 a2 a3 ws ms) else some 1) ?_) (fun k => ?_)
    · cases atomP ws[i] with
      | false => exact Evn.pure _
      | true =>
        simp only [if_true]
        refine Evn.bind (f := fun k t2 => if t2 = true then some 1 else mailsackref1_MayBox.l0 k ws (ws.length : Int) ((i + 1 : Nat) : Int) a0 a1 a2 a3 ws ms) hH ?_
        cases hasP ws[i] (ws.take i) with
        | true => exact Evn.pure _
        | false =>
          simp only [Bool.false_eq_true, if_false]
          have h := ih (i + 1) (by omega)
          rw [List.take_succ_eq_append_getElem hlt] at h
          exact h
    · rw [mailsackref1_MayBox.l0, if_pos (by omega), if_pos (by omega), if_pos (by omega), rds_nat ws hlt, w64s (by omega) (by omega), if_pos (show ((i : Nat) : Int) ≤ (ws.length : Int) by omega)]
      rfl
theorem may_ev (s : ByteArray) (h9 : s.size ≤ 100000000) : Evn (fun k => flag_May.f k s) (atomP s) := by
  unfold flag_May.f
  exact (fatom_ev s h9).bind (Evn.pure _)
theorem fmsgs (a0 : ByteArray) (a1 a2 a3 : Int) (ws : List ByteArray) (ms : List S31) (hl : ms.length ≤ 1000000) (hw : ∀ m ∈ ms, wt m ≤ 1000000) : ∀ (m i : Nat) (last : Int), i + m = ms.length → Evn (fun k => box_May.l1 k last ms (ms.length : Int) (i : Int) a0 a1 a2 a3 ws ms) (bit01 (msgsOk (ws.length : Int) a2 a3 last (ms.drop i))) := by
  intro m
  induction m with
  | zero =>
    intro i last hi
    refine Evn.round (g := fun _ => some 0) ?_ (fun k => by rw [box_May.l1, if_neg (by omega)])
    rw [List.drop_of_length_le (by omega)]
    exact Evn.pure _
  | succ m ih =>
    intro i last hi
    have hlt : i < ms.length := by omega
    rw [List.drop_eq_getElem_cons hlt, msgsOk]
    have hM := fmsg_ev a0 a1 a2 a3 ws ms ms[i] (hw _ (List.getElem_mem hlt))
    refine Evn.round (hM.bind (f := fun k t => if t = 0 then (if ms[i].f0 ≤ last then some 1 else if ms[i].f0 ≥ a2 then some 1 else if ms[i].f1 > a3 then some 1 else box_May.l1 k ms[i].f0 ms (ms.length : Int) ((i + 1 : Nat) : Int) a0 a1 a2 a3 ws ms) else some 1) ?_) (fun k => ?_)
    · cases msgOk (ws.length : Int) ms[i] with
      | false => exact Evn.pure _
      | true =>
        simp only [bit01, if_true]
        refine evn_ite (fun h => ?_) (fun h1 => evn_ite (fun h => ?_) (fun h2 => evn_ite (fun h => ?_) (fun h3 => ?_)))
        · rw [if_pos h]; exact Evn.pure _
        · rw [if_neg h1, if_pos h]; exact Evn.pure _
        · rw [if_neg h1, if_neg h2, if_pos h]; exact Evn.pure _
        · rw [if_neg h1, if_neg h2, if_neg h3]; exact ih (i + 1) ms[i].f0 (by omega)
    · rw [box_May.l1, if_pos (by omega), if_pos (by omega), if_pos (by omega), rdm_nat ms hlt, w64s (by omega) (by omega)]
      rfl
theorem fwords (a0 : ByteArray) (a1 a2 a3 : Int) (ws : List ByteArray) (ms : List S31) (hl : ms.length ≤ 1000000) (hw : ∀ m ∈ ms, wt m ≤ 1000000) (hl4 : ws.length ≤ 1000000) (hs : ∀ s ∈ ws, s.size ≤ 100000000) : ∀ (m i : Nat), i + m = ws.length →
    Evn (fun k => box_May.l0 k ws (ws.length : Int) (i : Int) a0 a1 a2 a3 ws ms) (bit01 (wordsOk (ws.take i) (ws.drop i) && msgsOk (ws.length : Int) a2 a3 0 ms)) := by
  intro m
  induction m with
  | zero =>
    intro i hi
    have h := fmsgs a0 a1 a2 a3 ws ms hl hw ms.length 0 0 (by omega)
    rw [List.drop_zero] at h
    rw [List.drop_of_length_le (by omega)]
    exact Evn.round h (fun k => by rw [box_May.l0, if_neg (by omega)]; rfl)
  | succ m ih =>
    intro i hi
    have hlt : i < ws.length := by omega
    rw [List.drop_eq_getElem_cons hlt, wordsOk]
    have hA := may_ev ws[i] (hs _ (List.getElem_mem hlt))
    have hH := contains_ev ws[i] (ws.take i) (by rw [List.length_take]; omega)
    refine Evn.round (hA.bind (f := fun k t => if t = true then ((slices_Contains_string_string.f k (ws.take i) ws[i]).bind fun t2 => if t2 = true then some 1 else box_May.l0 k ws (ws.length : Int) ((i + 1 : Nat) : Int) a0 a1 a2 a3 ws ms) else some 1) ?_) (fun k => ?_)
    · cases atomP ws[i] with
      | false => exact Evn.pure _
      | true =>
        simp only [if_true]
        refine Evn.bind (f := fun k t2 => if t2 = true then some 1 else box_May.l0 k ws (ws.length : Int) ((i + 1 : Nat) : Int) a0 a1 a2 a3 ws ms) hH ?_
        cases hasP ws[i] (ws.take i) with
        | true => exact Evn.pure _
        | false =>
          simp only [Bool.false_eq_true, if_false]
          have h := ih (i + 1) (by omega)
          rw [List.take_succ_eq_append_getElem hlt] at h
          exact h
    · rw [box_May.l0, if_pos (by omega), if_pos (by omega), if_pos (by omega), rds_nat ws hlt, w64s (by omega) (by omega), if_pos (show ((i : Nat) : Int) ≤ (ws.length : Int) by omega)]
      rfl
def headOk (a0 : ByteArray) (a1 a2 a3 : Int) : Bool := atomP a0 && decide (a0.size ≤ 12 ∧ 1 ≤ a1 ∧ a1 ≤ 1000000 ∧ 1 ≤ a3 ∧ a3 ≤ 1000000 ∧ 1 ≤ a2 ∧ a2 ≤ 1000000)
def boxP (a0 : ByteArray) (a1 a2 a3 : Int) (ws : List ByteArray) (ms : List S31) : Int :=
  if headOk a0 a1 a2 a3 = true then (if ws.length ≤ 64 ∧ ms.length ≤ 60 then bit01 (wordsOk [] ws && msgsOk (ws.length : Int) a2 a3 0 ms) else 4) else 1
theorem rj1 (a0 : ByteArray) (a1 a2 a3 : Int) (ws : List ByteArray) (ms : List S31) (hw : ∀ m ∈ ms, wt m ≤ 1000000) (hs : ∀ s ∈ ws, s.size ≤ 100000000) (h1 : ws.length ≤ 64) (h2 : ms.length ≤ 60) : Evn (fun k => mailsackref1_MayBox.j1 k false a0 a1 a2 a3 ws ms) (bit01 (wordsOk [] ws && msgsOk (ws.length : Int) a2 a3 0 ms)) := by
  have h := rwords a0 a1 a2 a3 ws ms (by omega) hw (by omega) hs ws.length 0 (by omega)
  rw [List.drop_zero, List.take_zero] at h
  exact Evn.round h (fun k => by rw [mailsackref1_MayBox.j1, if_neg (by simp)]; rfl)
theorem rj0 (a0 : ByteArray) (a1 a2 a3 : Int) (ws : List ByteArray) (ms : List S31) (hw : ∀ m ∈ ms, wt m ≤ 1000000) (hs : ∀ s ∈ ws, s.size ≤ 100000000) : Evn (fun k => mailsackref1_MayBox.j0 k false a0 a1 a2 a3 ws ms) (if ws.length ≤ 64 ∧ ms.length ≤ 60 then bit01 (wordsOk [] ws && msgsOk (ws.length : Int) a2 a3 0 ms) else 4) := by
  by_cases h1 : (ws.length : Int) > 64
  · rw [if_neg (by omega)]
    have h4 : Evn (fun k => mailsackref1_MayBox.j1 k true a0 a1 a2 a3 ws ms) 4 := Evn.round (Evn.pure 4) (fun k => by rw [mailsackref1_MayBox.j1, if_pos rfl])
    exact Evn.round h4 (fun k => by rw [mailsackref1_MayBox.j0, if_neg (by simp), if_pos h1])
  · by_cases h2 : (ms.length : Int) > 60
    · rw [if_neg (by omega)]
      have h4 : Evn (fun k => mailsackref1_MayBox.j1 k true a0 a1 a2 a3 ws ms) 4 := Evn.round (Evn.pure 4) (fun k => by rw [mailsackref1_MayBox.j1, if_pos rfl])
      exact Evn.round h4 (fun k => by rw [mailsackref1_MayBox.j0, if_neg (by simp), if_neg h1, decide_eq_true h2])
    · rw [if_pos (by omega)]
      exact Evn.round (rj1 a0 a1 a2 a3 ws ms hw hs (by omega) (by omega)) (fun k => by rw [mailsackref1_MayBox.j0, if_neg (by simp), if_neg h1, decide_eq_false h2])
theorem rj0t (a0 : ByteArray) (a1 a2 a3 : Int) (ws : List ByteArray) (ms : List S31) : Evn (fun k => mailsackref1_MayBox.j0 k true a0 a1 a2 a3 ws ms) 1 := Evn.round (Evn.pure 1) (fun k => by rw [mailsackref1_MayBox.j0, if_pos rfl])
theorem rbox_ev (a0 : ByteArray) (a1 a2 a3 : Int) (ws : List ByteArray) (ms : List S31) (hw : ∀ m ∈ ms, wt m ≤ 1000000) (hs : ∀ s ∈ ws, s.size ≤ 100000000) : Evn (fun k => mailsackref1_MayBox.f k a0 a1 a2 a3 ws ms) (boxP a0 a1 a2 a3 ws ms) := by
  have hA := ratom_ev a0
  have hT := rj0t a0 a1 a2 a3 ws ms
  have hF := rj0 a0 a1 a2 a3 ws ms hw hs
  unfold mailsackref1_MayBox.f boxP headOk
  generalize atomP a0 = A at *
  refine hA.bind ?_
  cases A with
  | false => simpa using hT
  | true =>
    simp only [Bool.true_and, if_true, decide_eq_true_eq]
    refine evn_ite (fun h => ?_) (fun h1 => evn_ite (fun h => ?_) (fun h2 => evn_ite (fun h => ?_) (fun h3 => evn_ite (fun h => ?_) (fun h4 => evn_ite (fun h => ?_) (fun h5 => evn_ite (fun h => ?_) (fun h6 => ?_))))))
    all_goals try (rw [if_neg (by omega)]; exact hT)
    by_cases h7 : a2 > 1000000
    · rw [if_neg (by omega), decide_eq_true h7]; exact hT
    · rw [if_pos (by omega), decide_eq_false h7]; exact hF
theorem fj0 (a0 : ByteArray) (a1 a2 a3 : Int) (ws : List ByteArray) (ms : List S31) (hw : ∀ m ∈ ms, wt m ≤ 1000000) (hs : ∀ s ∈ ws, s.size ≤ 100000000) : Evn (fun k => box_May.j0 k false a0 a1 a2 a3 ws ms) (if ws.length ≤ 64 ∧ ms.length ≤ 60 then bit01 (wordsOk [] ws && msgsOk (ws.length : Int) a2 a3 0 ms) else 4) := by
  by_cases h1 : (ws.length : Int) > 64
  · rw [if_neg (by omega)]
    exact Evn.round (Evn.pure 4) (fun k => by rw [box_May.j0, if_neg (by simp), if_pos h1])
  · by_cases h2 : (ms.length : Int) > 60
    · rw [if_neg (by omega)]
      exact Evn.round (Evn.pure 4) (fun k => by rw [box_May.j0, if_neg (by simp), if_neg h1, if_pos h2])
    · rw [if_pos (by omega)]
      have h := fwords a0 a1 a2 a3 ws ms (by omega) hw (by omega) hs ws.length 0 (by omega)
      rw [List.drop_zero, List.take_zero] at h
      exact Evn.round h (fun k => by rw [box_May.j0, if_neg (by simp), if_neg h1, if_neg h2]; rfl)
theorem fj0t (a0 : ByteArray) (a1 a2 a3 : Int) (ws : List ByteArray) (ms : List S31) : Evn (fun k => box_May.j0 k true a0 a1 a2 a3 ws ms) 1 := Evn.round (Evn.pure 1) (fun k => by rw [box_May.j0, if_pos rfl])
theorem fbox_ev (a0 : ByteArray) (a1 a2 a3 : Int) (ws : List ByteArray) (ms : List S31) (h0 : a0.size ≤ 100000000) (hw : ∀ m ∈ ms, wt m ≤ 1000000) (hs : ∀ s ∈ ws, s.size ≤ 100000000) : Evn (fun k => box_May.f k a0 a1 a2 a3 ws ms) (boxP a0 a1 a2 a3 ws ms) := by
  have hA := fatom_ev a0 h0
  have hT := fj0t a0 a1 a2 a3 ws ms
  have hF := fj0 a0 a1 a2 a3 ws ms hw hs
  unfold box_May.f boxP headOk
  simp only [within_f, Option.bind_some]
  generalize atomP a0 = A at *
  refine hA.bind ?_
  cases A with
  | false => simpa using hT
  | true =>
    simp only [Bool.true_and, if_true, decide_eq_true_eq]
    refine evn_ite (fun h => ?_) (fun h1 => evn_ite (fun h2 => evn_ite (fun h3 => ?_) (fun h => ?_)) (fun h => ?_))
    · rw [if_neg (by omega)]; exact hT
    · by_cases h7 : 1 ≤ a2 ∧ a2 ≤ 1000000
      · rw [if_pos (by omega), decide_eq_true h7]; exact hF
      · rw [if_neg (by omega), decide_eq_false h7]; exact hT
    · rw [if_neg (by omega)]; exact hT
    · rw [if_neg (by omega)]; exact hT
end Go.Proofs.YtjlabkibpknkpaaDoor.FmC
