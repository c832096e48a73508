-- Printed by prune.py: the used part of a text.
import Derived.Test.YtplfpbfmnogckaaDoorZTdM0
import Derived.Test.YtplfpbfmnogckaaDoorZTdM1
import Derived.Test.YtplfpbfmnogckaaDoorZTdM2
import Derived.Test.YtplfpbfmnogckaaDoorZTdM3
import Derived.Test.YtplfpbfmnogckaaDoorZTdM4
import Derived.Test.YtplfpbfmnogckaaDoorZTdM5
import Derived.Test.YtplfpbfmnogckaaDoorZTdM6
import Derived.Test.YtplfpbfmnogckaaDoorZTdM7
import Derived.Test.YtplfpbfmnogckaaDoorZShelf
import Derived.Lib.LaidTab
import Derived.Lib.ItoaLen
import Derived.Lib.AppendIntMem
namespace Go.Proofs.YtplfpbfmnogckaaDoor.TdP
open Go.RowKit Go.Proofs.YtplfpbfmnogckaaDoorW.PrintWords Go.Proofs.YtplfpbfmnogckaaDoorW.PrintLast Go.Proofs.YtplfpbfmnogckaaDoorW.PrintMore Go.Proofs.YtplfpbfmnogckaaDoor.TdG Go.Proofs.YtplfpbfmnogckaaDoor.TdM
set_option linter.unusedVariables false
set_option linter.unusedSimpArgs false
def Evn {α : Type} (g : Nat → Option α) (r : α) : Prop := ∃ K, ∀ k, K ≤ k → g k = some r
theorem Evn.pure {α : Type} (r : α) : Evn (fun _ => some r) r := ⟨0, fun _ _ => rfl⟩
theorem Evn.bind {α β : Type} {g : Nat → Option α} {f : Nat → α → Option β} {x : α} {r : β} (h : Evn g x) (h2 : Evn (fun k => f k x) r) : Evn (fun k => (g k).bind (f k)) r := by
  obtain ⟨K, hK⟩ := h
  obtain ⟨L, hL⟩ := h2
  exact ⟨max K L, fun k hk => by show (g k).bind (f k) = some r; rw [hK k (by omega)]; exact hL k (by omega)⟩
theorem Evn.cast {α : Type} {g g2 : Nat → Option α} {r : α} (h : Evn g r) (he : ∀ k, g2 k = g k) : Evn g2 r := by
  obtain ⟨K, hK⟩ := h
  exact ⟨K, fun k hk => by rw [he]; exact hK k hk⟩
theorem Evn.round {α : Type} {g g2 : Nat → Option α} {r : α} (h : Evn g r) (he : ∀ k, g2 (k + 1) = g k) : Evn g2 r := by
  obtain ⟨K, hK⟩ := h
  refine ⟨K + 1, fun k hk => ?_⟩
  obtain ⟨j, rfl⟩ : ∃ j, k = j + 1 := ⟨k - 1, by omega⟩
  rw [he]
  exact hK j (by omega)
theorem Evn.get {α : Type} {g : Nat → Option α} {r : α} (h : Evn g r) : ∃ k, g k = some r := by
  obtain ⟨K, hK⟩ := h
  exact ⟨K, hK K (Nat.le_refl _)⟩
theorem w64s {x : Int} (h0 : -9223372036854775808 ≤ x) (h1 : x ≤ 9223372036854775807) : wrap64 x = x := by unfold wrap64; omega
theorem rd_nat (l : List Int) {i : Nat} (h : i < l.length) : Go.Proofs.YtplfpbfmnogckaaDoorW.PrintWords.rd l (i : Int) = l[i] := by
  unfold Go.Proofs.YtplfpbfmnogckaaDoorW.PrintWords.rd
  rw [Int.toNat_natCast, List.getD_eq_getElem?_getD, List.getElem?_eq_getElem h]; rfl
def wt (m : S34) : Nat := m.f5.length + m.f6.size + m.f3.size
def OkB (b : Int) : Prop := 97 ≤ b ∧ b ≤ 122 ∨ 65 ≤ b ∧ b ≤ 90 ∨ 48 ≤ b ∧ b ≤ 57 ∨ b = 46 ∨ b = 95 ∨ b = 45 ∨ b = 36 ∨ b = 47
instance (b : Int) : Decidable (OkB b) := by unfold OkB; exact inferInstance
def okB (b : Int) : Bool := decide (OkB b)
def atomP (s : ByteArray) : Bool := (bytesOf s).all okB && decide (1 ≤ s.size ∧ s.size ≤ 24)
theorem ratom_step (k : Nat) (s : ByteArray) (i : Nat) (h1 : i < s.size) (h9 : s.size ≤ 100000000) :
    mailsackref1_Atom.l0 (k + 1) s (s.size : Int) (i : Int) = if OkB (bt s i) then mailsackref1_Atom.l0 k s (s.size : Int) ((i + 1 : Nat) : Int) else some false := by
  have hw : wrap64 ((i : Int) + 1) = ((i + 1 : Nat) : Int) := w64s (by omega) (by omega)
  rw [mailsackref1_Atom.l0, if_pos (by omega), if_pos (by omega), if_pos (by omega), hw]
  generalize mailsackref1_Atom.l0 k s (s.size : Int) ((i + 1 : Nat) : Int) = R
  generalize bt s i = c at *
  clear hw h1 h9
  by_cases h : OkB c
  · rw [if_pos h]
    unfold OkB at h
    rcases h with h | h | h | h | h | h | h | h <;> simp (disch := omega) only [if_pos, if_neg]
  · rw [if_neg h]
    unfold OkB at h
    by_cases h97 : c < 97
    · by_cases h65 : c < 65
      · by_cases h48 : c < 48
        · simp (disch := omega) only [if_pos, if_neg]
        · simp (disch := omega) only [if_pos, if_neg]
      · simp (disch := omega) only [if_pos, if_neg]
    · simp (disch := omega) only [if_pos, if_neg]
theorem rd_byte (s : ByteArray) (i : Nat) (h : i < s.size) : (bytesOf s)[i]'(by rw [bytesOf_length]; exact h) = bt s i := by
  rw [← rd_bytesOf]
  unfold Go.Proofs.YtplfpbfmnogckaaDoorW.PrintWords.rd
  rw [List.getD_eq_getElem?_getD, Int.toNat_natCast, List.getElem?_eq_getElem (by rw [bytesOf_length]; exact h)]
  rfl
theorem all_drop (s : ByteArray) (i : Nat) (h : i < s.size) : ((bytesOf s).drop i).all okB = (okB (bt s i) && ((bytesOf s).drop (i + 1)).all okB) := by
  have hlt : i < (bytesOf s).length := by rw [bytesOf_length]; exact h
  rw [List.drop_eq_getElem_cons hlt, rd_byte s i h, List.all_cons]
theorem ratom_l0 (s : ByteArray) (h9 : s.size ≤ 100000000) : ∀ (m i : Nat), i + m = s.size → Evn (fun k => mailsackref1_Atom.l0 k s (s.size : Int) (i : Int)) (((bytesOf s).drop i).all okB) := by
  intro m
  induction m with
  | zero =>
    intro i hi
    refine Evn.round (g := fun _ => some true) ?_ (fun k => by unfold mailsackref1_Atom.l0; rw [if_neg (by omega)])
    rw [List.drop_of_length_le (by rw [bytesOf_length]; omega)]
    exact Evn.pure _
  | succ m ih =>
    intro i hi
    rw [all_drop s i (by omega)]
    by_cases h : OkB (bt s i)
    · have z := Evn.round (ih (i + 1) (by omega)) (g2 := fun k => mailsackref1_Atom.l0 k s (s.size : Int) (i : Int)) (fun k => by rw [ratom_step k s i (by omega) h9, if_pos h])
      rw [show okB (bt s i) = true from decide_eq_true h, Bool.true_and]
      exact z
    · rw [show okB (bt s i) = false from decide_eq_false h, Bool.false_and]
      exact Evn.round (Evn.pure false) (fun k => by rw [ratom_step k s i (by omega) h9, if_neg h])
theorem ratom_ev (s : ByteArray) : Evn (fun k => mailsackref1_Atom.f k s) (atomP s) := by
  unfold mailsackref1_Atom.f atomP
  by_cases h1 : (s.size : Int) < 1
  · rw [decide_eq_false (show ¬ (1 ≤ s.size ∧ s.size ≤ 24) by omega), Bool.and_false]
    refine Evn.round (Evn.pure false) (fun k => ?_)
    rw [if_pos h1, mailsackref1_Atom.j0, if_pos rfl]
  · by_cases h2 : (s.size : Int) > 24
    · rw [decide_eq_false (show ¬ (1 ≤ s.size ∧ s.size ≤ 24) by omega), Bool.and_false]
      refine Evn.round (Evn.pure false) (fun k => ?_)
      rw [if_neg h1, mailsackref1_Atom.j0, if_pos (decide_eq_true h2)]
    · rw [decide_eq_true (show 1 ≤ s.size ∧ s.size ≤ 24 by omega), Bool.and_true]
      have h := ratom_l0 s (by omega) s.size 0 (by omega)
      rw [List.drop_zero] at h
      refine Evn.round h (fun k => ?_)
      rw [if_neg h1, mailsackref1_Atom.j0, decide_eq_false h2, if_neg (by simp)]
      rfl
def risP (n : Int) : Int → List Int → Bool
  | _, [] => true
  | was, k :: r => if k ≤ was then false else if k ≥ n then false else risP n k r
def hasP (x : ByteArray) : List ByteArray → Bool
  | [] => false
  | y :: r => if y.toList = x.toList then true else hasP x r
theorem rds_nat (l : List ByteArray) {i : Nat} (h : i < l.length) : rdOf ByteArray.empty l (i : Int) = l[i] := by
  unfold rdOf
  rw [Int.toNat_natCast, List.getD_eq_getElem?_getD, List.getElem?_eq_getElem h]; rfl
theorem rdm_nat (l : List S34) {i : Nat} (h : i < l.length) : rd_T34 l (i : Int) = l[i] := by
  unfold rd_T34
  rw [Int.toNat_natCast, List.getD_eq_getElem?_getD, List.getElem?_eq_getElem h]; rfl
theorem has_l0 (x : ByteArray) (l : List ByteArray) (hl : l.length ≤ 1000000) : ∀ (m i : Nat), i + m = l.length → Evn (fun k => mailsackref1_Has.l0 k x l (l.length : Int) (i : Int)) (hasP x (l.drop i)) := by
  intro m
  induction m with
  | zero =>
    intro i hi
    refine Evn.round (g := fun _ => some false) ?_ (fun k => by rw [mailsackref1_Has.l0, if_neg (by omega)])
    rw [List.drop_of_length_le (by omega)]
    exact Evn.pure _
  | succ m ih =>
    intro i hi
    have hlt : i < l.length := by omega
    rw [List.drop_eq_getElem_cons hlt, hasP]
    by_cases h : l[i].toList = x.toList
    · rw [if_pos h]
      exact Evn.round (Evn.pure _) (fun k => by rw [mailsackref1_Has.l0, if_pos (by omega), if_pos (by omega), if_pos (by omega), rds_nat l hlt, if_pos h])
    · rw [if_neg h]
      exact Evn.round (ih (i + 1) (by omega)) (fun k => by rw [mailsackref1_Has.l0, if_pos (by omega), if_pos (by omega), if_pos (by omega), rds_nat l hlt, if_neg h, w64s (by omega) (by omega)]; rfl)
theorem has_ev (x : ByteArray) (l : List ByteArray) (hl : l.length ≤ 1000000) : Evn (fun k => mailsackref1_Has.f k l x) (hasP x l) := by
  have h := has_l0 x l hl l.length 0 (by omega)
  rw [List.drop_zero] at h
  exact h
theorem keys_l0 (n : Int) (l : List Int) (hl : l.length ≤ 1000000) : ∀ (m i : Nat) (was : Int), i + m = l.length → Evn (fun k => mailsackref1_keys.l0 k n was l (l.length : Int) (i : Int)) (risP n was (l.drop i)) := by
  intro m
  induction m with
  | zero =>
    intro i was hi
    refine Evn.round (g := fun _ => some true) ?_ (fun k => by rw [mailsackref1_keys.l0, if_neg (by omega)])
    rw [List.drop_of_length_le (by omega)]
    exact Evn.pure _
  | succ m ih =>
    intro i was hi
    have hlt : i < l.length := by omega
    rw [List.drop_eq_getElem_cons hlt, risP]
    by_cases h : l[i] ≤ was
    · rw [if_pos h]
      exact Evn.round (Evn.pure _) (fun k => by rw [mailsackref1_keys.l0, if_pos (by omega), if_pos (by omega), if_pos (by omega), rd_nat l hlt, if_pos h])
    · rw [if_neg h]
      by_cases h2 : l[i] ≥ n
      · rw [if_pos h2]
        exact Evn.round (Evn.pure _) (fun k => by rw [mailsackref1_keys.l0, if_pos (by omega), if_pos (by omega), if_pos (by omega), rd_nat l hlt, if_neg h, if_pos h2])
      · rw [if_neg h2]
        exact Evn.round (ih (i + 1) l[i] (by omega)) (fun k => by rw [mailsackref1_keys.l0, if_pos (by omega), if_pos (by omega), if_pos (by omega), rd_nat l hlt, if_neg h, if_neg h2, w64s (by omega) (by omega)]; rfl)
theorem keys_ev (n : Int) (l : List Int) (hl : l.length ≤ 1000000) : Evn (fun k => mailsackref1_keys.f k l n) (risP n (-1) l) := by
  have h := keys_l0 n l hl l.length 0 (-1) (by omega)
  rw [List.drop_zero] at h
  exact h
def msgOk (nw : Int) (m : S34) : Bool := decide (1 ≤ m.f0 ∧ m.f0 < 1000000 ∧ 1 ≤ m.f1 ∧ m.f1 ≤ 1000000 ∧ 0 ≤ m.f2 ∧ m.f2 ≤ 1000000) && atomP m.f3 && decide (0 ≤ m.f4 ∧ m.f4 ≤ 31) && risP nw (-1) m.f5 && decide (m.f6.size ≤ 300)
def bit01 (b : Bool) : Int := if b = true then 0 else 1
theorem evn_ite {α : Type} {c : Prop} [Decidable c] {g g2 : Nat → Option α} {r : α} (h1 : c → Evn g r) (h2 : ¬ c → Evn g2 r) : Evn (fun k => if c then g k else g2 k) r := by
  by_cases h : c
  · simp only [if_pos h]; exact h1 h
  · simp only [if_neg h]; exact h2 h
theorem rmsg_ev (a0 : ByteArray) (a1 a2 a3 : Int) (ws : List ByteArray) (ms : List S34) (m : S34) (hw : wt m ≤ 1000000) : Evn (fun k => mailsackref1_MayMsg.f k a0 a1 a2 a3 ws ms m.f0 m.f1 m.f2 m.f3 m.f4 m.f5 m.f6) (bit01 (msgOk (ws.length : Int) m)) := by
  unfold wt at hw
  have hA := ratom_ev m.f3
  have hK := keys_ev (ws.length : Int) m.f5 (by omega)
  unfold mailsackref1_MayMsg.f msgOk
  generalize atomP m.f3 = A at *
  generalize risP (ws.length : Int) (-1) m.f5 = K at *
  refine evn_ite (fun h => ?_) (fun h1 => evn_ite (fun h => ?_) (fun h2 => evn_ite (fun h => ?_) (fun h3 => evn_ite (fun h => ?_) (fun h4 => evn_ite (fun h => ?_) (fun h5 => evn_ite (fun h => ?_) (fun h6 => hA.bind ?_))))))
  all_goals try (rw [decide_eq_false (by omega)]; exact Evn.pure _)
  rw [decide_eq_true (by omega)]
  cases A with
  | false => exact Evn.pure _
  | true =>
    simp only [Bool.true_and, if_true]
    refine evn_ite (fun h => ?_) (fun h7 => evn_ite (fun h => ?_) (fun h8 => hK.bind ?_))
    all_goals try (rw [decide_eq_false (by omega)]; exact Evn.pure _)
    rw [decide_eq_true (by omega)]
    cases K with
    | false => exact Evn.pure _
    | true =>
      simp only [Bool.true_and, if_true]
      refine evn_ite (fun h => ?_) (fun h9 => ?_)
      · rw [decide_eq_false (by omega)]; exact Evn.pure _
      · rw [decide_eq_true (by omega)]; exact Evn.pure _
def wordsOk : List ByteArray → List ByteArray → Bool
  | _, [] => true
  | pre, w :: r => if atomP w = true then (if hasP w pre = true then false else wordsOk (pre ++ [w]) r) else false
def msgsOk (nw next high : Int) : Int → List S34 → Bool
  | _, [] => true
  | last, m :: r => if msgOk nw m = true then (if m.f0 ≤ last then false else if m.f0 ≥ next then false else if m.f1 > high then false else msgsOk nw next high m.f0 r) else false
theorem rmsgs (a0 : ByteArray) (a1 a2 a3 : Int) (ws : List ByteArray) (ms : List S34) (hl : ms.length ≤ 1000000) (hw : ∀ m ∈ ms, wt m ≤ 1000000) : ∀ (m i : Nat) (last : Int), i + m = ms.length → Evn (fun k => mailsackref1_MayBox.l1 k last ms (ms.length : Int) (i : Int) a0 a1 a2 a3 ws ms) (bit01 (msgsOk (ws.length : Int) a2 a3 last (ms.drop i))) := by
  intro m
  induction m with
  | zero =>
    intro i last hi
    refine Evn.round (g := fun _ => some 0) ?_ (fun k => by rw [mailsackref1_MayBox.l1, if_neg (by omega)])
    rw [List.drop_of_length_le (by omega)]
    exact Evn.pure _
  | succ m ih =>
    intro i last hi
    have hlt : i < ms.length := by omega
    rw [List.drop_eq_getElem_cons hlt, msgsOk]
    have hM := rmsg_ev a0 a1 a2 a3 ws ms ms[i] (hw _ (List.getElem_mem hlt))
    refine Evn.round (hM.bind (f := fun k t => if t = 0 then (if ms[i].f0 ≤ last then some 1 else if ms[i].f0 ≥ a2 then some 1 else if ms[i].f1 > a3 then some 1 else mailsackref1_MayBox.l1 k ms[i].f0 ms (ms.length : Int) ((i + 1 : Nat) : Int) a0 a1 a2 a3 ws ms) else some t) ?_) (fun k => ?_)
    · cases msgOk (ws.length : Int) ms[i] with
      | false => exact Evn.pure _
      | true =>
        simp only [bit01, if_true]
        refine evn_ite (fun h => ?_) (fun h1 => evn_ite (fun h => ?_) (fun h2 => evn_ite (fun h => ?_) (fun h3 => ?_)))
        · rw [if_pos h]; exact Evn.pure _
        · rw [if_neg h1, if_pos h]; exact Evn.pure _
        · rw [if_neg h1, if_neg h2, if_pos h]; exact Evn.pure _
        · rw [if_neg h1, if_neg h2, if_neg h3]; exact ih (i + 1) ms[i].f0 (by omega)
    · rw [mailsackref1_MayBox.l1, if_pos (by omega), if_pos (by omega), if_pos (by omega), rdm_nat ms hlt, w64s (by omega) (by omega)]
      rfl
theorem rwords (a0 : ByteArray) (a1 a2 a3 : Int) (ws : List ByteArray) (ms : List S34) (hl : ms.length ≤ 1000000) (hw : ∀ m ∈ ms, wt m ≤ 1000000) (hl4 : ws.length ≤ 1000000) (hs : ∀ s ∈ ws, s.size ≤ 100000000) : ∀ (m i : Nat), i + m = ws.length →
    Evn (fun k => mailsackref1_MayBox.l0 k ws (ws.length : Int) (i : Int) a0 a1 a2 a3 ws ms) (bit01 (wordsOk (ws.take i) (ws.drop i) && msgsOk (ws.length : Int) a2 a3 0 ms)) := by
  intro m
  induction m with
  | zero =>
    intro i hi
    have h := rmsgs a0 a1 a2 a3 ws ms hl hw ms.length 0 0 (by omega)
    rw [List.drop_zero] at h
    rw [List.drop_of_length_le (by omega)]
    exact Evn.round h (fun k => by rw [mailsackref1_MayBox.l0, if_neg (by omega)]; rfl)
  | succ m ih =>
    intro i hi
    have hlt : i < ws.length := by omega
    rw [List.drop_eq_getElem_cons hlt, wordsOk]
    have hA := ratom_ev ws[i]
    have hH := has_ev ws[i] (ws.take i) (by rw [List.length_take]; omega)
    refine Evn.round (hA.bind (f := fun k t => if t = true then ((mailsackref1_Has.f k (ws.take i) ws[i]).bind fun t2 => if t2 = true then some 1 else mailsackref1_MayBox.l0 k ws (ws.length : Int) ((i + 1 : Nat) : Int) a0 a1 a2 a3 ws ms) else some 1) ?_) (fun k => ?_)
    · cases atomP ws[i] with
      | false => exact Evn.pure _
      | true =>
        simp only [if_true]
        refine Evn.bind (f := fun k t2 => if t2 = true then some 1 else mailsackref1_MayBox.l0 k ws (ws.length : Int) ((i + 1 : Nat) : Int) a0 a1 a2 a3 ws ms) hH ?_
        cases hasP ws[i] (ws.take i) with
        | true => exact Evn.pure _
        | false =>
          simp only [Bool.false_eq_true, if_false]
          have h := ih (i + 1) (by omega)
          rw [List.take_succ_eq_append_getElem hlt] at h
          exact h
    · rw [mailsackref1_MayBox.l0, if_pos (by omega), if_pos (by omega), if_pos (by omega), rds_nat ws hlt, w64s (by omega) (by omega), if_pos (show ((i : Nat) : Int) ≤ (ws.length : Int) by omega)]
      rfl
def headOk (a0 : ByteArray) (a1 a2 a3 : Int) : Bool := atomP a0 && decide (a0.size ≤ 12 ∧ 1 ≤ a1 ∧ a1 ≤ 1000000 ∧ 1 ≤ a3 ∧ a3 ≤ 1000000 ∧ 1 ≤ a2 ∧ a2 ≤ 1000000)
def boxP (a0 : ByteArray) (a1 a2 a3 : Int) (ws : List ByteArray) (ms : List S34) : Int :=
  if headOk a0 a1 a2 a3 = true then (if ws.length ≤ 64 ∧ ms.length ≤ 60 then bit01 (wordsOk [] ws && msgsOk (ws.length : Int) a2 a3 0 ms) else 4) else 1
theorem rj1 (a0 : ByteArray) (a1 a2 a3 : Int) (ws : List ByteArray) (ms : List S34) (hw : ∀ m ∈ ms, wt m ≤ 1000000) (hs : ∀ s ∈ ws, s.size ≤ 100000000) (h1 : ws.length ≤ 64) (h2 : ms.length ≤ 60) : Evn (fun k => mailsackref1_MayBox.j1 k false a0 a1 a2 a3 ws ms) (bit01 (wordsOk [] ws && msgsOk (ws.length : Int) a2 a3 0 ms)) := by
  have h := rwords a0 a1 a2 a3 ws ms (by omega) hw (by omega) hs ws.length 0 (by omega)
  rw [List.drop_zero, List.take_zero] at h
  exact Evn.round h (fun k => by rw [mailsackref1_MayBox.j1, if_neg (by simp)]; rfl)
theorem rj0 (a0 : ByteArray) (a1 a2 a3 : Int) (ws : List ByteArray) (ms : List S34) (hw : ∀ m ∈ ms, wt m ≤ 1000000) (hs : ∀ s ∈ ws, s.size ≤ 100000000) : Evn (fun k => mailsackref1_MayBox.j0 k false a0 a1 a2 a3 ws ms) (if ws.length ≤ 64 ∧ ms.length ≤ 60 then bit01 (wordsOk [] ws && msgsOk (ws.length : Int) a2 a3 0 ms) else 4) := by
  by_cases h1 : (ws.length : Int) > 64
  · rw [if_neg (by omega)]
    have h4 : Evn (fun k => mailsackref1_MayBox.j1 k true a0 a1 a2 a3 ws ms) 4 := Evn.round (Evn.pure 4) (fun k => by rw [mailsackref1_MayBox.j1, if_pos rfl])
    exact Evn.round h4 (fun k => by rw [mailsackref1_MayBox.j0, if_neg (by simp), if_pos h1])
  · by_cases h2 : (ms.length : Int) > 60
    · rw [if_neg (by omega)]
      have h4 : Evn (fun k => mailsackref1_MayBox.j1 k true a0 a1 a2 a3 ws ms) 4 := Evn.round (Evn.pure 4) (fun k => by rw [mailsackref1_MayBox.j1, if_pos rfl])
      exact Evn.round h4 (fun k => by rw [mailsackref1_MayBox.j0, if_neg (by simp), if_neg h1, decide_eq_true h2])
    · rw [if_pos (by omega)]
      exact Evn.round (rj1 a0 a1 a2 a3 ws ms hw hs (by omega) (by omega)) (fun k => by rw [mailsackref1_MayBox.j0, if_neg (by simp), if_neg h1, decide_eq_false h2])
theorem rj0t (a0 : ByteArray) (a1 a2 a3 : Int) (ws : List ByteArray) (ms : List S34) : Evn (fun k => mailsackref1_MayBox.j0 k true a0 a1 a2 a3 ws ms) 1 := Evn.round (Evn.pure 1) (fun k => by rw [mailsackref1_MayBox.j0, if_pos rfl])
theorem rbox_ev (a0 : ByteArray) (a1 a2 a3 : Int) (ws : List ByteArray) (ms : List S34) (hw : ∀ m ∈ ms, wt m ≤ 1000000) (hs : ∀ s ∈ ws, s.size ≤ 100000000) : Evn (fun k => mailsackref1_MayBox.f k a0 a1 a2 a3 ws ms) (boxP a0 a1 a2 a3 ws ms) := by
  have hA := ratom_ev a0
  have hT := rj0t a0 a1 a2 a3 ws ms
  have hF := rj0 a0 a1 a2 a3 ws ms hw hs
  unfold mailsackref1_MayBox.f boxP headOk
  generalize atomP a0 = A at *
  refine hA.bind ?_
  cases A with
  | false => simpa using hT
  | true =>
    simp only [Bool.true_and, if_true, decide_eq_true_eq]
    refine evn_ite (fun h => ?_) (fun h1 => evn_ite (fun h => ?_) (fun h2 => evn_ite (fun h => ?_) (fun h3 => evn_ite (fun h => ?_) (fun h4 => evn_ite (fun h => ?_) (fun h5 => evn_ite (fun h => ?_) (fun h6 => ?_))))))
    all_goals try (rw [if_neg (by omega)]; exact hT)
    by_cases h7 : a2 > 1000000
    · rw [if_neg (by omega), decide_eq_true h7]; exact hT
    · rw [if_pos (by omega), decide_eq_false h7]; exact hF
def sumW : List ByteArray → Nat
  | [] => 0
  | w :: r => w.size + sumW r
def sumM : List S34 → Nat
  | [] => 0
  | m :: r => wt m + sumM r
theorem wrap_add (a b : Int) : wrap64 (wrap64 a + b) = wrap64 (a + b) := by unfold wrap64; omega
theorem wrap3 (s a c : Int) : wrap64 (wrap64 s + wrap64 (wrap64 a + c)) = wrap64 (s + (a + c)) := by unfold wrap64; omega
def heavyR (S : Nat) (nw nm : Nat) : Int := if wrap64 (S : Int) > 60000 then 1 else if nw > 100 then 1 else if nm > 100 then 1 else 0
theorem heavy_l1 (a0 : ByteArray) (a1 a2 a3 : Int) (ws : List ByteArray) (ms : List S34) (hl : ms.length ≤ 140737488355328) : ∀ (m i S : Nat), i + m = ms.length → Evn (fun k => mailsacklaw6_Heavy.l1 k (wrap64 (S : Int)) ms (ms.length : Int) (i : Int) a0 a1 a2 a3 ws ms) (heavyR (S + sumM (ms.drop i)) ws.length ms.length) := by
  intro m
  induction m with
  | zero =>
    intro i S hi
    refine Evn.round (g := fun _ => some (heavyR S ws.length ms.length)) ?_ (fun k => ?_)
    · rw [List.drop_of_length_le (by omega)]
      exact Evn.pure _
    · rw [mailsacklaw6_Heavy.l1, if_neg (by omega)]
      unfold heavyR
      by_cases h1 : wrap64 (S : Int) > 60000
      · rw [if_pos h1, if_pos h1]
      · rw [if_neg h1, if_neg h1]
        by_cases h2 : ws.length > 100
        · rw [if_pos (by omega), if_pos h2]
        · rw [if_neg (by omega), if_neg h2]
          by_cases h3 : ms.length > 100
          · rw [if_pos (by omega), if_pos h3]
          · rw [if_neg (by omega), if_neg h3]
  | succ m ih =>
    intro i S hi
    have hlt : i < ms.length := by omega
    rw [List.drop_eq_getElem_cons hlt, sumM]
    have z := Evn.round (g2 := fun k => mailsacklaw6_Heavy.l1 k (wrap64 (S : Int)) ms (ms.length : Int) (i : Int) a0 a1 a2 a3 ws ms) (ih (i + 1) (S + wt ms[i]) (by omega)) (fun k => by
      rw [mailsacklaw6_Heavy.l1, if_pos (by omega), if_pos (by omega), if_pos (by omega), rdm_nat ms hlt, w64s (show -9223372036854775808 ≤ (i : Int) + 1 by omega) (by omega)]
      rw [wrap3]
      unfold wt
      rw [show (S : Int) + (((ms[i].f5.length : Int) + (ms[i].f6.size : Int)) + (ms[i].f3.size : Int)) = ((S + (ms[i].f5.length + ms[i].f6.size + ms[i].f3.size) : Nat) : Int) by omega]
      rfl)
    rw [Nat.add_assoc] at z
    exact z
theorem heavy_l0 (a0 : ByteArray) (a1 a2 a3 : Int) (ws : List ByteArray) (ms : List S34) (hl : ms.length ≤ 140737488355328) (hl4 : ws.length ≤ 140737488355328) : ∀ (m i S : Nat), i + m = ws.length → Evn (fun k => mailsacklaw6_Heavy.l0 k (wrap64 (S : Int)) ws (ws.length : Int) (i : Int) a0 a1 a2 a3 ws ms) (heavyR (S + sumW (ws.drop i) + sumM ms) ws.length ms.length) := by
  intro m
  induction m with
  | zero =>
    intro i S hi
    have h := heavy_l1 a0 a1 a2 a3 ws ms hl ms.length 0 S (by omega)
    rw [List.drop_zero] at h
    rw [List.drop_of_length_le (by omega)]
    exact Evn.round h (fun k => by rw [mailsacklaw6_Heavy.l0, if_neg (by omega)]; rfl)
  | succ m ih =>
    intro i S hi
    have hlt : i < ws.length := by omega
    rw [List.drop_eq_getElem_cons hlt, sumW]
    have z := Evn.round (g2 := fun k => mailsacklaw6_Heavy.l0 k (wrap64 (S : Int)) ws (ws.length : Int) (i : Int) a0 a1 a2 a3 ws ms) (ih (i + 1) (S + ws[i].size) (by omega)) (fun k => by
      rw [mailsacklaw6_Heavy.l0, if_pos (by omega), if_pos (by omega), if_pos (by omega), rds_nat ws hlt, w64s (show -9223372036854775808 ≤ (i : Int) + 1 by omega) (by omega), wrap_add, show (S : Int) + (ws[i].size : Int) = ((S + ws[i].size : Nat) : Int) by omega]
      rfl)
    rw [show S + (ws[i].size + sumW (ws.drop (i + 1))) + sumM ms = S + ws[i].size + sumW (ws.drop (i + 1)) + sumM ms by omega]
    exact z
def bulk (a0 : ByteArray) (ws : List ByteArray) (ms : List S34) : Nat := a0.size + ws.length + ms.length + sumW ws + sumM ms
theorem heavy_ev (a0 : ByteArray) (a1 a2 a3 : Int) (ws : List ByteArray) (ms : List S34) (hl : ms.length ≤ 140737488355328) (hl4 : ws.length ≤ 140737488355328) : Evn (fun k => mailsacklaw6_Heavy.f k a0 a1 a2 a3 ws ms) (heavyR (bulk a0 ws ms) ws.length ms.length) := by
  have h := heavy_l0 a0 a1 a2 a3 ws ms hl hl4 ws.length 0 (a0.size + ws.length + ms.length) (by omega)
  rw [List.drop_zero] at h
  refine h.cast (fun k => ?_)
  unfold mailsacklaw6_Heavy.f
  rw [wrap_add, show (a0.size : Int) + (ws.length : Int) + (ms.length : Int) = ((a0.size + ws.length + ms.length : Nat) : Int) by omega]
  rfl
theorem sumW_le (B : Nat) : ∀ (ws : List ByteArray), (∀ s ∈ ws, s.size ≤ B) → sumW ws ≤ ws.length * B
  | [], _ => by simp [sumW]
  | w :: r, h => by
    have h1 := h w (by simp)
    have h2 := sumW_le B r (fun s hs => h s (by simp [hs]))
    rw [sumW, List.length_cons, Nat.add_mul]; omega
theorem sumM_le (B : Nat) : ∀ (ms : List S34), (∀ m ∈ ms, wt m ≤ B) → sumM ms ≤ ms.length * B
  | [], _ => by simp [sumM]
  | w :: r, h => by
    have h1 := h w (by simp)
    have h2 := sumM_le B r (fun s hs => h s (by simp [hs]))
    rw [sumM, List.length_cons, Nat.add_mul]; omega
theorem mem_sumW : ∀ (ws : List ByteArray) (s : ByteArray), s ∈ ws → s.size ≤ sumW ws
  | [], _, h => by cases h
  | w :: r, s, h => by
    rw [sumW]
    rcases List.mem_cons.1 h with rfl | h
    · omega
    · have := mem_sumW r s h; omega
theorem mem_sumM : ∀ (ms : List S34) (m : S34), m ∈ ms → wt m ≤ sumM ms
  | [], _, h => by cases h
  | w :: r, s, h => by
    rw [sumM]
    rcases List.mem_cons.1 h with rfl | h
    · omega
    · have := mem_sumM r s h; omega
theorem light {a0 : ByteArray} {ws : List ByteArray} {ms : List S34} (h0 : a0.size ≤ 140737488355328) (hs : ∀ s ∈ ws, s.size ≤ 140737488355328) (hw : ∀ m ∈ ms, wt m ≤ 422212465065984) (h : heavyR (bulk a0 ws ms) ws.length ms.length = 0) : bulk a0 ws ms ≤ 60000 ∧ ws.length ≤ 100 ∧ ms.length ≤ 100 := by
  unfold heavyR at h
  by_cases h1 : wrap64 (bulk a0 ws ms : Int) > 60000
  · rw [if_pos h1] at h; cases h
  · rw [if_neg h1] at h
    by_cases h2 : ws.length > 100
    · rw [if_pos h2] at h; cases h
    · rw [if_neg h2] at h
      by_cases h3 : ms.length > 100
      · rw [if_pos h3] at h; cases h
      · have e1 := sumW_le _ ws hs
        have e2 := sumM_le _ ms hw
        have e3 : ws.length * 140737488355328 ≤ 100 * 140737488355328 := Nat.mul_le_mul_right _ (by omega)
        have e4 : ms.length * 422212465065984 ≤ 100 * 422212465065984 := Nat.mul_le_mul_right _ (by omega)
        have e5 : bulk a0 ws ms ≤ 100000000000000000 := by unfold bulk; omega
        rw [w64s (by omega) (by omega)] at h1
        exact ⟨by omega, by omega, by omega⟩
theorem heavy_01 (S nw nm : Nat) : heavyR S nw nm = 0 ∨ heavyR S nw nm = 1 := by
  unfold heavyR
  (repeat' split) <;> simp
def Tab (w : World) : Prop := Lib.TabIs Tryd.prog w "internal/strconv.uint64pow10" .u64 Lib.pow10Tab
theorem Tab.below {w w1 : World} (h : Tab w) (hb : Below w.heap.size w w1) : Tab w1 := by
  unfold Tab Lib.TabIs at h ⊢
  unfold World.var? at h ⊢
  cases hg : Tryd.prog.globalNamed "internal/strconv.uint64pow10" with
  | none => rw [hg] at h; simp at h
  | some g =>
    rw [hg] at h
    simp only [Option.bind_some] at h ⊢
    cases hh : w.heap[g]? with
    | none => rw [hh] at h; simp at h
    | some o =>
      rw [hb.block g (blk_lt hh)]
      rw [hh] at h ⊢
      exact h
theorem itoa_calls (n : Int) (h0 : -9223372036854775808 ≤ n) (h1 : n ≤ 9223372036854775807) (w : World) (ht : Tab w) :
    Calls Tryd.prog 44 #[.int .i64 n] w fun e w' => e = .returned (.string ⟨(Lib.itoa n).toArray⟩) ∧ Below w.heap.size w w' := by
  refine (Tryd.strconv_Itoa n h0 h1 w ht).mono ?_
  rintro e w' ⟨rfl, k, os, rfl⟩
  exact ⟨rfl, Lib.below_grow _ w (Nat.le_refl _) k os⟩
def findP (u : Int) : Nat → List S34 → Int
  | _, [] => -1
  | i, m :: r => if m.f0 = u then (i : Int) else findP u (i + 1) r
theorem is_calls (m0 m1 m2 m4 : Int) (m3 m6 : ByteArray) (v5 : Value) (u : Int) (bk : Nat) (w : World) (hb : bk < w.heap.size) (hc : w.cell? ⟨bk, 0, none⟩ = some (.int .i64 u)) :
    Calls Tryd.prog 50 #[.agg #[.int .i64 m0, .int .i64 m1, .int .i64 m2, .string m3, .int .i64 m4, v5, .string m6], .pointer (some ⟨bk, 0, none⟩)] w fun e w' => e = .returned (.bool (m0 == u)) ∧ Below w.heap.size w w' := by
  have hc2 : ∀ o, (w.alloc o).cell? ⟨bk, 0, none⟩ = some (.int .i64 u) := fun o => (World.cell?_alloc_lt w o ⟨bk, 0, none⟩ hb).trans hc
  have hu31 := Tryd.underlying34
  clear hb hc
  go_enter Tryd.func50, Tryd.ntmps50
  go_wp2
  go_ret
  exact ⟨rfl, below_alloc (Below.refl _ _) _⟩
set_option maxRecDepth 100000 in
set_option maxHeartbeats 1000000 in
theorem indexFunc_calls (A : Option Addr) (n c : Nat) (l : List S34) (u : Int) (bk : Nat) (w : World) (hl : Aside0 (n = l.length)) (hn : n ≤ 1000000) (hC : Kd.C k34 w A n l) (hb : bk < w.heap.size) (hc : w.cell? ⟨bk, 0, none⟩ = some (.int .i64 u)) :
    Calls Tryd.prog 49 #[.slice A n c, .func (.func 50) #[] #[.pointer (some ⟨bk, 0, none⟩)]] w fun e w' => e = .returned (.int .i64 (findP u 0 l)) ∧ Below w.heap.size w w' := by
  have HC := Aside0.mk hC
  have HL := Aside0.mk hb
  have HX := Aside0.mk hc
  have hu31 := Tryd.underlying34
  have hn9 : (n : Int) ≤ 1000000 := by omega
  clear hC hb hc hn
  have eg : ∀ args w, (callFunc 50 args).run Tryd.prog w = .ok (.enter 50 args) w := fun args w => enters_ Tryd.func50 (by kernel_rfl) rfl args w
  go_enter Tryd.func49, Tryd.ntmps49
  go_wp2_with fail
  go_loopw [8] (fun i wr => ∃ k : Nat, k ≤ n ∧ i = .int .i64 k ∧ Aside0 (findP u k (l.drop k) = findP u 0 l) ∧ Aside0 (Below w.heap.size w wr)) (fun i _ => n - (intOf i).toNat)
  case atStart => exact ⟨0, Nat.zero_le _, rfl, ⟨rfl⟩, ⟨Below.refl _ _⟩⟩
  case round =>
    obtain ⟨k, hk, rfl, HK, HB⟩ := hrel
    by_cases hlt : k < n
    · obtain ⟨ad, A6, c6, e1, hx0, hx1, hx2, hx3, hx4, hx5, hx6, hc6, hC6⟩ := at_T34 (Kd.C_below HC.out HB.out) (k : Int) (by omega) (by omega)
      cases e1
      rw [Int.toNat_natCast] at hx0 hx1 hx2 hx3 hx4 hx5 hx6
      have hll : k < l.length := by have := hl.out; omega
      have E2 := HK.out
      rw [List.drop_eq_getElem_cons hll, findP, ← rdm_nat l hll] at E2
      clear HK hC6 hc6
      generalize rd_T34 l (k : Int) = m at *
      have HQ := Aside0.mk (is_calls m.f0 m.f1 m.f2 m.f4 m.f3 m.f6 (.slice A6 m.f5.length c6) u bk wr (Nat.lt_of_lt_of_le HL.out HB.out.size) ((HB.out.cell (p := ⟨bk, 0, none⟩) HL.out).trans HX.out))
      clear hll
      by_cases heq : m.f0 = u
      · rw [if_pos heq] at E2
        rw [show (m.f0 == u) = true from beq_iff_eq.2 heq] at HQ
        have E3 := Aside0.mk E2
        clear E2 heq
        go_wp2_with (go_at_call 50; refine HQ.out.mono ?_; rintro e w3 ⟨rfl, hb3⟩; have HB3 := Aside0.mk hb3; clear hb3)
        go_ret
        exact ⟨by rw [← E3.out]; rfl, HB.out.trans (HB3.out.mono HB.out.size)⟩
      · rw [if_neg heq] at E2
        rw [show (m.f0 == u) = false from beq_eq_false_iff_ne.2 heq] at HQ
        have E3 := Aside0.mk E2
        clear E2 heq
        go_wp2_with (go_at_call 50; refine HQ.out.mono ?_; rintro e w3 ⟨rfl, hb3⟩; have HB3 := Aside0.mk hb3; clear hb3)
        go_roundw
        case rel => exact ⟨k + 1, by omega, by go_num, ⟨E3.out⟩, ⟨HB.out.trans (HB3.out.mono HB.out.size)⟩⟩
        case measure => simp [intOf]; omega
    · have hke : k = n := by omega
      subst hke
      have E3 : Aside0 (findP u 0 l = -1) := ⟨by rw [← HK.out, List.drop_of_length_le (by have := hl.out; omega)]; rfl⟩
      clear HK
      go_wp2_with fail
      go_ret
      exact ⟨by rw [E3.out]; rfl, HB.out⟩
set_option maxRecDepth 100000 in
theorem find_calls (a0 : ByteArray) (a1 a2 a3 : Int) (v4 : Value) (A5 : Option Addr) (c5 : Nat) (ms : List S34) (u : Int) (w : World) (hC5 : Kd.C k34 w A5 ms.length ms) (hn : ms.length ≤ 1000000) :
    Calls Tryd.prog 33 #[.agg #[.string a0, .int .i64 a1, .int .i64 a2, .int .i64 a3, v4, .slice A5 ms.length c5], .int .i64 u] w fun e w' => e = .returned (.int .i64 (findP u 0 ms)) ∧ Below w.heap.size w w' := by
  have hu26 := Tryd.underlying25
  have HC := Aside0.mk (fun (W : World) (bk : Nat) (hW : Below w.heap.size w W) (h1 : bk < W.heap.size) (h2 : W.cell? ⟨bk, 0, none⟩ = some (.int .i64 u)) => indexFunc_calls A5 ms.length c5 ms u bk W ⟨rfl⟩ hn (Kd.C_below hC5 hW) h1 h2)
  clear hC5 hn
  go_enter Tryd.func33, Tryd.ntmps33
  go_wp2_with (first
    | ((with_reducible refine gate_dst (N := 2) rfl ?_); refine box_event ?hg2 (N := 2) ?hd2 (cs := #[.string a0, .int .i64 a1, .int .i64 a2, .int .i64 a3, v4, .slice A5 ms.length c5]) (t := 25) ?hr2 ?_; (case hd2 => rfl); (case hg2 => rfl); (case hr2 => first | (go_simp; done) | (go_simp; rfl)); intro g2 hg2 w1 hbx hb1; have G2 := Aside0.mk hbx; have HB1 := Aside0.mk hb1; clear hg2 hbx hb1)
    | ((with_reducible refine gate_dst (N := 3) rfl ?_); refine box_event ?hg3 (N := 3) ?hd3 (cs := #[.int .i64 u]) (t := 3) ?hr3 ?_; (case hd3 => rfl); (case hg3 => rfl); (case hr3 => first | (go_simp; done) | (go_simp; rfl)); intro g3 hg3 w2 hbx hb1; have G3 := Aside0.mk hbx; have hx5 := blk_cell (blk_below G2.out hb1) 5; have HB2 := Aside0.mk (HB1.out.trans (hb1.mono HB1.out.size)); clear hg3 hbx hb1)
    | (go_at_call 49; refine (HC.out w2 g3 HB2.out (blk_lt G3.out) ((blk_cell G3.out 0).trans rfl)).mono ?_; rintro e w3 ⟨rfl, hb⟩; have HB3 := Aside0.mk (HB2.out.trans (hb.mono HB2.out.size)); clear hb))
  go_ret
  exact ⟨rfl, HB3.out⟩
def itoaB (n : Int) : ByteArray := ⟨(Lib.itoa n).toArray⟩
def selW (ws : List ByteArray) : List Int → List ByteArray
  | [] => []
  | a :: r => if 0 ≤ a ∧ a < (ws.length : Int) then rdOf ByteArray.empty ws a :: selW ws r else selW ws r
theorem words_l0 (a0 : ByteArray) (a1 a2 a3 : Int) (ws : List ByteArray) (ms : List S34) (l : List Int) (hl : l.length ≤ 1000000) : ∀ (m i : Nat) (b : List ByteArray), i + m = l.length → b.length + m ≤ 1000000 → Evn (fun k => box_Words.l0 k b l (l.length : Int) (i : Int) a0 a1 a2 a3 ws ms) (b ++ selW ws (l.drop i)) := by
  intro m
  induction m with
  | zero =>
    intro i b hi hb
    refine Evn.round (g := fun _ => some b) ?_ (fun k => by rw [box_Words.l0, if_neg (by omega)])
    rw [List.drop_of_length_le (by omega), selW, List.append_nil]
    exact Evn.pure _
  | succ m ih =>
    intro i b hi hb
    have hlt : i < l.length := by omega
    rw [List.drop_eq_getElem_cons hlt, selW]
    by_cases h0 : l[i] ≥ 0
    · by_cases h1 : l[i] < (ws.length : Int)
      · rw [if_pos ⟨h0, h1⟩]
        have h := ih (i + 1) (b ++ [rdOf ByteArray.empty ws l[i]]) (by omega) (by rw [List.length_append]; simp; omega)
        rw [List.append_assoc] at h
        exact Evn.round h (fun k => by rw [box_Words.l0, if_pos (by omega), if_pos (by omega), if_pos (by omega), rd_nat l hlt, if_pos h0, if_pos h1, if_pos h0, if_pos (by omega), w64s (by omega) (by omega)]; rfl)
      · rw [if_neg (fun h => h1 h.2)]
        exact Evn.round (ih (i + 1) b (by omega) (by omega)) (fun k => by rw [box_Words.l0, if_pos (by omega), if_pos (by omega), if_pos (by omega), rd_nat l hlt, if_pos h0, if_neg h1, w64s (by omega) (by omega)]; rfl)
    · rw [if_neg (fun h => h0 h.1)]
      exact Evn.round (ih (i + 1) b (by omega) (by omega)) (fun k => by rw [box_Words.l0, if_pos (by omega), if_pos (by omega), if_pos (by omega), rd_nat l hlt, if_neg h0, w64s (by omega) (by omega)]; rfl)
theorem words_ev (a0 : ByteArray) (a1 a2 a3 : Int) (ws : List ByteArray) (ms : List S34) (l : List Int) (hl : l.length ≤ 1000000) (m0 m1 m2 : Int) (m3 : ByteArray) (m4 : Int) (m6 : ByteArray) : Evn (fun k => box_Words.f k a0 a1 a2 a3 ws ms m0 m1 m2 m3 m4 l m6) (selW ws l) := by
  have h := words_l0 a0 a1 a2 a3 ws ms l hl l.length 0 [] (by omega) (by simp; omega)
  rw [List.drop_zero, List.nil_append] at h
  exact h
theorem words_calls (a0 : ByteArray) (a1 a2 a3 : Int) (A4 : Option Addr) (c4 : Nat) (ws : List ByteArray) (A5 : Option Addr) (c5 : Nat) (ms : List S34) (m0 m1 m2 : Int) (m3 : ByteArray) (m4 : Int) (A6 : Option Addr) (c6 : Nat) (l : List Int) (m6 : ByteArray) (w : World) (hC4 : Kd.C Kd.string w A4 ws.length ws) (hc4 : ws.length ≤ c4) (hC5 : Kd.C k34 w A5 ms.length ms) (hc5 : ms.length ≤ c5) (hC6 : Kd.C (Kd.int .i64) w A6 l.length l) (hc6 : l.length ≤ c6) (hl : l.length ≤ 1000000) :
    Calls Tryd.prog 46 #[.agg #[.string a0, .int .i64 a1, .int .i64 a2, .int .i64 a3, .slice A4 ws.length c4, .slice A5 ms.length c5], .agg #[.int .i64 m0, .int .i64 m1, .int .i64 m2, .string m3, .int .i64 m4, .slice A6 l.length c6, .string m6]] w fun e w' => ∃ A c, e = .returned (.slice A (selW ws l).length c) ∧ (selW ws l).length ≤ c ∧ Kd.C Kd.string w' A (selW ws l).length (selW ws l) ∧ Below w.heap.size w w' := by
  obtain ⟨k, hk⟩ := (words_ev a0 a1 a2 a3 ws ms l hl m0 m1 m2 m3 m4 m6).get
  refine (box_Words.calls k a0 a1 a2 a3 A4 c4 ws A5 c5 ms m0 m1 m2 m3 m4 A6 c6 l m6 _ w hC4 hc4 hC5 hc5 hC6 hc6 hk).mono ?_
  rintro e w' ⟨v, rfl, hR, hb⟩
  obtain ⟨A, c, rfl, h1, h2⟩ := Kd.R_reads hR
  exact ⟨A, c, rfl, h1, h2, hb⟩
theorem msgsOk_iff (nw next high : Int) : ∀ (l : List S34) (last : Int), msgsOk nw next high last l = true ↔ (∀ m ∈ l, msgOk nw m = true ∧ last < m.f0 ∧ m.f0 < next ∧ m.f1 ≤ high) ∧ l.Pairwise (fun a b => a.f0 < b.f0)
  | [], last => by simp [msgsOk]
  | m :: r, last => by
    rw [msgsOk]
    have ih := msgsOk_iff nw next high r m.f0
    by_cases h0 : msgOk nw m = true
    · rw [if_pos h0]
      by_cases h1 : m.f0 ≤ last
      · rw [if_pos h1]
        refine ⟨fun h => by simp at h, fun h => ?_⟩
        have := (h.1 m (by simp)).2.1
        omega
      · rw [if_neg h1]
        by_cases h2 : m.f0 ≥ next
        · rw [if_pos h2]
          refine ⟨fun h => by simp at h, fun h => ?_⟩
          have := (h.1 m (by simp)).2.2.1
          omega
        · rw [if_neg h2]
          by_cases h3 : m.f1 > high
          · rw [if_pos h3]
            refine ⟨fun h => by simp at h, fun h => ?_⟩
            have := (h.1 m (by simp)).2.2.2
            omega
          · rw [if_neg h3, ih, List.pairwise_cons]
            constructor
            · rintro ⟨ha, hp⟩
              refine ⟨fun x hx => ?_, fun x hx => (ha x hx).2.1, hp⟩
              rcases List.mem_cons.1 hx with rfl | hx
              · exact ⟨h0, by omega, by omega, by omega⟩
              · obtain ⟨q0, q1, q2, q3⟩ := ha x hx
                exact ⟨q0, by omega, q2, q3⟩
            · rintro ⟨ha, hp1, hp⟩
              refine ⟨fun x hx => ?_, hp⟩
              obtain ⟨q0, q1, q2, q3⟩ := ha x (List.mem_cons_of_mem _ hx)
              exact ⟨q0, hp1 x hx, q2, q3⟩
    · rw [if_neg h0]
      refine ⟨fun h => by simp at h, fun h => ?_⟩
      exact absurd (h.1 m (by simp)).1 h0
theorem may_parts {a0 : ByteArray} {a1 a2 a3 : Int} {ws : List ByteArray} {ms : List S34} (h : boxP a0 a1 a2 a3 ws ms = 0) :
    headOk a0 a1 a2 a3 = true ∧ ws.length ≤ 64 ∧ ms.length ≤ 60 ∧ wordsOk [] ws = true ∧ msgsOk (ws.length : Int) a2 a3 0 ms = true := by
  unfold boxP at h
  by_cases h0 : headOk a0 a1 a2 a3 = true
  · rw [if_pos h0] at h
    by_cases h1 : ws.length ≤ 64 ∧ ms.length ≤ 60
    · rw [if_pos h1] at h
      unfold bit01 at h
      by_cases h2 : (wordsOk [] ws && msgsOk (ws.length : Int) a2 a3 0 ms) = true
      · rw [Bool.and_eq_true] at h2
        exact ⟨h0, h1.1, h1.2, h2.1, h2.2⟩
      · rw [if_neg h2] at h
        exact absurd h (by decide)
    · rw [if_neg h1] at h
      exact absurd h (by decide)
  · rw [if_neg h0] at h
    exact absurd h (by decide)
end Go.Proofs.YtplfpbfmnogckaaDoor.TdP
