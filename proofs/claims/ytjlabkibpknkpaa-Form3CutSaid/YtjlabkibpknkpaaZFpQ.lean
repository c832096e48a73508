-- Written by a program of this claim's session (wip/tool/prune.py): what is used of a longer text. Not trusted: Lean checks it.
import Derived.Test.YtjlabkibpknkpaaZFpP
namespace Go.Proofs.Ytjlabkibpknkpaa.FpQ
open Go.RowKit Go.Proofs.YtjlabkibpknkpaaW.PrintWords Go.Proofs.YtjlabkibpknkpaaW.PrintLast Go.Proofs.YtjlabkibpknkpaaW.PrintMore Go.Proofs.Ytjlabkibpknkpaa.FmM Go.Proofs.Ytjlabkibpknkpaa.PkP Go.Proofs.Ytjlabkibpknkpaa.FmN Go.Proofs.Ytjlabkibpknkpaa.FmB Go.Proofs.Ytjlabkibpknkpaa.FmC Go.Proofs.Ytjlabkibpknkpaa.FmH Go.Proofs.Ytjlabkibpknkpaa.FmY Go.Proofs.Ytjlabkibpknkpaa.FpP
set_option linter.unusedVariables false
set_option linter.unusedSimpArgs false
theorem risP_bd : ∀ (l : List Int) {n was : Int}, risP n was l = true → ∀ k ∈ l, was < k ∧ k < n
  | [], _, _, _ => by simp
  | a :: r, n, was, h => by
    unfold risP at h
    split at h
    · cases h
    · split at h
      · cases h
      · intro k hk
        rcases List.mem_cons.1 hk with rfl | hk
        · omega
        · have := risP_bd r h k hk
          omega
theorem risP_len : ∀ (l : List Int) {n was : Int}, risP n was l = true → was < n → (l.length : Int) ≤ n - was - 1
  | [], n, was, _, h => by simp; omega
  | a :: r, n, was, h, h2 => by
    unfold risP at h
    split at h
    · cases h
    · split at h
      · cases h
      · have := risP_len r h (by omega)
        rw [List.length_cons]
        omega
theorem lessV_of {a b : Int} (h : b < a) (h0 : -1 ≤ b) (h1 : a < 1000000) : lessV a b = a - b := by
  have := lessV_add (last := b) (x := a - b) (by omega) (by omega)
  rw [show b + (a - b) = a by omega] at this
  exact this
theorem fKeys_enc : ∀ (l : List Int) {n was : Int} (r : List Int), risP n was l = true → -1 ≤ was → n ≤ 1000000 → fKeys l.length was ⟨keysE was l ++ r, 0, false⟩ = (l, ⟨r, 0, false⟩)
  | [], n, was, r, h, h0, h1 => by simp [fKeys, keysE]
  | a :: t, n, was, r, h, h0, h1 => by
    have hb := risP_bd _ h a List.mem_cons_self
    have hl := lessV_of hb.1 h0 (by omega)
    unfold risP at h
    rw [if_neg (by omega), if_neg (by omega)] at h
    rw [keysE, List.length_cons, fKeys, hl, List.append_assoc, fNum_enc (by omega) (by omega) (by omega)]
    simp only
    rw [show was + (a - was) = a by omega, fKeys_enc t r h (by omega) h1]
theorem atom_sz {s : ByteArray} (h : atomP s = true) : 1 ≤ s.size ∧ s.size ≤ 24 := by
  unfold atomP at h
  rw [Bool.and_eq_true] at h
  exact of_decide_eq_true h.2
theorem msgOk_split {nw : Int} {m : S35} (h : msgOk nw m = true) : (1 ≤ m.f0 ∧ m.f0 < 1000000 ∧ 1 ≤ m.f1 ∧ m.f1 ≤ 1000000 ∧ 0 ≤ m.f2 ∧ m.f2 ≤ 1000000) ∧ atomP m.f3 = true ∧ (0 ≤ m.f4 ∧ m.f4 ≤ 31) ∧ risP nw (-1) m.f5 = true ∧ m.f6.size ≤ 300 := by
  unfold msgOk at h
  simp only [Bool.and_eq_true, decide_eq_true_eq] at h
  exact ⟨h.1.1.1.1, h.1.1.1.2, h.1.1.2, h.1.2, h.2⟩
theorem fMsg_enc {nw last : Int} {m : S35} (h : msgOk nw m = true) (hn0 : 0 ≤ nw) (hn : nw ≤ 64) (h0 : 0 ≤ last) (h1 : last < m.f0) (r : List Int) : fMsg last ⟨encM m last ++ r, 0, false⟩ = (m, ⟨r, 0, false⟩) := by
  obtain ⟨q0, q3, q4, q5, q6⟩ := msgOk_split h
  have ql := risP_len _ q5 (by omega)
  have q3' := atom_sz q3
  have e0 : lessV m.f0 last = m.f0 - last := lessV_of h1 (by omega) (by omega)
  have E : encM m last ++ r = enc (m.f0 - last) ++ (enc m.f1 ++ (enc m.f2 ++ (enc m.f4 ++ (enc (m.f5.length : Int) ++ (keysE (-1) m.f5 ++ (encT m.f3 ++ (encT m.f6 ++ r))))))) := by
    unfold encM
    rw [e0]
    simp [encNs, List.append_assoc]
  rw [E]
  unfold fMsg sG sF sN sE sD sC sB sA
  rw [fNum_enc (by omega) (by omega) (by omega)]
  simp only
  rw [fNum_enc (by omega) (by omega) (by omega)]
  simp only
  rw [fNum_enc (by omega) (by omega) (by omega)]
  simp only
  rw [fNum_enc (by omega) (by omega) (by omega)]
  simp only
  rw [fNum_enc (by omega) (by omega) (by omega)]
  simp only [Int.toNat_natCast]
  rw [fKeys_enc m.f5 _ q5 (by omega) (by omega)]
  simp only
  rw [fTxt_enc (by omega) (by omega)]
  simp only
  rw [fTxt_enc (by omega) (by omega)]
  rw [show last + (m.f0 - last) = m.f0 by omega]
theorem fMsgs_enc : ∀ (l : List S35) {nw next high last : Int} (r : List Int), msgsOk nw next high last l = true → 0 ≤ nw → nw ≤ 64 → 0 ≤ last → fMsgs l.length last ⟨encMs last l ++ r, 0, false⟩ = (l, ⟨r, 0, false⟩)
  | [], nw, next, high, last, r, h, _, _, _ => by simp [fMsgs, encMs]
  | m :: t, nw, next, high, last, r, h, hn0, hn, h0 => by
    unfold msgsOk at h
    split at h
    · rename_i hm
      split at h
      · cases h
      · split at h
        · cases h
        · split at h
          · cases h
          · rw [encMs, List.length_cons, fMsgs, List.append_assoc, fMsg_enc hm hn0 hn h0 (by omega)]
            simp only
            rw [fMsgs_enc t r h hn0 hn (by omega)]
    · cases h
theorem wordsOk_all : ∀ (l pre : List ByteArray), wordsOk pre l = true → ∀ w ∈ l, atomP w = true
  | [], _, _ => by simp
  | a :: r, pre, h => by
    unfold wordsOk at h
    split at h
    · rename_i ha
      split at h
      · cases h
      · intro w hw
        rcases List.mem_cons.1 hw with rfl | hw
        · exact ha
        · exact wordsOk_all r _ h w hw
    · cases h
theorem fWords_enc : ∀ (l : List ByteArray) (r : List Int), (∀ w ∈ l, w.size ≤ 24) → fWords l.length ⟨l.flatMap encT ++ r, 0, false⟩ = (l, ⟨r, 0, false⟩)
  | [], r, _ => by simp [fWords]
  | a :: t, r, h => by
    have ha := h a List.mem_cons_self
    rw [List.length_cons, fWords, List.flatMap_cons, List.append_assoc, fTxt_enc (by omega) (by omega)]
    simp only
    rw [fWords_enc t r (fun w hw => h w (List.mem_cons_of_mem _ hw))]
def May (b : BoxV) : Prop := boxP b.f0 b.f1 b.f2 b.f3 b.f4 b.f5 = 0
structure MayOf (b : BoxV) : Prop where
  id : 1 ≤ b.f0.size ∧ b.f0.size ≤ 12
  n1 : 1 ≤ b.f1 ∧ b.f1 ≤ 1000000
  n2 : 1 ≤ b.f2 ∧ b.f2 ≤ 1000000
  n3 : 1 ≤ b.f3 ∧ b.f3 ≤ 1000000
  nw : b.f4.length ≤ 64
  nm : b.f5.length ≤ 60
  ws : wordsOk [] b.f4 = true
  ms : msgsOk (b.f4.length : Int) b.f2 b.f3 0 b.f5 = true
theorem bit01_0 {b : Bool} (h : bit01 b = 0) : b = true := by
  unfold bit01 at h
  split at h
  · assumption
  · cases h
theorem may_of {b : BoxV} (h : May b) : MayOf b := by
  unfold May boxP at h
  split at h
  · rename_i hh
    split at h
    · rename_i hl
      have hb := bit01_0 h
      rw [Bool.and_eq_true] at hb
      unfold headOk at hh
      rw [Bool.and_eq_true] at hh
      have h2 := of_decide_eq_true hh.2
      exact ⟨⟨(atom_sz hh.1).1, h2.1⟩, ⟨h2.2.1, h2.2.2.1⟩, ⟨h2.2.2.2.2.2.1, h2.2.2.2.2.2.2⟩, ⟨h2.2.2.2.1, h2.2.2.2.2.1⟩, hl.1, hl.2, hb.1, hb.2⟩
    · cases h
  · cases h
theorem fBox_enc {b : BoxV} (h : May b) (r : List Int) : fBox ⟨boxE b ++ r, 0, false⟩ = (b, ⟨r, 0, false⟩) := by
  obtain ⟨hid, h1, h2, h3, hnw, hnm, hws, hms⟩ := may_of h
  have hw := wordsOk_all _ _ hws
  have E : boxE b ++ r = enc b.f1 ++ (enc b.f2 ++ (enc b.f3 ++ (encT b.f0 ++ (enc (b.f4.length : Int) ++ (b.f4.flatMap encT ++ (enc (b.f5.length : Int) ++ (encMs 0 b.f5 ++ r))))))) := by
    unfold boxE
    simp [encNs, List.append_assoc]
  rw [E]
  unfold fBox bG bF bE bD sC sB sA
  rw [fNum_enc (by omega) (by omega) (by omega)]
  simp only
  rw [fNum_enc (by omega) (by omega) (by omega)]
  simp only
  rw [fNum_enc (by omega) (by omega) (by omega)]
  simp only
  rw [fTxt_enc (by omega) (by omega)]
  simp only
  rw [fNum_enc (by omega) (by omega) (by omega)]
  simp only [Int.toNat_natCast]
  rw [fWords_enc _ _ (fun w hm => (atom_sz (hw w hm)).2)]
  simp only
  rw [fNum_enc (by omega) (by omega) (by omega)]
  simp only [Int.toNat_natCast]
  rw [fMsgs_enc _ _ hms (by omega) (by omega) (by omega)]
theorem sumW_bd : ∀ (l : List ByteArray) (B : Nat), (∀ w ∈ l, w.size ≤ B) → sumW l ≤ l.length * B
  | [], _, _ => by simp [sumW]
  | a :: r, B, h => by
    have h1 := h a List.mem_cons_self
    have h2 := sumW_bd r B (fun w hw => h w (List.mem_cons_of_mem _ hw))
    rw [sumW, List.length_cons, Nat.succ_mul]
    omega
theorem sumM_bd : ∀ (l : List S35) (B : Nat), (∀ m ∈ l, wt m ≤ B) → sumM l ≤ l.length * B
  | [], _, _ => by simp [sumM]
  | a :: r, B, h => by
    have h1 := h a List.mem_cons_self
    have h2 := sumM_bd r B (fun w hw => h w (List.mem_cons_of_mem _ hw))
    rw [sumM, List.length_cons, Nat.succ_mul]
    omega
theorem msgsOk_all : ∀ (l : List S35) {nw next high last : Int}, msgsOk nw next high last l = true → ∀ m ∈ l, msgOk nw m = true
  | [], _, _, _, _, _ => by simp
  | a :: r, nw, next, high, last, h => by
    unfold msgsOk at h
    split at h
    · rename_i hm
      split at h
      · cases h
      · split at h
        · cases h
        · split at h
          · cases h
          · intro m hm2
            rcases List.mem_cons.1 hm2 with rfl | hm2
            · exact hm
            · exact msgsOk_all r h m hm2
    · cases h
theorem may_bulk {b : BoxV} (h : May b) : bulk b.f0 b.f4 b.f5 ≤ 60000 ∧ b.f4.length ≤ 100 ∧ b.f5.length ≤ 100 := by
  obtain ⟨hid, h1, h2, h3, hnw, hnm, hws, hms⟩ := may_of h
  have hw := wordsOk_all _ _ hws
  have hm := msgsOk_all _ hms
  have s1 := sumW_bd b.f4 24 (fun w hm => (atom_sz (hw w hm)).2)
  have s2 := sumM_bd b.f5 388 (fun m hmm => by
    obtain ⟨q0, q3, q4, q5, q6⟩ := msgOk_split (hm m hmm)
    have ql := risP_len _ q5 (by omega)
    have q3' := atom_sz q3
    unfold wt
    omega)
  unfold bulk
  omega
def Sh (rest : List Int) (s : St) : Prop := s.off = false ∧ (s.e = 2 ∨ s.e = 0 ∧ ∃ m, m < rest.length ∧ s.bs = rest.take m)
def En (s : St) : Prop := s.off = false ∧ s.e = 2
theorem En.sh {s : St} (h : En s) (rest : List Int) : Sh rest s := ⟨h.1, .inl h.2⟩
theorem fNum_no {most : Int} {s : St} (h : ¬ Ok s) : fNum most s = (0, s) := by unfold fNum; rw [if_neg h]
theorem fTxt_no {most : Int} {s : St} (h : ¬ Ok s) : fTxt most s = (⟨#[]⟩, s) := by unfold fTxt; rw [if_neg h]
theorem fNum_no2 {most : Int} {s : St} (h : ¬ Ok s) : (fNum most s).2 = s := by rw [fNum_no h]
theorem fTxt_no2 {most : Int} {s : St} (h : ¬ Ok s) : (fTxt most s).2 = s := by rw [fTxt_no h]
theorem En.no {s : St} (h : En s) : ¬ Ok s := fun hk => by have := hk.1; rw [h.2] at this; cases this
theorem fKeys_no : ∀ (n : Nat) (was : Int) {s : St}, ¬ Ok s → (fKeys n was s).2 = s
  | 0, _, _, _ => rfl
  | n + 1, was, s, h => by rw [fKeys, fNum_no h]; exact fKeys_no n _ h
theorem fMsg_no {last : Int} {s : St} (h : ¬ Ok s) : (fMsg last s).2 = s := by
  unfold fMsg sG sF sN sE sD sC sB sA
  simp only [fNum_no h]
  rw [show (fKeys (0 : Int).toNat (-1) s).2 = s from rfl, fTxt_no h]
  exact fTxt_no2 h
theorem fWords_no : ∀ (n : Nat) {s : St}, ¬ Ok s → (fWords n s).2 = s
  | 0, _, _ => rfl
  | n + 1, s, h => by rw [fWords, fTxt_no h]; exact fWords_no n h
theorem fMsgs_no : ∀ (n : Nat) (last : Int) {s : St}, ¬ Ok s → (fMsgs n last s).2 = s
  | 0, _, _, _ => rfl
  | n + 1, last, s, h => by rw [fMsgs]; simp only; rw [fMsg_no h]; exact fMsgs_no n _ h
theorem fNum_sh {most n : Int} {rest : List Int} {s : St} (h0 : 0 ≤ n) (h1 : n ≤ most) (h2 : most ≤ 1099511627776) (h : Sh (enc n ++ rest) s) :
    En (fNum most s).2 ∨ (fNum most s).1 = n ∧ Sh rest (fNum most s).2 := by
  obtain ⟨ho, h⟩ := h
  obtain ⟨bs, e, off⟩ := s
  simp only at ho h
  subst ho
  rcases h with rfl | ⟨rfl, m, hm, rfl⟩
  · left
    rw [fNum_no (fun hk => by have := hk.1; cases this)]
    exact ⟨rfl, rfl⟩
  · have hz : rNum ((enc n ++ rest).take m) 0 = (0, (enc n ++ rest).take m, 2) ∨ (∃ m', m' < rest.length ∧ (enc n ++ rest).take m = enc n ++ rest.take m') := by
      by_cases hlt : m < (enc n).length
      · left
        rw [List.take_append_of_le_length (by omega)]
        unfold rNum
        rw [if_neg (by simp), num_short n m hlt, if_pos (by simp)]
      · right
        refine ⟨m - (enc n).length, by simp at hm; omega, ?_⟩
        rw [List.take_append, List.take_of_length_le (by omega)]
    rcases hz with hz | ⟨m', hm', e1⟩
    · left
      unfold fNum
      rw [if_pos ⟨rfl, rfl⟩]
      simp only
      rw [hz, if_neg (by simp; omega)]
      exact ⟨rfl, rfl⟩
    · right
      rw [e1, fNum_enc h0 h1 h2]
      exact ⟨rfl, rfl, .inr ⟨rfl, m', hm', rfl⟩⟩
theorem fTxt_sh {most : Int} {t : ByteArray} {rest : List Int} {s : St} (h1 : (t.size : Int) ≤ most) (h2 : most ≤ 1000000) (h : Sh (encT t ++ rest) s) :
    En (fTxt most s).2 ∨ (fTxt most s).1 = t ∧ Sh rest (fTxt most s).2 := by
  obtain ⟨ho, h⟩ := h
  obtain ⟨bs, e, off⟩ := s
  simp only at ho h
  subst ho
  rcases h with rfl | ⟨rfl, m, hm, rfl⟩
  · left
    rw [fTxt_no (fun hk => by have := hk.1; cases this)]
    exact ⟨rfl, rfl⟩
  · by_cases hlt : m < (encT t).length
    · left
      have e : encT t = PkQ.encT (bytesOf t) := by unfold FmN.encT PkQ.encT; rw [bytesOf_length]
      have hs : (rText most ((encT t ++ rest).take m) 0).2.2 = 2 := by
        have hq := PkQ.short_text (most := most) (t := bytesOf t) (rest := []) (bs := (encT t).take m) (e := 0) (by rw [bytesOf_length]; omega) (by rw [bytesOf_length]; exact h1) (.inr ⟨rfl, m, by rw [List.append_nil, ← e]; exact hlt, by rw [List.append_nil, ← e]⟩)
        rw [List.take_append_of_le_length (by omega)]
        exact PkQ.short_end hq
      unfold fTxt
      rw [if_pos ⟨rfl, rfl⟩]
      exact ⟨rfl, hs⟩
    · right
      have e1 : (encT t ++ rest).take m = encT t ++ rest.take (m - (encT t).length) := by rw [List.take_append, List.take_of_length_le (by omega)]
      rw [e1, fTxt_enc h1 h2]
      exact ⟨rfl, rfl, .inr ⟨rfl, _, by simp at hm; omega, rfl⟩⟩
theorem fKeys_sh : ∀ (l : List Int) {n was : Int} {rest : List Int} {s : St}, risP n was l = true → -1 ≤ was → n ≤ 1000000 → Sh (keysE was l ++ rest) s → Sh rest (fKeys l.length was s).2
  | [], n, was, rest, s, h, h0, h1, hs => by simpa [fKeys, keysE] using hs
  | a :: t, n, was, rest, s, h, h0, h1, hs => by
    have hb := risP_bd _ h a List.mem_cons_self
    have hl := lessV_of hb.1 h0 (by omega)
    unfold risP at h
    rw [if_neg (by omega), if_neg (by omega)] at h
    rw [keysE, hl, List.append_assoc] at hs
    rw [List.length_cons, fKeys]
    rcases fNum_sh (most := 1000000) (by omega) (by omega) (by omega) hs with he | ⟨hv, hs2⟩
    · show Sh rest (fKeys t.length _ _).2
      rw [fKeys_no _ _ he.no]
      exact he.sh _
    · simp only
      rw [hv, show was + (a - was) = a by omega]
      exact fKeys_sh t h (by omega) h1 hs2
theorem fMsg_sh {nw last : Int} {m : S35} {rest : List Int} {s : St} (h : msgOk nw m = true) (hn0 : 0 ≤ nw) (hn : nw ≤ 64) (h0 : 0 ≤ last) (h1 : last < m.f0) (hs : Sh (encM m last ++ rest) s) :
    En (fMsg last s).2 ∨ (fMsg last s).1.f0 = m.f0 ∧ Sh rest (fMsg last s).2 := by
  obtain ⟨q0, q3, q4, q5, q6⟩ := msgOk_split h
  have ql := risP_len _ q5 (by omega)
  have q3' := atom_sz q3
  have e0 : lessV m.f0 last = m.f0 - last := lessV_of h1 (by omega) (by omega)
  have E : encM m last ++ rest = enc (m.f0 - last) ++ (enc m.f1 ++ (enc m.f2 ++ (enc m.f4 ++ (enc (m.f5.length : Int) ++ (keysE (-1) m.f5 ++ (encT m.f3 ++ (encT m.f6 ++ rest))))))) := by
    unfold encM
    rw [e0]
    simp [encNs, List.append_assoc]
  rw [E] at hs
  have key : ∀ {q : St}, En q → ∀ {c : St}, (c = q) → En c := fun hq c hc => hc ▸ hq
  have dead : ∀ (q : St), En q → ((fTxt 300 (fTxt 24 q).2).2 = q) := fun q hq => by rw [show (fTxt 24 q).2 = q from fTxt_no2 hq.no]; exact fTxt_no2 hq.no
  unfold fMsg sG sF sN
  rcases fNum_sh (most := 1000000) (by omega) (by omega) (by omega) hs with he | ⟨hv0, hs⟩
  · left
    have := fMsg_no (last := last) he.no
    have hA : (fMsg last s).2 = (fNum 1000000 s).2 := by
      unfold fMsg sG sF sN sE sD sC sB sA
      have n1 := fNum_no (most := 1000000) he.no
      have n2 := fNum_no (most := 64) he.no
      simp only [n1, n2]
      rw [show (fKeys (0 : Int).toNat (-1) (fNum 1000000 s).2).2 = (fNum 1000000 s).2 from rfl]
      exact dead _ he
    exact key he hA
  rw [hv0]
  change Sh _ (sA s) at hs
  rcases fNum_sh (most := 1000000) (by omega) (by omega) (by omega) hs with he | ⟨hv1, hs⟩
  · left
    refine key he ?_
    unfold sE sD sC
    have n1 := fNum_no (most := 1000000) he.no
    have n2 := fNum_no (most := 64) he.no
    have eB : sB s = (fNum 1000000 (sA s)).2 := rfl
    simp only [eB, n1, n2]
    exact dead _ he
  change Sh _ (sB s) at hs
  rcases fNum_sh (most := 1000000) (by omega) (by omega) (by omega) hs with he | ⟨hv2, hs⟩
  · left
    refine key he ?_
    unfold sE sD
    have n1 := fNum_no (most := 1000000) he.no
    have n2 := fNum_no (most := 64) he.no
    have eC : sC s = (fNum 1000000 (sB s)).2 := rfl
    simp only [eC, n1, n2]
    exact dead _ he
  change Sh _ (sC s) at hs
  rcases fNum_sh (most := 1000000) (by omega) (by omega) (by omega) hs with he | ⟨hv3, hs⟩
  · left
    refine key he ?_
    unfold sE
    have n2 := fNum_no (most := 64) he.no
    have eC : sD s = (fNum 1000000 (sC s)).2 := rfl
    simp only [eC, n2]
    exact dead _ he
  change Sh _ (sD s) at hs
  rcases fNum_sh (most := 64) (by omega) (by omega) (by omega) hs with he | ⟨hv4, hs⟩
  · left
    refine key he ?_
    have he' : En (sE s) := he
    show (fTxt 300 (fTxt 24 (fKeys _ (-1) (sE s)).2).2).2 = sE s
    rw [fKeys_no _ _ he'.no]
    exact dead _ he'
  rw [hv4, Int.toNat_natCast]
  change Sh _ (sE s) at hs
  have hs := fKeys_sh m.f5 q5 (by omega) (by omega) hs
  rcases fTxt_sh (most := 24) (by omega) (by omega) hs with he | ⟨_, hs⟩
  · left
    refine key he ?_
    show (fTxt 300 (fTxt 24 (fKeys _ (-1) (sE s)).2).2).2 = _
    exact fTxt_no2 he.no
  rcases fTxt_sh (most := 300) (by omega) (by omega) hs with he | ⟨_, hs⟩
  · left; exact he
  · right
    refine ⟨?_, hs⟩
    show last + (m.f0 - last) = m.f0
    omega
theorem fWords_sh : ∀ (l : List ByteArray) {rest : List Int} {s : St}, (∀ w ∈ l, w.size ≤ 24) → Sh (l.flatMap encT ++ rest) s → Sh rest (fWords l.length s).2
  | [], rest, s, _, hs => by simpa [fWords] using hs
  | a :: t, rest, s, h, hs => by
    have ha := h a List.mem_cons_self
    rw [List.flatMap_cons, List.append_assoc] at hs
    rw [List.length_cons, fWords]
    rcases fTxt_sh (most := 24) (by omega) (by omega) hs with he | ⟨_, hs⟩
    · show Sh rest (fWords t.length _).2
      rw [fWords_no _ he.no]
      exact he.sh _
    · exact fWords_sh t (fun w hw => h w (List.mem_cons_of_mem _ hw)) hs
theorem fMsgs_sh : ∀ (l : List S35) {nw next high last : Int} {rest : List Int} {s : St}, msgsOk nw next high last l = true → 0 ≤ nw → nw ≤ 64 → 0 ≤ last → Sh (encMs last l ++ rest) s → Sh rest (fMsgs l.length last s).2
  | [], nw, next, high, last, rest, s, h, _, _, _, hs => by simpa [fMsgs, encMs] using hs
  | m :: t, nw, next, high, last, rest, s, h, hn0, hn, h0, hs => by
    unfold msgsOk at h
    split at h
    · rename_i hm
      split at h
      · cases h
      · split at h
        · cases h
        · split at h
          · cases h
          · rw [encMs, List.append_assoc] at hs
            rw [List.length_cons, fMsgs]
            rcases fMsg_sh hm hn0 hn h0 (by omega) hs with he | ⟨hv, hs⟩
            · show Sh rest (fMsgs t.length _ _).2
              rw [fMsgs_no _ _ he.no]
              exact he.sh _
            · simp only
              rw [hv]
              exact fMsgs_sh t h hn0 hn (by omega) hs
    · cases h
theorem fBox_sh {b : BoxV} (h : May b) {m : Nat} (hm : m < (boxE b).length) : En (fBox ⟨(boxE b).take m, 0, false⟩).2 := by
  obtain ⟨hid, h1, h2, h3, hnw, hnm, hws, hms⟩ := may_of h
  have hw := wordsOk_all _ _ hws
  have hs : Sh (boxE b) ⟨(boxE b).take m, 0, false⟩ := ⟨rfl, .inr ⟨rfl, m, hm, rfl⟩⟩
  have E : boxE b = enc b.f1 ++ (enc b.f2 ++ (enc b.f3 ++ (encT b.f0 ++ (enc (b.f4.length : Int) ++ (b.f4.flatMap encT ++ (enc (b.f5.length : Int) ++ (encMs 0 b.f5 ++ []))))))) := by
    unfold boxE
    simp [encNs, List.append_assoc]
  generalize (⟨(boxE b).take m, 0, false⟩ : St) = s at hs
  rw [E] at hs
  have nil : ∀ {q : St}, Sh [] q → En q := fun hq => ⟨hq.1, by rcases hq.2 with h | ⟨_, m, hm, _⟩; exact h; simp at hm⟩
  have fin : ∀ {q : St}, En q → ∀ {c : St}, (c = q) → En c := fun hq c hc => hc ▸ hq
  have last : ∀ {q : St}, En q → (fMsgs (fNum 60 q).1.toNat 0 (fNum 60 q).2).2 = q := fun hq => by rw [fNum_no hq.no]; rfl
  have last2 : ∀ {q : St}, En q → (fWords (fNum 64 q).1.toNat (fNum 64 q).2).2 = q := fun hq => by rw [fNum_no hq.no]; rfl
  unfold fBox bG
  rcases fNum_sh (most := 1000000) (by omega) (by omega) (by omega) hs with he | ⟨_, hs⟩
  · refine fin he ?_
    show (fMsgs (fNum 60 (bF s)).1.toNat 0 (fNum 60 (bF s)).2).2 = _
    have eA : sA s = (fNum 1000000 s).2 := rfl
    have e1 : bF s = (fNum 1000000 s).2 := by
      unfold bF bE bD sC sB
      rw [eA, fNum_no he.no, show (fNum 1000000 (fNum 1000000 s).2).2 = (fNum 1000000 s).2 from fNum_no2 he.no]
      rw [fTxt_no he.no]
      exact last2 he
    rw [e1]
    exact last he
  change Sh _ (sA s) at hs
  rcases fNum_sh (most := 1000000) (by omega) (by omega) (by omega) hs with he | ⟨_, hs⟩
  · refine fin he ?_
    show (fMsgs (fNum 60 (bF s)).1.toNat 0 (fNum 60 (bF s)).2).2 = _
    have eA : sB s = (fNum 1000000 (sA s)).2 := rfl
    have e1 : bF s = (fNum 1000000 (sA s)).2 := by
      unfold bF bE bD sC
      rw [eA, show (fNum 1000000 (fNum 1000000 (sA s)).2).2 = (fNum 1000000 (sA s)).2 from fNum_no2 he.no]
      rw [fTxt_no he.no]
      exact last2 he
    rw [e1]
    exact last he
  change Sh _ (sB s) at hs
  rcases fNum_sh (most := 1000000) (by omega) (by omega) (by omega) hs with he | ⟨_, hs⟩
  · refine fin he ?_
    show (fMsgs (fNum 60 (bF s)).1.toNat 0 (fNum 60 (bF s)).2).2 = _
    have eA : sC s = (fNum 1000000 (sB s)).2 := rfl
    have e1 : bF s = (fNum 1000000 (sB s)).2 := by
      unfold bF bE bD
      rw [eA, fTxt_no he.no]
      exact last2 he
    rw [e1]
    exact last he
  change Sh _ (sC s) at hs
  rcases fTxt_sh (most := 24) (by omega) (by omega) hs with he | ⟨_, hs⟩
  · refine fin he ?_
    show (fMsgs (fNum 60 (bF s)).1.toNat 0 (fNum 60 (bF s)).2).2 = _
    have e1 : bF s = (fTxt 24 (sC s)).2 := last2 he
    rw [e1]
    exact last he
  change Sh _ (bD s) at hs
  rcases fNum_sh (most := 64) (by omega) (by omega) (by omega) hs with he | ⟨hv, hs⟩
  · refine fin he ?_
    show (fMsgs (fNum 60 (bF s)).1.toNat 0 (fNum 60 (bF s)).2).2 = _
    have e1 : bF s = (fNum 64 (bD s)).2 := by unfold bF; exact fWords_no _ he.no
    rw [e1]
    exact last he
  change Sh _ (bE s) at hs
  have hs := fWords_sh b.f4 (fun w hm => (atom_sz (hw w hm)).2) hs
  have e1 : bF s = (fWords b.f4.length (bE s)).2 := by unfold bF; rw [hv, Int.toNat_natCast]
  rw [← e1] at hs
  rcases fNum_sh (most := 60) (by omega) (by omega) (by omega) hs with he | ⟨hv, hs⟩
  · refine fin he ?_
    show (fMsgs _ 0 (fNum 60 (bF s)).2).2 = _
    exact fMsgs_no _ _ he.no
  show En (fMsgs (fNum 60 (bF s)).1.toNat 0 (fNum 60 (bF s)).2).2
  rw [hv, Int.toNat_natCast]
  exact nil (fMsgs_sh b.f5 hms (by omega) (by omega) (by omega) hs)
end Go.Proofs.Ytjlabkibpknkpaa.FpQ
