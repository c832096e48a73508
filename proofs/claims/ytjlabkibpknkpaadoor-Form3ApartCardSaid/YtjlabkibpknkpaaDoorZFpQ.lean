-- Written by a program of this claim's session (wip/tool/prune.py): what is used of a longer text. Not trusted: Lean checks it.
import Derived.Test.YtjlabkibpknkpaaDoorZFpP
namespace Go.Proofs.YtjlabkibpknkpaaDoor.FpQ
open Go.RowKit Go.Proofs.YtjlabkibpknkpaaDoorW.PrintWords Go.Proofs.YtjlabkibpknkpaaDoorW.PrintLast Go.Proofs.YtjlabkibpknkpaaDoorW.PrintMore Go.Proofs.YtjlabkibpknkpaaDoor.FmM Go.Proofs.YtjlabkibpknkpaaDoor.PkP Go.Proofs.YtjlabkibpknkpaaDoor.FmN Go.Proofs.YtjlabkibpknkpaaDoor.FmB Go.Proofs.YtjlabkibpknkpaaDoor.FmC Go.Proofs.YtjlabkibpknkpaaDoor.FmH Go.Proofs.YtjlabkibpknkpaaDoor.FmY Go.Proofs.YtjlabkibpknkpaaDoor.FpP
set_option linter.unusedVariables false
set_option linter.unusedSimpArgs false
theorem risP_bd : ∀ (l : List Int) {n was : Int}, risP n was l = true → ∀ k ∈ l, was < k ∧ k < n
  | [], _, _, _ => by simp
  | a :: r, n, was, h => by
    unfold risP at h
    split at h
    · cases h
    · split at h
      · cases h
      · intro k hk
        rcases List.mem_cons.1 hk with rfl | hk
        · omega
        · have := risP_bd r h k hk
          omega
theorem risP_len : ∀ (l : List Int) {n was : Int}, risP n was l = true → was < n → (l.length : Int) ≤ n - was - 1
  | [], n, was, _, h => by simp; omega
  | a :: r, n, was, h, h2 => by
    unfold risP at h
    split at h
    · cases h
    · split at h
      · cases h
      · have := risP_len r h (by omega)
        rw [List.length_cons]
        omega
theorem lessV_of {a b : Int} (h : b < a) (h0 : -1 ≤ b) (h1 : a < 1000000) : lessV a b = a - b := by
  have := lessV_add (last := b) (x := a - b) (by omega) (by omega)
  rw [show b + (a - b) = a by omega] at this
  exact this
theorem fKeys_enc : ∀ (l : List Int) {n was : Int} (r : List Int), risP n was l = true → -1 ≤ was → n ≤ 1000000 → fKeys l.length was ⟨keysE was l ++ r, 0, false⟩ = (l, ⟨r, 0, false⟩)
  | [], n, was, r, h, h0, h1 => by simp [fKeys, keysE]
  | a :: t, n, was, r, h, h0, h1 => by
    have hb := risP_bd _ h a List.mem_cons_self
    have hl := lessV_of hb.1 h0 (by omega)
    unfold risP at h
    rw [if_neg (by omega), if_neg (by omega)] at h
    rw [keysE, List.length_cons, fKeys, hl, List.append_assoc, fNum_enc (by omega) (by omega) (by omega)]
    simp only
    rw [show was + (a - was) = a by omega, fKeys_enc t r h (by omega) h1]
theorem atom_sz {s : ByteArray} (h : atomP s = true) : 1 ≤ s.size ∧ s.size ≤ 24 := by
  unfold atomP at h
  rw [Bool.and_eq_true] at h
  exact of_decide_eq_true h.2
theorem msgOk_split {nw : Int} {m : S31} (h : msgOk nw m = true) : (1 ≤ m.f0 ∧ m.f0 < 1000000 ∧ 1 ≤ m.f1 ∧ m.f1 ≤ 1000000 ∧ 0 ≤ m.f2 ∧ m.f2 ≤ 1000000) ∧ atomP m.f3 = true ∧ (0 ≤ m.f4 ∧ m.f4 ≤ 31) ∧ risP nw (-1) m.f5 = true ∧ m.f6.size ≤ 300 := by
  unfold msgOk at h
  simp only [Bool.and_eq_true, decide_eq_true_eq] at h
  exact ⟨h.1.1.1.1, h.1.1.1.2, h.1.1.2, h.1.2, h.2⟩
theorem fMsg_enc {nw last : Int} {m : S31} (h : msgOk nw m = true) (hn0 : 0 ≤ nw) (hn : nw ≤ 64) (h0 : 0 ≤ last) (h1 : last < m.f0) (r : List Int) : fMsg last ⟨encM m last ++ r, 0, false⟩ = (m, ⟨r, 0, false⟩) := by
  obtain ⟨q0, q3, q4, q5, q6⟩ := msgOk_split h
  have ql := risP_len _ q5 (by omega)
  have q3' := atom_sz q3
  have e0 : lessV m.f0 last = m.f0 - last := lessV_of h1 (by omega) (by omega)
  have E : encM m last ++ r = enc (m.f0 - last) ++ (enc m.f1 ++ (enc m.f2 ++ (enc m.f4 ++ (enc (m.f5.length : Int) ++ (keysE (-1) m.f5 ++ (encT m.f3 ++ (encT m.f6 ++ r))))))) := by
    unfold encM
    rw [e0]
    simp [encNs, List.append_assoc]
  rw [E]
  unfold fMsg sG sF sN sE sD sC sB sA
  rw [fNum_enc (by omega) (by omega) (by omega)]
  simp only
  rw [fNum_enc (by omega) (by omega) (by omega)]
  simp only
  rw [fNum_enc (by omega) (by omega) (by omega)]
  simp only
  rw [fNum_enc (by omega) (by omega) (by omega)]
  simp only
  rw [fNum_enc (by omega) (by omega) (by omega)]
  simp only [Int.toNat_natCast]
  rw [fKeys_enc m.f5 _ q5 (by omega) (by omega)]
  simp only
  rw [fTxt_enc (by omega) (by omega)]
  simp only
  rw [fTxt_enc (by omega) (by omega)]
  rw [show last + (m.f0 - last) = m.f0 by omega]
theorem fMsgs_enc : ∀ (l : List S31) {nw next high last : Int} (r : List Int), msgsOk nw next high last l = true → 0 ≤ nw → nw ≤ 64 → 0 ≤ last → fMsgs l.length last ⟨encMs last l ++ r, 0, false⟩ = (l, ⟨r, 0, false⟩)
  | [], nw, next, high, last, r, h, _, _, _ => by simp [fMsgs, encMs]
  | m :: t, nw, next, high, last, r, h, hn0, hn, h0 => by
    unfold msgsOk at h
    split at h
    · rename_i hm
      split at h
      · cases h
      · split at h
        · cases h
        · split at h
          · cases h
          · rw [encMs, List.length_cons, fMsgs, List.append_assoc, fMsg_enc hm hn0 hn h0 (by omega)]
            simp only
            rw [fMsgs_enc t r h hn0 hn (by omega)]
    · cases h
theorem wordsOk_all : ∀ (l pre : List ByteArray), wordsOk pre l = true → ∀ w ∈ l, atomP w = true
  | [], _, _ => by simp
  | a :: r, pre, h => by
    unfold wordsOk at h
    split at h
    · rename_i ha
      split at h
      · cases h
      · intro w hw
        rcases List.mem_cons.1 hw with rfl | hw
        · exact ha
        · exact wordsOk_all r _ h w hw
    · cases h
theorem fWords_enc : ∀ (l : List ByteArray) (r : List Int), (∀ w ∈ l, w.size ≤ 24) → fWords l.length ⟨l.flatMap encT ++ r, 0, false⟩ = (l, ⟨r, 0, false⟩)
  | [], r, _ => by simp [fWords]
  | a :: t, r, h => by
    have ha := h a List.mem_cons_self
    rw [List.length_cons, fWords, List.flatMap_cons, List.append_assoc, fTxt_enc (by omega) (by omega)]
    simp only
    rw [fWords_enc t r (fun w hw => h w (List.mem_cons_of_mem _ hw))]
def May (b : BoxV) : Prop := boxP b.f0 b.f1 b.f2 b.f3 b.f4 b.f5 = 0
structure MayOf (b : BoxV) : Prop where
  id : 1 ≤ b.f0.size ∧ b.f0.size ≤ 12
  n1 : 1 ≤ b.f1 ∧ b.f1 ≤ 1000000
  n2 : 1 ≤ b.f2 ∧ b.f2 ≤ 1000000
  n3 : 1 ≤ b.f3 ∧ b.f3 ≤ 1000000
  nw : b.f4.length ≤ 64
  nm : b.f5.length ≤ 60
  ws : wordsOk [] b.f4 = true
  ms : msgsOk (b.f4.length : Int) b.f2 b.f3 0 b.f5 = true
theorem bit01_0 {b : Bool} (h : bit01 b = 0) : b = true := by
  unfold bit01 at h
  split at h
  · assumption
  · cases h
theorem may_of {b : BoxV} (h : May b) : MayOf b := by
  unfold May boxP at h
  split at h
  · rename_i hh
    split at h
    · rename_i hl
      have hb := bit01_0 h
      rw [Bool.and_eq_true] at hb
      unfold headOk at hh
      rw [Bool.and_eq_true] at hh
      have h2 := of_decide_eq_true hh.2
      exact ⟨⟨(atom_sz hh.1).1, h2.1⟩, ⟨h2.2.1, h2.2.2.1⟩, ⟨h2.2.2.2.2.2.1, h2.2.2.2.2.2.2⟩, ⟨h2.2.2.2.1, h2.2.2.2.2.1⟩, hl.1, hl.2, hb.1, hb.2⟩
    · cases h
  · cases h
theorem fBox_enc {b : BoxV} (h : May b) (r : List Int) : fBox ⟨boxE b ++ r, 0, false⟩ = (b, ⟨r, 0, false⟩) := by
  obtain ⟨hid, h1, h2, h3, hnw, hnm, hws, hms⟩ := may_of h
  have hw := wordsOk_all _ _ hws
  have E : boxE b ++ r = enc b.f1 ++ (enc b.f2 ++ (enc b.f3 ++ (encT b.f0 ++ (enc (b.f4.length : Int) ++ (b.f4.flatMap encT ++ (enc (b.f5.length : Int) ++ (encMs 0 b.f5 ++ r))))))) := by
    unfold boxE
    simp [encNs, List.append_assoc]
  rw [E]
  unfold fBox bG bF bE bD sC sB sA
  rw [fNum_enc (by omega) (by omega) (by omega)]
  simp only
  rw [fNum_enc (by omega) (by omega) (by omega)]
  simp only
  rw [fNum_enc (by omega) (by omega) (by omega)]
  simp only
  rw [fTxt_enc (by omega) (by omega)]
  simp only
  rw [fNum_enc (by omega) (by omega) (by omega)]
  simp only [Int.toNat_natCast]
  rw [fWords_enc _ _ (fun w hm => (atom_sz (hw w hm)).2)]
  simp only
  rw [fNum_enc (by omega) (by omega) (by omega)]
  simp only [Int.toNat_natCast]
  rw [fMsgs_enc _ _ hms (by omega) (by omega) (by omega)]
def En (s : St) : Prop := s.off = false ∧ s.e = 2
theorem En.no {s : St} (h : En s) : ¬ Ok s := fun hk => by have := hk.1; rw [h.2] at this; cases this
end Go.Proofs.YtjlabkibpknkpaaDoor.FpQ
