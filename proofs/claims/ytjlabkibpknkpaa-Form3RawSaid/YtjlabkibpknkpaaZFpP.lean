-- Written by a program of this claim's session (wip/tool/prune.py): what is used of a longer text. Not trusted: Lean checks it.
import Derived.Test.YtjlabkibpknkpaaZFmY
import Derived.Test.YtjlabkibpknkpaaZPkQ
namespace Go.Proofs.Ytjlabkibpknkpaa.FpP
open Go.RowKit Go.Proofs.YtjlabkibpknkpaaW.PrintWords Go.Proofs.YtjlabkibpknkpaaW.PrintLast Go.Proofs.YtjlabkibpknkpaaW.PrintMore Go.Proofs.Ytjlabkibpknkpaa.FmM Go.Proofs.Ytjlabkibpknkpaa.PkP Go.Proofs.Ytjlabkibpknkpaa.FmN Go.Proofs.Ytjlabkibpknkpaa.FmB Go.Proofs.Ytjlabkibpknkpaa.FmC Go.Proofs.Ytjlabkibpknkpaa.FmH Go.Proofs.Ytjlabkibpknkpaa.FmY
set_option linter.unusedVariables false
set_option linter.unusedSimpArgs false
structure St where
  bs : List Int
  e : Int
  off : Bool
def Ok (s : St) : Prop := s.e = 0 ∧ s.off = false
instance (s : St) : Decidable (Ok s) := inferInstanceAs (Decidable (_ ∧ _))
def fNum (most : Int) (s : St) : Int × St :=
  if Ok s then (if (rNum s.bs s.e).1 > most then (0, ⟨(rNum s.bs s.e).2.1, (rNum s.bs s.e).2.2, true⟩) else ((rNum s.bs s.e).1, ⟨(rNum s.bs s.e).2.1, (rNum s.bs s.e).2.2, s.off⟩)) else (0, s)
def fTxt (most : Int) (s : St) : ByteArray × St :=
  if Ok s then (strOfNums (rText most s.bs s.e).1, ⟨(rText most s.bs s.e).2.1, (rText most s.bs s.e).2.2, s.off⟩) else (⟨#[]⟩, s)
def fKeys : Nat → Int → St → List Int × St
  | 0, _, s => ([], s)
  | n + 1, was, s => ((was + (fNum 1000000 s).1) :: (fKeys n (was + (fNum 1000000 s).1) (fNum 1000000 s).2).1, (fKeys n (was + (fNum 1000000 s).1) (fNum 1000000 s).2).2)
def sA (s : St) : St := (fNum 1000000 s).2
def sB (s : St) : St := (fNum 1000000 (sA s)).2
def sC (s : St) : St := (fNum 1000000 (sB s)).2
def sD (s : St) : St := (fNum 1000000 (sC s)).2
def sE (s : St) : St := (fNum 64 (sD s)).2
def sN (s : St) : Nat := (fNum 64 (sD s)).1.toNat
def sF (s : St) : St := (fKeys (sN s) (-1) (sE s)).2
def sG (s : St) : St := (fTxt 24 (sF s)).2
def fMsg (last : Int) (s : St) : S35 × St :=
  (⟨last + (fNum 1000000 s).1, (fNum 1000000 (sA s)).1, (fNum 1000000 (sB s)).1, (fTxt 24 (sF s)).1, (fNum 1000000 (sC s)).1, (fKeys (sN s) (-1) (sE s)).1, (fTxt 300 (sG s)).1⟩, (fTxt 300 (sG s)).2)
def fWords : Nat → St → List ByteArray × St
  | 0, s => ([], s)
  | n + 1, s => ((fTxt 24 s).1 :: (fWords n (fTxt 24 s).2).1, (fWords n (fTxt 24 s).2).2)
def fMsgs : Nat → Int → St → List S35 × St
  | 0, _, s => ([], s)
  | n + 1, last, s => ((fMsg last s).1 :: (fMsgs n (fMsg last s).1.f0 (fMsg last s).2).1, (fMsgs n (fMsg last s).1.f0 (fMsg last s).2).2)
structure BoxV where
  f0 : ByteArray
  f1 : Int
  f2 : Int
  f3 : Int
  f4 : List ByteArray
  f5 : List S35
def bD (s : St) : St := (fTxt 24 (sC s)).2
def bE (s : St) : St := (fNum 64 (bD s)).2
def bF (s : St) : St := (fWords (fNum 64 (bD s)).1.toNat (bE s)).2
def bG (s : St) : St := (fNum 60 (bF s)).2
def fBox (s : St) : BoxV × St :=
  (⟨(fTxt 24 (sC s)).1, (fNum 1000000 s).1, (fNum 1000000 (sA s)).1, (fNum 1000000 (sB s)).1, (fWords (fNum 64 (bD s)).1.toNat (bE s)).1, (fMsgs (fNum 60 (bF s)).1.toNat 0 (bG s)).1⟩, (fMsgs (fNum 60 (bF s)).1.toNat 0 (bG s)).2)
def boxE (b : BoxV) : List Int := encNs [b.f1, b.f2, b.f3] ++ encT b.f0 ++ encNs [(b.f4.length : Int)] ++ b.f4.flatMap encT ++ encNs [(b.f5.length : Int)] ++ encMs 0 b.f5
theorem boxE_all (b : BoxV) : headE b.f0 b.f1 b.f2 b.f3 b.f4 b.f5 ++ encMs 0 b.f5 = [77, 66, 51] ++ boxE b := by
  unfold headE boxE
  simp only [List.append_assoc]
def Bytes (l : List Int) : Prop := ∀ b ∈ l, 0 ≤ b ∧ b < 256
theorem Bytes.drop {l : List Int} (h : Bytes l) (k : Nat) : Bytes (l.drop k) := fun b hb => h b (List.mem_of_mem_drop hb)
theorem rNum_bytes (bs : List Int) (e : Int) (hb : Bytes bs) : Bytes (rNum bs e).2.1 := by
  unfold rNum
  (repeat' split) <;> first | exact hb | exact hb.drop _
theorem rText_bytes (most : Int) (bs : List Int) (e : Int) (hb : Bytes bs) : Bytes (rText most bs e).2.1 := by
  unfold rText
  simp only
  (repeat' split) <;> first | exact hb | exact hb.drop _
theorem fNum_bytes {most : Int} {s : St} (hb : Bytes s.bs) : Bytes (fNum most s).2.bs := by
  unfold fNum
  (repeat' split) <;> first | exact hb | exact rNum_bytes _ _ hb
theorem fTxt_bytes {most : Int} {s : St} (hb : Bytes s.bs) : Bytes (fTxt most s).2.bs := by
  unfold fTxt
  split <;> first | exact hb | exact rText_bytes _ _ _ hb
theorem fKeys_bytes : ∀ (n : Nat) (was : Int) {s : St}, Bytes s.bs → Bytes (fKeys n was s).2.bs
  | 0, _, _, h => h
  | n + 1, _, _, h => fKeys_bytes n _ (fNum_bytes h)
theorem fMsg_bytes {last : Int} {s : St} (hb : Bytes s.bs) : Bytes (fMsg last s).2.bs :=
  fTxt_bytes (fTxt_bytes (fKeys_bytes _ _ (fNum_bytes (fNum_bytes (fNum_bytes (fNum_bytes (fNum_bytes hb)))))))
theorem fWords_bytes : ∀ (n : Nat) {s : St}, Bytes s.bs → Bytes (fWords n s).2.bs
  | 0, _, h => h
  | n + 1, _, h => fWords_bytes n (fTxt_bytes h)
theorem fMsgs_bytes : ∀ (n : Nat) (last : Int) {s : St}, Bytes s.bs → Bytes (fMsgs n last s).2.bs
  | 0, _, _, h => h
  | n + 1, _, _, h => fMsgs_bytes n _ (fMsg_bytes h)
theorem rNum_pos {bs : List Int} {e : Int} (hb : Bytes bs) : 0 ≤ (rNum bs e).1 ∧ (rNum bs e).1 ≤ 1099511627776 := by
  unfold rNum
  split
  · simp
  · split
    · simp
    · rename_i h
      have h3' : (num bs).2.2 = 0 := Decidable.not_not.mp h
      have := num_one (n := (num bs).1) (sz := (num bs).2.1) hb (by rw [← h3'])
      exact ⟨this.1, this.2.1⟩
theorem fNum_pos {most : Int} {s : St} (hb : Bytes s.bs) (h0 : 0 ≤ most) : 0 ≤ (fNum most s).1 ∧ (fNum most s).1 ≤ most := by
  have h := rNum_pos (e := s.e) hb
  unfold fNum
  split
  · split
    · exact ⟨Int.le_refl _, h0⟩
    · exact ⟨h.1, by omega⟩
  · exact ⟨Int.le_refl _, h0⟩
theorem fNum_one {most : Int} {s : St} (hb : Bytes s.bs) (h : Ok (fNum most s).2) : Ok s ∧ s.bs = enc (fNum most s).1 ++ (fNum most s).2.bs := by
  unfold fNum at h ⊢
  by_cases h1 : Ok s
  · rw [if_pos h1] at h ⊢
    refine ⟨h1, ?_⟩
    by_cases h2 : (rNum s.bs s.e).1 > most
    · rw [if_pos h2] at h
      exact absurd h.2 (by simp)
    · rw [if_neg h2] at h ⊢
      have he : (rNum s.bs s.e).2.2 = 0 := h.1
      simp only
      unfold rNum at he ⊢
      rw [if_neg (by rw [h1.1]; simp)] at he ⊢
      by_cases h3 : (num s.bs).2.2 ≠ 0
      · rw [if_pos h3] at he
        exact absurd he h3
      · rw [if_neg h3]
        have h3' : (num s.bs).2.2 = 0 := by simpa using h3
        have := num_one (n := (num s.bs).1) (sz := (num s.bs).2.1) hb (by rw [← h3'])
        obtain ⟨_, _, e1, e2, _⟩ := this
        simp only
        rw [e1]
        conv => lhs; rw [← List.take_append_drop (enc (num s.bs).1).length s.bs]
        rw [← e2, Int.toNat_natCast]
  · rw [if_neg h1] at h
    exact absurd h h1
theorem nums_bytes (l : List Int) (h : Bytes l) : bytesOf (strOfNums l) = l := by
  unfold bytesOf strOfNums
  simp only [List.map_map]
  conv => rhs; rw [← List.map_id l]
  apply List.map_congr_left
  intro x hx
  have := h x hx
  simp
  omega
theorem nums_size (l : List Int) : (strOfNums l).size = l.length := by simp [strOfNums, ByteArray.size]
theorem fTxt_one {most : Int} {s : St} (hb : Bytes s.bs) (h : Ok (fTxt most s).2) : Ok s ∧ s.bs = encT (fTxt most s).1 ++ (fTxt most s).2.bs := by
  unfold fTxt at h ⊢
  by_cases h1 : Ok s
  · rw [if_pos h1] at h ⊢
    refine ⟨h1, ?_⟩
    have he : (rText most s.bs s.e).2.2 = 0 := h.1
    simp only
    unfold rText at he ⊢
    rw [if_neg (by rw [h1.1]; simp)] at he ⊢
    simp only at he ⊢
    by_cases h3 : (num s.bs).2.2 ≠ 0
    · rw [if_pos h3, if_pos h3] at he
      exact absurd he h3
    · rw [if_neg h3] at he ⊢
      have h3' : (num s.bs).2.2 = 0 := by simpa using h3
      by_cases h4 : (num s.bs).1 > most
      · rw [if_pos h4, if_pos (by simp)] at he
        exact absurd he (by simp)
      · rw [if_neg h4] at he ⊢
        by_cases h5 : (num s.bs).1 > (s.bs.length : Int) - (num s.bs).2.1
        · rw [if_pos h5, if_pos (by simp)] at he
          exact absurd he (by simp)
        · rw [if_neg h5, if_neg (by simp)]
          obtain ⟨n0, _, e1, e2, e3⟩ := num_one (n := (num s.bs).1) (sz := (num s.bs).2.1) hb (by rw [← h3'])
          simp only
          generalize (num s.bs).1 = n at *
          rw [e1] at h5 ⊢
          rw [Int.toNat_natCast]
          have hl : ((s.bs.drop (enc n).length).take n.toNat).length = n.toNat := by rw [List.length_take, List.length_drop]; omega
          have hB : Bytes ((s.bs.drop (enc n).length).take n.toNat) := fun b hb' => hb.drop _ b (List.mem_of_mem_take hb')
          unfold FmN.encT
          rw [nums_bytes _ hB, nums_size, hl, Int.toNat_of_nonneg n0, List.append_assoc, ← List.drop_drop, List.take_append_drop]
          conv => lhs; rw [← List.take_append_drop (enc n).length s.bs, ← e2]
  · rw [if_neg h1] at h
    exact absurd h h1
theorem lessV_add {last x : Int} (h0 : 0 ≤ x) (h1 : x ≤ 1000000) : lessV (last + x) last = x := by
  unfold lessV
  rw [show last + x - last = x by omega, w64s (by omega) (by omega)]
  split
  · omega
  · rw [if_neg (by omega)]
theorem fKeys_one : ∀ (n : Nat) (was : Int) {s : St}, Bytes s.bs → Ok (fKeys n was s).2 → Ok s ∧ s.bs = keysE was (fKeys n was s).1 ++ (fKeys n was s).2.bs
  | 0, was, s, hb, h => ⟨h, by simp [fKeys, keysE]⟩
  | n + 1, was, s, hb, h => by
    have hp := fNum_pos (most := 1000000) hb (by decide)
    obtain ⟨h1, e1⟩ := fKeys_one n (was + (fNum 1000000 s).1) (fNum_bytes hb) h
    obtain ⟨h2, e2⟩ := fNum_one hb h1
    refine ⟨h2, ?_⟩
    conv => lhs; rw [e2, e1]
    rw [fKeys, keysE, lessV_add hp.1 hp.2, List.append_assoc]
theorem fKeys_len : ∀ (n : Nat) (was : Int) (s : St), (fKeys n was s).1.length = n
  | 0, _, _ => rfl
  | n + 1, _, _ => by rw [fKeys, List.length_cons, fKeys_len n]
theorem fWords_len : ∀ (n : Nat) (s : St), (fWords n s).1.length = n
  | 0, _ => rfl
  | n + 1, _ => by rw [fWords, List.length_cons, fWords_len n]
theorem fMsgs_len : ∀ (n : Nat) (last : Int) (s : St), (fMsgs n last s).1.length = n
  | 0, _, _ => rfl
  | n + 1, _, _ => by rw [fMsgs, List.length_cons, fMsgs_len n]
theorem fMsg_one {last : Int} {s : St} (hb : Bytes s.bs) (h : Ok (fMsg last s).2) : Ok s ∧ s.bs = encM (fMsg last s).1 last ++ (fMsg last s).2.bs := by
  have bA : Bytes (sA s).bs := fNum_bytes hb
  have bB : Bytes (sB s).bs := fNum_bytes bA
  have bC : Bytes (sC s).bs := fNum_bytes bB
  have bD : Bytes (sD s).bs := fNum_bytes bC
  have bE : Bytes (sE s).bs := fNum_bytes bD
  have bF : Bytes (sF s).bs := fKeys_bytes _ _ bE
  have bG : Bytes (sG s).bs := fTxt_bytes bF
  obtain ⟨hG, eG⟩ := fTxt_one bG h
  obtain ⟨hF, eF⟩ := fTxt_one bF hG
  obtain ⟨hE, eE⟩ := fKeys_one _ _ bE hF
  obtain ⟨hD, eD⟩ := fNum_one bD hE
  obtain ⟨hC, eC⟩ := fNum_one bC hD
  obtain ⟨hB, eB⟩ := fNum_one bB hC
  obtain ⟨hA, eA⟩ := fNum_one bA hB
  obtain ⟨h0, e0⟩ := fNum_one hb hA
  refine ⟨h0, ?_⟩
  have p0 := fNum_pos (most := 1000000) hb (by decide)
  have pN := fNum_pos (most := 64) bD (by decide)
  have hN : (((fKeys (sN s) (-1) (sE s)).1.length : Nat) : Int) = (fNum 64 (sD s)).1 := by rw [fKeys_len]; unfold sN; exact Int.toNat_of_nonneg pN.1
  have e0' : s.bs = enc (fNum 1000000 s).1 ++ (sA s).bs := e0
  have eA' : (sA s).bs = enc (fNum 1000000 (sA s)).1 ++ (sB s).bs := eA
  have eB' : (sB s).bs = enc (fNum 1000000 (sB s)).1 ++ (sC s).bs := eB
  have eC' : (sC s).bs = enc (fNum 1000000 (sC s)).1 ++ (sD s).bs := eC
  have eD' : (sD s).bs = enc (fNum 64 (sD s)).1 ++ (sE s).bs := eD
  have eE' : (sE s).bs = keysE (-1) (fKeys (sN s) (-1) (sE s)).1 ++ (sF s).bs := eE
  have eF' : (sF s).bs = encT (fTxt 24 (sF s)).1 ++ (sG s).bs := eF
  conv => lhs; rw [e0', eA', eB', eC', eD', eE', eF', eG]
  unfold fMsg encM
  simp only
  rw [lessV_add p0.1 p0.2, hN]
  simp [encNs, List.append_assoc]
theorem fWords_one : ∀ (n : Nat) {s : St}, Bytes s.bs → Ok (fWords n s).2 → Ok s ∧ s.bs = (fWords n s).1.flatMap encT ++ (fWords n s).2.bs
  | 0, s, hb, h => ⟨h, by simp [fWords]⟩
  | n + 1, s, hb, h => by
    obtain ⟨h1, e1⟩ := fWords_one n (fTxt_bytes hb) h
    obtain ⟨h2, e2⟩ := fTxt_one hb h1
    refine ⟨h2, ?_⟩
    conv => lhs; rw [e2, e1]
    rw [fWords, List.flatMap_cons, List.append_assoc]
theorem fMsgs_one : ∀ (n : Nat) (last : Int) {s : St}, Bytes s.bs → Ok (fMsgs n last s).2 → Ok s ∧ s.bs = encMs last (fMsgs n last s).1 ++ (fMsgs n last s).2.bs
  | 0, last, s, hb, h => ⟨h, by simp [fMsgs, encMs]⟩
  | n + 1, last, s, hb, h => by
    obtain ⟨h1, e1⟩ := fMsgs_one n _ (fMsg_bytes hb) h
    obtain ⟨h2, e2⟩ := fMsg_one hb h1
    refine ⟨h2, ?_⟩
    conv => lhs; rw [e2, e1]
    rw [fMsgs, encMs, List.append_assoc]
theorem fBox_one {s : St} (hb : Bytes s.bs) (h : Ok (fBox s).2) : Ok s ∧ s.bs = boxE (fBox s).1 ++ (fBox s).2.bs := by
  have bA : Bytes (sA s).bs := fNum_bytes hb
  have bB : Bytes (sB s).bs := fNum_bytes bA
  have bC : Bytes (sC s).bs := fNum_bytes bB
  have bD_ : Bytes (bD s).bs := fTxt_bytes bC
  have bE_ : Bytes (bE s).bs := fNum_bytes bD_
  have bF_ : Bytes (bF s).bs := fWords_bytes _ bE_
  have bG_ : Bytes (bG s).bs := fNum_bytes bF_
  obtain ⟨hG, eG⟩ := fMsgs_one _ _ bG_ h
  obtain ⟨hF, eF⟩ := fNum_one bF_ hG
  obtain ⟨hE, eE⟩ := fWords_one _ bE_ hF
  obtain ⟨hD, eD⟩ := fNum_one bD_ hE
  obtain ⟨hC, eC⟩ := fTxt_one bC hD
  obtain ⟨hB, eB⟩ := fNum_one bB hC
  obtain ⟨hA, eA⟩ := fNum_one bA hB
  obtain ⟨h0, e0⟩ := fNum_one hb hA
  refine ⟨h0, ?_⟩
  have pD := fNum_pos (most := 64) bD_ (by decide)
  have pF := fNum_pos (most := 60) bF_ (by decide)
  have hD4 : (((fBox s).1.f4.length : Nat) : Int) = (fNum 64 (bD s)).1 := by show (((fWords _ _).1.length : Nat) : Int) = _; rw [fWords_len]; exact Int.toNat_of_nonneg pD.1
  have hF5 : (((fBox s).1.f5.length : Nat) : Int) = (fNum 60 (bF s)).1 := by show (((fMsgs _ _ _).1.length : Nat) : Int) = _; rw [fMsgs_len]; exact Int.toNat_of_nonneg pF.1
  have e0' : s.bs = enc (fNum 1000000 s).1 ++ (sA s).bs := e0
  have eA' : (sA s).bs = enc (fNum 1000000 (sA s)).1 ++ (sB s).bs := eA
  have eB' : (sB s).bs = enc (fNum 1000000 (sB s)).1 ++ (sC s).bs := eB
  have eC' : (sC s).bs = encT (fTxt 24 (sC s)).1 ++ (bD s).bs := eC
  have eD' : (bD s).bs = enc (fNum 64 (bD s)).1 ++ (bE s).bs := eD
  have eE' : (bE s).bs = (fWords (fNum 64 (bD s)).1.toNat (bE s)).1.flatMap encT ++ (bF s).bs := eE
  have eF' : (bF s).bs = enc (fNum 60 (bF s)).1 ++ (bG s).bs := eF
  conv => lhs; rw [e0', eA', eB', eC', eD', eE', eF', eG]
  unfold boxE
  rw [hD4, hF5]
  unfold fBox
  simp [encNs, List.append_assoc]
end Go.Proofs.Ytjlabkibpknkpaa.FpP
