-- Written by a program of this claim's session (wip/tool/prune.py): what is used of a longer text. Not trusted: Lean checks it.
import Derived.Test.YtjlabkibpknkpaaZFmY
import Derived.Test.YtjlabkibpknkpaaZPkQ
namespace Go.Proofs.Ytjlabkibpknkpaa.FpP
open Go.RowKit Go.Proofs.YtjlabkibpknkpaaW.PrintWords Go.Proofs.YtjlabkibpknkpaaW.PrintLast Go.Proofs.YtjlabkibpknkpaaW.PrintMore Go.Proofs.Ytjlabkibpknkpaa.FmM Go.Proofs.Ytjlabkibpknkpaa.PkP Go.Proofs.Ytjlabkibpknkpaa.FmN Go.Proofs.Ytjlabkibpknkpaa.FmB Go.Proofs.Ytjlabkibpknkpaa.FmC Go.Proofs.Ytjlabkibpknkpaa.FmH Go.Proofs.Ytjlabkibpknkpaa.FmY
set_option linter.unusedVariables false
set_option linter.unusedSimpArgs false
structure St where
  bs : List Int
  e : Int
  off : Bool
def Ok (s : St) : Prop := s.e = 0 ∧ s.off = false
instance (s : St) : Decidable (Ok s) := inferInstanceAs (Decidable (_ ∧ _))
def fNum (most : Int) (s : St) : Int × St :=
  if Ok s then (if (rNum s.bs s.e).1 > most then (0, ⟨(rNum s.bs s.e).2.1, (rNum s.bs s.e).2.2, true⟩) else ((rNum s.bs s.e).1, ⟨(rNum s.bs s.e).2.1, (rNum s.bs s.e).2.2, s.off⟩)) else (0, s)
def fTxt (most : Int) (s : St) : ByteArray × St :=
  if Ok s then (strOfNums (rText most s.bs s.e).1, ⟨(rText most s.bs s.e).2.1, (rText most s.bs s.e).2.2, s.off⟩) else (⟨#[]⟩, s)
def fKeys : Nat → Int → St → List Int × St
  | 0, _, s => ([], s)
  | n + 1, was, s => ((was + (fNum 1000000 s).1) :: (fKeys n (was + (fNum 1000000 s).1) (fNum 1000000 s).2).1, (fKeys n (was + (fNum 1000000 s).1) (fNum 1000000 s).2).2)
def sA (s : St) : St := (fNum 1000000 s).2
def sB (s : St) : St := (fNum 1000000 (sA s)).2
def sC (s : St) : St := (fNum 1000000 (sB s)).2
def sD (s : St) : St := (fNum 1000000 (sC s)).2
def sE (s : St) : St := (fNum 64 (sD s)).2
def sN (s : St) : Nat := (fNum 64 (sD s)).1.toNat
def sF (s : St) : St := (fKeys (sN s) (-1) (sE s)).2
def sG (s : St) : St := (fTxt 24 (sF s)).2
def fMsg (last : Int) (s : St) : S35 × St :=
  (⟨last + (fNum 1000000 s).1, (fNum 1000000 (sA s)).1, (fNum 1000000 (sB s)).1, (fTxt 24 (sF s)).1, (fNum 1000000 (sC s)).1, (fKeys (sN s) (-1) (sE s)).1, (fTxt 300 (sG s)).1⟩, (fTxt 300 (sG s)).2)
def fWords : Nat → St → List ByteArray × St
  | 0, s => ([], s)
  | n + 1, s => ((fTxt 24 s).1 :: (fWords n (fTxt 24 s).2).1, (fWords n (fTxt 24 s).2).2)
def fMsgs : Nat → Int → St → List S35 × St
  | 0, _, s => ([], s)
  | n + 1, last, s => ((fMsg last s).1 :: (fMsgs n (fMsg last s).1.f0 (fMsg last s).2).1, (fMsgs n (fMsg last s).1.f0 (fMsg last s).2).2)
structure BoxV where
  f0 : ByteArray
  f1 : Int
  f2 : Int
  f3 : Int
  f4 : List ByteArray
  f5 : List S35
def bD (s : St) : St := (fTxt 24 (sC s)).2
def bE (s : St) : St := (fNum 64 (bD s)).2
def bF (s : St) : St := (fWords (fNum 64 (bD s)).1.toNat (bE s)).2
def bG (s : St) : St := (fNum 60 (bF s)).2
def fBox (s : St) : BoxV × St :=
  (⟨(fTxt 24 (sC s)).1, (fNum 1000000 s).1, (fNum 1000000 (sA s)).1, (fNum 1000000 (sB s)).1, (fWords (fNum 64 (bD s)).1.toNat (bE s)).1, (fMsgs (fNum 60 (bF s)).1.toNat 0 (bG s)).1⟩, (fMsgs (fNum 60 (bF s)).1.toNat 0 (bG s)).2)
def boxE (b : BoxV) : List Int := encNs [b.f1, b.f2, b.f3] ++ encT b.f0 ++ encNs [(b.f4.length : Int)] ++ b.f4.flatMap encT ++ encNs [(b.f5.length : Int)] ++ encMs 0 b.f5
theorem boxE_all (b : BoxV) : headE b.f0 b.f1 b.f2 b.f3 b.f4 b.f5 ++ encMs 0 b.f5 = [77, 66, 51] ++ boxE b := by
  unfold headE boxE
  simp only [List.append_assoc]
def Bytes (l : List Int) : Prop := ∀ b ∈ l, 0 ≤ b ∧ b < 256
theorem Bytes.drop {l : List Int} (h : Bytes l) (k : Nat) : Bytes (l.drop k) := fun b hb => h b (List.mem_of_mem_drop hb)
theorem rNum_bytes (bs : List Int) (e : Int) (hb : Bytes bs) : Bytes (rNum bs e).2.1 := by
  unfold rNum
  (repeat' split) <;> first | exact hb | exact hb.drop _
theorem rText_bytes (most : Int) (bs : List Int) (e : Int) (hb : Bytes bs) : Bytes (rText most bs e).2.1 := by
  unfold rText
  simp only
  (repeat' split) <;> first | exact hb | exact hb.drop _
theorem fNum_bytes {most : Int} {s : St} (hb : Bytes s.bs) : Bytes (fNum most s).2.bs := by
  unfold fNum
  (repeat' split) <;> first | exact hb | exact rNum_bytes _ _ hb
theorem fTxt_bytes {most : Int} {s : St} (hb : Bytes s.bs) : Bytes (fTxt most s).2.bs := by
  unfold fTxt
  split <;> first | exact hb | exact rText_bytes _ _ _ hb
theorem fKeys_bytes : ∀ (n : Nat) (was : Int) {s : St}, Bytes s.bs → Bytes (fKeys n was s).2.bs
  | 0, _, _, h => h
  | n + 1, _, _, h => fKeys_bytes n _ (fNum_bytes h)
theorem fMsg_bytes {last : Int} {s : St} (hb : Bytes s.bs) : Bytes (fMsg last s).2.bs :=
  fTxt_bytes (fTxt_bytes (fKeys_bytes _ _ (fNum_bytes (fNum_bytes (fNum_bytes (fNum_bytes (fNum_bytes hb)))))))
theorem fWords_bytes : ∀ (n : Nat) {s : St}, Bytes s.bs → Bytes (fWords n s).2.bs
  | 0, _, h => h
  | n + 1, _, h => fWords_bytes n (fTxt_bytes h)
theorem fMsgs_bytes : ∀ (n : Nat) (last : Int) {s : St}, Bytes s.bs → Bytes (fMsgs n last s).2.bs
  | 0, _, _, h => h
  | n + 1, _, _, h => fMsgs_bytes n _ (fMsg_bytes h)
theorem rNum_pos {bs : List Int} {e : Int} (hb : Bytes bs) : 0 ≤ (rNum bs e).1 ∧ (rNum bs e).1 ≤ 1099511627776 := by
  unfold rNum
  split
  · simp
  · split
    · simp
    · rename_i h
      have h3' : (num bs).2.2 = 0 := Decidable.not_not.mp h
      have := num_one (n := (num bs).1) (sz := (num bs).2.1) hb (by rw [← h3'])
      exact ⟨this.1, this.2.1⟩
theorem fNum_pos {most : Int} {s : St} (hb : Bytes s.bs) (h0 : 0 ≤ most) : 0 ≤ (fNum most s).1 ∧ (fNum most s).1 ≤ most := by
  have h := rNum_pos (e := s.e) hb
  unfold fNum
  split
  · split
    · exact ⟨Int.le_refl _, h0⟩
    · exact ⟨h.1, by omega⟩
  · exact ⟨Int.le_refl _, h0⟩
theorem nums_bytes (l : List Int) (h : Bytes l) : bytesOf (strOfNums l) = l := by
  unfold bytesOf strOfNums
  simp only [List.map_map]
  conv => rhs; rw [← List.map_id l]
  apply List.map_congr_left
  intro x hx
  have := h x hx
  simp
  omega
theorem nums_size (l : List Int) : (strOfNums l).size = l.length := by simp [strOfNums, ByteArray.size]
theorem lessV_add {last x : Int} (h0 : 0 ≤ x) (h1 : x ≤ 1000000) : lessV (last + x) last = x := by
  unfold lessV
  rw [show last + x - last = x by omega, w64s (by omega) (by omega)]
  split
  · omega
  · rw [if_neg (by omega)]
theorem fKeys_len : ∀ (n : Nat) (was : Int) (s : St), (fKeys n was s).1.length = n
  | 0, _, _ => rfl
  | n + 1, _, _ => by rw [fKeys, List.length_cons, fKeys_len n]
theorem fWords_len : ∀ (n : Nat) (s : St), (fWords n s).1.length = n
  | 0, _ => rfl
  | n + 1, _ => by rw [fWords, List.length_cons, fWords_len n]
theorem fMsgs_len : ∀ (n : Nat) (last : Int) (s : St), (fMsgs n last s).1.length = n
  | 0, _, _ => rfl
  | n + 1, _, _ => by rw [fMsgs, List.length_cons, fMsgs_len n]
theorem fNum_enc {most n : Int} (h0 : 0 ≤ n) (h1 : n ≤ most) (h2 : most ≤ 1099511627776) (r : List Int) : fNum most ⟨enc n ++ r, 0, false⟩ = (n, ⟨r, 0, false⟩) := by
  unfold fNum
  rw [if_pos ⟨rfl, rfl⟩, PkQ.rNum_enc h0 (by omega)]
  rw [if_neg (by simp; omega)]
theorem strOfNums_bytesOf (s : ByteArray) : strOfNums (bytesOf s) = s := by
  unfold strOfNums bytesOf
  apply ByteArray.ext
  apply Array.toList_inj.1
  simp only [List.map_map]
  conv => rhs; rw [← List.map_id s.data.toList]
  apply List.map_congr_left
  intro x _
  simp
theorem fTxt_enc {most : Int} {s : ByteArray} (h0 : (s.size : Int) ≤ most) (h1 : most ≤ 1000000) (r : List Int) : fTxt most ⟨encT s ++ r, 0, false⟩ = (s, ⟨r, 0, false⟩) := by
  have e : encT s = PkQ.encT (bytesOf s) := by unfold FmN.encT PkQ.encT; rw [bytesOf_length]
  unfold fTxt
  rw [if_pos ⟨rfl, rfl⟩, e, PkQ.rText_enc (by rw [bytesOf_length]; omega) (by rw [bytesOf_length]; exact h0), strOfNums_bytesOf]
end Go.Proofs.Ytjlabkibpknkpaa.FpP
