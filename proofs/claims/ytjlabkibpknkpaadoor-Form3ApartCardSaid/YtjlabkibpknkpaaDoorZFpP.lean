-- Written by a program of this claim's session (wip/tool/prune.py): what is used of a longer text. Not trusted: Lean checks it.
import Derived.Test.YtjlabkibpknkpaaDoorZFmY
import Derived.Test.YtjlabkibpknkpaaDoorZPkQ
namespace Go.Proofs.YtjlabkibpknkpaaDoor.FpP
open Go.RowKit Go.Proofs.YtjlabkibpknkpaaDoorW.PrintWords Go.Proofs.YtjlabkibpknkpaaDoorW.PrintLast Go.Proofs.YtjlabkibpknkpaaDoorW.PrintMore Go.Proofs.YtjlabkibpknkpaaDoor.FmM Go.Proofs.YtjlabkibpknkpaaDoor.PkP Go.Proofs.YtjlabkibpknkpaaDoor.FmN Go.Proofs.YtjlabkibpknkpaaDoor.FmB Go.Proofs.YtjlabkibpknkpaaDoor.FmC Go.Proofs.YtjlabkibpknkpaaDoor.FmH Go.Proofs.YtjlabkibpknkpaaDoor.FmY
set_option linter.unusedVariables false
set_option linter.unusedSimpArgs false
structure St where
  bs : List Int
  e : Int
  off : Bool
def Ok (s : St) : Prop := s.e = 0 ∧ s.off = false
instance (s : St) : Decidable (Ok s) := inferInstanceAs (Decidable (_ ∧ _))
def fNum (most : Int) (s : St) : Int × St :=
  if Ok s then (if (rNum s.bs s.e).1 > most then (0, ⟨(rNum s.bs s.e).2.1, (rNum s.bs s.e).2.2, true⟩) else ((rNum s.bs s.e).1, ⟨(rNum s.bs s.e).2.1, (rNum s.bs s.e).2.2, s.off⟩)) else (0, s)
def fTxt (most : Int) (s : St) : ByteArray × St :=
  if Ok s then (strOfNums (rText most s.bs s.e).1, ⟨(rText most s.bs s.e).2.1, (rText most s.bs s.e).2.2, s.off⟩) else (⟨#[]⟩, s)
def fKeys : Nat → Int → St → List Int × St
  | 0, _, s => ([], s)
  | n + 1, was, s => ((was + (fNum 1000000 s).1) :: (fKeys n (was + (fNum 1000000 s).1) (fNum 1000000 s).2).1, (fKeys n (was + (fNum 1000000 s).1) (fNum 1000000 s).2).2)
def sA (s : St) : St := (fNum 1000000 s).2
def sB (s : St) : St := (fNum 1000000 (sA s)).2
def sC (s : St) : St := (fNum 1000000 (sB s)).2
def sD (s : St) : St := (fNum 1000000 (sC s)).2
def sE (s : St) : St := (fNum 64 (sD s)).2
def sN (s : St) : Nat := (fNum 64 (sD s)).1.toNat
def sF (s : St) : St := (fKeys (sN s) (-1) (sE s)).2
def sG (s : St) : St := (fTxt 24 (sF s)).2
def fMsg (last : Int) (s : St) : S31 × St :=
  (⟨last + (fNum 1000000 s).1, (fNum 1000000 (sA s)).1, (fNum 1000000 (sB s)).1, (fTxt 24 (sF s)).1, (fNum 1000000 (sC s)).1, (fKeys (sN s) (-1) (sE s)).1, (fTxt 300 (sG s)).1⟩, (fTxt 300 (sG s)).2)
def fWords : Nat → St → List ByteArray × St
  | 0, s => ([], s)
  | n + 1, s => ((fTxt 24 s).1 :: (fWords n (fTxt 24 s).2).1, (fWords n (fTxt 24 s).2).2)
def fMsgs : Nat → Int → St → List S31 × St
  | 0, _, s => ([], s)
  | n + 1, last, s => ((fMsg last s).1 :: (fMsgs n (fMsg last s).1.f0 (fMsg last s).2).1, (fMsgs n (fMsg last s).1.f0 (fMsg last s).2).2)
structure BoxV where
  f0 : ByteArray
  f1 : Int
  f2 : Int
  f3 : Int
  f4 : List ByteArray
  f5 : List S31
def bD (s : St) : St := (fTxt 24 (sC s)).2
def bE (s : St) : St := (fNum 64 (bD s)).2
def bF (s : St) : St := (fWords (fNum 64 (bD s)).1.toNat (bE s)).2
def bG (s : St) : St := (fNum 60 (bF s)).2
def fBox (s : St) : BoxV × St :=
  (⟨(fTxt 24 (sC s)).1, (fNum 1000000 s).1, (fNum 1000000 (sA s)).1, (fNum 1000000 (sB s)).1, (fWords (fNum 64 (bD s)).1.toNat (bE s)).1, (fMsgs (fNum 60 (bF s)).1.toNat 0 (bG s)).1⟩, (fMsgs (fNum 60 (bF s)).1.toNat 0 (bG s)).2)
def boxE (b : BoxV) : List Int := encNs [b.f1, b.f2, b.f3] ++ encT b.f0 ++ encNs [(b.f4.length : Int)] ++ b.f4.flatMap encT ++ encNs [(b.f5.length : Int)] ++ encMs 0 b.f5
theorem boxE_all (b : BoxV) : headE b.f0 b.f1 b.f2 b.f3 b.f4 b.f5 ++ encMs 0 b.f5 = [77, 66, 51] ++ boxE b := by
  unfold headE boxE
  simp only [List.append_assoc]
def Bytes (l : List Int) : Prop := ∀ b ∈ l, 0 ≤ b ∧ b < 256
theorem Bytes.drop {l : List Int} (h : Bytes l) (k : Nat) : Bytes (l.drop k) := fun b hb => h b (List.mem_of_mem_drop hb)
theorem nums_bytes (l : List Int) (h : Bytes l) : bytesOf (strOfNums l) = l := by
  unfold bytesOf strOfNums
  simp only [List.map_map]
  conv => rhs; rw [← List.map_id l]
  apply List.map_congr_left
  intro x hx
  have := h x hx
  simp
  omega
theorem lessV_add {last x : Int} (h0 : 0 ≤ x) (h1 : x ≤ 1000000) : lessV (last + x) last = x := by
  unfold lessV
  rw [show last + x - last = x by omega, w64s (by omega) (by omega)]
  split
  · omega
  · rw [if_neg (by omega)]
theorem fNum_enc {most n : Int} (h0 : 0 ≤ n) (h1 : n ≤ most) (h2 : most ≤ 1099511627776) (r : List Int) : fNum most ⟨enc n ++ r, 0, false⟩ = (n, ⟨r, 0, false⟩) := by
  unfold fNum
  rw [if_pos ⟨rfl, rfl⟩, PkQ.rNum_enc h0 (by omega)]
  rw [if_neg (by simp; omega)]
theorem strOfNums_bytesOf (s : ByteArray) : strOfNums (bytesOf s) = s := by
  unfold strOfNums bytesOf
  apply ByteArray.ext
  apply Array.toList_inj.1
  simp only [List.map_map]
  conv => rhs; rw [← List.map_id s.data.toList]
  apply List.map_congr_left
  intro x _
  simp
theorem fTxt_enc {most : Int} {s : ByteArray} (h0 : (s.size : Int) ≤ most) (h1 : most ≤ 1000000) (r : List Int) : fTxt most ⟨encT s ++ r, 0, false⟩ = (s, ⟨r, 0, false⟩) := by
  have e : encT s = PkQ.encT (bytesOf s) := by unfold FmN.encT PkQ.encT; rw [bytesOf_length]
  unfold fTxt
  rw [if_pos ⟨rfl, rfl⟩, e, PkQ.rText_enc (by rw [bytesOf_length]; omega) (by rw [bytesOf_length]; exact h0), strOfNums_bytesOf]
end Go.Proofs.YtjlabkibpknkpaaDoor.FpP
