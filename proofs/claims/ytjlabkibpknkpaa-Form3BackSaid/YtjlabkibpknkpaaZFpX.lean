-- Written by a program of this claim's session (wip/tool/prune.py): what is used of a longer text. Not trusted: Lean checks it.
import Derived.Test.YtjlabkibpknkpaaZFpV
import Derived.Test.YtjlabkibpknkpaaZFmA
import Derived.Test.YtjlabkibpknkpaaZFmL
import Derived.Test.YtjlabkibpknkpaaZFmR
import Derived.Test.YtjlabkibpknkpaaZTg
namespace Go.Proofs.Ytjlabkibpknkpaa.FpX
open Go.RowKit Go.Proofs.YtjlabkibpknkpaaW.PrintWords Go.Proofs.YtjlabkibpknkpaaW.PrintLast Go.Proofs.YtjlabkibpknkpaaW.PrintMore Go.Proofs.Ytjlabkibpknkpaa.FmM Go.Proofs.Ytjlabkibpknkpaa.PkP Go.Proofs.Ytjlabkibpknkpaa.FmN Go.Proofs.Ytjlabkibpknkpaa.FmC Go.Proofs.Ytjlabkibpknkpaa.FmH Go.Proofs.Ytjlabkibpknkpaa.FmY Go.Proofs.Ytjlabkibpknkpaa.FmA Go.Proofs.Ytjlabkibpknkpaa.FmL Go.Proofs.Ytjlabkibpknkpaa.FpP Go.Proofs.Ytjlabkibpknkpaa.FpQ Go.Proofs.Ytjlabkibpknkpaa.FpS Go.Proofs.Ytjlabkibpknkpaa.FpU Go.Proofs.Ytjlabkibpknkpaa.FpV Go.Proofs.Ytjlabkibpknkpaa.Rw
set_option linter.unusedVariables false
set_option linter.unusedSimpArgs false
theorem parse_same {b : BoxV} (hm : FpQ.May b) (id : ByteArray) : parseP ([77, 66, 51] ++ boxE b) id = if b.f0 = id then (b, 0) else (noBox, 3) := by
  have e1 : ([77, 66, 51] ++ boxE b).take 3 = [77, 66, 51] := by simp
  have e2 : ([77, 66, 51] ++ boxE b).drop 3 = boxE b ++ [] := by simp
  unfold parseP
  rw [if_pos e1, e2, fBox_enc hm, if_neg (by simp)]
  by_cases h : b.f0 = id
  · rw [if_pos h, if_neg (by simp [h, hm])]
  · rw [if_neg h, if_pos (.inr (.inr (.inl h)))]
theorem enc_bytes (n : Int) : FpP.Bytes (enc n) := enc_byte n
theorem bytesOf_bytes (s : ByteArray) : FpP.Bytes (bytesOf s) := by
  intro b hb
  unfold bytesOf at hb
  obtain ⟨x, _, rfl⟩ := List.mem_map.1 hb
  have := x.toNat_lt
  omega
theorem bytes_app {a b : List Int} (h1 : FpP.Bytes a) (h2 : FpP.Bytes b) : FpP.Bytes (a ++ b) := fun x hx => (List.mem_append.1 hx).elim (h1 x) (h2 x)
theorem encT_bytes (s : ByteArray) : FpP.Bytes (FmN.encT s) := bytes_app (enc_bytes _) (bytesOf_bytes s)
theorem encNs_bytes (l : List Int) : FpP.Bytes (encNs l) := by
  intro b hb
  obtain ⟨x, _, hx⟩ := List.mem_flatMap.1 hb
  exact enc_bytes _ b hx
theorem encTs_bytes (l : List ByteArray) : FpP.Bytes (l.flatMap FmN.encT) := by
  intro b hb
  obtain ⟨x, _, hx⟩ := List.mem_flatMap.1 hb
  exact encT_bytes _ b hx
theorem keysE_bytes : ∀ (l : List Int) (was : Int), FpP.Bytes (keysE was l)
  | [], _ => by simp [keysE, FpP.Bytes]
  | a :: r, was => by rw [keysE]; exact bytes_app (enc_bytes _) (keysE_bytes r a)
theorem encM_bytes (m : S35) (last : Int) : FpP.Bytes (encM m last) := bytes_app (bytes_app (bytes_app (encNs_bytes _) (keysE_bytes _ _)) (encT_bytes _)) (encT_bytes _)
theorem encMs_bytes : ∀ (l : List S35) (last : Int), FpP.Bytes (encMs last l)
  | [], _ => by simp [encMs, FpP.Bytes]
  | a :: r, last => by rw [encMs]; exact bytes_app (encM_bytes a last) (encMs_bytes r a.f0)
theorem boxE_bytes (b : BoxV) : FpP.Bytes (boxE b) := bytes_app (bytes_app (bytes_app (bytes_app (bytes_app (encNs_bytes _) (encT_bytes _)) (encNs_bytes _)) (encTs_bytes _)) (encNs_bytes _)) (encMs_bytes _ _)
theorem all_bytes (b : BoxV) : FpP.Bytes ([77, 66, 51] ++ boxE b) := bytes_app (by intro x hx; simp at hx; omega) (boxE_bytes b)
theorem all_len {b : BoxV} (hm : FpQ.May b) : ([77, 66, 51] ++ boxE b).length ≤ 600000 := by
  have hb := may_bulk hm
  have h1 := headE_le b.f0 b.f1 b.f2 b.f3 b.f4 b.f5
  have h2 := encMs_len b.f5 0
  rw [← boxE_all, List.length_append]
  unfold bulk at hb
  omega
end Go.Proofs.Ytjlabkibpknkpaa.FpX
