-- Printed by prune.py: the used part of a text.
import Derived.Test.YtplfpbfmnogckaaDoorZShelf
import Derived.Test.YtplfpbfmnogckaaDoorProg
import Derived.Lib.AppendStr
import Derived.Lib.BufferMore
import Derived.Test.YtplfpbfmnogckaaDoorZWWords
import Derived.Test.YtplfpbfmnogckaaDoorZWLast
import Derived.Test.YtplfpbfmnogckaaDoorZWMore
namespace Go.Proofs.YtplfpbfmnogckaaDoor.TdG
open Go.RowKit Go.Proofs.YtplfpbfmnogckaaDoorW.PrintWords Go.Proofs.YtplfpbfmnogckaaDoorW.PrintLast Go.Proofs.YtplfpbfmnogckaaDoorW.PrintMore
set_option linter.unusedVariables false
set_option linter.unusedSimpArgs false
def strings_IndexByte.f (a0 : ByteArray) (a1 : Int) : Option Int := some (Lib.indexByte a0.data.toList a1.toNat.toUInt8)
theorem strings_IndexByte.calls (a0 : ByteArray) (a1 : Int) (r : Int) (w : World) (h : strings_IndexByte.f a0 a1 = some r) : Calls Tryd.prog 89 #[.string a0, .int .u8 a1] w fun e w' => e = .returned (.int .i64 r) ∧ Drawn0 w w' := by
  cases h
  refine (Tryd.strings_IndexByte a0 a1 w).mono ?_
  rintro e w' ⟨rfl, rfl⟩
  exact ⟨rfl, Drawn0.refl _⟩
def joinB (l : List ByteArray) (sep : ByteArray) : ByteArray := ⟨(Lib.join (l.map (·.data.toList)) sep.data.toList).toArray⟩
def strings_Join.f (l0 : List ByteArray) (a1 : ByteArray) : Option ByteArray := if l0.length ≤ 140737488355328 ∧ (Lib.join (l0.map (·.data.toList)) a1.data.toList).length ≤ 140737488355328 then some (joinB l0 a1) else none
theorem strings_Join.calls (A0 : Option Addr) (c0 : Nat) (l0 : List ByteArray) (a1 : ByteArray) (r : ByteArray) (w : World) (hr0 : Kd.C Kd.string w A0 l0.length l0) (hc0 : l0.length ≤ c0) (h : strings_Join.f l0 a1 = some r) :
    Calls Tryd.prog 55 #[.slice A0 l0.length c0, .string a1] w fun e w' => e = .returned (.string r) ∧ Below w.heap.size w w' := by
  unfold strings_Join.f at h
  split at h
  · rename_i hs
    cases h
    by_cases h0 : l0 = []
    · subst h0
      refine (Tryd.strings_Join_none A0 c0 a1 w).mono ?_
      rintro e w' ⟨rfl, rfl⟩
      exact ⟨rfl, Below.refl _ _⟩
    · have hpos : 0 < l0.length := List.length_pos_iff.2 h0
      have hr := Kd.reads_of_C (d := ByteArray.empty) hr0
      obtain ⟨ad, rfl, hc⟩ := hr.2.2 hpos
      obtain ⟨bk, o, sp⟩ := ad
      have hc0' := hc 0 hpos
      have hsp : sp = none := by
        cases sp with
        | none => rfl
        | some z => simp [World.cell?, Addr.add] at hc0'; split at hc0' <;> simp at hc0'
      subst hsp
      have hcell : ∀ (j : Nat) x, l0[j]? = some x → w.cell? ⟨bk, o + j, none⟩ = some (.string x) := by
        intro j x hj
        have hlt := (List.getElem?_eq_some_iff.1 hj).1
        have h1 := hc j hlt
        rw [List.getD_eq_getElem?_getD, hj] at h1
        by_cases hj0 : j = 0
        · subst hj0; simpa [Addr.add] using h1
        · simpa [Addr.add, hj0] using h1
      exact Tryd.strings_Join bk o c0 l0 a1 w hcell (World.block_lt_of_cell? _ _ hc0') hs.1 hc0 hs.2
  · cases h
end Go.Proofs.YtplfpbfmnogckaaDoor.TdG
