-- Printed by prune.py: the used part of a text.
import Derived.Test.YtjlabkibpknkpaaDoorZBxA
namespace Go.Proofs.YtjlabkibpknkpaaDoor.BxR
open Go.RowKit Go.Proofs.YtjlabkibpknkpaaDoorW.PrintWords Go.Proofs.YtjlabkibpknkpaaDoorW.PrintLast Go.Proofs.YtjlabkibpknkpaaDoorW.PrintMore Go.Proofs.YtjlabkibpknkpaaDoor.FmM Go.Proofs.YtjlabkibpknkpaaDoor.FmN Go.Proofs.YtjlabkibpknkpaaDoor.FmC
set_option linter.unusedVariables false
set_option linter.unusedSimpArgs false
abbrev MsgT := Int × Int × Int × ByteArray × Int × List Int × ByteArray
abbrev BoxT := ByteArray × Int × Int × Int × List ByteArray × List MsgT
def msgD : Kd MsgT := Kd.pair (Kd.int .i64) (Kd.pair (Kd.int .i64) (Kd.pair (Kd.int .i64) (Kd.pair Kd.string (Kd.pair (Kd.int .i64) (Kd.pair (Kd.slice 3 (Kd.int .i64)) Kd.string)))))
def boxD : Kd BoxT := Kd.pair Kd.string (Kd.pair (Kd.int .i64) (Kd.pair (Kd.int .i64) (Kd.pair (Kd.int .i64) (Kd.pair (Kd.slice 9 Kd.string) (Kd.slice 31 msgD)))))
def mkM (x : MsgT) : S31 := ⟨x.1, x.2.1, x.2.2.1, x.2.2.2.1, x.2.2.2.2.1, x.2.2.2.2.2.1, x.2.2.2.2.2.2⟩
def okI (n : Int) : Prop := (Lit.int .i64 n).wf = true
def okS (s : ByteArray) : Prop := s.size ≤ 140737488351232
def okM (x : MsgT) : Prop := okI x.1 ∧ okI x.2.1 ∧ okI x.2.2.1 ∧ okS x.2.2.2.1 ∧ okI x.2.2.2.2.1 ∧ (x.2.2.2.2.2.1.length * 8 ≤ 140737488351232 ∧ ∀ k ∈ x.2.2.2.2.2.1, okI k) ∧ okS x.2.2.2.2.2.2
def okB (x : BoxT) : Prop := okS x.1 ∧ okI x.2.1 ∧ okI x.2.2.1 ∧ okI x.2.2.2.1 ∧ (x.2.2.2.2.1.length * 16 ≤ 140737488351232 ∧ ∀ s ∈ x.2.2.2.2.1, okS s) ∧ (x.2.2.2.2.2.length * 88 ≤ 140737488351232 ∧ ∀ m ∈ x.2.2.2.2.2, okM m)
theorem C_map {w : World} {A : Option Addr} {n : Nat} {l : List MsgT} (h : Kd.C msgD w A n l) : Kd.C k31 w A n (l.map mkM) := by
  obtain ⟨h1, h2, h3⟩ := h
  refine ⟨by simpa using h1, h2, fun hp => ?_⟩
  obtain ⟨ad, e, h4⟩ := h3 hp
  refine ⟨ad, e, fun j p hj => ?_⟩
  rw [List.getElem?_map] at hj
  obtain ⟨q, hq, rfl⟩ := Option.map_eq_some_iff.1 hj
  obtain ⟨c, hc, hK, h5⟩ := h4 j q hq
  exact ⟨c, hc, hK, h5⟩
theorem int_open {w : World} {k : IntKind} {a : Int} {cs : List Value} (h : (Kd.int k).K w a cs) : cs = [.int k a] := h
theorem str_open {w : World} {a : ByteArray} {cs : List Value} (h : Kd.string.K w a cs) : cs = [.string a] := h
theorem box_open {w : World} {cs : Array Value} {x : BoxT} (h : boxD.K w x cs.toList) : ∃ A4 c4 A5 c5, cs = #[.string x.1, .int .i64 x.2.1, .int .i64 x.2.2.1, .int .i64 x.2.2.2.1, .slice A4 x.2.2.2.2.1.length c4, .slice A5 (x.2.2.2.2.2.map mkM).length c5] ∧
    Kd.C Kd.string w A4 x.2.2.2.2.1.length x.2.2.2.2.1 ∧ x.2.2.2.2.1.length ≤ c4 ∧ Kd.C k31 w A5 (x.2.2.2.2.2.map mkM).length (x.2.2.2.2.2.map mkM) ∧ (x.2.2.2.2.2.map mkM).length ≤ c5 := by
  obtain ⟨u0, v0, e0, k0, u1, v1, e1, k1, u2, v2, e2, k2, u3, v3, e3, k3, u4, v4, e4, ⟨A4, c4, e5, h4, C4⟩, ⟨A5, c5, e6, h5, C5⟩⟩ := h
  rw [str_open k0, e1, int_open k1, e2, int_open k2, e3, int_open k3, e4, e5, e6] at e0
  refine ⟨A4, c4, A5, c5, ?_, C4, h4, by simpa using C_map C5, by simpa using h5⟩
  rw [List.length_map]
  apply Array.toList_inj.1
  simpa using e0
theorem wt_ok {x : MsgT} (h : okM x) : wt (mkM x) ≤ 422212465065984 := by
  obtain ⟨_, _, _, h3, _, ⟨h5, _⟩, h6⟩ := h
  unfold okS at h3 h6
  show x.2.2.2.2.2.1.length + x.2.2.2.2.2.2.size + x.2.2.2.1.size ≤ _
  omega
end Go.Proofs.YtjlabkibpknkpaaDoor.BxR
