-- Printed by prune.py: the used part of a text.
import Derived.Test.YtplfpbfmnogckaaDoorZTdW
import Derived.Test.YtplfpbfmnogckaaDoorZOp
namespace Go.Proofs.YtplfpbfmnogckaaDoor.TdR
open Go.RowKit Go.Proofs.YtplfpbfmnogckaaDoorW.PrintWords Go.Proofs.YtplfpbfmnogckaaDoorW.PrintLast Go.Proofs.YtplfpbfmnogckaaDoorW.PrintMore Go.Proofs.YtplfpbfmnogckaaDoor.TdG Go.Proofs.YtplfpbfmnogckaaDoor.TdM Go.Proofs.YtplfpbfmnogckaaDoor.TdP Go.Proofs.YtplfpbfmnogckaaDoor.ItT
set_option linter.unusedVariables false
set_option linter.unusedSimpArgs false
abbrev MsgT := Int × Int × Int × ByteArray × Int × List Int × ByteArray
abbrev BoxT := ByteArray × Int × Int × Int × List ByteArray × List MsgT
def msgD : Kd MsgT := Kd.pair (Kd.int .i64) (Kd.pair (Kd.int .i64) (Kd.pair (Kd.int .i64) (Kd.pair Kd.string (Kd.pair (Kd.int .i64) (Kd.pair (Kd.slice 3 (Kd.int .i64)) Kd.string)))))
def boxD : Kd BoxT := Kd.pair Kd.string (Kd.pair (Kd.int .i64) (Kd.pair (Kd.int .i64) (Kd.pair (Kd.int .i64) (Kd.pair (Kd.slice 9 Kd.string) (Kd.slice 34 msgD)))))
def mkM (x : MsgT) : S34 := ⟨x.1, x.2.1, x.2.2.1, x.2.2.2.1, x.2.2.2.2.1, x.2.2.2.2.2.1, x.2.2.2.2.2.2⟩
def okI (n : Int) : Prop := (Lit.int .i64 n).wf = true
def okS (s : ByteArray) : Prop := s.size ≤ 140737488351232
def okM (x : MsgT) : Prop := okI x.1 ∧ okI x.2.1 ∧ okI x.2.2.1 ∧ okS x.2.2.2.1 ∧ okI x.2.2.2.2.1 ∧ (x.2.2.2.2.2.1.length * 8 ≤ 140737488351232 ∧ ∀ k ∈ x.2.2.2.2.2.1, okI k) ∧ okS x.2.2.2.2.2.2
def okB (x : BoxT) : Prop := okS x.1 ∧ okI x.2.1 ∧ okI x.2.2.1 ∧ okI x.2.2.2.1 ∧ (x.2.2.2.2.1.length * 16 ≤ 140737488351232 ∧ ∀ s ∈ x.2.2.2.2.1, okS s) ∧ (x.2.2.2.2.2.length * 88 ≤ 140737488351232 ∧ ∀ m ∈ x.2.2.2.2.2, okM m)
theorem C_map {w : World} {A : Option Addr} {n : Nat} {l : List MsgT} (h : Kd.C msgD w A n l) : Kd.C k34 w A n (l.map mkM) := by
  obtain ⟨h1, h2, h3⟩ := h
  refine ⟨by simpa using h1, h2, fun hp => ?_⟩
  obtain ⟨ad, e, h4⟩ := h3 hp
  refine ⟨ad, e, fun j p hj => ?_⟩
  rw [List.getElem?_map] at hj
  obtain ⟨q, hq, rfl⟩ := Option.map_eq_some_iff.1 hj
  obtain ⟨c, hc, hK, h5⟩ := h4 j q hq
  exact ⟨c, hc, hK, h5⟩
theorem int_open {w : World} {k : IntKind} {a : Int} {cs : List Value} (h : (Kd.int k).K w a cs) : cs = [.int k a] := h
theorem str_open {w : World} {a : ByteArray} {cs : List Value} (h : Kd.string.K w a cs) : cs = [.string a] := h
theorem box_open {w : World} {cs : Array Value} {x : BoxT} (h : boxD.K w x cs.toList) : ∃ A4 c4 A5 c5, cs = #[.string x.1, .int .i64 x.2.1, .int .i64 x.2.2.1, .int .i64 x.2.2.2.1, .slice A4 x.2.2.2.2.1.length c4, .slice A5 (x.2.2.2.2.2.map mkM).length c5] ∧
    Kd.C Kd.string w A4 x.2.2.2.2.1.length x.2.2.2.2.1 ∧ x.2.2.2.2.1.length ≤ c4 ∧ Kd.C k34 w A5 (x.2.2.2.2.2.map mkM).length (x.2.2.2.2.2.map mkM) ∧ (x.2.2.2.2.2.map mkM).length ≤ c5 := by
  obtain ⟨u0, v0, e0, k0, u1, v1, e1, k1, u2, v2, e2, k2, u3, v3, e3, k3, u4, v4, e4, ⟨A4, c4, e5, h4, C4⟩, ⟨A5, c5, e6, h5, C5⟩⟩ := h
  rw [str_open k0, e1, int_open k1, e2, int_open k2, e3, int_open k3, e4, e5, e6] at e0
  refine ⟨A4, c4, A5, c5, ?_, C4, h4, by simpa using C_map C5, by simpa using h5⟩
  rw [List.length_map]
  apply Array.toList_inj.1
  simpa using e0
theorem wt_ok {x : MsgT} (h : okM x) : wt (mkM x) ≤ 422212465065984 := by
  obtain ⟨_, _, _, h3, _, ⟨h5, _⟩, h6⟩ := h
  unfold okS at h3 h6
  show x.2.2.2.2.2.1.length + x.2.2.2.2.2.2.size + x.2.2.2.1.size ≤ _
  omega
theorem i64_of {b : Int} (h : (Lit.int .i64 b).wf = true) : -9223372036854775808 ≤ b ∧ b ≤ 9223372036854775807 := by
  have h1 : IntKind.i64.min = -9223372036854775808 := rfl
  have h2 : IntKind.i64.max = 9223372036854775807 := rfl
  simp [Lit.wf, h1, h2] at h
  exact h
def MsgI (m : S34) : Prop := (-9223372036854775808 ≤ m.f0 ∧ m.f0 ≤ 9223372036854775807) ∧ (-9223372036854775808 ≤ m.f1 ∧ m.f1 ≤ 9223372036854775807) ∧ (-9223372036854775808 ≤ m.f2 ∧ m.f2 ≤ 9223372036854775807)
theorem msgI_ok {x : MsgT} (h : okM x) : MsgI (mkM x) := by
  obtain ⟨h0, h1, h2, _⟩ := h
  exact ⟨i64_of h0, i64_of h1, i64_of h2⟩
structure BoxIn (w : World) (a0 : ByteArray) (aA4 : Option Addr) (ac4 : Nat) (aw : List ByteArray) (aA5 : Option Addr) (ac5 : Nat) (am : List S34) : Prop where
  C4 : Kd.C Kd.string w aA4 aw.length aw
  c4 : aw.length ≤ ac4
  C5 : Kd.C k34 w aA5 am.length am
  c5 : am.length ≤ ac5
  h0 : a0.size ≤ 140737488355328
  hs : ∀ s ∈ aw, s.size ≤ 140737488355328
  hw : ∀ m ∈ am, wt m ≤ 422212465065984
  hi : ∀ m ∈ am, MsgI m
  l4 : aw.length ≤ 140737488355328
  l5 : am.length ≤ 140737488355328
theorem BoxIn.of {w : World} {x : BoxT} {A4 : Option Addr} {c4 : Nat} {A5 : Option Addr} {c5 : Nat} (hok : okB x) (C4 : Kd.C Kd.string w A4 x.2.2.2.2.1.length x.2.2.2.2.1) (h4 : x.2.2.2.2.1.length ≤ c4) (C5 : Kd.C k34 w A5 (x.2.2.2.2.2.map mkM).length (x.2.2.2.2.2.map mkM)) (h5 : (x.2.2.2.2.2.map mkM).length ≤ c5) :
    BoxIn w x.1 A4 c4 x.2.2.2.2.1 A5 c5 (x.2.2.2.2.2.map mkM) := by
  obtain ⟨o0, _, _, _, ⟨o4, o4'⟩, ⟨o5, o5'⟩⟩ := hok
  exact ⟨C4, h4, C5, h5, by unfold okS at o0; omega, fun s hs => by have := o4' s hs; unfold okS at this; omega, fun m hm => by
    obtain ⟨q, hq, rfl⟩ := List.mem_map.1 hm
    exact wt_ok (o5' q hq), fun m hm => by
    obtain ⟨q, hq, rfl⟩ := List.mem_map.1 hm
    exact msgI_ok (o5' q hq), by omega, by rw [List.length_map]; omega⟩
structure BoxLight (aw : List ByteArray) (am : List S34) : Prop where
  n4 : aw.length ≤ 100
  n5 : am.length ≤ 100
  ms : ∀ m ∈ am, MsgOk aw m
  w6 : ∀ m ∈ am, wt m ≤ 60000
  s6 : ∀ s ∈ aw, s.size ≤ 60000
theorem BoxIn.light {w : World} {a0 : ByteArray} {aA4 : Option Addr} {ac4 : Nat} {aw : List ByteArray} {aA5 : Option Addr} {ac5 : Nat} {am : List S34} (h : BoxIn w a0 aA4 ac4 aw aA5 ac5 am) (hh : heavyR (bulk a0 aw am) aw.length am.length = 0) : BoxLight aw am := by
  have hb := TdP.light h.h0 h.hs h.hw hh
  have h2 : sumW aw ≤ 60000 := by have := hb.1; unfold bulk at this; omega
  have hw6 : ∀ m ∈ am, wt m ≤ 60000 := fun m hm => by have := mem_sumM am m hm; have := hb.1; unfold bulk at this; omega
  refine ⟨hb.2.1, hb.2.2, fun m hm => ?_, hw6, fun s hs => by have := mem_sumW aw s hs; omega⟩
  obtain ⟨i0, i1, i2⟩ := h.hi m hm
  have hw := hw6 m hm
  unfold wt at hw
  exact ⟨i0, i1, i2, by omega, by omega, by omega, h2⟩
theorem BoxIn.heavy {w : World} {a0 : ByteArray} {aA4 : Option Addr} {ac4 : Nat} {aw : List ByteArray} {aA5 : Option Addr} {ac5 : Nat} {am : List S34} (h : BoxIn w a0 aA4 ac4 aw aA5 ac5 am) (a1 a2 a3 : Int) (W : World) (hW : Below w.heap.size w W) :
    Calls Tryd.prog 12 #[.agg #[.string a0, .int .i64 a1, .int .i64 a2, .int .i64 a3, .slice aA4 aw.length ac4, .slice aA5 am.length ac5]] W fun e w' => e = .returned (.int .i64 (heavyR (bulk a0 aw am) aw.length am.length)) ∧ Below W.heap.size W w' := by
  obtain ⟨k, hk⟩ := (heavy_ev a0 a1 a2 a3 aw am h.l5 h.l4).get
  exact (mailsacklaw6_Heavy.calls k a0 a1 a2 a3 aA4 ac4 aw aA5 ac5 am _ W (Kd.C_below h.C4 hW) h.c4 (Kd.C_below h.C5 hW) h.c5 hk)
end Go.Proofs.YtplfpbfmnogckaaDoor.TdR
