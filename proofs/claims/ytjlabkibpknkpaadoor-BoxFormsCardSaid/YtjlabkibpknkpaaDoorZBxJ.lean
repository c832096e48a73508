-- Printed by prune.py: the used part of a text.
import Derived.Test.YtjlabkibpknkpaaDoorZBxI
import Derived.Test.YtjlabkibpknkpaaDoorZOp
namespace Go.Proofs.YtjlabkibpknkpaaDoor.BxJ
open Go.RowKit Go.Proofs.YtjlabkibpknkpaaDoorW.PrintWords Go.Proofs.YtjlabkibpknkpaaDoorW.PrintLast Go.Proofs.YtjlabkibpknkpaaDoorW.PrintMore Go.Proofs.YtjlabkibpknkpaaDoor.FmM Go.Proofs.YtjlabkibpknkpaaDoor.FmN Go.Proofs.YtjlabkibpknkpaaDoor.FmC Go.Proofs.YtjlabkibpknkpaaDoor.BxF Go.Proofs.YtjlabkibpknkpaaDoor.BxR
set_option linter.unusedVariables false
set_option linter.unusedSimpArgs false
theorem i64_of {b : Int} (h : (Lit.int .i64 b).wf = true) : -9223372036854775808 ≤ b ∧ b ≤ 9223372036854775807 := by
  have h1 : IntKind.i64.min = -9223372036854775808 := rfl
  have h2 : IntKind.i64.max = 9223372036854775807 := rfl
  simp [Lit.wf, h1, h2] at h
  exact h
theorem msg_open {w : World} {cs : Array Value} {x : MsgT} (h : msgD.K w x cs.toList) : ∃ A6 c6, cs = #[.int .i64 (mkM x).f0, .int .i64 (mkM x).f1, .int .i64 (mkM x).f2, .string (mkM x).f3, .int .i64 (mkM x).f4, .slice A6 (mkM x).f5.length c6, .string (mkM x).f6] ∧ Kd.C (Kd.int .i64) w A6 (mkM x).f5.length (mkM x).f5 ∧ (mkM x).f5.length ≤ c6 := by
  obtain ⟨A5, c5, e, hl, hC⟩ := k31_open (x := mkM x) h
  exact ⟨A5, c5, Array.toList_inj.1 (by simpa using e), hC, hl⟩
theorem boxForms_open (x y : BoxT) (z : MsgT) (cs ct cu : Array Value) (u : Int) (id : ByteArray) (w : World) (ht : Tab w) (hK : boxD.K w x cs.toList) (hok : okB x) (hL : boxD.K w y ct.toList) (hoy : okB y) (hM : msgD.K w z cu.toList) (hoz : okM z) (hu : (Lit.int .i64 u).wf = true) (hid : id.size ≤ 140737488355328) :
    Calls Tryd.prog 8 #[.agg cs, .agg ct, .agg cu, .int .i64 u, .string id] w fun e w' => e = .returned (.bool true) ∧ Below w.heap.size w w' := by
  obtain ⟨A4, c4, A5, c5, rfl, C4, h4, C5, h5⟩ := box_open hK
  obtain ⟨B4, d4, B5, d5, rfl, D4, g4, D5, g5⟩ := box_open hL
  obtain ⟨A6, c6, rfl, C6, h6⟩ := msg_open hM
  obtain ⟨o0, _, _, _, ⟨o4, o4'⟩, ⟨o5, o5'⟩⟩ := hok
  obtain ⟨p0, _, _, _, ⟨p4, p4'⟩, ⟨p5, p5'⟩⟩ := hoy
  have hu2 := i64_of hu
  have W1 : ∀ m ∈ x.2.2.2.2.2.map mkM, wt m ≤ 422212465065984 := fun m hm => by
    obtain ⟨q, hq, rfl⟩ := List.mem_map.1 hm
    exact wt_ok (o5' q hq)
  have W2 : ∀ m ∈ y.2.2.2.2.2.map mkM, wt m ≤ 422212465065984 := fun m hm => by
    obtain ⟨q, hq, rfl⟩ := List.mem_map.1 hm
    exact wt_ok (p5' q hq)
  exact BxI.boxForms_calls x.1 x.2.1 x.2.2.1 x.2.2.2.1 A4 c4 _ A5 c5 _ y.1 y.2.1 y.2.2.1 y.2.2.2.1 B4 d4 _ B5 d5 _ (mkM z) A6 c6 u id w ht C4 h4 C5 h5 D4 g4 D5 g5 C6 h6
    (by unfold okS at o0; omega) (fun s hs => by have := o4' s hs; unfold okS at this; omega) W1 (by omega) (by rw [List.length_map]; omega)
    (by unfold okS at p0; omega) (fun s hs => by have := p4' s hs; unfold okS at this; omega) W2 (by omega) (by rw [List.length_map]; omega)
    (wt_ok hoz) hu2.1 hu2.2 hid
end Go.Proofs.YtjlabkibpknkpaaDoor.BxJ
