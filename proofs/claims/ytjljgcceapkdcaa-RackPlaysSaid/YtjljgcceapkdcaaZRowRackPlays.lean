/- The statement RackPlays: out of the contract of the law's own function. -/
import Derived.Test.YtjljgcceapkdcaaRows
import Derived.Test.YtjljgcceapkdcaaZQ2
import Derived.Test.YtjljgcceapkdcaaZQ26
import Derived.WalkKit
import Derived.ProofKit
import Derived.OpenShut
import Derived.ShutString
import Derived.ChangeOld
import Derived.Below
import Derived.SizedLaws
namespace Go.Proofs.Ytjljgcceapkdcaa.rackPlays
open Go.ChangeShapes Go.WideShapes Go.ChangeAt Go.RowKit Go.Proofs.YtjljgcceapkdcaaW.PrintWords
open Go.ChangeMaps (open_string shut_string)
set_option linter.unusedVariables false
theorem own : ownKnob Try.prog.godebug = none := by kernel_rfl
theorem laidOut : laidOutB Try.prog = true := by kernel_rfl
set_option maxRecDepth 100000 in
theorem lifted (os : Os) (started : os.Started) (H : Type) (enc : TypeId × Value → H) :
    ReturnsInHanded {} Try.checked os 6 .any (Rows.rackPlaysSpec.pre6 enc Try.prog Try.f6 Rows.rackPlaysRow.domain false) (Rows.rackPlaysSpec.post enc Try.prog Try.f6 false true false false) := by
  refine returnsInHanded_of_change_sized (C := Try.checked) own started (by kernel_rfl) Try.func6
    (ChangeSpec.witness6 (enc := enc) (C := Try.checked) false ⟨#[], #[.int .i64 0, .slice none 0 0], []⟩ 8 (by kernel_rfl) (by kernel_rfl) (by kernel_rfl) (by kernel_rfl)) ?_
  intro W base args ds gs before hval0 hW hcnd hsz0 _
  have hsz : (DataW.weightsEach Try.prog (Try.f6.params.toList ++ Rows.rackPlaysSpec.plain.varTypes Try.prog) (ds ++ gs)).all (· ≤ reachBytes) = true := hsz0
  have hval : ∀ (j : Nat) t v, Try.f6.params[j]? = some t → args[j]? = some v → Value.okWide Try.prog W .any base t v := hval0
  have hW' := hW
  obtain ⟨p, q, hA0, hV, rfl, hfz, hnd⟩ := hW
  have hA : DataW.TrodAll enc Try.prog W 0 (fun _ => true) true Try.f6.params.toList args.toList ds p := hA0
  rw [Try.params6] at hA hval hsz
  obtain ⟨v0, vs0, d0, ds0, p0, q0, hargs, rfl, rfl, h0, r0⟩ := trodAll_cons hA
  obtain ⟨v1, vs1, d1, ds1, p1, q1, rfl, rfl, rfl, h1, r1⟩ := trodAll_cons r0
  obtain ⟨rfl, rfl, rfl⟩ := trodAll_nil r1
  obtain rfl : args = #[v0, v1] := by cases args; simp_all
  obtain ⟨rfl, rfl⟩ := trodVars_none hV
  obtain ⟨a0, rfl, rfl, rfl, w0⟩ := open_int Try.underlying3 (hval 0 3 v0 rfl rfl) h0
  obtain ⟨a1, len1, cap1, rfl⟩ := okWide_slice Try.underlying42 (hval 1 42 v1 rfl rfl)
  have k1 := h1
  have lt1 : ∀ x ∈ p1, x.block < W.heap.size := by obtain ⟨m, hm⟩ := k1; exact DataW.trod_lt m _ _ _ hm
  obtain ⟨l1, ⟨A1, c1, hcs1, hl1, hC1⟩, ok1⟩ := Op.open_arg (Op.opens_slice Try.underlying42 (Op.opens_struct Try.underlying45 (Op.opensF_cons rfl (Op.opens_int Try.underlying3) (by kernel_rfl) (Op.opensF_cons rfl (Op.opens_int Try.underlying3) (by kernel_rfl) (Op.opensF_cons rfl (Op.opens_string Try.underlying9) (by kernel_rfl) (Op.opensF_cons rfl (Op.opens_slice Try.underlying23 (Op.opens_int Try.underlying5) (by kernel_rfl) rfl) (by kernel_rfl) (Op.opensF_one rfl (Op.opens_slice Try.underlying23 (Op.opens_int Try.underlying5) (by kernel_rfl) rfl) (by kernel_rfl)))))) (by kernel_rfl)) (by kernel_rfl) rfl) h1 hsz 1 rfl rfl
  simp [Value.cells] at hcs1
  obtain ⟨rfl, rfl, rfl⟩ := hcs1
  clear hA0 hval0 hsz0 hsz
  refine (RpN.rackPlays_open a0 a1 cap1 l1 W hl1 hC1 (fun x hx b hb => Op.byte_of ((ok1.2 x hx).2.2.2.1.2 b hb)) (fun x hx b hb => Op.byte_of ((ok1.2 x hx).2.2.2.2.2 b hb)) (fun x hx => by have h := (ok1.2 x hx).2.1; have h1 : IntKind.i64.min = -9223372036854775808 := rfl; have h2 : IntKind.i64.max = 9223372036854775807 := rfl; simp [Lit.wf, h1, h2] at h; omega) (fun x hx => Nat.le_trans (ok1.2 x hx).2.2.1 (by decide)) (Nat.le_trans (Nat.le_mul_of_pos_right _ (by decide)) (Nat.le_trans ok1.1 (by decide)))).mono fun e W' ⟨he, bel⟩ => ?_
  subst he
  exact ⟨_, rfl, _, _, _, [], _, [], hW', trodAll_mk1 (shut_bool Try.underlying4 _), (trodAll_cons_mk (shut_int Try.underlying3 w0) (trodAll_cons_mk (Below.trod laidOut (by kernel_rfl) (of_decide_eq_true (by kernel_rfl)) k1 bel lt1) trodAll_mk0)), rfl, bel.frame _, fun h => by cases h⟩
theorem over : Rows.rackPlaysRow.holds Try.pinned (OpenSpec.ofChange Rows.rackPlaysSpec) :=
  OpenClaim.holds_of_wide 6 Try.f6 rfl rfl rfl rfl rfl rfl rfl ⟨rfl, rfl, rfl, rfl, rfl⟩ rfl rfl rfl rfl rfl (by kernel_rfl) Try.func6 (by kernel_rfl)
    (of_decide_eq_true (by kernel_rfl)) (by unfold Func.isWrapper; first | (rw [if_pos (by decide +kernel)]; kernel_rfl) | (rw [if_neg (by decide +kernel)]; exact ⟨rfl, rfl⟩))
    (fun os started H enc _ => lifted os started H enc)
theorem proved : Rows.RackPlaysSaid := over
#print axioms proved
end Go.Proofs.Ytjljgcceapkdcaa.rackPlays
namespace Go.Proofs.Ytjljgcceapkdcaa
theorem rackPlays_holds : Rows.RackPlaysSaid := rackPlays.proved
end Go.Proofs.Ytjljgcceapkdcaa
