/- The statement Form3Back: out of the contract of the law's own function. -/
import Derived.Test.YtjlabkibpknkpaaRows
import Derived.Test.YtjlabkibpknkpaaZOp
import Derived.Test.YtjlabkibpknkpaaZFpY
import Derived.WalkKit
import Derived.ProofKit
import Derived.OpenShut
import Derived.ShutString
import Derived.ChangeOld
import Derived.Below
import Derived.SizedLaws
namespace Go.Proofs.Ytjlabkibpknkpaa.form3Back
open Go.ChangeShapes Go.WideShapes Go.ChangeAt Go.RowKit Go.Proofs.YtjlabkibpknkpaaW.PrintWords
open Go.ChangeMaps (open_string shut_string)
set_option linter.unusedVariables false
theorem own : ownKnob Try.prog.godebug = none := by kernel_rfl
theorem laidOut : laidOutB Try.prog = true := by kernel_rfl
set_option maxRecDepth 100000 in
theorem lifted (os : Os) (started : os.Started) (H : Type) (enc : TypeId × Value → H) :
    ReturnsInHanded {} Try.checked os 4 .any (Rows.form3BackSpec.pre6 enc Try.prog Try.f4 Rows.form3BackRow.domain false) (Rows.form3BackSpec.post enc Try.prog Try.f4 false true false false) := by
  refine returnsInHanded_of_change_sized (C := Try.checked) own started (by kernel_rfl) Try.func4
    (ChangeSpec.witness6 (enc := enc) (C := Try.checked) false ⟨#[], #[.agg #[.string ByteArray.empty, .int .i64 0, .int .i64 0, .int .i64 0, .slice none 0 0, .slice none 0 0], .agg #[.string ByteArray.empty, .int .i64 0, .int .i64 0, .int .i64 0, .slice none 0 0, .slice none 0 0]], []⟩ 8 (by kernel_rfl) (by kernel_rfl) (by kernel_rfl) (by kernel_rfl)) ?_
  intro W base args ds gs before hval0 hW hcnd hsz0 _
  have hsz : (DataW.weightsEach Try.prog (Try.f4.params.toList ++ Rows.form3BackSpec.plain.varTypes Try.prog) (ds ++ gs)).all (· ≤ reachBytes) = true := hsz0
  have hval : ∀ (j : Nat) t v, Try.f4.params[j]? = some t → args[j]? = some v → Value.okWide Try.prog W .any base t v := hval0
  have hW' := hW
  obtain ⟨p, q, hA0, hV, rfl, hfz, hnd⟩ := hW
  have hA : DataW.TrodAll enc Try.prog W 0 (fun _ => true) true Try.f4.params.toList args.toList ds p := hA0
  rw [Try.params4] at hA hval hsz
  obtain ⟨v0, vs0, d0, ds0, p0, q0, hargs, rfl, rfl, h0, r0⟩ := trodAll_cons hA
  obtain ⟨v1, vs1, d1, ds1, p1, q1, rfl, rfl, rfl, h1, r1⟩ := trodAll_cons r0
  obtain ⟨rfl, rfl, rfl⟩ := trodAll_nil r1
  obtain rfl : args = #[v0, v1] := by cases args; simp_all
  obtain ⟨rfl, rfl⟩ := trodVars_none hV
  have k0 := h0
  have lt0 : ∀ x ∈ p0, x.block < W.heap.size := by obtain ⟨m, hm⟩ := k0; exact DataW.trod_lt m _ _ _ hm
  obtain ⟨cs0, rfl, _⟩ := okWide_struct Try.underlying25 (hval 0 25 v0 rfl rfl)
  obtain ⟨x0, hK0, ok0⟩ := Op.open_arg (Op.opens_struct Try.underlying25 (Op.opensF_cons rfl (Op.opens_string Try.underlying9) (by kernel_rfl) (Op.opensF_cons rfl (Op.opens_int Try.underlying3) (by kernel_rfl) (Op.opensF_cons rfl (Op.opens_int Try.underlying3) (by kernel_rfl) (Op.opensF_cons rfl (Op.opens_int Try.underlying3) (by kernel_rfl) (Op.opensF_cons rfl (Op.opens_slice Try.underlying22 (Op.opens_string Try.underlying9) (by kernel_rfl) rfl) (by kernel_rfl) (Op.opensF_one rfl (Op.opens_slice Try.underlying23 (Op.opens_struct Try.underlying35 (Op.opensF_cons rfl (Op.opens_int Try.underlying3) (by kernel_rfl) (Op.opensF_cons rfl (Op.opens_int Try.underlying3) (by kernel_rfl) (Op.opensF_cons rfl (Op.opens_int Try.underlying3) (by kernel_rfl) (Op.opensF_cons rfl (Op.opens_string Try.underlying9) (by kernel_rfl) (Op.opensF_cons rfl (Op.opens_int Try.underlying3) (by kernel_rfl) (Op.opensF_cons rfl (Op.opens_slice Try.underlying33 (Op.opens_int Try.underlying3) (by kernel_rfl) rfl) (by kernel_rfl) (Op.opensF_one rfl (Op.opens_string Try.underlying9) (by kernel_rfl)))))))) (by kernel_rfl)) (by kernel_rfl) rfl) (by kernel_rfl))))))) (by kernel_rfl)) h0 hsz 0 rfl rfl
  have k1 := h1
  have lt1 : ∀ x ∈ p1, x.block < W.heap.size := by obtain ⟨m, hm⟩ := k1; exact DataW.trod_lt m _ _ _ hm
  obtain ⟨cs1, rfl, _⟩ := okWide_struct Try.underlying25 (hval 1 25 v1 rfl rfl)
  obtain ⟨x1, hK1, ok1⟩ := Op.open_arg (Op.opens_struct Try.underlying25 (Op.opensF_cons rfl (Op.opens_string Try.underlying9) (by kernel_rfl) (Op.opensF_cons rfl (Op.opens_int Try.underlying3) (by kernel_rfl) (Op.opensF_cons rfl (Op.opens_int Try.underlying3) (by kernel_rfl) (Op.opensF_cons rfl (Op.opens_int Try.underlying3) (by kernel_rfl) (Op.opensF_cons rfl (Op.opens_slice Try.underlying22 (Op.opens_string Try.underlying9) (by kernel_rfl) rfl) (by kernel_rfl) (Op.opensF_one rfl (Op.opens_slice Try.underlying23 (Op.opens_struct Try.underlying35 (Op.opensF_cons rfl (Op.opens_int Try.underlying3) (by kernel_rfl) (Op.opensF_cons rfl (Op.opens_int Try.underlying3) (by kernel_rfl) (Op.opensF_cons rfl (Op.opens_int Try.underlying3) (by kernel_rfl) (Op.opensF_cons rfl (Op.opens_string Try.underlying9) (by kernel_rfl) (Op.opensF_cons rfl (Op.opens_int Try.underlying3) (by kernel_rfl) (Op.opensF_cons rfl (Op.opens_slice Try.underlying33 (Op.opens_int Try.underlying3) (by kernel_rfl) rfl) (by kernel_rfl) (Op.opensF_one rfl (Op.opens_string Try.underlying9) (by kernel_rfl)))))))) (by kernel_rfl)) (by kernel_rfl) rfl) (by kernel_rfl))))))) (by kernel_rfl)) h1 hsz 1 rfl rfl
  clear hA0 hval0 hsz0 hsz
  refine (FpY.form3Back_open x0 x1 cs0 cs1 W hK0 ok0 hK1 ok1).mono fun e W' ⟨he, bel⟩ => ?_
  subst he
  exact ⟨_, rfl, _, _, _, [], _, [], hW', trodAll_mk1 (shut_bool Try.underlying4 _), (trodAll_cons_mk (Below.trod laidOut (by kernel_rfl) (of_decide_eq_true (by kernel_rfl)) k0 bel lt0) (trodAll_cons_mk (Below.trod laidOut (by kernel_rfl) (of_decide_eq_true (by kernel_rfl)) k1 bel lt1) trodAll_mk0)), rfl, bel.frame _, fun h => by cases h⟩
theorem over : Rows.form3BackRow.holds Try.pinned (OpenSpec.ofChange Rows.form3BackSpec) :=
  OpenClaim.holds_of_wide 4 Try.f4 rfl rfl rfl rfl rfl rfl rfl ⟨rfl, rfl, rfl, rfl, rfl⟩ rfl rfl rfl rfl rfl (by kernel_rfl) Try.func4 (by kernel_rfl)
    (of_decide_eq_true (by kernel_rfl)) (by unfold Func.isWrapper; first | (rw [if_pos (by decide +kernel)]; kernel_rfl) | (rw [if_neg (by decide +kernel)]; exact ⟨rfl, rfl⟩))
    (fun os started H enc _ => lifted os started H enc)
theorem proved : Rows.Form3BackSaid := over
#print axioms proved
end Go.Proofs.Ytjlabkibpknkpaa.form3Back
namespace Go.Proofs.Ytjlabkibpknkpaa
theorem form3Back_holds : Rows.Form3BackSaid := form3Back.proved
end Go.Proofs.Ytjlabkibpknkpaa
