/- The statement SafeAll: out of the contract of the law's own function. -/
import Derived.Test.YtjljgcceapkdcaaRows
import Derived.Test.YtjljgcceapkdcaaZQ2
import Derived.Test.YtjljgcceapkdcaaZQ19
import Derived.WalkKit
import Derived.ProofKit
import Derived.OpenShut
import Derived.ShutString
import Derived.ChangeOld
import Derived.Below
import Derived.SizedLaws
namespace Go.Proofs.Ytjljgcceapkdcaa.safeAll
open Go.ChangeShapes Go.WideShapes Go.ChangeAt Go.RowKit Go.Proofs.YtjljgcceapkdcaaW.PrintWords
open Go.ChangeMaps (open_string shut_string)
set_option linter.unusedVariables false
theorem own : ownKnob Try.prog.godebug = none := by kernel_rfl
theorem laidOut : laidOutB Try.prog = true := by kernel_rfl
set_option maxRecDepth 100000 in
theorem lifted (os : Os) (started : os.Started) (H : Type) (enc : TypeId × Value → H) :
    ReturnsInHanded {} Try.checked os 11 .any (Rows.safeAllSpec.pre6 enc Try.prog Try.f11 Rows.safeAllRow.domain false) (Rows.safeAllSpec.post enc Try.prog Try.f11 false true false false) := by
  refine returnsInHanded_of_change_sized (C := Try.checked) own started (by kernel_rfl) Try.func11
    (ChangeSpec.witness6 (enc := enc) (C := Try.checked) false ⟨#[], #[.slice none 0 0, .slice none 0 0, .int .i64 0, .int .i64 0, .slice none 0 0, .slice none 0 0], []⟩ 8 (by kernel_rfl) (by kernel_rfl) (by kernel_rfl) (by kernel_rfl)) ?_
  intro W base args ds gs before hval0 hW hcnd hsz0 _
  have hsz : (DataW.weightsEach Try.prog (Try.f11.params.toList ++ Rows.safeAllSpec.plain.varTypes Try.prog) (ds ++ gs)).all (· ≤ reachBytes) = true := hsz0
  have hval : ∀ (j : Nat) t v, Try.f11.params[j]? = some t → args[j]? = some v → Value.okWide Try.prog W .any base t v := hval0
  have hW' := hW
  obtain ⟨p, q, hA0, hV, rfl, hfz, hnd⟩ := hW
  have hA : DataW.TrodAll enc Try.prog W 0 (fun _ => true) true Try.f11.params.toList args.toList ds p := hA0
  rw [Try.params11] at hA hval hsz
  obtain ⟨v0, vs0, d0, ds0, p0, q0, hargs, rfl, rfl, h0, r0⟩ := trodAll_cons hA
  obtain ⟨v1, vs1, d1, ds1, p1, q1, rfl, rfl, rfl, h1, r1⟩ := trodAll_cons r0
  obtain ⟨v2, vs2, d2, ds2, p2, q2, rfl, rfl, rfl, h2, r2⟩ := trodAll_cons r1
  obtain ⟨v3, vs3, d3, ds3, p3, q3, rfl, rfl, rfl, h3, r3⟩ := trodAll_cons r2
  obtain ⟨v4, vs4, d4, ds4, p4, q4, rfl, rfl, rfl, h4, r4⟩ := trodAll_cons r3
  obtain ⟨v5, vs5, d5, ds5, p5, q5, rfl, rfl, rfl, h5, r5⟩ := trodAll_cons r4
  obtain ⟨rfl, rfl, rfl⟩ := trodAll_nil r5
  obtain rfl : args = #[v0, v1, v2, v3, v4, v5] := by cases args; simp_all
  obtain ⟨rfl, rfl⟩ := trodVars_none hV
  obtain ⟨a0, len0, cap0, rfl⟩ := okWide_slice Try.underlying56 (hval 0 56 v0 rfl rfl)
  have k0 := h0
  have lt0 : ∀ x ∈ p0, x.block < W.heap.size := by obtain ⟨m, hm⟩ := k0; exact DataW.trod_lt m _ _ _ hm
  obtain ⟨l0, ⟨A0, c0, hcs0, hl0, hC0⟩, ok0⟩ := Op.open_arg (Op.opens_slice Try.underlying56 (Op.opens_struct Try.underlying64 (Op.opensF_cons rfl (Op.opens_string Try.underlying9) (by kernel_rfl) (Op.opensF_cons rfl (Op.opens_bool Try.underlying4) (by kernel_rfl) (Op.opensF_one rfl (Op.opens_slice Try.underlying23 (Op.opens_int Try.underlying5) (by kernel_rfl) rfl) (by kernel_rfl)))) (by kernel_rfl)) (by kernel_rfl) rfl) h0 hsz 0 rfl rfl
  simp [Value.cells] at hcs0
  obtain ⟨rfl, rfl, rfl⟩ := hcs0
  obtain ⟨a1, len1, cap1, rfl⟩ := okWide_slice Try.underlying56 (hval 1 56 v1 rfl rfl)
  have k1 := h1
  have lt1 : ∀ x ∈ p1, x.block < W.heap.size := by obtain ⟨m, hm⟩ := k1; exact DataW.trod_lt m _ _ _ hm
  obtain ⟨l1, ⟨A1, c1, hcs1, hl1, hC1⟩, ok1⟩ := Op.open_arg (Op.opens_slice Try.underlying56 (Op.opens_struct Try.underlying64 (Op.opensF_cons rfl (Op.opens_string Try.underlying9) (by kernel_rfl) (Op.opensF_cons rfl (Op.opens_bool Try.underlying4) (by kernel_rfl) (Op.opensF_one rfl (Op.opens_slice Try.underlying23 (Op.opens_int Try.underlying5) (by kernel_rfl) rfl) (by kernel_rfl)))) (by kernel_rfl)) (by kernel_rfl) rfl) h1 hsz 1 rfl rfl
  simp [Value.cells] at hcs1
  obtain ⟨rfl, rfl, rfl⟩ := hcs1
  obtain ⟨a2, rfl, rfl, rfl, w2⟩ := open_int Try.underlying3 (hval 2 3 v2 rfl rfl) h2
  obtain ⟨a3, rfl, rfl, rfl, w3⟩ := open_int Try.underlying3 (hval 3 3 v3 rfl rfl) h3
  obtain ⟨a4, len4, cap4, rfl⟩ := okWide_slice Try.underlying23 (hval 4 23 v4 rfl rfl)
  have k4 := h4
  have lt4 : ∀ x ∈ p4, x.block < W.heap.size := by obtain ⟨m, hm⟩ := k4; exact DataW.trod_lt m _ _ _ hm
  obtain ⟨l4, ⟨A4, c4, hcs4, hl4, hC4⟩, ok4⟩ := Op.open_arg (Op.opens_slice Try.underlying23 (Op.opens_int Try.underlying5) (by kernel_rfl) rfl) h4 hsz 4 rfl rfl
  simp [Value.cells] at hcs4
  obtain ⟨rfl, rfl, rfl⟩ := hcs4
  obtain ⟨a5, len5, cap5, rfl⟩ := okWide_slice Try.underlying23 (hval 5 23 v5 rfl rfl)
  have k5 := h5
  have lt5 : ∀ x ∈ p5, x.block < W.heap.size := by obtain ⟨m, hm⟩ := k5; exact DataW.trod_lt m _ _ _ hm
  obtain ⟨l5, ⟨A5, c5, hcs5, hl5, hC5⟩, ok5⟩ := Op.open_arg (Op.opens_slice Try.underlying23 (Op.opens_int Try.underlying5) (by kernel_rfl) rfl) h5 hsz 5 rfl rfl
  simp [Value.cells] at hcs5
  obtain ⟨rfl, rfl, rfl⟩ := hcs5
  clear hA0 hval0 hsz0 hsz
  refine (SfY.safeAll_calls cap0 l0 a0 cap1 l1 a1 a2 a3 cap4 l4 a4 cap5 l5 a5 W (SfK.arg_ok (P := fun _ => True) ok0.1 ok0.2) hl0 hC0 (SfK.arg_ok (P := fun _ => True) ok1.1 ok1.2) hl1 hC1 hl4 hC4 (Nat.le_trans (Nat.le_mul_of_pos_right _ (by decide)) (Nat.le_trans ok4.1 (by decide))) hl5 hC5 (Nat.le_trans (Nat.le_mul_of_pos_right _ (by decide)) (Nat.le_trans ok5.1 (by decide)))).mono fun e W' ⟨he, bel⟩ => ?_
  subst he
  exact ⟨_, rfl, _, _, _, [], _, [], hW', trodAll_mk1 (shut_bool Try.underlying4 _), (trodAll_cons_mk (Below.trod laidOut (by kernel_rfl) (of_decide_eq_true (by kernel_rfl)) k0 bel lt0) (trodAll_cons_mk (Below.trod laidOut (by kernel_rfl) (of_decide_eq_true (by kernel_rfl)) k1 bel lt1) (trodAll_cons_mk (shut_int Try.underlying3 w2) (trodAll_cons_mk (shut_int Try.underlying3 w3) (trodAll_cons_mk (Below.trod laidOut (by kernel_rfl) (of_decide_eq_true (by kernel_rfl)) k4 bel lt4) (trodAll_cons_mk (Below.trod laidOut (by kernel_rfl) (of_decide_eq_true (by kernel_rfl)) k5 bel lt5) trodAll_mk0)))))), rfl, bel.frame _, fun h => by cases h⟩
theorem over : Rows.safeAllRow.holds Try.pinned (OpenSpec.ofChange Rows.safeAllSpec) :=
  OpenClaim.holds_of_wide 11 Try.f11 rfl rfl rfl rfl rfl rfl rfl ⟨rfl, rfl, rfl, rfl, rfl⟩ rfl rfl rfl rfl rfl (by kernel_rfl) Try.func11 (by kernel_rfl)
    (of_decide_eq_true (by kernel_rfl)) (by unfold Func.isWrapper; first | (rw [if_pos (by decide +kernel)]; kernel_rfl) | (rw [if_neg (by decide +kernel)]; exact ⟨rfl, rfl⟩))
    (fun os started H enc _ => lifted os started H enc)
theorem proved : Rows.SafeAllSaid := over
#print axioms proved
end Go.Proofs.Ytjljgcceapkdcaa.safeAll
namespace Go.Proofs.Ytjljgcceapkdcaa
theorem safeAll_holds : Rows.SafeAllSaid := safeAll.proved
end Go.Proofs.Ytjljgcceapkdcaa
