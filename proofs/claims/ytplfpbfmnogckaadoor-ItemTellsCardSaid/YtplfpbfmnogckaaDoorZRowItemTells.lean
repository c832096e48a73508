/- The statement ItemTells: out of the contract of the law's own function. -/
import Derived.Test.YtplfpbfmnogckaaDoorRows
import Derived.Test.YtplfpbfmnogckaaDoorZOp
import Derived.Test.YtplfpbfmnogckaaDoorZItL
import Derived.Test.YtplfpbfmnogckaaDoorCards
import Derived.Test.YtplfpbfmnogckaaDoorTie
import Derived.SevenTiedAt
import Derived.LaidMore
import Derived.Stop.LaidErr
import Derived.Stop.Joined
import Derived.WalkKit
import Derived.ProofKit
import Derived.OpenShut
import Derived.ShutString
import Derived.ChangeOld
import Derived.Below
import Derived.SizedLaws
namespace Go.Proofs.YtplfpbfmnogckaaDoor.itemTells
open Go.ChangeShapes Go.WideShapes Go.ChangeAt Go.RowKit Go.Proofs.YtplfpbfmnogckaaDoorW.PrintWords
open Go.ChangeMaps (open_string shut_string)
set_option linter.unusedVariables false
theorem own : ownKnob Tryd.prog.godebug = none := by kernel_rfl
theorem laidOut : laidOutB Tryd.prog = true := by kernel_rfl
def LAID : List (String × DataW Unit) := [("math/bits.deBruijn32tab", Rows.laid_math_bits_deBruijn32tab), ("math/bits.deBruijn64tab", Rows.laid_math_bits_deBruijn64tab), ("internal/strconv.uint64pow10", Rows.laid_internal_strconv_uint64pow10)]
theorem door_met (os : Os) (args : Array Value) : laidMetH Tryd.prog LAID ((World.doorLaid Tryd.prog 24 os).forCall (fun _ _ => 0) ⟨#[], args, []⟩).memory :=
  laidMetH_of_parts3 (fuel := 8) (laidMet_of_run' 8 (by kernel_rfl) (by kernel_rfl)) (by kernel_rfl) (by kernel_rfl)
theorem tab_laid : (Rows.laid_internal_strconv_uint64pow10 : DataW Unit) = Lib.tabData .u64 Lib.pow10Tab := by kernel_rfl
theorem tab_of {W : World} (h : laidMetH Tryd.prog LAID W) : TdP.Tab W := by
  rw [MakeChecks.laidMetH_plain _ _ _ (by kernel_rfl)] at h
  unfold LAID at h
  have h2 := laidMet.tail (laidMet.tail h)
  rw [tab_laid] at h2
  exact Lib.tabIs_of_head (g := 0) (by kernel_rfl) (by kernel_rfl) Tryd.underlying126 Tryd.underlying31 (by kernel_rfl) (by kernel_rfl) h2
set_option maxRecDepth 100000 in
theorem lifted (os : Os) (started : os.Started) (H : Type) (enc : TypeId × Value → H) :
    ReturnsInHanded {} Tryd.checked os 9 .any (fun w args => (Rows.itemTellsSpec.pre enc Tryd.prog Tryd.f9 [] false w args ∧ laidMetH Tryd.prog LAID w) ∧ sizedMet enc Tryd.prog Tryd.f9 (OpenSpec.ofChange Rows.itemTellsSpec) false w args) (Rows.itemTellsSpec.post enc Tryd.prog Tryd.f9 false true false false) := by
  refine returnsInHanded_of_change_and (C := Tryd.checked) (X := fun w _ => laidMetH Tryd.prog LAID w) (fun _ _ _ hh h => h.of_heap hh) own started (by kernel_rfl) Tryd.func9
    (ChangeSpec.witness_shaped (enc := enc) (C := Tryd.checked) (os := os) (X := fun w _ => laidMetH Tryd.prog LAID w) false (World.doorLaid Tryd.prog 24 os) #[.agg #[.string ByteArray.empty, .int .i64 0, .int .i64 0, .int .i64 0, .slice none 0 0, .slice none 0 0], .agg #[.int .i64 0, .int .i64 0, .int .i64 0, .string ByteArray.empty, .int .i64 0, .slice none 0 0, .string ByteArray.empty], .int .i64 0] 8 rfl (World.shaped_of_RefB (by kernel_rfl) (by kernel_rfl)) (by kernel_rfl) (by kernel_rfl) (by kernel_rfl) (door_met os _)) ?_
  intro W base args ds gs before hval0 hW _ hsz0 hL _
  have ht := tab_of hL
  clear hL
  have hsz : (DataW.weightsEach Tryd.prog (Tryd.f9.params.toList ++ Rows.itemTellsSpec.plain.varTypes Tryd.prog) (ds ++ gs)).all (· ≤ reachBytes) = true := hsz0
  have hval : ∀ (j : Nat) t v, Tryd.f9.params[j]? = some t → args[j]? = some v → Value.okWide Tryd.prog W .any base t v := hval0
  have hW' := hW
  obtain ⟨p, q, hA0, hV, rfl, hfz, hnd⟩ := hW
  have hA : DataW.TrodAll enc Tryd.prog W 0 (fun _ => true) true Tryd.f9.params.toList args.toList ds p := hA0
  rw [Tryd.params9] at hA hval hsz
  obtain ⟨v0, vs0, d0, ds0, p0, q0, hargs, rfl, rfl, h0, r0⟩ := trodAll_cons hA
  obtain ⟨v1, vs1, d1, ds1, p1, q1, rfl, rfl, rfl, h1, r1⟩ := trodAll_cons r0
  obtain ⟨v2, vs2, d2, ds2, p2, q2, rfl, rfl, rfl, h2, r2⟩ := trodAll_cons r1
  obtain ⟨rfl, rfl, rfl⟩ := trodAll_nil r2
  obtain rfl : args = #[v0, v1, v2] := by cases args; simp_all
  obtain ⟨rfl, rfl⟩ := trodVars_none hV
  have k0 := h0
  have lt0 : ∀ x ∈ p0, x.block < W.heap.size := by obtain ⟨m, hm⟩ := k0; exact DataW.trod_lt m _ _ _ hm
  obtain ⟨cs0, rfl, _⟩ := okWide_struct Tryd.underlying25 (hval 0 25 v0 rfl rfl)
  obtain ⟨x0, hK0, ok0⟩ := Op.open_arg (Op.opens_struct Tryd.underlying25 (Op.opensF_cons rfl (Op.opens_string Tryd.underlying9) (by kernel_rfl) (Op.opensF_cons rfl (Op.opens_int Tryd.underlying3) (by kernel_rfl) (Op.opensF_cons rfl (Op.opens_int Tryd.underlying3) (by kernel_rfl) (Op.opensF_cons rfl (Op.opens_int Tryd.underlying3) (by kernel_rfl) (Op.opensF_cons rfl (Op.opens_slice Tryd.underlying22 (Op.opens_string Tryd.underlying9) (by kernel_rfl) rfl) (by kernel_rfl) (Op.opensF_one rfl (Op.opens_slice Tryd.underlying23 (Op.opens_struct Tryd.underlying34 (Op.opensF_cons rfl (Op.opens_int Tryd.underlying3) (by kernel_rfl) (Op.opensF_cons rfl (Op.opens_int Tryd.underlying3) (by kernel_rfl) (Op.opensF_cons rfl (Op.opens_int Tryd.underlying3) (by kernel_rfl) (Op.opensF_cons rfl (Op.opens_string Tryd.underlying9) (by kernel_rfl) (Op.opensF_cons rfl (Op.opens_int Tryd.underlying3) (by kernel_rfl) (Op.opensF_cons rfl (Op.opens_slice Tryd.underlying26 (Op.opens_int Tryd.underlying3) (by kernel_rfl) rfl) (by kernel_rfl) (Op.opensF_one rfl (Op.opens_string Tryd.underlying9) (by kernel_rfl)))))))) (by kernel_rfl)) (by kernel_rfl) rfl) (by kernel_rfl))))))) (by kernel_rfl)) h0 hsz 0 rfl rfl
  have k1 := h1
  have lt1 : ∀ x ∈ p1, x.block < W.heap.size := by obtain ⟨m, hm⟩ := k1; exact DataW.trod_lt m _ _ _ hm
  obtain ⟨cs1, rfl, _⟩ := okWide_struct Tryd.underlying34 (hval 1 34 v1 rfl rfl)
  obtain ⟨x1, hK1, ok1⟩ := Op.open_arg (Op.opens_struct Tryd.underlying34 (Op.opensF_cons rfl (Op.opens_int Tryd.underlying3) (by kernel_rfl) (Op.opensF_cons rfl (Op.opens_int Tryd.underlying3) (by kernel_rfl) (Op.opensF_cons rfl (Op.opens_int Tryd.underlying3) (by kernel_rfl) (Op.opensF_cons rfl (Op.opens_string Tryd.underlying9) (by kernel_rfl) (Op.opensF_cons rfl (Op.opens_int Tryd.underlying3) (by kernel_rfl) (Op.opensF_cons rfl (Op.opens_slice Tryd.underlying26 (Op.opens_int Tryd.underlying3) (by kernel_rfl) rfl) (by kernel_rfl) (Op.opensF_one rfl (Op.opens_string Tryd.underlying9) (by kernel_rfl)))))))) (by kernel_rfl)) h1 hsz 1 rfl rfl
  obtain ⟨a2, rfl, rfl, rfl, w2⟩ := open_int Tryd.underlying3 (hval 2 3 v2 rfl rfl) h2
  clear hA0 hval0 hsz0 hsz
  refine (ItL.tells_open x0 x1 cs0 cs1 a2 W ht hK0 ok0 hK1 ok1).mono fun e W' ⟨he, bel⟩ => ?_
  subst he
  exact ⟨_, rfl, _, _, _, [], _, [], hW', trodAll_mk1 (shut_bool Tryd.underlying4 _), (trodAll_cons_mk (Below.trod laidOut (by kernel_rfl) (of_decide_eq_true (by kernel_rfl)) k0 bel lt0) (trodAll_cons_mk (Below.trod laidOut (by kernel_rfl) (of_decide_eq_true (by kernel_rfl)) k1 bel lt1) (trodAll_cons_mk (shut_int Tryd.underlying3 w2) trodAll_mk0))), rfl, bel.frame _, fun h => by cases h⟩
theorem over : Rows.itemTellsRow.holds Tryd.pinned (OpenSpec.ofChange Rows.itemTellsSpec) :=
  OpenClaim.holds_of_wide 9 Tryd.f9 rfl rfl rfl rfl rfl rfl rfl ⟨rfl, rfl, rfl, rfl, rfl⟩ rfl rfl rfl rfl rfl (by kernel_rfl) Tryd.func9 (by kernel_rfl)
    (of_decide_eq_true (by kernel_rfl)) (by unfold Func.isWrapper; first | (rw [if_pos (by decide +kernel)]; kernel_rfl) | (rw [if_neg (by decide +kernel)]; exact ⟨rfl, rfl⟩))
    (fun os started H enc _ => lifted os started H enc)
theorem proved : Rows.ItemTellsCardSaid :=
  Claim7.holds_tied_plain_at .later [] [.data, .data, .data] true (true, "e7ed06394cdcd8fa171756e4e6e4c502bd991eb1093e838c03d128ada88d0bf5") false
    over (fun _ h => by cases h) (by kernel_rfl) (fun _ h => by cases h) itemTells_row_tie rfl ⟨rfl, rfl⟩ (by kernel_rfl) rfl
    (fun f fn hf hfn => by
      obtain rfl : f = 9 := Option.some.inj ((show Tryd.prog.funcNamed Rows.itemTellsRow.func = some 9 by kernel_rfl).symm.trans hf) |>.symm
      obtain rfl : fn = Tryd.f9 := (Option.some.inj (Tryd.func9.symm.trans hfn)).symm
      exact ⟨by kernel_rfl, fun j t ht => by
        rw [Tryd.params9] at ht
        have hm : t ∈ [25, 34, 3] := by simpa using Array.mem_of_getElem? ht
        have hall : ([25, 34, 3].all fun u => !Tryd.prog.wantsStandIn u) = true := by kernel_rfl
        exact (show Tryd.prog.wantsStandIn t = false by simpa using List.all_eq_true.1 hall t hm)⟩)
    (by kernel_rfl)
#print axioms proved
end Go.Proofs.YtplfpbfmnogckaaDoor.itemTells
namespace Go.Proofs.YtplfpbfmnogckaaDoor
theorem itemTellsCard_holds : Rows.ItemTellsCardSaid := itemTells.proved
end Go.Proofs.YtplfpbfmnogckaaDoor
