-- Printed by prune.py: the used part of a text.
import Derived.Test.YtplfpbfmnogckaaDoorZItQ
import Derived.Test.YtplfpbfmnogckaaDoorZWdE
namespace Go.Proofs.YtplfpbfmnogckaaDoor.ItR
open Go.RowKit Go.Proofs.YtplfpbfmnogckaaDoorW.PrintWords Go.Proofs.YtplfpbfmnogckaaDoorW.PrintLast Go.Proofs.YtplfpbfmnogckaaDoorW.PrintMore Go.Proofs.YtplfpbfmnogckaaDoor.TdG Go.Proofs.YtplfpbfmnogckaaDoor.TdM Go.Proofs.YtplfpbfmnogckaaDoor.TdP Go.Proofs.YtplfpbfmnogckaaDoor.ItT Go.Proofs.YtplfpbfmnogckaaDoor.ItO Go.Proofs.YtplfpbfmnogckaaDoor.WdA Go.Proofs.YtplfpbfmnogckaaDoor.WdC Go.Proofs.YtplfpbfmnogckaaDoor.WdD Go.Proofs.YtplfpbfmnogckaaDoor.WdE Go.Proofs.YtplfpbfmnogckaaDoor.ItP Go.Proofs.YtplfpbfmnogckaaDoor.ItQ
set_option linter.unusedVariables false
def m5 : S34 := ⟨5, 0, 0, ⟨#[]⟩, 8, [], ⟨#[]⟩⟩
theorem w_fold : foldB ([uidB, flagsB].map wd) = 3 := by decide +kernel
theorem w_ok : ItOk ([uidB, flagsB].map wd) := by
  intro x hx
  have h : x = wd uidB ∨ x = wd flagsB := by simpa using hx
  rcases h with rfl | rfl
  · exact ⟨by decide, by decide +kernel⟩
  · exact ⟨by decide, by decide +kernel⟩
theorem w_names : ofP 3 nmI = (⟨#[40, 85, 73, 68, 32, 70, 76, 65, 71, 83, 41]⟩ : ByteArray) := by decide +kernel
theorem w_text : ofP 3 (textF [] m5) = (⟨#[40, 85, 73, 68, 32, 53, 32, 70, 76, 65, 71, 83, 32, 40, 92, 83, 101, 101, 110, 41, 41]⟩ : ByteArray) := by decide +kernel
theorem m5_ok : MsgOk [] m5 := by constructor <;> decide
set_option maxRecDepth 100000 in
set_option maxHeartbeats 4000000 in
theorem awake_calls (w : World) (ht : Tab w) : Calls Tryd.prog 24 #[] w fun e w' => e = .returned (.bool true) ∧ Below w.heap.size w w' := by
  have hu25 := Tryd.underlying25
  have hu34 := Tryd.underlying34
  have hS := Aside0.mk (split_calls UIDFL _ (by decide) awake_items w)
  unfold UIDFL at hS
  have hP := Aside0.mk (fun A n c W hC hc => parse_list A n c wo wc ([uidB, flagsB].map wd) W hC hc rfl rfl (by decide) (by decide) w_ok)
  rw [w_fold] at hP
  have hT := Aside0.mk (fun W (hW : Below w.heap.size w W) => text_calls ⟨#[]⟩ 0 0 0 none 0 [] none 0 [] m5 none 0 3 W (ht.below hW) ⟨rfl, by decide, fun hp => absurd hp (by decide)⟩ (by decide) ⟨rfl, by decide, fun hp => absurd hp (by decide)⟩ (by decide) ⟨rfl, by decide, fun hp => absurd hp (by decide)⟩ (by decide) m5_ok)
  rw [w_text] at hT
  have hN := Aside0.mk (fun W => names_calls 3 W)
  rw [w_names] at hN
  clear ht
  go_enter Tryd.func24, Tryd.ntmps24
  go_wp2_with (first
    | (go_at_call 22; refine hS.out.mono ?_; rintro e_ w1 ⟨A, n, c, rfl, hn, hc, hC, hb⟩; have HC := Aside0.mk hC; have Hc := Aside0.mk hc; have HB1 := Aside0.mk hb; clear hn hc hC hb; skip)
    | (go_at_call 23; refine (hP.out A n c _ HC.out Hc.out).mono ?_; rintro e_ w2 ⟨rfl, hb⟩; have HB2 := Aside0.mk (HB1.out.trans (hb.mono HB1.out.size)); clear hb HB1 HC Hc; skip)
    | (go_at_call 25; refine (hT.out _ HB2.out).mono ?_; rintro e_ w3 ⟨rfl, hb⟩; have HB3 := Aside0.mk (HB2.out.trans (hb.mono HB2.out.size)); clear hb HB2; skip)
    | (go_at_call 21; refine (hN.out _).mono ?_; rintro e_ w4 ⟨rfl, hb⟩; have HB4 := Aside0.mk (HB3.out.trans (hb.mono HB3.out.size)); clear hb HB3; skip))
  go_ret
  exact ⟨rfl, HB4.out⟩
end Go.Proofs.YtplfpbfmnogckaaDoor.ItR
