-- Written by a program of this claim's session (wip/tool/prune.py): what is used of a longer text. Not trusted: Lean checks it.
import Derived.Test.YtjlabkibpknkpaaDoorZFmY
namespace Go.Proofs.YtjlabkibpknkpaaDoor.FmA
open Go.RowKit Go.Proofs.YtjlabkibpknkpaaDoorW.PrintWords Go.Proofs.YtjlabkibpknkpaaDoorW.PrintLast Go.Proofs.YtjlabkibpknkpaaDoorW.PrintMore Go.Proofs.YtjlabkibpknkpaaDoor.FmG Go.Proofs.YtjlabkibpknkpaaDoor.FmM Go.Proofs.YtjlabkibpknkpaaDoor.PkP Go.Proofs.YtjlabkibpknkpaaDoor.FmN Go.Proofs.YtjlabkibpknkpaaDoor.FmB Go.Proofs.YtjlabkibpknkpaaDoor.FmC Go.Proofs.YtjlabkibpknkpaaDoor.FmH Go.Proofs.YtjlabkibpknkpaaDoor.FmY
set_option linter.unusedVariables false
set_option linter.unusedSimpArgs false
theorem rb_string {w : World} {v : Value} {l : List Int} (h : Rb w v l) : (convert 28 9 v).run Tryd.prog w = .ok (.string (strOfNums l)) w := by
  obtain ⟨A, c, rfl, h1, h2⟩ := h
  exact Kd.C_string Tryd.underlying28 Tryd.underlying5 Tryd.underlying9 h2
def b1 : ByteArray := ⟨#[98, 49]⟩
theorem box1 : boxP b1 5 1 1 [] [] = 0 := by kernel_rfl
theorem bytes1 : headE b1 5 1 1 [] [] ++ encMs 0 [] = [77, 66, 51, 5, 1, 1, 2, 98, 49, 0, 0] := by kernel_rfl
theorem str1 : strOfNums [77, 66, 51, 5, 1, 1, 2, 98, 49, 0, 0] = ⟨#[77, 66, 51, 5, 1, 1, 2, 98, 49, 0, 0]⟩ := by decide
def m3 : S31 := ⟨3, 0, 0, ⟨#[]⟩, 0, [], ⟨#[]⟩⟩
theorem msg3 : encM m3 1 = [2, 0, 0, 0, 0, 0, 0] := by kernel_rfl
set_option maxRecDepth 100000 in
set_option maxHeartbeats 1000000 in
theorem awake_calls (w : World) : Calls Tryd.prog 31 #[] w fun e w' => e = .returned (.bool true) ∧ Below w.heap.size w w' := by
  have hu25 := Tryd.underlying26
  have hu35 := Tryd.underlying31
  have HX := Aside0.mk (fun W => bytes_calls b1 5 1 1 none 0 [] none 0 [] W ⟨rfl, by decide, fun h => absurd h (by decide)⟩ (by decide) ⟨rfl, by decide, fun h => absurd h (by decide)⟩ (by decide) (by decide) box1)
  have HM := Aside0.mk (fun W => msg_calls (v := .slice none 0 0) (l := []) W (Rb.nil _) m3 1 none 0 ⟨rfl, by decide, fun h => absurd h (by decide)⟩ (by decide) (by decide) (by decide))
  rw [bytes1] at HX
  rw [msg3] at HM
  go_enter Tryd.func31, Tryd.ntmps31
  go_wp2_with (first
    | (go_at_call 32; refine (HX.out _).mono ?_; rintro e w1 ⟨v1, rfl, ho, hb⟩; have hs := rb_string ho; rw [str1] at hs; have HB := Aside0.mk hb; clear ho hb)
    | (go_at_call 51; refine (HM.out _).mono ?_; rintro e w2 ⟨v2, rfl, ⟨A, c, rfl, ho, hC⟩, hb⟩; have HB2 := Aside0.mk (HB.out.trans (hb.mono HB.out.size)); clear ho hb hC))
  go_ret
  exact ⟨rfl, HB2.out⟩
end Go.Proofs.YtjlabkibpknkpaaDoor.FmA
