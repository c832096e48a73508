-- Printed by prune.py: the used part of a text.
import Derived.Test.YtjlabkibpknkpaaDoorZBxA
namespace Go.Proofs.YtjlabkibpknkpaaDoor.BxN
open Go.RowKit Go.Proofs.YtjlabkibpknkpaaDoorW.PrintWords Go.Proofs.YtjlabkibpknkpaaDoorW.PrintLast Go.Proofs.YtjlabkibpknkpaaDoorW.PrintMore Go.Proofs.YtjlabkibpknkpaaDoor.FmM Go.Proofs.YtjlabkibpknkpaaDoor.PkP Go.Proofs.YtjlabkibpknkpaaDoor.FmN Go.Proofs.YtjlabkibpknkpaaDoor.FmB Go.Proofs.YtjlabkibpknkpaaDoor.FmC Go.Proofs.YtjlabkibpknkpaaDoor.FsP Go.Proofs.YtjlabkibpknkpaaDoor.BxF Go.Proofs.YtjlabkibpknkpaaDoor.BxA
set_option linter.unusedVariables false
set_option linter.unusedSimpArgs false
theorem mayMsg_calls (x : Int) (s : ByteArray) (w : World) (h0 : 1 ≤ x) (h1 : x < 1000000) (h2 : atomP s = true) (h3 : s.size ≤ 20) : Calls Tryd.prog 16 #[.agg #[.string (⟨#[]⟩ : ByteArray), .int .i64 0, .int .i64 0, .int .i64 0, .slice none 0 0, .slice none 0 0], .agg #[.int .i64 x, .int .i64 1, .int .i64 0, .string s, .int .i64 0, .slice none 0 0, .string (⟨#[]⟩ : ByteArray)]] w fun e w' => e = .returned (.int .i64 0) ∧ Below w.heap.size w w' := by
  obtain ⟨k, hk⟩ := (fmsg_ev (⟨#[]⟩ : ByteArray) 0 0 0 [] [] ⟨x, 1, 0, s, 0, [], ⟨#[]⟩⟩ (by show 0 + 0 + s.size ≤ 1000000; omega)).get
  have e : msgOk (([] : List ByteArray).length : Int) ⟨x, 1, 0, s, 0, [], ⟨#[]⟩⟩ = true := by
    unfold msgOk
    simp only
    rw [h2, decide_eq_true (show 1 ≤ x ∧ x < 1000000 ∧ (1 : Int) ≤ 1 ∧ (1 : Int) ≤ 1000000 ∧ (0 : Int) ≤ 0 ∧ (0 : Int) ≤ 1000000 by omega)]
    rfl
  rw [e] at hk
  exact box_MayMsg.calls k (⟨#[]⟩ : ByteArray) 0 0 0 none 0 [] none 0 [] x 1 0 s 0 none 0 [] (⟨#[]⟩ : ByteArray) _ w ⟨rfl, by decide, fun h => absurd h (by decide)⟩ (by decide) ⟨rfl, by decide, fun h => absurd h (by decide)⟩ (by decide) ⟨rfl, by decide, fun h => absurd h (by decide)⟩ (by decide) hk
end Go.Proofs.YtjlabkibpknkpaaDoor.BxN
