-- Written by a program of this claim's session (wip/tool/prune.py): what is used of a longer text. Not trusted: Lean checks it.
import Derived.Test.YtjlabkibpknkpaaDoorZBxA
namespace Go.Proofs.YtjlabkibpknkpaaDoor.CpB
open Go.RowKit Go.Proofs.YtjlabkibpknkpaaDoorW.PrintWords Go.Proofs.YtjlabkibpknkpaaDoorW.PrintLast Go.Proofs.YtjlabkibpknkpaaDoorW.PrintMore Go.Proofs.YtjlabkibpknkpaaDoor.FmM Go.Proofs.YtjlabkibpknkpaaDoor.PkP Go.Proofs.YtjlabkibpknkpaaDoor.FmN Go.Proofs.YtjlabkibpknkpaaDoor.FmC Go.Proofs.YtjlabkibpknkpaaDoor.BxA
set_option linter.unusedVariables false
set_option linter.unusedSimpArgs false
theorem info_msgs : (Tryd.prog.info? 31).map (fun i => (i.zero, i.size, i.bytes)) = some (some (.agg #[.int .i64 0, .int .i64 0, .int .i64 0, .string ⟨#[]⟩, .int .i64 0, .slice none 0 0, .string ⟨#[]⟩]), 7, 88) := by kernel_rfl
theorem slc {α : Type} {d : Kd α} {e base : Nat} {ok : Nat → Prop} {w : World} {v : Value} {xs : List α} (h : d.R e w base ok v xs) : ∃ A n c, v = .slice A n c := by
  obtain ⟨A, c, e⟩ := Kd.R_slice h
  exact ⟨A, _, c, e⟩
theorem row_ne {α : Type} {d : Kd α} {e base : Nat} {ok : Nat → Prop} {w : World} {v : Value} {xs : List α} {g : Nat} {t : TypeId} {cells : Array Value} (h : d.R e w base ok v xs) (hb : w.heap[g]? = some (.cells cells t (0, 0))) (hne : e ≠ t) : some g ≠ v.ownBlock := by
  intro he
  obtain ⟨_, inner, ho, _⟩ := h
  obtain ⟨cs, hc⟩ := own_typed ho g he.symm
  rw [hb] at hc
  simp at hc
  exact hne hc.2.symm
theorem sets7 {w : World} {g : Nat} {t : TypeId} {c0 c1 c2 c3 c4 c5 c6 : Value} (h : w.heap[g]? = some (.cells #[c0, c1, c2, c3, c4, c5, c6] t (0, 0))) (v0 v1 v2 v3 v4 v5 v6 : Value) :
    ∃ w8, ((((((w.setCell ⟨g, 0, none⟩ v0).setCell ⟨g, 1, none⟩ v1).setCell ⟨g, 2, none⟩ v2).setCell ⟨g, 3, none⟩ v3).setCell ⟨g, 4, none⟩ v4).setCell ⟨g, 5, none⟩ v5).setCell ⟨g, 6, none⟩ v6 = w8 ∧ w8.heap[g]? = some (.cells #[v0, v1, v2, v3, v4, v5, v6] t (0, 0)) ∧ Only g w w8 := by
  have h0 := blk_put (cs' := #[v0, c1, c2, c3, c4, c5, c6]) h 0 v0 rfl
  have h1 := blk_put (cs' := #[v0, v1, c2, c3, c4, c5, c6]) h0 1 v1 rfl
  have h2 := blk_put (cs' := #[v0, v1, v2, c3, c4, c5, c6]) h1 2 v2 rfl
  have h3 := blk_put (cs' := #[v0, v1, v2, v3, c4, c5, c6]) h2 3 v3 rfl
  have h4 := blk_put (cs' := #[v0, v1, v2, v3, v4, c5, c6]) h3 4 v4 rfl
  have h5 := blk_put (cs' := #[v0, v1, v2, v3, v4, v5, c6]) h4 5 v5 rfl
  have h6 := blk_put (cs' := #[v0, v1, v2, v3, v4, v5, v6]) h5 6 v6 rfl
  have o0 := (Only.refl g w).put 0 v0
  have o1 := o0.put 1 v1
  have o2 := o1.put 2 v2
  have o3 := o2.put 3 v3
  have o4 := o3.put 4 v4
  have o5 := o4.put 5 v5
  exact ⟨_, rfl, h6, o5.put 6 v6⟩
theorem R_only {α : Type} {d : Kd α} {e base : Nat} {ok : Nat → Prop} {w w1 : World} {v : Value} {xs : List α} {g : Nat} {t : TypeId} {cells : Array Value} (h : d.R e w base ok v xs) (hb : w.heap[g]? = some (.cells cells t (0, 0))) (ht : ∀ q, q ∈ e :: d.E → q ≠ t) (o : Only g w w1) : d.R e w1 base ok v xs :=
  Kd.R_mono (Kd.R_step (Kd.R_types h hb ht) (fun k hk _ => o.keep k hk.2)) (fun _ hk => hk.1)
end Go.Proofs.YtjlabkibpknkpaaDoor.CpB
