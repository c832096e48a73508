-- Printed by prune.py: the used part of a text.
import Derived.Test.YtplfpbfmnogckaaDoorZTdF
namespace Go.Proofs.YtplfpbfmnogckaaDoor.TdS
open Go.RowKit Go.Proofs.YtplfpbfmnogckaaDoorW.PrintWords Go.Proofs.YtplfpbfmnogckaaDoorW.PrintLast Go.Proofs.YtplfpbfmnogckaaDoorW.PrintMore Go.Proofs.YtplfpbfmnogckaaDoor.TdG Go.Proofs.YtplfpbfmnogckaaDoor.TdM Go.Proofs.YtplfpbfmnogckaaDoor.TdP Go.Proofs.YtplfpbfmnogckaaDoor.ItT Go.Proofs.YtplfpbfmnogckaaDoor.ItO Go.Proofs.YtplfpbfmnogckaaDoor.TdF
set_option linter.unusedVariables false
set_option linter.unusedSimpArgs false
structure Only (g : Nat) (w w1 : World) : Prop where
  below : ∀ {B : Nat} {w0 : World}, Below B w0 w → B ≤ g → Below B w0 w1
  size : w1.heap.size = w.heap.size
  keep : ∀ k, k ≠ g → w1.heap[k]? = w.heap[k]?
theorem Only.refl (g : Nat) (w : World) : Only g w w := ⟨fun h _ => h, rfl, fun _ _ => rfl⟩
theorem Only.put {g : Nat} {w w1 : World} (h : Only g w w1) (i : Nat) (v : Value) : Only g w (w1.setCell ⟨g, i, none⟩ v) :=
  ⟨fun hb hg => (h.below hb hg).setCell hg v, by rw [← h.size]; simp [World.setCell], fun k hk => (Below.heap_setCell w1 ⟨g, i, none⟩ v k hk).trans (h.keep k hk)⟩
theorem R_only {α : Type} {d : Kd α} {e base : Nat} {ok : Nat → Prop} {w w1 : World} {v : Value} {xs : List α} {g : Nat} {t : TypeId} {cells : Array Value} (h : d.R e w base ok v xs) (hb : w.heap[g]? = some (.cells cells t (0, 0))) (ht : ∀ q, q ∈ e :: d.E → q ≠ t) (o : Only g w w1) : d.R e w1 base ok v xs :=
  Kd.R_mono (Kd.R_step (Kd.R_types h hb ht) (fun k hk _ => o.keep k hk.2)) (fun _ hk => hk.1)
theorem sets2 {w : World} {g : Nat} {t : TypeId} {cs cs' : Array Value} (h : w.heap[g]? = some (.cells cs t (0, 0))) (i j : Nat) (u v : Value) (hc : (cs.setIfInBounds i u).setIfInBounds j v = cs') :
    ∃ w1, (w.setCell ⟨g, i, none⟩ u).setCell ⟨g, j, none⟩ v = w1 ∧ w1.heap[g]? = some (.cells cs' t (0, 0)) ∧ Only g w w1 :=
  ⟨_, rfl, hc ▸ blk_set (blk_set h i u) j v, ((Only.refl g w).put i u).put j v⟩
end Go.Proofs.YtplfpbfmnogckaaDoor.TdS
