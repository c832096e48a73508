-- Printed by prune.py: the used part of a text.
import Derived.Test.YtplfpbfmnogckaaDoorZTdN
import Derived.Maps.Own
import Derived.Maps.OwnOps
import Derived.Maps.Views
namespace Go.Proofs.YtplfpbfmnogckaaDoor.MpI
open Go.RowKit Go.Proofs.YtplfpbfmnogckaaDoorW.PrintWords Go.Proofs.YtplfpbfmnogckaaDoorW.PrintLast Go.Proofs.YtplfpbfmnogckaaDoorW.PrintMore Go.Proofs.YtplfpbfmnogckaaDoor.TdG Go.Proofs.YtplfpbfmnogckaaDoor.TdM Go.Proofs.YtplfpbfmnogckaaDoor.TdP Go.Proofs.YtplfpbfmnogckaaDoor.TdD Go.Proofs.YtplfpbfmnogckaaDoor.ItT Go.Proofs.YtplfpbfmnogckaaDoor.ItO Go.Proofs.YtplfpbfmnogckaaDoor.TdF Go.Proofs.YtplfpbfmnogckaaDoor.TdS Go.Proofs.YtplfpbfmnogckaaDoor.TdA Go.Proofs.YtplfpbfmnogckaaDoor.TdW Go.Proofs.YtplfpbfmnogckaaDoor.TdN
set_option linter.unusedVariables false
set_option linter.unusedSimpArgs false
def MI (w : World) (b n : Nat) (f : Int → Int) : Prop := ∃ D : DataW Unit, w.ownsMap Tryd.prog 3 (plainElem Tryd.prog 3) b n D ∧ Maps.IsMap D ∧ ∀ k, D.atKey (.int .i64 k) (.lit (.int .i64 0)) = .lit (.int .i64 (f k))
def putI (f : Int → Int) (k v : Int) : Int → Int := fun i => if i = k then v else f i
theorem MI.lt {w : World} {b n : Nat} {f : Int → Int} (h : MI w b n f) : b < w.heap.size := by
  obtain ⟨D, h1, _⟩ := h
  exact h1.lt
theorem MI.below {w w1 : World} {b n : Nat} {f : Int → Int} (h : MI w b n f) (hb : Below w.heap.size w w1) : MI w1 b n f := by
  have hlt := h.lt
  obtain ⟨D, ⟨es, clock, h1, F, hs, hD⟩, h2⟩ := h
  exact ⟨D, ⟨es, clock, (hb.block b hlt).trans h1, F, hs, hD⟩, h2⟩
theorem MI.only {w w1 : World} {b n g : Nat} {f : Int → Int} (h : MI w b n f) (ho : Only g w w1) (hne : b ≠ g) : MI w1 b n f := by
  obtain ⟨D, ⟨es, clock, h1, F, hs, hD⟩, h2⟩ := h
  exact ⟨D, ⟨es, clock, (ho.keep b hne).trans h1, F, hs, hD⟩, h2⟩
theorem MI.ne {w : World} {b n g : Nat} {f : Int → Int} {cs : Array Value} {t : TypeId} {p : Nat × Nat} (h : MI w b n f) (hg : w.heap[g]? = some (.cells cs t p)) : b ≠ g := by
  obtain ⟨D, ⟨es, clock, h1, _⟩, _⟩ := h
  rintro rfl
  rw [h1] at hg
  cases hg
theorem MI.grown {w w1 : World} {b n : Nat} {f : Int → Int} (h : MI w b n f) {α : Type} {d : Kd α} {e base : Nat} {ok : Nat → Prop} {v : Value} {xs : List α} (hr : d.R e w base ok v xs) (hg : w.grownBy w1 v.ownBlock) : MI w1 b n f := by
  obtain ⟨D, ⟨es, clock, h1, F, hs, hD⟩, h2⟩ := h
  refine ⟨D, ⟨es, clock, (hg.block b (blk_lt h1) (fun e => ?_)).trans h1, F, hs, hD⟩, h2⟩
  obtain ⟨_, _, _, q, _, cells, hq⟩ := (Kd.R_bound hr).1 b e.symm
  rw [h1] at hq
  cases hq
theorem MI.cast {w : World} {b n n' : Nat} {f f' : Int → Int} (h : MI w b n f) (hn : n ≤ n') (hf : f = f') : MI w b n' f' := by
  subst hf
  obtain ⟨D, h1, h2⟩ := h
  exact ⟨D, h1.mono hn, h2⟩
theorem zero_int (w : World) : (zeroValue 3).run Tryd.prog w = .ok (.int .i64 0) w := by kernel_rfl
section
variable {ops : Array Oper} {rest : List Oper} {o : Oper} {a : Act} {Q : Exit → Act → World → Prop}
theorem made_event {w : World} (hg : o.guard = none) (t : TypeId) (hop : o.op = Op.makeMap t none)
    (hK : ∀ b w1, w.heap.size ≤ b → MI w1 b 0 (fun _ => 0) → Below w.heap.size w w1 → wpList Tryd.prog ops Q rest (a.put o.dst (.map (some b))) w1) : wpList Tryd.prog ops Q (o :: rest) a w := by
  refine wpList_plain hg fun K' hK' => ?_
  unfold Oper.wp
  simp [execOp, hop, run_makeMap, Result.andThen]
  exact hK' _ _ (hK _ _ (Nat.le_refl _) ⟨.map [], World.ownsMap_made w _ _ _, Maps.isMap_empty, fun k => rfl⟩ (below_alloc (Below.refl _ _) _))
theorem put_event {w : World} (hg : o.guard = none) (m x v : Operand) (hop : o.op = Op.mapUpdate 32 m x v) (b n : Nat) (f : Int → Int) (key val : Int)
    (hm : a.eval m = .map (some b)) (hI : MI w b n f) (hn : n ≤ 100000) (hx : a.eval x = .int .i64 key) (hv : a.eval v = .int .i64 val) (hk : (Lit.int .i64 key).wf = true) (hvw : (Lit.int .i64 val).wf = true)
    (hK : ∀ w1, MI w1 b (n + 1) (putI f key val) → w.grownBy w1 (some b) → wpList Tryd.prog ops Q rest (a.put o.dst undef) w1) : wpList Tryd.prog ops Q (o :: rest) a w := by
  obtain ⟨D, h1, h2, h3⟩ := hI
  refine wpList_mapUpdate_own w hg m x v _ hop _ _ (Maps.int_keyed Tryd.underlying3) Tryd.underlying32 _ b n D hm h1 (by unfold maxLen; omega) _ _ _ hx hv (Maps.keyOf_int_mk Tryd.underlying3 hk) _ [] (plainElem_int Tryd.underlying3 hvw) ?_
  intro w1 h4 h5
  refine hK w1 ⟨_, h4, h2.put _ _, fun k => ?_⟩ h5
  unfold putI
  by_cases e : k = key
  · subst e
    rw [if_pos rfl]
    exact Maps.atKey_put_same h2 (by trivial) _ _
  · rw [if_neg e, Maps.atKey_put_other (fun h => e (by injection h))]
    exact h3 k
theorem get_event {w : World} (hg : o.guard = none) (m x : Operand) (hop : o.op = Op.lookup 32 m x false) (b n : Nat) (f : Int → Int) (key : Int)
    (hm : a.eval m = .map (some b)) (hI : MI w b n f) (hx : a.eval x = .int .i64 key) (hk : (Lit.int .i64 key).wf = true)
    (hK : wpList Tryd.prog ops Q rest (a.put o.dst (.int .i64 (f key))) w) : wpList Tryd.prog ops Q (o :: rest) a w := by
  obtain ⟨D, h1, h2, h3⟩ := hI
  refine wpList_lookup_own_int w hg m x _ hop _ _ .i64 (Maps.int_keyed Tryd.underlying3) Tryd.underlying32 Tryd.underlying3 (zero_int w) b n D hm h1 _ _ hx (Maps.keyOf_int_mk Tryd.underlying3 hk) ?_
  intro c h4 _
  rw [h3 key] at h4
  injection h4 with h4
  injection h4 with _ h4
  subst h4
  exact hK
end
theorem grown_only {w w1 : World} {b B : Nat} {w0 : World} (h : Below B w0 w) (hg : w.grownBy w1 (some b)) (hB : B ≤ w.heap.size) (hb : B ≤ b) : Below B w0 w1 := h.grown hg hB (fun k e => by have := Option.some.inj e; omega)
theorem grown_blk {w w1 : World} {b g : Nat} {o : Obj} (h : w.heap[g]? = some o) (hg : w.grownBy w1 (some b)) (hne : g ≠ b) : w1.heap[g]? = some o := (hg.block g (blk_lt h) (fun e => hne (Option.some.inj e))).trans h
theorem fetch_none (aw : List ByteArray) (ms : List S34) (l : List S37) (h : ∀ (i : Nat) (hi : i < l.length), chgB ms l[i] = false) :
    ∀ n, n ≤ l.length → (fetchL aw ms l n).length = 0
  | 0, _ => by simp [fetchL]
  | n + 1, hn => by
    have hlt : n < l.length := by omega
    rw [fetch_at aw ms l n hlt, List.length_append, fetch_none aw ms l h n (by omega), h n hlt, if_neg (by decide)]
    rfl
end Go.Proofs.YtplfpbfmnogckaaDoor.MpI
