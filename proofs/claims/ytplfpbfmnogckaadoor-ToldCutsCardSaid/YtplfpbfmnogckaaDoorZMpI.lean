-- Printed by prune.py: the used part of a text.
import Derived.Test.YtplfpbfmnogckaaDoorZTdN
import Derived.Maps.Own
import Derived.Maps.OwnOps
import Derived.Maps.Views
namespace Go.Proofs.YtplfpbfmnogckaaDoor.MpI
open Go.RowKit Go.Proofs.YtplfpbfmnogckaaDoorW.PrintWords Go.Proofs.YtplfpbfmnogckaaDoorW.PrintLast Go.Proofs.YtplfpbfmnogckaaDoorW.PrintMore Go.Proofs.YtplfpbfmnogckaaDoor.TdG Go.Proofs.YtplfpbfmnogckaaDoor.TdM Go.Proofs.YtplfpbfmnogckaaDoor.TdP Go.Proofs.YtplfpbfmnogckaaDoor.TdD Go.Proofs.YtplfpbfmnogckaaDoor.ItT Go.Proofs.YtplfpbfmnogckaaDoor.ItO Go.Proofs.YtplfpbfmnogckaaDoor.TdF Go.Proofs.YtplfpbfmnogckaaDoor.TdS Go.Proofs.YtplfpbfmnogckaaDoor.TdA Go.Proofs.YtplfpbfmnogckaaDoor.TdW Go.Proofs.YtplfpbfmnogckaaDoor.TdN
set_option linter.unusedVariables false
set_option linter.unusedSimpArgs false
def MI (w : World) (b n : Nat) (f : Int → Int) : Prop := ∃ D : DataW Unit, w.ownsMap Tryd.prog 3 (plainElem Tryd.prog 3) b n D ∧ Maps.IsMap D ∧ ∀ k, D.atKey (.int .i64 k) (.lit (.int .i64 0)) = .lit (.int .i64 (f k))
def putI (f : Int → Int) (k v : Int) : Int → Int := fun i => if i = k then v else f i
theorem MI.lt {w : World} {b n : Nat} {f : Int → Int} (h : MI w b n f) : b < w.heap.size := by
  obtain ⟨D, h1, _⟩ := h
  exact h1.lt
theorem MI.below {w w1 : World} {b n : Nat} {f : Int → Int} (h : MI w b n f) (hb : Below w.heap.size w w1) : MI w1 b n f := by
  have hlt := h.lt
  obtain ⟨D, ⟨es, clock, h1, F, hs, hD⟩, h2⟩ := h
  exact ⟨D, ⟨es, clock, (hb.block b hlt).trans h1, F, hs, hD⟩, h2⟩
theorem MI.only {w w1 : World} {b n g : Nat} {f : Int → Int} (h : MI w b n f) (ho : Only g w w1) (hne : b ≠ g) : MI w1 b n f := by
  obtain ⟨D, ⟨es, clock, h1, F, hs, hD⟩, h2⟩ := h
  exact ⟨D, ⟨es, clock, (ho.keep b hne).trans h1, F, hs, hD⟩, h2⟩
theorem MI.ne {w : World} {b n g : Nat} {f : Int → Int} {cs : Array Value} {t : TypeId} {p : Nat × Nat} (h : MI w b n f) (hg : w.heap[g]? = some (.cells cs t p)) : b ≠ g := by
  obtain ⟨D, ⟨es, clock, h1, _⟩, _⟩ := h
  rintro rfl
  rw [h1] at hg
  cases hg
theorem MI.grown {w w1 : World} {b n : Nat} {f : Int → Int} (h : MI w b n f) {α : Type} {d : Kd α} {e base : Nat} {ok : Nat → Prop} {v : Value} {xs : List α} (hr : d.R e w base ok v xs) (hg : w.grownBy w1 v.ownBlock) : MI w1 b n f := by
  obtain ⟨D, ⟨es, clock, h1, F, hs, hD⟩, h2⟩ := h
  refine ⟨D, ⟨es, clock, (hg.block b (blk_lt h1) (fun e => ?_)).trans h1, F, hs, hD⟩, h2⟩
  obtain ⟨_, _, _, q, _, cells, hq⟩ := (Kd.R_bound hr).1 b e.symm
  rw [h1] at hq
  cases hq
theorem MI.cast {w : World} {b n n' : Nat} {f f' : Int → Int} (h : MI w b n f) (hn : n ≤ n') (hf : f = f') : MI w b n' f' := by
  subst hf
  obtain ⟨D, h1, h2⟩ := h
  exact ⟨D, h1.mono hn, h2⟩
theorem zero_int (w : World) : (zeroValue 3).run Tryd.prog w = .ok (.int .i64 0) w := by kernel_rfl
section
variable {ops : Array Oper} {rest : List Oper} {o : Oper} {a : Act} {Q : Exit → Act → World → Prop}
theorem made_event {w : World} (hg : o.guard = none) (t : TypeId) (hop : o.op = Op.makeMap t none)
    (hK : ∀ b w1, w.heap.size ≤ b → MI w1 b 0 (fun _ => 0) → Below w.heap.size w w1 → wpList Tryd.prog ops Q rest (a.put o.dst (.map (some b))) w1) : wpList Tryd.prog ops Q (o :: rest) a w := by
  refine wpList_plain hg fun K' hK' => ?_
  unfold Oper.wp
  simp [execOp, hop, run_makeMap, Result.andThen]
  exact hK' _ _ (hK _ _ (Nat.le_refl _) ⟨.map [], World.ownsMap_made w _ _ _, Maps.isMap_empty, fun k => rfl⟩ (below_alloc (Below.refl _ _) _))
theorem put_event {w : World} (hg : o.guard = none) (m x v : Operand) (hop : o.op = Op.mapUpdate 32 m x v) (b n : Nat) (f : Int → Int) (key val : Int)
    (hm : a.eval m = .map (some b)) (hI : MI w b n f) (hn : n ≤ 100000) (hx : a.eval x = .int .i64 key) (hv : a.eval v = .int .i64 val) (hk : (Lit.int .i64 key).wf = true) (hvw : (Lit.int .i64 val).wf = true)
    (hK : ∀ w1, MI w1 b (n + 1) (putI f key val) → w.grownBy w1 (some b) → wpList Tryd.prog ops Q rest (a.put o.dst undef) w1) : wpList Tryd.prog ops Q (o :: rest) a w := by
  obtain ⟨D, h1, h2, h3⟩ := hI
  refine wpList_mapUpdate_own w hg m x v _ hop _ _ (Maps.int_keyed Tryd.underlying3) Tryd.underlying32 _ b n D hm h1 (by unfold maxLen; omega) _ _ _ hx hv (Maps.keyOf_int_mk Tryd.underlying3 hk) _ [] (plainElem_int Tryd.underlying3 hvw) ?_
  intro w1 h4 h5
  refine hK w1 ⟨_, h4, h2.put _ _, fun k => ?_⟩ h5
  unfold putI
  by_cases e : k = key
  · subst e
    rw [if_pos rfl]
    exact Maps.atKey_put_same h2 (by trivial) _ _
  · rw [if_neg e, Maps.atKey_put_other (fun h => e (by injection h))]
    exact h3 k
theorem get_event {w : World} (hg : o.guard = none) (m x : Operand) (hop : o.op = Op.lookup 32 m x false) (b n : Nat) (f : Int → Int) (key : Int)
    (hm : a.eval m = .map (some b)) (hI : MI w b n f) (hx : a.eval x = .int .i64 key) (hk : (Lit.int .i64 key).wf = true)
    (hK : wpList Tryd.prog ops Q rest (a.put o.dst (.int .i64 (f key))) w) : wpList Tryd.prog ops Q (o :: rest) a w := by
  obtain ⟨D, h1, h2, h3⟩ := hI
  refine wpList_lookup_own_int w hg m x _ hop _ _ .i64 (Maps.int_keyed Tryd.underlying3) Tryd.underlying32 Tryd.underlying3 (zero_int w) b n D hm h1 _ _ hx (Maps.keyOf_int_mk Tryd.underlying3 hk) ?_
  intro c h4 _
  rw [h3 key] at h4
  injection h4 with h4
  injection h4 with _ h4
  subst h4
  exact hK
end
theorem grown_only {w w1 : World} {b B : Nat} {w0 : World} (h : Below B w0 w) (hg : w.grownBy w1 (some b)) (hB : B ≤ w.heap.size) (hb : B ≤ b) : Below B w0 w1 := h.grown hg hB (fun k e => by have := Option.some.inj e; omega)
theorem grown_blk {w w1 : World} {b g : Nat} {o : Obj} (h : w.heap[g]? = some o) (hg : w.grownBy w1 (some b)) (hne : g ≠ b) : w1.heap[g]? = some o := (hg.block g (blk_lt h) (fun e => hne (Option.some.inj e))).trans h
theorem fetch_none (aw : List ByteArray) (ms : List S34) (l : List S37) (h : ∀ (i : Nat) (hi : i < l.length), chgB ms l[i] = false) :
    ∀ n, n ≤ l.length → (fetchL aw ms l n).length = 0
  | 0, _ => by simp [fetchL]
  | n + 1, hn => by
    have hlt : n < l.length := by omega
    rw [fetch_at aw ms l n hlt, List.length_append, fetch_none aw ms l h n (by omega), h n hlt, if_neg (by decide)]
    rfl
theorem cuts_plain {ms : List S34} (hp : ms.Pairwise (fun a b => a.f0 < b.f0)) (aw : List ByteArray) (p : Int → Bool) (lm : List S34) (hlm : lm = ms.filter (fun m => p m.f0)) :
    (outS true lm (ms.map seenM)).length = lm.length ∧ (linesS true aw lm (ms.map seenM)).length = (ms.filter (fun m => !p m.f0)).length ∧ (outS false lm (ms.map seenM)).length = ms.length ∧ (linesS false aw lm (ms.map seenM)).length = 0 := by
  have hsub : ∀ m ∈ lm, m ∈ ms := fun m hm => by rw [hlm] at hm; exact (List.mem_filter.1 hm).1
  have hpl : lm.Pairwise (fun a b => a.f0 < b.f0) := by rw [hlm]; exact hp.filter _
  have huniq : ∀ m ∈ lm, ∀ x ∈ ms, m.f0 = x.f0 → m = x := by
    intro m hm x hx e
    obtain ⟨i, hi, rfl⟩ := List.getElem_of_mem (hsub m hm)
    obtain ⟨j, hj, rfl⟩ := List.getElem_of_mem hx
    have := pw_inj hp hi hj e
    subst this
    rfl
  have hhas : ∀ m ∈ ms, hasB lm (seenM m) = p m.f0 := by
    intro m hm
    by_cases e : p m.f0 = true
    · rw [e]
      exact (has_iff lm _).2 ⟨m, by rw [hlm]; exact List.mem_filter.2 ⟨hm, e⟩, rfl⟩
    · have e2 : p m.f0 = false := by simpa using e
      rw [e2]
      cases hh : hasB lm (seenM m) with
      | false => rfl
      | true =>
        obtain ⟨x, hx, ex⟩ := (has_iff lm _).1 hh
        have := huniq x hx m hm ex
        subst this
        rw [hlm] at hx
        exact absurd (List.mem_filter.1 hx).2 e
  have hchg : ∀ m ∈ ms, chgB lm (seenM m) = false := fun m hm => chg_false lm _ (fun x hx e => by rw [huniq x hx m hm e]; rfl)
  have hbase : (ms.map seenM).filter (hasB lm) = lm.map seenM := by
    rw [hlm, List.filter_map]
    congr 1
    apply List.filter_congr
    intro m hm
    show hasB _ (seenM m) = p m.f0
    rw [← hlm]
    exact hhas m hm
  have hnews : newsS (lastU (lm.map seenM)) lm = [] := news_nil (lastU_of hpl _ (seen_uid lm))
  have hnews2 : newsS (lastU (ms.map seenM)) lm = [] := news_nil (fun m hm => lastU_of hp _ (seen_uid ms) m (hsub m hm))
  have hb1 : baseS true lm (ms.map seenM) = lm.map seenM := by unfold baseS; rw [if_pos rfl, hbase]
  have hb2 : baseS false lm (ms.map seenM) = ms.map seenM := by unfold baseS; rw [if_neg (by decide)]
  have hf1 : fullS true lm (ms.map seenM) = lm.map seenM := by unfold fullS; rw [hb1, hnews, List.append_nil]
  have hf2 : fullS false lm (ms.map seenM) = ms.map seenM := by unfold fullS; rw [hb2, hnews2, List.append_nil]
  have hx1 : existS true lm (ms.map seenM) = [] := by unfold existS; rw [hb1, hnews, if_pos rfl]
  have hx2 : existS false lm (ms.map seenM) = [] := by unfold existS; rw [hb2, hnews2, if_pos rfl]
  have hg2 : goneS false lm (ms.map seenM) = [] := by unfold goneS; rw [if_neg (by decide)]
  have hg1 : (goneS true lm (ms.map seenM)).length = (ms.filter (fun m => !p m.f0)).length := by
    unfold goneS
    rw [if_pos rfl, lineG_all, List.filter_map, List.length_map]
    congr 1
    apply List.filter_congr
    intro m hm
    show (!hasB lm (seenM m)) = !p m.f0
    rw [hhas m hm]
  refine ⟨?_, ?_, ?_, ?_⟩
  · unfold outS; rw [hf1, List.length_map, List.length_map]
  · unfold linesS
    rw [hx1, hf1, List.append_nil, List.length_append, hg1, fetch_none aw lm (lm.map seenM) (fun i hi => by
      rw [List.getElem_map]
      exact hchg _ (hsub _ (List.getElem_mem _))) _ (Nat.le_refl _), Nat.add_zero]
  · unfold outS; rw [hf2, List.length_map, List.length_map]
  · unfold linesS
    rw [hx2, hf2, hg2, List.append_nil, List.nil_append]
    exact fetch_none aw lm (ms.map seenM) (fun i hi => by
      rw [List.getElem_map]
      exact hchg _ (List.getElem_mem _)) _ (Nat.le_refl _)
end Go.Proofs.YtplfpbfmnogckaaDoor.MpI
