-- Printed by prune.py: the used part of a text.
import Derived.Test.YtplfpbfmnogckaaDoorZTdP
import Derived.Deep.RegionLaw
import Derived.Lib.SliceRun
import Derived.Lib.SlicesDelete
import Derived.Outline
namespace Go.Proofs.YtplfpbfmnogckaaDoor.TdD
open Go.RowKit Go.Proofs.YtplfpbfmnogckaaDoorW.PrintWords Go.Proofs.YtplfpbfmnogckaaDoorW.PrintLast Go.Proofs.YtplfpbfmnogckaaDoorW.PrintMore Go.Proofs.YtplfpbfmnogckaaDoor.TdG Go.Proofs.YtplfpbfmnogckaaDoor.TdM Go.Proofs.YtplfpbfmnogckaaDoor.TdP
set_option linter.unusedVariables false
set_option linter.unusedSimpArgs false
def sC : List S37 → List Value
  | [] => []
  | x :: r => .int .i64 x.f0 :: .int .i64 x.f1 :: sC r
theorem sC_len : ∀ l, (sC l).length = l.length * 2
  | [] => rfl
  | x :: r => by simp only [sC, List.length_cons, sC_len r]; omega
theorem sC_take : ∀ (l) (i : Nat), (sC l).take (i * 2) = sC (l.take i)
  | _, 0 => by simp [sC]
  | [], i + 1 => by simp [sC]
  | x :: r, i + 1 => by
    rw [show (i + 1) * 2 = i * 2 + 1 + 1 by omega, sC, List.take_succ_cons, List.take_succ_cons, sC_take r i, List.take_succ_cons, sC]
theorem sC_drop : ∀ (l) (i : Nat), (sC l).drop (i * 2) = sC (l.drop i)
  | _, 0 => by simp
  | [], i + 1 => by simp [sC]
  | x :: r, i + 1 => by
    rw [show (i + 1) * 2 = i * 2 + 1 + 1 by omega, sC, List.drop_succ_cons, List.drop_succ_cons, sC_drop r i, List.drop_succ_cons]
theorem sC_app : ∀ (l m), sC (l ++ m) = sC l ++ sC m
  | [], m => rfl
  | x :: r, m => by rw [List.cons_append, sC, sC, sC_app r m]; rfl
theorem sC_one : ∀ (l), ∀ u ∈ sC l, u.oneCell' = true
  | [], u, h => by simp [sC] at h
  | x :: r, u, h => by
    rw [sC] at h
    rcases List.mem_cons.1 h with rfl | h
    · rfl
    · rcases List.mem_cons.1 h with rfl | h
      · rfl
      · exact sC_one r u h
theorem reps_sC {w : World} {base : Nat} {ok : Nat → Prop} : ∀ (l) (inner : List Value), Reps (k37.M w base ok) 2 l inner → inner = sC l
  | [], inner, h => List.length_eq_zero_iff.1 (by have := h.1; simpa using this)
  | x :: r, inner, h => by
    have hl : inner.length = (r.length + 1) * 2 := by have := h.1; simpa using this
    have h0 := k37_openM (h.2 0 x rfl)
    rw [Nat.zero_mul, List.drop_zero] at h0
    have ih := reps_sC r (inner.drop 2) ⟨by rw [List.length_drop]; omega, fun j p hj => by
      have := h.2 (j + 1) p (by simpa using hj)
      rw [List.drop_drop]
      rwa [show 2 + j * 2 = (j + 1) * 2 by omega]⟩
    rw [sC, ← ih, ← List.take_append_drop 2 inner, h0]
    simp
theorem sC_reps {w : World} {base : Nat} {ok : Nat → Prop} (l) : Reps (k37.M w base ok) 2 l (sC l) := by
  refine ⟨sC_len l, fun j p hj => ?_⟩
  obtain ⟨hlt, rfl⟩ := List.getElem?_eq_some_iff.1 hj
  rw [sC_drop, List.drop_eq_getElem_cons hlt, sC]
  exact k37_mkM w base ok _
theorem own_of_seen {w : World} {base : Nat} {ok : Nat → Prop} {v : Value} {l} (h : Kd.R k37 37 w base ok v l) : w.ownsRow base 37 2 v l.length (sC l) := by
  obtain ⟨_, inner, ho, hr⟩ := h
  rw [← reps_sC l inner hr]
  exact ho
theorem seen_of_own {w : World} {base : Nat} {ok : Nat → Prop} {v : Value} {l} (h : w.ownsRow base 37 2 v l.length (sC l)) (hok : ∀ k, v.ownBlock = some k → ok k) : Kd.R k37 37 w base ok v l := ⟨hok, sC l, h, sC_reps l⟩
theorem drew1 {w w1 : World} {row : Option Nat} (h : w.drew.grownBy w1 row) : w.grownBy w1 row := ⟨h.os, h.tape, h.output, h.size, h.block⟩
theorem grown_set {w w1 : World} {g : Nat} {row : Option Nat} (hr : row = some g) (h1 : w.os = w1.os) (h2 : w.tape = w1.tape) (h3 : w.output = w1.output) (h4 : w.heap = w1.heap) (o : Nat) (vs : List Value) : w.grownBy (w1.setCells g o vs) row := by
  obtain ⟨e1, e2, e3, e4⟩ := setCells_same g vs o w1
  refine ⟨e1.trans h1.symm, e2.trans h2.symm, e3.trans h3.symm, by rw [e4, h4]; exact Nat.le_refl _, fun k hk hne => ?_⟩
  rw [setCells_far vs o k (fun e => hne (by rw [hr, e])), h4]
theorem grown_trans {w w1 w2 : World} {row : Option Nat} (h1 : w.grownBy w1 row) (h2 : w1.grownBy w2 row) : w.grownBy w2 row :=
  ⟨h2.os.trans h1.os, h2.tape.trans h1.tape, h2.output.trans h1.output, Nat.le_trans h1.size h2.size, fun k hk hne => (h2.block k (Nat.lt_of_lt_of_le hk h1.size) hne).trans (h1.block k hk hne)⟩
theorem frozen_of {w : World} {g k : Nat} {cs : Array Value} {t : TypeId} (h : w.heap[g]? = some (.cells cs t (0, 0))) : w.frozen? ⟨g, k, none⟩ = false := by
  simp [World.frozen?, h]
theorem cell_of {w : World} {g j : Nat} {cs : Array Value} {t : TypeId} (h : w.heap[g]? = some (.cells cs t (0, 0))) : w.cell? ⟨g, j, none⟩ = cs[j]? := cell_of_row w g j cs t (0, 0) h
theorem run_clear2 (w : World) (ty : TypeId) (b o c : Nat)
    (hc : ∀ j, j < 2 → (w.cell? ⟨b, o + j, none⟩).isSome = true) (hf : ∀ j, j < 2 → w.frozen? ⟨b, o + j, none⟩ = false) :
    (Builtin.clear_ #[35] ty #[.slice (some ⟨b, o, none⟩) 1 c]).run Tryd.prog w = .ok (.tuple #[]) (w.setCells b o [.int .i64 0, .int .i64 0]) := by
  have hst := run_storeCells_cells (P := Tryd.prog) b o [.int .i64 0, .int .i64 0] 0 w (by simpa using hc) (by simpa using hf) (by intro v hv'; simp at hv'; subst hv'; rfl)
  simp only [Nat.add_zero] at hst
  have hz : ∀ w, (zeroValue 37).run Tryd.prog w = .ok (.agg #[.int .i64 0, .int .i64 0]) w := fun w => by kernel_rfl
  have hzc : (Builtin.zeroCells (Value.agg #[.int .i64 0, .int .i64 0]).cells 1).toList = [.int .i64 0, .int .i64 0] := by kernel_rfl
  simp [Builtin.clear_, run_underlying Tryd.underlying35, hz, hzc, hst]
theorem i_seen : ∃ i, Tryd.prog.info? 37 = some i ∧ i.size = 2 := by
  obtain ⟨i0, hi, hzz⟩ := Option.map_eq_some_iff.1 info37
  simp only [Prod.mk.injEq] at hzz
  exact ⟨i0, hi, hzz.2.1⟩
set_option maxHeartbeats 4000000 in
set_option maxRecDepth 1000000 in
theorem delete_cells (g n c i : Nat) (cur : Array Value) (w : World) (hg : w.heap[g]? = some (.cells cur 37 (0, 0))) (hi : i < n) (hnc : n ≤ c) (hcm : c ≤ maxLen) (hsz : cur.size = c * 2) (h1 : ∀ u ∈ cur.toList.take (n * 2), u.oneCell' = true) :
    Calls Tryd.prog 48 #[.slice (some ⟨g, 0, none⟩) n c, .int .i64 (i : Int), .int .i64 ((i : Int) + 1)] w fun e w' => e = .returned (.slice (some ⟨g, 0, none⟩) (n - 1) c) ∧
      w' = (w.drew.setCells g (i * 2) ((cur.toList.take (n * 2)).drop ((i + 1) * 2))).setCells g ((n - 1) * 2) [.int .i64 0, .int .i64 0] := by
  obtain ⟨i0, hi0, hz1⟩ := i_seen
  obtain ⟨news, hnews⟩ : ∃ news, news = (cur.toList.take (n * 2)).drop ((i + 1) * 2) := ⟨_, rfl⟩
  rw [← hnews]
  have hlen : news.length = (n - (i + 1)) * 2 := by rw [hnews]; simp; omega
  have hget : ∀ (t : Nat) (u : Value), news[t]? = some u → cur[(i + 1) * 2 + t]? = some u := by
    intro t u hu
    rw [hnews, List.getElem?_drop, List.getElem?_take] at hu
    split at hu
    · rwa [Array.getElem?_toList] at hu
    · cases hu
  have hs2 : Aside0 (∀ u ∈ news, u.oneCell' = true) := ⟨fun u hu => h1 u (by rw [hnews] at hu; exact List.mem_of_mem_drop hu)⟩
  unfold maxLen at hcm
  obtain ⟨A, hA, hsrc⟩ : ∃ A : Addr, Aside0 ((if c = i + 1 then some (⟨g, 0, none⟩ : Addr) else some ⟨g, (i + 1) * 2, none⟩) = some A) ∧ Aside0 (∀ t u, news[t]? = some u → w.drew.cell? (A.add t) = some u) := by
    by_cases h : c = i + 1
    · refine ⟨⟨g, 0, none⟩, ⟨by rw [if_pos h]⟩, ⟨fun t u hu => ?_⟩⟩
      have h0 : news.length = 0 := by rw [hlen]; omega
      rw [List.length_eq_zero_iff.1 h0] at hu
      simp at hu
    · refine ⟨⟨g, (i + 1) * 2, none⟩, ⟨by rw [if_neg h]⟩, ⟨fun t u hu => ?_⟩⟩
      have e : (⟨g, (i + 1) * 2, none⟩ : Addr).add t = ⟨g, (i + 1) * 2 + t, none⟩ := by unfold Addr.add; split <;> simp_all
      rw [e]
      exact (cell_of hg).trans (hget t u hu)
  have hs3 : Aside0 (∀ t, t < news.length → (w.drew.cell? ⟨g, 0 + i * 2 + t, none⟩).isSome = true ∧ w.drew.frozen? ⟨g, 0 + i * 2 + t, none⟩ = false) := ⟨fun t ht => by
    rw [hlen] at ht
    refine ⟨?_, frozen_of (w := w.drew) hg⟩
    show (w.cell? _).isSome = true
    rw [cell_of hg, Array.getElem?_eq_getElem (by omega)]
    rfl⟩
  obtain ⟨cur1, h2, h3, h4⟩ := setCells_row news (0 + i * 2) w.drew cur hg (by rw [hlen]; omega)
  obtain ⟨W1, hW1⟩ : ∃ W1, W1 = w.drew.setCells g (0 + i * 2) news := ⟨_, rfl⟩
  rw [← hW1] at h2
  have e1 : i + (n - (i + 1)) = n - 1 := by omega
  have e2 : n - (n - 1) = 1 := by omega
  have hcl : ∀ ty, (Builtin.clear_ #[35] ty #[.slice (some ⟨g, (i + (n - (i + 1))) * 2, none⟩) (n - (i + (n - (i + 1)))) (c - (i + (n - (i + 1))))]).run Tryd.prog W1 = .ok (.tuple #[]) (W1.setCells g ((n - 1) * 2) [.int .i64 0, .int .i64 0]) := by
    intro ty
    rw [e1, e2]
    exact run_clear2 W1 ty g ((n - 1) * 2) (c - (n - 1)) (fun j hj => by rw [cell_of h2, Array.getElem?_eq_getElem (by omega)]; rfl) (fun j hj => frozen_of h2)
  have hs1 := Aside0.mk hlen
  have HW := Aside0.mk hW1
  clear hget hnews hlen h2 h3 h4 hg hsz h1 e1 e2 hW1
  go_enter Tryd.func48, Tryd.ntmps48
  go_wp2_with fail
  have hA2 := hA.out
  have hic : i ≤ c := by omega
  have hjc : i + 1 ≤ c := by omega
  have hj0 : (0 : Int) ≤ (i : Int) + 1 := by omega
  have hj1 : (i : Int) + 1 ≤ (n : Int) := by omega
  go_region_law (refine step_append_room rfl (.tmp 22) (.tmp 25) 35 rfl 37 i0 2 Tryd.underlying35 hi0 hz1 g 0 i c (by simp [Act.eval, Act.put]) A (n - (i + 1)) (c - (i + 1)) news (by simp [Act.eval, Act.put]) hs1.out hsrc.out hs2.out (by omega) hs3.out ?_; rw [← HW.out])
  clear hA2
  go_wp2
  go_ret
  have e1 : i + (n - (i + 1)) = n - 1 := by omega
  exact ⟨by rw [e1]; rfl, by rw [← Nat.zero_add (i * 2), ← HW.out]⟩
theorem take_put {m : Nat} (X Y Z : List Value) (h : X.length = m) : ((X ++ Y).take m ++ Z).take m = X := by
  subst h
  simp [List.take_append]
theorem delete_seen {w : World} {base : Nat} {ok : Nat → Prop} {v : Value} {l : List S37} (h : Kd.R k37 37 w base ok v l) {i : Nat} (hi : i < l.length) :
    Calls Tryd.prog 48 #[v, .int .i64 (i : Int), .int .i64 ((i : Int) + 1)] w fun e w' => ∃ v', e = .returned v' ∧ Kd.R k37 37 w' base ok v' (l.take i ++ l.drop (i + 1)) ∧ w.grownBy w' v.ownBlock ∧ v'.ownBlock = v.ownBlock := by
  have hok := h.1
  have hown := own_of_seen h
  rcases hown.2 with ⟨rfl, h0⟩ | ⟨g, cap, cur, rfl, hb, hg, hnc, hcm, hsz, ht⟩
  · omega
  · have hl := sC_len l
    refine (delete_cells g l.length cap i cur w hg hi hnc hcm hsz (by rw [ht]; exact sC_one l)).mono ?_
    rintro e w' ⟨rfl, rfl⟩
    rw [ht, sC_drop]
    obtain ⟨cur1, h2, h3, h4⟩ := setCells_row (sC (l.drop (i + 1))) (i * 2) w.drew cur hg (by rw [sC_len, List.length_drop]; omega)
    obtain ⟨cur2, h5, h6, h7⟩ := setCells_row [.int .i64 0, .int .i64 0] ((l.length - 1) * 2) _ cur1 h2 (by simp; omega)
    have hlen : (l.take i ++ l.drop (i + 1)).length = l.length - 1 := by simp; omega
    refine ⟨_, rfl, seen_of_own (by
      rw [hlen]
      refine ⟨by rw [sC_len, hlen], .inr ⟨g, cap, cur2, rfl, hb, h5, by omega, hcm, by omega, ?_⟩⟩
      have e3 : (cur.toList.take (i * 2)).length = i * 2 := by rw [List.length_take, Array.length_toList]; omega
      have e4 : (cur.toList.take (i * 2) ++ sC (l.drop (i + 1))).length = (l.length - 1) * 2 := by rw [List.length_append, e3, sC_len, List.length_drop]; omega
      rw [h7, h4, List.append_assoc, take_put _ _ _ e4, sC_app, ← sC_take l i, ← ht, List.take_take]
      congr 2
      omega) (fun k hk => hok k hk), drew1 (grown_trans (grown_set rfl rfl rfl rfl rfl _ _) (grown_set rfl rfl rfl rfl rfl _ _)), rfl⟩
theorem clip_calls (A : Option Addr) (n c : Nat) (w : World) (h : n ≤ c) : Calls Tryd.prog 34 #[.slice A n c] w fun e w' => e = .returned (.slice A n n) ∧ w' = w := by
  have h1 : (n : Int) ≤ (c : Int) := by omega
  go_enter Tryd.func34, Tryd.ntmps34
  cases A with
  | none =>
    go_wp2
    go_ret
    exact ⟨rfl, rfl⟩
  | some ad =>
    go_wp2
    go_ret
    exact ⟨rfl, rfl⟩
end Go.Proofs.YtplfpbfmnogckaaDoor.TdD
