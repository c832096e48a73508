-- Printed by prune.py: the used part of a text.
import Derived.Test.YtplfpbfmnogckaaDoorZMpI
namespace Go.Proofs.YtplfpbfmnogckaaDoor.TdH
open Go.RowKit Go.Proofs.YtplfpbfmnogckaaDoorW.PrintWords Go.Proofs.YtplfpbfmnogckaaDoorW.PrintLast Go.Proofs.YtplfpbfmnogckaaDoorW.PrintMore Go.Proofs.YtplfpbfmnogckaaDoor.TdG Go.Proofs.YtplfpbfmnogckaaDoor.TdM Go.Proofs.YtplfpbfmnogckaaDoor.TdP Go.Proofs.YtplfpbfmnogckaaDoor.TdD Go.Proofs.YtplfpbfmnogckaaDoor.ItT Go.Proofs.YtplfpbfmnogckaaDoor.ItO Go.Proofs.YtplfpbfmnogckaaDoor.TdF Go.Proofs.YtplfpbfmnogckaaDoor.TdS Go.Proofs.YtplfpbfmnogckaaDoor.TdA Go.Proofs.YtplfpbfmnogckaaDoor.TdW Go.Proofs.YtplfpbfmnogckaaDoor.TdN Go.Proofs.YtplfpbfmnogckaaDoor.MpI
set_option linter.unusedVariables false
set_option linter.unusedSimpArgs false
def GoodZ (ms : List S34) (i : Nat) (f : Int → Int) : Prop := (∀ j (hj : j < ms.length), j < i → f ms[j].f0 = (j : Int) + 1) ∧ ∀ u, (∀ j (hj : j < ms.length), j < i → ms[j].f0 ≠ u) → f u = 0
def GoodI (ms : List S34) (K : Nat) (g : Int → Int) : Prop := (∀ j (hj : j < ms.length), j < K → g ms[j].f0 = (j : Int) + 1) ∧ ∀ u, (∀ j (hj : j < ms.length), j < K → ms[j].f0 ≠ u) → g u = 0 ∨ g u = -1
theorem goodZ_zero (ms) : GoodZ ms 0 (fun _ => 0) := ⟨fun j _ h => absurd h (Nat.not_lt_zero j), fun _ _ => rfl⟩
theorem goodZ_put {ms : List S34} (hp : ms.Pairwise (fun a b => a.f0 < b.f0)) {i : Nat} {f : Int → Int} (h : GoodZ ms i f) (hi : i < ms.length) : GoodZ ms (i + 1) (putI f ms[i].f0 ((i : Int) + 1)) := by
  refine ⟨fun j hj hlt => ?_, fun u hu => ?_⟩
  · unfold putI
    by_cases e : ms[j].f0 = ms[i].f0
    · rw [if_pos e, pw_inj hp hj hi e]
    · rw [if_neg e]
      refine h.1 j hj ?_
      rcases Nat.lt_or_ge j i with h1 | h1
      · exact h1
      · have e2 : j = i := by omega
        subst e2
        exact absurd rfl e
  · unfold putI
    rw [if_neg (fun e => hu i hi (by omega) e.symm)]
    exact h.2 u (fun j hj hlt => hu j hj (by omega))
theorem goodI_of {ms : List S34} {K : Nat} {f : Int → Int} (h : GoodZ ms K f) : GoodI ms K f := ⟨h.1, fun u hu => .inl (h.2 u hu)⟩
theorem goodI_put {ms : List S34} {K : Nat} {g : Int → Int} (h : GoodI ms K g) (u : Int) (hu : g u = 0) : GoodI ms K (putI g u (-1)) := by
  refine ⟨fun j hj hlt => ?_, fun x hx => ?_⟩
  · unfold putI
    rw [if_neg (fun e => by have := h.1 j hj hlt; rw [e, hu] at this; omega)]
    exact h.1 j hj hlt
  · unfold putI
    by_cases e : x = u
    · rw [if_pos e]; exact .inr rfl
    · rw [if_neg e]; exact h.2 x hx
theorem goodI_cases {ms : List S34} {K : Nat} {g : Int → Int} (h : GoodI ms K g) (u : Int) : (∃ j, ∃ hj : j < ms.length, j < K ∧ ms[j].f0 = u ∧ g u = (j : Int) + 1) ∨ ((∀ j (hj : j < ms.length), j < K → ms[j].f0 ≠ u) ∧ (g u = 0 ∨ g u = -1)) := by
  by_cases hx : ∃ j, ∃ hj : j < ms.length, j < K ∧ ms[j].f0 = u
  · obtain ⟨j, hj, h1, h2⟩ := hx
    exact .inl ⟨j, hj, h1, h2, by rw [← h2]; exact h.1 j hj h1⟩
  · have hn : ∀ j (hj : j < ms.length), j < K → ms[j].f0 ≠ u := fun j hj h1 e => hx ⟨j, hj, h1, e⟩
    exact .inr ⟨hn, h.2 u hn⟩
def viewN (ms : List S34) (g : Int → Int) : Nat → List S37
  | 0 => []
  | q + 1 => viewN ms g q ++ (if g ((q : Int) + 1) < 0 then [⟨(q : Int) + 1, 1⟩] else if 0 < g ((q : Int) + 1) then [⟨(q : Int) + 1, (rd_T34 ms (g ((q : Int) + 1) - 1)).f1⟩] else [])
def lostN (g : Int → Int) : Nat → Nat
  | 0 => 0
  | q + 1 => lostN g q + (if g ((q : Int) + 1) < 0 then 1 else 0)
theorem viewN_len (ms) (g : Int → Int) : ∀ q, (viewN ms g q).length ≤ q
  | 0 => Nat.le_refl 0
  | q + 1 => by
    have := viewN_len ms g q
    rw [viewN, List.length_append]
    split
    · simp; omega
    · split
      · simp; omega
      · simp; omega
theorem lostN_le (g : Int → Int) : ∀ q, lostN g q ≤ q
  | 0 => Nat.le_refl 0
  | q + 1 => by
    have := lostN_le g q
    rw [lostN]
    split <;> omega
theorem filter_le (c : Int) : ∀ (l : List S34), l.Pairwise (fun a b => a.f0 < b.f0) → l.filter (fun m => decide (m.f0 ≤ c + 1)) = l.filter (fun m => decide (m.f0 ≤ c)) ++ l.filter (fun m => decide (m.f0 = c + 1))
  | [], _ => rfl
  | m :: r, h => by
    obtain ⟨h1, h2⟩ := List.pairwise_cons.1 h
    have ih := filter_le c r h2
    by_cases e1 : m.f0 ≤ c
    · rw [List.filter_cons, if_pos (decide_eq_true (by omega)), List.filter_cons, if_pos (decide_eq_true e1), List.filter_cons, if_neg (by simp; omega), ih]; rfl
    · have hz : r.filter (fun m => decide (m.f0 ≤ c)) = [] := List.filter_eq_nil_iff.2 (fun x hx => by have := h1 x hx; simp; omega)
      rw [hz, List.nil_append] at ih
      have hz2 : (m :: r).filter (fun m => decide (m.f0 ≤ c)) = [] := List.filter_eq_nil_iff.2 (fun x hx => by
        rcases List.mem_cons.1 hx with rfl | hx
        · simp; omega
        · have := h1 x hx; simp; omega)
      rw [hz2, List.nil_append]
      by_cases e2 : m.f0 = c + 1
      · rw [List.filter_cons, if_pos (decide_eq_true (by omega)), List.filter_cons, if_pos (decide_eq_true e2), ih]
      · rw [List.filter_cons, if_neg (by simp; omega), List.filter_cons, if_neg (by simp; omega), ih]
theorem filter_one {ms : List S34} (hp : ms.Pairwise (fun a b => a.f0 < b.f0)) (j : Nat) (hj : j < ms.length) (u : Int) (hu : ms[j].f0 = u) : ms.filter (fun m => decide (m.f0 = u)) = [ms[j]] := by
  have e : ms = ms.take j ++ ms[j] :: ms.drop (j + 1) := by rw [← List.drop_eq_getElem_cons hj, List.take_append_drop]
  have hp2 := hp
  rw [e, List.pairwise_append] at hp2
  obtain ⟨_, h2, h3⟩ := hp2
  have z1 : (ms.take j).filter (fun m => decide (m.f0 = u)) = [] := List.filter_eq_nil_iff.2 (fun x hx => by have := h3 x hx ms[j] List.mem_cons_self; simp; omega)
  have z2 : (ms.drop (j + 1)).filter (fun m => decide (m.f0 = u)) = [] := List.filter_eq_nil_iff.2 (fun x hx => by have := (List.pairwise_cons.1 h2).1 x hx; simp; omega)
  have h4 := congrArg (fun l => l.filter (fun m => decide (m.f0 = u))) e
  simp only [List.filter_append, List.filter_cons] at h4
  rw [z1, z2, if_pos (decide_eq_true hu)] at h4
  exact h4
theorem viewN_has {ms : List S34} (hp : ms.Pairwise (fun a b => a.f0 < b.f0)) (h1 : ∀ m ∈ ms, 1 ≤ m.f0) {K : Nat} {g : Int → Int} (hg : GoodI ms K g) (L : Nat) (hL2 : ∀ j (hj : j < ms.length), K ≤ j → (L : Int) < ms[j].f0) :
    ∀ q, q ≤ L → (viewN ms g q).filter (hasB ms) = (ms.filter (fun m => decide (m.f0 ≤ (q : Int)))).map seenM ∧ ((viewN ms g q).filter (fun x => !hasB ms x)).length = lostN g q
  | 0, _ => by
    refine ⟨?_, rfl⟩
    have hz : ms.filter (fun m => decide (m.f0 ≤ ((0 : Nat) : Int))) = [] := List.filter_eq_nil_iff.2 (fun x hx => by have := h1 x hx; simp; omega)
    rw [hz]
    rfl
  | q + 1, hq => by
    obtain ⟨i1, i2⟩ := viewN_has hp h1 hg L hL2 q (by omega)
    have hcast : (((q + 1 : Nat)) : Int) = (q : Int) + 1 := by omega
    rw [hcast, filter_le (q : Int) ms hp, List.map_append, viewN, lostN, List.filter_append, List.filter_append, List.length_append, i1, i2]
    rcases goodI_cases hg ((q : Int) + 1) with ⟨j, hj, hjK, e1, e2⟩ | ⟨hn, e2⟩
    · have hb : hasB ms (seenM ms[j]) = true := (has_iff ms _).2 ⟨ms[j], List.getElem_mem hj, rfl⟩
      have ex : (⟨(q : Int) + 1, (rd_T34 ms ((j : Int) + 1 - 1)).f1⟩ : S37) = seenM ms[j] := by
        rw [show (j : Int) + 1 - 1 = (j : Int) by omega, rdm_nat ms hj, ← e1]
        rfl
      rw [e2, if_neg (by omega), if_pos (by omega), if_neg (by omega), ex, filter_one hp j hj _ e1, List.filter_cons, if_pos hb, List.filter_cons, if_neg (by rw [hb]; decide)]
      exact ⟨rfl, rfl⟩
    · have hno : ∀ m ∈ ms, m.f0 ≠ (q : Int) + 1 := by
        intro m hm
        obtain ⟨j, hj, rfl⟩ := List.getElem_of_mem hm
        by_cases hjK : j < K
        · exact hn j hj hjK
        · have := hL2 j hj (by omega)
          omega
      have hz : ms.filter (fun m => decide (m.f0 = (q : Int) + 1)) = [] := List.filter_eq_nil_iff.2 (fun x hx => by simpa using hno x hx)
      have hb : ∀ md, hasB ms (⟨(q : Int) + 1, md⟩ : S37) = false := by
        intro md
        cases hh : hasB ms (⟨(q : Int) + 1, md⟩ : S37) with
        | false => rfl
        | true =>
          obtain ⟨m, hm, e⟩ := (has_iff ms _).1 hh
          exact absurd e (hno m hm)
      rw [hz]
      rcases e2 with e2 | e2
      · rw [e2, if_neg (by omega), if_neg (by omega), if_neg (by omega)]
        exact ⟨rfl, rfl⟩
      · rw [e2, if_pos (by omega), if_pos (by omega), List.filter_cons, if_neg (by rw [hb]; decide), List.filter_cons, if_pos (by rw [hb]; decide)]
        exact ⟨rfl, rfl⟩
theorem new_plain {ms : List S34} (hp : ms.Pairwise (fun a b => a.f0 < b.f0)) (h1 : ∀ m ∈ ms, 1 ≤ m.f0) (aw : List ByteArray) {K : Nat} (hK : K ≤ ms.length) {g : Int → Int} (hg : GoodI ms K g) (L : Nat) (hL1 : ∀ j (hj : j < ms.length), j < K → ms[j].f0 ≤ (L : Int)) (hL2 : ∀ j (hj : j < ms.length), K ≤ j → (L : Int) < ms[j].f0) :
    outS true ms (viewN ms g L) = ms.map seenM ∧ (linesS true aw ms (viewN ms g L)).length = lostN g L + (if K < ms.length then 1 else 0) ∧ outS true ms (ms.map seenM) = ms.map seenM ∧ (linesS true aw ms (ms.map seenM)).length = 0 := by
  obtain ⟨v1, v2⟩ := viewN_has hp h1 hg L hL2 L (Nat.le_refl L)
  have htd := List.take_append_drop K ms
  have memT : ∀ m ∈ ms.take K, m.f0 ≤ (L : Int) := by
    intro m hm
    obtain ⟨i, hi, rfl⟩ := List.getElem_of_mem hm
    rw [List.length_take] at hi
    rw [List.getElem_take]
    exact hL1 i (by omega) (by omega)
  have memD : ∀ m ∈ ms.drop K, (L : Int) < m.f0 := by
    intro m hm
    obtain ⟨i, hi, rfl⟩ := List.getElem_of_mem hm
    rw [List.length_drop] at hi
    rw [List.getElem_drop]
    exact hL2 (K + i) (by omega) (by omega)
  have hfl : ms.filter (fun m => decide (m.f0 ≤ (L : Int))) = ms.take K := by
    conv => lhs; rw [← htd]
    rw [List.filter_append, List.filter_eq_self.2 (fun x hx => decide_eq_true (memT x hx)), List.filter_eq_nil_iff.2 (fun x hx => by have := memD x hx; simp; omega), List.append_nil]
  rw [hfl] at v1
  have hpT : (ms.take K).Pairwise (fun a b => a.f0 < b.f0) := hp.sublist (List.take_sublist K ms)
  have hlu : ∀ m ∈ ms.drop K, lastU ((ms.take K).map seenM) < m.f0 := by
    intro m hm
    unfold lastU
    cases hgl : ((ms.take K).map seenM).getLast? with
    | none =>
      have := h1 m (List.mem_of_mem_drop hm)
      show (0 : Int) < m.f0
      omega
    | some x =>
      obtain ⟨y, hy, rfl⟩ := List.mem_map.1 (List.mem_of_getLast? hgl)
      have h2 := memT y hy
      have h3 := memD m hm
      show y.f0 < m.f0
      omega
  have hnews : newsS (lastU ((ms.take K).map seenM)) ms = (ms.drop K).map seenM := by
    have hlt : ∀ m ∈ ms.take K, m.f0 ≤ lastU ((ms.take K).map seenM) := lastU_of hpT _ (seen_uid _)
    generalize lastU ((ms.take K).map seenM) = c at hlu hlt
    unfold newsS
    congr 1
    conv => lhs; rw [← htd]
    rw [List.filter_append, List.filter_eq_nil_iff.2 (fun x hx => by have := hlt x hx; simp; omega), List.filter_eq_self.2 (fun x hx => decide_eq_true (hlu x hx)), List.nil_append]
  have hb1 : baseS true ms (viewN ms g L) = (ms.take K).map seenM := by unfold baseS; rw [if_pos rfl, v1]
  have hf1 : fullS true ms (viewN ms g L) = ms.map seenM := by unfold fullS; rw [hb1, hnews, ← List.map_append, htd]
  have hf2 : fullS true ms (ms.map seenM) = ms.map seenM := (own_sync hp aw _ (seen_uid ms)).1
  have hl2 := (own_sync hp aw _ (seen_uid ms)).2
  have huq : ∀ m ∈ ms, ∀ x ∈ ms, x.f0 = m.f0 → x.f1 = m.f1 := by
    intro m hm x hx e
    obtain ⟨i, hi, rfl⟩ := List.getElem_of_mem hm
    obtain ⟨j, hj, rfl⟩ := List.getElem_of_mem hx
    have := pw_inj hp hj hi e
    subst this
    rfl
  have hout : (ms.map seenM).map (updS ms) = ms.map seenM := by
    rw [List.map_map]
    apply List.map_congr_left
    intro m hm
    exact upd_same ms (seenM m) (fun x hx e => huq m hm x hx e)
  have hfn : (fetchL aw ms (ms.map seenM) (ms.map seenM).length).length = 0 := fetch_none aw ms _ (fun i hi => by
    rw [List.getElem_map]
    exact chg_false ms _ (fun x hx e => huq _ (List.getElem_mem _) x hx e)) _ (Nat.le_refl _)
  refine ⟨?_, ?_, ?_, ?_⟩
  · unfold outS; rw [hf1, hout]
  · unfold linesS
    have hgn : (goneS true ms (viewN ms g L)).length = lostN g L := by
      unfold goneS
      rw [if_pos rfl, lineG_all]
      exact v2
    have hex : (existS true ms (viewN ms g L)).length = if K < ms.length then 1 else 0 := by
      unfold existS
      rw [hb1, hnews]
      by_cases hk : K < ms.length
      · rw [if_pos hk, if_neg (by intro e; have := congrArg List.length e; rw [List.length_map, List.length_drop] at this; simp at this; omega)]
        rfl
      · rw [if_neg hk, if_pos (by rw [List.drop_of_length_le (by omega)]; rfl)]
        rfl
    rw [hf1, List.length_append, List.length_append, hgn, hex, hfn, Nat.add_zero]
  · unfold outS; rw [hf2, hout]
  · rw [hl2]; exact hfn
end Go.Proofs.YtplfpbfmnogckaaDoor.TdH
