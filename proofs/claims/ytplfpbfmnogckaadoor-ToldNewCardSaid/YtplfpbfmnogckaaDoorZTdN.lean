-- Printed by prune.py: the used part of a text.
import Derived.Test.YtplfpbfmnogckaaDoorZTdR
namespace Go.Proofs.YtplfpbfmnogckaaDoor.TdN
open Go.RowKit Go.Proofs.YtplfpbfmnogckaaDoorW.PrintWords Go.Proofs.YtplfpbfmnogckaaDoorW.PrintLast Go.Proofs.YtplfpbfmnogckaaDoorW.PrintMore Go.Proofs.YtplfpbfmnogckaaDoor.TdG Go.Proofs.YtplfpbfmnogckaaDoor.TdM Go.Proofs.YtplfpbfmnogckaaDoor.TdP Go.Proofs.YtplfpbfmnogckaaDoor.TdD Go.Proofs.YtplfpbfmnogckaaDoor.ItT Go.Proofs.YtplfpbfmnogckaaDoor.ItO Go.Proofs.YtplfpbfmnogckaaDoor.TdF Go.Proofs.YtplfpbfmnogckaaDoor.TdS Go.Proofs.YtplfpbfmnogckaaDoor.TdA Go.Proofs.YtplfpbfmnogckaaDoor.TdW
set_option linter.unusedVariables false
set_option linter.unusedSimpArgs false
theorem findP_spec (u : Int) : ∀ (l : List S34) (i : Nat), (findP u i l = -1 ∧ ∀ m ∈ l, m.f0 ≠ u) ∨ ∃ (j : Nat) (h : j < l.length), findP u i l = ((i + j : Nat) : Int) ∧ l[j].f0 = u
  | [], _ => .inl ⟨rfl, by simp⟩
  | m :: r, i => by
    rw [findP]
    by_cases h : m.f0 = u
    · rw [if_pos h]
      exact .inr ⟨0, by simp, by simp, h⟩
    · rw [if_neg h]
      rcases findP_spec u r (i + 1) with ⟨h1, h2⟩ | ⟨j, hj, h1, h2⟩
      · refine .inl ⟨h1, fun x hx => ?_⟩
        rcases List.mem_cons.1 hx with rfl | hx
        · exact h
        · exact h2 x hx
      · exact .inr ⟨j + 1, by simpa using hj, by rw [h1]; congr 1; omega, h2⟩
theorem has_iff (ms : List S34) (x : S37) : hasB ms x = true ↔ ∃ m ∈ ms, m.f0 = x.f0 := by
  unfold hasB
  rw [decide_eq_true_iff]
  rcases findP_spec x.f0 ms 0 with ⟨h1, h2⟩ | ⟨j, hj, h1, h2⟩
  · rw [h1]
    refine ⟨fun h => absurd h (by decide), fun ⟨m, hm, e⟩ => absurd e (h2 m hm)⟩
  · rw [h1]
    exact ⟨fun _ => ⟨_, List.getElem_mem hj, h2⟩, fun _ => by omega⟩
theorem chg_false (ms : List S34) (x : S37) (h : ∀ m ∈ ms, m.f0 = x.f0 → m.f1 = x.f1) : chgB ms x = false := by
  unfold chgB
  rcases findP_spec x.f0 ms 0 with ⟨h1, h2⟩ | ⟨j, hj, h1, h2⟩
  · rw [h1]
    rfl
  · rw [h1, Nat.zero_add, rdm_nat ms hj, h _ (List.getElem_mem hj) h2]
    simp
theorem upd_same (ms : List S34) (x : S37) (h : ∀ m ∈ ms, m.f0 = x.f0 → m.f1 = x.f1) : updS ms x = x := by
  unfold updS
  rcases findP_spec x.f0 ms 0 with ⟨h1, h2⟩ | ⟨j, hj, h1, h2⟩
  · rw [h1, if_neg (by decide)]
  · rw [h1, Nat.zero_add, if_pos (by omega), rdm_nat ms hj, h _ (List.getElem_mem hj) h2]
theorem lineG_count (ms : List S34) (l : List S37) : ∀ m, m ≤ l.length → (lineG ms l m).length = ((l.drop (l.length - m)).filter (fun x => !hasB ms x)).length
  | 0, _ => by simp [lineG]
  | m + 1, h => by
    have hj : l.length - (m + 1) < l.length := by omega
    have e : l.length - m = l.length - (m + 1) + 1 := by omega
    have e2 : l.length - 1 - m = l.length - (m + 1) := by omega
    rw [lineG, List.length_append, lineG_count ms l m (by omega), List.drop_eq_getElem_cons hj, ← e, List.filter_cons, e2, List.getD_eq_getElem?_getD, List.getElem?_eq_getElem hj]
    simp only [Option.getD_some]
    by_cases hb : hasB ms l[l.length - (m + 1)] = true
    · rw [if_pos hb, hb]; simp
    · rw [if_neg hb, if_pos (by simpa using hb)]; simp
theorem lineG_all (ms : List S34) (l : List S37) : (lineG ms l l.length).length = (l.filter (fun x => !hasB ms x)).length := by
  rw [lineG_count ms l l.length (Nat.le_refl _), Nat.sub_self, List.drop_zero]
theorem lastU_of {ms : List S34} (hp : ms.Pairwise (fun a b => a.f0 < b.f0)) (l : List S37) (h : l.map (·.f0) = ms.map (·.f0)) : ∀ m ∈ ms, m.f0 ≤ lastU l := by
  intro m hm
  have hne : ms ≠ [] := List.ne_nil_of_mem hm
  obtain ⟨D, z, rfl⟩ : ∃ D z, ms = D ++ [z] := ⟨_, _, (List.dropLast_concat_getLast hne).symm⟩
  have hl : (l.getLast?).map (·.f0) = some z.f0 := by
    rw [← List.getLast?_map, h, List.map_append, List.map_singleton, List.getLast?_concat]
  unfold lastU
  cases hg : l.getLast? with
  | none => rw [hg] at hl; cases hl
  | some x =>
    rw [hg] at hl
    have e : x.f0 = z.f0 := Option.some.inj hl
    show m.f0 ≤ x.f0
    rw [e]
    rcases List.mem_append.1 hm with h1 | h1
    · have := (List.pairwise_append.1 hp).2.2 m h1 z (List.mem_singleton.2 rfl)
      omega
    · rw [List.mem_singleton.1 h1]
      omega
theorem own_has {ms : List S34} (l : List S37) (h : l.map (·.f0) = ms.map (·.f0)) : ∀ x ∈ l, hasB ms x = true := by
  intro x hx
  have h1 : x.f0 ∈ l.map (·.f0) := List.mem_map.2 ⟨x, hx, rfl⟩
  rw [h] at h1
  obtain ⟨m, hm, e⟩ := List.mem_map.1 h1
  exact (has_iff ms x).2 ⟨m, hm, e⟩
theorem own_sync {ms : List S34} (hp : ms.Pairwise (fun a b => a.f0 < b.f0)) (aw : List ByteArray) (l : List S37) (h : l.map (·.f0) = ms.map (·.f0)) :
    fullS true ms l = l ∧ linesS true aw ms l = fetchL aw ms l l.length := by
  have hall := own_has l h
  have e1 : baseS true ms l = l := by
    unfold baseS
    rw [if_pos rfl]
    exact List.filter_eq_self.2 hall
  have e2 : newsS (lastU l) ms = [] := news_nil (lastU_of hp l h)
  have e3 : fullS true ms l = l := by
    unfold fullS
    rw [e1, e2, List.append_nil]
  have e4 : goneS true ms l = [] := by
    unfold goneS
    rw [if_pos rfl]
    apply List.length_eq_zero_iff.1
    rw [lineG_all, List.filter_eq_nil_iff.2 (fun x hx => by rw [hall x hx]; decide)]
    rfl
  refine ⟨e3, ?_⟩
  unfold linesS existS
  rw [e1, e2, if_pos rfl, e3, e4]
  rfl
theorem seen_uid (ms : List S34) : (ms.map seenM).map (·.f0) = ms.map (·.f0) := by
  rw [List.map_map]
  rfl
theorem pw_inj {ms : List S34} (hp : ms.Pairwise (fun a b => a.f0 < b.f0)) {i j : Nat} (hi : i < ms.length) (hj : j < ms.length) (h : ms[i].f0 = ms[j].f0) : i = j := by
  rcases Nat.lt_trichotomy i j with h1 | h1 | h1
  · have := List.pairwise_iff_getElem.1 hp i j hi hj h1
    omega
  · exact h1
  · have := List.pairwise_iff_getElem.1 hp j i hj hi h1
    omega
end Go.Proofs.YtplfpbfmnogckaaDoor.TdN
