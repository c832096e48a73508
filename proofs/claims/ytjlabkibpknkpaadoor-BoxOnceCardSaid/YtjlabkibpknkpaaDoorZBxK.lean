-- Written by a program of this claim's session (wip/tool/prune.py): what is used of a longer text. Not trusted: Lean checks it.
import Derived.Test.YtjlabkibpknkpaaDoorZBxA
namespace Go.Proofs.YtjlabkibpknkpaaDoor.BxK
open Go.RowKit Go.Proofs.YtjlabkibpknkpaaDoorW.PrintWords Go.Proofs.YtjlabkibpknkpaaDoorW.PrintLast Go.Proofs.YtjlabkibpknkpaaDoorW.PrintMore Go.Proofs.YtjlabkibpknkpaaDoor.FmM Go.Proofs.YtjlabkibpknkpaaDoor.PkP Go.Proofs.YtjlabkibpknkpaaDoor.FmN Go.Proofs.YtjlabkibpknkpaaDoor.FmB Go.Proofs.YtjlabkibpknkpaaDoor.FmC Go.Proofs.YtjlabkibpknkpaaDoor.FmH Go.Proofs.YtjlabkibpknkpaaDoor.BxF Go.Proofs.YtjlabkibpknkpaaDoor.BxA
set_option linter.unusedVariables false
set_option linter.unusedSimpArgs false
theorem msgsOk_iff (nw next high : Int) : ∀ (l : List S31) (last : Int), msgsOk nw next high last l = true ↔ (∀ m ∈ l, msgOk nw m = true ∧ last < m.f0 ∧ m.f0 < next ∧ m.f1 ≤ high) ∧ l.Pairwise (fun a b => a.f0 < b.f0)
  | [], last => by simp [msgsOk]
  | m :: r, last => by
    rw [msgsOk]
    have ih := msgsOk_iff nw next high r m.f0
    by_cases h0 : msgOk nw m = true
    · rw [if_pos h0]
      by_cases h1 : m.f0 ≤ last
      · rw [if_pos h1]
        refine ⟨fun h => by simp at h, fun h => ?_⟩
        have := (h.1 m (by simp)).2.1
        omega
      · rw [if_neg h1]
        by_cases h2 : m.f0 ≥ next
        · rw [if_pos h2]
          refine ⟨fun h => by simp at h, fun h => ?_⟩
          have := (h.1 m (by simp)).2.2.1
          omega
        · rw [if_neg h2]
          by_cases h3 : m.f1 > high
          · rw [if_pos h3]
            refine ⟨fun h => by simp at h, fun h => ?_⟩
            have := (h.1 m (by simp)).2.2.2
            omega
          · rw [if_neg h3, ih, List.pairwise_cons]
            constructor
            · rintro ⟨ha, hp⟩
              refine ⟨fun x hx => ?_, fun x hx => (ha x hx).2.1, hp⟩
              rcases List.mem_cons.1 hx with rfl | hx
              · exact ⟨h0, by omega, by omega, by omega⟩
              · obtain ⟨q0, q1, q2, q3⟩ := ha x hx
                exact ⟨q0, by omega, q2, q3⟩
            · rintro ⟨ha, hp1, hp⟩
              refine ⟨fun x hx => ?_, hp⟩
              obtain ⟨q0, q1, q2, q3⟩ := ha x (List.mem_cons_of_mem _ hx)
              exact ⟨q0, hp1 x hx, q2, q3⟩
    · rw [if_neg h0]
      refine ⟨fun h => by simp at h, fun h => ?_⟩
      exact absurd (h.1 m (by simp)).1 h0
theorem may_parts {a0 : ByteArray} {a1 a2 a3 : Int} {ws : List ByteArray} {ms : List S31} (h : boxP a0 a1 a2 a3 ws ms = 0) :
    headOk a0 a1 a2 a3 = true ∧ ws.length ≤ 64 ∧ ms.length ≤ 60 ∧ wordsOk [] ws = true ∧ msgsOk (ws.length : Int) a2 a3 0 ms = true := by
  unfold boxP at h
  by_cases h0 : headOk a0 a1 a2 a3 = true
  · rw [if_pos h0] at h
    by_cases h1 : ws.length ≤ 64 ∧ ms.length ≤ 60
    · rw [if_pos h1] at h
      unfold bit01 at h
      by_cases h2 : (wordsOk [] ws && msgsOk (ws.length : Int) a2 a3 0 ms) = true
      · rw [Bool.and_eq_true] at h2
        exact ⟨h0, h1.1, h1.2, h2.1, h2.2⟩
      · rw [if_neg h2] at h
        exact absurd h (by decide)
    · rw [if_neg h1] at h
      exact absurd h (by decide)
  · rw [if_neg h0] at h
    exact absurd h (by decide)
theorem may_of {a0 : ByteArray} {a1 a2 a3 : Int} {ws : List ByteArray} {ms : List S31} (h : headOk a0 a1 a2 a3 = true) (h1 : ws.length ≤ 64) (h2 : ms.length ≤ 60) (h3 : wordsOk [] ws = true) (h4 : msgsOk (ws.length : Int) a2 a3 0 ms = true) : boxP a0 a1 a2 a3 ws ms = 0 := by
  unfold boxP bit01
  rw [if_pos h, if_pos ⟨h1, h2⟩, h3, h4]
  rfl
def lessL (l : List S31) (k : Nat) : List S31 := l.take k ++ l.drop (k + 1)
def twiceL (l : List S31) (k : Nat) (m : S31) : List S31 := l.take (k + 1) ++ [m] ++ l.drop (k + 1)
theorem less_sub (l : List S31) (k : Nat) : (lessL l k).Sublist l := by
  have h : (l.take k ++ l.drop (k + 1)).Sublist (l.take k ++ l.drop k) := (List.Sublist.refl _).append (List.drop_sublist_drop_left l (Nat.le_succ k))
  rw [List.take_append_drop] at h
  exact h
theorem less_may {a0 : ByteArray} {a1 a2 a3 : Int} {ws : List ByteArray} {ms : List S31} (h : boxP a0 a1 a2 a3 ws ms = 0) (k : Nat) : boxP a0 a1 a2 a3 ws (lessL ms k) = 0 := by
  obtain ⟨h0, h1, h2, h3, h4⟩ := may_parts h
  have hs := less_sub ms k
  obtain ⟨p1, p2⟩ := (msgsOk_iff _ _ _ _ _).1 h4
  exact may_of h0 h1 (Nat.le_trans hs.length_le h2) h3 ((msgsOk_iff _ _ _ _ _).2 ⟨fun m hm => p1 m (hs.subset hm), p2.sublist hs⟩)
theorem findP_none (u : Int) : ∀ (l : List S31) (i : Nat), (∀ m ∈ l, m.f0 ≠ u) → findP u i l = -1
  | [], _, _ => rfl
  | m :: r, i, h => by rw [findP, if_neg (h m (by simp))]; exact findP_none u r (i + 1) (fun x hx => h x (List.mem_cons_of_mem _ hx))
theorem findP_at : ∀ (l : List S31) (i j : Nat) (hj : j < l.length), l.Pairwise (fun a b => a.f0 < b.f0) → findP l[j].f0 i l = ((i + j : Nat) : Int)
  | m :: r, i, 0, _, _ => by rw [findP]; simp
  | m :: r, i, j + 1, hj, hp => by
    have hj2 : j < r.length := by simpa using hj
    have h1 := (List.pairwise_cons.1 hp).1 r[j] (List.getElem_mem hj2)
    have e : (m :: r)[j + 1] = r[j] := rfl
    rw [e, findP, if_neg (by omega), findP_at r (i + 1) j hj2 (List.pairwise_cons.1 hp).2]
    congr 1
    omega
theorem less_find {l : List S31} (hp : l.Pairwise (fun a b => a.f0 < b.f0)) (k : Nat) (hk : k < l.length) : findP l[k].f0 0 (lessL l k) = -1 := by
  apply findP_none
  intro m hm
  have e : l = l.take k ++ l[k] :: l.drop (k + 1) := by rw [← List.drop_eq_getElem_cons hk, List.take_append_drop]
  have hp2 := hp
  rw [e, List.pairwise_append] at hp2
  obtain ⟨_, h2, h3⟩ := hp2
  rcases List.mem_append.1 hm with hm | hm
  · have := h3 m hm l[k] List.mem_cons_self
    omega
  · have := (List.pairwise_cons.1 h2).1 m hm
    omega
theorem twice_may {a0 : ByteArray} {a1 a2 a3 : Int} {ws : List ByteArray} {ms : List S31} (k : Nat) (hk : k < ms.length) : boxP a0 a1 a2 a3 ws (twiceL ms k ms[k]) ≠ 0 := by
  intro h
  obtain ⟨_, _, _, _, h4⟩ := may_parts h
  obtain ⟨_, p2⟩ := (msgsOk_iff _ _ _ _ _).1 h4
  unfold twiceL at p2
  rw [List.append_assoc, List.pairwise_append] at p2
  have hm : ms[k] ∈ ms.take (k + 1) := by rw [List.take_succ_eq_append_getElem hk]; exact List.mem_append_right _ List.mem_cons_self
  have := p2.2.2 ms[k] hm ms[k] (List.mem_append_left _ List.mem_cons_self)
  omega
theorem unsN_app : ∀ (l m : List S31), unsN (l ++ m) = unsN l + unsN m
  | [], m => by simp [unsN]
  | a :: l, m => by rw [List.cons_append, unsN, unsN, unsN_app l m]; omega
theorem less_uns (l : List S31) (k : Nat) (hk : k < l.length) : unsN (lessL l k) ≤ unsN l := by
  have e : l = l.take k ++ l[k] :: l.drop (k + 1) := by rw [← List.drop_eq_getElem_cons hk, List.take_append_drop]
  have h2 := congrArg unsN e
  rw [unsN_app, unsN] at h2
  unfold lessL
  rw [unsN_app]
  omega
theorem ris_all (n : Int) : ∀ (l : List Int) (was : Int), risP n was l = true → ∀ k ∈ l, was < k ∧ k < n
  | [], _, _ => by simp
  | a :: r, was, h => by
    rw [risP] at h
    by_cases h1 : a ≤ was
    · rw [if_pos h1] at h; simp at h
    · rw [if_neg h1] at h
      by_cases h2 : a ≥ n
      · rw [if_pos h2] at h; simp at h
      · rw [if_neg h2] at h
        intro k hk
        rcases List.mem_cons.1 hk with rfl | hk
        · omega
        · have := ris_all n r a h k hk
          omega
theorem selW_full (ws : List ByteArray) : ∀ (l : List Int), (∀ k ∈ l, -1 < k ∧ k < (ws.length : Int)) → (selW ws l).length = l.length
  | [], _ => rfl
  | a :: r, h => by
    have h0 := h a (by simp)
    rw [selW, if_pos ⟨by omega, h0.2⟩, List.length_cons, List.length_cons, selW_full ws r (fun k hk => h k (List.mem_cons_of_mem _ hk))]
theorem msg_words {ws : List ByteArray} {m : S31} (h : msgOk (ws.length : Int) m = true) : (selW ws m.f5).length = m.f5.length := by
  unfold msgOk at h
  simp only [Bool.and_eq_true] at h
  exact selW_full ws m.f5 (fun k hk => ris_all _ _ _ h.1.2 k hk)
theorem each {a0 : ByteArray} {a1 a2 a3 : Int} {ws : List ByteArray} {ms : List S31} (h : boxP a0 a1 a2 a3 ws ms = 0) (i : Nat) (hi : i < ms.length) :
    ms[i].f0 < a2 ∧ 1 ≤ ms[i].f0 ∧ ms[i].f1 ≤ a3 ∧ findP ms[i].f0 0 ms = (i : Int) ∧ msgOk (ws.length : Int) ms[i] = true ∧ (selW ws ms[i].f5).length = ms[i].f5.length := by
  obtain ⟨_, _, _, _, h4⟩ := may_parts h
  obtain ⟨p1, p2⟩ := (msgsOk_iff _ _ _ _ _).1 h4
  obtain ⟨q0, q1, q2, q3⟩ := p1 ms[i] (List.getElem_mem hi)
  refine ⟨q2, by omega, q3, ?_, q0, msg_words q0⟩
  rw [findP_at ms 0 i hi p2, Nat.zero_add]
def kV (w0 : World) : Kd S31 where
  sz := 7
  E := []
  K := fun _ x cs => k31.K w0 x cs
  M := fun _ _ _ x cs => k31.K w0 x cs
  K_len := fun h => k31.K_len h
  K_one := fun h => k31.K_one h
  K_below := fun _ h => h
  K_of_M := fun h => h
  M_mono := fun _ h => h
  M_bound := fun h => h
  M_move := fun _ h => h
  M_lower := fun _ h => h
theorem kV_in {w : World} {A : Option Addr} {n : Nat} {l : List S31} (h : Kd.C k31 w A n l) : Kd.C (kV w) w A n l := h
theorem kV_out {w0 w : World} (hb : Below w0.heap.size w0 w) {A : Option Addr} {n : Nat} {l : List S31} (h : Kd.C (kV w0) w A n l) : Kd.C k31 w A n l :=
  ⟨h.1, h.2.1, fun hn => by
    obtain ⟨ad, e, hc⟩ := h.2.2 hn
    exact ⟨ad, e, fun j p hj => by
      obtain ⟨c, hl, hK, hr⟩ := hc j p hj
      exact ⟨c, hl, k31.K_below hb hK, hr⟩⟩⟩
end Go.Proofs.YtjlabkibpknkpaaDoor.BxK
