-- Printed by prune.py: the used part of a text.
import Derived.Test.YtjljgcceapkdcaaZRkS
import Derived.Test.YtjljgcceapkdcaaZRkP
namespace Go.Proofs.Ytjljgcceapkdcaa.RkQ
open Go.RowKit Go.Proofs.YtjljgcceapkdcaaW.PrintWords Go.Proofs.YtjljgcceapkdcaaW.PrintLast Go.Proofs.YtjljgcceapkdcaaW.PrintMore Go.Proofs.Ytjljgcceapkdcaa.RkM Go.Proofs.Ytjljgcceapkdcaa.RkA Go.Proofs.Ytjljgcceapkdcaa.RkB Go.Proofs.Ytjljgcceapkdcaa.RkC Go.Proofs.Ytjljgcceapkdcaa.RkD Go.Proofs.Ytjljgcceapkdcaa.RkE Go.Proofs.Ytjljgcceapkdcaa.RkF Go.Proofs.Ytjljgcceapkdcaa.RkG Go.Proofs.Ytjljgcceapkdcaa.RkH Go.Proofs.Ytjljgcceapkdcaa.RkI Go.Proofs.Ytjljgcceapkdcaa.RkJ Go.Proofs.Ytjljgcceapkdcaa.RkK Go.Proofs.Ytjljgcceapkdcaa.RkL Go.Proofs.Ytjljgcceapkdcaa.RkO Go.Proofs.Ytjljgcceapkdcaa.RkP Go.Proofs.Ytjljgcceapkdcaa.RkS Go.Proofs.Ytjljgcceapkdcaa.Rw
set_option linter.unusedVariables false
set_option linter.unusedSimpArgs false
def ltS (a b : ByteArray) : Bool := Op.bytesLess a.toList b.toList
theorem ltS_eq (a b : ByteArray) : ltS a b = decide (a.data.toList < b.data.toList) := by
  unfold ltS
  rw [bytesLess_eq, ByteArray.toList_eq, ByteArray.toList_eq]
theorem before_total : ∀ (a b : List UInt8), a ≠ b → bytesBefore a b = false → bytesBefore b a = true
  | [], [], h, _ => absurd rfl h
  | [], _ :: _, _, h => by cases h
  | _ :: _, [], _, _ => rfl
  | x :: r, y :: s, h, hb => by
    simp only [bytesBefore, Bool.or_eq_false_iff, decide_eq_false_iff_not, Bool.and_eq_false_iff, Bool.or_eq_true, decide_eq_true_eq, Bool.and_eq_true, beq_iff_eq] at hb ⊢
    by_cases hxy : x = y
    · subst hxy
      right
      refine ⟨rfl, before_total r s (fun e => h (by rw [e])) ?_⟩
      rcases hb.2 with h1 | h1
      · simp at h1
      · exact h1
    · left
      have := hb.1
      rcases UInt8.lt_or_lt_of_ne hxy with h1 | h1
      · exact absurd h1 this
      · exact h1
def posS (s : ByteArray) : List ByteArray → Nat
  | [] => 0
  | y :: r => if ltS y s then posS s r + 1 else 0
theorem posS_le (s : ByteArray) : ∀ L, posS s L ≤ L.length
  | [] => Nat.le_refl 0
  | y :: r => by
    rw [posS]
    split
    · have := posS_le s r
      rw [List.length_cons]
      omega
    · exact Nat.zero_le _
theorem posS_step (s : ByteArray) : ∀ (L : List ByteArray) (k : Nat) (hk : k < L.length), k ≤ posS s L → (ltS L[k] s = true ↔ k < posS s L)
  | [], k, hk, _ => absurd hk (Nat.not_lt_zero k)
  | y :: r, 0, _, _ => by
    rw [posS]
    show ltS y s = true ↔ _
    split
    · rename_i h
      exact ⟨fun _ => Nat.succ_pos _, fun _ => h⟩
    · rename_i h
      exact ⟨fun h1 => absurd h1 h, fun h1 => absurd h1 (Nat.lt_irrefl 0)⟩
  | y :: r, k + 1, hk, hp => by
    rw [posS] at hp ⊢
    split at hp
    · rename_i h
      rw [if_pos h]
      have hk' : k < r.length := by simpa using hk
      have := posS_step s r k hk' (by omega)
      show ltS (r[k]'hk') s = true ↔ _
      rw [this]
      omega
    · omega
def insS (s : ByteArray) (L : List ByteArray) : List ByteArray := L.take (posS s L) ++ [s] ++ L.drop (posS s L)
theorem ins_names (x : FE) : ∀ fs : List FE, x.nm ∉ namesF fs → namesF (insF x fs) = insS x.nm (namesF fs)
  | [], _ => rfl
  | y :: r, h => by
    have hne : x.nm ≠ y.nm := fun e => h (by show x.nm ∈ y.nm :: namesF r; rw [e]; exact List.mem_cons_self)
    have hr : x.nm ∉ namesF r := fun e => h (List.mem_cons_of_mem _ e)
    rw [insF]
    split
    · rename_i hb
      have : ltS y.nm x.nm = false := by rw [ltS_eq]; exact decide_eq_false (List.lt_asymm (before_lt hb))
      show x.nm :: namesF (y :: r) = insS x.nm (y.nm :: namesF r)
      unfold insS
      rw [posS, this, if_neg (by decide)]
      rfl
    · rename_i hb
      have hlt := before_lt (before_total x.nm.data.toList y.nm.data.toList (fun e => hne (toList_inj.1 e)) (by simpa using hb))
      have : ltS y.nm x.nm = true := by rw [ltS_eq]; exact decide_eq_true hlt
      show y.nm :: namesF (insF x r) = insS x.nm (y.nm :: namesF r)
      rw [ins_names x r hr]
      unfold insS
      rw [posS, this, if_pos rfl, List.take_succ_cons, List.drop_succ_cons]
      rfl
theorem drop_not {fs : List FE} {s : ByteArray} (h : s ∉ namesF fs) : dropF fs s = fs := by
  unfold dropF
  rw [List.filter_eq_self]
  intro x hx
  simp only [decide_eq_true_eq]
  exact fun e => h (by rw [← e]; exact List.mem_map.2 ⟨x, hx, rfl⟩)
def wantN (l : List ByteArray) (p : List Int) : Nat → List ByteArray
  | 0 => []
  | k + 1 => match l[k]? with
    | some s => if pickB p k then insS s (wantN l p k) else wantN l p k
    | none => wantN l p k
theorem mem_insS {s t : ByteArray} {L : List ByteArray} (h : t ∈ insS s L) : t = s ∨ t ∈ L := by
  unfold insS at h
  rcases List.mem_append.1 h with h | h
  · rcases List.mem_append.1 h with h | h
    · exact .inr (List.mem_of_mem_take h)
    · exact .inl (by simpa using h)
  · exact .inr (List.mem_of_mem_drop h)
theorem want_mem {l : List ByteArray} {p : List Int} {t : ByteArray} : ∀ k, t ∈ wantN l p k → t ∈ l.take k
  | 0, h => by cases h
  | k + 1, h => by
    rw [wantN] at h
    cases hl : l[k]? with
    | none =>
      rw [hl] at h
      exact List.mem_of_mem_take (i := k) (by rw [List.take_take, Nat.min_eq_left (by omega)]; exact want_mem k h)
    | some s =>
      rw [hl] at h
      have hk := (List.getElem?_eq_some_iff.1 hl).1
      have hs := (List.getElem?_eq_some_iff.1 hl).2
      rw [List.take_succ_eq_append_getElem hk, hs]
      simp only at h
      split at h
      · rcases mem_insS h with h | h
        · exact List.mem_append.2 (.inr (by rw [h]; exact List.mem_singleton.2 rfl))
        · exact List.mem_append.2 (.inl (want_mem k h))
      · exact List.mem_append.2 (.inl (want_mem k h))
theorem want_crash {l : List ByteArray} {ls : List WR} {p : List Int} (hlen : ls.length = l.length) (hx : ∀ (k : Nat) (x : WR), ls[k]? = some x → l[k]? = some x.nm ∧ x.cut = false) (hd : ∀ (k : Nat) (s : ByteArray), l[k]? = some s → s ∉ l.take k) : ∀ k, k ≤ l.length → namesF (crashN [] ls p k) = wantN l p k
  | 0, _ => rfl
  | k + 1, hk => by
    have ih := want_crash (p := p) hlen hx hd k (by omega)
    obtain ⟨x, hxk⟩ : ∃ x, ls[k]? = some x := ⟨_, List.getElem?_eq_getElem (by omega)⟩
    obtain ⟨h1, h2⟩ := hx k x hxk
    rw [crash_at hxk, wantN, h1]
    simp only
    split
    · have hn : x.nm ∉ namesF (crashN [] ls p k) := fun h => hd k x.nm h1 (want_mem k (by rw [← ih]; exact h))
      unfold doF putF
      rw [h2, if_neg (by decide), show (wfe x).nm = x.nm from rfl, drop_not hn, ins_names (wfe x) _ hn, ih]
      rfl
    · exact ih
theorem want_len {l : List ByteArray} {p : List Int} : ∀ k, (wantN l p k).length ≤ k
  | 0 => Nat.le_refl 0
  | k + 1 => by
    have := want_len (l := l) (p := p) k
    rw [wantN]
    split
    · split
      · unfold insS
        rw [List.length_append, List.length_append, List.length_take, List.length_drop, List.length_singleton]
        have := posS_le (by assumption) (wantN l p k)
        omega
      · omega
    · omega
end Go.Proofs.Ytjljgcceapkdcaa.RkQ
