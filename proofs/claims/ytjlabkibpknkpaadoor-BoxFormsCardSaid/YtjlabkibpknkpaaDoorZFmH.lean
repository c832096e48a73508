-- Printed by prune.py: the used part of a text.
import Derived.Test.YtjlabkibpknkpaaDoorZFmC
namespace Go.Proofs.YtjlabkibpknkpaaDoor.FmH
open Go.RowKit Go.Proofs.YtjlabkibpknkpaaDoorW.PrintWords Go.Proofs.YtjlabkibpknkpaaDoorW.PrintLast Go.Proofs.YtjlabkibpknkpaaDoorW.PrintMore Go.Proofs.YtjlabkibpknkpaaDoor.FmG Go.Proofs.YtjlabkibpknkpaaDoor.FmM Go.Proofs.YtjlabkibpknkpaaDoor.PkP Go.Proofs.YtjlabkibpknkpaaDoor.FmN Go.Proofs.YtjlabkibpknkpaaDoor.FmB Go.Proofs.YtjlabkibpknkpaaDoor.FmC
set_option linter.unusedVariables false
set_option linter.unusedSimpArgs false
def sumW : List ByteArray → Nat
  | [] => 0
  | w :: r => w.size + sumW r
def sumM : List S31 → Nat
  | [] => 0
  | m :: r => wt m + sumM r
theorem wrap_add (a b : Int) : wrap64 (wrap64 a + b) = wrap64 (a + b) := by unfold wrap64; omega
theorem wrap3 (s a c : Int) : wrap64 (wrap64 s + wrap64 (wrap64 a + c)) = wrap64 (s + (a + c)) := by unfold wrap64; omega
def heavyR (S : Nat) (nw nm : Nat) : Int := if wrap64 (S : Int) > 60000 then 1 else if nw > 100 then 1 else if nm > 100 then 1 else 0
theorem heavy_l1 (a0 : ByteArray) (a1 a2 a3 : Int) (ws : List ByteArray) (ms : List S31) (hl : ms.length ≤ 140737488355328) : ∀ (m i S : Nat), i + m = ms.length → Evn (fun k => mailsacklaw6_Heavy.l1 k (wrap64 (S : Int)) ms (ms.length : Int) (i : Int) a0 a1 a2 a3 ws ms) (heavyR (S + sumM (ms.drop i)) ws.length ms.length) := by
  intro m
  induction m with
  | zero =>
    intro i S hi
    refine Evn.round (g := fun _ => some (heavyR S ws.length ms.length)) ?_ (fun k => ?_)
    · rw [List.drop_of_length_le (by omega)]
      exact Evn.pure _
    · rw [mailsacklaw6_Heavy.l1, if_neg (by omega)]
      unfold heavyR
      by_cases h1 : wrap64 (S : Int) > 60000
      · rw [if_pos h1, if_pos h1]
      · rw [if_neg h1, if_neg h1]
        by_cases h2 : ws.length > 100
        · rw [if_pos (by omega), if_pos h2]
        · rw [if_neg (by omega), if_neg h2]
          by_cases h3 : ms.length > 100
          · rw [if_pos (by omega), if_pos h3]
          · rw [if_neg (by omega), if_neg h3]
  | succ m ih =>
    intro i S hi
    have hlt : i < ms.length := by omega
    rw [List.drop_eq_getElem_cons hlt, sumM]
    have z := Evn.round (g2 := fun k => mailsacklaw6_Heavy.l1 k (wrap64 (S : Int)) ms (ms.length : Int) (i : Int) a0 a1 a2 a3 ws ms) (ih (i + 1) (S + wt ms[i]) (by omega)) (fun k => by
      rw [mailsacklaw6_Heavy.l1, if_pos (by omega), if_pos (by omega), if_pos (by omega), rdm_nat ms hlt, w64s (show -9223372036854775808 ≤ (i : Int) + 1 by omega) (by omega)]
      rw [wrap3]
      unfold wt
      rw [show (S : Int) + (((ms[i].f5.length : Int) + (ms[i].f6.size : Int)) + (ms[i].f3.size : Int)) = ((S + (ms[i].f5.length + ms[i].f6.size + ms[i].f3.size) : Nat) : Int) by omega]
      rfl)
    rw [Nat.add_assoc] at z
    exact z
theorem heavy_l0 (a0 : ByteArray) (a1 a2 a3 : Int) (ws : List ByteArray) (ms : List S31) (hl : ms.length ≤ 140737488355328) (hl4 : ws.length ≤ 140737488355328) : ∀ (m i S : Nat), i + m = ws.length → Evn (fun k => mailsacklaw6_Heavy.l0 k (wrap64 (S : Int)) ws (ws.length : Int) (i : Int) a0 a1 a2 a3 ws ms) (heavyR (S + sumW (ws.drop i) + sumM ms) ws.length ms.length) := by
  intro m
  induction m with
  | zero =>
    intro i S hi
    have h := heavy_l1 a0 a1 a2 a3 ws ms hl ms.length 0 S (by omega)
    rw [List.drop_zero] at h
    rw [List.drop_of_length_le (by omega)]
    exact Evn.round h (fun k => by rw [mailsacklaw6_Heavy.l0, if_neg (by omega)]; rfl)
  | succ m ih =>
    intro i S hi
    have hlt : i < ws.length := by omega
    rw [List.drop_eq_getElem_cons hlt, sumW]
    have z := Evn.round (g2 := fun k => mailsacklaw6_Heavy.l0 k (wrap64 (S : Int)) ws (ws.length : Int) (i : Int) a0 a1 a2 a3 ws ms) (ih (i + 1) (S + ws[i].size) (by omega)) (fun k => by
      rw [mailsacklaw6_Heavy.l0, if_pos (by omega), if_pos (by omega), if_pos (by omega), rds_nat ws hlt, w64s (show -9223372036854775808 ≤ (i : Int) + 1 by omega) (by omega), wrap_add, show (S : Int) + (ws[i].size : Int) = ((S + ws[i].size : Nat) : Int) by omega]
      rfl)
    rw [show S + (ws[i].size + sumW (ws.drop (i + 1))) + sumM ms = S + ws[i].size + sumW (ws.drop (i + 1)) + sumM ms by omega]
    exact z
def bulk (a0 : ByteArray) (ws : List ByteArray) (ms : List S31) : Nat := a0.size + ws.length + ms.length + sumW ws + sumM ms
theorem heavy_ev (a0 : ByteArray) (a1 a2 a3 : Int) (ws : List ByteArray) (ms : List S31) (hl : ms.length ≤ 140737488355328) (hl4 : ws.length ≤ 140737488355328) : Evn (fun k => mailsacklaw6_Heavy.f k a0 a1 a2 a3 ws ms) (heavyR (bulk a0 ws ms) ws.length ms.length) := by
  have h := heavy_l0 a0 a1 a2 a3 ws ms hl hl4 ws.length 0 (a0.size + ws.length + ms.length) (by omega)
  rw [List.drop_zero] at h
  refine h.cast (fun k => ?_)
  unfold mailsacklaw6_Heavy.f
  rw [wrap_add, show (a0.size : Int) + (ws.length : Int) + (ms.length : Int) = ((a0.size + ws.length + ms.length : Nat) : Int) by omega]
  rfl
theorem sumW_le (B : Nat) : ∀ (ws : List ByteArray), (∀ s ∈ ws, s.size ≤ B) → sumW ws ≤ ws.length * B
  | [], _ => by simp [sumW]
  | w :: r, h => by
    have h1 := h w (by simp)
    have h2 := sumW_le B r (fun s hs => h s (by simp [hs]))
    rw [sumW, List.length_cons, Nat.add_mul]; omega
theorem sumM_le (B : Nat) : ∀ (ms : List S31), (∀ m ∈ ms, wt m ≤ B) → sumM ms ≤ ms.length * B
  | [], _ => by simp [sumM]
  | w :: r, h => by
    have h1 := h w (by simp)
    have h2 := sumM_le B r (fun s hs => h s (by simp [hs]))
    rw [sumM, List.length_cons, Nat.add_mul]; omega
theorem mem_sumW : ∀ (ws : List ByteArray) (s : ByteArray), s ∈ ws → s.size ≤ sumW ws
  | [], _, h => by cases h
  | w :: r, s, h => by
    rw [sumW]
    rcases List.mem_cons.1 h with rfl | h
    · omega
    · have := mem_sumW r s h; omega
theorem mem_sumM : ∀ (ms : List S31) (m : S31), m ∈ ms → wt m ≤ sumM ms
  | [], _, h => by cases h
  | w :: r, s, h => by
    rw [sumM]
    rcases List.mem_cons.1 h with rfl | h
    · omega
    · have := mem_sumM r s h; omega
theorem light {a0 : ByteArray} {ws : List ByteArray} {ms : List S31} (h0 : a0.size ≤ 140737488355328) (hs : ∀ s ∈ ws, s.size ≤ 140737488355328) (hw : ∀ m ∈ ms, wt m ≤ 422212465065984) (h : heavyR (bulk a0 ws ms) ws.length ms.length = 0) : bulk a0 ws ms ≤ 60000 ∧ ws.length ≤ 100 ∧ ms.length ≤ 100 := by
  unfold heavyR at h
  by_cases h1 : wrap64 (bulk a0 ws ms : Int) > 60000
  · rw [if_pos h1] at h; cases h
  · rw [if_neg h1] at h
    by_cases h2 : ws.length > 100
    · rw [if_pos h2] at h; cases h
    · rw [if_neg h2] at h
      by_cases h3 : ms.length > 100
      · rw [if_pos h3] at h; cases h
      · have e1 := sumW_le _ ws hs
        have e2 := sumM_le _ ms hw
        have e3 : ws.length * 140737488355328 ≤ 100 * 140737488355328 := Nat.mul_le_mul_right _ (by omega)
        have e4 : ms.length * 422212465065984 ≤ 100 * 422212465065984 := Nat.mul_le_mul_right _ (by omega)
        have e5 : bulk a0 ws ms ≤ 100000000000000000 := by unfold bulk; omega
        rw [w64s (by omega) (by omega)] at h1
        exact ⟨by omega, by omega, by omega⟩
theorem heavy_01 (S nw nm : Nat) : heavyR S nw nm = 0 ∨ heavyR S nw nm = 1 := by
  unfold heavyR
  (repeat' split) <;> simp
end Go.Proofs.YtjlabkibpknkpaaDoor.FmH
