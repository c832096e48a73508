-- Printed by prune.py: the used part of a text.
import Derived.Test.YtplfpbfmnogckaaDoorZTdM0
import Derived.Test.YtplfpbfmnogckaaDoorZTdM1
import Derived.Test.YtplfpbfmnogckaaDoorZTdM2
import Derived.Test.YtplfpbfmnogckaaDoorZTdM6
import Derived.Test.YtplfpbfmnogckaaDoorZTdM7
import Derived.Test.YtplfpbfmnogckaaDoorZShelf
import Derived.Lib.LaidTab
import Derived.Lib.ItoaLen
import Derived.Lib.AppendIntMem
namespace Go.Proofs.YtplfpbfmnogckaaDoor.TdP
open Go.RowKit Go.Proofs.YtplfpbfmnogckaaDoorW.PrintWords Go.Proofs.YtplfpbfmnogckaaDoorW.PrintLast Go.Proofs.YtplfpbfmnogckaaDoorW.PrintMore Go.Proofs.YtplfpbfmnogckaaDoor.TdG Go.Proofs.YtplfpbfmnogckaaDoor.TdM
set_option linter.unusedVariables false
set_option linter.unusedSimpArgs false
def Evn {α : Type} (g : Nat → Option α) (r : α) : Prop := ∃ K, ∀ k, K ≤ k → g k = some r
theorem Evn.pure {α : Type} (r : α) : Evn (fun _ => some r) r := ⟨0, fun _ _ => rfl⟩
theorem Evn.bind {α β : Type} {g : Nat → Option α} {f : Nat → α → Option β} {x : α} {r : β} (h : Evn g x) (h2 : Evn (fun k => f k x) r) : Evn (fun k => (g k).bind (f k)) r := by
  obtain ⟨K, hK⟩ := h
  obtain ⟨L, hL⟩ := h2
  exact ⟨max K L, fun k hk => by show (g k).bind (f k) = some r; rw [hK k (by omega)]; exact hL k (by omega)⟩
theorem Evn.cast {α : Type} {g g2 : Nat → Option α} {r : α} (h : Evn g r) (he : ∀ k, g2 k = g k) : Evn g2 r := by
  obtain ⟨K, hK⟩ := h
  exact ⟨K, fun k hk => by rw [he]; exact hK k hk⟩
theorem Evn.round {α : Type} {g g2 : Nat → Option α} {r : α} (h : Evn g r) (he : ∀ k, g2 (k + 1) = g k) : Evn g2 r := by
  obtain ⟨K, hK⟩ := h
  refine ⟨K + 1, fun k hk => ?_⟩
  obtain ⟨j, rfl⟩ : ∃ j, k = j + 1 := ⟨k - 1, by omega⟩
  rw [he]
  exact hK j (by omega)
theorem Evn.get {α : Type} {g : Nat → Option α} {r : α} (h : Evn g r) : ∃ k, g k = some r := by
  obtain ⟨K, hK⟩ := h
  exact ⟨K, hK K (Nat.le_refl _)⟩
theorem w64s {x : Int} (h0 : -9223372036854775808 ≤ x) (h1 : x ≤ 9223372036854775807) : wrap64 x = x := by unfold wrap64; omega
theorem rd_nat (l : List Int) {i : Nat} (h : i < l.length) : Go.Proofs.YtplfpbfmnogckaaDoorW.PrintWords.rd l (i : Int) = l[i] := by
  unfold Go.Proofs.YtplfpbfmnogckaaDoorW.PrintWords.rd
  rw [Int.toNat_natCast, List.getD_eq_getElem?_getD, List.getElem?_eq_getElem h]; rfl
def wt (m : S34) : Nat := m.f5.length + m.f6.size + m.f3.size
def OkB (b : Int) : Prop := 97 ≤ b ∧ b ≤ 122 ∨ 65 ≤ b ∧ b ≤ 90 ∨ 48 ≤ b ∧ b ≤ 57 ∨ b = 46 ∨ b = 95 ∨ b = 45 ∨ b = 36 ∨ b = 47
instance (b : Int) : Decidable (OkB b) := by unfold OkB; exact inferInstance
def okB (b : Int) : Bool := decide (OkB b)
theorem rds_nat (l : List ByteArray) {i : Nat} (h : i < l.length) : rdOf ByteArray.empty l (i : Int) = l[i] := by
  unfold rdOf
  rw [Int.toNat_natCast, List.getD_eq_getElem?_getD, List.getElem?_eq_getElem h]; rfl
theorem rdm_nat (l : List S34) {i : Nat} (h : i < l.length) : rd_T34 l (i : Int) = l[i] := by
  unfold rd_T34
  rw [Int.toNat_natCast, List.getD_eq_getElem?_getD, List.getElem?_eq_getElem h]; rfl
def sumW : List ByteArray → Nat
  | [] => 0
  | w :: r => w.size + sumW r
def sumM : List S34 → Nat
  | [] => 0
  | m :: r => wt m + sumM r
theorem wrap_add (a b : Int) : wrap64 (wrap64 a + b) = wrap64 (a + b) := by unfold wrap64; omega
theorem wrap3 (s a c : Int) : wrap64 (wrap64 s + wrap64 (wrap64 a + c)) = wrap64 (s + (a + c)) := by unfold wrap64; omega
def heavyR (S : Nat) (nw nm : Nat) : Int := if wrap64 (S : Int) > 60000 then 1 else if nw > 100 then 1 else if nm > 100 then 1 else 0
theorem heavy_l1 (a0 : ByteArray) (a1 a2 a3 : Int) (ws : List ByteArray) (ms : List S34) (hl : ms.length ≤ 140737488355328) : ∀ (m i S : Nat), i + m = ms.length → Evn (fun k => mailsacklaw6_Heavy.l1 k (wrap64 (S : Int)) ms (ms.length : Int) (i : Int) a0 a1 a2 a3 ws ms) (heavyR (S + sumM (ms.drop i)) ws.length ms.length) := by
  intro m
  induction m with
  | zero =>
    intro i S hi
    refine Evn.round (g := fun _ => some (heavyR S ws.length ms.length)) ?_ (fun k => ?_)
    · rw [List.drop_of_length_le (by omega)]
      exact Evn.pure _
    · rw [mailsacklaw6_Heavy.l1, if_neg (by omega)]
      unfold heavyR
      by_cases h1 : wrap64 (S : Int) > 60000
      · rw [if_pos h1, if_pos h1]
      · rw [if_neg h1, if_neg h1]
        by_cases h2 : ws.length > 100
        · rw [if_pos (by omega), if_pos h2]
        · rw [if_neg (by omega), if_neg h2]
          by_cases h3 : ms.length > 100
          · rw [if_pos (by omega), if_pos h3]
          · rw [if_neg (by omega), if_neg h3]
  | succ m ih =>
    intro i S hi
    have hlt : i < ms.length := by omega
    rw [List.drop_eq_getElem_cons hlt, sumM]
    have z := Evn.round (g2 := fun k => mailsacklaw6_Heavy.l1 k (wrap64 (S : Int)) ms (ms.length : Int) (i : Int) a0 a1 a2 a3 ws ms) (ih (i + 1) (S + wt ms[i]) (by omega)) (fun k => by
      rw [mailsacklaw6_Heavy.l1, if_pos (by omega), if_pos (by omega), if_pos (by omega), rdm_nat ms hlt, w64s (show -9223372036854775808 ≤ (i : Int) + 1 by omega) (by omega)]
      rw [wrap3]
      unfold wt
      rw [show (S : Int) + (((ms[i].f5.length : Int) + (ms[i].f6.size : Int)) + (ms[i].f3.size : Int)) = ((S + (ms[i].f5.length + ms[i].f6.size + ms[i].f3.size) : Nat) : Int) by omega]
      rfl)
    rw [Nat.add_assoc] at z
    exact z
theorem heavy_l0 (a0 : ByteArray) (a1 a2 a3 : Int) (ws : List ByteArray) (ms : List S34) (hl : ms.length ≤ 140737488355328) (hl4 : ws.length ≤ 140737488355328) : ∀ (m i S : Nat), i + m = ws.length → Evn (fun k => mailsacklaw6_Heavy.l0 k (wrap64 (S : Int)) ws (ws.length : Int) (i : Int) a0 a1 a2 a3 ws ms) (heavyR (S + sumW (ws.drop i) + sumM ms) ws.length ms.length) := by
  intro m
  induction m with
  | zero =>
    intro i S hi
    have h := heavy_l1 a0 a1 a2 a3 ws ms hl ms.length 0 S (by omega)
    rw [List.drop_zero] at h
    rw [List.drop_of_length_le (by omega)]
    exact Evn.round h (fun k => by rw [mailsacklaw6_Heavy.l0, if_neg (by omega)]; rfl)
  | succ m ih =>
    intro i S hi
    have hlt : i < ws.length := by omega
    rw [List.drop_eq_getElem_cons hlt, sumW]
    have z := Evn.round (g2 := fun k => mailsacklaw6_Heavy.l0 k (wrap64 (S : Int)) ws (ws.length : Int) (i : Int) a0 a1 a2 a3 ws ms) (ih (i + 1) (S + ws[i].size) (by omega)) (fun k => by
      rw [mailsacklaw6_Heavy.l0, if_pos (by omega), if_pos (by omega), if_pos (by omega), rds_nat ws hlt, w64s (show -9223372036854775808 ≤ (i : Int) + 1 by omega) (by omega), wrap_add, show (S : Int) + (ws[i].size : Int) = ((S + ws[i].size : Nat) : Int) by omega]
      rfl)
    rw [show S + (ws[i].size + sumW (ws.drop (i + 1))) + sumM ms = S + ws[i].size + sumW (ws.drop (i + 1)) + sumM ms by omega]
    exact z
def bulk (a0 : ByteArray) (ws : List ByteArray) (ms : List S34) : Nat := a0.size + ws.length + ms.length + sumW ws + sumM ms
theorem heavy_ev (a0 : ByteArray) (a1 a2 a3 : Int) (ws : List ByteArray) (ms : List S34) (hl : ms.length ≤ 140737488355328) (hl4 : ws.length ≤ 140737488355328) : Evn (fun k => mailsacklaw6_Heavy.f k a0 a1 a2 a3 ws ms) (heavyR (bulk a0 ws ms) ws.length ms.length) := by
  have h := heavy_l0 a0 a1 a2 a3 ws ms hl hl4 ws.length 0 (a0.size + ws.length + ms.length) (by omega)
  rw [List.drop_zero] at h
  refine h.cast (fun k => ?_)
  unfold mailsacklaw6_Heavy.f
  rw [wrap_add, show (a0.size : Int) + (ws.length : Int) + (ms.length : Int) = ((a0.size + ws.length + ms.length : Nat) : Int) by omega]
  rfl
theorem sumW_le (B : Nat) : ∀ (ws : List ByteArray), (∀ s ∈ ws, s.size ≤ B) → sumW ws ≤ ws.length * B
  | [], _ => by simp [sumW]
  | w :: r, h => by
    have h1 := h w (by simp)
    have h2 := sumW_le B r (fun s hs => h s (by simp [hs]))
    rw [sumW, List.length_cons, Nat.add_mul]; omega
theorem sumM_le (B : Nat) : ∀ (ms : List S34), (∀ m ∈ ms, wt m ≤ B) → sumM ms ≤ ms.length * B
  | [], _ => by simp [sumM]
  | w :: r, h => by
    have h1 := h w (by simp)
    have h2 := sumM_le B r (fun s hs => h s (by simp [hs]))
    rw [sumM, List.length_cons, Nat.add_mul]; omega
theorem mem_sumW : ∀ (ws : List ByteArray) (s : ByteArray), s ∈ ws → s.size ≤ sumW ws
  | [], _, h => by cases h
  | w :: r, s, h => by
    rw [sumW]
    rcases List.mem_cons.1 h with rfl | h
    · omega
    · have := mem_sumW r s h; omega
theorem mem_sumM : ∀ (ms : List S34) (m : S34), m ∈ ms → wt m ≤ sumM ms
  | [], _, h => by cases h
  | w :: r, s, h => by
    rw [sumM]
    rcases List.mem_cons.1 h with rfl | h
    · omega
    · have := mem_sumM r s h; omega
theorem light {a0 : ByteArray} {ws : List ByteArray} {ms : List S34} (h0 : a0.size ≤ 140737488355328) (hs : ∀ s ∈ ws, s.size ≤ 140737488355328) (hw : ∀ m ∈ ms, wt m ≤ 422212465065984) (h : heavyR (bulk a0 ws ms) ws.length ms.length = 0) : bulk a0 ws ms ≤ 60000 ∧ ws.length ≤ 100 ∧ ms.length ≤ 100 := by
  unfold heavyR at h
  by_cases h1 : wrap64 (bulk a0 ws ms : Int) > 60000
  · rw [if_pos h1] at h; cases h
  · rw [if_neg h1] at h
    by_cases h2 : ws.length > 100
    · rw [if_pos h2] at h; cases h
    · rw [if_neg h2] at h
      by_cases h3 : ms.length > 100
      · rw [if_pos h3] at h; cases h
      · have e1 := sumW_le _ ws hs
        have e2 := sumM_le _ ms hw
        have e3 : ws.length * 140737488355328 ≤ 100 * 140737488355328 := Nat.mul_le_mul_right _ (by omega)
        have e4 : ms.length * 422212465065984 ≤ 100 * 422212465065984 := Nat.mul_le_mul_right _ (by omega)
        have e5 : bulk a0 ws ms ≤ 100000000000000000 := by unfold bulk; omega
        rw [w64s (by omega) (by omega)] at h1
        exact ⟨by omega, by omega, by omega⟩
theorem heavy_01 (S nw nm : Nat) : heavyR S nw nm = 0 ∨ heavyR S nw nm = 1 := by
  unfold heavyR
  (repeat' split) <;> simp
def Tab (w : World) : Prop := Lib.TabIs Tryd.prog w "internal/strconv.uint64pow10" .u64 Lib.pow10Tab
theorem Tab.below {w w1 : World} (h : Tab w) (hb : Below w.heap.size w w1) : Tab w1 := by
  unfold Tab Lib.TabIs at h ⊢
  unfold World.var? at h ⊢
  cases hg : Tryd.prog.globalNamed "internal/strconv.uint64pow10" with
  | none => rw [hg] at h; simp at h
  | some g =>
    rw [hg] at h
    simp only [Option.bind_some] at h ⊢
    cases hh : w.heap[g]? with
    | none => rw [hh] at h; simp at h
    | some o =>
      rw [hb.block g (blk_lt hh)]
      rw [hh] at h ⊢
      exact h
theorem itoa_calls (n : Int) (h0 : -9223372036854775808 ≤ n) (h1 : n ≤ 9223372036854775807) (w : World) (ht : Tab w) :
    Calls Tryd.prog 44 #[.int .i64 n] w fun e w' => e = .returned (.string ⟨(Lib.itoa n).toArray⟩) ∧ Below w.heap.size w w' := by
  refine (Tryd.strconv_Itoa n h0 h1 w ht).mono ?_
  rintro e w' ⟨rfl, k, os, rfl⟩
  exact ⟨rfl, Lib.below_grow _ w (Nat.le_refl _) k os⟩
def findP (u : Int) : Nat → List S34 → Int
  | _, [] => -1
  | i, m :: r => if m.f0 = u then (i : Int) else findP u (i + 1) r
theorem is_calls (m0 m1 m2 m4 : Int) (m3 m6 : ByteArray) (v5 : Value) (u : Int) (bk : Nat) (w : World) (hb : bk < w.heap.size) (hc : w.cell? ⟨bk, 0, none⟩ = some (.int .i64 u)) :
    Calls Tryd.prog 50 #[.agg #[.int .i64 m0, .int .i64 m1, .int .i64 m2, .string m3, .int .i64 m4, v5, .string m6], .pointer (some ⟨bk, 0, none⟩)] w fun e w' => e = .returned (.bool (m0 == u)) ∧ Below w.heap.size w w' := by
  have hc2 : ∀ o, (w.alloc o).cell? ⟨bk, 0, none⟩ = some (.int .i64 u) := fun o => (World.cell?_alloc_lt w o ⟨bk, 0, none⟩ hb).trans hc
  have hu31 := Tryd.underlying34
  clear hb hc
  go_enter Tryd.func50, Tryd.ntmps50
  go_wp2
  go_ret
  exact ⟨rfl, below_alloc (Below.refl _ _) _⟩
set_option maxRecDepth 100000 in
set_option maxHeartbeats 1000000 in
theorem indexFunc_calls (A : Option Addr) (n c : Nat) (l : List S34) (u : Int) (bk : Nat) (w : World) (hl : Aside0 (n = l.length)) (hn : n ≤ 1000000) (hC : Kd.C k34 w A n l) (hb : bk < w.heap.size) (hc : w.cell? ⟨bk, 0, none⟩ = some (.int .i64 u)) :
    Calls Tryd.prog 49 #[.slice A n c, .func (.func 50) #[] #[.pointer (some ⟨bk, 0, none⟩)]] w fun e w' => e = .returned (.int .i64 (findP u 0 l)) ∧ Below w.heap.size w w' := by
  have HC := Aside0.mk hC
  have HL := Aside0.mk hb
  have HX := Aside0.mk hc
  have hu31 := Tryd.underlying34
  have hn9 : (n : Int) ≤ 1000000 := by omega
  clear hC hb hc hn
  have eg : ∀ args w, (callFunc 50 args).run Tryd.prog w = .ok (.enter 50 args) w := fun args w => enters_ Tryd.func50 (by kernel_rfl) rfl args w
  go_enter Tryd.func49, Tryd.ntmps49
  go_wp2_with fail
  go_loopw [8] (fun i wr => ∃ k : Nat, k ≤ n ∧ i = .int .i64 k ∧ Aside0 (findP u k (l.drop k) = findP u 0 l) ∧ Aside0 (Below w.heap.size w wr)) (fun i _ => n - (intOf i).toNat)
  case atStart => exact ⟨0, Nat.zero_le _, rfl, ⟨rfl⟩, ⟨Below.refl _ _⟩⟩
  case round =>
    obtain ⟨k, hk, rfl, HK, HB⟩ := hrel
    by_cases hlt : k < n
    · obtain ⟨ad, A6, c6, e1, hx0, hx1, hx2, hx3, hx4, hx5, hx6, hc6, hC6⟩ := at_T34 (Kd.C_below HC.out HB.out) (k : Int) (by omega) (by omega)
      cases e1
      rw [Int.toNat_natCast] at hx0 hx1 hx2 hx3 hx4 hx5 hx6
      have hll : k < l.length := by have := hl.out; omega
      have E2 := HK.out
      rw [List.drop_eq_getElem_cons hll, findP, ← rdm_nat l hll] at E2
      clear HK hC6 hc6
      generalize rd_T34 l (k : Int) = m at *
      have HQ := Aside0.mk (is_calls m.f0 m.f1 m.f2 m.f4 m.f3 m.f6 (.slice A6 m.f5.length c6) u bk wr (Nat.lt_of_lt_of_le HL.out HB.out.size) ((HB.out.cell (p := ⟨bk, 0, none⟩) HL.out).trans HX.out))
      clear hll
      by_cases heq : m.f0 = u
      · rw [if_pos heq] at E2
        rw [show (m.f0 == u) = true from beq_iff_eq.2 heq] at HQ
        have E3 := Aside0.mk E2
        clear E2 heq
        go_wp2_with (go_at_call 50; refine HQ.out.mono ?_; rintro e w3 ⟨rfl, hb3⟩; have HB3 := Aside0.mk hb3; clear hb3)
        go_ret
        exact ⟨by rw [← E3.out]; rfl, HB.out.trans (HB3.out.mono HB.out.size)⟩
      · rw [if_neg heq] at E2
        rw [show (m.f0 == u) = false from beq_eq_false_iff_ne.2 heq] at HQ
        have E3 := Aside0.mk E2
        clear E2 heq
        go_wp2_with (go_at_call 50; refine HQ.out.mono ?_; rintro e w3 ⟨rfl, hb3⟩; have HB3 := Aside0.mk hb3; clear hb3)
        go_roundw
        case rel => exact ⟨k + 1, by omega, by go_num, ⟨E3.out⟩, ⟨HB.out.trans (HB3.out.mono HB.out.size)⟩⟩
        case measure => simp [intOf]; omega
    · have hke : k = n := by omega
      subst hke
      have E3 : Aside0 (findP u 0 l = -1) := ⟨by rw [← HK.out, List.drop_of_length_le (by have := hl.out; omega)]; rfl⟩
      clear HK
      go_wp2_with fail
      go_ret
      exact ⟨by rw [E3.out]; rfl, HB.out⟩
set_option maxRecDepth 100000 in
theorem find_calls (a0 : ByteArray) (a1 a2 a3 : Int) (v4 : Value) (A5 : Option Addr) (c5 : Nat) (ms : List S34) (u : Int) (w : World) (hC5 : Kd.C k34 w A5 ms.length ms) (hn : ms.length ≤ 1000000) :
    Calls Tryd.prog 33 #[.agg #[.string a0, .int .i64 a1, .int .i64 a2, .int .i64 a3, v4, .slice A5 ms.length c5], .int .i64 u] w fun e w' => e = .returned (.int .i64 (findP u 0 ms)) ∧ Below w.heap.size w w' := by
  have hu26 := Tryd.underlying25
  have HC := Aside0.mk (fun (W : World) (bk : Nat) (hW : Below w.heap.size w W) (h1 : bk < W.heap.size) (h2 : W.cell? ⟨bk, 0, none⟩ = some (.int .i64 u)) => indexFunc_calls A5 ms.length c5 ms u bk W ⟨rfl⟩ hn (Kd.C_below hC5 hW) h1 h2)
  clear hC5 hn
  go_enter Tryd.func33, Tryd.ntmps33
  go_wp2_with (first
    | ((with_reducible refine gate_dst (N := 2) rfl ?_); refine box_event ?hg2 (N := 2) ?hd2 (cs := #[.string a0, .int .i64 a1, .int .i64 a2, .int .i64 a3, v4, .slice A5 ms.length c5]) (t := 25) ?hr2 ?_; (case hd2 => rfl); (case hg2 => rfl); (case hr2 => first | (go_simp; done) | (go_simp; rfl)); intro g2 hg2 w1 hbx hb1; have G2 := Aside0.mk hbx; have HB1 := Aside0.mk hb1; clear hg2 hbx hb1)
    | ((with_reducible refine gate_dst (N := 3) rfl ?_); refine box_event ?hg3 (N := 3) ?hd3 (cs := #[.int .i64 u]) (t := 3) ?hr3 ?_; (case hd3 => rfl); (case hg3 => rfl); (case hr3 => first | (go_simp; done) | (go_simp; rfl)); intro g3 hg3 w2 hbx hb1; have G3 := Aside0.mk hbx; have hx5 := blk_cell (blk_below G2.out hb1) 5; have HB2 := Aside0.mk (HB1.out.trans (hb1.mono HB1.out.size)); clear hg3 hbx hb1)
    | (go_at_call 49; refine (HC.out w2 g3 HB2.out (blk_lt G3.out) ((blk_cell G3.out 0).trans rfl)).mono ?_; rintro e w3 ⟨rfl, hb⟩; have HB3 := Aside0.mk (HB2.out.trans (hb.mono HB2.out.size)); clear hb))
  go_ret
  exact ⟨rfl, HB3.out⟩
def itoaB (n : Int) : ByteArray := ⟨(Lib.itoa n).toArray⟩
def selW (ws : List ByteArray) : List Int → List ByteArray
  | [] => []
  | a :: r => if 0 ≤ a ∧ a < (ws.length : Int) then rdOf ByteArray.empty ws a :: selW ws r else selW ws r
theorem words_l0 (a0 : ByteArray) (a1 a2 a3 : Int) (ws : List ByteArray) (ms : List S34) (l : List Int) (hl : l.length ≤ 1000000) : ∀ (m i : Nat) (b : List ByteArray), i + m = l.length → b.length + m ≤ 1000000 → Evn (fun k => box_Words.l0 k b l (l.length : Int) (i : Int) a0 a1 a2 a3 ws ms) (b ++ selW ws (l.drop i)) := by
  intro m
  induction m with
  | zero =>
    intro i b hi hb
    refine Evn.round (g := fun _ => some b) ?_ (fun k => by rw [box_Words.l0, if_neg (by omega)])
    rw [List.drop_of_length_le (by omega), selW, List.append_nil]
    exact Evn.pure _
  | succ m ih =>
    intro i b hi hb
    have hlt : i < l.length := by omega
    rw [List.drop_eq_getElem_cons hlt, selW]
    by_cases h0 : l[i] ≥ 0
    · by_cases h1 : l[i] < (ws.length : Int)
      · rw [if_pos ⟨h0, h1⟩]
        have h := ih (i + 1) (b ++ [rdOf ByteArray.empty ws l[i]]) (by omega) (by rw [List.length_append]; simp; omega)
        rw [List.append_assoc] at h
        exact Evn.round h (fun k => by rw [box_Words.l0, if_pos (by omega), if_pos (by omega), if_pos (by omega), rd_nat l hlt, if_pos h0, if_pos h1, if_pos h0, if_pos (by omega), w64s (by omega) (by omega)]; rfl)
      · rw [if_neg (fun h => h1 h.2)]
        exact Evn.round (ih (i + 1) b (by omega) (by omega)) (fun k => by rw [box_Words.l0, if_pos (by omega), if_pos (by omega), if_pos (by omega), rd_nat l hlt, if_pos h0, if_neg h1, w64s (by omega) (by omega)]; rfl)
    · rw [if_neg (fun h => h0 h.1)]
      exact Evn.round (ih (i + 1) b (by omega) (by omega)) (fun k => by rw [box_Words.l0, if_pos (by omega), if_pos (by omega), if_pos (by omega), rd_nat l hlt, if_neg h0, w64s (by omega) (by omega)]; rfl)
theorem words_ev (a0 : ByteArray) (a1 a2 a3 : Int) (ws : List ByteArray) (ms : List S34) (l : List Int) (hl : l.length ≤ 1000000) (m0 m1 m2 : Int) (m3 : ByteArray) (m4 : Int) (m6 : ByteArray) : Evn (fun k => box_Words.f k a0 a1 a2 a3 ws ms m0 m1 m2 m3 m4 l m6) (selW ws l) := by
  have h := words_l0 a0 a1 a2 a3 ws ms l hl l.length 0 [] (by omega) (by simp; omega)
  rw [List.drop_zero, List.nil_append] at h
  exact h
theorem words_calls (a0 : ByteArray) (a1 a2 a3 : Int) (A4 : Option Addr) (c4 : Nat) (ws : List ByteArray) (A5 : Option Addr) (c5 : Nat) (ms : List S34) (m0 m1 m2 : Int) (m3 : ByteArray) (m4 : Int) (A6 : Option Addr) (c6 : Nat) (l : List Int) (m6 : ByteArray) (w : World) (hC4 : Kd.C Kd.string w A4 ws.length ws) (hc4 : ws.length ≤ c4) (hC5 : Kd.C k34 w A5 ms.length ms) (hc5 : ms.length ≤ c5) (hC6 : Kd.C (Kd.int .i64) w A6 l.length l) (hc6 : l.length ≤ c6) (hl : l.length ≤ 1000000) :
    Calls Tryd.prog 46 #[.agg #[.string a0, .int .i64 a1, .int .i64 a2, .int .i64 a3, .slice A4 ws.length c4, .slice A5 ms.length c5], .agg #[.int .i64 m0, .int .i64 m1, .int .i64 m2, .string m3, .int .i64 m4, .slice A6 l.length c6, .string m6]] w fun e w' => ∃ A c, e = .returned (.slice A (selW ws l).length c) ∧ (selW ws l).length ≤ c ∧ Kd.C Kd.string w' A (selW ws l).length (selW ws l) ∧ Below w.heap.size w w' := by
  obtain ⟨k, hk⟩ := (words_ev a0 a1 a2 a3 ws ms l hl m0 m1 m2 m3 m4 m6).get
  refine (box_Words.calls k a0 a1 a2 a3 A4 c4 ws A5 c5 ms m0 m1 m2 m3 m4 A6 c6 l m6 _ w hC4 hc4 hC5 hc5 hC6 hc6 hk).mono ?_
  rintro e w' ⟨v, rfl, hR, hb⟩
  obtain ⟨A, c, rfl, h1, h2⟩ := Kd.R_reads hR
  exact ⟨A, c, rfl, h1, h2, hb⟩
end Go.Proofs.YtplfpbfmnogckaaDoor.TdP
