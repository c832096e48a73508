-- Printed by prune.py: the used part of a text.
import Derived.Test.YtplfpbfmnogckaaDoorZTdM0
import Derived.Test.YtplfpbfmnogckaaDoorZTdM1
import Derived.Test.YtplfpbfmnogckaaDoorZTdM6
import Derived.Test.YtplfpbfmnogckaaDoorZTdM7
import Derived.Test.YtplfpbfmnogckaaDoorZShelf
import Derived.Lib.LaidTab
import Derived.Lib.ItoaLen
import Derived.Lib.AppendIntMem
namespace Go.Proofs.YtplfpbfmnogckaaDoor.TdP
open Go.RowKit Go.Proofs.YtplfpbfmnogckaaDoorW.PrintWords Go.Proofs.YtplfpbfmnogckaaDoorW.PrintLast Go.Proofs.YtplfpbfmnogckaaDoorW.PrintMore Go.Proofs.YtplfpbfmnogckaaDoor.TdG Go.Proofs.YtplfpbfmnogckaaDoor.TdM
set_option linter.unusedVariables false
set_option linter.unusedSimpArgs false
def Evn {α : Type} (g : Nat → Option α) (r : α) : Prop := ∃ K, ∀ k, K ≤ k → g k = some r
theorem Evn.pure {α : Type} (r : α) : Evn (fun _ => some r) r := ⟨0, fun _ _ => rfl⟩
theorem Evn.bind {α β : Type} {g : Nat → Option α} {f : Nat → α → Option β} {x : α} {r : β} (h : Evn g x) (h2 : Evn (fun k => f k x) r) : Evn (fun k => (g k).bind (f k)) r := by
  obtain ⟨K, hK⟩ := h
  obtain ⟨L, hL⟩ := h2
  exact ⟨max K L, fun k hk => by show (g k).bind (f k) = some r; rw [hK k (by omega)]; exact hL k (by omega)⟩
theorem Evn.round {α : Type} {g g2 : Nat → Option α} {r : α} (h : Evn g r) (he : ∀ k, g2 (k + 1) = g k) : Evn g2 r := by
  obtain ⟨K, hK⟩ := h
  refine ⟨K + 1, fun k hk => ?_⟩
  obtain ⟨j, rfl⟩ : ∃ j, k = j + 1 := ⟨k - 1, by omega⟩
  rw [he]
  exact hK j (by omega)
theorem Evn.get {α : Type} {g : Nat → Option α} {r : α} (h : Evn g r) : ∃ k, g k = some r := by
  obtain ⟨K, hK⟩ := h
  exact ⟨K, hK K (Nat.le_refl _)⟩
theorem w64s {x : Int} (h0 : -9223372036854775808 ≤ x) (h1 : x ≤ 9223372036854775807) : wrap64 x = x := by unfold wrap64; omega
theorem rd_nat (l : List Int) {i : Nat} (h : i < l.length) : Go.Proofs.YtplfpbfmnogckaaDoorW.PrintWords.rd l (i : Int) = l[i] := by
  unfold Go.Proofs.YtplfpbfmnogckaaDoorW.PrintWords.rd
  rw [Int.toNat_natCast, List.getD_eq_getElem?_getD, List.getElem?_eq_getElem h]; rfl
def OkB (b : Int) : Prop := 97 ≤ b ∧ b ≤ 122 ∨ 65 ≤ b ∧ b ≤ 90 ∨ 48 ≤ b ∧ b ≤ 57 ∨ b = 46 ∨ b = 95 ∨ b = 45 ∨ b = 36 ∨ b = 47
instance (b : Int) : Decidable (OkB b) := by unfold OkB; exact inferInstance
theorem rds_nat (l : List ByteArray) {i : Nat} (h : i < l.length) : rdOf ByteArray.empty l (i : Int) = l[i] := by
  unfold rdOf
  rw [Int.toNat_natCast, List.getD_eq_getElem?_getD, List.getElem?_eq_getElem h]; rfl
def sumW : List ByteArray → Nat
  | [] => 0
  | w :: r => w.size + sumW r
theorem mem_sumW : ∀ (ws : List ByteArray) (s : ByteArray), s ∈ ws → s.size ≤ sumW ws
  | [], _, h => by cases h
  | w :: r, s, h => by
    rw [sumW]
    rcases List.mem_cons.1 h with rfl | h
    · omega
    · have := mem_sumW r s h; omega
def Tab (w : World) : Prop := Lib.TabIs Tryd.prog w "internal/strconv.uint64pow10" .u64 Lib.pow10Tab
theorem Tab.below {w w1 : World} (h : Tab w) (hb : Below w.heap.size w w1) : Tab w1 := by
  unfold Tab Lib.TabIs at h ⊢
  unfold World.var? at h ⊢
  cases hg : Tryd.prog.globalNamed "internal/strconv.uint64pow10" with
  | none => rw [hg] at h; simp at h
  | some g =>
    rw [hg] at h
    simp only [Option.bind_some] at h ⊢
    cases hh : w.heap[g]? with
    | none => rw [hh] at h; simp at h
    | some o =>
      rw [hb.block g (blk_lt hh)]
      rw [hh] at h ⊢
      exact h
theorem itoa_calls (n : Int) (h0 : -9223372036854775808 ≤ n) (h1 : n ≤ 9223372036854775807) (w : World) (ht : Tab w) :
    Calls Tryd.prog 44 #[.int .i64 n] w fun e w' => e = .returned (.string ⟨(Lib.itoa n).toArray⟩) ∧ Below w.heap.size w w' := by
  refine (Tryd.strconv_Itoa n h0 h1 w ht).mono ?_
  rintro e w' ⟨rfl, k, os, rfl⟩
  exact ⟨rfl, Lib.below_grow _ w (Nat.le_refl _) k os⟩
theorem is_calls (m0 m1 m2 m4 : Int) (m3 m6 : ByteArray) (v5 : Value) (u : Int) (bk : Nat) (w : World) (hb : bk < w.heap.size) (hc : w.cell? ⟨bk, 0, none⟩ = some (.int .i64 u)) :
    Calls Tryd.prog 50 #[.agg #[.int .i64 m0, .int .i64 m1, .int .i64 m2, .string m3, .int .i64 m4, v5, .string m6], .pointer (some ⟨bk, 0, none⟩)] w fun e w' => e = .returned (.bool (m0 == u)) ∧ Below w.heap.size w w' := by
  have hc2 : ∀ o, (w.alloc o).cell? ⟨bk, 0, none⟩ = some (.int .i64 u) := fun o => (World.cell?_alloc_lt w o ⟨bk, 0, none⟩ hb).trans hc
  have hu31 := Tryd.underlying34
  clear hb hc
  go_enter Tryd.func50, Tryd.ntmps50
  go_wp2
  go_ret
  exact ⟨rfl, below_alloc (Below.refl _ _) _⟩
def itoaB (n : Int) : ByteArray := ⟨(Lib.itoa n).toArray⟩
def selW (ws : List ByteArray) : List Int → List ByteArray
  | [] => []
  | a :: r => if 0 ≤ a ∧ a < (ws.length : Int) then rdOf ByteArray.empty ws a :: selW ws r else selW ws r
theorem words_l0 (a0 : ByteArray) (a1 a2 a3 : Int) (ws : List ByteArray) (ms : List S34) (l : List Int) (hl : l.length ≤ 1000000) : ∀ (m i : Nat) (b : List ByteArray), i + m = l.length → b.length + m ≤ 1000000 → Evn (fun k => box_Words.l0 k b l (l.length : Int) (i : Int) a0 a1 a2 a3 ws ms) (b ++ selW ws (l.drop i)) := by
  intro m
  induction m with
  | zero =>
    intro i b hi hb
    refine Evn.round (g := fun _ => some b) ?_ (fun k => by rw [box_Words.l0, if_neg (by omega)])
    rw [List.drop_of_length_le (by omega), selW, List.append_nil]
    exact Evn.pure _
  | succ m ih =>
    intro i b hi hb
    have hlt : i < l.length := by omega
    rw [List.drop_eq_getElem_cons hlt, selW]
    by_cases h0 : l[i] ≥ 0
    · by_cases h1 : l[i] < (ws.length : Int)
      · rw [if_pos ⟨h0, h1⟩]
        have h := ih (i + 1) (b ++ [rdOf ByteArray.empty ws l[i]]) (by omega) (by rw [List.length_append]; simp; omega)
        rw [List.append_assoc] at h
        exact Evn.round h (fun k => by rw [box_Words.l0, if_pos (by omega), if_pos (by omega), if_pos (by omega), rd_nat l hlt, if_pos h0, if_pos h1, if_pos h0, if_pos (by omega), w64s (by omega) (by omega)]; rfl)
      · rw [if_neg (fun h => h1 h.2)]
        exact Evn.round (ih (i + 1) b (by omega) (by omega)) (fun k => by rw [box_Words.l0, if_pos (by omega), if_pos (by omega), if_pos (by omega), rd_nat l hlt, if_pos h0, if_neg h1, w64s (by omega) (by omega)]; rfl)
    · rw [if_neg (fun h => h0 h.1)]
      exact Evn.round (ih (i + 1) b (by omega) (by omega)) (fun k => by rw [box_Words.l0, if_pos (by omega), if_pos (by omega), if_pos (by omega), rd_nat l hlt, if_neg h0, w64s (by omega) (by omega)]; rfl)
theorem words_ev (a0 : ByteArray) (a1 a2 a3 : Int) (ws : List ByteArray) (ms : List S34) (l : List Int) (hl : l.length ≤ 1000000) (m0 m1 m2 : Int) (m3 : ByteArray) (m4 : Int) (m6 : ByteArray) : Evn (fun k => box_Words.f k a0 a1 a2 a3 ws ms m0 m1 m2 m3 m4 l m6) (selW ws l) := by
  have h := words_l0 a0 a1 a2 a3 ws ms l hl l.length 0 [] (by omega) (by simp; omega)
  rw [List.drop_zero, List.nil_append] at h
  exact h
theorem words_calls (a0 : ByteArray) (a1 a2 a3 : Int) (A4 : Option Addr) (c4 : Nat) (ws : List ByteArray) (A5 : Option Addr) (c5 : Nat) (ms : List S34) (m0 m1 m2 : Int) (m3 : ByteArray) (m4 : Int) (A6 : Option Addr) (c6 : Nat) (l : List Int) (m6 : ByteArray) (w : World) (hC4 : Kd.C Kd.string w A4 ws.length ws) (hc4 : ws.length ≤ c4) (hC5 : Kd.C k34 w A5 ms.length ms) (hc5 : ms.length ≤ c5) (hC6 : Kd.C (Kd.int .i64) w A6 l.length l) (hc6 : l.length ≤ c6) (hl : l.length ≤ 1000000) :
    Calls Tryd.prog 46 #[.agg #[.string a0, .int .i64 a1, .int .i64 a2, .int .i64 a3, .slice A4 ws.length c4, .slice A5 ms.length c5], .agg #[.int .i64 m0, .int .i64 m1, .int .i64 m2, .string m3, .int .i64 m4, .slice A6 l.length c6, .string m6]] w fun e w' => ∃ A c, e = .returned (.slice A (selW ws l).length c) ∧ (selW ws l).length ≤ c ∧ Kd.C Kd.string w' A (selW ws l).length (selW ws l) ∧ Below w.heap.size w w' := by
  obtain ⟨k, hk⟩ := (words_ev a0 a1 a2 a3 ws ms l hl m0 m1 m2 m3 m4 m6).get
  refine (box_Words.calls k a0 a1 a2 a3 A4 c4 ws A5 c5 ms m0 m1 m2 m3 m4 A6 c6 l m6 _ w hC4 hc4 hC5 hc5 hC6 hc6 hk).mono ?_
  rintro e w' ⟨v, rfl, hR, hb⟩
  obtain ⟨A, c, rfl, h1, h2⟩ := Kd.R_reads hR
  exact ⟨A, c, rfl, h1, h2, hb⟩
end Go.Proofs.YtplfpbfmnogckaaDoor.TdP
