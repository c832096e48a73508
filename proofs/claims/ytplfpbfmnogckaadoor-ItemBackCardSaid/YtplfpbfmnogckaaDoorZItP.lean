-- Printed by prune.py: the used part of a text.
import Derived.Test.YtplfpbfmnogckaaDoorZWdD
namespace Go.Proofs.YtplfpbfmnogckaaDoor.ItP
open Go.RowKit Go.Proofs.YtplfpbfmnogckaaDoorW.PrintWords Go.Proofs.YtplfpbfmnogckaaDoorW.PrintLast Go.Proofs.YtplfpbfmnogckaaDoorW.PrintMore Go.Proofs.YtplfpbfmnogckaaDoor.TdG Go.Proofs.YtplfpbfmnogckaaDoor.TdM Go.Proofs.YtplfpbfmnogckaaDoor.TdP Go.Proofs.YtplfpbfmnogckaaDoor.ItO Go.Proofs.YtplfpbfmnogckaaDoor.TdF Go.Proofs.YtplfpbfmnogckaaDoor.TdS Go.Proofs.YtplfpbfmnogckaaDoor.WdA Go.Proofs.YtplfpbfmnogckaaDoor.WdB Go.Proofs.YtplfpbfmnogckaaDoor.WdC Go.Proofs.YtplfpbfmnogckaaDoor.WdD
set_option linter.unusedVariables false
set_option linter.unusedSimpArgs false
def upC (c : Int) : Int := if 97 ≤ c ∧ c ≤ 122 then (c - 32) % 256 else c
def sameL (a b : ByteArray) : Nat → Nat → Bool
  | 0, _ => true
  | m + 1, i => (upC (bt b (i : Int)) == bt a (i : Int)) && sameL a b m (i + 1)
def sameB (a b : ByteArray) : Bool := decide (a.size = b.size) && sameL a b b.size 0
theorem same_l0 (a b : ByteArray) (hab : a.size = b.size) (hb : b.size ≤ 100000) : ∀ (m i : Nat), i + m = b.size → Evn (fun k => item_same.l0 k a b (b.size : Int) (i : Int)) (sameL a b m i) := by
  intro m
  induction m with
  | zero =>
    intro i hi
    refine Evn.round (g := fun _ => some true) ?_ (fun k => by rw [item_same.l0, if_neg (by omega)])
    exact Evn.pure _
  | succ m ih =>
    intro i hi
    have h := ih (i + 1) (by omega)
    have hj : ∀ (x6 : Int) (t : Bool) (v : Int), v = (if t = true then (x6 - 32) % 256 else x6) → Evn (fun k => item_same.j1 k a b (i : Int) x6 (b.size : Int) (i : Int) t) ((v == bt a (i : Int)) && sameL a b m (i + 1)) := by
      intro x6 t v hv
      by_cases e : v = bt a (i : Int)
      · rw [show (v == bt a (i : Int)) = true from beq_iff_eq.2 e, Bool.true_and]
        refine Evn.round h (fun k => ?_)
        cases t with
        | true => rw [if_pos rfl] at hv; rw [item_same.j1, if_pos rfl, if_pos (by omega), if_pos (by omega), if_pos (by rw [← hv]; exact e), w64s (by omega) (by omega)]; rfl
        | false => rw [if_neg (by decide)] at hv; rw [item_same.j1, if_neg (by decide), if_pos (by omega), if_pos (by omega), if_pos (by rw [← hv]; exact e), w64s (by omega) (by omega)]; rfl
      · rw [show (v == bt a (i : Int)) = false from beq_eq_false_iff_ne.2 e, Bool.false_and]
        refine Evn.round (g := fun _ => some false) (Evn.pure _) (fun k => ?_)
        cases t with
        | true => rw [if_pos rfl] at hv; rw [item_same.j1, if_pos rfl, if_pos (by omega), if_pos (by omega), if_neg (by rw [← hv]; exact e)]
        | false => rw [if_neg (by decide)] at hv; rw [item_same.j1, if_neg (by decide), if_pos (by omega), if_pos (by omega), if_neg (by rw [← hv]; exact e)]
    rw [sameL]
    by_cases h97 : bt b (i : Int) ≥ 97
    · refine Evn.round (hj (bt b (i : Int)) (decide (bt b (i : Int) ≤ 122)) (upC (bt b (i : Int))) ?_) (fun k => by rw [item_same.l0, if_pos (by omega), if_pos (by omega), if_pos (by omega), if_pos h97])
      unfold upC
      by_cases h2 : bt b (i : Int) ≤ 122
      · rw [if_pos ⟨h97, h2⟩, decide_eq_true h2, if_pos rfl]
      · rw [if_neg (fun h => h2 h.2), decide_eq_false h2, if_neg (by decide)]
    · refine Evn.round (hj (bt b (i : Int)) false (upC (bt b (i : Int))) ?_) (fun k => by rw [item_same.l0, if_pos (by omega), if_pos (by omega), if_pos (by omega), if_neg h97])
      unfold upC
      rw [if_neg (fun h => h97 h.1), if_neg (by decide)]
theorem same_calls (a b : ByteArray) (hb : b.size ≤ 100000) (w : World) : Calls Tryd.prog 41 #[.string a, .string b] w fun e w' => e = .returned (.bool (sameB a b)) ∧ Below w.heap.size w w' := by
  have key : ∃ k, item_same.f k a b = some (sameB a b) := by
    by_cases h : a.size = b.size
    · obtain ⟨k, hk⟩ := (same_l0 a b h hb b.size 0 (by omega)).get
      refine ⟨k, ?_⟩
      unfold item_same.f sameB
      rw [if_pos (by omega), decide_eq_true h, Bool.true_and]
      exact hk
    · refine ⟨0, ?_⟩
      unfold item_same.f sameB
      rw [if_neg (by omega), decide_eq_false h, Bool.false_and]
  obtain ⟨k, hk⟩ := key
  refine (item_same.calls k a b _ w hk).mono ?_
  rintro e w' ⟨rfl, hd⟩
  exact ⟨rfl, hd.below⟩
set_option maxRecDepth 100000 in
set_option maxHeartbeats 1000000 in
theorem bit1_calls (nm tx : ByteArray) (kd : Int) (bk : Nat) (w : World) (hb : w.heap[bk]? = some (.cells #[.int .i64 kd, .string tx] 60 (0, 0))) (ht : tx.size ≤ 100000) :
    Calls Tryd.prog 59 #[.string nm, .pointer (some ⟨bk, 0, none⟩)] w fun e w' => e = .returned (.bool ((kd == 1) && sameB nm tx)) ∧ Below w.heap.size w w' := by
  have zc0 := blk_cell hb 0
  have zc1 := blk_cell hb 1
  have HS := Aside0.mk (fun W => same_calls nm tx ht W)
  have HB := Aside0.mk (Below.refl w.heap.size w)
  clear hb ht
  generalize sameB nm tx = r at *
  by_cases hk : kd = 1
  · have hd : (kd == 1) = true := beq_iff_eq.2 hk
    rw [hd, Bool.true_and]
    clear hk
    go_enter Tryd.func59, Tryd.ntmps59
    go_wp2_with (go_at_call 41; refine (HS.out _).mono ?_; rintro e_ w1 ⟨rfl, hb⟩; have HB1 := Aside0.mk hb; clear hb)
    go_ret
    exact ⟨rfl, HB1.out⟩
  · have hd : (kd == 1) = false := beq_eq_false_iff_ne.2 hk
    rw [hd, Bool.false_and]
    clear hk
    go_enter Tryd.func59, Tryd.ntmps59
    go_wp2_with fail
    go_ret
    exact ⟨rfl, HB.out⟩
def findB (kd : Int) (tx : ByteArray) : Nat → List ByteArray → Int
  | _, [] => -1
  | i, a :: r => if ((kd == 1) && sameB a tx) = true then (i : Int) else findB kd tx (i + 1) r
theorem findB_rng (kd : Int) (tx : ByteArray) : ∀ (l : List ByteArray) (i : Nat), findB kd tx i l = -1 ∨ ((i : Int) ≤ findB kd tx i l ∧ findB kd tx i l < ((i + l.length : Nat) : Int))
  | [], _ => .inl rfl
  | a :: r, i => by
    rw [findB]
    split
    · exact .inr ⟨by omega, by rw [List.length_cons]; omega⟩
    · rcases findB_rng kd tx r (i + 1) with h | ⟨h1, h2⟩
      · exact .inl h
      · exact .inr ⟨by omega, by rw [List.length_cons]; omega⟩
set_option maxRecDepth 100000 in
set_option maxHeartbeats 1000000 in
theorem indexS_calls (A : Option Addr) (n c : Nat) (l : List ByteArray) (kd : Int) (tx : ByteArray) (bk : Nat) (w : World) (hl : Aside0 (n = l.length)) (hn : n ≤ 1000) (hC : Kd.C Kd.string w A n l) (hb : w.heap[bk]? = some (.cells #[.int .i64 kd, .string tx] 60 (0, 0))) (ht : tx.size ≤ 100000) :
    Calls Tryd.prog 58 #[.slice A n c, .func (.func 59) #[] #[.pointer (some ⟨bk, 0, none⟩)]] w fun e w' => e = .returned (.int .i64 (findB kd tx 0 l)) ∧ Below w.heap.size w w' := by
  have HC := Aside0.mk hC
  have HX := Aside0.mk hb
  have HS := Aside0.mk (fun nm W (hW : Below w.heap.size w W) => bit1_calls nm tx kd bk W (blk_below hb hW) ht)
  have hn9 : (n : Int) ≤ 1000 := by omega
  clear hC hb hn ht
  have eg : ∀ args w, (callFunc 59 args).run Tryd.prog w = .ok (.enter 59 args) w := fun args w => enters_ Tryd.func59 (by kernel_rfl) rfl args w
  go_enter Tryd.func58, Tryd.ntmps58
  go_wp2_with fail
  go_loopw [8] (fun i wr => ∃ k : Nat, k ≤ n ∧ i = .int .i64 k ∧ Aside0 (findB kd tx k (l.drop k) = findB kd tx 0 l) ∧ Aside0 (Below w.heap.size w wr)) (fun i _ => n - (intOf i).toNat)
  case atStart => exact ⟨0, Nat.zero_le _, rfl, ⟨rfl⟩, ⟨Below.refl _ _⟩⟩
  case round =>
    obtain ⟨k, hk, rfl, HK, HB⟩ := hrel
    by_cases hlt : k < n
    · obtain ⟨ad, e1, hx0⟩ := Kd.at_string (Kd.C_below HC.out HB.out) (k : Int) (by omega) (by omega)
      cases e1
      have hll : k < l.length := by have := hl.out; omega
      have hrd : rdOf ByteArray.empty l (k : Int) = l[k] := by
        unfold rdOf
        rw [Int.toNat_natCast, List.getD_eq_getElem?_getD, List.getElem?_eq_getElem hll]
        rfl
      rw [hrd, Int.toNat_natCast] at hx0
      have E2 := HK.out
      rw [List.drop_eq_getElem_cons hll, findB] at E2
      have HQ := Aside0.mk (HS.out l[k] wr HB.out)
      clear HK hrd
      generalize l[k] = nm at *
      clear hll
      generalize ((kd == 1) && sameB nm tx) = r at *
      cases r with
      | true =>
        rw [if_pos rfl] at E2
        have E3 := Aside0.mk E2
        clear E2
        go_wp2_with (go_at_call 59; refine HQ.out.mono ?_; rintro e w3 ⟨rfl, hb3⟩; have HB3 := Aside0.mk hb3; clear hb3)
        go_ret
        exact ⟨by rw [← E3.out]; rfl, HB.out.trans (HB3.out.mono HB.out.size)⟩
      | false =>
        rw [if_neg (by decide)] at E2
        have E3 := Aside0.mk E2
        clear E2
        go_wp2_with (go_at_call 59; refine HQ.out.mono ?_; rintro e w3 ⟨rfl, hb3⟩; have HB3 := Aside0.mk hb3; clear hb3)
        go_roundw
        case rel => exact ⟨k + 1, by omega, by go_num, ⟨E3.out⟩, ⟨HB.out.trans (HB3.out.mono HB.out.size)⟩⟩
        case measure => simp [intOf]; omega
    · have hke : k = n := by omega
      subst hke
      have E3 : Aside0 (findB kd tx 0 l = -1) := ⟨by rw [← HK.out, List.drop_of_length_le (by have := hl.out; omega)]; rfl⟩
      clear HK
      go_wp2_with fail
      go_ret
      exact ⟨by rw [E3.out]; rfl, HB.out⟩
def namesL : List ByteArray := (item_names.f).getD []
theorem namesL_f : item_names.f = some namesL := by rfl
theorem namesL_len : namesL.length = 7 := by rfl
def bitV (kd : Int) (tx : ByteArray) : Int := if findB kd tx 0 namesL < 0 then 0 else 2 ^ (findB kd tx 0 namesL).toNat
set_option maxRecDepth 100000 in
set_option maxHeartbeats 4000000 in
theorem bit_calls (kd : Int) (tx : ByteArray) (w : World) (ht : tx.size ≤ 100000) :
    Calls Tryd.prog 42 #[.agg #[.int .i64 kd, .string tx]] w fun e w' => e = .returned (.int .i64 (bitV kd tx)) ∧ Below w.heap.size w w' := by
  have hN := Aside0.mk (fun W => item_names.calls namesL W namesL_f)
  have hI := Aside0.mk (fun A c bk W (hC : Kd.C Kd.string W A namesL.length namesL) (hb : W.heap[bk]? = some (.cells #[.int .i64 kd, .string tx] 60 (0, 0))) => indexS_calls A namesL.length c namesL kd tx bk W ⟨rfl⟩ (by rw [namesL_len]; decide) hC hb ht)
  have hrng := findB_rng kd tx namesL 0
  rw [namesL_len] at hrng
  have hv : bitV kd tx = if findB kd tx 0 namesL < 0 then 0 else 2 ^ (findB kd tx 0 namesL).toNat := rfl
  rw [hv]
  clear hv ht
  generalize findB kd tx 0 namesL = i at *
  have hi : i = -1 ∨ i = 0 ∨ i = 1 ∨ i = 2 ∨ i = 3 ∨ i = 4 ∨ i = 5 ∨ i = 6 := by omega
  clear hrng
  rcases hi with rfl | rfl | rfl | rfl | rfl | rfl | rfl | rfl
  all_goals
    go_enter Tryd.func42, Tryd.ntmps42
    go_wp2_with (first
      | ((with_reducible refine gate_dst (N := 1) rfl ?_); refine box_event ?hg1 (N := 1) ?hd1 (cs := #[.int .i64 kd, .string tx]) (t := 60) ?hr1 ?_; (case hd1 => rfl); (case hg1 => rfl); (case hr1 => first | (go_simp; done) | (go_simp; rfl)); intro g hg_ w1 hbx hb1; have G1 := Aside0.mk hbx; have HB1 := Aside0.mk hb1; clear hg_ hbx hb1; skip)
      | (go_at_call 54; refine (hN.out _).mono ?_; rintro e_ w2 ⟨v2, rfl, hR, hb⟩; obtain ⟨A2, n2, c2, rfl⟩ := slc hR; have HR := Aside0.mk (Kd.R_reads' hR); obtain rfl := HR.out.1; have G2 := Aside0.mk (blk_below G1.out hb); have HB2 := Aside0.mk (HB1.out.trans (hb.mono HB1.out.size)); clear hR hb G1 HB1; skip)
      | (go_at_call 58; refine (hI.out A2 c2 g _ HR.out.2.2 G2.out).mono ?_; rintro e_ w3 ⟨rfl, hb⟩; have HB3 := Aside0.mk (HB2.out.trans (hb.mono HB2.out.size)); clear hb G2 HB2; skip))
    go_ret
    exact ⟨by first | rfl | (simp; done) | decide, HB3.out⟩
end Go.Proofs.YtplfpbfmnogckaaDoor.ItP
