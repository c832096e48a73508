-- Printed by prune.py: the used part of a text.
import Derived.Test.YtplfpbfmnogckaaDoorZTdS
namespace Go.Proofs.YtplfpbfmnogckaaDoor.TdA
open Go.RowKit Go.Proofs.YtplfpbfmnogckaaDoorW.PrintWords Go.Proofs.YtplfpbfmnogckaaDoorW.PrintLast Go.Proofs.YtplfpbfmnogckaaDoorW.PrintMore Go.Proofs.YtplfpbfmnogckaaDoor.TdG Go.Proofs.YtplfpbfmnogckaaDoor.TdM Go.Proofs.YtplfpbfmnogckaaDoor.TdP Go.Proofs.YtplfpbfmnogckaaDoor.TdD Go.Proofs.YtplfpbfmnogckaaDoor.ItT Go.Proofs.YtplfpbfmnogckaaDoor.ItO Go.Proofs.YtplfpbfmnogckaaDoor.TdF Go.Proofs.YtplfpbfmnogckaaDoor.TdS
set_option linter.unusedVariables false
set_option linter.unusedSimpArgs false
theorem rds_seen (l : List S37) {i : Nat} (h : i < l.length) : rd_T37 l (i : Int) = l[i] := by
  unfold rd_T37
  rw [Int.toNat_natCast, List.getD_eq_getElem?_getD, List.getElem?_eq_getElem h]
  rfl
theorem new_l0 (l : List S34) (hl : l.length ≤ 1000000) : ∀ (m i : Nat) (b : List S37), i + m = l.length → b.length + m ≤ 1000000 → Evn (fun k => told_New.l0 k b l (l.length : Int) (i : Int)) (b ++ (l.drop i).map seenM) := by
  intro m
  induction m with
  | zero =>
    intro i b hi hb
    refine Evn.round (g := fun _ => some b) ?_ (fun k => by rw [told_New.l0, if_neg (by omega)])
    rw [List.drop_of_length_le (by omega), List.map_nil, List.append_nil]
    exact Evn.pure _
  | succ m ih =>
    intro i b hi hb
    have hlt : i < l.length := by omega
    rw [List.drop_eq_getElem_cons hlt, List.map_cons]
    have h := ih (i + 1) (b ++ [seenM l[i]]) (by omega) (by rw [List.length_append]; simp; omega)
    rw [List.append_assoc] at h
    exact Evn.round h (fun k => by rw [told_New.l0, if_pos (by omega), if_pos (by omega), if_pos (by omega), if_pos (by omega), rdm_nat l hlt, w64s (by omega) (by omega)]; rfl)
theorem new_calls (a0 : ByteArray) (a1 a2 a3 : Int) (aA4 : Option Addr) (ac4 : Nat) (aw : List ByteArray) (aA5 : Option Addr) (ac5 : Nat) (am : List S34) (w : World) (hC4 : Kd.C Kd.string w aA4 aw.length aw) (hc4 : aw.length ≤ ac4) (hC5 : Kd.C k34 w aA5 am.length am) (hc5 : am.length ≤ ac5) (hn : am.length ≤ 100000) :
    Calls Tryd.prog 17 #[.agg #[.string a0, .int .i64 a1, .int .i64 a2, .int .i64 a3, .slice aA4 aw.length ac4, .slice aA5 am.length ac5]] w fun e w' => ∃ A c, e = .returned (.slice A am.length c) ∧ am.length ≤ c ∧ Kd.C k37 w' A am.length (am.map seenM) ∧ Below w.heap.size w w' := by
  have h := new_l0 am (by omega) am.length 0 [] (by omega) (by simp; omega)
  rw [List.drop_zero, List.nil_append] at h
  obtain ⟨k, hk⟩ := h.get
  refine (told_New.calls k a0 a1 a2 a3 aA4 ac4 aw aA5 ac5 am (am.map seenM) w hC4 hc4 hC5 hc5 hk).mono ?_
  rintro e w' ⟨v, rfl, hR, hb⟩
  obtain ⟨A, c, rfl, h1, h2⟩ := Kd.R_reads hR
  rw [List.length_map] at h1 h2 ⊢
  exact ⟨A, c, rfl, h1, h2, hb⟩
theorem same_l0 (l : List S37) (hl : l.length ≤ 1000000) : ∀ (m i : Nat), i + m = l.length → Evn (fun k => mailsacklaw23_same.l0 k l l (l.length : Int) (i : Int)) true := by
  intro m
  induction m with
  | zero =>
    intro i hi
    exact Evn.round (g := fun _ => some true) (Evn.pure _) (fun k => by rw [mailsacklaw23_same.l0, if_neg (by omega)])
  | succ m ih =>
    intro i hi
    exact Evn.round (ih (i + 1) (by omega)) (fun k => by rw [mailsacklaw23_same.l0, if_pos (by omega), if_pos (by omega), if_pos (by omega), if_pos (by omega), if_neg (by simp), w64s (by omega) (by omega)]; rfl)
theorem same_calls (A0 : Option Addr) (c0 : Nat) (A1 : Option Addr) (c1 : Nat) (l : List S37) (w : World) (h0 : Kd.C k37 w A0 l.length l) (hc0 : l.length ≤ c0) (h1 : Kd.C k37 w A1 l.length l) (hc1 : l.length ≤ c1) (hl : l.length ≤ 1000000) :
    Calls Tryd.prog 16 #[.slice A0 l.length c0, .slice A1 l.length c1] w fun e w' => e = .returned (.bool true) ∧ Below w.heap.size w w' := by
  obtain ⟨k, hk⟩ := (same_l0 l hl l.length 0 (by omega)).get
  refine (mailsacklaw23_same.calls k A0 c0 l A1 c1 l true w h0 hc0 h1 hc1 ?_).mono ?_
  · unfold mailsacklaw23_same.f
    rw [if_pos rfl]
    exact hk
  · rintro e w' ⟨rfl, hd⟩
    exact ⟨rfl, hd.below⟩
def findS (u : Int) : Nat → List S37 → Int
  | _, [] => -1
  | i, m :: r => if m.f0 = u then (i : Int) else findS u (i + 1) r
theorem pis_calls (m0 m1 : Int) (u : Int) (bk : Nat) (w : World) (hb : bk < w.heap.size) (hc : w.cell? ⟨bk, 0, none⟩ = some (.int .i64 u)) :
    Calls Tryd.prog 37 #[.agg #[.int .i64 m0, .int .i64 m1], .pointer (some ⟨bk, 0, none⟩)] w fun e w' => e = .returned (.bool (m0 == u)) ∧ Below w.heap.size w w' := by
  have hc2 : ∀ o, (w.alloc o).cell? ⟨bk, 0, none⟩ = some (.int .i64 u) := fun o => (World.cell?_alloc_lt w o ⟨bk, 0, none⟩ hb).trans hc
  have hu31 := Tryd.underlying37
  clear hb hc
  go_enter Tryd.func37, Tryd.ntmps37
  go_wp2
  go_ret
  exact ⟨rfl, below_alloc (Below.refl _ _) _⟩
set_option maxRecDepth 100000 in
set_option maxHeartbeats 1000000 in
theorem pindex_calls (A : Option Addr) (n c : Nat) (l : List S37) (u : Int) (bk : Nat) (w : World) (hl : Aside0 (n = l.length)) (hn : n ≤ 1000000) (hC : Kd.C k37 w A n l) (hb : bk < w.heap.size) (hc : w.cell? ⟨bk, 0, none⟩ = some (.int .i64 u)) :
    Calls Tryd.prog 36 #[.slice A n c, .func (.func 37) #[] #[.pointer (some ⟨bk, 0, none⟩)]] w fun e w' => e = .returned (.int .i64 (findS u 0 l)) ∧ Below w.heap.size w w' := by
  have HC := Aside0.mk hC
  have HL := Aside0.mk hb
  have HX := Aside0.mk hc
  have hu31 := Tryd.underlying37
  have hn9 : (n : Int) ≤ 1000000 := by omega
  clear hC hb hc hn
  have eg : ∀ args w, (callFunc 37 args).run Tryd.prog w = .ok (.enter 37 args) w := fun args w => enters_ Tryd.func37 (by kernel_rfl) rfl args w
  go_enter Tryd.func36, Tryd.ntmps36
  go_wp2_with fail
  go_loopw [8] (fun i wr => ∃ k : Nat, k ≤ n ∧ i = .int .i64 k ∧ Aside0 (findS u k (l.drop k) = findS u 0 l) ∧ Aside0 (Below w.heap.size w wr)) (fun i _ => n - (intOf i).toNat)
  case atStart => exact ⟨0, Nat.zero_le _, rfl, ⟨rfl⟩, ⟨Below.refl _ _⟩⟩
  case round =>
    obtain ⟨k, hk, rfl, HK, HB⟩ := hrel
    by_cases hlt : k < n
    · obtain ⟨ad, e1, hx0, hx1⟩ := at_T37 (Kd.C_below HC.out HB.out) (k : Int) (by omega) (by omega)
      cases e1
      rw [Int.toNat_natCast] at hx0 hx1
      have hll : k < l.length := by have := hl.out; omega
      have E2 := HK.out
      rw [List.drop_eq_getElem_cons hll, findS, ← rds_seen l hll] at E2
      clear HK
      generalize rd_T37 l (k : Int) = m at *
      have HQ := Aside0.mk (pis_calls m.f0 m.f1 u bk wr (Nat.lt_of_lt_of_le HL.out HB.out.size) ((HB.out.cell (p := ⟨bk, 0, none⟩) HL.out).trans HX.out))
      clear hll
      by_cases heq : m.f0 = u
      · rw [if_pos heq] at E2
        rw [show (m.f0 == u) = true from beq_iff_eq.2 heq] at HQ
        have E3 := Aside0.mk E2
        clear E2 heq
        go_wp2_with (go_at_call 37; refine HQ.out.mono ?_; rintro e w3 ⟨rfl, hb3⟩; have HB3 := Aside0.mk hb3; clear hb3)
        go_ret
        exact ⟨by rw [← E3.out]; rfl, HB.out.trans (HB3.out.mono HB.out.size)⟩
      · rw [if_neg heq] at E2
        rw [show (m.f0 == u) = false from beq_eq_false_iff_ne.2 heq] at HQ
        have E3 := Aside0.mk E2
        clear E2 heq
        go_wp2_with (go_at_call 37; refine HQ.out.mono ?_; rintro e w3 ⟨rfl, hb3⟩; have HB3 := Aside0.mk hb3; clear hb3)
        go_roundw
        case rel => exact ⟨k + 1, by omega, by go_num, ⟨E3.out⟩, ⟨HB.out.trans (HB3.out.mono HB.out.size)⟩⟩
        case measure => simp [intOf]; omega
    · have hke : k = n := by omega
      subst hke
      have E3 : Aside0 (findS u 0 l = -1) := ⟨by rw [← HK.out, List.drop_of_length_le (by have := hl.out; omega)]; rfl⟩
      clear HK
      go_wp2_with fail
      go_ret
      exact ⟨by rw [E3.out]; rfl, HB.out⟩
theorem findS_rng (u : Int) : ∀ (l : List S37) (i : Nat), -1 ≤ findS u i l ∧ findS u i l ≤ ((i + l.length : Nat) : Int)
  | [], i => ⟨by show (-1 : Int) ≤ -1; omega, by show (-1 : Int) ≤ _; omega⟩
  | m :: r, i => by
    rw [findS]
    split
    · exact ⟨by omega, by rw [List.length_cons]; omega⟩
    · obtain ⟨h1, h2⟩ := findS_rng u r (i + 1)
      exact ⟨h1, by rw [List.length_cons]; omega⟩
set_option maxRecDepth 100000 in
theorem place_calls (A : Option Addr) (n c : Nat) (l : List S37) (u : Int) (w : World) (hl : n = l.length) (hC : Kd.C k37 w A n l) (hn : n ≤ 1000000) :
    Calls Tryd.prog 20 #[.slice A n c, .int .i64 u] w fun e w' => e = .returned (.int .i64 (1 + findS u 0 l)) ∧ Below w.heap.size w w' := by
  have HC := Aside0.mk (fun (W : World) (bk : Nat) (hW : Below w.heap.size w W) (h1 : bk < W.heap.size) (h2 : W.cell? ⟨bk, 0, none⟩ = some (.int .i64 u)) => pindex_calls A n c l u bk W ⟨hl⟩ hn (Kd.C_below hC hW) h1 h2)
  obtain ⟨hr1, hr2⟩ := findS_rng u l 0
  have hr3 : findS u 0 l ≤ 1000000 := by omega
  clear hC hn hr2 hl
  generalize findS u 0 l = q at *
  go_enter Tryd.func20, Tryd.ntmps20
  have M0_0 := Aside0.mk (Below.refl w.heap.size w)
  go_wp2_with (first
    | ((with_reducible refine gate_dst (N := 3) rfl ?_); refine box_event ?hgU3 (N := 3) ?hdU3 (cs := #[.int .i64 u]) (t := 3) ?hrU3 ?_; (case hdU3 => rfl); (case hgU3 => rfl); (case hrU3 => first | (go_simp; done) | (go_simp; rfl)); intro g_U hg_ w_1 hbx_ hb_; have L0_U := Aside0.mk (show w.heap.size ≤ g_U by have := M0_0.out.size; omega); have M0_1 := Aside0.mk (M0_0.out.trans (hb_.mono M0_0.out.size)); have U_1 := Aside0.mk hbx_; clear hg_ hbx_ hb_ M0_0; have zU0 := blk_cell U_1.out 0; skip)
    | (go_at_call 36; refine (HC.out w_1 g_U M0_1.out (blk_lt U_1.out) ((blk_cell U_1.out 0).trans rfl)).mono ?_; rintro e_ w_2 ⟨rfl, hb⟩; have M0_2 := Aside0.mk (M0_1.out.trans (hb.mono M0_1.out.size)); have U_2 := Aside0.mk (blk_below U_1.out hb); clear hb M0_1 U_1 zU0; skip))
  go_ret
  exact ⟨rfl, M0_2.out⟩
end Go.Proofs.YtplfpbfmnogckaaDoor.TdA
