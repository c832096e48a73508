/- TableSteps, walked. -/
import Derived.Test.YtehlegjccghalaaTbM
namespace Go.Proofs.Ytehlegjccghalaa.TbV
open Go.RowKit Go.Proofs.YtehlegjccghalaaW.PrintWords Go.Proofs.YtehlegjccghalaaW.PrintLast Go.Proofs.YtehlegjccghalaaW.PrintMore Go.Proofs.Ytehlegjccghalaa.TbI Go.Proofs.Ytehlegjccghalaa.TbP Go.Proofs.Ytehlegjccghalaa.TbT Go.Proofs.Ytehlegjccghalaa.TbN Go.Proofs.Ytehlegjccghalaa.TbL Go.Proofs.Ytehlegjccghalaa.TbM
set_option linter.unusedVariables false
set_option linter.unusedSimpArgs false
theorem rd_at {l : List Int} {k : Nat} (h : k < l.length) : l[k]? = some (rd l (k : Int)) := by
  show l[k]? = some (l.getD (k : Int).toNat 0)
  rw [Int.toNat_natCast, List.getD_eq_getElem?_getD, List.getElem?_eq_getElem h]; rfl
theorem bel {B : Nat} {w w1 : World} (hq : ∃ q, w1 = w.drewN q) : Below B w w1 := by
  obtain ⟨q, rfl⟩ := hq
  exact pw_below_drewN (Below.refl _ _) q
theorem dq {w w1 w2 : World} (h : ∃ q, w1 = w.drewN q) (h2 : ∃ q, w2 = w1.drewN q) : ∃ q, w2 = w.drewN q := by
  obtain ⟨q, rfl⟩ := h
  obtain ⟨q2, rfl⟩ := h2
  exact ⟨q + q2, by simp [World.drewN, Nat.add_assoc]⟩
theorem cq {w w1 : World} {a : Addr} {x : Value} (h : ∃ q, w1 = w.drewN q) (hx : w.cell? a = some x) : w1.cell? a = some x := by
  obtain ⟨q, rfl⟩ := h
  exact hx
set_option maxRecDepth 100000 in
set_option maxHeartbeats 2000000 in
theorem tableSteps_calls (A0 : Option Addr) (c0 : Nat) (l0 : List Int) (w : World) (hl0 : l0.length ≤ c0) (hC0 : Kd.C (Kd.int .i64) w A0 l0.length l0) (hb0 : ∀ x ∈ l0, -9223372036854775808 ≤ x ∧ x ≤ 9223372036854775807) :
    Calls Try.prog 4 #[.slice A0 l0.length c0] w fun e w' => e = .returned (.bool true) ∧ Below w.heap.size w w' := by
  have HW := Aside0.mk (fun W => awake_calls W)
  have HN := Aside0.mk (fun W => gd_new 1000 1000 (by decide) W)
  have HC := Aside0.mk hC0
  have Hb0 := Aside0.mk hb0
  obtain ⟨n, hn⟩ : ∃ n, n = l0.length := ⟨_, rfl⟩
  have Hn := Aside0.mk hn
  rw [← hn] at HC hl0 ⊢
  clear hC0 hn hb0
  by_cases h60 : (n : Int) > 100
  · go_enter Try.func4, Try.ntmps4
    go_wp2_with (go_at_call 9; refine (HW.out _).mono ?_; rintro e w1 ⟨rfl, hb⟩; have Hb := Aside0.mk hb; clear hb)
    go_ret
    exact ⟨rfl, Hb.out⟩
  · go_enter Try.func4, Try.ntmps4
    have hn9 : (n : Int) ≤ 100 := by omega
    go_wp2_with (go_at_call 10; refine (HN.out _).mono ?_; rintro e w1 ⟨p, rfl, hb, hG⟩; have HB1 := Aside0.mk hb; have HG1 := Aside0.mk (hG _ (Nat.le_refl _)); clear hb hG)
    go_loopw [28] (fun i wr => ∃ k : Nat, k ≤ n ∧ i = .int .i64 k ∧ Aside0 (Below w.heap.size w wr) ∧ Aside0 (∃ kv vv ks vs, Gd wr w.heap.size p 1000 kv vv ks vs ∧ Stnd l0 k ks vs ∧ ks.length ≤ k)) (fun i _ => n - (intOf i).toNat)
    case atStart => exact ⟨0, Nat.zero_le _, rfl, HB1, ⟨_, _, _, _, HG1.out, src_nil _, Nat.le_refl _⟩⟩
    case round =>
      obtain ⟨k, hk, rfl, HB, HE⟩ := hrel
      by_cases hlt : k < n
      · obtain ⟨ad, e1, hx⟩ := Kd.at_int (Kd.C_below HC.out HB.out) (k : Int) (by omega) (by omega)
        cases e1
        rw [Int.toNat_natCast] at hx
        have Hx := Aside0.mk (rd_at (l := l0) (k := k) (by rw [← Hn.out]; exact hlt))
        generalize rd l0 (k : Int) = x at *
        obtain ⟨kv, vv, ks, vs, hG, hS, hkl⟩ := HE.out
        have K2 := Aside0.mk (gd_put hG x (k : Int))
        have HS' := Aside0.mk (src_put (room := 1000) ord_int hG.s hG.l (by omega) hS Hx.out)
        have HL' := Aside0.mk (Nat.le_trans (len_pk (lt := intLt) (room := 1000) (ks := ks) (x := x)) (Nat.succ_le_succ hkl))
        clear HE hG HG1 hS hkl
        go_wp2_with (go_at_call 13; refine K2.out.mono ?_; rintro e w5 ⟨kv5, vv5, rfl, hG5, ht5⟩; have HG5 := Aside0.mk hG5; have HB5 := Aside0.mk (HB.out.trans ht5.1); clear hG5 ht5)
        go_roundw
        case rel => exact ⟨k + 1, by omega, by go_num, HB5, ⟨_, _, _, _, HG5.out, HS'.out, HL'.out⟩⟩
        case measure => simp [intOf]; omega
      · have hke : n = k := by omega
        subst hke
        obtain ⟨kv, vv, ks, vs, hG, hS, hkl⟩ := HE.out
        have K1 := Aside0.mk (gd_keys hG)
        have HG := Aside0.mk hG
        have HS := Aside0.mk hS
        have hm9 : (ks.length : Int) ≤ 100 := by omega
        clear HE hG hS HG1
        go_wp2_with (go_at_call 14; refine K1.out.mono ?_; rintro e w2 ⟨v', rfl, hr, hb⟩; obtain ⟨A2, c2, rfl, hc2⟩ := own_slc hr; have HR := Aside0.mk hr; have HB2 := Aside0.mk (HB.out.trans (hb.mono HB.out.size)); have HG2 := Aside0.mk (HG.out.below hb); clear hr hb hc2)
        clear K1 HG HB
        go_loopw [42] (fun i wr => ∃ j : Nat, j ≤ ks.length ∧ i = .int .i64 j ∧ Aside0 (∃ q, wr = w2.drewN q)) (fun i _ => ks.length - (intOf i).toNat)
        case atStart => exact ⟨0, Nat.zero_le _, rfl, ⟨⟨0, rfl⟩⟩⟩
        case round =>
          obtain ⟨j, hj, rfl, HQ⟩ := hrel
          by_cases hlj : j < ks.length
          · obtain ⟨x, hx⟩ : ∃ x, ks[j]? = some x := ⟨_, List.getElem?_eq_getElem hlj⟩
            obtain ⟨v, hv⟩ : ∃ v, vs[j]? = some v := ⟨_, List.getElem?_eq_getElem (by rw [HG2.out.l]; exact hlj)⟩
            obtain ⟨i0, hi0, rfl, hi1⟩ := HS.out j x v hx hv
            obtain ⟨g2, c2', e2, hcx, _, _⟩ := own_cell (HR.out) (i := j) (x := .int .i64 x) (by rw [List.getElem?_map, hx]; rfl)
            cases e2
            have hG := HG2.out
            have hp := pos_at ord_int hG.s hx
            have KF := fun W (h : ∃ q, W = w2.drewN q) => gd_from (hG.drew h) x
            simp only [hp, List.getD_eq_getElem?_getD, hx, hv, decide_eq_true hlj, Option.getD_some] at KF
            have KA := fun W (h : ∃ q, W = w2.drewN q) => gd_at (hG.drew h) j hlj
            simp only [List.getD_eq_getElem?_getD, hx, hv, Option.getD_some] at KA
            have HF := Aside0.mk KF
            have HA := Aside0.mk KA
            obtain ⟨ad, e1, hx0⟩ := Kd.at_int (Kd.C_below HC.out HB2.out) (i0 : Int) (by omega) (by omega)
            cases e1
            have hrd : rd l0 (i0 : Int) = x := by
              have h1 := rd_at (l := l0) (k := i0) (by rw [← Hn.out]; exact hi0)
              rw [h1] at hi1
              injection hi1
            rw [Int.toNat_natCast, hrd] at hx0
            have hin := Hb0.out x (List.mem_of_getElem? hi1)
            have hi2 : ¬ ((i0 : Int) < 0) := by omega
            have hi3 : ¬ ((n : Int) ≤ (i0 : Int)) := by omega
            have hi4 : (i0 : Int) < (n : Int) := by omega
            have hj4 : (j : Int) < (ks.length : Int) := by omega
            have Hcx := Aside0.mk hcx
            have Hx0 := Aside0.mk hx0
            replace hcx := cq HQ.out hcx
            clear hx0
            cases j with
            | zero =>
              clear KF KA hG hp hv hi1 hrd hin hi0 hlj hj
              go_wp2_with (first
                | (go_at_call 15; refine (HF.out _ HQ.out).mono ?_; rintro e w3 ⟨rfl, hq⟩; have Q3 := Aside0.mk (dq HQ.out hq); clear hq)
                | (go_at_call 16; refine (HA.out _ Q3.out).mono ?_; rintro e w4 ⟨rfl, hq⟩; have Q4 := Aside0.mk (dq Q3.out hq); have hx4 := cq Q4.out Hx0.out; clear hq))
              go_roundw
              case rel => exact ⟨1, by omega, rfl, Q4⟩
              case measure => simp [intOf]; omega
            | succ j =>
              obtain ⟨a, ha⟩ : ∃ a, ks[j]? = some a := ⟨_, List.getElem?_eq_getElem (by omega)⟩
              have hax := next_lt hG.s ha hx
              obtain ⟨g3, c3, e3, hca, _, _⟩ := own_cell (HR.out) (i := j) (x := .int .i64 a) (by rw [List.getElem?_map, ha]; rfl)
              cases e3
              have hin2 := Hb0.out a (by
                obtain ⟨va, hva⟩ : ∃ v, vs[j]? = some v := ⟨_, List.getElem?_eq_getElem (by rw [HG2.out.l]; omega)⟩
                obtain ⟨ia, _, _, h3⟩ := HS.out j a va ha hva
                exact List.mem_of_getElem? h3)
              have hge : a ≤ x - 1 := by omega
              have hw1 : wrap64 (x - 1) = x - 1 := by unfold wrap64; omega
              have hw2 : wrap64 (a + 1) = a + 1 := by unfold wrap64; omega
              have KN := fun W (h : ∃ q, W = w2.drewN q) => gd_from (hG.drew h) (a + 1)
              simp only [pos_next hG.s ha hx, List.getD_eq_getElem?_getD, hx, hv, Option.getD_some, decide_eq_true hlj] at KN
              have HNx := Aside0.mk KN
              have Hca := Aside0.mk hca
              have hj5 : (j : Int) < (ks.length : Int) := by omega
              clear KF KA KN hG hp hv hi1 hrd hin hin2 hi0 hlj hax ha hca
              go_wp2_with (first
                | (go_at_call 15; (with_reducible refine (HF.out _ HQ.out).mono ?_); rintro e w3 ⟨rfl, hq⟩; have Q3 := Aside0.mk (dq HQ.out hq); clear hq)
                | (go_at_call 16; refine (HA.out _ Q3.out).mono ?_; rintro e w4 ⟨rfl, hq⟩; have Q4 := Aside0.mk (dq Q3.out hq); have hx4 := cq Q4.out Hx0.out; have ha4 := cq Q4.out Hca.out; clear hq)
                | (go_at_call 15; (with_reducible refine (HNx.out _ Q4.out).mono ?_); rintro e w5 ⟨rfl, hq⟩; have Q5 := Aside0.mk (dq Q4.out hq); clear hq))
              go_roundw
              case rel => exact ⟨j + 1 + 1, by omega, by go_num, Q5⟩
              case measure => simp [intOf]; omega
          · have hje : j = ks.length := by omega
            subst hje
            have HA := Aside0.mk (fun W (h : ∃ q, W = w2.drewN q) => gd_at_out (HG2.out.drew h) (ks.length : Int) (.inr (Int.le_refl _)))
            go_wp2_with (first
              | (go_at_call 16; refine (HA.out _ HQ.out).mono ?_; rintro e w4 ⟨rfl, e4⟩; subst e4)
              | (go_at_call 9; refine (HW.out _).mono ?_; rintro e w5 ⟨rfl, hb⟩; have HB5 := Aside0.mk ((HB2.out.trans (bel HQ.out)).trans (hb.mono (HB2.out.trans (bel HQ.out)).size)); clear hb))
            go_ret
            exact ⟨rfl, HB5.out⟩
end Go.Proofs.Ytehlegjccghalaa.TbV
