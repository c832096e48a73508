/- TableCuts, walked. -/
import Derived.Test.YtehlegjccghalaaTbV
namespace Go.Proofs.Ytehlegjccghalaa.TbC
open Go.RowKit Go.Proofs.YtehlegjccghalaaW.PrintWords Go.Proofs.YtehlegjccghalaaW.PrintLast Go.Proofs.YtehlegjccghalaaW.PrintMore Go.Proofs.Ytehlegjccghalaa.TbI Go.Proofs.Ytehlegjccghalaa.TbP Go.Proofs.Ytehlegjccghalaa.TbT Go.Proofs.Ytehlegjccghalaa.TbN Go.Proofs.Ytehlegjccghalaa.TbL Go.Proofs.Ytehlegjccghalaa.TbM Go.Proofs.Ytehlegjccghalaa.TbV
set_option linter.unusedVariables false
set_option linter.unusedSimpArgs false
theorem intLt_iff {a b : Int} : intLt a b = true ↔ a < b := by simp [intLt]
/-- Is there a name behind it? Just if the last one is. -/
theorem from_last {ks : List Int} (hs : Srt intLt ks) {q : Nat} {last k : Int} (hl : ks.length = q + 1) (hq : ks[q]? = some last) : decide (pos intLt (ck intLt ks k) k < (ck intLt ks k).length) = decide (k < last) := by
  have hs2 : Srt intLt (ck intLt ks k) := ck_srt hs
  refine decide_eq_decide.2 ⟨fun h => ?_, fun h => ?_⟩
  · have h1 := List.getElem?_eq_getElem h
    generalize (ck intLt ks k)[pos intLt (ck intLt ks k) k] = y at h1
    have hm := (mem_ck ord_int hs).1 (List.mem_of_getElem? h1)
    have h2 : ¬ y < k := fun hlt => by
      have := (lt_pos' ord_int hs2 h1).1 (intLt_iff.2 hlt)
      omega
    have h3 : k < y := by have := hm.2; omega
    obtain ⟨j, hj⟩ := List.getElem?_of_mem hm.1
    have hjl := (List.getElem?_eq_some_iff.1 hj).1
    by_cases e : j = q
    · subst e; rw [hq] at hj; injection hj with hj; omega
    · have := (lt_pos' ord_int hs (x := last) hj).2 (by rw [pos_at ord_int hs hq]; omega)
      have := intLt_iff.1 this
      omega
  · have hm : last ∈ ck intLt ks k := (mem_ck ord_int hs).2 ⟨List.mem_of_getElem? hq, by omega⟩
    have h1 := (pos_mem ord_int hs2).1 hm
    have h2 := (List.getElem?_eq_some_iff.1 h1).1
    have h3 : ¬ pos intLt (ck intLt ks k) last < pos intLt (ck intLt ks k) k := fun h4 => by
      have := intLt_iff.1 ((lt_pos' ord_int hs2 (x := k) h1).2 h4)
      omega
    omega
theorem from_none {ks : List Int} {k : Int} (hl : ks.length = 0) : decide (pos intLt (ck intLt ks k) k < (ck intLt ks k).length) = false := by
  obtain rfl := List.length_eq_zero_iff.1 hl
  rw [ck_out (by simp)]
  rfl
theorem has_cut {ks : List Int} (hs : Srt intLt ks) (k : Int) : has (ck intLt ks k) k = false := has_f (fun h => ((mem_ck ord_int hs).1 h).2 rfl)
theorem has_put {room : Nat} {ks : List Int} {x : Int} (hr : ¬ room ≤ ks.length) : has (pk intLt room ks x) x = true := has_t ((mem_pk hr).2 (.inl rfl))
theorem gv_put {room : Nat} {ks vs : List Int} {x y : Int} (hs : Srt intLt ks) (hl : vs.length = ks.length) (hr : ¬ room ≤ ks.length) : gv intLt 0 (pk intLt room ks x) (pv intLt room ks vs x y) x = y := by
  rw [gv_in ((mem_pk hr).2 (.inl rfl))]
  by_cases h : x ∈ ks
  · rw [pk_in h, pv_in h, List.getD_eq_getElem?_getD, List.getElem?_set_self (by have := pos_lt_of_mem ord_int hs h; omega)]; rfl
  · have hp := pos_le (lt := intLt) ks x
    have h1 : (ins ks (pos intLt ks x) x)[pos intLt ks x]? = some x := by rw [getElem?_ins hp, if_neg (by omega), if_pos rfl]
    rw [pk_new h hr, pv_new h hr, pos_at ord_int (srt_ins ord_int hs h) h1, List.getD_eq_getElem?_getD, getElem?_ins (by omega), if_neg (by omega), if_pos rfl]; rfl
theorem has_was {ks : List Int} (hs : Srt intLt ks) {x k : Int} (hx : x ∈ ks) : has (ck intLt ks k) x = decide (x ≠ k) := by
  by_cases e : x = k
  · rw [has_f (fun h => ((mem_ck ord_int hs).1 h).2 e), decide_eq_false (fun h => h e)]
  · rw [has_t ((mem_ck ord_int hs).2 ⟨hx, e⟩), decide_eq_true e]
theorem own_dr {w w1 : World} {base n : Nat} {e : TypeId} {v : Value} {xs : List Value} (h : w.ownsRow base e 1 v n xs) (hq : ∃ q, w1 = w.drewN q) : w1.ownsRow base e 1 v n xs := by
  obtain ⟨q, rfl⟩ := hq
  exact own_move h (fun _ _ => rfl)
theorem ck_ck {ks : List Int} (hs : Srt intLt ks) {k : Int} : ck intLt (ck intLt ks k) k = ck intLt ks k := ck_out (fun h => ((mem_ck ord_int hs).1 h).2 rfl)
theorem cv_cv {ks vs : List Int} (hs : Srt intLt ks) {k : Int} : cv intLt (ck intLt ks k) (cv intLt ks vs k) k = cv intLt ks vs k := cv_out (fun h => ((mem_ck ord_int hs).1 h).2 rfl)
set_option maxRecDepth 100000 in
set_option maxHeartbeats 4000000 in
theorem tableCuts_calls (A0 : Option Addr) (c0 : Nat) (l0 : List Int) (k0 : Int) (w : World) (hl0 : l0.length ≤ c0) (hC0 : Kd.C (Kd.int .i64) w A0 l0.length l0) :
    Calls Try.prog 8 #[.slice A0 l0.length c0, .int .i64 k0] w fun e w' => e = .returned (.bool true) ∧ Below w.heap.size w w' := by
  have HW := Aside0.mk (fun W => awake_calls W)
  have HN := Aside0.mk (fun W => gd_new 1000 1000 (by decide) W)
  have HC := Aside0.mk hC0
  obtain ⟨n, hn⟩ : ∃ n, n = l0.length := ⟨_, rfl⟩
  have Hn := Aside0.mk hn
  rw [← hn] at HC hl0 ⊢
  clear hC0 hn
  by_cases h60 : (n : Int) > 100
  · go_enter Try.func8, Try.ntmps8
    go_wp2_with (go_at_call 9; refine (HW.out _).mono ?_; rintro e w1 ⟨rfl, hb⟩; have Hb := Aside0.mk hb; clear hb)
    go_ret
    exact ⟨rfl, Hb.out⟩
  · go_enter Try.func8, Try.ntmps8
    have hn9 : (n : Int) ≤ 100 := by omega
    go_wp2_with (go_at_call 10; refine (HN.out _).mono ?_; rintro e w1 ⟨p, rfl, hb, hG⟩; have HB1 := Aside0.mk hb; have HG1 := Aside0.mk (hG _ (Nat.le_refl _)); clear hb hG)
    go_loopw [28] (fun i wr => ∃ k : Nat, k ≤ n ∧ i = .int .i64 k ∧ Aside0 (Below w.heap.size w wr) ∧ Aside0 (∃ kv vv ks vs, Gd wr w.heap.size p 1000 kv vv ks vs ∧ ks.length ≤ k)) (fun i _ => n - (intOf i).toNat)
    case atStart => exact ⟨0, Nat.zero_le _, rfl, HB1, ⟨_, _, _, _, HG1.out, Nat.le_refl _⟩⟩
    case round =>
      obtain ⟨k, hk, rfl, HB, HE⟩ := hrel
      by_cases hlt : k < n
      · obtain ⟨ad, e1, hx⟩ := Kd.at_int (Kd.C_below HC.out HB.out) (k : Int) (by omega) (by omega)
        cases e1
        rw [Int.toNat_natCast] at hx
        generalize rd l0 (k : Int) = x at *
        obtain ⟨kv, vv, ks, vs, hG, hkl⟩ := HE.out
        have K2 := Aside0.mk (gd_put hG x (k : Int))
        have HL' := Aside0.mk (Nat.le_trans (len_pk (lt := intLt) (room := 1000) (ks := ks) (x := x)) (Nat.succ_le_succ hkl))
        clear HE hG HG1 hkl
        go_wp2_with (go_at_call 13; refine K2.out.mono ?_; rintro e w5 ⟨kv5, vv5, rfl, hG5, ht5⟩; have HG5 := Aside0.mk hG5; have HB5 := Aside0.mk (HB.out.trans ht5.1); clear hG5 ht5)
        go_roundw
        case rel => exact ⟨k + 1, by omega, by go_num, HB5, ⟨_, _, _, _, HG5.out, HL'.out⟩⟩
        case measure => simp [intOf]; omega
      · have hke : n = k := by omega
        subst hke
        obtain ⟨kv, vv, ks, vs, hG, hkl⟩ := HE.out
        have K1 := Aside0.mk (gd_keys hG)
        have HG := Aside0.mk hG
        have hm9 : (ks.length : Int) ≤ 100 := by omega
        have Hks := Aside0.mk (has_cut hG.s k0)
        have Hlen := Aside0.mk (ck_len (x := k0) ord_int hG.s)
        have HF0 := Aside0.mk (from_none (ks := ks) (k := k0))
        clear HE hG HG1 hkl
        go_wp2_with (go_at_call 14; refine K1.out.mono ?_; rintro e w2 ⟨v', rfl, hr, hb⟩; have HG2 := Aside0.mk (HG.out.below hb); have HO := Aside0.mk (Off.new HG.out.t (fun b h => (hr.lt b h).1)); obtain ⟨A2, c2, rfl, hc2⟩ := own_slc hr; have HR := Aside0.mk hr; have HB2 := Aside0.mk (HB.out.trans (hb.mono HB.out.size)); have KL := Aside0.mk (gd_len HG2.out); have KG := Aside0.mk (gd_get HG2.out k0); have KC := Aside0.mk (fun W (h : ∃ q, W = w2.drewN q) => gd_cut (HG2.out.drew h) k0); clear hr hb hc2)
        have Hwk := Aside0.mk (Nat.le_refl 0)
        generalize hbase2 : wr.heap.size = base2 at HR
        clear hbase2 K1 HG HB Hwk
        by_cases hin : k0 ∈ ks
        · rw [has_t hin] at KG KC
          have hlen : ((ck intLt ks k0).length : Int) = (ks.length : Int) - 1 := by have h1 := Hlen.out; rw [if_pos (has_t hin)] at h1; have := List.length_pos_of_mem hin; omega
          have Hln := Aside0.mk hlen
          clear hlen Hlen
          go_wp2_with (first
            | (go_at_call 12; (with_reducible refine KL.out.mono ?_); rintro e w3 ⟨rfl, e3⟩; subst e3)
            | (go_at_call 11; refine KG.out.mono ?_; rintro e w4 ⟨rfl, hq⟩; have Q4 := Aside0.mk hq; clear hq)
            | (go_at_call 23; (with_reducible refine (KC.out _ Q4.out).mono ?_); rintro e w5 ⟨kv5, vv5, rfl, hG5, ht5⟩; have S5 := Aside0.mk (HO.out.step ht5 (own_dr HR.out Q4.out)); have HB5 := Aside0.mk ((HB2.out.trans (bel Q4.out)).trans ht5.1); have HG5 := Aside0.mk hG5; have KC5 := Aside0.mk (gd_cut hG5 k0); rw [Hks.out, ck_ck HG2.out.s, cv_cv HG2.out.s] at KC5; clear hG5 ht5)
            | (go_at_call 23; (with_reducible refine KC5.out.mono ?_); rintro e w6 ⟨kv6, vv6, rfl, hG6, ht6⟩; have S6 := Aside0.mk (S5.out.1.step ht6 S5.out.2); have HB6 := Aside0.mk (HB5.out.trans ht6.1); have HG6 := Aside0.mk hG6; have KL6 := Aside0.mk (gd_len hG6); rw [Hln.out] at KL6; clear hG6 ht6)
            | (go_at_call 12; (with_reducible refine KL6.out.mono ?_); rintro e w7 ⟨rfl, e7⟩; subst e7))
          obtain ⟨ks2, hks2⟩ : ∃ ks2, ks2 = ck intLt ks k0 := ⟨_, rfl⟩
          obtain ⟨vs2, hvs2⟩ : ∃ vs2, vs2 = cv intLt ks vs k0 := ⟨_, rfl⟩
          have Hhas := Aside0.mk (fun x (h : x ∈ ks) => has_was (k := k0) HG2.out.s h)
          have HFL := Aside0.mk (fun q last (h1 : ks.length = q + 1) (h2 : ks[q]? = some last) => from_last (k := k0) HG2.out.s h1 h2)
          have Hk2 := Aside0.mk (show ¬ 1000 ≤ (ck intLt ks k0).length by have := Hln.out; omega)
          rw [← hks2] at HG6 Hhas HFL HF0 Hk2
          rw [← hvs2] at HG6
          have S := S6
          clear hks2 hvs2 Hln Hks HG5 KC5 S5 HB5 KL6 KC KG KL HG2 HO HR HB2 S6 Q4
          go_loopw [78] (fun i wr => ∃ j : Nat, j ≤ ks.length ∧ i = .int .i64 j ∧ Aside0 (∃ q, wr = w7.drewN q)) (fun i _ => ks.length - (intOf i).toNat)
          case atStart => exact ⟨0, Nat.zero_le _, rfl, ⟨⟨0, rfl⟩⟩⟩
          case round =>
            obtain ⟨j, hj, rfl, HQ⟩ := hrel
            by_cases hlj : j < ks.length
            · obtain ⟨x, hx⟩ : ∃ x, ks[j]? = some x := ⟨_, List.getElem?_eq_getElem hlj⟩
              obtain ⟨g2, c2', e2, hcx, _, _⟩ := own_cell S.out.2 (i := j) (x := .int .i64 x) (by rw [List.getElem?_map, hx]; rfl)
              cases e2
              have KF := fun W (h : ∃ q, W = w7.drewN q) => gd_get (HG6.out.drew h) x
              rw [Hhas.out x (List.mem_of_getElem? hx)] at KF
              have hj4 : (j : Int) < (ks.length : Int) := by omega
              replace hcx := cq HQ.out hcx
              by_cases hxk : x = k0
              · rw [decide_eq_false (fun h => h hxk)] at KF
                have HF := Aside0.mk KF
                subst hxk
                clear KF hx
                go_wp2_with (go_at_call 11; refine (HF.out _ HQ.out).mono ?_; rintro e w3 ⟨rfl, hq⟩; have Q3 := Aside0.mk (dq HQ.out hq); clear hq)
                go_roundw
                case rel => exact ⟨j + 1, by omega, by go_num, Q3⟩
                case measure => simp [intOf]; omega
              · rw [decide_eq_true hxk] at KF
                have HF := Aside0.mk KF
                have hb1 : (x == k0) = false := by simpa using hxk
                have hb2 : (x != k0) = true := by simpa using hxk
                have hb3 : decide (x = k0) = false := decide_eq_false hxk
                clear KF hx
                go_wp2_with (go_at_call 11; refine (HF.out _ HQ.out).mono ?_; rintro e w3 ⟨rfl, hq⟩; have Q3 := Aside0.mk (dq HQ.out hq); clear hq)
                go_roundw
                case rel => exact ⟨j + 1, by omega, by go_num, Q3⟩
                case measure => simp [intOf]; omega
            · have hje : j = ks.length := by omega
              subst hje
              have HFr := Aside0.mk (gd_from (HG6.out.drew HQ.out) k0)
              have KP := Aside0.mk (fun W (h : ∃ q, W = w7.drewN q) => gd_put (HG6.out.drew h) k0 7)
              have Hgv := Aside0.mk (gv_put (x := k0) (y := 7) HG6.out.s HG6.out.l Hk2.out)
              have Hhp := Aside0.mk (has_put (x := k0) Hk2.out)
              rcases Nat.eq_zero_or_pos ks.length with hz | hz
              · rw [HF0.out hz] at HFr
                have hz0 : ¬ ((0 : Int) < (ks.length : Int)) := by omega
                go_wp2_with (first
                  | (go_at_call 15; refine HFr.out.mono ?_; rintro e w3 ⟨rfl, hq⟩; have Q3 := Aside0.mk (dq HQ.out hq); clear hq)
                  | (go_at_call 13; refine (KP.out _ Q3.out).mono ?_; rintro e w8 ⟨kv8, vv8, rfl, hG8, ht8⟩; have HB8 := Aside0.mk ((HB6.out.trans (bel Q3.out)).trans ht8.1); have KG8 := Aside0.mk (gd_get hG8 k0); rw [Hgv.out, Hhp.out] at KG8; clear hG8 ht8)
                  | (go_at_call 11; refine KG8.out.mono ?_; rintro e w9 ⟨rfl, hq⟩; have HB9 := Aside0.mk (HB8.out.trans (bel hq)); clear hq)
                  | (go_at_call 9; refine (HW.out _).mono ?_; rintro e w10 ⟨rfl, hb⟩; have HB10 := Aside0.mk (HB9.out.trans (hb.mono HB9.out.size)); clear hb))
                go_ret
                exact ⟨rfl, HB10.out⟩
              · obtain ⟨q, hq⟩ : ∃ q, ks.length = q + 1 := ⟨ks.length - 1, by omega⟩
                obtain ⟨last, hla⟩ : ∃ x, ks[q]? = some x := ⟨_, List.getElem?_eq_getElem (by omega)⟩
                obtain ⟨g2, c2', e2, hcl, _, _⟩ := own_cell S.out.2 (i := q) (x := .int .i64 last) (by rw [List.getElem?_map, hla]; rfl)
                cases e2
                rw [HFL.out q last hq hla] at HFr
                have Hcl := Aside0.mk hcl
                have hz0 : (0 : Int) < (ks.length : Int) := by omega
                have hql : (ks.length : Int) - 1 = (q : Int) := by omega
                have hql2 : (q : Int) < (ks.length : Int) := by omega
                clear hcl hla hq hz
                by_cases hgt : k0 < last
                · rw [decide_eq_true hgt] at HFr
                  go_wp2_with (first
                    | (go_at_call 15; refine HFr.out.mono ?_; rintro e w3 ⟨rfl, hq⟩; have Q3 := Aside0.mk (dq HQ.out hq); have hc3 := cq Q3.out Hcl.out; clear hq)
                    | (go_at_call 13; refine (KP.out _ Q3.out).mono ?_; rintro e w8 ⟨kv8, vv8, rfl, hG8, ht8⟩; have HB8 := Aside0.mk ((HB6.out.trans (bel Q3.out)).trans ht8.1); have KG8 := Aside0.mk (gd_get hG8 k0); rw [Hgv.out, Hhp.out] at KG8; clear hG8 ht8)
                    | (go_at_call 11; refine KG8.out.mono ?_; rintro e w9 ⟨rfl, hq⟩; have HB9 := Aside0.mk (HB8.out.trans (bel hq)); clear hq)
                    | (go_at_call 9; refine (HW.out _).mono ?_; rintro e w10 ⟨rfl, hb⟩; have HB10 := Aside0.mk (HB9.out.trans (hb.mono HB9.out.size)); clear hb))
                  go_ret
                  exact ⟨rfl, HB10.out⟩
                · rw [decide_eq_false hgt] at HFr
                  go_wp2_with (first
                    | (go_at_call 15; refine HFr.out.mono ?_; rintro e w3 ⟨rfl, hq⟩; have Q3 := Aside0.mk (dq HQ.out hq); have hc3 := cq Q3.out Hcl.out; clear hq)
                    | (go_at_call 13; refine (KP.out _ Q3.out).mono ?_; rintro e w8 ⟨kv8, vv8, rfl, hG8, ht8⟩; have HB8 := Aside0.mk ((HB6.out.trans (bel Q3.out)).trans ht8.1); have KG8 := Aside0.mk (gd_get hG8 k0); rw [Hgv.out, Hhp.out] at KG8; clear hG8 ht8)
                    | (go_at_call 11; refine KG8.out.mono ?_; rintro e w9 ⟨rfl, hq⟩; have HB9 := Aside0.mk (HB8.out.trans (bel hq)); clear hq)
                    | (go_at_call 9; refine (HW.out _).mono ?_; rintro e w10 ⟨rfl, hb⟩; have HB10 := Aside0.mk (HB9.out.trans (hb.mono HB9.out.size)); clear hb))
                  go_ret
                  exact ⟨rfl, HB10.out⟩
        · rw [has_f hin] at KG KC
          have hlen : ((ck intLt ks k0).length : Int) = (ks.length : Int) := by have h1 := Hlen.out; rw [has_f hin] at h1; simp at h1; omega
          have Hln := Aside0.mk hlen
          clear hlen Hlen
          go_wp2_with (first
            | (go_at_call 12; (with_reducible refine KL.out.mono ?_); rintro e w3 ⟨rfl, e3⟩; subst e3)
            | (go_at_call 11; refine KG.out.mono ?_; rintro e w4 ⟨rfl, hq⟩; have Q4 := Aside0.mk hq; clear hq)
            | (go_at_call 23; (with_reducible refine (KC.out _ Q4.out).mono ?_); rintro e w5 ⟨kv5, vv5, rfl, hG5, ht5⟩; have S5 := Aside0.mk (HO.out.step ht5 (own_dr HR.out Q4.out)); have HB5 := Aside0.mk ((HB2.out.trans (bel Q4.out)).trans ht5.1); have HG5 := Aside0.mk hG5; have KC5 := Aside0.mk (gd_cut hG5 k0); rw [Hks.out, ck_ck HG2.out.s, cv_cv HG2.out.s] at KC5; clear hG5 ht5)
            | (go_at_call 23; (with_reducible refine KC5.out.mono ?_); rintro e w6 ⟨kv6, vv6, rfl, hG6, ht6⟩; have S6 := Aside0.mk (S5.out.1.step ht6 S5.out.2); have HB6 := Aside0.mk (HB5.out.trans ht6.1); have HG6 := Aside0.mk hG6; have KL6 := Aside0.mk (gd_len hG6); rw [Hln.out] at KL6; clear hG6 ht6)
            | (go_at_call 12; (with_reducible refine KL6.out.mono ?_); rintro e w7 ⟨rfl, e7⟩; subst e7))
          obtain ⟨ks2, hks2⟩ : ∃ ks2, ks2 = ck intLt ks k0 := ⟨_, rfl⟩
          obtain ⟨vs2, hvs2⟩ : ∃ vs2, vs2 = cv intLt ks vs k0 := ⟨_, rfl⟩
          have Hhas := Aside0.mk (fun x (h : x ∈ ks) => has_was (k := k0) HG2.out.s h)
          have HFL := Aside0.mk (fun q last (h1 : ks.length = q + 1) (h2 : ks[q]? = some last) => from_last (k := k0) HG2.out.s h1 h2)
          have Hk2 := Aside0.mk (show ¬ 1000 ≤ (ck intLt ks k0).length by have := Hln.out; omega)
          rw [← hks2] at HG6 Hhas HFL HF0 Hk2
          rw [← hvs2] at HG6
          have S := S6
          clear hks2 hvs2 Hln Hks HG5 KC5 S5 HB5 KL6 KC KG KL HG2 HO HR HB2 S6 Q4
          go_loopw [78] (fun i wr => ∃ j : Nat, j ≤ ks.length ∧ i = .int .i64 j ∧ Aside0 (∃ q, wr = w7.drewN q)) (fun i _ => ks.length - (intOf i).toNat)
          case atStart => exact ⟨0, Nat.zero_le _, rfl, ⟨⟨0, rfl⟩⟩⟩
          case round =>
            obtain ⟨j, hj, rfl, HQ⟩ := hrel
            by_cases hlj : j < ks.length
            · obtain ⟨x, hx⟩ : ∃ x, ks[j]? = some x := ⟨_, List.getElem?_eq_getElem hlj⟩
              obtain ⟨g2, c2', e2, hcx, _, _⟩ := own_cell S.out.2 (i := j) (x := .int .i64 x) (by rw [List.getElem?_map, hx]; rfl)
              cases e2
              have KF := fun W (h : ∃ q, W = w7.drewN q) => gd_get (HG6.out.drew h) x
              rw [Hhas.out x (List.mem_of_getElem? hx)] at KF
              have hj4 : (j : Int) < (ks.length : Int) := by omega
              replace hcx := cq HQ.out hcx
              by_cases hxk : x = k0
              · rw [decide_eq_false (fun h => h hxk)] at KF
                have HF := Aside0.mk KF
                subst hxk
                clear KF hx
                go_wp2_with (go_at_call 11; refine (HF.out _ HQ.out).mono ?_; rintro e w3 ⟨rfl, hq⟩; have Q3 := Aside0.mk (dq HQ.out hq); clear hq)
                go_roundw
                case rel => exact ⟨j + 1, by omega, by go_num, Q3⟩
                case measure => simp [intOf]; omega
              · rw [decide_eq_true hxk] at KF
                have HF := Aside0.mk KF
                have hb1 : (x == k0) = false := by simpa using hxk
                have hb2 : (x != k0) = true := by simpa using hxk
                have hb3 : decide (x = k0) = false := decide_eq_false hxk
                clear KF hx
                go_wp2_with (go_at_call 11; refine (HF.out _ HQ.out).mono ?_; rintro e w3 ⟨rfl, hq⟩; have Q3 := Aside0.mk (dq HQ.out hq); clear hq)
                go_roundw
                case rel => exact ⟨j + 1, by omega, by go_num, Q3⟩
                case measure => simp [intOf]; omega
            · have hje : j = ks.length := by omega
              subst hje
              have HFr := Aside0.mk (gd_from (HG6.out.drew HQ.out) k0)
              have KP := Aside0.mk (fun W (h : ∃ q, W = w7.drewN q) => gd_put (HG6.out.drew h) k0 7)
              have Hgv := Aside0.mk (gv_put (x := k0) (y := 7) HG6.out.s HG6.out.l Hk2.out)
              have Hhp := Aside0.mk (has_put (x := k0) Hk2.out)
              rcases Nat.eq_zero_or_pos ks.length with hz | hz
              · rw [HF0.out hz] at HFr
                have hz0 : ¬ ((0 : Int) < (ks.length : Int)) := by omega
                go_wp2_with (first
                  | (go_at_call 15; refine HFr.out.mono ?_; rintro e w3 ⟨rfl, hq⟩; have Q3 := Aside0.mk (dq HQ.out hq); clear hq)
                  | (go_at_call 13; refine (KP.out _ Q3.out).mono ?_; rintro e w8 ⟨kv8, vv8, rfl, hG8, ht8⟩; have HB8 := Aside0.mk ((HB6.out.trans (bel Q3.out)).trans ht8.1); have KG8 := Aside0.mk (gd_get hG8 k0); rw [Hgv.out, Hhp.out] at KG8; clear hG8 ht8)
                  | (go_at_call 11; refine KG8.out.mono ?_; rintro e w9 ⟨rfl, hq⟩; have HB9 := Aside0.mk (HB8.out.trans (bel hq)); clear hq)
                  | (go_at_call 9; refine (HW.out _).mono ?_; rintro e w10 ⟨rfl, hb⟩; have HB10 := Aside0.mk (HB9.out.trans (hb.mono HB9.out.size)); clear hb))
                go_ret
                exact ⟨rfl, HB10.out⟩
              · obtain ⟨q, hq⟩ : ∃ q, ks.length = q + 1 := ⟨ks.length - 1, by omega⟩
                obtain ⟨last, hla⟩ : ∃ x, ks[q]? = some x := ⟨_, List.getElem?_eq_getElem (by omega)⟩
                obtain ⟨g2, c2', e2, hcl, _, _⟩ := own_cell S.out.2 (i := q) (x := .int .i64 last) (by rw [List.getElem?_map, hla]; rfl)
                cases e2
                rw [HFL.out q last hq hla] at HFr
                have Hcl := Aside0.mk hcl
                have hz0 : (0 : Int) < (ks.length : Int) := by omega
                have hql : (ks.length : Int) - 1 = (q : Int) := by omega
                have hql2 : (q : Int) < (ks.length : Int) := by omega
                clear hcl hla hq hz
                by_cases hgt : k0 < last
                · rw [decide_eq_true hgt] at HFr
                  go_wp2_with (first
                    | (go_at_call 15; refine HFr.out.mono ?_; rintro e w3 ⟨rfl, hq⟩; have Q3 := Aside0.mk (dq HQ.out hq); have hc3 := cq Q3.out Hcl.out; clear hq)
                    | (go_at_call 13; refine (KP.out _ Q3.out).mono ?_; rintro e w8 ⟨kv8, vv8, rfl, hG8, ht8⟩; have HB8 := Aside0.mk ((HB6.out.trans (bel Q3.out)).trans ht8.1); have KG8 := Aside0.mk (gd_get hG8 k0); rw [Hgv.out, Hhp.out] at KG8; clear hG8 ht8)
                    | (go_at_call 11; refine KG8.out.mono ?_; rintro e w9 ⟨rfl, hq⟩; have HB9 := Aside0.mk (HB8.out.trans (bel hq)); clear hq)
                    | (go_at_call 9; refine (HW.out _).mono ?_; rintro e w10 ⟨rfl, hb⟩; have HB10 := Aside0.mk (HB9.out.trans (hb.mono HB9.out.size)); clear hb))
                  go_ret
                  exact ⟨rfl, HB10.out⟩
                · rw [decide_eq_false hgt] at HFr
                  go_wp2_with (first
                    | (go_at_call 15; refine HFr.out.mono ?_; rintro e w3 ⟨rfl, hq⟩; have Q3 := Aside0.mk (dq HQ.out hq); have hc3 := cq Q3.out Hcl.out; clear hq)
                    | (go_at_call 13; refine (KP.out _ Q3.out).mono ?_; rintro e w8 ⟨kv8, vv8, rfl, hG8, ht8⟩; have HB8 := Aside0.mk ((HB6.out.trans (bel Q3.out)).trans ht8.1); have KG8 := Aside0.mk (gd_get hG8 k0); rw [Hgv.out, Hhp.out] at KG8; clear hG8 ht8)
                    | (go_at_call 11; refine KG8.out.mono ?_; rintro e w9 ⟨rfl, hq⟩; have HB9 := Aside0.mk (HB8.out.trans (bel hq)); clear hq)
                    | (go_at_call 9; refine (HW.out _).mono ?_; rintro e w10 ⟨rfl, hb⟩; have HB10 := Aside0.mk (HB9.out.trans (hb.mono HB9.out.size)); clear hb))
                  go_ret
                  exact ⟨rfl, HB10.out⟩
end Go.Proofs.Ytehlegjccghalaa.TbC
