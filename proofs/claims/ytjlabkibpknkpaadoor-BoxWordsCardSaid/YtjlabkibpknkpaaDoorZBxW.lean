-- Written by a program of this claim's session (wip/tool/prune.py): what is used of a longer text. Not trusted: Lean checks it.
import Derived.Test.YtjlabkibpknkpaaDoorZBxR
namespace Go.Proofs.YtjlabkibpknkpaaDoor.BxW
open Go.RowKit Go.Proofs.YtjlabkibpknkpaaDoorW.PrintWords Go.Proofs.YtjlabkibpknkpaaDoorW.PrintLast Go.Proofs.YtjlabkibpknkpaaDoorW.PrintMore Go.Proofs.YtjlabkibpknkpaaDoor.FmM Go.Proofs.YtjlabkibpknkpaaDoor.PkP Go.Proofs.YtjlabkibpknkpaaDoor.FmN Go.Proofs.YtjlabkibpknkpaaDoor.FmB Go.Proofs.YtjlabkibpknkpaaDoor.FmC Go.Proofs.YtjlabkibpknkpaaDoor.FmH Go.Proofs.YtjlabkibpknkpaaDoor.BxF Go.Proofs.YtjlabkibpknkpaaDoor.BxA
set_option linter.unusedVariables false
set_option linter.unusedSimpArgs false
theorem selW_app (ws : List ByteArray) : ∀ (l m : List Int), selW ws (l ++ m) = selW ws l ++ selW ws m
  | [], m => rfl
  | a :: l, m => by
    rw [List.cons_append, selW, selW, selW_app ws l m]
    split <;> rfl
theorem selW_len (ws : List ByteArray) : ∀ (l : List Int), (selW ws l).length ≤ l.length
  | [] => Nat.le_refl _
  | a :: l => by
    have := selW_len ws l
    rw [selW]
    split <;> simp only [List.length_cons] <;> omega
theorem selW_at (ws : List ByteArray) (l : List Int) (k : Nat) (hk : k < l.length) (h : 0 ≤ l[k] ∧ l[k] < (ws.length : Int)) : (selW ws (l.take k)).length < (selW ws l).length ∧ rdOf ByteArray.empty (selW ws l) ((selW ws (l.take k)).length : Int) = rdOf ByteArray.empty ws l[k] ∧ (selW ws (l.take (k + 1))).length = (selW ws (l.take k)).length + 1 := by
  have e : selW ws l = selW ws (l.take k) ++ (rdOf ByteArray.empty ws l[k] :: selW ws (l.drop (k + 1))) := by
    conv => lhs; rw [← List.take_append_drop k l, selW_app, List.drop_eq_getElem_cons hk]
    rw [selW, if_pos h]
  have h1 : (selW ws (l.take k)).length < (selW ws l).length := by rw [e, List.length_append, List.length_cons]; omega
  refine ⟨h1, ?_, ?_⟩
  · rw [rds_nat _ h1]
    have e2 := List.getElem_of_eq e h1
    rw [e2, List.getElem_append_right (Nat.le_refl _)]
    simp
  · rw [List.take_succ_eq_append_getElem hk, selW_app, List.length_append, selW, if_pos h]
    simp [selW]
theorem selW_skip (ws : List ByteArray) (l : List Int) (k : Nat) (hk : k < l.length) (h : ¬ (0 ≤ l[k] ∧ l[k] < (ws.length : Int))) : (selW ws (l.take (k + 1))).length = (selW ws (l.take k)).length := by
  rw [List.take_succ_eq_append_getElem hk, selW_app, List.length_append, selW, if_neg h]
  simp [selW]
theorem selW_all (ws : List ByteArray) (l : List Int) : selW ws (l.take l.length) = selW ws l := by rw [List.take_of_length_le (Nat.le_refl _)]
def t_mailsacklaw6_BoxWords.T9 : Bool × List (List Nat × List Nat) := (true, [([], []), ([], []), ([1], [1]), ([0, 2], [0, 2]), ([3], [3]), ([4], [4]), ([4], [4]), ([5, 6, 4], [4, 5, 6]), ([7, 4], [4, 7]), ([4], [4]), ([9, 4], [4, 9]), ([4], [4]), ([10, 11, 4], [4, 10, 11]), ([12, 4], [4, 12]), ([8, 13, 4], [4, 8, 13]), ([4, 14], [4, 14])])
def t_mailsacklaw6_BoxWords.B9 : List Nat := [0, 0, 2, 7, 15, 31, 31, 127, 255, 31, 543, 31, 3615, 7711, 16383, 32767]
theorem t_mailsacklaw6_BoxWords.tab9 : rtab .any (opsOf Tryd.f6 9) = t_mailsacklaw6_BoxWords.T9 := by kernel_rfl
theorem t_mailsacklaw6_BoxWords.bits9 : waitsOk t_mailsacklaw6_BoxWords.T9.2 t_mailsacklaw6_BoxWords.B9 = true := by kernel_rfl
set_option maxRecDepth 100000 in
set_option maxHeartbeats 4000000 in
theorem boxWords_calls (a0 : ByteArray) (a1 a2 a3 : Int) (A4 : Option Addr) (c4 : Nat) (ws : List ByteArray) (A5 : Option Addr) (c5 : Nat) (ms : List S31) (A1 : Option Addr) (c1 : Nat) (l : List Int) (w : World) (ht : Tab w) (hC4 : Kd.C Kd.string w A4 ws.length ws) (hc4 : ws.length ≤ c4) (hC5 : Kd.C k31 w A5 ms.length ms) (hc5 : ms.length ≤ c5) (hC1 : Kd.C (Kd.int .i64) w A1 l.length l) (hc1 : l.length ≤ c1)
    (h0 : a0.size ≤ 140737488355328) (hs : ∀ s ∈ ws, s.size ≤ 140737488355328) (hw : ∀ m ∈ ms, wt m ≤ 422212465065984) (hl4 : ws.length ≤ 140737488355328) (hl5 : ms.length ≤ 140737488355328) (hl1 : l.length ≤ 140737488355328) :
    Calls Tryd.prog 6 #[.agg #[.string a0, .int .i64 a1, .int .i64 a2, .int .i64 a3, .slice A4 ws.length c4, .slice A5 ms.length c5], .slice A1 l.length c1] w fun e w' => e = .returned (.bool true) ∧ Below w.heap.size w w' := by
  have hu26 := Tryd.underlying26
  have hu31 := Tryd.underlying31
  obtain ⟨k, hk⟩ := (heavy_ev a0 a1 a2 a3 ws ms hl5 hl4).get
  have HHv := Aside0.mk (fun W (hbl : Below w.heap.size w W) => mailsacklaw6_Heavy.calls k a0 a1 a2 a3 A4 c4 ws A5 c5 ms _ W (Kd.C_below hC4 hbl) hc4 (Kd.C_below hC5 hbl) hc5 hk)
  clear hk
  have hAw := Aside0.mk (fun W (hbl : Below w.heap.size w W) => awake_calls W (ht.below hbl))
  clear ht
  rcases heavy_01 (bulk a0 ws ms) ws.length ms.length with h01 | h01
  case inr =>
    rw [h01] at HHv
    clear hC4 hC5 hC1 h0 hs hw hl4 hl5 hl1 hc4 hc5 hc1
    go_enter Tryd.func6, Tryd.ntmps6
    go_wp2_with (first
      | ((with_reducible refine gate_dst (N := 2) rfl ?_); refine box_event ?hg2 (N := 2) ?hd2 (cs := #[.string a0, .int .i64 a1, .int .i64 a2, .int .i64 a3, .slice A4 ws.length c4, .slice A5 ms.length c5]) (t := 26) ?hr2 ?_; (case hd2 => rfl); (case hg2 => rfl); (case hr2 => first | (go_simp; done) | (go_simp; rfl)); intro g2 hg2 w1 hbx hb1; have GA := Aside0.mk hbx; have HB1 := Aside0.mk hb1; have G2 := Aside0.mk hg2; clear hg2 hbx hb1; have az0 := blk_cell GA.out 0; have az1 := blk_cell GA.out 1; have az2 := blk_cell GA.out 2; have az3 := blk_cell GA.out 3; have az4 := blk_cell GA.out 4; have az5 := blk_cell GA.out 5)
      | (go_at_call 17; refine (HHv.out _ HB1.out).mono ?_; rintro e w2 ⟨rfl, hb⟩; clear az0 az1 az2 az3 az4 az5; have GB := Aside0.mk (blk_below GA.out hb); have HB2 := Aside0.mk (HB1.out.trans (hb.mono HB1.out.size)); clear hb; skip)
      | (go_at_call 13; refine (hAw.out _ HB2.out).mono ?_; rintro e w3 ⟨rfl, hb⟩; have HB3 := Aside0.mk (HB2.out.trans (hb.mono HB2.out.size)); clear hb))
    go_ret
    exact ⟨rfl, HB3.out⟩
  case inl =>
  have hb := light h0 hs hw h01
  rw [h01] at HHv
  clear h01
  by_cases hl : l.length ≤ 100
  case neg =>
    have hl3 : decide (100 < (l.length : Int)) = true := decide_eq_true (by omega)
    clear hC4 hC5 hC1 h0 hs hw hl4 hl5 hl1 hc4 hc5 hc1 hb hl
    go_enter Tryd.func6, Tryd.ntmps6
    go_wp2_with (first
      | ((with_reducible refine gate_dst (N := 2) rfl ?_); refine box_event ?hg2 (N := 2) ?hd2 (cs := #[.string a0, .int .i64 a1, .int .i64 a2, .int .i64 a3, .slice A4 ws.length c4, .slice A5 ms.length c5]) (t := 26) ?hr2 ?_; (case hd2 => rfl); (case hg2 => rfl); (case hr2 => first | (go_simp; done) | (go_simp; rfl)); intro g2 hg2 w1 hbx hb1; have GA := Aside0.mk hbx; have HB1 := Aside0.mk hb1; have G2 := Aside0.mk hg2; clear hg2 hbx hb1; have az0 := blk_cell GA.out 0; have az1 := blk_cell GA.out 1; have az2 := blk_cell GA.out 2; have az3 := blk_cell GA.out 3; have az4 := blk_cell GA.out 4; have az5 := blk_cell GA.out 5)
      | (go_at_call 17; refine (HHv.out _ HB1.out).mono ?_; rintro e w2 ⟨rfl, hb⟩; clear az0 az1 az2 az3 az4 az5; have GB := Aside0.mk (blk_below GA.out hb); have HB2 := Aside0.mk (HB1.out.trans (hb.mono HB1.out.size)); clear hb; skip)
      | (go_at_call 13; refine (hAw.out _ HB2.out).mono ?_; rintro e w3 ⟨rfl, hb⟩; have HB3 := Aside0.mk (HB2.out.trans (hb.mono HB2.out.size)); clear hb))
    go_ret
    exact ⟨rfl, HB3.out⟩
  case pos =>
  have hl3 : decide (100 < (l.length : Int)) = false := decide_eq_false (by omega)
  have HW := Aside0.mk (fun W (hbl : Below w.heap.size w W) => words_calls a0 a1 a2 a3 A4 c4 ws A5 c5 ms 0 0 0 (⟨#[]⟩ : ByteArray) 0 A1 c1 l (⟨#[]⟩ : ByteArray) W (Kd.C_below hC4 hbl) hc4 (Kd.C_below hC5 hbl) hc5 (Kd.C_below hC1 hbl) hc1 (by omega))
  have HC4 := Aside0.mk hC4
  have HC1 := Aside0.mk hC1
  have HS := Aside0.mk (selW_at ws l)
  have HK := Aside0.mk (selW_skip ws l)
  have HA := Aside0.mk (selW_all ws l)
  have hb1 : ws.length ≤ 100 := hb.2.1
  have HL : Aside0 (ws.length ≤ 100 ∧ l.length ≤ 100 ∧ (selW ws l).length ≤ 100) := ⟨by have := selW_len ws l; omega⟩
  clear hC4 hC5 hC1 h0 hs hw hl4 hl5 hl1 hc4 hc5 hc1 hb
  have tk := Aside0.mk True.intro
  generalize hW : selW ws l = ww at *
  clear hW
  go_enter Tryd.func6, Tryd.ntmps6
  go_wp2_with (first
    | ((with_reducible refine gate_dst (N := 2) rfl ?_); refine box_event ?hg2 (N := 2) ?hd2 (cs := #[.string a0, .int .i64 a1, .int .i64 a2, .int .i64 a3, .slice A4 ws.length c4, .slice A5 ms.length c5]) (t := 26) ?hr2 ?_; (case hd2 => rfl); (case hg2 => rfl); (case hr2 => first | (go_simp; done) | (go_simp; rfl)); intro g2 hg2 w1 hbx hb1; have GA := Aside0.mk hbx; have HB1 := Aside0.mk hb1; have G2 := Aside0.mk hg2; clear hg2 hbx hb1; have az0 := blk_cell GA.out 0; have az1 := blk_cell GA.out 1; have az2 := blk_cell GA.out 2; have az3 := blk_cell GA.out 3; have az4 := blk_cell GA.out 4; have az5 := blk_cell GA.out 5)
    | (go_at_call 17; refine (HHv.out _ HB1.out).mono ?_; rintro e w2 ⟨rfl, hb⟩; clear az0 az1 az2 az3 az4 az5; have GB := Aside0.mk (blk_below GA.out hb); have HB2 := Aside0.mk (HB1.out.trans (hb.mono HB1.out.size)); clear hb; skip)
    | ((with_reducible refine gate_dst (N := 18) rfl ?_); clear tk; have az0 := blk_cell GB.out 0; have az1 := blk_cell GB.out 1; have az2 := blk_cell GB.out 2; have az3 := blk_cell GB.out 3; have az4 := blk_cell GB.out 4; have az5 := blk_cell GB.out 5; skip)
    | (go_at_call 19; refine (HW.out _ HB2.out).mono ?_; rintro e w3 ⟨A, c, rfl, hcw, hCw, hb⟩; clear az0 az1 az2 az3 az4 az5; have GC := Aside0.mk (blk_below GB.out hb); have HB3 := Aside0.mk (HB2.out.trans (hb.mono HB2.out.size)); have HCW := Aside0.mk hCw; have Hcw := Aside0.mk hcw; clear hb hCw hcw HW; skip))
  have hn9 : (l.length : Int) ≤ 100 := by have := HL.out; omega
  go_loopw [6, 24] (fun v i wr => ∃ k z : Nat, k ≤ l.length ∧ i = .int .i64 k ∧ v = .int .i64 z ∧ Aside0 (z = (selW ws (l.take k)).length) ∧ Aside0 (Below w3.heap.size w3 wr)) (fun _ i _ => l.length - (intOf i).toNat)
  case atStart => exact ⟨0, 0, Nat.zero_le _, rfl, rfl, ⟨by simp [selW]⟩, ⟨Below.refl _ _⟩⟩
  case round =>
    obtain ⟨k, z, hk, rfl, rfl, HZ, HB⟩ := hrel
    have hg4 := blk_cell (blk_below GC.out HB.out) 4
    by_cases hlt : k < l.length
    · obtain ⟨ad, e1, hx⟩ := Kd.at_int (Kd.C_below HC1.out (HB3.out.trans (HB.out.mono HB3.out.size))) (k : Int) (by omega) (by omega)
      cases e1
      rw [Int.toNat_natCast, rd_nat l hlt] at hx
      have HS1 := Aside0.mk (HS.out k hlt)
      have HK1 := Aside0.mk (HK.out k hlt)
      generalize l[k] = q at *
      by_cases h1 : 0 ≤ q
      · by_cases h2 : q < (ws.length : Int)
        · obtain ⟨hz1, hz2, hz3⟩ := HS1.out ⟨h1, h2⟩
          rw [← HZ.out] at hz1 hz2 hz3
          obtain ⟨adw, ew, hxw⟩ := Kd.at_string (Kd.C_below HCW.out HB.out) (z : Int) (by omega) (by omega)
          obtain ⟨ad4, e4, hx4⟩ := Kd.at_string (Kd.C_below HC4.out (HB3.out.trans (HB.out.mono HB3.out.size))) q h1 h2
          cases ew
          cases e4
          rw [hz2, Int.toNat_natCast] at hxw
          generalize rdOf ByteArray.empty ws q = x at *
          have HZ3 := Aside0.mk hz3
          have CW := Aside0.mk hxw
          have C4 := Aside0.mk hx4
          have GX := Aside0.mk hg4
          have hz9 : (z : Int) < (ww.length : Int) := by omega
          have hw9 : (ww.length : Int) ≤ 100 := by have := HL.out; omega
          have d1 : decide (q < 0) = false := decide_eq_false (by omega)
          have d2 : decide ((ws.length : Int) ≤ q) = false := decide_eq_false (by omega)
          have d3 : decide ((ww.length : Int) ≤ (z : Int)) = false := decide_eq_false (by omega)
          clear hz2 hz3 hxw hx4 HS1 HK1
          have D3 := Aside0.mk d3
          clear d3
          go_upto_region 9 with fail
          clear d1 d2 hg4 hx
          refine start_ (n := 16) (S := fun w' => True) (ds := []) #[false, false, false, false, false, false, false, false, false, false, false, false, false, false, false, false] (by kernel_rfl) rfl rfl trivial (fun hHeld => ?_)
          refine with_tabW t_mailsacklaw6_BoxWords.tab9 t_mailsacklaw6_BoxWords.bits9 (fun HT_ HW_ => ?_)
          have hd_ := (below_drew1 (Below.refl wr.heap.size wr))
          have n_HB := Aside0.mk (HB.out.trans (hd_.mono HB.out.size))
          have n_CW := Aside0.mk ((show wr.drew.cell? (adw.add z) = some (.string x) from CW.out))
          have n_C4 := Aside0.mk ((show wr.drew.cell? (ad4.add q.toNat) = some (.string x) from C4.out))
          have n_GX := Aside0.mk ((show wr.drew.cell? ⟨g2, 4, none⟩ = some (.slice (some ad4) ws.length c4) from GX.out))
          clear HB
          have HB := n_HB
          clear n_HB
          clear CW
          have CW := n_CW
          clear n_CW
          clear C4
          have C4 := n_C4
          clear n_C4
          clear GX
          have GX := n_GX
          clear n_GX
          generalize wr.drew = w_d at *
          clear hd_
          refine inv_at [0, 1, 2, 3, 4, 5, 6, 7, 8, 9, 10, 11, 12, 13, 14, 15] (fun a0_ b a w' => a = putSel a0_ b [(0, 37, .int .i64 (z : Int)), (1, 38, .slice (some adw) ww.length c), (2, 39, .int .i64 (ww.length : Int)), (3, 40, .bool false), (4, 41, .bool false), (5, 42, .slice (some adw) ww.length c), (6, 43, .int .i64 (z : Int)), (7, 44, .pointer (some (adw.add z))), (8, 45, .string x), (9, 46, .pointer (some ⟨g2, 4, none⟩)), (10, 47, .slice (some ad4) ws.length c4), (11, 48, .int .i64 q), (12, 49, .pointer (some (ad4.add q.toNat))), (13, 50, .string x), (14, 51, .bool false), (15, 52, .bool false)] ∧ (Below w3.heap.size w3 w') ∧ (w'.cell? (adw.add z) = some (.string x)) ∧ (w'.cell? (ad4.add q.toNat) = some (.string x)) ∧ (w'.cell? ⟨g2, 4, none⟩ = some (.slice (some ad4) ws.length c4))) HT_.out HW_.out (by kernel_rfl) (by kernel_rfl) ?_ ?_ ?_
          · exact ⟨by simp only [putSel, Bool.false_eq_true, if_false], HB.out, CW.out, C4.out, GX.out⟩
          · skip
            clear C4 CW GX HB
            refine steps_cons ?_ ?_
            · rintro b a w' ⟨ha, Q_HB, Q_CW, Q_C4, Q_GX⟩ hb_ hon hoff
              refine ⟨_, rfl, fun K hK => ?_⟩
              have e6 : a.tmps[6]? = some (.int .i64 (z : Int)) := by rw [ha]; exact (putSel_off rfl).trans rfl
              replace ha := Aside0.mk ha
              have HB := Aside0.mk Q_HB
              have CW := Aside0.mk Q_CW
              have C4 := Aside0.mk Q_C4
              have GX := Aside0.mk Q_GX
              refine value_ (w1 := w') (v := .int .i64 (z : Int)) (by rfl) rfl ?_ ?_
              · go_simp
                (try simp only [i64_w])
                try first | rfl | assumption
              refine hK.out _ _ ⟨(by rw [ha.out]; exact putSel_upk 0 hb_ rfl rfl rfl), Q_HB, Q_CW, Q_C4, Q_GX⟩
            refine steps_cons ?_ ?_
            · rintro b a w' ⟨ha, Q_HB, Q_CW, Q_C4, Q_GX⟩ hb_ hon hoff
              refine ⟨_, rfl, fun K hK => ?_⟩
              have e5 : a.tmps[5]? = some (.slice (some adw) ww.length c) := by rw [ha]; exact (putSel_off rfl).trans rfl
              replace ha := Aside0.mk ha
              have HB := Aside0.mk Q_HB
              have CW := Aside0.mk Q_CW
              have C4 := Aside0.mk Q_C4
              have GX := Aside0.mk Q_GX
              refine value_ (w1 := w') (v := .slice (some adw) ww.length c) (by rfl) rfl ?_ ?_
              · go_simp
                (try simp only [i64_w])
                try first | rfl | assumption
              refine hK.out _ _ ⟨(by rw [ha.out]; exact putSel_upk 1 hb_ rfl rfl rfl), Q_HB, Q_CW, Q_C4, Q_GX⟩
            refine steps_cons ?_ ?_
            · rintro b a w' ⟨ha, Q_HB, Q_CW, Q_C4, Q_GX⟩ hb_ hon hoff
              refine ⟨_, rfl, fun K hK => ?_⟩
              have e38 : a.tmps[38]? = some (.slice (some adw) ww.length c) := by rw [ha]; exact putSel_on (e := (1, 38, .slice (some adw) ww.length c)) 1 rfl rfl (hon 1 (by kernel_rfl)) rfl
              replace ha := Aside0.mk ha
              have HB := Aside0.mk Q_HB
              have CW := Aside0.mk Q_CW
              have C4 := Aside0.mk Q_C4
              have GX := Aside0.mk Q_GX
              refine value_ (w1 := w') (v := .int .i64 (ww.length : Int)) (by rfl) rfl ?_ ?_
              · go_simp
                (try simp only [i64_w])
                try first | rfl | assumption
              refine hK.out _ _ ⟨(by rw [ha.out]; exact putSel_upk 2 hb_ rfl rfl rfl), Q_HB, Q_CW, Q_C4, Q_GX⟩
            refine steps_cons ?_ ?_
            · rintro b a w' ⟨ha, Q_HB, Q_CW, Q_C4, Q_GX⟩ hb_ hon hoff
              refine ⟨_, rfl, fun K hK => ?_⟩
              have e37 : a.tmps[37]? = some (.int .i64 (z : Int)) := by rw [ha]; exact putSel_on (e := (0, 37, .int .i64 (z : Int))) 0 rfl rfl (hon 0 (by kernel_rfl)) rfl
              have e39 : a.tmps[39]? = some (.int .i64 (ww.length : Int)) := by rw [ha]; exact putSel_on (e := (2, 39, .int .i64 (ww.length : Int))) 2 rfl rfl (hon 2 (by kernel_rfl)) rfl
              replace ha := Aside0.mk ha
              have HB := Aside0.mk Q_HB
              have CW := Aside0.mk Q_CW
              have C4 := Aside0.mk Q_C4
              have GX := Aside0.mk Q_GX
              have hd3 := D3.out
              refine value_ (w1 := w') (v := .bool false) (by rfl) rfl ?_ ?_
              · go_simp
                (try simp only [i64_w])
                try first | rfl | assumption
              refine hK.out _ _ ⟨(by rw [ha.out]; exact putSel_upk 3 hb_ rfl rfl rfl), Q_HB, Q_CW, Q_C4, Q_GX⟩
            refine steps_cons ?_ ?_
            · rintro b a w' ⟨ha, Q_HB, Q_CW, Q_C4, Q_GX⟩ hb_ hon hoff
              refine ⟨_, rfl, fun K hK => ?_⟩
              have e40 : a.tmps[40]? = some (.bool false) := by rw [ha]; exact putSel_on (e := (3, 40, .bool false)) 3 rfl rfl (hon 3 (by kernel_rfl)) rfl
              replace ha := Aside0.mk ha
              have HB := Aside0.mk Q_HB
              have CW := Aside0.mk Q_CW
              have C4 := Aside0.mk Q_C4
              have GX := Aside0.mk Q_GX
              refine value_ (w1 := w') (v := .bool false) (by rfl) rfl ?_ ?_
              · go_simp
                (try simp only [i64_w])
                try first | rfl | assumption
              refine hK.out _ _ ⟨(by rw [ha.out]; exact putSel_upk 4 hb_ rfl rfl rfl), Q_HB, Q_CW, Q_C4, Q_GX⟩
            refine steps_cons ?_ ?_
            · rintro b a w' ⟨ha, Q_HB, Q_CW, Q_C4, Q_GX⟩ hb_ hon hoff
              refine ⟨_, rfl, fun K hK => ?_⟩
              have e5 : a.tmps[5]? = some (.slice (some adw) ww.length c) := by rw [ha]; exact (putSel_off rfl).trans rfl
              have e41 : a.tmps[41]? = some (.bool false) := by rw [ha]; exact putSel_on (e := (4, 41, .bool false)) 4 rfl rfl (hon 4 (by kernel_rfl)) rfl
              replace ha := Aside0.mk ha
              have HB := Aside0.mk Q_HB
              have CW := Aside0.mk Q_CW
              have C4 := Aside0.mk Q_C4
              have GX := Aside0.mk Q_GX
              refine value_ (w1 := w') (v := .slice (some adw) ww.length c) (wanted_on rfl rfl rfl (e41.trans (by first | rfl | (simp [*]; done)))) rfl ?_ ?_
              · go_simp
                (try simp only [i64_w])
                try first | rfl | assumption
              refine hK.out _ _ ⟨(by rw [ha.out]; exact putSel_upk 5 hb_ rfl rfl rfl), Q_HB, Q_CW, Q_C4, Q_GX⟩
            refine steps_cons ?_ ?_
            · rintro b a w' ⟨ha, Q_HB, Q_CW, Q_C4, Q_GX⟩ hb_ hon hoff
              refine ⟨_, rfl, fun K hK => ?_⟩
              have e6 : a.tmps[6]? = some (.int .i64 (z : Int)) := by rw [ha]; exact (putSel_off rfl).trans rfl
              have e41 : a.tmps[41]? = some (.bool false) := by rw [ha]; exact putSel_on (e := (4, 41, .bool false)) 4 rfl rfl (hon 4 (by kernel_rfl)) rfl
              replace ha := Aside0.mk ha
              have HB := Aside0.mk Q_HB
              have CW := Aside0.mk Q_CW
              have C4 := Aside0.mk Q_C4
              have GX := Aside0.mk Q_GX
              refine value_ (w1 := w') (v := .int .i64 (z : Int)) (wanted_on rfl rfl rfl (e41.trans (by first | rfl | (simp [*]; done)))) rfl ?_ ?_
              · go_simp
                (try simp only [i64_w])
                try first | rfl | assumption
              refine hK.out _ _ ⟨(by rw [ha.out]; exact putSel_upk 6 hb_ rfl rfl rfl), Q_HB, Q_CW, Q_C4, Q_GX⟩
            refine steps_cons ?_ ?_
            · rintro b a w' ⟨ha, Q_HB, Q_CW, Q_C4, Q_GX⟩ hb_ hon hoff
              refine ⟨_, rfl, fun K hK => ?_⟩
              have e42 : a.tmps[42]? = some (.slice (some adw) ww.length c) := by rw [ha]; exact putSel_on (e := (5, 42, .slice (some adw) ww.length c)) 5 rfl rfl (hon 5 (by kernel_rfl)) rfl
              have e43 : a.tmps[43]? = some (.int .i64 (z : Int)) := by rw [ha]; exact putSel_on (e := (6, 43, .int .i64 (z : Int))) 6 rfl rfl (hon 6 (by kernel_rfl)) rfl
              have e41 : a.tmps[41]? = some (.bool false) := by rw [ha]; exact putSel_on (e := (4, 41, .bool false)) 4 rfl rfl (hon 4 (by kernel_rfl)) rfl
              replace ha := Aside0.mk ha
              have HB := Aside0.mk Q_HB
              have CW := Aside0.mk Q_CW
              have C4 := Aside0.mk Q_C4
              have GX := Aside0.mk Q_GX
              refine value_ (w1 := w') (v := .pointer (some (adw.add z))) (wanted_on rfl rfl rfl (e41.trans (by first | rfl | (simp [*]; done)))) rfl ?_ ?_
              · go_simp
                (try simp only [i64_w])
                try first | rfl | assumption
              refine hK.out _ _ ⟨(by rw [ha.out]; exact putSel_upk 7 hb_ rfl rfl rfl), Q_HB, Q_CW, Q_C4, Q_GX⟩
            refine steps_cons ?_ ?_
            · rintro b a w' ⟨ha, Q_HB, Q_CW, Q_C4, Q_GX⟩ hb_ hon hoff
              refine ⟨_, rfl, fun K hK => ?_⟩
              have e44 : a.tmps[44]? = some (.pointer (some (adw.add z))) := by rw [ha]; exact putSel_on (e := (7, 44, .pointer (some (adw.add z)))) 7 rfl rfl (hon 7 (by kernel_rfl)) rfl
              have e41 : a.tmps[41]? = some (.bool false) := by rw [ha]; exact putSel_on (e := (4, 41, .bool false)) 4 rfl rfl (hon 4 (by kernel_rfl)) rfl
              replace ha := Aside0.mk ha
              have HB := Aside0.mk Q_HB
              have CW := Aside0.mk Q_CW
              have C4 := Aside0.mk Q_C4
              have GX := Aside0.mk Q_GX
              have hs := CW.out
              refine value_ (w1 := w') (v := .string x) (wanted_on rfl rfl rfl (e41.trans (by first | rfl | (simp [*]; done)))) rfl ?_ ?_
              · go_simp
                (try simp only [i64_w])
                try first | rfl | assumption
              refine hK.out _ _ ⟨(by rw [ha.out]; exact putSel_upk 8 hb_ rfl rfl rfl), Q_HB, Q_CW, Q_C4, Q_GX⟩
            refine steps_cons ?_ ?_
            · rintro b a w' ⟨ha, Q_HB, Q_CW, Q_C4, Q_GX⟩ hb_ hon hoff
              refine ⟨_, rfl, fun K hK => ?_⟩
              have e2 : a.tmps[2]? = some (.pointer (some ⟨g2, 0, none⟩)) := by rw [ha]; exact (putSel_off rfl).trans rfl
              have e41 : a.tmps[41]? = some (.bool false) := by rw [ha]; exact putSel_on (e := (4, 41, .bool false)) 4 rfl rfl (hon 4 (by kernel_rfl)) rfl
              replace ha := Aside0.mk ha
              have HB := Aside0.mk Q_HB
              have CW := Aside0.mk Q_CW
              have C4 := Aside0.mk Q_C4
              have GX := Aside0.mk Q_GX
              refine value_ (w1 := w') (v := .pointer (some ⟨g2, 4, none⟩)) (wanted_on rfl rfl rfl (e41.trans (by first | rfl | (simp [*]; done)))) rfl ?_ ?_
              · go_simp
                (try simp only [i64_w])
                try first | rfl | assumption
              refine hK.out _ _ ⟨(by rw [ha.out]; exact putSel_upk 9 hb_ rfl rfl rfl), Q_HB, Q_CW, Q_C4, Q_GX⟩
            refine steps_cons ?_ ?_
            · rintro b a w' ⟨ha, Q_HB, Q_CW, Q_C4, Q_GX⟩ hb_ hon hoff
              refine ⟨_, rfl, fun K hK => ?_⟩
              have e46 : a.tmps[46]? = some (.pointer (some ⟨g2, 4, none⟩)) := by rw [ha]; exact putSel_on (e := (9, 46, .pointer (some ⟨g2, 4, none⟩))) 9 rfl rfl (hon 9 (by kernel_rfl)) rfl
              have e41 : a.tmps[41]? = some (.bool false) := by rw [ha]; exact putSel_on (e := (4, 41, .bool false)) 4 rfl rfl (hon 4 (by kernel_rfl)) rfl
              replace ha := Aside0.mk ha
              have HB := Aside0.mk Q_HB
              have CW := Aside0.mk Q_CW
              have C4 := Aside0.mk Q_C4
              have GX := Aside0.mk Q_GX
              have hs := GX.out
              refine value_ (w1 := w') (v := .slice (some ad4) ws.length c4) (wanted_on rfl rfl rfl (e41.trans (by first | rfl | (simp [*]; done)))) rfl ?_ ?_
              · go_simp
                (try simp only [i64_w])
                try first | rfl | assumption
              refine hK.out _ _ ⟨(by rw [ha.out]; exact putSel_upk 10 hb_ rfl rfl rfl), Q_HB, Q_CW, Q_C4, Q_GX⟩
            refine steps_cons ?_ ?_
            · rintro b a w' ⟨ha, Q_HB, Q_CW, Q_C4, Q_GX⟩ hb_ hon hoff
              refine ⟨_, rfl, fun K hK => ?_⟩
              have e8 : a.tmps[8]? = some (.int .i64 q) := by rw [ha]; exact (putSel_off rfl).trans rfl
              have e41 : a.tmps[41]? = some (.bool false) := by rw [ha]; exact putSel_on (e := (4, 41, .bool false)) 4 rfl rfl (hon 4 (by kernel_rfl)) rfl
              replace ha := Aside0.mk ha
              have HB := Aside0.mk Q_HB
              have CW := Aside0.mk Q_CW
              have C4 := Aside0.mk Q_C4
              have GX := Aside0.mk Q_GX
              refine value_ (w1 := w') (v := .int .i64 q) (wanted_on rfl rfl rfl (e41.trans (by first | rfl | (simp [*]; done)))) rfl ?_ ?_
              · go_simp
                (try simp only [i64_w])
                try first | rfl | assumption
              refine hK.out _ _ ⟨(by rw [ha.out]; exact putSel_upk 11 hb_ rfl rfl rfl), Q_HB, Q_CW, Q_C4, Q_GX⟩
            refine steps_cons ?_ ?_
            · rintro b a w' ⟨ha, Q_HB, Q_CW, Q_C4, Q_GX⟩ hb_ hon hoff
              refine ⟨_, rfl, fun K hK => ?_⟩
              have e47 : a.tmps[47]? = some (.slice (some ad4) ws.length c4) := by rw [ha]; exact putSel_on (e := (10, 47, .slice (some ad4) ws.length c4)) 10 rfl rfl (hon 10 (by kernel_rfl)) rfl
              have e48 : a.tmps[48]? = some (.int .i64 q) := by rw [ha]; exact putSel_on (e := (11, 48, .int .i64 q)) 11 rfl rfl (hon 11 (by kernel_rfl)) rfl
              have e41 : a.tmps[41]? = some (.bool false) := by rw [ha]; exact putSel_on (e := (4, 41, .bool false)) 4 rfl rfl (hon 4 (by kernel_rfl)) rfl
              replace ha := Aside0.mk ha
              have HB := Aside0.mk Q_HB
              have CW := Aside0.mk Q_CW
              have C4 := Aside0.mk Q_C4
              have GX := Aside0.mk Q_GX
              refine value_ (w1 := w') (v := .pointer (some (ad4.add q.toNat))) (wanted_on rfl rfl rfl (e41.trans (by first | rfl | (simp [*]; done)))) rfl ?_ ?_
              · go_simp
                (try simp only [i64_w])
                try first | rfl | assumption
              refine hK.out _ _ ⟨(by rw [ha.out]; exact putSel_upk 12 hb_ rfl rfl rfl), Q_HB, Q_CW, Q_C4, Q_GX⟩
            refine steps_cons ?_ ?_
            · rintro b a w' ⟨ha, Q_HB, Q_CW, Q_C4, Q_GX⟩ hb_ hon hoff
              refine ⟨_, rfl, fun K hK => ?_⟩
              have e49 : a.tmps[49]? = some (.pointer (some (ad4.add q.toNat))) := by rw [ha]; exact putSel_on (e := (12, 49, .pointer (some (ad4.add q.toNat)))) 12 rfl rfl (hon 12 (by kernel_rfl)) rfl
              have e41 : a.tmps[41]? = some (.bool false) := by rw [ha]; exact putSel_on (e := (4, 41, .bool false)) 4 rfl rfl (hon 4 (by kernel_rfl)) rfl
              replace ha := Aside0.mk ha
              have HB := Aside0.mk Q_HB
              have CW := Aside0.mk Q_CW
              have C4 := Aside0.mk Q_C4
              have GX := Aside0.mk Q_GX
              have hs := C4.out
              refine value_ (w1 := w') (v := .string x) (wanted_on rfl rfl rfl (e41.trans (by first | rfl | (simp [*]; done)))) rfl ?_ ?_
              · go_simp
                (try simp only [i64_w])
                try first | rfl | assumption
              refine hK.out _ _ ⟨(by rw [ha.out]; exact putSel_upk 13 hb_ rfl rfl rfl), Q_HB, Q_CW, Q_C4, Q_GX⟩
            refine steps_cons ?_ ?_
            · rintro b a w' ⟨ha, Q_HB, Q_CW, Q_C4, Q_GX⟩ hb_ hon hoff
              refine ⟨_, rfl, fun K hK => ?_⟩
              have e45 : a.tmps[45]? = some (.string x) := by rw [ha]; exact putSel_on (e := (8, 45, .string x)) 8 rfl rfl (hon 8 (by kernel_rfl)) rfl
              have e50 : a.tmps[50]? = some (.string x) := by rw [ha]; exact putSel_on (e := (13, 50, .string x)) 13 rfl rfl (hon 13 (by kernel_rfl)) rfl
              have e41 : a.tmps[41]? = some (.bool false) := by rw [ha]; exact putSel_on (e := (4, 41, .bool false)) 4 rfl rfl (hon 4 (by kernel_rfl)) rfl
              replace ha := Aside0.mk ha
              have HB := Aside0.mk Q_HB
              have CW := Aside0.mk Q_CW
              have C4 := Aside0.mk Q_C4
              have GX := Aside0.mk Q_GX
              refine value_ (w1 := w') (v := .bool false) (wanted_on rfl rfl rfl (e41.trans (by first | rfl | (simp [*]; done)))) rfl ?_ ?_
              · go_simp
                (try simp only [i64_w])
                try first | rfl | assumption
              refine hK.out _ _ ⟨(by rw [ha.out]; exact putSel_upk 14 hb_ rfl rfl rfl), Q_HB, Q_CW, Q_C4, Q_GX⟩
            refine steps_cons ?_ ?_
            · rintro b a w' ⟨ha, Q_HB, Q_CW, Q_C4, Q_GX⟩ hb_ hon hoff
              refine ⟨_, rfl, fun K hK => ?_⟩
              have e41 : a.tmps[41]? = some (.bool false) := by rw [ha]; exact putSel_on (e := (4, 41, .bool false)) 4 rfl rfl (hon 4 (by kernel_rfl)) rfl
              have e51 : a.tmps[51]? = some (.bool false) := by rw [ha]; exact putSel_on (e := (14, 51, .bool false)) 14 rfl rfl (hon 14 (by kernel_rfl)) rfl
              replace ha := Aside0.mk ha
              have HB := Aside0.mk Q_HB
              have CW := Aside0.mk Q_CW
              have C4 := Aside0.mk Q_C4
              have GX := Aside0.mk Q_GX
              refine value_ (w1 := w') (v := .bool false) (by rfl) rfl ?_ ?_
              · go_simp
                (try simp only [i64_w])
                try first | rfl | assumption
              refine hK.out _ _ ⟨(by rw [ha.out]; exact putSel_upk 15 hb_ rfl rfl rfl), Q_HB, Q_CW, Q_C4, Q_GX⟩
            exact steps_nil
          rintro b a w6 hall ⟨ha, Q_HB, Q_CW, Q_C4, Q_GX⟩
          clear C4 CW GX HB
          have hb0_ := hall 0 (by kernel_rfl)
          have hb1_ := hall 1 (by kernel_rfl)
          have hb2_ := hall 2 (by kernel_rfl)
          have hb3_ := hall 3 (by kernel_rfl)
          have hb4_ := hall 4 (by kernel_rfl)
          have hb5_ := hall 5 (by kernel_rfl)
          have hb6_ := hall 6 (by kernel_rfl)
          have hb7_ := hall 7 (by kernel_rfl)
          have hb8_ := hall 8 (by kernel_rfl)
          have hb9_ := hall 9 (by kernel_rfl)
          have hb10_ := hall 10 (by kernel_rfl)
          have hb11_ := hall 11 (by kernel_rfl)
          have hb12_ := hall 12 (by kernel_rfl)
          have hb13_ := hall 13 (by kernel_rfl)
          have hb14_ := hall 14 (by kernel_rfl)
          have hb15_ := hall 15 (by kernel_rfl)
          subst ha
          simp only [putSel, hb0_, hb1_, hb2_, hb3_, hb4_, hb5_, hb6_, hb7_, hb8_, hb9_, hb10_, hb11_, hb12_, hb13_, hb14_, hb15_, if_true, Act.put, List.setIfInBounds_toArray, List.set_cons_zero, List.set_cons_succ]
          have HB := Aside0.mk Q_HB
          clear Q_HB
          have CW := Aside0.mk Q_CW
          clear Q_CW
          have C4 := Aside0.mk Q_C4
          clear Q_C4
          have GX := Aside0.mk Q_GX
          clear Q_GX
          clear hall hb0_ hb1_ hb2_ hb3_ hb4_ hb5_ hb6_ hb7_ hb8_ hb9_ hb10_ hb11_ hb12_ hb13_ hb14_ hb15_
          go_wp2_with fail
          go_roundw
          case rel => exact ⟨k + 1, z + 1, by omega, by go_num, by go_num, ⟨HZ3.out.symm⟩, HB⟩
          case measure => simp [intOf]; omega
        · have HZ4 : Aside0 (z = (selW ws (l.take (k + 1))).length) := ⟨by rw [HK1.out (fun h => h2 h.2), HZ.out]⟩
          have d1 : decide (q < 0) = false := decide_eq_false (by omega)
          have d2 : decide ((ws.length : Int) ≤ q) = true := decide_eq_true (by omega)
          clear HS1 HK1 HZ h1 h2
          go_wp2_with fail
          go_roundw
          case rel => exact ⟨k + 1, z, by omega, by go_num, rfl, HZ4, HB⟩
          case measure => simp [intOf]; omega
      · have HZ4 : Aside0 (z = (selW ws (l.take (k + 1))).length) := ⟨by rw [HK1.out (fun h => h1 h.1), HZ.out]⟩
        have d1 : decide (q < 0) = true := decide_eq_true (by omega)
        clear HS1 HK1 HZ h1
        go_wp2_with fail
        go_roundw
        case rel => exact ⟨k + 1, z, by omega, by go_num, rfl, HZ4, HB⟩
        case measure => simp [intOf]; omega
    · have hke : k = l.length := by omega
      subst hke
      have hz : z = ww.length := by rw [HZ.out, HA.out]
      subst hz
      clear HZ hlt hk
      go_wp2_with (go_at_call 13; refine (hAw.out _ (HB3.out.trans (HB.out.mono HB3.out.size))).mono ?_; rintro e w5 ⟨rfl, hb⟩; have HB5 := Aside0.mk ((HB3.out.trans (HB.out.mono HB3.out.size)).trans (hb.mono (HB3.out.trans (HB.out.mono HB3.out.size)).size)); clear hb)
      go_ret
      exact ⟨rfl, HB5.out⟩
theorem boxWords_open (x : BxR.BoxT) (cs : Array Value) (A1 : Option Addr) (c1 : Nat) (l : List Int) (w : World) (ht : Tab w) (hK : BxR.boxD.K w x cs.toList) (hok : BxR.okB x) (hc1 : l.length ≤ c1) (hC1 : Kd.C (Kd.int .i64) w A1 l.length l) (hl1 : l.length ≤ 140737488355328) : Calls Tryd.prog 6 #[.agg cs, .slice A1 l.length c1] w fun e w' => e = .returned (.bool true) ∧ Below w.heap.size w w' := by
  obtain ⟨A4, c4, A5, c5, rfl, C4, h4, C5, h5⟩ := BxR.box_open hK
  obtain ⟨o0, _, _, _, ⟨o4, o4'⟩, ⟨o5, o5'⟩⟩ := hok
  refine boxWords_calls x.1 x.2.1 x.2.2.1 x.2.2.2.1 A4 c4 _ A5 c5 _ A1 c1 l w ht C4 h4 C5 h5 hC1 hc1 (by unfold BxR.okS at o0; omega) (fun s hs => by have := o4' s hs; unfold BxR.okS at this; omega) (fun m hm => ?_) (by omega) (by rw [List.length_map]; omega) hl1
  obtain ⟨y, hy, rfl⟩ := List.mem_map.1 hm
  exact BxR.wt_ok (o5' y hy)
end Go.Proofs.YtjlabkibpknkpaaDoor.BxW
