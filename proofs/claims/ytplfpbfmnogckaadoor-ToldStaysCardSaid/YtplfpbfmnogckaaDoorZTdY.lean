-- Printed by prune.py: the used part of a text.
import Derived.Test.YtplfpbfmnogckaaDoorZTdR
namespace Go.Proofs.YtplfpbfmnogckaaDoor.TdY
open Go.RowKit Go.Proofs.YtplfpbfmnogckaaDoorW.PrintWords Go.Proofs.YtplfpbfmnogckaaDoorW.PrintLast Go.Proofs.YtplfpbfmnogckaaDoorW.PrintMore Go.Proofs.YtplfpbfmnogckaaDoor.TdG Go.Proofs.YtplfpbfmnogckaaDoor.TdM Go.Proofs.YtplfpbfmnogckaaDoor.TdP Go.Proofs.YtplfpbfmnogckaaDoor.TdD Go.Proofs.YtplfpbfmnogckaaDoor.ItT Go.Proofs.YtplfpbfmnogckaaDoor.ItO Go.Proofs.YtplfpbfmnogckaaDoor.TdF Go.Proofs.YtplfpbfmnogckaaDoor.TdS Go.Proofs.YtplfpbfmnogckaaDoor.TdA Go.Proofs.YtplfpbfmnogckaaDoor.TdW Go.Proofs.YtplfpbfmnogckaaDoor.TdR
set_option linter.unusedVariables false
set_option linter.unusedSimpArgs false
def t_mailsacklaw23_ToldStays.T9 : Bool × List (List Nat × List Nat) := (true, [([], []), ([], []), ([0, 1], [0, 1]), ([2], [2]), ([3], [3]), ([], []), ([5], [5]), ([4, 6], [4, 6])])
def t_mailsacklaw23_ToldStays.B9 : List Nat := [0, 0, 3, 7, 15, 0, 32, 127]
theorem t_mailsacklaw23_ToldStays.tab9 : rtab .any (opsOf Tryd.f4 9) = t_mailsacklaw23_ToldStays.T9 := by kernel_rfl
theorem t_mailsacklaw23_ToldStays.bits9 : waitsOk t_mailsacklaw23_ToldStays.T9.2 t_mailsacklaw23_ToldStays.B9 = true := by kernel_rfl
set_option maxRecDepth 100000 in
set_option maxHeartbeats 4000000 in
theorem toldStays_calls (a0 : ByteArray) (a1 a2 a3 : Int) (aA4 : Option Addr) (ac4 : Nat) (aw : List ByteArray) (aA5 : Option Addr) (ac5 : Nat) (am : List S34) (A : Option Addr) (c : Nat) (l : List S37) (w : World) (ht : Tab w) (hB : BoxIn w a0 aA4 ac4 aw aA5 ac5 am) (hCl : Kd.C k37 w A l.length l) (hcl : l.length ≤ c) (hl : l.length ≤ 140737488355328) :
    Calls Tryd.prog 4 #[.slice A l.length c, .agg #[.string a0, .int .i64 a1, .int .i64 a2, .int .i64 a3, .slice aA4 aw.length ac4, .slice aA5 am.length ac5]] w fun e w' => e = .returned (.bool true) ∧ Below w.heap.size w w' := by
  have hu25 := Tryd.underlying25
  have hu37 := Tryd.underlying37
  have hAw := Aside0.mk (fun W (hW : Below w.heap.size w W) => awake_calls W (ht.below hW))
  have hHv := Aside0.mk (fun W hW => hB.heavy a1 a2 a3 W hW)
  by_cases h100 : 100 < l.length
  case pos =>
    have hd : decide ((100 : Int) < (l.length : Int)) = true := decide_eq_true (by omega)
    clear h100 hCl hcl hl hB ht hHv
    go_enter Tryd.func4, Tryd.ntmps4
    have M0_0 := Aside0.mk (Below.refl w.heap.size w)
    go_wp2_with (first
      | ((with_reducible refine gate_dst (N := 3) rfl ?_); refine box_event ?hgX3 (N := 3) ?hdX3 (cs := #[.string a0, .int .i64 a1, .int .i64 a2, .int .i64 a3, .slice aA4 aw.length ac4, .slice aA5 am.length ac5]) (t := 25) ?hrX3 ?_; (case hdX3 => rfl); (case hgX3 => rfl); (case hrX3 => first | (go_simp; done) | (go_simp; rfl)); intro g_X hg_ w_1 hbx_ hb_; have L0_X := Aside0.mk (show w.heap.size ≤ g_X by have := M0_0.out.size; omega); have M0_1 := Aside0.mk (M0_0.out.trans (hb_.mono M0_0.out.size)); have X_1 := Aside0.mk hbx_; clear hg_ hbx_ hb_ M0_0; skip)
      | (go_at_call 14; refine (hAw.out w_1 M0_1.out).mono ?_; rintro e_ w_2 ⟨rfl, hb⟩; have M0_2 := Aside0.mk (M0_1.out.trans (hb.mono M0_1.out.size)); have X_2 := Aside0.mk (blk_below X_1.out hb); clear hb M0_1 X_1; skip))
    go_ret
    exact ⟨rfl, M0_2.out⟩
  have hd : decide ((100 : Int) < (l.length : Int)) = false := decide_eq_false (by omega)
  rcases heavy_01 (bulk a0 aw am) aw.length am.length with hh | hh
  case inr =>
    rw [hh] at hHv
    clear h100 hCl hcl hl hB ht hh
    go_enter Tryd.func4, Tryd.ntmps4
    have M0_0 := Aside0.mk (Below.refl w.heap.size w)
    go_wp2_with (first
      | ((with_reducible refine gate_dst (N := 3) rfl ?_); refine box_event ?hgX3 (N := 3) ?hdX3 (cs := #[.string a0, .int .i64 a1, .int .i64 a2, .int .i64 a3, .slice aA4 aw.length ac4, .slice aA5 am.length ac5]) (t := 25) ?hrX3 ?_; (case hdX3 => rfl); (case hgX3 => rfl); (case hrX3 => first | (go_simp; done) | (go_simp; rfl)); intro g_X hg_ w_1 hbx_ hb_; have L0_X := Aside0.mk (show w.heap.size ≤ g_X by have := M0_0.out.size; omega); have M0_1 := Aside0.mk (M0_0.out.trans (hb_.mono M0_0.out.size)); have X_1 := Aside0.mk hbx_; clear hg_ hbx_ hb_ M0_0; have zX0 := blk_cell X_1.out 0; have zX1 := blk_cell X_1.out 1; have zX2 := blk_cell X_1.out 2; have zX3 := blk_cell X_1.out 3; have zX4 := blk_cell X_1.out 4; have zX5 := blk_cell X_1.out 5; skip)
      | (go_at_call 12; refine (hHv.out w_1 M0_1.out).mono ?_; rintro e_ w_2 ⟨rfl, hb⟩; have M0_2 := Aside0.mk (M0_1.out.trans (hb.mono M0_1.out.size)); have X_2 := Aside0.mk (blk_below X_1.out hb); clear hb M0_1 X_1 zX0 zX1 zX2 zX3 zX4 zX5; have zX0 := blk_cell X_2.out 0; have zX1 := blk_cell X_2.out 1; have zX2 := blk_cell X_2.out 2; have zX3 := blk_cell X_2.out 3; have zX4 := blk_cell X_2.out 4; have zX5 := blk_cell X_2.out 5; skip)
      | (go_at_call 14; refine (hAw.out w_2 M0_2.out).mono ?_; rintro e_ w_3 ⟨rfl, hb⟩; have M0_3 := Aside0.mk (M0_2.out.trans (hb.mono M0_2.out.size)); have X_3 := Aside0.mk (blk_below X_2.out hb); clear hb M0_2 X_2 zX0 zX1 zX2 zX3 zX4 zX5; have zX0 := blk_cell X_3.out 0; have zX1 := blk_cell X_3.out 1; have zX2 := blk_cell X_3.out 2; have zX3 := blk_cell X_3.out 3; have zX4 := blk_cell X_3.out 4; have zX5 := blk_cell X_3.out 5; skip))
    go_ret
    exact ⟨rfl, M0_3.out⟩
  rw [hh] at hHv
  have hL := hB.light hh
  have hMy := Aside0.mk (fun W hW => hB.may hL a1 a2 a3 W hW)
  have hSy := Aside0.mk (fun W (hW : Below w.heap.size w W) => sync_calls false a0 a1 a2 a3 aA4 ac4 aw aA5 ac5 am A c l W (ht.below hW) (Kd.C_below hB.C4 hW) hB.c4 (Kd.C_below hB.C5 hW) hB.c5 (Kd.C_below hCl hW) hcl hL.ms hL.n5 (by omega))
  have hS2 := Aside0.mk (fun W (hW : Below w.heap.size w W) A9 (h9 : Kd.C k37 W A9 (outS false am l).length (outS false am l)) => sync_calls false a0 a1 a2 a3 aA4 ac4 aw aA5 ac5 am A9 (outS false am l).length (outS false am l) W (ht.below hW) (Kd.C_below hB.C4 hW) hB.c4 (Kd.C_below hB.C5 hW) hB.c5 h9 (Nat.le_refl _) hL.ms hL.n5 (by have := (out_len am l).2; have := hL.n5; omega))
  have hSm := Aside0.mk (fun W A8 A9 (h8 : Kd.C k37 W A8 (outS false am l).length (outS false am l)) (h9 : Kd.C k37 W A9 (outS false am l).length (outS false am l)) => same_calls A8 (outS false am l).length A9 (outS false am l).length (outS false am l) W h8 (Nat.le_refl _) h9 (Nat.le_refl _) (by have := (out_len am l).2; have := hL.n5; omega))
  have hO := out_len am l
  have hU := Aside0.mk (out_uid am l)
  have hT := Aside0.mk (fun (hp : am.Pairwise (fun a b => a.f0 < b.f0)) => stays_twice hp aw l)
  have hp9 := Aside0.mk (fun (h : boxP a0 a1 a2 a3 aw am = 0) => ((msgsOk_iff _ _ _ _ _).1 (may_parts h).2.2.2.2).2)
  have hCl' := Aside0.mk hCl
  have hl9 : (l.length : Int) ≤ 100 := by omega
  clear h100 hCl hcl hl hB ht hh hL
  generalize hV : outS false am l = V at *
  generalize linesS false aw am l = L at *
  have hd2 : decide (V.length < l.length) = false := decide_eq_false (by omega)
  have hVL : l.length ≤ V.length := hO.1
  clear hO
  go_enter Tryd.func4, Tryd.ntmps4
  have M0_0 := Aside0.mk (Below.refl w.heap.size w)
  go_wp2_with (first
    | ((with_reducible refine gate_dst (N := 3) rfl ?_); refine box_event ?hgX3 (N := 3) ?hdX3 (cs := #[.string a0, .int .i64 a1, .int .i64 a2, .int .i64 a3, .slice aA4 aw.length ac4, .slice aA5 am.length ac5]) (t := 25) ?hrX3 ?_; (case hdX3 => rfl); (case hgX3 => rfl); (case hrX3 => first | (go_simp; done) | (go_simp; rfl)); intro g_X hg_ w_1 hbx_ hb_; have L0_X := Aside0.mk (show w.heap.size ≤ g_X by have := M0_0.out.size; omega); have M0_1 := Aside0.mk (M0_0.out.trans (hb_.mono M0_0.out.size)); have X_1 := Aside0.mk hbx_; clear hg_ hbx_ hb_ M0_0; have zX0 := blk_cell X_1.out 0; have zX1 := blk_cell X_1.out 1; have zX2 := blk_cell X_1.out 2; have zX3 := blk_cell X_1.out 3; have zX4 := blk_cell X_1.out 4; have zX5 := blk_cell X_1.out 5; skip)
    | (go_at_call 12; refine (hHv.out w_1 M0_1.out).mono ?_; rintro e_ w_2 ⟨rfl, hb⟩; have M0_2 := Aside0.mk (M0_1.out.trans (hb.mono M0_1.out.size)); have X_2 := Aside0.mk (blk_below X_1.out hb); clear hb M0_1 X_1 zX0 zX1 zX2 zX3 zX4 zX5; have zX0 := blk_cell X_2.out 0; have zX1 := blk_cell X_2.out 1; have zX2 := blk_cell X_2.out 2; have zX3 := blk_cell X_2.out 3; have zX4 := blk_cell X_2.out 4; have zX5 := blk_cell X_2.out 5; skip)
    | (go_at_call 15; refine (hSy.out w_2 M0_2.out).mono ?_; rintro e_ w_3 ⟨AV, AL, cL, rfl, hV9, hcL, hL9, hb⟩; have M0_3 := Aside0.mk (M0_2.out.trans (hb.mono M0_2.out.size)); have X_3 := Aside0.mk (blk_below X_2.out hb); have M3_3 := Aside0.mk (Below.refl w_3.heap.size w_3); have CV := Aside0.mk hV9; clear hb hV9 M0_2 X_2 zX0 zX1 zX2 zX3 zX4 zX5; have zX0 := blk_cell X_3.out 0; have zX1 := blk_cell X_3.out 1; have zX2 := blk_cell X_3.out 2; have zX3 := blk_cell X_3.out 3; have zX4 := blk_cell X_3.out 4; have zX5 := blk_cell X_3.out 5; skip))
  have W2 := Aside0.mk M0_3.out
  have X2 := Aside0.mk X_3.out
  have V2 := Aside0.mk (Kd.C_below CV.out M3_3.out)
  clear zX0 zX1 zX2 zX3 zX4 zX5 M0_3 X_3 M3_3
  go_loopw [33] (fun i wr => ∃ k : Nat, k ≤ l.length ∧ i = .int .i64 k ∧ Aside0 (Below w_3.heap.size w_3 wr)) (fun i _ => l.length - (intOf i).toNat)
  case atStart => exact ⟨0, Nat.zero_le _, rfl, ⟨Below.refl _ _⟩⟩
  case round =>
    obtain ⟨k, hk, rfl, HB⟩ := hrel
    by_cases hlt : k < l.length
    · obtain ⟨adL, e1, hx0, hx1⟩ := at_T37 (Kd.C_below hCl'.out (W2.out.trans (HB.out.mono W2.out.size))) (k : Int) (by omega) (by omega)
      cases e1
      obtain ⟨adV, e1, hv0, hv1⟩ := at_T37 (Kd.C_below V2.out HB.out) (k : Int) (by omega) (by omega)
      cases e1
      rw [hU.out k hlt] at hv0
      rw [Int.toNat_natCast] at hx0 hx1 hv0
      clear hv1
      have hk7 : (k : Int) < (l.length : Int) := by omega
      have hk8 : (k : Int) < (V.length : Int) := by omega
      generalize rd_T37 l (k : Int) = x at *
      clear hlt
      have HV0 := Aside0.mk hv0
      clear hv0
      have M0_0 := Aside0.mk (Below.refl wr.heap.size wr)
      go_upto_region 9 with ((with_reducible refine gate_dst (N := 8) rfl ?_); refine box_event ?hgY8 (N := 8) ?hdY8 (cs := #[.int .i64 0, .int .i64 0]) (t := 37) ?hrY8 ?_; (case hdY8 => rfl); (case hgY8 => rfl); (case hrY8 => first | (go_simp; done) | (go_simp; rfl)); intro g_Y hg_ w_1 hbx_ hb_; have L0_Y := Aside0.mk (show wr.heap.size ≤ g_Y by have := M0_0.out.size; omega); have M0_1 := Aside0.mk (M0_0.out.trans (hb_.mono M0_0.out.size)); have Y_1 := Aside0.mk hbx_; clear hg_ hbx_ hb_ M0_0; have zY0 := blk_cell Y_1.out 0; have yY0 := blk_frozen Y_1.out 0; have zY1 := blk_cell Y_1.out 1; have yY1 := blk_frozen Y_1.out 1; skip)
      clear zY0 yY0 zY1 yY1
      obtain ⟨w_2, e_2, Be_, Oe_⟩ := sets2 (cs' := #[.int .i64 x.f0, .int .i64 x.f1]) Y_1.out 0 1 (.int .i64 x.f0) (.int .i64 x.f1) rfl
      rw [e_2]
      clear e_2
      have M0_2 := Aside0.mk (Oe_.below M0_1.out L0_Y.out)
      have Y_2 := Aside0.mk Be_
      clear Be_ Oe_ M0_1 Y_1
      have zY0 := blk_cell Y_2.out 0
      have yY0 := blk_frozen Y_2.out 0
      have zY1 := blk_cell Y_2.out 1
      have yY1 := blk_frozen Y_2.out 1
      skip
      have HX := Aside0.mk M0_2.out
      have GY := Aside0.mk Y_2.out
      clear zY0 zY1 yY0 yY1 hx0 hx1 M0_2 Y_2 L0_Y
      have HV1 := Aside0.mk (pw_cell_below HX.out HV0.out)
      have HA := Aside0.mk (Below.refl w_2.heap.size w_2)
      refine start_ (n := 8) (S := fun w' => True) (ds := []) #[false, false, false, false, false, false, false, false] (by kernel_rfl) rfl rfl trivial (fun hHeld => ?_)
      refine with_tabW t_mailsacklaw23_ToldStays.tab9 t_mailsacklaw23_ToldStays.bits9 (fun HT_ HW_ => ?_)
      have hd_ := (below_drew1 (Below.refl w_2.heap.size w_2))
      have n_HA := Aside0.mk (HA.out.drew)
      have n_GY := Aside0.mk ((show w_2.drew.heap[g_Y]? = _ from GY.out))
      clear HA
      have HA := n_HA
      clear n_HA
      clear GY
      have GY := n_GY
      clear n_GY
      generalize w_2.drew = w_d at *
      clear hd_
      refine inv_at [0, 1, 2, 3, 4, 5, 6, 7] (fun a0_ b a w' => a = putSel a0_ b [(0, 38, .slice (some adV) V.length V.length), (1, 39, .int .i64 (k : Int)), (2, 40, .pointer (some (adV.add (k * 2)))), (3, 41, .pointer (some (adV.add (k * 2)))), (4, 42, .int .i64 x.f0), (5, 43, .pointer (some ⟨g_Y, 0, none⟩)), (6, 44, .int .i64 x.f0), (7, 45, .bool false)] ∧ (Below w_2.heap.size w_2 w') ∧ (w'.heap[g_Y]? = some (.cells #[.int .i64 x.f0, .int .i64 x.f1] 37 (0, 0)))) HT_.out HW_.out (by kernel_rfl) (by kernel_rfl) ?_ ?_ ?_
      · exact ⟨by simp only [putSel, Bool.false_eq_true, if_false], HA.out, GY.out⟩
      · skip
        clear GY HA
        refine steps_cons ?_ ?_
        · rintro b a w' ⟨ha, Q_HA, Q_GY⟩ hb_ hon hoff
          refine ⟨_, rfl, fun K hK => ?_⟩
          have e5 : a.tmps[5]? = some (.slice (some adV) V.length V.length) := by rw [ha]; exact (putSel_off rfl).trans rfl
          replace ha := Aside0.mk ha
          refine value_ (w1 := w') (v := .slice (some adV) V.length V.length) (by rfl) rfl ?_ ?_
          · go_simp
            try first | rfl | assumption
          refine hK.out _ _ ⟨(by rw [ha.out]; exact putSel_upk 0 hb_ rfl rfl rfl), Q_HA, Q_GY⟩
        refine steps_cons ?_ ?_
        · rintro b a w' ⟨ha, Q_HA, Q_GY⟩ hb_ hon hoff
          refine ⟨_, rfl, fun K hK => ?_⟩
          have e7 : a.tmps[7]? = some (.int .i64 (k : Int)) := by rw [ha]; exact (putSel_off rfl).trans rfl
          replace ha := Aside0.mk ha
          refine value_ (w1 := w') (v := .int .i64 (k : Int)) (by rfl) rfl ?_ ?_
          · go_simp
            (try simp only [i64_w])
            try first | rfl | assumption
          refine hK.out _ _ ⟨(by rw [ha.out]; exact putSel_upk 1 hb_ rfl rfl rfl), Q_HA, Q_GY⟩
        refine steps_cons ?_ ?_
        · rintro b a w' ⟨ha, Q_HA, Q_GY⟩ hb_ hon hoff
          refine ⟨_, rfl, fun K hK => ?_⟩
          have e38 : a.tmps[38]? = some (.slice (some adV) V.length V.length) := by rw [ha]; exact putSel_on (e := (0, 38, .slice (some adV) V.length V.length)) 0 rfl rfl (hon 0 (by kernel_rfl)) rfl
          have e39 : a.tmps[39]? = some (.int .i64 (k : Int)) := by rw [ha]; exact putSel_on (e := (1, 39, .int .i64 (k : Int))) 1 rfl rfl (hon 1 (by kernel_rfl)) rfl
          replace ha := Aside0.mk ha
          refine value_ (w1 := w') (v := .pointer (some (adV.add (k * 2)))) (by rfl) rfl ?_ ?_
          · go_simp
            try first | rfl | assumption
          refine hK.out _ _ ⟨(by rw [ha.out]; exact putSel_upk 2 hb_ rfl rfl rfl), Q_HA, Q_GY⟩
        refine steps_cons ?_ ?_
        · rintro b a w' ⟨ha, Q_HA, Q_GY⟩ hb_ hon hoff
          refine ⟨_, rfl, fun K hK => ?_⟩
          have e40 : a.tmps[40]? = some (.pointer (some (adV.add (k * 2)))) := by rw [ha]; exact putSel_on (e := (2, 40, .pointer (some (adV.add (k * 2))))) 2 rfl rfl (hon 2 (by kernel_rfl)) rfl
          replace ha := Aside0.mk ha
          refine value_ (w1 := w') (v := .pointer (some (adV.add (k * 2)))) (by rfl) rfl ?_ ?_
          · go_simp
            try first | rfl | assumption
          refine hK.out _ _ ⟨(by rw [ha.out]; exact putSel_upk 3 hb_ rfl rfl rfl), Q_HA, Q_GY⟩
        refine steps_cons ?_ ?_
        · rintro b a w' ⟨ha, Q_HA, Q_GY⟩ hb_ hon hoff
          refine ⟨_, rfl, fun K hK => ?_⟩
          have e41 : a.tmps[41]? = some (.pointer (some (adV.add (k * 2)))) := by rw [ha]; exact putSel_on (e := (3, 41, .pointer (some (adV.add (k * 2))))) 3 rfl rfl (hon 3 (by kernel_rfl)) rfl
          replace ha := Aside0.mk ha
          have HA := Aside0.mk Q_HA
          have hc0 := pw_cell_below HA.out HV1.out
          refine value_ (w1 := w') (v := .int .i64 x.f0) (by rfl) rfl ?_ ?_
          · go_simp
            (try simp only [i64_w])
            try first | rfl | assumption
          refine hK.out _ _ ⟨(by rw [ha.out]; exact putSel_upk 4 hb_ rfl rfl rfl), Q_HA, Q_GY⟩
        refine steps_cons ?_ ?_
        · rintro b a w' ⟨ha, Q_HA, Q_GY⟩ hb_ hon hoff
          refine ⟨_, rfl, fun K hK => ?_⟩
          have e8 : a.tmps[8]? = some (.pointer (some ⟨g_Y, 0, none⟩)) := by rw [ha]; exact (putSel_off rfl).trans rfl
          replace ha := Aside0.mk ha
          refine value_ (w1 := w') (v := .pointer (some ⟨g_Y, 0, none⟩)) (by rfl) rfl ?_ ?_
          · go_simp
            try first | rfl | assumption
          refine hK.out _ _ ⟨(by rw [ha.out]; exact putSel_upk 5 hb_ rfl rfl rfl), Q_HA, Q_GY⟩
        refine steps_cons ?_ ?_
        · rintro b a w' ⟨ha, Q_HA, Q_GY⟩ hb_ hon hoff
          refine ⟨_, rfl, fun K hK => ?_⟩
          have e43 : a.tmps[43]? = some (.pointer (some ⟨g_Y, 0, none⟩)) := by rw [ha]; exact putSel_on (e := (5, 43, .pointer (some ⟨g_Y, 0, none⟩))) 5 rfl rfl (hon 5 (by kernel_rfl)) rfl
          replace ha := Aside0.mk ha
          have GY := Aside0.mk Q_GY
          have hc0 := blk_cell GY.out 0
          refine value_ (w1 := w') (v := .int .i64 x.f0) (by rfl) rfl ?_ ?_
          · go_simp
            (try simp only [i64_w])
            try first | rfl | assumption
          refine hK.out _ _ ⟨(by rw [ha.out]; exact putSel_upk 6 hb_ rfl rfl rfl), Q_HA, Q_GY⟩
        refine steps_cons ?_ ?_
        · rintro b a w' ⟨ha, Q_HA, Q_GY⟩ hb_ hon hoff
          refine ⟨_, rfl, fun K hK => ?_⟩
          have e42 : a.tmps[42]? = some (.int .i64 x.f0) := by rw [ha]; exact putSel_on (e := (4, 42, .int .i64 x.f0)) 4 rfl rfl (hon 4 (by kernel_rfl)) rfl
          have e44 : a.tmps[44]? = some (.int .i64 x.f0) := by rw [ha]; exact putSel_on (e := (6, 44, .int .i64 x.f0)) 6 rfl rfl (hon 6 (by kernel_rfl)) rfl
          replace ha := Aside0.mk ha
          refine value_ (w1 := w') (v := .bool false) (by rfl) rfl ?_ ?_
          · go_simp
            try first | rfl | assumption
          refine hK.out _ _ ⟨(by rw [ha.out]; exact putSel_upk 7 hb_ rfl rfl rfl), Q_HA, Q_GY⟩
        exact steps_nil
      rintro b a wz hall ⟨ha, Q_HA, Q_GY⟩
      clear GY HA
      have hb0_ := hall 0 (by kernel_rfl)
      have hb1_ := hall 1 (by kernel_rfl)
      have hb2_ := hall 2 (by kernel_rfl)
      have hb3_ := hall 3 (by kernel_rfl)
      have hb4_ := hall 4 (by kernel_rfl)
      have hb5_ := hall 5 (by kernel_rfl)
      have hb6_ := hall 6 (by kernel_rfl)
      have hb7_ := hall 7 (by kernel_rfl)
      subst ha
      simp only [putSel, hb0_, hb1_, hb2_, hb3_, hb4_, hb5_, hb6_, hb7_, if_true, Act.put, List.setIfInBounds_toArray, List.set_cons_zero, List.set_cons_succ]
      have HA := Aside0.mk Q_HA
      clear Q_HA
      have GY := Aside0.mk Q_GY
      clear Q_GY
      clear hall hb0_ hb1_ hb2_ hb3_ hb4_ hb5_ hb6_ hb7_
      go_wp2_with fail
      go_roundw
      case rel => exact ⟨k + 1, by omega, by go_num, ⟨HB.out.trans ((HX.out.trans (HA.out.mono HX.out.size)).mono HB.out.size)⟩⟩
      case measure => first | (simp [intOf]; done) | (simp [intOf]; omega)
    · obtain rfl : k = l.length := by omega
      have BW := Aside0.mk (W2.out.trans (HB.out.mono W2.out.size))
      have XW := Aside0.mk (blk_below X2.out HB.out)
      have VW := Aside0.mk (Kd.C_below V2.out HB.out)
      clear hlt hk hd2 hVL hU hSy hHv HB X2 V2 W2
      by_cases hP : boxP a0 a1 a2 a3 aw am = 0
      · rw [hP] at hMy
        obtain ⟨t1, t2⟩ := hT.out (hp9.out hP)
        rw [t1, t2] at hS2
        clear hT hp9 hP t1 t2
        have X_0 := XW
        have CV := VW
        clear XW VW
        have zX0 := blk_cell X_0.out 0; have zX1 := blk_cell X_0.out 1; have zX2 := blk_cell X_0.out 2; have zX3 := blk_cell X_0.out 3; have zX4 := blk_cell X_0.out 4; have zX5 := blk_cell X_0.out 5
        have M0_0 := Aside0.mk (Below.refl wr.heap.size wr)
        go_wp2_with (first
          | (go_at_call 15; refine (hS2.out wr (BW.out.trans (M0_0.out.mono BW.out.size)) AV (Kd.C_below CV.out M0_0.out)).mono ?_; rintro e_ w_1 ⟨A8, A9, c9, rfl, hV8, hc8, hL8, hb⟩; have M0_1 := Aside0.mk (M0_0.out.trans (hb.mono M0_0.out.size)); have X_1 := Aside0.mk (blk_below X_0.out hb); have M1_1 := Aside0.mk (Below.refl w_1.heap.size w_1); have C8 := Aside0.mk hV8; clear hb hV8 M0_0 X_0; have zX0 := blk_cell X_1.out 0; have zX1 := blk_cell X_1.out 1; have zX2 := blk_cell X_1.out 2; have zX3 := blk_cell X_1.out 3; have zX4 := blk_cell X_1.out 4; have zX5 := blk_cell X_1.out 5; skip)
          | (go_at_call 13; refine (hMy.out w_1 (BW.out.trans (M0_1.out.mono BW.out.size))).mono ?_; rintro e_ w_2 ⟨rfl, hb⟩; have M0_2 := Aside0.mk (M0_1.out.trans (hb.mono M0_1.out.size)); have M1_2 := Aside0.mk (M1_1.out.trans (hb.mono M1_1.out.size)); have X_2 := Aside0.mk (blk_below X_1.out hb); clear hb M0_1 M1_1 X_1 zX0 zX1 zX2 zX3 zX4 zX5; have zX0 := blk_cell X_2.out 0; have zX1 := blk_cell X_2.out 1; have zX2 := blk_cell X_2.out 2; have zX3 := blk_cell X_2.out 3; have zX4 := blk_cell X_2.out 4; have zX5 := blk_cell X_2.out 5; skip)
          | (go_at_call 16; refine (hSm.out w_2 A8 AV (Kd.C_below C8.out M1_2.out) (Kd.C_below CV.out M0_2.out)).mono ?_; rintro e_ w_3 ⟨rfl, hb⟩; have M0_3 := Aside0.mk (M0_2.out.trans (hb.mono M0_2.out.size)); have M1_3 := Aside0.mk (M1_2.out.trans (hb.mono M1_2.out.size)); have X_3 := Aside0.mk (blk_below X_2.out hb); clear hb M0_2 M1_2 X_2 zX0 zX1 zX2 zX3 zX4 zX5; have zX0 := blk_cell X_3.out 0; have zX1 := blk_cell X_3.out 1; have zX2 := blk_cell X_3.out 2; have zX3 := blk_cell X_3.out 3; have zX4 := blk_cell X_3.out 4; have zX5 := blk_cell X_3.out 5; skip)
          | (go_at_call 14; refine (hAw.out w_3 (BW.out.trans (M0_3.out.mono BW.out.size))).mono ?_; rintro e_ w_4 ⟨rfl, hb⟩; have M0_4 := Aside0.mk (M0_3.out.trans (hb.mono M0_3.out.size)); have M1_4 := Aside0.mk (M1_3.out.trans (hb.mono M1_3.out.size)); have X_4 := Aside0.mk (blk_below X_3.out hb); clear hb M0_3 M1_3 X_3 zX0 zX1 zX2 zX3 zX4 zX5; have zX0 := blk_cell X_4.out 0; have zX1 := blk_cell X_4.out 1; have zX2 := blk_cell X_4.out 2; have zX3 := blk_cell X_4.out 3; have zX4 := blk_cell X_4.out 4; have zX5 := blk_cell X_4.out 5; skip))
        go_ret
        exact ⟨rfl, BW.out.trans (M0_4.out.mono BW.out.size)⟩
      · have HPN : ((boxP a0 a1 a2 a3 aw am) != 0) = true := bne_iff_ne.mpr hP
        generalize boxP a0 a1 a2 a3 aw am = p at *
        clear hT hp9 hP
        generalize outS false am V = V8 at *
        generalize linesS false aw am V = L8 at *
        have X_0 := XW
        have CV := VW
        clear XW VW
        have zX0 := blk_cell X_0.out 0; have zX1 := blk_cell X_0.out 1; have zX2 := blk_cell X_0.out 2; have zX3 := blk_cell X_0.out 3; have zX4 := blk_cell X_0.out 4; have zX5 := blk_cell X_0.out 5
        have M0_0 := Aside0.mk (Below.refl wr.heap.size wr)
        go_wp2_with (first
          | (go_at_call 15; refine (hS2.out wr (BW.out.trans (M0_0.out.mono BW.out.size)) AV (Kd.C_below CV.out M0_0.out)).mono ?_; rintro e_ w_1 ⟨A8, A9, c9, rfl, hV8, hc8, hL8, hb⟩; have M0_1 := Aside0.mk (M0_0.out.trans (hb.mono M0_0.out.size)); have X_1 := Aside0.mk (blk_below X_0.out hb); clear hb M0_0 X_0; have zX0 := blk_cell X_1.out 0; have zX1 := blk_cell X_1.out 1; have zX2 := blk_cell X_1.out 2; have zX3 := blk_cell X_1.out 3; have zX4 := blk_cell X_1.out 4; have zX5 := blk_cell X_1.out 5; skip)
          | (go_at_call 13; refine (hMy.out w_1 (BW.out.trans (M0_1.out.mono BW.out.size))).mono ?_; rintro e_ w_2 ⟨rfl, hb⟩; have M0_2 := Aside0.mk (M0_1.out.trans (hb.mono M0_1.out.size)); have X_2 := Aside0.mk (blk_below X_1.out hb); clear hb M0_1 X_1 zX0 zX1 zX2 zX3 zX4 zX5; have zX0 := blk_cell X_2.out 0; have zX1 := blk_cell X_2.out 1; have zX2 := blk_cell X_2.out 2; have zX3 := blk_cell X_2.out 3; have zX4 := blk_cell X_2.out 4; have zX5 := blk_cell X_2.out 5; skip)
          | (go_at_call 14; refine (hAw.out w_2 (BW.out.trans (M0_2.out.mono BW.out.size))).mono ?_; rintro e_ w_3 ⟨rfl, hb⟩; have M0_3 := Aside0.mk (M0_2.out.trans (hb.mono M0_2.out.size)); have X_3 := Aside0.mk (blk_below X_2.out hb); clear hb M0_2 X_2 zX0 zX1 zX2 zX3 zX4 zX5; have zX0 := blk_cell X_3.out 0; have zX1 := blk_cell X_3.out 1; have zX2 := blk_cell X_3.out 2; have zX3 := blk_cell X_3.out 3; have zX4 := blk_cell X_3.out 4; have zX5 := blk_cell X_3.out 5; skip))
        go_ret
        exact ⟨rfl, BW.out.trans (M0_3.out.mono BW.out.size)⟩
theorem C_seen {w : World} {A : Option Addr} {n : Nat} {l : List (Int × Int)} (h : Kd.C (Kd.pair (Kd.int .i64) (Kd.int .i64)) w A n l) : Kd.C k37 w A n (l.map (fun x => (⟨x.1, x.2⟩ : S37))) := by
  obtain ⟨h1, h2, h3⟩ := h
  refine ⟨by simpa using h1, h2, fun hp => ?_⟩
  obtain ⟨ad, e, h4⟩ := h3 hp
  refine ⟨ad, e, fun j p hj => ?_⟩
  rw [List.getElem?_map] at hj
  obtain ⟨q, hq, rfl⟩ := Option.map_eq_some_iff.1 hj
  obtain ⟨c, hc, hK, h5⟩ := h4 j q hq
  exact ⟨c, hc, hK, h5⟩
theorem toldStays_open (A : Option Addr) (c : Nat) (l : List (Int × Int)) (x : BoxT) (cs : Array Value) (w : World) (ht : Tab w) (hc : l.length ≤ c) (hC : Kd.C (Kd.pair (Kd.int .i64) (Kd.int .i64)) w A l.length l) (hl : l.length ≤ 140737488355328) (hK : boxD.K w x cs.toList) (hok : okB x) :
    Calls Tryd.prog 4 #[.slice A l.length c, .agg cs] w fun e w' => e = .returned (.bool true) ∧ Below w.heap.size w w' := by
  obtain ⟨A4, c4, A5, c5, rfl, C4, h4, C5, h5⟩ := box_open hK
  have h := toldStays_calls x.1 x.2.1 x.2.2.1 x.2.2.2.1 A4 c4 _ A5 c5 _ A c (l.map (fun x => (⟨x.1, x.2⟩ : S37))) w ht (BoxIn.of hok C4 h4 C5 h5) (by rw [List.length_map]; exact C_seen hC) (by rw [List.length_map]; exact hc) (by rw [List.length_map]; exact hl)
  rw [show (l.map (fun x => (⟨x.1, x.2⟩ : S37))).length = l.length by simp] at h
  exact h
end Go.Proofs.YtplfpbfmnogckaaDoor.TdY
