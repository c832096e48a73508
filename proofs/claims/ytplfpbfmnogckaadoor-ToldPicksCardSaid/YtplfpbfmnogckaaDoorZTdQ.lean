-- Printed by prune.py: the used part of a text.
import Derived.Test.YtplfpbfmnogckaaDoorZTdK
namespace Go.Proofs.YtplfpbfmnogckaaDoor.TdQ
open Go.RowKit Go.Proofs.YtplfpbfmnogckaaDoorW.PrintWords Go.Proofs.YtplfpbfmnogckaaDoorW.PrintLast Go.Proofs.YtplfpbfmnogckaaDoorW.PrintMore Go.Proofs.YtplfpbfmnogckaaDoor.TdG Go.Proofs.YtplfpbfmnogckaaDoor.TdM Go.Proofs.YtplfpbfmnogckaaDoor.TdP Go.Proofs.YtplfpbfmnogckaaDoor.TdD Go.Proofs.YtplfpbfmnogckaaDoor.ItT Go.Proofs.YtplfpbfmnogckaaDoor.ItO Go.Proofs.YtplfpbfmnogckaaDoor.TdF Go.Proofs.YtplfpbfmnogckaaDoor.TdS Go.Proofs.YtplfpbfmnogckaaDoor.TdA Go.Proofs.YtplfpbfmnogckaaDoor.TdW Go.Proofs.YtplfpbfmnogckaaDoor.TdR Go.Proofs.YtplfpbfmnogckaaDoor.TdN Go.Proofs.YtplfpbfmnogckaaDoor.TdK
set_option linter.unusedVariables false
set_option linter.unusedSimpArgs false
theorem info_i8 : (Tryd.prog.info? 3).map (fun i => (i.zero, i.size, i.bytes)) = some (some (.int .i64 0), 1, 8) := by kernel_rfl
def pickL (l : List S37) (hb : Nat → Bool) : Nat → List Int
  | 0 => []
  | k + 1 => pickL l hb k ++ (if hb k = true then [(l.getD k z37).f0] else [])
theorem pickL_at (l : List S37) (hb : Nat → Bool) (k : Nat) (hk : k < l.length) : pickL l hb (k + 1) = pickL l hb k ++ (if hb k = true then [l[k].f0] else []) := by
  rw [pickL, List.getD_eq_getElem?_getD, List.getElem?_eq_getElem hk]
  rfl
theorem pickL_len (l : List S37) (hb : Nat → Bool) : ∀ k, (pickL l hb k).length ≤ k
  | 0 => Nat.le_refl 0
  | k + 1 => by
    have := pickL_len l hb k
    rw [pickL, List.length_append]
    split <;> simp <;> omega
def t_told_Pick.T7 : Bool × List (List Nat × List Nat) := (true, [([], []), ([0], [0]), ([], []), ([2], [2]), ([1, 3, 0, 1], [1]), ([3, 4, 0, 1, 2, 3, 4], [3])])
def t_told_Pick.B7 : List Nat := [0, 1, 0, 4, 15, 31]
theorem t_told_Pick.tab7 : rtab .any (opsOf Tryd.f19 7) = t_told_Pick.T7 := by kernel_rfl
theorem t_told_Pick.bits7 : waitsOk t_told_Pick.T7.2 t_told_Pick.B7 = true := by kernel_rfl
set_option maxRecDepth 100000 in
set_option maxHeartbeats 4000000 in
theorem pick_true (a0 : ByteArray) (a1 a2 a3 : Int) (aA4 : Option Addr) (ac4 : Nat) (aw : List ByteArray) (aA5 : Option Addr) (ac5 : Nat) (am : List S34) (A : Option Addr) (c : Nat) (l : List S37) (AS : Option Addr) (cS : Nat) (f t : Int) (hb : Nat → Bool) (w : World) (hB : BoxIn w a0 aA4 ac4 aw aA5 ac5 am) (hn5 : am.length ≤ 100) (hCl : Kd.C k37 w A l.length l) (hcl : l.length ≤ c) (hl : l.length ≤ 100000) (hS : OneSp w AS f t) (hall : ∀ x ∈ l, hasB am x = true) (hH : ∀ (k : Nat) (hk : k < l.length), HasP f t l[k].f0 (lastU l) (hb k)) :
    Calls Tryd.prog 19 #[.slice A l.length c, .agg #[.string a0, .int .i64 a1, .int .i64 a2, .int .i64 a3, .slice aA4 aw.length ac4, .slice aA5 am.length ac5], .slice AS 1 cS, .bool true] w fun e w' => ∃ A1 n1 c1, e = .returned (.slice A1 n1 c1) ∧ n1 = (pickL l hb l.length).length ∧ n1 ≤ c1 ∧ Kd.C (Kd.int .i64) w' A1 n1 (pickL l hb l.length) ∧ Below w.heap.size w w' := by
  have hu25 := Tryd.underlying25
  have hu37 := Tryd.underlying37
  have HFi := Aside0.mk (fun (x : Int) (W : World) (hW : Below w.heap.size w W) => find_calls a0 a1 a2 a3 (.slice aA4 aw.length ac4) aA5 ac5 am x W (Kd.C_below hB.C5 hW) (by omega))
  have HSp := Aside0.mk (fun W (hW : Below w.heap.size w W) (n most : Int) (r : Bool) (h : HasP f t n most r) => has_calls AS cS f t n most r h W (hS.below hW))
  have HLa := Aside0.mk (fun (W : World) (hW : Below w.heap.size w W) => told_last.calls A c l _ W (Kd.C_below hCl hW) hcl (last_f l (by omega)))
  have HC := Aside0.mk hCl
  have HAl := Aside0.mk hall
  have HHp := Aside0.mk hH
  have HN := Aside0.mk hl
  have hn9 : (l.length : Int) ≤ 100000 := by omega
  clear hB hCl hcl hl hS hall hH hn5
  go_enter Tryd.func19, Tryd.ntmps19
  have M0_0 := Aside0.mk (Below.refl w.heap.size w)
  go_wp2_with ((with_reducible refine gate_dst (N := 5) rfl ?_); refine box_event ?hgX5 (N := 5) ?hdX5 (cs := #[.string a0, .int .i64 a1, .int .i64 a2, .int .i64 a3, .slice aA4 aw.length ac4, .slice aA5 am.length ac5]) (t := 25) ?hrX5 ?_; (case hdX5 => rfl); (case hgX5 => rfl); (case hrX5 => first | (go_simp; done) | (go_simp; rfl)); intro g_X hg_ w_1 hbx_ hb_; have L0_X := Aside0.mk (show w.heap.size ≤ g_X by have := M0_0.out.size; omega); have M0_1 := Aside0.mk (M0_0.out.trans (hb_.mono M0_0.out.size)); have X_1 := Aside0.mk hbx_; clear hg_ hbx_ hb_ M0_0; skip)
  have GX := Aside0.mk X_1.out
  have HX1 := Aside0.mk M0_1.out
  clear M0_1 X_1 L0_X
  go_loopw [9, 16] (fun v i wr => ∃ (k : Nat) (vv : Value), k ≤ l.length ∧ v = vv ∧ i = .int .i64 k ∧ Aside0 (Kd.R (Kd.int .i64) 3 wr w.heap.size (fun _ => True) vv (pickL l hb k)) ∧ Aside0 (wr.heap[g_X]? = some (.cells #[.string a0, .int .i64 a1, .int .i64 a2, .int .i64 a3, .slice aA4 aw.length ac4, .slice aA5 am.length ac5] 25 (0, 0))) ∧ Aside0 (Below w.heap.size w wr)) (fun _ i _ => l.length - (intOf i).toNat)
  case atStart => exact ⟨0, _, Nat.zero_le _, rfl, rfl, ⟨Kd.R_nil _ _ _ _ _⟩, GX, HX1⟩
  case round =>
    clear GX HX1
    obtain ⟨k, vv, hk, rfl, rfl, R9_0, X_0, HX⟩ := hrel
    obtain ⟨A7, n7, c7, rfl⟩ := slc R9_0.out
    by_cases hlt : k < l.length
    · obtain ⟨adL, e1, hx0, hx1⟩ := at_T37 (Kd.C_below HC.out HX.out) (k : Int) (by omega) (by omega)
      cases e1
      rw [rds_seen l hlt] at hx0 hx1
      rw [Int.toNat_natCast] at hx0 hx1
      have hk7 : (k : Int) < (l.length : Int) := by omega
      have hpl := pickL_at l hb k hlt
      have HPl := Aside0.mk (pickL_len l hb k)
      have hHk := HHp.out k hlt
      have hfi : decide (0 ≤ findP l[k].f0 0 am) = true := HAl.out _ (List.getElem_mem hlt)
      have HF2 := Aside0.mk (HFi.out l[k].f0)
      generalize l[k] = x at *
      generalize findP x.f0 0 am = at_ at *
      generalize lastU l = la at *
      have HHs := Aside0.mk (fun W (hW : Below w.heap.size w W) => HSp.out W hW _ _ _ hHk)
      clear hlt hHk
      have HPL := Aside0.mk (show k ≤ 100000 by have := HN.out; omega)
      by_cases hbk : hb k = true
      · rw [if_pos hbk] at hpl
        have HP1 := Aside0.mk hpl.symm
        rw [hbk] at HHs
        clear hbk hpl
        have M0_0 := Aside0.mk (Below.refl wr.heap.size wr)
        go_upto_region 7 with ((with_reducible refine gate_dst (N := 11) rfl ?_); refine box_event ?hgY11 (N := 11) ?hdY11 (cs := #[.int .i64 0, .int .i64 0]) (t := 37) ?hrY11 ?_; (case hdY11 => rfl); (case hgY11 => rfl); (case hrY11 => first | (go_simp; done) | (go_simp; rfl)); intro g_Y hg_ w_1 hbx_ hb_; have L0_Y := Aside0.mk (show wr.heap.size ≤ g_Y by have := M0_0.out.size; omega); have N_X_Y := Aside0.mk (show g_X ≠ g_Y by have := blk_lt X_0.out; omega); have M0_1 := Aside0.mk (M0_0.out.trans (hb_.mono M0_0.out.size)); have X_1 := Aside0.mk (blk_below X_0.out hb_); have R9_1 := Aside0.mk (Kd.R_below R9_0.out hb_); have Y_1 := Aside0.mk hbx_; clear hg_ hbx_ hb_ M0_0 X_0 R9_0; have zX0 := blk_cell X_1.out 0; have zX1 := blk_cell X_1.out 1; have zX2 := blk_cell X_1.out 2; have zX3 := blk_cell X_1.out 3; have zX4 := blk_cell X_1.out 4; have zX5 := blk_cell X_1.out 5; have zY0 := blk_cell Y_1.out 0; have yY0 := blk_frozen Y_1.out 0; have zY1 := blk_cell Y_1.out 1; have yY1 := blk_frozen Y_1.out 1; skip)
        clear zX0 zX1 zX2 zX3 zX4 zX5 zY0 yY0 zY1 yY1
        obtain ⟨w_2, e_2, Be_, Oe_⟩ := sets2 (cs' := #[.int .i64 x.f0, .int .i64 x.f1]) Y_1.out 0 1 (.int .i64 x.f0) (.int .i64 x.f1) rfl
        rw [e_2]
        clear e_2
        have M0_2 := Aside0.mk (Oe_.below M0_1.out L0_Y.out)
        have X_2 := Aside0.mk ((Oe_.keep g_X N_X_Y.out).trans X_1.out)
        have Y_2 := Aside0.mk Be_
        have R9_2 := Aside0.mk (R_only R9_1.out Y_1.out (by decide) Oe_)
        clear Be_ Oe_ M0_1 X_1 Y_1 R9_1
        have zX0 := blk_cell X_2.out 0
        have zX1 := blk_cell X_2.out 1
        have zX2 := blk_cell X_2.out 2
        have zX3 := blk_cell X_2.out 3
        have zX4 := blk_cell X_2.out 4
        have zX5 := blk_cell X_2.out 5
        have zY0 := blk_cell Y_2.out 0
        have yY0 := blk_frozen Y_2.out 0
        have zY1 := blk_cell Y_2.out 1
        have yY1 := blk_frozen Y_2.out 1
        skip
        have GX := Aside0.mk X_2.out
        have GY := Aside0.mk Y_2.out
        have HB := Aside0.mk M0_2.out
        have HA := Aside0.mk (Below.refl w_2.heap.size w_2)
        have RR := Aside0.mk R9_2.out
        clear zX0 zX1 zX2 zX3 zX4 zX5 zY0 zY1 yY0 yY1 hx0 hx1 M0_2 X_2 Y_2 R9_2
        refine start_ (n := 6) (S := fun w' => True) (ds := []) #[false, false, false, false, false, false] (by kernel_rfl) rfl rfl trivial (fun hHeld => ?_)
        refine with_tabW t_told_Pick.tab7 t_told_Pick.bits7 (fun HT_ HW_ => ?_)
        have hd_ := (below_drew1 (Below.refl w_2.heap.size w_2))
        have n_HA := Aside0.mk (HA.out.drew)
        have n_GY := Aside0.mk ((show w_2.drew.heap[g_Y]? = _ from GY.out))
        clear HA
        have HA := n_HA
        clear n_HA
        clear GY
        have GY := n_GY
        clear n_GY
        generalize w_2.drew = w_d at *
        clear hd_
        refine inv_at [0, 1, 2, 3, 4, 5] (fun a0_ b a w' => a = putSel a0_ b [(0, 26, .pointer (some ⟨g_Y, 0, none⟩)), (1, 27, .int .i64 x.f0), (2, 28, .slice (some adL) l.length c), (3, 29, .int .i64 la), (4, 12, .int .i64 x.f0), (5, 13, .int .i64 la)] ∧ (Below w_2.heap.size w_2 w') ∧ (w'.heap[g_Y]? = some (.cells #[.int .i64 x.f0, .int .i64 x.f1] 37 (0, 0)))) HT_.out HW_.out (by kernel_rfl) (by kernel_rfl) ?_ ?_ ?_
        · exact ⟨by simp only [putSel, Bool.false_eq_true, if_false], HA.out, GY.out⟩
        · skip
          clear GY HA
          refine steps_cons ?_ ?_
          · rintro b a w' ⟨ha, Q_HA, Q_GY⟩ hb_ hon hoff
            refine ⟨_, rfl, fun K hK => ?_⟩
            have e11 : a.tmps[11]? = some (.pointer (some ⟨g_Y, 0, none⟩)) := by rw [ha]; exact (putSel_off rfl).trans rfl
            replace ha := Aside0.mk ha
            refine value_ (w1 := w') (v := .pointer (some ⟨g_Y, 0, none⟩)) (by rfl) rfl ?_ ?_
            · go_simp
              try first | rfl | assumption
            refine hK.out _ _ ⟨(by rw [ha.out]; exact putSel_upk 0 hb_ rfl rfl rfl), Q_HA, Q_GY⟩
          refine steps_cons ?_ ?_
          · rintro b a w' ⟨ha, Q_HA, Q_GY⟩ hb_ hon hoff
            refine ⟨_, rfl, fun K hK => ?_⟩
            have e26 : a.tmps[26]? = some (.pointer (some ⟨g_Y, 0, none⟩)) := by rw [ha]; exact putSel_on (e := (0, 26, .pointer (some ⟨g_Y, 0, none⟩))) 0 rfl rfl (hon 0 (by kernel_rfl)) rfl
            replace ha := Aside0.mk ha
            have GY := Aside0.mk Q_GY
            have hc0 := blk_cell GY.out 0
            refine value_ (w1 := w') (v := .int .i64 x.f0) (by rfl) rfl ?_ ?_
            · go_simp
              (try simp only [i64_w])
              try first | rfl | assumption
            refine hK.out _ _ ⟨(by rw [ha.out]; exact putSel_upk 1 hb_ rfl rfl rfl), Q_HA, Q_GY⟩
          refine steps_cons ?_ ?_
          · rintro b a w' ⟨ha, Q_HA, Q_GY⟩ hb_ hon hoff
            refine ⟨_, rfl, fun K hK => ?_⟩
            have e0 : a.tmps[0]? = some (.slice (some adL) l.length c) := by rw [ha]; exact (putSel_off rfl).trans rfl
            replace ha := Aside0.mk ha
            refine value_ (w1 := w') (v := .slice (some adL) l.length c) (by rfl) rfl ?_ ?_
            · go_simp
              try first | rfl | assumption
            refine hK.out _ _ ⟨(by rw [ha.out]; exact putSel_upk 2 hb_ rfl rfl rfl), Q_HA, Q_GY⟩
          refine steps_cons ?_ ?_
          · rintro b a w' ⟨ha, Q_HA, Q_GY⟩ hb_ hon hoff
            refine ⟨_, rfl, fun K hK => ?_⟩
            have e28 : a.tmps[28]? = some (.slice (some adL) l.length c) := by rw [ha]; exact putSel_on (e := (2, 28, .slice (some adL) l.length c)) 2 rfl rfl (hon 2 (by kernel_rfl)) rfl
            replace ha := Aside0.mk ha
            have HA := Aside0.mk Q_HA
            have GY := Aside0.mk Q_GY
            refine goes_ Tryd.func31 (by kernel_rfl) rfl #[.slice (some adL) l.length c] (by rfl) rfl rfl (by first | (simp only [List.map_toArray, List.map_cons, List.map_nil, Act.eval, Array.getD_eq_getD_getElem?, Option.getD_some, e28]; done) | (simp only [List.map_toArray, List.map_cons, List.map_nil, Act.eval, Array.getD_eq_getD_getElem?, Option.getD_some, e28]; rfl)) ?_
            with_reducible refine (HLa.out w' (HX.out.trans ((HB.out.trans (HA.out.mono HB.out.size)).mono HX.out.size))).mono ?_
            rintro e wq ⟨rfl, hd9⟩
            refine ⟨_, rfl, ?_⟩
            refine hK.out _ _ ⟨(by rw [ha.out]; exact putSel_upk 3 hb_ rfl rfl rfl), HA.out.trans (hd9.below.mono HA.out.size), blk_below GY.out hd9.below⟩
          refine steps_cons ?_ ?_
          · rintro b a w' ⟨ha, Q_HA, Q_GY⟩ hb_ hon hoff
            refine ⟨_, rfl, fun K hK => ?_⟩
            have e27 : a.tmps[27]? = some (.int .i64 x.f0) := by rw [ha]; exact putSel_on (e := (1, 27, .int .i64 x.f0)) 1 rfl rfl (hon 1 (by kernel_rfl)) rfl
            replace ha := Aside0.mk ha
            refine value_ (w1 := w') (v := .int .i64 x.f0) (by rfl) rfl ?_ ?_
            · go_simp
              (try simp only [i64_w])
              try first | rfl | assumption
            refine hK.out _ _ ⟨(by rw [ha.out]; exact putSel_upk 4 hb_ rfl rfl rfl), Q_HA, Q_GY⟩
          refine steps_cons ?_ ?_
          · rintro b a w' ⟨ha, Q_HA, Q_GY⟩ hb_ hon hoff
            refine ⟨_, rfl, fun K hK => ?_⟩
            have e29 : a.tmps[29]? = some (.int .i64 la) := by rw [ha]; exact putSel_on (e := (3, 29, .int .i64 la)) 3 rfl rfl (hon 3 (by kernel_rfl)) rfl
            replace ha := Aside0.mk ha
            refine value_ (w1 := w') (v := .int .i64 la) (by rfl) rfl ?_ ?_
            · go_simp
              (try simp only [i64_w])
              try first | rfl | assumption
            refine hK.out _ _ ⟨(by rw [ha.out]; exact putSel_upk 5 hb_ rfl rfl rfl), Q_HA, Q_GY⟩
          exact steps_nil
        rintro b a wz hall ⟨ha, Q_HA, Q_GY⟩
        clear GY HA
        have hb0_ := hall 0 (by kernel_rfl)
        have hb1_ := hall 1 (by kernel_rfl)
        have hb2_ := hall 2 (by kernel_rfl)
        have hb3_ := hall 3 (by kernel_rfl)
        have hb4_ := hall 4 (by kernel_rfl)
        have hb5_ := hall 5 (by kernel_rfl)
        subst ha
        simp only [putSel, hb0_, hb1_, hb2_, hb3_, hb4_, hb5_, if_true, Act.put, List.setIfInBounds_toArray, List.set_cons_zero, List.set_cons_succ]
        have HA := Aside0.mk Q_HA
        clear Q_HA
        have GY := Aside0.mk Q_GY
        clear Q_GY
        clear hall hb0_ hb1_ hb2_ hb3_ hb4_ hb5_
        have R9_3 := Aside0.mk (Kd.R_below RR.out HA.out)
        have GX3 := Aside0.mk (blk_below GX.out HA.out)
        have HAM := Aside0.mk (HB.out.trans (HA.out.mono HB.out.size))
        clear RR GX HB HA
        have M0_3 := HAM
        have X_3 := GX3
        have Y_3 := GY
        clear HAM GX3 GY
        have zX0 := blk_cell X_3.out 0
        have zX1 := blk_cell X_3.out 1
        have zX2 := blk_cell X_3.out 2
        have zX3 := blk_cell X_3.out 3
        have zX4 := blk_cell X_3.out 4
        have zX5 := blk_cell X_3.out 5
        have zY0 := blk_cell Y_3.out 0
        have yY0 := blk_frozen Y_3.out 0
        have zY1 := blk_cell Y_3.out 1
        have yY1 := blk_frozen Y_3.out 1
        go_wp2_with (first
          | (go_at_call 35; refine (HHs.out wz (HX.out.trans (M0_3.out.mono HX.out.size))).mono ?_; rintro e_ w_4 ⟨rfl, hb⟩; have M0_4 := Aside0.mk (M0_3.out.trans (hb.mono M0_3.out.size)); have X_4 := Aside0.mk (blk_below X_3.out hb); have Y_4 := Aside0.mk (blk_below Y_3.out hb); have R9_4 := Aside0.mk (Kd.R_below R9_3.out hb); clear hb M0_3 X_3 Y_3 R9_3 zX0 zX1 zX2 zX3 zX4 zX5 zY0 yY0 zY1 yY1; have zX0 := blk_cell X_4.out 0; have zX1 := blk_cell X_4.out 1; have zX2 := blk_cell X_4.out 2; have zX3 := blk_cell X_4.out 3; have zX4 := blk_cell X_4.out 4; have zX5 := blk_cell X_4.out 5; have zY0 := blk_cell Y_4.out 0; have yY0 := blk_frozen Y_4.out 0; have zY1 := blk_cell Y_4.out 1; have yY1 := blk_frozen Y_4.out 1; skip)
          | (go_at_call 33; refine (HF2.out w_4 (HX.out.trans (M0_4.out.mono HX.out.size))).mono ?_; rintro e_ w_5 ⟨rfl, hb⟩; have M0_5 := Aside0.mk (M0_4.out.trans (hb.mono M0_4.out.size)); have X_5 := Aside0.mk (blk_below X_4.out hb); have Y_5 := Aside0.mk (blk_below Y_4.out hb); have R9_5 := Aside0.mk (Kd.R_below R9_4.out hb); clear hb M0_4 X_4 Y_4 R9_4 zX0 zX1 zX2 zX3 zX4 zX5 zY0 yY0 zY1 yY1; have zX0 := blk_cell X_5.out 0; have zX1 := blk_cell X_5.out 1; have zX2 := blk_cell X_5.out 2; have zX3 := blk_cell X_5.out 3; have zX4 := blk_cell X_5.out 4; have zX5 := blk_cell X_5.out 5; have zY0 := blk_cell Y_5.out 0; have yY0 := blk_frozen Y_5.out 0; have zY1 := blk_cell Y_5.out 1; have yY1 := blk_frozen Y_5.out 1; skip)
          | ((with_reducible refine gate_builtin (b := .append) (xs := #[.tmp 41, .tmp 44]) rfl ?_); at_builtin; refine Kd.R_append (Kd.int .i64) (w0 := w_5) w.heap.size rfl (.tmp 41) (.tmp 44) 26 3 (.int .i64 0) 8 rfl Tryd.underlying26 info_i8 rfl (by decide) (by omega) (.slice A7 n7 c7) (pickL l hb k) x.f0 [.int .i64 x.f0] (fun _ => True) (fun _ => False) rfl rfl ?aP (fun _ hk => hk.elim) ?aF ?aO ?aB ?aS ?aL ?_; (case aP => exact rfl); (case aF => exact (fun _ _ => trivial)); (case aO => exact R9_5.out); (case aB => exact Below.refl _ _); (case aS => exact (HX.out.trans (M0_5.out.mono HX.out.size)).size); (case aL => have := HPl.out; omega); intro v8 w99 ho hb8 hg hat; rw [HP1.out] at ho; have RN := Aside0.mk ho; have XN := Aside0.mk (blk_grown X_5.out hg (row_ne R9_5.out X_5.out (by decide))); have BN := Aside0.mk ((HX.out.trans (M0_5.out.mono HX.out.size)).trans hb8); clear ho hg hat hb8; skip))
        go_roundw
        case rel => exact ⟨k + 1, _, by omega, rfl, by go_num, RN, XN, BN⟩
        case measure => first | (simp [intOf]; done) | (simp [intOf]; omega)
      · have hbf : hb k = false := by simpa using hbk
        rw [if_neg hbk, List.append_nil] at hpl
        have HP1 := Aside0.mk hpl.symm
        rw [hbf] at HHs
        clear hbk hbf hpl hfi
        have M0_0 := Aside0.mk (Below.refl wr.heap.size wr)
        go_upto_region 7 with ((with_reducible refine gate_dst (N := 11) rfl ?_); refine box_event ?hgY11 (N := 11) ?hdY11 (cs := #[.int .i64 0, .int .i64 0]) (t := 37) ?hrY11 ?_; (case hdY11 => rfl); (case hgY11 => rfl); (case hrY11 => first | (go_simp; done) | (go_simp; rfl)); intro g_Y hg_ w_1 hbx_ hb_; have L0_Y := Aside0.mk (show wr.heap.size ≤ g_Y by have := M0_0.out.size; omega); have N_X_Y := Aside0.mk (show g_X ≠ g_Y by have := blk_lt X_0.out; omega); have M0_1 := Aside0.mk (M0_0.out.trans (hb_.mono M0_0.out.size)); have X_1 := Aside0.mk (blk_below X_0.out hb_); have R9_1 := Aside0.mk (Kd.R_below R9_0.out hb_); have Y_1 := Aside0.mk hbx_; clear hg_ hbx_ hb_ M0_0 X_0 R9_0; have zX0 := blk_cell X_1.out 0; have zX1 := blk_cell X_1.out 1; have zX2 := blk_cell X_1.out 2; have zX3 := blk_cell X_1.out 3; have zX4 := blk_cell X_1.out 4; have zX5 := blk_cell X_1.out 5; have zY0 := blk_cell Y_1.out 0; have yY0 := blk_frozen Y_1.out 0; have zY1 := blk_cell Y_1.out 1; have yY1 := blk_frozen Y_1.out 1; skip)
        clear zX0 zX1 zX2 zX3 zX4 zX5 zY0 yY0 zY1 yY1
        obtain ⟨w_2, e_2, Be_, Oe_⟩ := sets2 (cs' := #[.int .i64 x.f0, .int .i64 x.f1]) Y_1.out 0 1 (.int .i64 x.f0) (.int .i64 x.f1) rfl
        rw [e_2]
        clear e_2
        have M0_2 := Aside0.mk (Oe_.below M0_1.out L0_Y.out)
        have X_2 := Aside0.mk ((Oe_.keep g_X N_X_Y.out).trans X_1.out)
        have Y_2 := Aside0.mk Be_
        have R9_2 := Aside0.mk (R_only R9_1.out Y_1.out (by decide) Oe_)
        clear Be_ Oe_ M0_1 X_1 Y_1 R9_1
        have zX0 := blk_cell X_2.out 0
        have zX1 := blk_cell X_2.out 1
        have zX2 := blk_cell X_2.out 2
        have zX3 := blk_cell X_2.out 3
        have zX4 := blk_cell X_2.out 4
        have zX5 := blk_cell X_2.out 5
        have zY0 := blk_cell Y_2.out 0
        have yY0 := blk_frozen Y_2.out 0
        have zY1 := blk_cell Y_2.out 1
        have yY1 := blk_frozen Y_2.out 1
        skip
        have GX := Aside0.mk X_2.out
        have GY := Aside0.mk Y_2.out
        have HB := Aside0.mk M0_2.out
        have HA := Aside0.mk (Below.refl w_2.heap.size w_2)
        have RR := Aside0.mk R9_2.out
        clear zX0 zX1 zX2 zX3 zX4 zX5 zY0 zY1 yY0 yY1 hx0 hx1 M0_2 X_2 Y_2 R9_2
        refine start_ (n := 6) (S := fun w' => True) (ds := []) #[false, false, false, false, false, false] (by kernel_rfl) rfl rfl trivial (fun hHeld => ?_)
        refine with_tabW t_told_Pick.tab7 t_told_Pick.bits7 (fun HT_ HW_ => ?_)
        have hd_ := (below_drew1 (Below.refl w_2.heap.size w_2))
        have n_HA := Aside0.mk (HA.out.drew)
        have n_GY := Aside0.mk ((show w_2.drew.heap[g_Y]? = _ from GY.out))
        clear HA
        have HA := n_HA
        clear n_HA
        clear GY
        have GY := n_GY
        clear n_GY
        generalize w_2.drew = w_d at *
        clear hd_
        refine inv_at [0, 1, 2, 3, 4, 5] (fun a0_ b a w' => a = putSel a0_ b [(0, 26, .pointer (some ⟨g_Y, 0, none⟩)), (1, 27, .int .i64 x.f0), (2, 28, .slice (some adL) l.length c), (3, 29, .int .i64 la), (4, 12, .int .i64 x.f0), (5, 13, .int .i64 la)] ∧ (Below w_2.heap.size w_2 w') ∧ (w'.heap[g_Y]? = some (.cells #[.int .i64 x.f0, .int .i64 x.f1] 37 (0, 0)))) HT_.out HW_.out (by kernel_rfl) (by kernel_rfl) ?_ ?_ ?_
        · exact ⟨by simp only [putSel, Bool.false_eq_true, if_false], HA.out, GY.out⟩
        · skip
          clear GY HA
          refine steps_cons ?_ ?_
          · rintro b a w' ⟨ha, Q_HA, Q_GY⟩ hb_ hon hoff
            refine ⟨_, rfl, fun K hK => ?_⟩
            have e11 : a.tmps[11]? = some (.pointer (some ⟨g_Y, 0, none⟩)) := by rw [ha]; exact (putSel_off rfl).trans rfl
            replace ha := Aside0.mk ha
            refine value_ (w1 := w') (v := .pointer (some ⟨g_Y, 0, none⟩)) (by rfl) rfl ?_ ?_
            · go_simp
              try first | rfl | assumption
            refine hK.out _ _ ⟨(by rw [ha.out]; exact putSel_upk 0 hb_ rfl rfl rfl), Q_HA, Q_GY⟩
          refine steps_cons ?_ ?_
          · rintro b a w' ⟨ha, Q_HA, Q_GY⟩ hb_ hon hoff
            refine ⟨_, rfl, fun K hK => ?_⟩
            have e26 : a.tmps[26]? = some (.pointer (some ⟨g_Y, 0, none⟩)) := by rw [ha]; exact putSel_on (e := (0, 26, .pointer (some ⟨g_Y, 0, none⟩))) 0 rfl rfl (hon 0 (by kernel_rfl)) rfl
            replace ha := Aside0.mk ha
            have GY := Aside0.mk Q_GY
            have hc0 := blk_cell GY.out 0
            refine value_ (w1 := w') (v := .int .i64 x.f0) (by rfl) rfl ?_ ?_
            · go_simp
              (try simp only [i64_w])
              try first | rfl | assumption
            refine hK.out _ _ ⟨(by rw [ha.out]; exact putSel_upk 1 hb_ rfl rfl rfl), Q_HA, Q_GY⟩
          refine steps_cons ?_ ?_
          · rintro b a w' ⟨ha, Q_HA, Q_GY⟩ hb_ hon hoff
            refine ⟨_, rfl, fun K hK => ?_⟩
            have e0 : a.tmps[0]? = some (.slice (some adL) l.length c) := by rw [ha]; exact (putSel_off rfl).trans rfl
            replace ha := Aside0.mk ha
            refine value_ (w1 := w') (v := .slice (some adL) l.length c) (by rfl) rfl ?_ ?_
            · go_simp
              try first | rfl | assumption
            refine hK.out _ _ ⟨(by rw [ha.out]; exact putSel_upk 2 hb_ rfl rfl rfl), Q_HA, Q_GY⟩
          refine steps_cons ?_ ?_
          · rintro b a w' ⟨ha, Q_HA, Q_GY⟩ hb_ hon hoff
            refine ⟨_, rfl, fun K hK => ?_⟩
            have e28 : a.tmps[28]? = some (.slice (some adL) l.length c) := by rw [ha]; exact putSel_on (e := (2, 28, .slice (some adL) l.length c)) 2 rfl rfl (hon 2 (by kernel_rfl)) rfl
            replace ha := Aside0.mk ha
            have HA := Aside0.mk Q_HA
            have GY := Aside0.mk Q_GY
            refine goes_ Tryd.func31 (by kernel_rfl) rfl #[.slice (some adL) l.length c] (by rfl) rfl rfl (by first | (simp only [List.map_toArray, List.map_cons, List.map_nil, Act.eval, Array.getD_eq_getD_getElem?, Option.getD_some, e28]; done) | (simp only [List.map_toArray, List.map_cons, List.map_nil, Act.eval, Array.getD_eq_getD_getElem?, Option.getD_some, e28]; rfl)) ?_
            with_reducible refine (HLa.out w' (HX.out.trans ((HB.out.trans (HA.out.mono HB.out.size)).mono HX.out.size))).mono ?_
            rintro e wq ⟨rfl, hd9⟩
            refine ⟨_, rfl, ?_⟩
            refine hK.out _ _ ⟨(by rw [ha.out]; exact putSel_upk 3 hb_ rfl rfl rfl), HA.out.trans (hd9.below.mono HA.out.size), blk_below GY.out hd9.below⟩
          refine steps_cons ?_ ?_
          · rintro b a w' ⟨ha, Q_HA, Q_GY⟩ hb_ hon hoff
            refine ⟨_, rfl, fun K hK => ?_⟩
            have e27 : a.tmps[27]? = some (.int .i64 x.f0) := by rw [ha]; exact putSel_on (e := (1, 27, .int .i64 x.f0)) 1 rfl rfl (hon 1 (by kernel_rfl)) rfl
            replace ha := Aside0.mk ha
            refine value_ (w1 := w') (v := .int .i64 x.f0) (by rfl) rfl ?_ ?_
            · go_simp
              (try simp only [i64_w])
              try first | rfl | assumption
            refine hK.out _ _ ⟨(by rw [ha.out]; exact putSel_upk 4 hb_ rfl rfl rfl), Q_HA, Q_GY⟩
          refine steps_cons ?_ ?_
          · rintro b a w' ⟨ha, Q_HA, Q_GY⟩ hb_ hon hoff
            refine ⟨_, rfl, fun K hK => ?_⟩
            have e29 : a.tmps[29]? = some (.int .i64 la) := by rw [ha]; exact putSel_on (e := (3, 29, .int .i64 la)) 3 rfl rfl (hon 3 (by kernel_rfl)) rfl
            replace ha := Aside0.mk ha
            refine value_ (w1 := w') (v := .int .i64 la) (by rfl) rfl ?_ ?_
            · go_simp
              (try simp only [i64_w])
              try first | rfl | assumption
            refine hK.out _ _ ⟨(by rw [ha.out]; exact putSel_upk 5 hb_ rfl rfl rfl), Q_HA, Q_GY⟩
          exact steps_nil
        rintro b a wz hall ⟨ha, Q_HA, Q_GY⟩
        clear GY HA
        have hb0_ := hall 0 (by kernel_rfl)
        have hb1_ := hall 1 (by kernel_rfl)
        have hb2_ := hall 2 (by kernel_rfl)
        have hb3_ := hall 3 (by kernel_rfl)
        have hb4_ := hall 4 (by kernel_rfl)
        have hb5_ := hall 5 (by kernel_rfl)
        subst ha
        simp only [putSel, hb0_, hb1_, hb2_, hb3_, hb4_, hb5_, if_true, Act.put, List.setIfInBounds_toArray, List.set_cons_zero, List.set_cons_succ]
        have HA := Aside0.mk Q_HA
        clear Q_HA
        have GY := Aside0.mk Q_GY
        clear Q_GY
        clear hall hb0_ hb1_ hb2_ hb3_ hb4_ hb5_
        have R9_3 := Aside0.mk (Kd.R_below RR.out HA.out)
        have GX3 := Aside0.mk (blk_below GX.out HA.out)
        have HAM := Aside0.mk (HB.out.trans (HA.out.mono HB.out.size))
        clear RR GX HB HA
        have M0_3 := HAM
        have X_3 := GX3
        have Y_3 := GY
        clear HAM GX3 GY
        have zX0 := blk_cell X_3.out 0
        have zX1 := blk_cell X_3.out 1
        have zX2 := blk_cell X_3.out 2
        have zX3 := blk_cell X_3.out 3
        have zX4 := blk_cell X_3.out 4
        have zX5 := blk_cell X_3.out 5
        have zY0 := blk_cell Y_3.out 0
        have yY0 := blk_frozen Y_3.out 0
        have zY1 := blk_cell Y_3.out 1
        have yY1 := blk_frozen Y_3.out 1
        go_wp2_with (go_at_call 35; refine (HHs.out wz (HX.out.trans (M0_3.out.mono HX.out.size))).mono ?_; rintro e_ w_4 ⟨rfl, hb⟩; have M0_4 := Aside0.mk (M0_3.out.trans (hb.mono M0_3.out.size)); have X_4 := Aside0.mk (blk_below X_3.out hb); have Y_4 := Aside0.mk (blk_below Y_3.out hb); have R9_4 := Aside0.mk (Kd.R_below R9_3.out hb); clear hb M0_3 X_3 Y_3 R9_3 zX0 zX1 zX2 zX3 zX4 zX5 zY0 yY0 zY1 yY1; have zX0 := blk_cell X_4.out 0; have zX1 := blk_cell X_4.out 1; have zX2 := blk_cell X_4.out 2; have zX3 := blk_cell X_4.out 3; have zX4 := blk_cell X_4.out 4; have zX5 := blk_cell X_4.out 5; have zY0 := blk_cell Y_4.out 0; have yY0 := blk_frozen Y_4.out 0; have zY1 := blk_cell Y_4.out 1; have yY1 := blk_frozen Y_4.out 1; skip)
        have RZ := Aside0.mk R9_4.out
        rw [HP1.out] at RZ
        have XZ := Aside0.mk X_4.out
        have BZ := Aside0.mk (HX.out.trans (M0_4.out.mono HX.out.size))
        go_roundw
        case rel => exact ⟨k + 1, _, by omega, rfl, by go_num, RZ, XZ, BZ⟩
        case measure => first | (simp [intOf]; done) | (simp [intOf]; omega)
    · obtain rfl : k = l.length := by omega
      clear hlt hk
      obtain ⟨u1, u2, u3⟩ := Kd.R_reads' R9_0.out
      have HU : Aside0 (n7 = (pickL l hb l.length).length ∧ n7 ≤ c7 ∧ Kd.C (Kd.int .i64) wr A7 n7 (pickL l hb l.length)) := ⟨u1, u2, by rw [u1]; exact u3⟩
      clear u1 u2 u3
      go_wp2_with fail
      go_ret
      exact ⟨_, _, _, rfl, HU.out.1, HU.out.2.1, HU.out.2.2, HX.out⟩
set_option maxRecDepth 100000 in
set_option maxHeartbeats 4000000 in
theorem pick_false (a0 : ByteArray) (a1 a2 a3 : Int) (aA4 : Option Addr) (ac4 : Nat) (aw : List ByteArray) (aA5 : Option Addr) (ac5 : Nat) (am : List S34) (A : Option Addr) (c : Nat) (l : List S37) (AS : Option Addr) (cS : Nat) (f t : Int) (hb : Nat → Bool) (w : World) (hB : BoxIn w a0 aA4 ac4 aw aA5 ac5 am) (hn5 : am.length ≤ 100) (hCl : Kd.C k37 w A l.length l) (hcl : l.length ≤ c) (hl : l.length ≤ 100000) (hS : OneSp w AS f t) (hall : ∀ x ∈ l, hasB am x = true) (hH : ∀ (k : Nat) (hk : k < l.length), HasP f t ((k : Int) + 1) (l.length : Int) (hb k)) :
    Calls Tryd.prog 19 #[.slice A l.length c, .agg #[.string a0, .int .i64 a1, .int .i64 a2, .int .i64 a3, .slice aA4 aw.length ac4, .slice aA5 am.length ac5], .slice AS 1 cS, .bool false] w fun e w' => ∃ A1 n1 c1, e = .returned (.slice A1 n1 c1) ∧ n1 = (pickL l hb l.length).length ∧ n1 ≤ c1 ∧ Kd.C (Kd.int .i64) w' A1 n1 (pickL l hb l.length) ∧ Below w.heap.size w w' := by
  have hu25 := Tryd.underlying25
  have hu37 := Tryd.underlying37
  have HFi := Aside0.mk (fun (x : Int) (W : World) (hW : Below w.heap.size w W) => find_calls a0 a1 a2 a3 (.slice aA4 aw.length ac4) aA5 ac5 am x W (Kd.C_below hB.C5 hW) (by omega))
  have HSp := Aside0.mk (fun W (hW : Below w.heap.size w W) (n most : Int) (r : Bool) (h : HasP f t n most r) => has_calls AS cS f t n most r h W (hS.below hW))
  have HLa := Aside0.mk (fun (W : World) (hW : Below w.heap.size w W) => told_last.calls A c l _ W (Kd.C_below hCl hW) hcl (last_f l (by omega)))
  have HC := Aside0.mk hCl
  have HAl := Aside0.mk hall
  have HHp := Aside0.mk hH
  have HN := Aside0.mk hl
  have hn9 : (l.length : Int) ≤ 100000 := by omega
  clear hB hCl hcl hl hS hall hH hn5
  go_enter Tryd.func19, Tryd.ntmps19
  have M0_0 := Aside0.mk (Below.refl w.heap.size w)
  go_wp2_with ((with_reducible refine gate_dst (N := 5) rfl ?_); refine box_event ?hgX5 (N := 5) ?hdX5 (cs := #[.string a0, .int .i64 a1, .int .i64 a2, .int .i64 a3, .slice aA4 aw.length ac4, .slice aA5 am.length ac5]) (t := 25) ?hrX5 ?_; (case hdX5 => rfl); (case hgX5 => rfl); (case hrX5 => first | (go_simp; done) | (go_simp; rfl)); intro g_X hg_ w_1 hbx_ hb_; have L0_X := Aside0.mk (show w.heap.size ≤ g_X by have := M0_0.out.size; omega); have M0_1 := Aside0.mk (M0_0.out.trans (hb_.mono M0_0.out.size)); have X_1 := Aside0.mk hbx_; clear hg_ hbx_ hb_ M0_0; skip)
  have GX := Aside0.mk X_1.out
  have HX1 := Aside0.mk M0_1.out
  clear M0_1 X_1 L0_X
  go_loopw [9, 16] (fun v i wr => ∃ (k : Nat) (vv : Value), k ≤ l.length ∧ v = vv ∧ i = .int .i64 k ∧ Aside0 (Kd.R (Kd.int .i64) 3 wr w.heap.size (fun _ => True) vv (pickL l hb k)) ∧ Aside0 (wr.heap[g_X]? = some (.cells #[.string a0, .int .i64 a1, .int .i64 a2, .int .i64 a3, .slice aA4 aw.length ac4, .slice aA5 am.length ac5] 25 (0, 0))) ∧ Aside0 (Below w.heap.size w wr)) (fun _ i _ => l.length - (intOf i).toNat)
  case atStart => exact ⟨0, _, Nat.zero_le _, rfl, rfl, ⟨Kd.R_nil _ _ _ _ _⟩, GX, HX1⟩
  case round =>
    clear GX HX1
    obtain ⟨k, vv, hk, rfl, rfl, R9_0, X_0, HX⟩ := hrel
    obtain ⟨A7, n7, c7, rfl⟩ := slc R9_0.out
    by_cases hlt : k < l.length
    · obtain ⟨adL, e1, hx0, hx1⟩ := at_T37 (Kd.C_below HC.out HX.out) (k : Int) (by omega) (by omega)
      cases e1
      rw [rds_seen l hlt] at hx0 hx1
      rw [Int.toNat_natCast] at hx0 hx1
      have hk7 : (k : Int) < (l.length : Int) := by omega
      have hpl := pickL_at l hb k hlt
      have HPl := Aside0.mk (pickL_len l hb k)
      have hHk := HHp.out k hlt
      have hfi : decide (0 ≤ findP l[k].f0 0 am) = true := HAl.out _ (List.getElem_mem hlt)
      have HF2 := Aside0.mk (HFi.out l[k].f0)
      generalize l[k] = x at *
      generalize findP x.f0 0 am = at_ at *
      generalize lastU l = la at *
      have HHs := Aside0.mk (fun W (hW : Below w.heap.size w W) => HSp.out W hW _ _ _ hHk)
      clear hlt hHk
      have HPL := Aside0.mk (show k ≤ 100000 by have := HN.out; omega)
      by_cases hbk : hb k = true
      · rw [if_pos hbk] at hpl
        have HP1 := Aside0.mk hpl.symm
        rw [hbk] at HHs
        clear hbk hpl
        have M0_0 := Aside0.mk (Below.refl wr.heap.size wr)
        have tok1 := Aside0.mk True.intro
        go_wp2_with (first
          | ((with_reducible refine gate_dst (N := 11) rfl ?_); refine box_event ?hgY11 (N := 11) ?hdY11 (cs := #[.int .i64 0, .int .i64 0]) (t := 37) ?hrY11 ?_; (case hdY11 => rfl); (case hgY11 => rfl); (case hrY11 => first | (go_simp; done) | (go_simp; rfl)); intro g_Y hg_ w_1 hbx_ hb_; have L0_Y := Aside0.mk (show wr.heap.size ≤ g_Y by have := M0_0.out.size; omega); have N_X_Y := Aside0.mk (show g_X ≠ g_Y by have := blk_lt X_0.out; omega); have M0_1 := Aside0.mk (M0_0.out.trans (hb_.mono M0_0.out.size)); have X_1 := Aside0.mk (blk_below X_0.out hb_); have R9_1 := Aside0.mk (Kd.R_below R9_0.out hb_); have Y_1 := Aside0.mk hbx_; clear hg_ hbx_ hb_ M0_0 X_0 R9_0; have zX0 := blk_cell X_1.out 0; have zX1 := blk_cell X_1.out 1; have zX2 := blk_cell X_1.out 2; have zX3 := blk_cell X_1.out 3; have zX4 := blk_cell X_1.out 4; have zX5 := blk_cell X_1.out 5; have zY0 := blk_cell Y_1.out 0; have yY0 := blk_frozen Y_1.out 0; have zY1 := blk_cell Y_1.out 1; have yY1 := blk_frozen Y_1.out 1; skip)
          | ((with_reducible refine gate_dst (N := 33) rfl ?_); clear tok1; clear zX0 zX1 zX2 zX3 zX4 zX5 zY0 yY0 zY1 yY1; obtain ⟨w_2, e_2, Be_, Oe_⟩ := sets2 (cs' := #[.int .i64 x.f0, .int .i64 x.f1]) Y_1.out 0 1 (.int .i64 x.f0) (.int .i64 x.f1) rfl; rw [e_2]; clear e_2; have M0_2 := Aside0.mk (Oe_.below M0_1.out L0_Y.out); have X_2 := Aside0.mk ((Oe_.keep g_X N_X_Y.out).trans X_1.out); have Y_2 := Aside0.mk Be_; have R9_2 := Aside0.mk (R_only R9_1.out Y_1.out (by decide) Oe_); clear Be_ Oe_ M0_1 X_1 Y_1 R9_1; have zX0 := blk_cell X_2.out 0; have zX1 := blk_cell X_2.out 1; have zX2 := blk_cell X_2.out 2; have zX3 := blk_cell X_2.out 3; have zX4 := blk_cell X_2.out 4; have zX5 := blk_cell X_2.out 5; have zY0 := blk_cell Y_2.out 0; have yY0 := blk_frozen Y_2.out 0; have zY1 := blk_cell Y_2.out 1; have yY1 := blk_frozen Y_2.out 1; skip)
          | (go_at_call 35; refine (HHs.out w_2 (HX.out.trans (M0_2.out.mono HX.out.size))).mono ?_; rintro e_ w_3 ⟨rfl, hb⟩; have M0_3 := Aside0.mk (M0_2.out.trans (hb.mono M0_2.out.size)); have X_3 := Aside0.mk (blk_below X_2.out hb); have Y_3 := Aside0.mk (blk_below Y_2.out hb); have R9_3 := Aside0.mk (Kd.R_below R9_2.out hb); clear hb M0_2 X_2 Y_2 R9_2 zX0 zX1 zX2 zX3 zX4 zX5 zY0 yY0 zY1 yY1; have zX0 := blk_cell X_3.out 0; have zX1 := blk_cell X_3.out 1; have zX2 := blk_cell X_3.out 2; have zX3 := blk_cell X_3.out 3; have zX4 := blk_cell X_3.out 4; have zX5 := blk_cell X_3.out 5; have zY0 := blk_cell Y_3.out 0; have zY1 := blk_cell Y_3.out 1; skip)
          | (go_at_call 33; refine (HF2.out w_3 (HX.out.trans (M0_3.out.mono HX.out.size))).mono ?_; rintro e_ w_4 ⟨rfl, hb⟩; have M0_4 := Aside0.mk (M0_3.out.trans (hb.mono M0_3.out.size)); have X_4 := Aside0.mk (blk_below X_3.out hb); have Y_4 := Aside0.mk (blk_below Y_3.out hb); have R9_4 := Aside0.mk (Kd.R_below R9_3.out hb); clear hb M0_3 X_3 Y_3 R9_3 zX0 zX1 zX2 zX3 zX4 zX5 zY0 zY1; have zX0 := blk_cell X_4.out 0; have zX1 := blk_cell X_4.out 1; have zX2 := blk_cell X_4.out 2; have zX3 := blk_cell X_4.out 3; have zX4 := blk_cell X_4.out 4; have zX5 := blk_cell X_4.out 5; have zY0 := blk_cell Y_4.out 0; have zY1 := blk_cell Y_4.out 1; skip)
          | ((with_reducible refine gate_builtin (b := .append) (xs := #[.tmp 41, .tmp 44]) rfl ?_); at_builtin; refine Kd.R_append (Kd.int .i64) (w0 := w_4) w.heap.size rfl (.tmp 41) (.tmp 44) 26 3 (.int .i64 0) 8 rfl Tryd.underlying26 info_i8 rfl (by decide) (by omega) (.slice A7 n7 c7) (pickL l hb k) x.f0 [.int .i64 x.f0] (fun _ => True) (fun _ => False) rfl rfl ?aP (fun _ hk => hk.elim) ?aF ?aO ?aB ?aS ?aL ?_; (case aP => exact rfl); (case aF => exact (fun _ _ => trivial)); (case aO => exact R9_4.out); (case aB => exact Below.refl _ _); (case aS => exact (HX.out.trans (M0_4.out.mono HX.out.size)).size); (case aL => have := HPl.out; omega); intro v8 w99 ho hb8 hg hat; rw [HP1.out] at ho; have RN := Aside0.mk ho; have XN := Aside0.mk (blk_grown X_4.out hg (row_ne R9_4.out X_4.out (by decide))); have BN := Aside0.mk ((HX.out.trans (M0_4.out.mono HX.out.size)).trans hb8); clear ho hg hat hb8; skip))
        go_roundw
        case rel => exact ⟨k + 1, _, by omega, rfl, by go_num, RN, XN, BN⟩
        case measure => first | (simp [intOf]; done) | (simp [intOf]; omega)
      · have hbf : hb k = false := by simpa using hbk
        rw [if_neg hbk, List.append_nil] at hpl
        have HP1 := Aside0.mk hpl.symm
        rw [hbf] at HHs
        clear hbk hbf hpl hfi
        have M0_0 := Aside0.mk (Below.refl wr.heap.size wr)
        have tok1 := Aside0.mk True.intro
        go_wp2_with (first
          | ((with_reducible refine gate_dst (N := 11) rfl ?_); refine box_event ?hgY11 (N := 11) ?hdY11 (cs := #[.int .i64 0, .int .i64 0]) (t := 37) ?hrY11 ?_; (case hdY11 => rfl); (case hgY11 => rfl); (case hrY11 => first | (go_simp; done) | (go_simp; rfl)); intro g_Y hg_ w_1 hbx_ hb_; have L0_Y := Aside0.mk (show wr.heap.size ≤ g_Y by have := M0_0.out.size; omega); have N_X_Y := Aside0.mk (show g_X ≠ g_Y by have := blk_lt X_0.out; omega); have M0_1 := Aside0.mk (M0_0.out.trans (hb_.mono M0_0.out.size)); have X_1 := Aside0.mk (blk_below X_0.out hb_); have R9_1 := Aside0.mk (Kd.R_below R9_0.out hb_); have Y_1 := Aside0.mk hbx_; clear hg_ hbx_ hb_ M0_0 X_0 R9_0; have zX0 := blk_cell X_1.out 0; have zX1 := blk_cell X_1.out 1; have zX2 := blk_cell X_1.out 2; have zX3 := blk_cell X_1.out 3; have zX4 := blk_cell X_1.out 4; have zX5 := blk_cell X_1.out 5; have zY0 := blk_cell Y_1.out 0; have yY0 := blk_frozen Y_1.out 0; have zY1 := blk_cell Y_1.out 1; have yY1 := blk_frozen Y_1.out 1; skip)
          | ((with_reducible refine gate_dst (N := 33) rfl ?_); clear tok1; clear zX0 zX1 zX2 zX3 zX4 zX5 zY0 yY0 zY1 yY1; obtain ⟨w_2, e_2, Be_, Oe_⟩ := sets2 (cs' := #[.int .i64 x.f0, .int .i64 x.f1]) Y_1.out 0 1 (.int .i64 x.f0) (.int .i64 x.f1) rfl; rw [e_2]; clear e_2; have M0_2 := Aside0.mk (Oe_.below M0_1.out L0_Y.out); have X_2 := Aside0.mk ((Oe_.keep g_X N_X_Y.out).trans X_1.out); have Y_2 := Aside0.mk Be_; have R9_2 := Aside0.mk (R_only R9_1.out Y_1.out (by decide) Oe_); clear Be_ Oe_ M0_1 X_1 Y_1 R9_1; have zX0 := blk_cell X_2.out 0; have zX1 := blk_cell X_2.out 1; have zX2 := blk_cell X_2.out 2; have zX3 := blk_cell X_2.out 3; have zX4 := blk_cell X_2.out 4; have zX5 := blk_cell X_2.out 5; have zY0 := blk_cell Y_2.out 0; have yY0 := blk_frozen Y_2.out 0; have zY1 := blk_cell Y_2.out 1; have yY1 := blk_frozen Y_2.out 1; skip)
          | (go_at_call 35; refine (HHs.out w_2 (HX.out.trans (M0_2.out.mono HX.out.size))).mono ?_; rintro e_ w_3 ⟨rfl, hb⟩; have M0_3 := Aside0.mk (M0_2.out.trans (hb.mono M0_2.out.size)); have X_3 := Aside0.mk (blk_below X_2.out hb); have Y_3 := Aside0.mk (blk_below Y_2.out hb); have R9_3 := Aside0.mk (Kd.R_below R9_2.out hb); clear hb M0_2 X_2 Y_2 R9_2 zX0 zX1 zX2 zX3 zX4 zX5 zY0 yY0 zY1 yY1; have zX0 := blk_cell X_3.out 0; have zX1 := blk_cell X_3.out 1; have zX2 := blk_cell X_3.out 2; have zX3 := blk_cell X_3.out 3; have zX4 := blk_cell X_3.out 4; have zX5 := blk_cell X_3.out 5; have zY0 := blk_cell Y_3.out 0; have zY1 := blk_cell Y_3.out 1; skip))
        have RZ := Aside0.mk R9_3.out
        rw [HP1.out] at RZ
        have XZ := Aside0.mk X_3.out
        have BZ := Aside0.mk (HX.out.trans (M0_3.out.mono HX.out.size))
        go_roundw
        case rel => exact ⟨k + 1, _, by omega, rfl, by go_num, RZ, XZ, BZ⟩
        case measure => first | (simp [intOf]; done) | (simp [intOf]; omega)
    · obtain rfl : k = l.length := by omega
      clear hlt hk
      obtain ⟨u1, u2, u3⟩ := Kd.R_reads' R9_0.out
      have HU : Aside0 (n7 = (pickL l hb l.length).length ∧ n7 ≤ c7 ∧ Kd.C (Kd.int .i64) wr A7 n7 (pickL l hb l.length)) := ⟨u1, u2, by rw [u1]; exact u3⟩
      clear u1 u2 u3
      go_wp2_with fail
      go_ret
      exact ⟨_, _, _, rfl, HU.out.1, HU.out.2.1, HU.out.2.2, HX.out⟩
end Go.Proofs.YtplfpbfmnogckaaDoor.TdQ
