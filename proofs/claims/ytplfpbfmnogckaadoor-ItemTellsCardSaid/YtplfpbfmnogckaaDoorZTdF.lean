-- Printed by prune.py: the used part of a text.
import Derived.Test.YtplfpbfmnogckaaDoorZTdD
import Derived.Test.YtplfpbfmnogckaaDoorZItO
namespace Go.Proofs.YtplfpbfmnogckaaDoor.TdF
open Go.RowKit Go.Proofs.YtplfpbfmnogckaaDoorW.PrintWords Go.Proofs.YtplfpbfmnogckaaDoorW.PrintLast Go.Proofs.YtplfpbfmnogckaaDoorW.PrintMore Go.Proofs.YtplfpbfmnogckaaDoor.TdG Go.Proofs.YtplfpbfmnogckaaDoor.TdM Go.Proofs.YtplfpbfmnogckaaDoor.TdP Go.Proofs.YtplfpbfmnogckaaDoor.TdD Go.Proofs.YtplfpbfmnogckaaDoor.ItT Go.Proofs.YtplfpbfmnogckaaDoor.ItO
set_option linter.unusedVariables false
set_option linter.unusedSimpArgs false
def lineB (k : Int) (what : ByteArray) : ByteArray := (((⟨#[42, 32]⟩ : ByteArray) ++ itoaB k) ++ (⟨#[32]⟩ : ByteArray)) ++ what
theorem line_calls (k : Int) (what : ByteArray) (w : World) (ht : Tab w) (h0 : -9223372036854775808 ≤ k) (h1 : k ≤ 9223372036854775807) (hw : what.size ≤ 140737488355328) :
    Calls Tryd.prog 32 #[.int .i64 k, .string what] w fun e w' => e = .returned (.string (lineB k what)) ∧ Below w.heap.size w w' := by
  have hs := itoaB_size k h0 h1
  have HI := Aside0.mk (itoa_c k h0 h1 w ht)
  have HL : Aside0 (lineB k what = (((⟨#[42, 32]⟩ : ByteArray) ++ itoaB k) ++ (⟨#[32]⟩ : ByteArray)) ++ what) := ⟨rfl⟩
  rw [HL.out]
  clear HL ht
  generalize itoaB k = t at *
  have q1 : ¬ 9223372036854775807 < 2 + t.size := by omega
  have q2 : ¬ 9223372036854775807 < 2 + t.size + 1 := by omega
  have q3 : ¬ 9223372036854775807 < 2 + t.size + 1 + what.size := by omega
  go_enter Tryd.func32, Tryd.ntmps32
  go_wp2_with (go_at_call 44; refine HI.out.mono ?_; rintro e w1 ⟨rfl, hb⟩; have HB := Aside0.mk hb; clear hb)
  go_ret
  exact ⟨rfl, HB.out⟩
def hasB (ms : List S34) (x : S37) : Bool := decide (0 ≤ findP x.f0 0 ms)
def EXP : ByteArray := ⟨#[69, 88, 80, 85, 78, 71, 69]⟩
def viewG (ms : List S34) (l : List S37) (k : Nat) : List S37 := l.take k ++ (l.drop k).filter (hasB ms)
def lineG (ms : List S34) (l : List S37) : Nat → List ByteArray
  | 0 => []
  | m + 1 => lineG ms l m ++ (if hasB ms (l.getD (l.length - 1 - m) z37) = true then [] else [lineB ((l.length - m : Nat) : Int) EXP])
theorem lineG_len (ms) (l : List S37) : ∀ m, (lineG ms l m).length ≤ m
  | 0 => Nat.le_refl 0
  | m + 1 => by
    have := lineG_len ms l m
    rw [lineG, List.length_append]
    split <;> simp <;> omega
theorem viewG_all (ms) (l : List S37) : viewG ms l l.length = l := by simp [viewG]
theorem viewG_zero (ms) (l : List S37) : viewG ms l 0 = l.filter (hasB ms) := by simp [viewG]
theorem viewG_at (ms) (l : List S37) (j : Nat) (hj : j < l.length) : rd_T37 (viewG ms l (j + 1)) (j : Int) = l[j] ∧ j < (viewG ms l (j + 1)).length := by
  have h1 : (l.take (j + 1)).length = j + 1 := by rw [List.length_take]; omega
  refine ⟨?_, by unfold viewG; rw [List.length_append]; omega⟩
  unfold rd_T37 viewG
  rw [Int.toNat_natCast, List.getD_eq_getElem?_getD, List.getElem?_append_left (by omega), List.getElem?_take, if_pos (by omega), List.getElem?_eq_getElem hj]
  rfl
theorem viewG_keep (ms) (l : List S37) (j : Nat) (hj : j < l.length) (h : hasB ms l[j] = true) : viewG ms l (j + 1) = viewG ms l j := by
  unfold viewG
  rw [List.drop_eq_getElem_cons hj, List.filter_cons, if_pos h, List.take_succ_eq_append_getElem hj, List.append_assoc]
  rfl
theorem viewG_cut (ms) (l : List S37) (j : Nat) (hj : j < l.length) (h : hasB ms l[j] = false) : (viewG ms l (j + 1)).take j ++ (viewG ms l (j + 1)).drop (j + 1) = viewG ms l j := by
  have h1 : (l.take (j + 1)).length = j + 1 := by rw [List.length_take]; omega
  unfold viewG
  rw [List.take_append_of_le_length (by omega), List.take_take, Nat.min_eq_left (by omega), List.drop_append, h1, Nat.sub_self, List.drop_zero, List.drop_of_length_le (by omega), List.nil_append]
  congr 1
  rw [List.drop_eq_getElem_cons hj, List.filter_cons, if_neg (by rw [h]; decide)]
theorem lineG_at (ms) (l : List S37) (j : Nat) (hj : j < l.length) : lineG ms l (l.length - j) = lineG ms l (l.length - (j + 1)) ++ (if hasB ms l[j] = true then [] else [lineB ((j : Int) + 1) EXP]) := by
  have e : l.length - j = (l.length - (j + 1)) + 1 := by omega
  rw [e, lineG]
  have e2 : l.length - 1 - (l.length - (j + 1)) = j := by omega
  have e3 : ((l.length - (l.length - (j + 1)) : Nat) : Int) = (j : Int) + 1 := by omega
  rw [e2, e3, List.getD_eq_getElem?_getD, List.getElem?_eq_getElem hj]
  rfl
theorem rbase {α : Type} {d : Kd α} {e base : Nat} {ok : Nat → Prop} {w : World} {v : Value} {xs : List α} (h : d.R e w base ok v xs) : ∀ k, v.ownBlock = some k → base ≤ k := by
  obtain ⟨inner, ho⟩ := Kd.R_own h
  exact own_base ho
theorem row_ne {α : Type} {d : Kd α} {e base : Nat} {ok : Nat → Prop} {w : World} {v : Value} {xs : List α} {g : Nat} {t : TypeId} {cells : Array Value} (h : d.R e w base ok v xs) (hb : w.heap[g]? = some (.cells cells t (0, 0))) (hne : e ≠ t) : some g ≠ v.ownBlock := Kd.R_ne h hb hne
theorem grown_below {w W w1 : World} {r : Option Nat} (hg : w.grownBy W r) (hb : Below w.heap.size W w1) : w.grownBy w1 r :=
  ⟨hb.os.trans hg.os, hb.tape.trans hg.tape, hb.output.trans hg.output, Nat.le_trans hg.size hb.size, fun k hk hne => (hb.block k hk).trans (hg.block k hk hne)⟩
theorem below_grown2 {w0 w W : World} {r : Option Nat} (hb : Below w0.heap.size w0 w) (hg : w.grownBy W r) (hr : ∀ k, r = some k → w0.heap.size ≤ k) : Below w0.heap.size w0 W := hb.grown hg hb.size hr
def t_told_gone.T5 : Bool × List (List Nat × List Nat) := (true, [([], []), ([], []), ([], []), ([1, 2], [1, 2]), ([3], [3]), ([4], [4]), ([0, 5], [0, 5]), ([6], [6])])
def t_told_gone.B5 : List Nat := [0, 0, 0, 6, 14, 30, 63, 127]
theorem t_told_gone.tab5 : rtab .any (opsOf Tryd.f30 5) = t_told_gone.T5 := by kernel_rfl
theorem t_told_gone.bits5 : waitsOk t_told_gone.T5.2 t_told_gone.B5 = true := by kernel_rfl
set_option maxRecDepth 100000 in
set_option maxHeartbeats 4000000 in
theorem gone_calls (a0 : ByteArray) (a1 a2 a3 : Int) (aA4 : Option Addr) (ac4 : Nat) (aw : List ByteArray) (aA5 : Option Addr) (ac5 : Nat) (am : List S34) (v : Value) (l : List S37) (w0 w : World) (hb0 : Below w0.heap.size w0 w) (ht : Tab w0)
    (hC5 : Kd.C k34 w0 aA5 am.length am) (hn : am.length ≤ 1000000) (hR : Kd.R k37 37 w w0.heap.size (fun _ => True) v l) (hl : l.length ≤ 1000000) :
    Calls Tryd.prog 30 #[v, .agg #[.string a0, .int .i64 a1, .int .i64 a2, .int .i64 a3, .slice aA4 aw.length ac4, .slice aA5 am.length ac5]] w fun e w' => ∃ v' u', e = .returned (.tuple #[v', u']) ∧ Kd.R k37 37 w' w0.heap.size (fun _ => True) v' (l.filter (hasB am)) ∧ Kd.R Kd.string 9 w' w.heap.size (fun _ => True) u' (lineG am l l.length) ∧ w.grownBy w' v.ownBlock ∧ v'.ownBlock = v.ownBlock := by
  have hu25 := Tryd.underlying25
  have hu37 := Tryd.underlying37
  have HFi := Aside0.mk (fun (x : Int) (W : World) (hW : Below w0.heap.size w0 W) => find_calls a0 a1 a2 a3 (.slice aA4 aw.length ac4) aA5 ac5 am x W (Kd.C_below hC5 hW) hn)
  have HLi := Aside0.mk (fun (k : Int) (W : World) (hW : Below w0.heap.size w0 W) (h0 : -9223372036854775808 ≤ k) (h1 : k ≤ 9223372036854775807) => line_calls k EXP W (ht.below hW) h0 h1 (by decide))
  have HB0 := Aside0.mk hb0
  have HR := Aside0.mk hR
  have HVa := Aside0.mk (viewG_all am l)
  have HVz := Aside0.mk (viewG_zero am l)
  have HN := Aside0.mk hl
  have hvb := rbase hR
  have HVB := Aside0.mk hvb
  obtain ⟨A, n, c, rfl⟩ := slc hR
  have hnl : n = l.length := (Kd.R_reads' hR).1
  have HNL := Aside0.mk hnl
  have hn9 : (n : Int) ≤ 1000000 := by omega
  clear hb0 hR hvb hnl hC5 hn ht hl
  obtain ⟨ob, hvo⟩ : ∃ ob, ob = (Value.slice A n c).ownBlock := ⟨_, rfl⟩
  have HVO := Aside0.mk hvo
  rw [← hvo] at HVB ⊢
  clear hvo
  go_enter Tryd.func30, Tryd.ntmps30
  have M0_0 := Aside0.mk (Below.refl w.heap.size w)
  go_wp2_with ((with_reducible refine gate_dst (N := 3) rfl ?_); refine box_event ?hgX3 (N := 3) ?hdX3 (cs := #[.string a0, .int .i64 a1, .int .i64 a2, .int .i64 a3, .slice aA4 aw.length ac4, .slice aA5 am.length ac5]) (t := 25) ?hrX3 ?_; (case hdX3 => rfl); (case hgX3 => rfl); (case hrX3 => first | (go_simp; done) | (go_simp; rfl)); intro g_X hg_ w_1 hbx_ hb_; have L0_X := Aside0.mk (show w.heap.size ≤ g_X by have := M0_0.out.size; omega); have M0_1 := Aside0.mk (M0_0.out.trans (hb_.mono M0_0.out.size)); have X_1 := Aside0.mk hbx_; clear hg_ hbx_ hb_ M0_0; skip)
  have GX := Aside0.mk X_1.out
  have HX1 := Aside0.mk M0_1.out
  clear M0_1 X_1 L0_X
  go_loopw [0, 6, 7] (fun v u i wr => ∃ (k : Nat) (vv uu : Value), k ≤ n ∧ v = vv ∧ u = uu ∧ i = .int .i64 ((k : Int) - 1) ∧ Aside0 (Kd.R k37 37 wr w0.heap.size (fun _ => True) vv (viewG am l k)) ∧ Aside0 (Kd.R Kd.string 9 wr w.heap.size (fun _ => True) uu (lineG am l (l.length - k)))
    ∧ Aside0 (wr.heap[g_X]? = some (.cells #[.string a0, .int .i64 a1, .int .i64 a2, .int .i64 a3, .slice aA4 aw.length ac4, .slice aA5 am.length ac5] 25 (0, 0))) ∧ Aside0 (w.grownBy wr ob ∧ vv.ownBlock = ob)) (fun _ _ i _ => (intOf i + 1).toNat)
  case atStart => exact ⟨n, _, _, Nat.le_refl _, rfl, rfl, rfl, ⟨by rw [show viewG am l n = l by rw [HNL.out]; exact HVa.out]; exact Kd.R_below HR.out HX1.out⟩, ⟨by rw [show l.length - n = 0 by have := HNL.out; omega]; exact Kd.R_nil _ _ _ _ _⟩, GX, ⟨grown_of_below HX1.out _, HVO.out.symm⟩⟩
  case round =>
    clear GX HX1 HR
    obtain ⟨k, vv, uu, hk, rfl, rfl, rfl, RV, RU, GX, HG⟩ := hrel
    obtain ⟨A7, n7, c7, rfl⟩ := slc RV.out
    obtain ⟨A8, n8, c8, rfl⟩ := slc RU.out
    have HB := Aside0.mk (below_grown2 HB0.out HG.out.1 HVB.out)
    by_cases hk0 : k = 0
    · subst hk0
      rw [show (((0 : Nat) : Int) - 1) = -1 from rfl]
      clear hk
      go_wp2_with fail
      go_ret2
      exact ⟨_, _, rfl, by rw [← HVz.out]; exact RV.out, by have h := RU.out; rw [Nat.sub_zero] at h; exact h, HG.out.1, HG.out.2⟩
    · obtain ⟨j, rfl⟩ : ∃ j, k = j + 1 := ⟨k - 1, by omega⟩
      have e : (((j + 1 : Nat) : Int) - 1) = (j : Int) := by omega
      rw [e]
      clear e hk0
      have hjl : j < l.length := by have := HNL.out; omega
      obtain ⟨hrd, hjv⟩ := viewG_at am l j hjl
      obtain ⟨hq1, hq2, hq3⟩ := Kd.R_reads' RV.out
      obtain ⟨ad, e1, hx0, hx1⟩ := at_T37 hq3 (j : Int) (by omega) (by omega)
      cases e1
      rw [Int.toNat_natCast, hrd] at hx0 hx1
      have hj7 : (j : Int) < (n7 : Int) := by omega
      have hj8 : (j : Int) < 1000000 := by omega
      have HJV := Aside0.mk hjv
      have hcut := viewG_cut am l j hjl
      have hkeep := viewG_keep am l j hjl
      have hline := lineG_at am l j hjl
      have HLl := Aside0.mk (lineG_len am l (l.length - (j + 1)))
      have HLn := Aside0.mk hjl
      have hxs : hasB am l[j] = decide (0 ≤ findP l[j].f0 0 am) := rfl
      clear hrd hjv hq1 hq2 hq3
      generalize l[j] = x at *
      clear hjl
      obtain ⟨at_, hat⟩ : ∃ at_, findP x.f0 0 am = at_ := ⟨_, rfl⟩
      have HF2 := Aside0.mk (HFi.out x.f0)
      rw [hat] at HF2 hxs
      clear hat
      have HA0 := Aside0.mk (Below.refl wr.heap.size wr)
      by_cases ha : at_ < 0
      · have hd : hasB am x = false := by rw [hxs]; exact decide_eq_false (by omega)
        have HCut := Aside0.mk (hcut hd)
        rw [hd] at hline
        have HLine : Aside0 (lineG am l (l.length - j) = lineG am l (l.length - (j + 1)) ++ [lineB ((j : Int) + 1) EXP]) := ⟨by rw [hline]; rfl⟩
        have HD : Aside0 (decide (at_ < 0) = true) := ⟨decide_eq_true ha⟩
        clear hcut hkeep hline hd hxs ha
        have hx0' := Aside0.mk hx0
        clear hx0 hx1
        go_upto_region 5 with fail
        refine start_ (n := 8) (S := fun w' => True) (ds := []) #[false, false, false, false, false, false, false, false] (by kernel_rfl) rfl rfl trivial (fun hHeld => ?_)
        refine with_tabW t_told_gone.tab5 t_told_gone.bits5 (fun HT_ HW_ => ?_)
        have hd_ := (below_drew1 (Below.refl wr.heap.size wr))
        have n_HA0 := Aside0.mk (HA0.out.drew)
        have n_GX := Aside0.mk ((show wr.drew.heap[g_X]? = _ from GX.out))
        clear HA0
        have HA0 := n_HA0
        clear n_HA0
        clear GX
        have GX := n_GX
        clear n_GX
        generalize wr.drew = w_d at *
        clear hd_
        refine inv_at [0, 1, 2, 3, 4, 5, 6, 7] (fun a0_ b a w' => a = putSel a0_ b [(0, 15, .agg #[.string a0, .int .i64 a1, .int .i64 a2, .int .i64 a3, .slice aA4 aw.length ac4, .slice aA5 am.length ac5]), (1, 16, .slice (some ad) n7 c7), (2, 17, .int .i64 (j : Int)), (3, 18, .pointer (some (ad.add (j * 2)))), (4, 19, .pointer (some (ad.add (j * 2)))), (5, 20, .int .i64 x.f0), (6, 21, .int .i64 at_), (7, 22, .bool true)] ∧ (Below wr.heap.size wr w') ∧ (w'.heap[g_X]? = some (.cells #[.string a0, .int .i64 a1, .int .i64 a2, .int .i64 a3, .slice aA4 aw.length ac4, .slice aA5 am.length ac5] 25 (0, 0)))) HT_.out HW_.out (by kernel_rfl) (by kernel_rfl) ?_ ?_ ?_
        · exact ⟨by simp only [putSel, Bool.false_eq_true, if_false], HA0.out, GX.out⟩
        · skip
          clear GX HA0
          refine steps_cons ?_ ?_
          · rintro b a w' ⟨ha, Q_HA0, Q_GX⟩ hb_ hon hoff
            refine ⟨_, rfl, fun K hK => ?_⟩
            have e3 : a.tmps[3]? = some (.pointer (some ⟨g_X, 0, none⟩)) := by rw [ha]; exact (putSel_off rfl).trans rfl
            replace ha := Aside0.mk ha
            have GX := Aside0.mk Q_GX
            have hc0 := blk_cell GX.out 0; have hc1 := blk_cell GX.out 1; have hc2 := blk_cell GX.out 2; have hc3 := blk_cell GX.out 3; have hc4 := blk_cell GX.out 4; have hc5 := blk_cell GX.out 5
            refine value_ (w1 := w') (v := .agg #[.string a0, .int .i64 a1, .int .i64 a2, .int .i64 a3, .slice aA4 aw.length ac4, .slice aA5 am.length ac5]) (by rfl) rfl ?_ ?_
            · go_simp
              try first | rfl | assumption
            refine hK.out _ _ ⟨(by rw [ha.out]; exact putSel_upk 0 hb_ rfl rfl rfl), Q_HA0, Q_GX⟩
          refine steps_cons ?_ ?_
          · rintro b a w' ⟨ha, Q_HA0, Q_GX⟩ hb_ hon hoff
            refine ⟨_, rfl, fun K hK => ?_⟩
            have e0 : a.tmps[0]? = some (.slice (some ad) n7 c7) := by rw [ha]; exact (putSel_off rfl).trans rfl
            replace ha := Aside0.mk ha
            refine value_ (w1 := w') (v := .slice (some ad) n7 c7) (by rfl) rfl ?_ ?_
            · go_simp
              try first | rfl | assumption
            refine hK.out _ _ ⟨(by rw [ha.out]; exact putSel_upk 1 hb_ rfl rfl rfl), Q_HA0, Q_GX⟩
          refine steps_cons ?_ ?_
          · rintro b a w' ⟨ha, Q_HA0, Q_GX⟩ hb_ hon hoff
            refine ⟨_, rfl, fun K hK => ?_⟩
            have e7 : a.tmps[7]? = some (.int .i64 (j : Int)) := by rw [ha]; exact (putSel_off rfl).trans rfl
            replace ha := Aside0.mk ha
            refine value_ (w1 := w') (v := .int .i64 (j : Int)) (by rfl) rfl ?_ ?_
            · go_simp
              (try simp only [i64_w])
              try first | rfl | assumption
            refine hK.out _ _ ⟨(by rw [ha.out]; exact putSel_upk 2 hb_ rfl rfl rfl), Q_HA0, Q_GX⟩
          refine steps_cons ?_ ?_
          · rintro b a w' ⟨ha, Q_HA0, Q_GX⟩ hb_ hon hoff
            refine ⟨_, rfl, fun K hK => ?_⟩
            have e16 : a.tmps[16]? = some (.slice (some ad) n7 c7) := by rw [ha]; exact putSel_on (e := (1, 16, .slice (some ad) n7 c7)) 1 rfl rfl (hon 1 (by kernel_rfl)) rfl
            have e17 : a.tmps[17]? = some (.int .i64 (j : Int)) := by rw [ha]; exact putSel_on (e := (2, 17, .int .i64 (j : Int))) 2 rfl rfl (hon 2 (by kernel_rfl)) rfl
            replace ha := Aside0.mk ha
            refine value_ (w1 := w') (v := .pointer (some (ad.add (j * 2)))) (by rfl) rfl ?_ ?_
            · go_simp
              try first | rfl | assumption
            refine hK.out _ _ ⟨(by rw [ha.out]; exact putSel_upk 3 hb_ rfl rfl rfl), Q_HA0, Q_GX⟩
          refine steps_cons ?_ ?_
          · rintro b a w' ⟨ha, Q_HA0, Q_GX⟩ hb_ hon hoff
            refine ⟨_, rfl, fun K hK => ?_⟩
            have e18 : a.tmps[18]? = some (.pointer (some (ad.add (j * 2)))) := by rw [ha]; exact putSel_on (e := (3, 18, .pointer (some (ad.add (j * 2))))) 3 rfl rfl (hon 3 (by kernel_rfl)) rfl
            replace ha := Aside0.mk ha
            refine value_ (w1 := w') (v := .pointer (some (ad.add (j * 2)))) (by rfl) rfl ?_ ?_
            · go_simp
              try first | rfl | assumption
            refine hK.out _ _ ⟨(by rw [ha.out]; exact putSel_upk 4 hb_ rfl rfl rfl), Q_HA0, Q_GX⟩
          refine steps_cons ?_ ?_
          · rintro b a w' ⟨ha, Q_HA0, Q_GX⟩ hb_ hon hoff
            refine ⟨_, rfl, fun K hK => ?_⟩
            have e19 : a.tmps[19]? = some (.pointer (some (ad.add (j * 2)))) := by rw [ha]; exact putSel_on (e := (4, 19, .pointer (some (ad.add (j * 2))))) 4 rfl rfl (hon 4 (by kernel_rfl)) rfl
            replace ha := Aside0.mk ha
            have HA0 := Aside0.mk Q_HA0
            have hc0 := pw_cell_below HA0.out hx0'.out
            refine value_ (w1 := w') (v := .int .i64 x.f0) (by rfl) rfl ?_ ?_
            · go_simp
              (try simp only [i64_w])
              try first | rfl | assumption
            refine hK.out _ _ ⟨(by rw [ha.out]; exact putSel_upk 5 hb_ rfl rfl rfl), Q_HA0, Q_GX⟩
          refine steps_cons ?_ ?_
          · rintro b a w' ⟨ha, Q_HA0, Q_GX⟩ hb_ hon hoff
            refine ⟨_, rfl, fun K hK => ?_⟩
            have e15 : a.tmps[15]? = some (.agg #[.string a0, .int .i64 a1, .int .i64 a2, .int .i64 a3, .slice aA4 aw.length ac4, .slice aA5 am.length ac5]) := by rw [ha]; exact putSel_on (e := (0, 15, .agg #[.string a0, .int .i64 a1, .int .i64 a2, .int .i64 a3, .slice aA4 aw.length ac4, .slice aA5 am.length ac5])) 0 rfl rfl (hon 0 (by kernel_rfl)) rfl
            have e20 : a.tmps[20]? = some (.int .i64 x.f0) := by rw [ha]; exact putSel_on (e := (5, 20, .int .i64 x.f0)) 5 rfl rfl (hon 5 (by kernel_rfl)) rfl
            replace ha := Aside0.mk ha
            have HA0 := Aside0.mk Q_HA0
            have GX := Aside0.mk Q_GX
            refine goes_ Tryd.func33 (by kernel_rfl) rfl #[.agg #[.string a0, .int .i64 a1, .int .i64 a2, .int .i64 a3, .slice aA4 aw.length ac4, .slice aA5 am.length ac5], .int .i64 x.f0] (by rfl) rfl rfl (by first | (simp only [List.map_toArray, List.map_cons, List.map_nil, Act.eval, Array.getD_eq_getD_getElem?, Option.getD_some, e15, e20]; done) | (simp only [List.map_toArray, List.map_cons, List.map_nil, Act.eval, Array.getD_eq_getD_getElem?, Option.getD_some, e15, e20]; rfl)) ?_
            with_reducible refine (HF2.out w' (HB.out.trans (HA0.out.mono HB.out.size))).mono ?_
            rintro e wq ⟨rfl, hb⟩
            refine ⟨_, rfl, ?_⟩
            refine hK.out _ _ ⟨(by rw [ha.out]; exact putSel_upk 6 hb_ rfl rfl rfl), HA0.out.trans (hb.mono HA0.out.size), blk_below GX.out hb⟩
          refine steps_cons ?_ ?_
          · rintro b a w' ⟨ha, Q_HA0, Q_GX⟩ hb_ hon hoff
            refine ⟨_, rfl, fun K hK => ?_⟩
            have e21 : a.tmps[21]? = some (.int .i64 at_) := by rw [ha]; exact putSel_on (e := (6, 21, .int .i64 at_)) 6 rfl rfl (hon 6 (by kernel_rfl)) rfl
            replace ha := Aside0.mk ha
            have hd_ := HD.out
            refine value_ (w1 := w') (v := .bool true) (by rfl) rfl ?_ ?_
            · go_simp
              try first | rfl | assumption
            refine hK.out _ _ ⟨(by rw [ha.out]; exact putSel_upk 7 hb_ rfl rfl rfl), Q_HA0, Q_GX⟩
          exact steps_nil
        rintro b a wz hall ⟨ha, Q_HA0, Q_GX⟩
        clear GX HA0
        have hb0_ := hall 0 (by kernel_rfl)
        have hb1_ := hall 1 (by kernel_rfl)
        have hb2_ := hall 2 (by kernel_rfl)
        have hb3_ := hall 3 (by kernel_rfl)
        have hb4_ := hall 4 (by kernel_rfl)
        have hb5_ := hall 5 (by kernel_rfl)
        have hb6_ := hall 6 (by kernel_rfl)
        have hb7_ := hall 7 (by kernel_rfl)
        subst ha
        simp only [putSel, hb0_, hb1_, hb2_, hb3_, hb4_, hb5_, hb6_, hb7_, if_true, Act.put, List.setIfInBounds_toArray, List.set_cons_zero, List.set_cons_succ]
        have HA0 := Aside0.mk Q_HA0
        clear Q_HA0
        have GX := Aside0.mk Q_GX
        clear Q_GX
        clear hall hb0_ hb1_ hb2_ hb3_ hb4_ hb5_ hb6_ hb7_
        have GX5 := GX
        have RV5 := Aside0.mk (Kd.R_below RV.out HA0.out)
        have RU5 := Aside0.mk (Kd.R_below RU.out HA0.out)
        have HG5 : Aside0 (w.grownBy wz ob ∧ (Value.slice (some ad) n7 c7).ownBlock = ob) := ⟨grown_trans HG.out.1 (grown_of_below HA0.out _), HG.out.2⟩
        clear GX RV RU HG hx0'
        go_wp2_with (first
          | (go_at_call 48; refine (delete_seen (w := wz) (i := j) (RV5.out) HJV.out).mono ?_; rintro e w6 ⟨v6, rfl, hR6, hg6, hb6⟩; rw [HCut.out] at hR6; have RV6 := Aside0.mk hR6; have RU6 := Aside0.mk (Kd.R_over RU5.out RV5.out (by decide) hg6); have GX6 := Aside0.mk (blk_grown GX5.out hg6 (row_ne RV5.out GX5.out (by decide))); have HG6 : Aside0 (w.grownBy w6 ob ∧ v6.ownBlock = ob) := ⟨grown_trans HG5.out.1 (by rw [HG5.out.2] at hg6; exact hg6), hb6.trans HG5.out.2⟩; have HB6 := Aside0.mk (below_grown2 HB0.out HG6.out.1 HVB.out); obtain ⟨A9, n9, c9, rfl⟩ := slc hR6; clear hR6 hg6 hb6 GX5 HG5 RV5 RU5; skip)
          | (go_at_call 32; refine (HLi.out ((j : Int) + 1) w6 HB6.out (by omega) (by omega)).mono ?_; rintro e w7 ⟨rfl, hb7⟩; have RV7 := Aside0.mk (Kd.R_below RV6.out hb7); have RU7 := Aside0.mk (Kd.R_below RU6.out hb7); have GX7 := Aside0.mk (blk_below GX6.out hb7); have HG7 : Aside0 (w.grownBy w7 ob ∧ (Value.slice A9 n9 c9).ownBlock = ob) := ⟨grown_trans HG6.out.1 (grown_of_below hb7 _), HG6.out.2⟩; clear hb7 RV6 RU6 GX6 HG6; skip)
          | ((with_reducible refine gate_builtin (b := .append) (xs := #[.tmp 28, .tmp 32]) rfl ?_); at_builtin; refine Kd.R_append Kd.string (w0 := w7) w.heap.size rfl (.tmp 28) (.tmp 32) 22 9 (.string ⟨#[]⟩) 16 rfl Tryd.underlying22 info9 rfl (by decide) (by omega) (.slice A8 n8 c8) (lineG am l (l.length - (j + 1))) (lineB ((j : Int) + 1) EXP) [.string (lineB ((j : Int) + 1) EXP)] (fun _ => True) (fun _ => False) rfl rfl ?aP (fun _ hk => hk.elim) ?aF ?aO ?aB ?aS ?aL ?_; (case aP => exact rfl); (case aF => exact (fun _ _ => trivial)); (case aO => exact RU7.out); (case aB => exact Below.refl _ _); (case aS => exact HG7.out.1.size); (case aL => have := HLl.out; have := HN.out; omega); intro v8 w8 ho hb8 hg hat; rw [← HLine.out] at ho; have RU8 := Aside0.mk ho; have RV8 := Aside0.mk (Kd.R_over RV7.out RU7.out (by decide) hg); have GX8 := Aside0.mk (blk_grown GX7.out hg (row_ne RU7.out GX7.out (by decide))); have HG8 : Aside0 (w.grownBy w8 ob ∧ (Value.slice A9 n9 c9).ownBlock = ob) := ⟨grown_below HG7.out.1 hb8, HG7.out.2⟩; clear ho hb8 hg hat RV7 RU7 GX7 HG7; skip))
        go_roundw
        case rel => exact ⟨j, _, _, by omega, rfl, rfl, rfl, RV8, RU8, GX8, HG8⟩
        case measure => first | (simp [intOf]; done) | (simp [intOf]; omega)
      · have hd : hasB am x = true := by rw [hxs]; exact decide_eq_true (by omega)
        have hKp := hkeep hd
        rw [hd] at hline
        have RV2 : Aside0 (Kd.R k37 37 wr w0.heap.size (fun _ => True) (.slice (some ad) n7 c7) (viewG am l j)) := ⟨by rw [← hKp]; exact RV.out⟩
        have RU2 : Aside0 (Kd.R Kd.string 9 wr w.heap.size (fun _ => True) (.slice A8 n8 c8) (lineG am l (l.length - j))) := ⟨by rw [hline, if_pos rfl, List.append_nil]; exact RU.out⟩
        have HD : Aside0 (decide (at_ < 0) = false) := ⟨decide_eq_false ha⟩
        clear hcut hkeep hline hd hxs ha hKp RV RU
        have RV := RV2
        have RU := RU2
        clear RV2 RU2
        have hx0' := Aside0.mk hx0
        clear hx0 hx1
        go_upto_region 5 with fail
        refine start_ (n := 8) (S := fun w' => True) (ds := []) #[false, false, false, false, false, false, false, false] (by kernel_rfl) rfl rfl trivial (fun hHeld => ?_)
        refine with_tabW t_told_gone.tab5 t_told_gone.bits5 (fun HT_ HW_ => ?_)
        have hd_ := (below_drew1 (Below.refl wr.heap.size wr))
        have n_HA0 := Aside0.mk (HA0.out.drew)
        have n_GX := Aside0.mk ((show wr.drew.heap[g_X]? = _ from GX.out))
        clear HA0
        have HA0 := n_HA0
        clear n_HA0
        clear GX
        have GX := n_GX
        clear n_GX
        generalize wr.drew = w_d at *
        clear hd_
        refine inv_at [0, 1, 2, 3, 4, 5, 6, 7] (fun a0_ b a w' => a = putSel a0_ b [(0, 15, .agg #[.string a0, .int .i64 a1, .int .i64 a2, .int .i64 a3, .slice aA4 aw.length ac4, .slice aA5 am.length ac5]), (1, 16, .slice (some ad) n7 c7), (2, 17, .int .i64 (j : Int)), (3, 18, .pointer (some (ad.add (j * 2)))), (4, 19, .pointer (some (ad.add (j * 2)))), (5, 20, .int .i64 x.f0), (6, 21, .int .i64 at_), (7, 22, .bool false)] ∧ (Below wr.heap.size wr w') ∧ (w'.heap[g_X]? = some (.cells #[.string a0, .int .i64 a1, .int .i64 a2, .int .i64 a3, .slice aA4 aw.length ac4, .slice aA5 am.length ac5] 25 (0, 0)))) HT_.out HW_.out (by kernel_rfl) (by kernel_rfl) ?_ ?_ ?_
        · exact ⟨by simp only [putSel, Bool.false_eq_true, if_false], HA0.out, GX.out⟩
        · skip
          clear GX HA0
          refine steps_cons ?_ ?_
          · rintro b a w' ⟨ha, Q_HA0, Q_GX⟩ hb_ hon hoff
            refine ⟨_, rfl, fun K hK => ?_⟩
            have e3 : a.tmps[3]? = some (.pointer (some ⟨g_X, 0, none⟩)) := by rw [ha]; exact (putSel_off rfl).trans rfl
            replace ha := Aside0.mk ha
            have GX := Aside0.mk Q_GX
            have hc0 := blk_cell GX.out 0; have hc1 := blk_cell GX.out 1; have hc2 := blk_cell GX.out 2; have hc3 := blk_cell GX.out 3; have hc4 := blk_cell GX.out 4; have hc5 := blk_cell GX.out 5
            refine value_ (w1 := w') (v := .agg #[.string a0, .int .i64 a1, .int .i64 a2, .int .i64 a3, .slice aA4 aw.length ac4, .slice aA5 am.length ac5]) (by rfl) rfl ?_ ?_
            · go_simp
              try first | rfl | assumption
            refine hK.out _ _ ⟨(by rw [ha.out]; exact putSel_upk 0 hb_ rfl rfl rfl), Q_HA0, Q_GX⟩
          refine steps_cons ?_ ?_
          · rintro b a w' ⟨ha, Q_HA0, Q_GX⟩ hb_ hon hoff
            refine ⟨_, rfl, fun K hK => ?_⟩
            have e0 : a.tmps[0]? = some (.slice (some ad) n7 c7) := by rw [ha]; exact (putSel_off rfl).trans rfl
            replace ha := Aside0.mk ha
            refine value_ (w1 := w') (v := .slice (some ad) n7 c7) (by rfl) rfl ?_ ?_
            · go_simp
              try first | rfl | assumption
            refine hK.out _ _ ⟨(by rw [ha.out]; exact putSel_upk 1 hb_ rfl rfl rfl), Q_HA0, Q_GX⟩
          refine steps_cons ?_ ?_
          · rintro b a w' ⟨ha, Q_HA0, Q_GX⟩ hb_ hon hoff
            refine ⟨_, rfl, fun K hK => ?_⟩
            have e7 : a.tmps[7]? = some (.int .i64 (j : Int)) := by rw [ha]; exact (putSel_off rfl).trans rfl
            replace ha := Aside0.mk ha
            refine value_ (w1 := w') (v := .int .i64 (j : Int)) (by rfl) rfl ?_ ?_
            · go_simp
              (try simp only [i64_w])
              try first | rfl | assumption
            refine hK.out _ _ ⟨(by rw [ha.out]; exact putSel_upk 2 hb_ rfl rfl rfl), Q_HA0, Q_GX⟩
          refine steps_cons ?_ ?_
          · rintro b a w' ⟨ha, Q_HA0, Q_GX⟩ hb_ hon hoff
            refine ⟨_, rfl, fun K hK => ?_⟩
            have e16 : a.tmps[16]? = some (.slice (some ad) n7 c7) := by rw [ha]; exact putSel_on (e := (1, 16, .slice (some ad) n7 c7)) 1 rfl rfl (hon 1 (by kernel_rfl)) rfl
            have e17 : a.tmps[17]? = some (.int .i64 (j : Int)) := by rw [ha]; exact putSel_on (e := (2, 17, .int .i64 (j : Int))) 2 rfl rfl (hon 2 (by kernel_rfl)) rfl
            replace ha := Aside0.mk ha
            refine value_ (w1 := w') (v := .pointer (some (ad.add (j * 2)))) (by rfl) rfl ?_ ?_
            · go_simp
              try first | rfl | assumption
            refine hK.out _ _ ⟨(by rw [ha.out]; exact putSel_upk 3 hb_ rfl rfl rfl), Q_HA0, Q_GX⟩
          refine steps_cons ?_ ?_
          · rintro b a w' ⟨ha, Q_HA0, Q_GX⟩ hb_ hon hoff
            refine ⟨_, rfl, fun K hK => ?_⟩
            have e18 : a.tmps[18]? = some (.pointer (some (ad.add (j * 2)))) := by rw [ha]; exact putSel_on (e := (3, 18, .pointer (some (ad.add (j * 2))))) 3 rfl rfl (hon 3 (by kernel_rfl)) rfl
            replace ha := Aside0.mk ha
            refine value_ (w1 := w') (v := .pointer (some (ad.add (j * 2)))) (by rfl) rfl ?_ ?_
            · go_simp
              try first | rfl | assumption
            refine hK.out _ _ ⟨(by rw [ha.out]; exact putSel_upk 4 hb_ rfl rfl rfl), Q_HA0, Q_GX⟩
          refine steps_cons ?_ ?_
          · rintro b a w' ⟨ha, Q_HA0, Q_GX⟩ hb_ hon hoff
            refine ⟨_, rfl, fun K hK => ?_⟩
            have e19 : a.tmps[19]? = some (.pointer (some (ad.add (j * 2)))) := by rw [ha]; exact putSel_on (e := (4, 19, .pointer (some (ad.add (j * 2))))) 4 rfl rfl (hon 4 (by kernel_rfl)) rfl
            replace ha := Aside0.mk ha
            have HA0 := Aside0.mk Q_HA0
            have hc0 := pw_cell_below HA0.out hx0'.out
            refine value_ (w1 := w') (v := .int .i64 x.f0) (by rfl) rfl ?_ ?_
            · go_simp
              (try simp only [i64_w])
              try first | rfl | assumption
            refine hK.out _ _ ⟨(by rw [ha.out]; exact putSel_upk 5 hb_ rfl rfl rfl), Q_HA0, Q_GX⟩
          refine steps_cons ?_ ?_
          · rintro b a w' ⟨ha, Q_HA0, Q_GX⟩ hb_ hon hoff
            refine ⟨_, rfl, fun K hK => ?_⟩
            have e15 : a.tmps[15]? = some (.agg #[.string a0, .int .i64 a1, .int .i64 a2, .int .i64 a3, .slice aA4 aw.length ac4, .slice aA5 am.length ac5]) := by rw [ha]; exact putSel_on (e := (0, 15, .agg #[.string a0, .int .i64 a1, .int .i64 a2, .int .i64 a3, .slice aA4 aw.length ac4, .slice aA5 am.length ac5])) 0 rfl rfl (hon 0 (by kernel_rfl)) rfl
            have e20 : a.tmps[20]? = some (.int .i64 x.f0) := by rw [ha]; exact putSel_on (e := (5, 20, .int .i64 x.f0)) 5 rfl rfl (hon 5 (by kernel_rfl)) rfl
            replace ha := Aside0.mk ha
            have HA0 := Aside0.mk Q_HA0
            have GX := Aside0.mk Q_GX
            refine goes_ Tryd.func33 (by kernel_rfl) rfl #[.agg #[.string a0, .int .i64 a1, .int .i64 a2, .int .i64 a3, .slice aA4 aw.length ac4, .slice aA5 am.length ac5], .int .i64 x.f0] (by rfl) rfl rfl (by first | (simp only [List.map_toArray, List.map_cons, List.map_nil, Act.eval, Array.getD_eq_getD_getElem?, Option.getD_some, e15, e20]; done) | (simp only [List.map_toArray, List.map_cons, List.map_nil, Act.eval, Array.getD_eq_getD_getElem?, Option.getD_some, e15, e20]; rfl)) ?_
            with_reducible refine (HF2.out w' (HB.out.trans (HA0.out.mono HB.out.size))).mono ?_
            rintro e wq ⟨rfl, hb⟩
            refine ⟨_, rfl, ?_⟩
            refine hK.out _ _ ⟨(by rw [ha.out]; exact putSel_upk 6 hb_ rfl rfl rfl), HA0.out.trans (hb.mono HA0.out.size), blk_below GX.out hb⟩
          refine steps_cons ?_ ?_
          · rintro b a w' ⟨ha, Q_HA0, Q_GX⟩ hb_ hon hoff
            refine ⟨_, rfl, fun K hK => ?_⟩
            have e21 : a.tmps[21]? = some (.int .i64 at_) := by rw [ha]; exact putSel_on (e := (6, 21, .int .i64 at_)) 6 rfl rfl (hon 6 (by kernel_rfl)) rfl
            replace ha := Aside0.mk ha
            have hd_ := HD.out
            refine value_ (w1 := w') (v := .bool false) (by rfl) rfl ?_ ?_
            · go_simp
              try first | rfl | assumption
            refine hK.out _ _ ⟨(by rw [ha.out]; exact putSel_upk 7 hb_ rfl rfl rfl), Q_HA0, Q_GX⟩
          exact steps_nil
        rintro b a wz hall ⟨ha, Q_HA0, Q_GX⟩
        clear GX HA0
        have hb0_ := hall 0 (by kernel_rfl)
        have hb1_ := hall 1 (by kernel_rfl)
        have hb2_ := hall 2 (by kernel_rfl)
        have hb3_ := hall 3 (by kernel_rfl)
        have hb4_ := hall 4 (by kernel_rfl)
        have hb5_ := hall 5 (by kernel_rfl)
        have hb6_ := hall 6 (by kernel_rfl)
        have hb7_ := hall 7 (by kernel_rfl)
        subst ha
        simp only [putSel, hb0_, hb1_, hb2_, hb3_, hb4_, hb5_, hb6_, hb7_, if_true, Act.put, List.setIfInBounds_toArray, List.set_cons_zero, List.set_cons_succ]
        have HA0 := Aside0.mk Q_HA0
        clear Q_HA0
        have GX := Aside0.mk Q_GX
        clear Q_GX
        clear hall hb0_ hb1_ hb2_ hb3_ hb4_ hb5_ hb6_ hb7_
        have GX5 := GX
        have RV5 := Aside0.mk (Kd.R_below RV.out HA0.out)
        have RU5 := Aside0.mk (Kd.R_below RU.out HA0.out)
        have HG5 : Aside0 (w.grownBy wz ob ∧ (Value.slice (some ad) n7 c7).ownBlock = ob) := ⟨grown_trans HG.out.1 (grown_of_below HA0.out _), HG.out.2⟩
        clear GX RV RU HG hx0'
        go_wp2_with fail
        go_roundw
        case rel => exact ⟨j, _, _, by omega, rfl, rfl, rfl, RV5, RU5, GX5, HG5⟩
        case measure => first | (simp [intOf]; done) | (simp [intOf]; omega)
end Go.Proofs.YtplfpbfmnogckaaDoor.TdF
