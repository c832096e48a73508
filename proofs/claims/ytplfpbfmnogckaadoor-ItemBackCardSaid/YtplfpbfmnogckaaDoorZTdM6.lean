-- Printed by prune.py: the used part of a text.
import Derived.Test.YtplfpbfmnogckaaDoorZTdM0
import Derived.Test.YtplfpbfmnogckaaDoorZTdM1
import Derived.Test.YtplfpbfmnogckaaDoorZTdG
namespace Go.Proofs.YtplfpbfmnogckaaDoor.TdM
open Go.RowKit Go.Proofs.YtplfpbfmnogckaaDoorW.PrintWords Go.Proofs.YtplfpbfmnogckaaDoorW.PrintLast Go.Proofs.YtplfpbfmnogckaaDoorW.PrintMore
attribute [local go_sem] max2_int min2_int max_two min_two max_three min_three max_four min_four
open Go.Proofs.YtplfpbfmnogckaaDoor.TdG
set_option linter.unusedVariables false
set_option linter.unusedSimpArgs false
attribute [local go_sem high] eqA37
def box_Words.l0 : Nat → List ByteArray → List Int → Int → Int → ByteArray → Int → Int → Int → List ByteArray → List (S34) → Option (List ByteArray)
  | 0, _, _, _, _, _, _, _, _, _, _ => none
  | k + 1, x5, x9, x10, x11, x136000, x136001, x136002, x136003, x136004, x136005 => if x11 < x10 then (if 0 ≤ x11 then (if x11 < (x9.length : Int) then (if (rd x9 x11) ≥ 0 then (if (rd x9 x11) < (x136004.length : Int) then (if 0 ≤ (rd x9 x11) then (if x5.length < 8796093022208 then (box_Words.l0 k (x5 ++ [rdOf ByteArray.empty x136004 (rd x9 x11)]) x9 x10 (wrap64 (x11 + 1)) x136000 x136001 x136002 x136003 x136004 x136005) else (none)) else (none)) else (box_Words.l0 k x5 x9 x10 (wrap64 (x11 + 1)) x136000 x136001 x136002 x136003 x136004 x136005)) else (box_Words.l0 k x5 x9 x10 (wrap64 (x11 + 1)) x136000 x136001 x136002 x136003 x136004 x136005)) else (none)) else (none)) else (some x5)
def box_Words.f (k : Nat) (a0_0 : ByteArray) (a0_1 : Int) (a0_2 : Int) (a0_3 : Int) (l0_4 : List ByteArray) (l0_5 : List (S34)) (a1_0 : Int) (a1_1 : Int) (a1_2 : Int) (a1_3 : ByteArray) (a1_4 : Int) (l1_5 : List Int) (a1_6 : ByteArray) : Option (List ByteArray) := box_Words.l0 k ([] : List ByteArray) l1_5 (l1_5.length : Int) 0 a0_0 a0_1 a0_2 a0_3 l0_4 l0_5
set_option maxHeartbeats 8000000 in
set_option maxRecDepth 100000 in
theorem box_Words.calls (k : Nat) (a0_0 : ByteArray) (a0_1 : Int) (a0_2 : Int) (a0_3 : Int) (A0_4 : Option Addr) (c0_4 : Nat) (l0_4 : List ByteArray) (A0_5 : Option Addr) (c0_5 : Nat) (l0_5 : List (S34)) (a1_0 : Int) (a1_1 : Int) (a1_2 : Int) (a1_3 : ByteArray) (a1_4 : Int) (A1_5 : Option Addr) (c1_5 : Nat) (l1_5 : List Int) (a1_6 : ByteArray) (r : List ByteArray) (w : World) (hr0_4 : Kd.C Kd.string w A0_4 l0_4.length l0_4) (hc0_4 : l0_4.length ≤ c0_4) (hr0_5 : Kd.C k34 w A0_5 l0_5.length l0_5) (hc0_5 : l0_5.length ≤ c0_5) (hr1_5 : Kd.C (Kd.int .i64) w A1_5 l1_5.length l1_5) (hc1_5 : l1_5.length ≤ c1_5) (h : box_Words.f k a0_0 a0_1 a0_2 a0_3 l0_4 l0_5 a1_0 a1_1 a1_2 a1_3 a1_4 l1_5 a1_6 = some r) :
    Calls Tryd.prog 46 #[.agg #[.string a0_0, .int .i64 a0_1, .int .i64 a0_2, .int .i64 a0_3, .slice A0_4 l0_4.length c0_4, .slice A0_5 l0_5.length c0_5], .agg #[.int .i64 a1_0, .int .i64 a1_1, .int .i64 a1_2, .string a1_3, .int .i64 a1_4, .slice A1_5 l1_5.length c1_5, .string a1_6]] w fun e w' => ∃ v0_ : Value, e = .returned (v0_) ∧ Kd.R Kd.string 9 w' w.heap.size (fun _ => True) v0_ r ∧ Below w.heap.size w w' := by
  have hu25 := Tryd.underlying25
  have hu34 := Tryd.underlying34
  have HR0_4 := Aside0.mk hr0_4
  have HC0_4 := Aside0.mk hc0_4
  clear hr0_4 hc0_4
  have HR0_5 := Aside0.mk hr0_5
  have HC0_5 := Aside0.mk hc0_5
  clear hr0_5 hc0_5
  have HR1_5 := Aside0.mk hr1_5
  have HC1_5 := Aside0.mk hc1_5
  clear hr1_5 hc1_5
  have HB := Aside0.mk (Below.refl w.heap.size w)
  have H : (box_Words.l0 k ([] : List ByteArray) l1_5 (l1_5.length : Int) 0 a0_0 a0_1 a0_2 a0_3 l0_4 l0_5) = some r := h
  clear h
  have H' := Aside0.mk H
  clear H
  go_enter Tryd.func46, Tryd.ntmps46
  go_wp2_with (first | ((with_reducible refine gate_dst (N := 2) rfl ?_); (try (refine gate_guard (by rfl) ?_; dsimp only)); refine box_event ?hg (N := 2) ?hd (cs := #[.string a0_0, .int .i64 a0_1, .int .i64 a0_2, .int .i64 a0_3, .slice A0_4 l0_4.length c0_4, .slice A0_5 l0_5.length c0_5]) (t := 25) ?hr ?_; (case hd => rfl); (case hg => rfl); (case hr => first | (go_simp; done) | (go_simp; rfl)); intro gb135 hg w3 hbox hb; have n0_ := Aside0.mk (below_step (by repeat (first | (with_reducible first | exact HB.out | apply below_alloc | apply pw_below_drewN | apply below_drew1) | exact HB.out)) hb); have n1_ := Aside0.mk (hbox); have n2_ := Aside0.mk ((by rw [hg]; exact (below_size (by repeat (first | (with_reducible first | exact HB.out | apply below_alloc | apply pw_below_drewN | apply below_drew1) | exact HB.out))) : w.heap.size ≤ gb135)); have n3_ := Aside0.mk ((by rw [hg]; exact (below_size (by repeat (first | (with_reducible first | exact HB.out | apply below_alloc | apply pw_below_drewN | apply below_drew1) | exact HB.out))) : w.heap.size ≤ gb135)); clear HB; have HB := n0_; have BK135 := n1_; have GW135 := n2_; have GE135 := n3_; clear n0_ n1_ n2_ n3_; clear hb hbox hg) | ((with_reducible refine gate_dst (N := 3) rfl ?_); (try (refine gate_guard (by rfl) ?_; dsimp only)); refine box_event ?hg (N := 3) ?hd (cs := #[.int .i64 a1_0, .int .i64 a1_1, .int .i64 a1_2, .string a1_3, .int .i64 a1_4, .slice A1_5 l1_5.length c1_5, .string a1_6]) (t := 34) ?hr ?_; (case hd => rfl); (case hg => rfl); (case hr => first | (go_simp; done) | (go_simp; rfl)); intro gb136 hg w4 hbox hb; have n0_ := Aside0.mk (blk_below (g := gb135) (o := .cells #[.string a0_0, .int .i64 a0_1, .int .i64 a0_2, .int .i64 a0_3, .slice A0_4 l0_4.length c0_4, .slice A0_5 l0_5.length c0_5] 25 (0, 0)) (by (with_reducible repeat (first | refine blk_drewN ?_ _ | refine blk_drew ?_ | refine blk_alloc ?_ _)); exact BK135.out) hb); have n1_ := Aside0.mk (below_step (by repeat (first | (with_reducible first | exact HB.out | apply below_alloc | apply pw_below_drewN | apply below_drew1 | refine below_set ?_ GE135.out) | exact HB.out)) hb); have n2_ := Aside0.mk (hbox); have n3_ := Aside0.mk ((by rw [hg]; exact (below_size (by repeat (first | (with_reducible first | exact HB.out | apply below_alloc | apply pw_below_drewN | apply below_drew1 | refine below_set ?_ GE135.out) | exact HB.out))) : w.heap.size ≤ gb136)); have n4_ := Aside0.mk ((by rw [hg]; exact (below_size (by repeat (first | (with_reducible first | exact HB.out | apply below_alloc | apply pw_below_drewN | apply below_drew1 | refine below_set ?_ GE135.out) | exact HB.out))) : w.heap.size ≤ gb136)); have n5_ := Aside0.mk ((by rw [hg]; exact Nat.ne_of_lt (blk_lt (g := gb135) (o := .cells #[.string a0_0, .int .i64 a0_1, .int .i64 a0_2, .int .i64 a0_3, .slice A0_4 l0_4.length c0_4, .slice A0_5 l0_5.length c0_5] 25 (0, 0)) (by (with_reducible repeat (first | refine blk_drewN ?_ _ | refine blk_drew ?_ | refine blk_alloc ?_ _)); exact BK135.out)) : gb135 ≠ gb136)); have n6_ := Aside0.mk ((by rw [hg]; exact Nat.ne_of_gt (blk_lt (g := gb135) (o := .cells #[.string a0_0, .int .i64 a0_1, .int .i64 a0_2, .int .i64 a0_3, .slice A0_4 l0_4.length c0_4, .slice A0_5 l0_5.length c0_5] 25 (0, 0)) (by (with_reducible repeat (first | refine blk_drewN ?_ _ | refine blk_drew ?_ | refine blk_alloc ?_ _)); exact BK135.out)) : gb136 ≠ gb135)); clear BK135; clear HB; have BK135 := n0_; have HB := n1_; have BK136 := n2_; have GW136 := n3_; have GE136 := n4_; have NB135_136 := n5_; have NB136_135 := n6_; clear n0_ n1_ n2_ n3_ n4_ n5_ n6_; clear hb hbox hg; have hnb5 := NB136_135.out; have hnc5 := NB135_136.out; have hcz6_0 : w4.cell? ⟨gb136, 0, none⟩ = some (.int .i64 a1_0) := (blk_cell BK136.out 0).trans rfl; have hcz6_1 : w4.cell? ⟨gb136, 1, none⟩ = some (.int .i64 a1_1) := (blk_cell BK136.out 1).trans rfl; have hcz6_2 : w4.cell? ⟨gb136, 2, none⟩ = some (.int .i64 a1_2) := (blk_cell BK136.out 2).trans rfl; have hcz6_3 : w4.cell? ⟨gb136, 3, none⟩ = some (.string a1_3) := (blk_cell BK136.out 3).trans rfl; have hcz6_4 : w4.cell? ⟨gb136, 4, none⟩ = some (.int .i64 a1_4) := (blk_cell BK136.out 4).trans rfl; have hcz6_5 : w4.cell? ⟨gb136, 5, none⟩ = some (.slice A1_5 l1_5.length c1_5) := (blk_cell BK136.out 5).trans rfl; have hcz6_6 : w4.cell? ⟨gb136, 6, none⟩ = some (.string a1_6) := (blk_cell BK136.out 6).trans rfl; have hfz6_0 := blk_frozen BK136.out 0; have hfz6_1 := blk_frozen BK136.out 1; have hfz6_2 := blk_frozen BK136.out 2; have hfz6_3 := blk_frozen BK136.out 3; have hfz6_4 := blk_frozen BK136.out 4; have hfz6_5 := blk_frozen BK136.out 5; have hfz6_6 := blk_frozen BK136.out 6))
  go_loopg [5, 11] k (fun kq v5 v11 w' => ∃ (x5_1 : List ByteArray) (x11_1 : Int), v11 = .int .i64 x11_1 ∧ Aside0 (box_Words.l0 kq x5_1 l1_5 (l1_5.length : Int) x11_1 a0_0 a0_1 a0_2 a0_3 l0_4 l0_5 = some r) ∧ Aside0 (kq ≤ k) ∧ Aside0 (Kd.R Kd.string 9 w' w.heap.size (fun _ => True) v5 x5_1) ∧ Aside0 (w'.heap[gb135]? = some (.cells #[.string a0_0, .int .i64 a0_1, .int .i64 a0_2, .int .i64 a0_3, (.slice A0_4 l0_4.length c0_4), (.slice A0_5 l0_5.length c0_5)] 25 (0, 0))) ∧ Aside0 (w'.heap[gb136]? = some (.cells #[.int .i64 a1_0, .int .i64 a1_1, .int .i64 a1_2, .string a1_3, .int .i64 a1_4, (.slice A1_5 l1_5.length c1_5), .string a1_6] 34 (0, 0))) ∧ Aside0 (Below w.heap.size w w'))
  case atStart => exact ⟨(([] : List ByteArray)), (0), (by first | rfl | (simp; done) | (simp [*]; done)), H', ⟨Nat.le_refl _⟩, ⟨by first | exact Kd.R_nil _ _ _ _ _ | exact Kd.N_nil _ _ _ _ _ | exact Kd.V_nil _ _ _ _ _ | exact Kd.Q_nil _ _ _ _ _ | exact Kd.S_nil _ _ _ _ _⟩, ⟨by (with_reducible repeat (first | refine blk_drewN ?_ _ | refine blk_drew ?_ | refine blk_alloc ?_ _)); exact BK135.out⟩, ⟨by (with_reducible repeat (first | refine blk_drewN ?_ _ | refine blk_drew ?_ | refine blk_alloc ?_ _)); exact BK136.out⟩, ⟨by repeat (first | (with_reducible first | exact HB.out | apply below_alloc | apply pw_below_drewN | apply below_drew1 | refine below_set ?_ GE135.out | refine below_set ?_ GE136.out) | exact HB.out)⟩⟩
  case round =>
    clear H'
    try clear c1
    try clear p2
    try clear c4
    try clear c5
    try clear hcz6_0
    try clear hcz6_1
    try clear hcz6_2
    try clear hcz6_3
    try clear hcz6_4
    try clear hcz6_5
    try clear hcz6_6
    try clear hfz6_0
    try clear hfz6_1
    try clear hfz6_2
    try clear hfz6_3
    try clear hfz6_4
    try clear hfz6_5
    try clear hfz6_6
    obtain ⟨x5_1, x11_1, rfl, HA, HK1, HO_5, BK135, BK136, HB⟩ := hrel
    cases gk with
    | zero => exact absurd HA.out (by simp [box_Words.l0])
    | succ k1 =>
      have H := HA.out
      clear HA
      simp only [box_Words.l0] at H
      by_cases c7 : x11_1 < (l1_5.length : Int)
      · rw [if_pos c7] at H
        have c7b0 : decide (x11_1 < (l1_5.length : Int)) = true := decide_eq_true c7
        clear c7
        by_cases c8 : 0 ≤ x11_1
        · rw [if_pos c8] at H
          have c8b0 : decide (0 ≤ x11_1) = true := decide_eq_true c8
          clear c8
          by_cases c9 : x11_1 < (l1_5.length : Int)
          · rw [if_pos c9] at H
            have c9b0 : decide (x11_1 < (l1_5.length : Int)) = true := decide_eq_true c9
            clear c9
            by_cases c10 : (rd l1_5 x11_1) ≥ 0
            · rw [if_pos c10] at H
              have c10b0 : decide (0 ≤ (rd l1_5 x11_1)) = true := decide_eq_true c10
              clear c10
              by_cases c11 : (rd l1_5 x11_1) < (l0_4.length : Int)
              · rw [if_pos c11] at H
                have c11b0 : decide ((rd l1_5 x11_1) < (l0_4.length : Int)) = true := decide_eq_true c11
                clear c11
                by_cases c12 : 0 ≤ (rd l1_5 x11_1)
                · rw [if_pos c12] at H
                  have c12b0 : decide (0 ≤ (rd l1_5 x11_1)) = true := decide_eq_true c12
                  clear c12
                  by_cases c13 : x5_1.length < 8796093022208
                  · rw [if_pos c13] at H
                    have LMc13 := Aside0.mk c13
                    clear c13
                    obtain ⟨y139, hy139⟩ : ∃ y_ : List ByteArray, y_ = (x5_1 ++ [rdOf ByteArray.empty l0_4 (rd l1_5 x11_1)]) := ⟨_, rfl⟩
                    replace H : (box_Words.l0 k1 y139 l1_5 (l1_5.length : Int) (wrap64 (x11_1 + 1)) a0_0 a0_1 a0_2 a0_3 l0_4 l0_5) = some r := by first | (rw [hy139]; with_reducible exact H) | (have H2_ := (Option.bind_some _ _).symm.trans H; rw [hy139]; with_reducible exact H2_) | (have H2_ := (Option.bind_some _ _).symm.trans H; with_reducible exact H2_) | with_reducible exact H | (rw [hy139]; exact H) | exact H
                    have Ny139 := Aside0.mk hy139
                    clear hy139
                    have H' := Aside0.mk H
                    clear H
                    have p137 : 0 ≤ (x11_1 : Int) := of_decide_eq_true (by first | (with_reducible assumption) | assumption)
                    have q137 : x11_1 < (l1_5.length : Int) := of_decide_eq_true (by first | (with_reducible assumption) | assumption)
                    obtain ⟨ad137, e137, hx137_0⟩ := Kd.at_int HR1_5.out x11_1 p137 q137
                    cases e137
                    replace hx137_0 := (HB.out.cell (World.block_lt_of_cell? w _ hx137_0)).trans hx137_0
                    replace p137 := eq_true p137
                    replace q137 := eq_true q137
                    have hnb14 := NB135_136.out
                    have hnc14 := NB136_135.out
                    have hcz15_0 : wr.cell? ⟨gb135, 0, none⟩ = some (.string a0_0) := (blk_cell BK135.out 0).trans rfl
                    have hcz15_1 : wr.cell? ⟨gb135, 1, none⟩ = some (.int .i64 a0_1) := (blk_cell BK135.out 1).trans rfl
                    have hcz15_2 : wr.cell? ⟨gb135, 2, none⟩ = some (.int .i64 a0_2) := (blk_cell BK135.out 2).trans rfl
                    have hcz15_3 : wr.cell? ⟨gb135, 3, none⟩ = some (.int .i64 a0_3) := (blk_cell BK135.out 3).trans rfl
                    have hcz15_4 : wr.cell? ⟨gb135, 4, none⟩ = some (.slice A0_4 l0_4.length c0_4) := (blk_cell BK135.out 4).trans rfl
                    have hcz15_5 : wr.cell? ⟨gb135, 5, none⟩ = some (.slice A0_5 l0_5.length c0_5) := (blk_cell BK135.out 5).trans rfl
                    have hfz15_0 := blk_frozen BK135.out 0
                    have hfz15_1 := blk_frozen BK135.out 1
                    have hfz15_2 := blk_frozen BK135.out 2
                    have hfz15_3 := blk_frozen BK135.out 3
                    have hfz15_4 := blk_frozen BK135.out 4
                    have hfz15_5 := blk_frozen BK135.out 5
                    have p138 : 0 ≤ ((rd l1_5 x11_1) : Int) := of_decide_eq_true (by first | (with_reducible assumption) | assumption)
                    have q138 : (rd l1_5 x11_1) < (l0_4.length : Int) := of_decide_eq_true (by first | (with_reducible assumption) | assumption)
                    obtain ⟨ad138, e138, hx138_0⟩ := Kd.at_string HR0_4.out (rd l1_5 x11_1) p138 q138
                    cases e138
                    replace hx138_0 := (HB.out.cell (World.block_lt_of_cell? w _ hx138_0)).trans hx138_0
                    replace p138 := eq_true p138
                    replace q138 := eq_true q138
                    go_wp2_with (first | ((with_reducible refine gate_builtin (b := .append) (xs := #[.tmp 24, .tmp 30]) rfl ?_); (try (refine gate_guard (by rfl) ?_; dsimp only)); at_builtin; refine Kd.R_append Kd.string (w0 := w) w.heap.size rfl (.tmp 24) (.tmp 30) 22 9 (.string ⟨#[]⟩) 16 rfl Tryd.underlying22 info9 rfl (by decide) (by omega) u5 x5_1 (rdOf ByteArray.empty l0_4 (rd l1_5 x11_1)) [.string (rdOf ByteArray.empty l0_4 (rd l1_5 x11_1))] (fun _ => True) (fun _ => False) rfl rfl ?aP (fun _ hk => hk.elim) ?aF ?aO ?aB ?aS ?aL ?_; (case aP => exact rfl); (case aB => exact (by repeat (first | (with_reducible first | exact HB.out | apply below_alloc | apply pw_below_drewN | apply below_drew1 | refine below_set ?_ GE135.out | refine below_set ?_ GE136.out) | exact HB.out))); (case aF => exact (fun _ _ => trivial)); (case aO => exact (by (with_reducible repeat (first | apply Kd.R_alloc | apply Kd.R_drewN | apply Kd.R_drew)); exact HO_5.out)); (case aS => exact (below_size (by repeat (first | (with_reducible first | exact HB.out | apply below_alloc | apply pw_below_drewN | apply below_drew1 | refine below_set ?_ GE135.out | refine below_set ?_ GE136.out) | exact HB.out)))); (case aL => have := LMc13.out; omega); intro v140 w16 ho hb hg hat; rw [← Ny139.out] at ho; have n0_ := Aside0.mk (blk_grown (g := gb135) (o := .cells #[.string a0_0, .int .i64 a0_1, .int .i64 a0_2, .int .i64 a0_3, .slice (some ad138) l0_4.length c0_4, .slice A0_5 l0_5.length c0_5] 25 (0, 0)) (by (with_reducible repeat (first | refine blk_drewN ?_ _ | refine blk_drew ?_ | refine blk_alloc ?_ _)); exact BK135.out) hg (Kd.R_ne HO_5.out BK135.out (by decide))); have n1_ := Aside0.mk (blk_grown (g := gb136) (o := .cells #[.int .i64 a1_0, .int .i64 a1_1, .int .i64 a1_2, .string a1_3, .int .i64 a1_4, .slice (some ad137) l1_5.length c1_5, .string a1_6] 34 (0, 0)) (by (with_reducible repeat (first | refine blk_drewN ?_ _ | refine blk_drew ?_ | refine blk_alloc ?_ _)); exact BK136.out) hg (Kd.R_ne HO_5.out BK136.out (by decide))); have n2_ := Aside0.mk (hb); have n3_ := Aside0.mk (ho); clear BK135; clear BK136; clear HB; clear HO_5; have BK135 := n0_; have BK136 := n1_; have HB := n2_; have HO141 := n3_; clear n0_ n1_ n2_ n3_; clear ho hb hg hat))
                    go_roundg k1
                    case measure => have := HK1.out; omega
                    case rel => exact ⟨(y139), (wrap64 (x11_1 + 1)), (by first | rfl | (simp; done) | (simp [*]; done)), H', ⟨by have := HK1.out; omega⟩, ⟨by (with_reducible repeat (first | apply Kd.R_alloc | apply Kd.R_drewN | apply Kd.R_drew)); exact HO141.out⟩, ⟨by (with_reducible repeat (first | refine blk_drewN ?_ _ | refine blk_drew ?_ | refine blk_alloc ?_ _)); exact BK135.out⟩, ⟨by (with_reducible repeat (first | refine blk_drewN ?_ _ | refine blk_drew ?_ | refine blk_alloc ?_ _)); exact BK136.out⟩, ⟨by repeat (first | (with_reducible first | exact HB.out | apply below_alloc | apply pw_below_drewN | apply below_drew1 | refine below_set ?_ GE135.out | refine below_set ?_ GE136.out) | exact HB.out)⟩⟩
                  · rw [if_neg c13] at H
                    exact absurd H (by simp)
                · rw [if_neg c12] at H
                  exact absurd H (by simp)
              · rw [if_neg c11] at H
                have c11b0 : decide ((rd l1_5 x11_1) < (l0_4.length : Int)) = false := decide_eq_false c11
                clear c11
                have H' := Aside0.mk H
                clear H
                have p137 : 0 ≤ (x11_1 : Int) := of_decide_eq_true (by first | (with_reducible assumption) | assumption)
                have q137 : x11_1 < (l1_5.length : Int) := of_decide_eq_true (by first | (with_reducible assumption) | assumption)
                obtain ⟨ad137, e137, hx137_0⟩ := Kd.at_int HR1_5.out x11_1 p137 q137
                cases e137
                replace hx137_0 := (HB.out.cell (World.block_lt_of_cell? w _ hx137_0)).trans hx137_0
                replace p137 := eq_true p137
                replace q137 := eq_true q137
                have hnb17 := NB135_136.out
                have hnc17 := NB136_135.out
                have hcz18_0 : wr.cell? ⟨gb135, 0, none⟩ = some (.string a0_0) := (blk_cell BK135.out 0).trans rfl
                have hcz18_1 : wr.cell? ⟨gb135, 1, none⟩ = some (.int .i64 a0_1) := (blk_cell BK135.out 1).trans rfl
                have hcz18_2 : wr.cell? ⟨gb135, 2, none⟩ = some (.int .i64 a0_2) := (blk_cell BK135.out 2).trans rfl
                have hcz18_3 : wr.cell? ⟨gb135, 3, none⟩ = some (.int .i64 a0_3) := (blk_cell BK135.out 3).trans rfl
                have hcz18_4 : wr.cell? ⟨gb135, 4, none⟩ = some (.slice A0_4 l0_4.length c0_4) := (blk_cell BK135.out 4).trans rfl
                have hcz18_5 : wr.cell? ⟨gb135, 5, none⟩ = some (.slice A0_5 l0_5.length c0_5) := (blk_cell BK135.out 5).trans rfl
                have hfz18_0 := blk_frozen BK135.out 0
                have hfz18_1 := blk_frozen BK135.out 1
                have hfz18_2 := blk_frozen BK135.out 2
                have hfz18_3 := blk_frozen BK135.out 3
                have hfz18_4 := blk_frozen BK135.out 4
                have hfz18_5 := blk_frozen BK135.out 5
                go_wp2
                go_roundg k1
                case measure => have := HK1.out; omega
                case rel => exact ⟨(x5_1), (wrap64 (x11_1 + 1)), (by first | rfl | (simp; done) | (simp [*]; done)), H', ⟨by have := HK1.out; omega⟩, ⟨by (with_reducible repeat (first | apply Kd.R_alloc | apply Kd.R_drewN | apply Kd.R_drew)); exact HO_5.out⟩, ⟨by (with_reducible repeat (first | refine blk_drewN ?_ _ | refine blk_drew ?_ | refine blk_alloc ?_ _)); exact BK135.out⟩, ⟨by (with_reducible repeat (first | refine blk_drewN ?_ _ | refine blk_drew ?_ | refine blk_alloc ?_ _)); exact BK136.out⟩, ⟨by repeat (first | (with_reducible first | exact HB.out | apply below_alloc | apply pw_below_drewN | apply below_drew1 | refine below_set ?_ GE135.out | refine below_set ?_ GE136.out) | exact HB.out)⟩⟩
            · rw [if_neg c10] at H
              have c10b0 : decide (0 ≤ (rd l1_5 x11_1)) = false := decide_eq_false c10
              clear c10
              have H' := Aside0.mk H
              clear H
              have p137 : 0 ≤ (x11_1 : Int) := of_decide_eq_true (by first | (with_reducible assumption) | assumption)
              have q137 : x11_1 < (l1_5.length : Int) := of_decide_eq_true (by first | (with_reducible assumption) | assumption)
              obtain ⟨ad137, e137, hx137_0⟩ := Kd.at_int HR1_5.out x11_1 p137 q137
              cases e137
              replace hx137_0 := (HB.out.cell (World.block_lt_of_cell? w _ hx137_0)).trans hx137_0
              replace p137 := eq_true p137
              replace q137 := eq_true q137
              go_wp2
              go_roundg k1
              case measure => have := HK1.out; omega
              case rel => exact ⟨(x5_1), (wrap64 (x11_1 + 1)), (by first | rfl | (simp; done) | (simp [*]; done)), H', ⟨by have := HK1.out; omega⟩, ⟨by (with_reducible repeat (first | apply Kd.R_alloc | apply Kd.R_drewN | apply Kd.R_drew)); exact HO_5.out⟩, ⟨by (with_reducible repeat (first | refine blk_drewN ?_ _ | refine blk_drew ?_ | refine blk_alloc ?_ _)); exact BK135.out⟩, ⟨by (with_reducible repeat (first | refine blk_drewN ?_ _ | refine blk_drew ?_ | refine blk_alloc ?_ _)); exact BK136.out⟩, ⟨by repeat (first | (with_reducible first | exact HB.out | apply below_alloc | apply pw_below_drewN | apply below_drew1 | refine below_set ?_ GE135.out | refine below_set ?_ GE136.out) | exact HB.out)⟩⟩
          · rw [if_neg c9] at H
            exact absurd H (by simp)
        · rw [if_neg c8] at H
          exact absurd H (by simp)
      · rw [if_neg c7] at H
        have c7b0 : decide (x11_1 < (l1_5.length : Int)) = false := decide_eq_false c7
        clear c7
        obtain rfl := Option.some.inj H
        go_wp2
        go_ret
        exact ⟨_, by first | rfl | (simp [errW_none, errW_some] <;> rfl) | (simp [*, errW_none, errW_some] <;> rfl), by (with_reducible repeat (first | apply Kd.R_alloc | apply Kd.R_drewN | apply Kd.R_drew)); exact HO_5.out, by repeat (first | (with_reducible first | exact HB.out | apply below_alloc | apply pw_below_drewN | apply below_drew1 | refine below_set ?_ GE135.out | refine below_set ?_ GE136.out) | exact HB.out)⟩
def flag_names.f  : Option (List ByteArray) := some (([(⟨#[92, 65, 110, 115, 119, 101, 114, 101, 100]⟩ : ByteArray), (⟨#[92, 70, 108, 97, 103, 103, 101, 100]⟩ : ByteArray), (⟨#[92, 68, 101, 108, 101, 116, 101, 100]⟩ : ByteArray), (⟨#[92, 83, 101, 101, 110]⟩ : ByteArray), (⟨#[92, 68, 114, 97, 102, 116]⟩ : ByteArray)] : List ByteArray))
set_option maxHeartbeats 8000000 in
set_option maxRecDepth 100000 in
theorem flag_names.calls  (r : List ByteArray) (w : World) (h : flag_names.f  = some r) :
    Calls Tryd.prog 61 #[] w fun e w' => ∃ v0_ : Value, e = .returned (v0_) ∧ Kd.R Kd.string 9 w' w.heap.size (fun _ => True) v0_ r ∧ Below w.heap.size w w' := by
  have HB := Aside0.mk (Below.refl w.heap.size w)
  have H : (some (([(⟨#[92, 65, 110, 115, 119, 101, 114, 101, 100]⟩ : ByteArray), (⟨#[92, 70, 108, 97, 103, 103, 101, 100]⟩ : ByteArray), (⟨#[92, 68, 101, 108, 101, 116, 101, 100]⟩ : ByteArray), (⟨#[92, 83, 101, 101, 110]⟩ : ByteArray), (⟨#[92, 68, 114, 97, 102, 116]⟩ : ByteArray)] : List ByteArray))) = some r := h
  clear h
  obtain ⟨y142, hy142⟩ : ∃ y_ : List ByteArray, y_ = (([(⟨#[92, 65, 110, 115, 119, 101, 114, 101, 100]⟩ : ByteArray), (⟨#[92, 70, 108, 97, 103, 103, 101, 100]⟩ : ByteArray), (⟨#[92, 68, 101, 108, 101, 116, 101, 100]⟩ : ByteArray), (⟨#[92, 83, 101, 101, 110]⟩ : ByteArray), (⟨#[92, 68, 114, 97, 102, 116]⟩ : ByteArray)] : List ByteArray)) := ⟨_, rfl⟩
  replace H : (some y142) = some r := by first | (rw [hy142]; with_reducible exact H) | (have H2_ := (Option.bind_some _ _).symm.trans H; rw [hy142]; with_reducible exact H2_) | (have H2_ := (Option.bind_some _ _).symm.trans H; with_reducible exact H2_) | with_reducible exact H | (rw [hy142]; exact H) | exact H
  have Ny142 := Aside0.mk hy142
  clear hy142
  obtain rfl := Option.some.inj H
  go_enter Tryd.func61, Tryd.ntmps61
  go_wp2_with (first | ((with_reducible refine gate_dst (N := 1) rfl ?_); refine Kd.R_lit Kd.string _ 9 ?hg (N := 1) ?hd (xs := ([(⟨#[92, 65, 110, 115, 119, 101, 114, 101, 100]⟩ : ByteArray), (⟨#[92, 70, 108, 97, 103, 103, 101, 100]⟩ : ByteArray), (⟨#[92, 68, 101, 108, 101, 116, 101, 100]⟩ : ByteArray), (⟨#[92, 83, 101, 101, 110]⟩ : ByteArray), (⟨#[92, 68, 114, 97, 102, 116]⟩ : ByteArray)] : List ByteArray)) (inner := [.string (⟨#[92, 65, 110, 115, 119, 101, 114, 101, 100]⟩ : ByteArray), .string (⟨#[92, 70, 108, 97, 103, 103, 101, 100]⟩ : ByteArray), .string (⟨#[92, 68, 101, 108, 101, 116, 101, 100]⟩ : ByteArray), .string (⟨#[92, 83, 101, 101, 110]⟩ : ByteArray), .string (⟨#[92, 68, 114, 97, 102, 116]⟩ : ByteArray)]) (ok := fun _ => True) (okp := fun _ => True) ?hr ?hp (fun _ hk => hk) trivial (Below.refl _ _) (Nat.le_refl _) (by simp) ?_; (case hd => rfl); (case hg => rfl); (case hr => first | (go_simp; done) | (go_simp; rfl)); (case hp => exact (Reps.one (show Kd.M Kd.string _ _ _ (⟨#[92, 65, 110, 115, 119, 101, 114, 101, 100]⟩ : ByteArray) [.string (⟨#[92, 65, 110, 115, 119, 101, 114, 101, 100]⟩ : ByteArray)] from rfl) (Reps.one (show Kd.M Kd.string _ _ _ (⟨#[92, 70, 108, 97, 103, 103, 101, 100]⟩ : ByteArray) [.string (⟨#[92, 70, 108, 97, 103, 103, 101, 100]⟩ : ByteArray)] from rfl) (Reps.one (show Kd.M Kd.string _ _ _ (⟨#[92, 68, 101, 108, 101, 116, 101, 100]⟩ : ByteArray) [.string (⟨#[92, 68, 101, 108, 101, 116, 101, 100]⟩ : ByteArray)] from rfl) (Reps.one (show Kd.M Kd.string _ _ _ (⟨#[92, 83, 101, 101, 110]⟩ : ByteArray) [.string (⟨#[92, 83, 101, 101, 110]⟩ : ByteArray)] from rfl) (Reps.one (show Kd.M Kd.string _ _ _ (⟨#[92, 68, 114, 97, 102, 116]⟩ : ByteArray) [.string (⟨#[92, 68, 114, 97, 102, 116]⟩ : ByteArray)] from rfl) (Reps.none _ _))))))); intro v143 w1 ho2 hb hg_ hnew_; clear hg_ hnew_; (first | rw [← Ny142.out] at ho2 | (simp only [Int.reduceToNat] at ho2; rw [← Ny142.out] at ho2)); have n0_ := Aside0.mk (Kd.R_lower ho2 (below_size (by repeat (first | (with_reducible first | exact HB.out | apply below_alloc | apply pw_below_drewN | apply below_drew1) | exact HB.out)))); have n1_ := Aside0.mk (below_step (by repeat (first | (with_reducible first | exact HB.out | apply below_alloc | apply pw_below_drewN | apply below_drew1) | exact HB.out)) hb); clear HB; have HO144 := n0_; have HB := n1_; clear n0_ n1_; clear hb ho2))
  go_ret
  exact ⟨_, by first | rfl | (simp [errW_none, errW_some] <;> rfl) | (simp [*, errW_none, errW_some] <;> rfl), by (with_reducible repeat (first | apply Kd.R_alloc | apply Kd.R_drewN | apply Kd.R_drew)); exact HO144.out, by repeat (first | (with_reducible first | exact HB.out | apply below_alloc | apply pw_below_drewN | apply below_drew1) | exact HB.out)⟩
def flag_Text.l0 : Nat → Int → List ByteArray → List ByteArray → List ByteArray → Int → Int → Option (ByteArray)
  | 0, _, _, _, _, _, _ => none
  | k + 1, x0, x1, x5, x8, x9, x10 => if x10 < x9 then (if 0 ≤ x10 then (if x10 < (x8.length : Int) then (if (Go.bits .and .i64 (shr .i64 x0 x10) 1) = 1 then (if x5.length < 8796093022208 then (flag_Text.l0 k x0 x1 (x5 ++ [rdOf ByteArray.empty x8 x10]) x8 x9 (wrap64 (x10 + 1))) else (none)) else (flag_Text.l0 k x0 x1 x5 x8 x9 (wrap64 (x10 + 1)))) else (none)) else (none)) else (if x5.length + x1.length < 8796093022208 then ((strings_Join.f (x5 ++ x1) (⟨#[32]⟩ : ByteArray)).bind fun t155 => (if 1 + t155.size ≤ 9223372036854775807 then (if ((⟨#[40]⟩ : ByteArray) ++ t155).size + 1 ≤ 9223372036854775807 then (some (((⟨#[40]⟩ : ByteArray) ++ t155) ++ (⟨#[41]⟩ : ByteArray))) else (none)) else (none))) else (none))
def flag_Text.f (k : Nat) (a0 : Int) (l1 : List ByteArray) : Option (ByteArray) := (flag_names.f).bind fun t145 => (flag_Text.l0 k a0 l1 ([] : List ByteArray) t145 (t145.length : Int) 0)
set_option maxHeartbeats 8000000 in
set_option maxRecDepth 100000 in
theorem flag_Text.calls (k : Nat) (a0 : Int) (A1 : Option Addr) (c1 : Nat) (l1 : List ByteArray) (r : ByteArray) (w : World) (hr1 : Kd.C Kd.string w A1 l1.length l1) (hc1 : l1.length ≤ c1) (h : flag_Text.f k a0 l1 = some r) :
    Calls Tryd.prog 45 #[.int .i64 a0, .slice A1 l1.length c1] w fun e w' => e = .returned (.string r) ∧ Below w.heap.size w w' := by
  have HR1 := Aside0.mk hr1
  have HC1 := Aside0.mk hc1
  clear hr1 hc1
  have HB := Aside0.mk (Below.refl w.heap.size w)
  have H : ((flag_names.f).bind fun t145 => (flag_Text.l0 k a0 l1 ([] : List ByteArray) t145 (t145.length : Int) 0)) = some r := h
  clear h
  replace H := Option.bind_eq_some_iff.mp H
  obtain ⟨t145, A30, H⟩ := H
  replace H : (flag_Text.l0 k a0 l1 ([] : List ByteArray) t145 (t145.length : Int) 0) = some r := H
  have A3 := Aside0.mk A30
  clear A30
  have H' := Aside0.mk H
  clear H
  go_enter Tryd.func45, Tryd.ntmps45
  go_wp2_with (first | ((with_reducible refine gate_callee (f := 61) rfl ?_); refine goesL_ (some 8) rfl rfl Tryd.func61 (by kernel_rfl) rfl #[] rfl (by (try simp only [List.map_toArray, List.map_cons, List.map_nil]); first | done | rfl | (simp only [List.length_drop, List.length_take]; rfl)) ?_; (with_reducible refine (flag_names.calls  t145 _ A3.out).mono ?_); rintro e w4 ⟨v146, rfl, ho0, hb⟩; refine ⟨_, rfl, ?_⟩; have n0_ := Aside0.mk (Kd.R_lower ho0 (below_size (by repeat (first | (with_reducible first | exact HB.out | apply below_alloc | apply pw_below_drewN | apply below_drew1) | exact HB.out)))); have n1_ := Aside0.mk (below_step (by repeat (first | (with_reducible first | exact HB.out | apply below_alloc | apply pw_below_drewN | apply below_drew1) | exact HB.out)) hb); clear HB; have HO147 := n0_; have HB := n1_; clear n0_ n1_; (try clear hb); (try clear hb2); (try clear hk); (try clear hi); (try clear ho0); obtain ⟨Ao5, co5, eo5⟩ := Kd.R_slice HO147.out; subst eo5))
  go_loopg [5, 10] k (fun kq v5 v10 w' => ∃ (x5_1 : List ByteArray) (x10_1 : Int), v10 = .int .i64 x10_1 ∧ Aside0 (flag_Text.l0 kq a0 l1 x5_1 t145 (t145.length : Int) x10_1 = some r) ∧ Aside0 (kq ≤ k) ∧ Aside0 (Kd.R Kd.string 9 w' w.heap.size (fun k_ => some k_ ≠ ((.slice Ao5 t145.length co5) : Value).ownBlock) v5 x5_1) ∧ Aside0 (Kd.R Kd.string 9 w' w.heap.size (fun k_ => some k_ ≠ (v5 : Value).ownBlock) (.slice Ao5 t145.length co5) t145) ∧ Aside0 (Below w.heap.size w w'))
  case atStart => exact ⟨(([] : List ByteArray)), (0), (by first | rfl | (simp; done) | (simp [*]; done)), H', ⟨Nat.le_refl _⟩, ⟨by first | exact Kd.R_nil _ _ _ _ _ | exact Kd.N_nil _ _ _ _ _ | exact Kd.V_nil _ _ _ _ _ | exact Kd.Q_nil _ _ _ _ _ | exact Kd.S_nil _ _ _ _ _⟩, ⟨by (with_reducible repeat (first | apply Kd.R_alloc | apply Kd.R_drewN | apply Kd.R_drew)); exact Kd.R_mono HO147.out (fun _ hk => (by simp [Value.ownBlock]))⟩, ⟨by repeat (first | (with_reducible first | exact HB.out | apply below_alloc | apply pw_below_drewN | apply below_drew1) | exact HB.out)⟩⟩
  case round =>
    clear H'
    try clear c1
    try clear p2
    try clear c4
    obtain ⟨x5_1, x10_1, rfl, HA, HK1, HO_5, HO_8, HB⟩ := hrel
    cases gk with
    | zero => exact absurd HA.out (by simp [flag_Text.l0])
    | succ k1 =>
      have H := HA.out
      clear HA
      simp only [flag_Text.l0] at H
      by_cases c6 : x10_1 < (t145.length : Int)
      · rw [if_pos c6] at H
        have c6b0 : decide (x10_1 < (t145.length : Int)) = true := decide_eq_true c6
        clear c6
        by_cases c7 : 0 ≤ x10_1
        · rw [if_pos c7] at H
          have c7b0 : decide (0 ≤ x10_1) = true := decide_eq_true c7
          clear c7
          by_cases c8 : x10_1 < (t145.length : Int)
          · rw [if_pos c8] at H
            have c8b0 : decide (x10_1 < (t145.length : Int)) = true := decide_eq_true c8
            clear c8
            have c9b0 := eq_true (of_decide_eq_true (by first | (with_reducible assumption) | assumption) : 0 ≤ x10_1)
            obtain ⟨ji10, hji10⟩ : ∃ j_ : Int, (shr .i64 a0 x10_1) = j_ := ⟨_, rfl⟩
            replace H : (if (Go.bits .and .i64 (ji10) 1) = 1 then (if x5_1.length < 8796093022208 then (flag_Text.l0 k1 a0 l1 (x5_1 ++ [rdOf ByteArray.empty t145 x10_1]) t145 (t145.length : Int) (wrap64 (x10_1 + 1))) else (none)) else (flag_Text.l0 k1 a0 l1 x5_1 t145 (t145.length : Int) (wrap64 (x10_1 + 1)))) = some r := by first | (rw [hji10] at H; exact H) | (simp only [hji10] at H ⊢; exact H)
            have hji10_ : (a0 / 2 ^ min x10_1.toNat 64) = ji10 := hji10
            have hji10z : x10_1 ≤ 64 → (a0 / 2 ^ x10_1.toNat) = ji10 := shr_small hji10
            by_cases c11 : (Go.bits .and .i64 (ji10) 1) = 1
            · rw [if_pos c11] at H
              have c11b0 : ((Go.bits .and .i64 (ji10) 1) == 1) = true := beq_iff_eq.mpr c11
              have c11b1 : ((Go.bits .and .i64 (ji10) 1) != 1) = false := bne_eq_false_iff_eq.mpr c11
              clear c11
              by_cases c12 : x5_1.length < 8796093022208
              · rw [if_pos c12] at H
                have LMc12 := Aside0.mk c12
                clear c12
                obtain ⟨y149, hy149⟩ : ∃ y_ : List ByteArray, y_ = (x5_1 ++ [rdOf ByteArray.empty t145 x10_1]) := ⟨_, rfl⟩
                replace H : (flag_Text.l0 k1 a0 l1 y149 t145 (t145.length : Int) (wrap64 (x10_1 + 1))) = some r := by first | (rw [hy149]; with_reducible exact H) | (have H2_ := (Option.bind_some _ _).symm.trans H; rw [hy149]; with_reducible exact H2_) | (have H2_ := (Option.bind_some _ _).symm.trans H; with_reducible exact H2_) | with_reducible exact H | (rw [hy149]; exact H) | exact H
                have Ny149 := Aside0.mk hy149
                clear hy149
                have H' := Aside0.mk H
                clear H
                have p148 : 0 ≤ (x10_1 : Int) := of_decide_eq_true (by first | (with_reducible assumption) | assumption)
                have q148 : x10_1 < (t145.length : Int) := of_decide_eq_true (by first | (with_reducible assumption) | assumption)
                obtain ⟨ad148, e148, hx148_0⟩ := Kd.at_string (Kd.R_reads' HO_8.out).2.2 x10_1 p148 q148
                cases e148
                replace p148 := eq_true p148
                replace q148 := eq_true q148
                go_wp2_with (first | ((with_reducible refine gate_builtin (b := .append) (xs := #[.tmp 20, .tmp 22]) rfl ?_); at_builtin; refine Kd.R_append Kd.string (w0 := w) w.heap.size rfl (.tmp 20) (.tmp 22) 22 9 (.string ⟨#[]⟩) 16 rfl Tryd.underlying22 info9 rfl (by decide) (by omega) u5 x5_1 (rdOf ByteArray.empty t145 x10_1) [.string (rdOf ByteArray.empty t145 x10_1)] (fun k_ => some k_ ≠ (.slice (some ad148) t145.length co5 : Value).ownBlock) (fun _ => False) rfl rfl ?aP (fun _ hk => hk.elim) ?aF ?aO ?aB ?aS ?aL ?_; (case aP => exact rfl); (case aB => exact (by repeat (first | (with_reducible first | exact HB.out | apply below_alloc | apply pw_below_drewN | apply below_drew1) | exact HB.out))); (case aF => exact (fun k_ hk => Kd.fresh' (Kd.R_lt (by (with_reducible repeat (first | apply Kd.R_alloc | apply Kd.R_drewN | apply Kd.R_drew)); exact HO_8.out)) k_ hk)); (case aO => exact (by (with_reducible repeat (first | apply Kd.R_alloc | apply Kd.R_drewN | apply Kd.R_drew)); exact HO_5.out)); (case aS => exact (below_size (by repeat (first | (with_reducible first | exact HB.out | apply below_alloc | apply pw_below_drewN | apply below_drew1) | exact HB.out)))); (case aL => have := LMc12.out; omega); intro v150 w13 ho hb hg hat; rw [← Ny149.out] at ho; have n0_ := Aside0.mk (Kd.R_after (ok := (fun _ => True)) (by (with_reducible repeat (first | apply Kd.R_alloc | apply Kd.R_drewN | apply Kd.R_drew)); exact Kd.R_mono HO_8.out (fun _ hk => ⟨trivial, hk⟩)) hg hat); have n1_ := Aside0.mk (hb); have n2_ := Aside0.mk (ho); clear HO_8; clear HB; clear HO_5; have HO_8 := n0_; have HB := n1_; have HO151 := n2_; clear n0_ n1_ n2_; clear ho hb hg hat))
                go_roundg k1
                case measure => have := HK1.out; omega
                case rel => exact ⟨(y149), (wrap64 (x10_1 + 1)), (by first | rfl | (simp; done) | (simp [*]; done)), H', ⟨by have := HK1.out; omega⟩, ⟨by (with_reducible repeat (first | apply Kd.R_alloc | apply Kd.R_drewN | apply Kd.R_drew)); exact HO151.out⟩, ⟨by (with_reducible repeat (first | apply Kd.R_alloc | apply Kd.R_drewN | apply Kd.R_drew)); exact Kd.R_mono HO_8.out (fun _ hk => hk.2)⟩, ⟨by repeat (first | (with_reducible first | exact HB.out | apply below_alloc | apply pw_below_drewN | apply below_drew1) | exact HB.out)⟩⟩
              · rw [if_neg c12] at H
                exact absurd H (by simp)
            · rw [if_neg c11] at H
              have c11b0 : ((Go.bits .and .i64 (ji10) 1) == 1) = false := beq_eq_false_iff_ne.mpr c11
              have c11b1 : ((Go.bits .and .i64 (ji10) 1) != 1) = true := bne_iff_ne.mpr c11
              have H' := Aside0.mk H
              clear H
              have p148 : 0 ≤ (x10_1 : Int) := of_decide_eq_true (by first | (with_reducible assumption) | assumption)
              have q148 : x10_1 < (t145.length : Int) := of_decide_eq_true (by first | (with_reducible assumption) | assumption)
              obtain ⟨ad148, e148, hx148_0⟩ := Kd.at_string (Kd.R_reads' HO_8.out).2.2 x10_1 p148 q148
              cases e148
              replace p148 := eq_true p148
              replace q148 := eq_true q148
              go_wp2
              go_roundg k1
              case measure => have := HK1.out; omega
              case rel => exact ⟨(x5_1), (wrap64 (x10_1 + 1)), (by first | rfl | (simp; done) | (simp [*]; done)), H', ⟨by have := HK1.out; omega⟩, ⟨by (with_reducible repeat (first | apply Kd.R_alloc | apply Kd.R_drewN | apply Kd.R_drew)); exact HO_5.out⟩, ⟨by (with_reducible repeat (first | apply Kd.R_alloc | apply Kd.R_drewN | apply Kd.R_drew)); exact HO_8.out⟩, ⟨by repeat (first | (with_reducible first | exact HB.out | apply below_alloc | apply pw_below_drewN | apply below_drew1) | exact HB.out)⟩⟩
          · rw [if_neg c8] at H
            exact absurd H (by simp)
        · rw [if_neg c7] at H
          exact absurd H (by simp)
      · rw [if_neg c6] at H
        have c6b0 : decide (x10_1 < (t145.length : Int)) = false := decide_eq_false c6
        clear c6
        by_cases c14 : x5_1.length + l1.length < 8796093022208
        · rw [if_pos c14] at H
          have LMc14 := Aside0.mk c14
          clear c14
          obtain ⟨y152, hy152⟩ : ∃ y_ : List ByteArray, y_ = (x5_1 ++ l1) := ⟨_, rfl⟩
          replace H : ((strings_Join.f y152 (⟨#[32]⟩ : ByteArray)).bind fun t155 => (if 1 + t155.size ≤ 9223372036854775807 then (if ((⟨#[40]⟩ : ByteArray) ++ t155).size + 1 ≤ 9223372036854775807 then (some (((⟨#[40]⟩ : ByteArray) ++ t155) ++ (⟨#[41]⟩ : ByteArray))) else (none)) else (none))) = some r := by first | (rw [hy152]; with_reducible exact H) | (have H2_ := (Option.bind_some _ _).symm.trans H; rw [hy152]; with_reducible exact H2_) | (have H2_ := (Option.bind_some _ _).symm.trans H; with_reducible exact H2_) | with_reducible exact H | (rw [hy152]; exact H) | exact H
          have Ny152 := Aside0.mk hy152
          clear hy152
          replace H := Option.bind_eq_some_iff.mp H
          obtain ⟨t155, A150, H⟩ := H
          replace H : (if 1 + t155.size ≤ 9223372036854775807 then (if ((⟨#[40]⟩ : ByteArray) ++ t155).size + 1 ≤ 9223372036854775807 then (some (((⟨#[40]⟩ : ByteArray) ++ t155) ++ (⟨#[41]⟩ : ByteArray))) else (none)) else (none)) = some r := H
          have A15 := Aside0.mk A150
          clear A150
          by_cases c16 : 1 + t155.size ≤ 9223372036854775807
          · rw [if_pos c16] at H
            have c16b0 := eq_true c16
            have c16b1 : decide (1 + t155.size ≤ 9223372036854775807) = true := decide_eq_true c16
            try have c16b2 : (9223372036854775807 < 1 + t155.size) = False := eq_false (Nat.not_lt.2 c16)
            by_cases c17 : ((⟨#[40]⟩ : ByteArray) ++ t155).size + 1 ≤ 9223372036854775807
            · rw [if_pos c17] at H
              have c17b0 := eq_true c17
              have c17b1 : decide (((⟨#[40]⟩ : ByteArray) ++ t155).size + 1 ≤ 9223372036854775807) = true := decide_eq_true c17
              try have c17b2 : (9223372036854775807 < ((⟨#[40]⟩ : ByteArray) ++ t155).size + 1) = False := eq_false (Nat.not_lt.2 c17)
              try have c17b4 : (9223372036854775807 < 1 + t155.size + 1) = False := eq_false (by have h_ := c17; have s0_ : (⟨#[40]⟩ : ByteArray).size = 1 := rfl; simp only [ByteArray.size_append] at h_; omega)
              obtain rfl := Option.some.inj H
              go_wp2_with (first | ((with_reducible refine gate_builtin (b := .append) (xs := #[.tmp 25, .tmp 26]) rfl ?_); at_builtin; refine Kd.R_append_rows Kd.string (w0 := w) w.heap.size rfl (.tmp 25) (.tmp 26) 22 9 (.string ⟨#[]⟩) 16 rfl Tryd.underlying22 info9 rfl (by decide) (by omega) u5 x5_1 l1 _ _ _ (fun k_ => some k_ ≠ (.slice Ao5 t145.length co5 : Value).ownBlock) (fun _ => False) rfl rfl ?aO ?aR (fun _ _ h => h) (fun _ h => h.elim) ?aF ?aB ?aS ?aL ?_; (case aR => repeat (first | exact (Kd.C_below HR1.out HB.out) | (with_reducible refine Kd.C_alloc ?_ _) | (with_reducible refine Kd.C_drewN ?_ _) | (with_reducible refine Kd.C_drew ?_))); (case aB => exact (by repeat (first | (with_reducible first | exact HB.out | apply below_alloc | apply pw_below_drewN | apply below_drew1) | exact HB.out))); (case aF => exact (fun k_ hk => Kd.fresh' (Kd.R_lt (by (with_reducible repeat (first | apply Kd.R_alloc | apply Kd.R_drewN | apply Kd.R_drew)); exact HO_8.out)) k_ hk)); (case aO => exact (by (with_reducible repeat (first | apply Kd.R_alloc | apply Kd.R_drewN | apply Kd.R_drew)); exact HO_5.out)); (case aS => exact (below_size (by repeat (first | (with_reducible first | exact HB.out | apply below_alloc | apply pw_below_drewN | apply below_drew1) | exact HB.out)))); (case aL => have := LMc14.out; omega); intro v153 w18 ho hb hg hat; rw [← Ny152.out] at ho; have n0_ := Aside0.mk (Kd.R_after (ok := (fun _ => True)) (by (with_reducible repeat (first | apply Kd.R_alloc | apply Kd.R_drewN | apply Kd.R_drew)); exact Kd.R_mono HO_8.out (fun _ hk => ⟨trivial, hk⟩)) hg hat); have n1_ := Aside0.mk (hb); have n2_ := Aside0.mk (ho); clear HO_8; clear HB; clear HO_5; have HO_8 := n0_; have HB := n1_; have HO154 := n2_; clear n0_ n1_ n2_; clear ho hb hg hat; obtain ⟨Ao19, co19, eo19⟩ := Kd.R_slice HO154.out; subst eo19) | ((with_reducible refine gate_callee (f := 55) rfl ?_); refine goesL_ (some 28) rfl rfl Tryd.func55 (by kernel_rfl) rfl #[.slice Ao19 y152.length co19, .string (⟨#[32]⟩ : ByteArray)] rfl (by (try simp only [List.map_toArray, List.map_cons, List.map_nil]); first | done | rfl | (simp only [List.length_drop, List.length_take]; rfl)) ?_; (with_reducible refine (strings_Join.calls _ _ y152 (⟨#[32]⟩ : ByteArray) t155 _ ?side1 ?side2 A15.out).mono ?_); (case side1 => repeat (first | exact (Kd.R_reads' HO154.out).2.2 | (with_reducible refine Kd.C_alloc ?_ _) | (with_reducible refine Kd.C_drewN ?_ _) | (with_reducible refine Kd.C_drew ?_))); (case side2 => exact (Kd.R_reads' HO154.out).2.1); rintro e w20 ⟨rfl, hb⟩; refine ⟨_, rfl, ?_⟩; have n0_ := Aside0.mk (Kd.R_below (by (with_reducible repeat (first | apply Kd.R_alloc | apply Kd.R_drewN | apply Kd.R_drew)); exact HO_8.out) hb); have n1_ := Aside0.mk (Kd.R_below (by (with_reducible repeat (first | apply Kd.R_alloc | apply Kd.R_drewN | apply Kd.R_drew)); exact HO154.out) hb); have n2_ := Aside0.mk (below_step (by repeat (first | (with_reducible first | exact HB.out | apply below_alloc | apply pw_below_drewN | apply below_drew1) | exact HB.out)) hb); clear HO_8; clear HO154; clear HB; have HO_8 := n0_; have HO154 := n1_; have HB := n2_; clear n0_ n1_ n2_; (try clear hb); (try clear hb2); (try clear hk); (try clear hi)))
              go_ret
              exact ⟨by first | rfl | (simp [errW_none, errW_some] <;> rfl) | (simp [*, errW_none, errW_some] <;> rfl), by repeat (first | (with_reducible first | exact HB.out | apply below_alloc | apply pw_below_drewN | apply below_drew1) | exact HB.out)⟩
            · rw [if_neg c17] at H
              exact absurd H (by simp)
          · rw [if_neg c16] at H
            exact absurd H (by simp)
        · rw [if_neg c14] at H
          exact absurd H (by simp)
def item_names.f  : Option (List ByteArray) := some (([(⟨#[85, 73, 68]⟩ : ByteArray), (⟨#[70, 76, 65, 71, 83]⟩ : ByteArray), (⟨#[77, 79, 68, 83, 69, 81]⟩ : ByteArray), (⟨#[73, 78, 84, 69, 82, 78, 65, 76, 68, 65, 84, 69]⟩ : ByteArray), (⟨#[82, 70, 67, 56, 50, 50, 46, 83, 73, 90, 69]⟩ : ByteArray), (⟨#[69, 77, 65, 73, 76, 73, 68]⟩ : ByteArray), (⟨#[66, 79, 68, 89, 91, 93]⟩ : ByteArray)] : List ByteArray))
set_option maxHeartbeats 8000000 in
set_option maxRecDepth 100000 in
theorem item_names.calls  (r : List ByteArray) (w : World) (h : item_names.f  = some r) :
    Calls Tryd.prog 54 #[] w fun e w' => ∃ v0_ : Value, e = .returned (v0_) ∧ Kd.R Kd.string 9 w' w.heap.size (fun _ => True) v0_ r ∧ Below w.heap.size w w' := by
  have HB := Aside0.mk (Below.refl w.heap.size w)
  have H : (some (([(⟨#[85, 73, 68]⟩ : ByteArray), (⟨#[70, 76, 65, 71, 83]⟩ : ByteArray), (⟨#[77, 79, 68, 83, 69, 81]⟩ : ByteArray), (⟨#[73, 78, 84, 69, 82, 78, 65, 76, 68, 65, 84, 69]⟩ : ByteArray), (⟨#[82, 70, 67, 56, 50, 50, 46, 83, 73, 90, 69]⟩ : ByteArray), (⟨#[69, 77, 65, 73, 76, 73, 68]⟩ : ByteArray), (⟨#[66, 79, 68, 89, 91, 93]⟩ : ByteArray)] : List ByteArray))) = some r := h
  clear h
  obtain ⟨y156, hy156⟩ : ∃ y_ : List ByteArray, y_ = (([(⟨#[85, 73, 68]⟩ : ByteArray), (⟨#[70, 76, 65, 71, 83]⟩ : ByteArray), (⟨#[77, 79, 68, 83, 69, 81]⟩ : ByteArray), (⟨#[73, 78, 84, 69, 82, 78, 65, 76, 68, 65, 84, 69]⟩ : ByteArray), (⟨#[82, 70, 67, 56, 50, 50, 46, 83, 73, 90, 69]⟩ : ByteArray), (⟨#[69, 77, 65, 73, 76, 73, 68]⟩ : ByteArray), (⟨#[66, 79, 68, 89, 91, 93]⟩ : ByteArray)] : List ByteArray)) := ⟨_, rfl⟩
  replace H : (some y156) = some r := by first | (rw [hy156]; with_reducible exact H) | (have H2_ := (Option.bind_some _ _).symm.trans H; rw [hy156]; with_reducible exact H2_) | (have H2_ := (Option.bind_some _ _).symm.trans H; with_reducible exact H2_) | with_reducible exact H | (rw [hy156]; exact H) | exact H
  have Ny156 := Aside0.mk hy156
  clear hy156
  obtain rfl := Option.some.inj H
  go_enter Tryd.func54, Tryd.ntmps54
  go_wp2_with (first | ((with_reducible refine gate_dst (N := 1) rfl ?_); refine Kd.R_lit Kd.string _ 9 ?hg (N := 1) ?hd (xs := ([(⟨#[85, 73, 68]⟩ : ByteArray), (⟨#[70, 76, 65, 71, 83]⟩ : ByteArray), (⟨#[77, 79, 68, 83, 69, 81]⟩ : ByteArray), (⟨#[73, 78, 84, 69, 82, 78, 65, 76, 68, 65, 84, 69]⟩ : ByteArray), (⟨#[82, 70, 67, 56, 50, 50, 46, 83, 73, 90, 69]⟩ : ByteArray), (⟨#[69, 77, 65, 73, 76, 73, 68]⟩ : ByteArray), (⟨#[66, 79, 68, 89, 91, 93]⟩ : ByteArray)] : List ByteArray)) (inner := [.string (⟨#[85, 73, 68]⟩ : ByteArray), .string (⟨#[70, 76, 65, 71, 83]⟩ : ByteArray), .string (⟨#[77, 79, 68, 83, 69, 81]⟩ : ByteArray), .string (⟨#[73, 78, 84, 69, 82, 78, 65, 76, 68, 65, 84, 69]⟩ : ByteArray), .string (⟨#[82, 70, 67, 56, 50, 50, 46, 83, 73, 90, 69]⟩ : ByteArray), .string (⟨#[69, 77, 65, 73, 76, 73, 68]⟩ : ByteArray), .string (⟨#[66, 79, 68, 89, 91, 93]⟩ : ByteArray)]) (ok := fun _ => True) (okp := fun _ => True) ?hr ?hp (fun _ hk => hk) trivial (Below.refl _ _) (Nat.le_refl _) (by simp) ?_; (case hd => rfl); (case hg => rfl); (case hr => first | (go_simp; done) | (go_simp; rfl)); (case hp => exact (Reps.one (show Kd.M Kd.string _ _ _ (⟨#[85, 73, 68]⟩ : ByteArray) [.string (⟨#[85, 73, 68]⟩ : ByteArray)] from rfl) (Reps.one (show Kd.M Kd.string _ _ _ (⟨#[70, 76, 65, 71, 83]⟩ : ByteArray) [.string (⟨#[70, 76, 65, 71, 83]⟩ : ByteArray)] from rfl) (Reps.one (show Kd.M Kd.string _ _ _ (⟨#[77, 79, 68, 83, 69, 81]⟩ : ByteArray) [.string (⟨#[77, 79, 68, 83, 69, 81]⟩ : ByteArray)] from rfl) (Reps.one (show Kd.M Kd.string _ _ _ (⟨#[73, 78, 84, 69, 82, 78, 65, 76, 68, 65, 84, 69]⟩ : ByteArray) [.string (⟨#[73, 78, 84, 69, 82, 78, 65, 76, 68, 65, 84, 69]⟩ : ByteArray)] from rfl) (Reps.one (show Kd.M Kd.string _ _ _ (⟨#[82, 70, 67, 56, 50, 50, 46, 83, 73, 90, 69]⟩ : ByteArray) [.string (⟨#[82, 70, 67, 56, 50, 50, 46, 83, 73, 90, 69]⟩ : ByteArray)] from rfl) (Reps.one (show Kd.M Kd.string _ _ _ (⟨#[69, 77, 65, 73, 76, 73, 68]⟩ : ByteArray) [.string (⟨#[69, 77, 65, 73, 76, 73, 68]⟩ : ByteArray)] from rfl) (Reps.one (show Kd.M Kd.string _ _ _ (⟨#[66, 79, 68, 89, 91, 93]⟩ : ByteArray) [.string (⟨#[66, 79, 68, 89, 91, 93]⟩ : ByteArray)] from rfl) (Reps.none _ _))))))))); intro v157 w1 ho2 hb hg_ hnew_; clear hg_ hnew_; (first | rw [← Ny156.out] at ho2 | (simp only [Int.reduceToNat] at ho2; rw [← Ny156.out] at ho2)); have n0_ := Aside0.mk (Kd.R_lower ho2 (below_size (by repeat (first | (with_reducible first | exact HB.out | apply below_alloc | apply pw_below_drewN | apply below_drew1) | exact HB.out)))); have n1_ := Aside0.mk (below_step (by repeat (first | (with_reducible first | exact HB.out | apply below_alloc | apply pw_below_drewN | apply below_drew1) | exact HB.out)) hb); clear HB; have HO158 := n0_; have HB := n1_; clear n0_ n1_; clear hb ho2))
  go_ret
  exact ⟨_, by first | rfl | (simp [errW_none, errW_some] <;> rfl) | (simp [*, errW_none, errW_some] <;> rfl), by (with_reducible repeat (first | apply Kd.R_alloc | apply Kd.R_drewN | apply Kd.R_drew)); exact HO158.out, by repeat (first | (with_reducible first | exact HB.out | apply below_alloc | apply pw_below_drewN | apply below_drew1) | exact HB.out)⟩
end Go.Proofs.YtplfpbfmnogckaaDoor.TdM
