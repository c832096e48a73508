-- Printed by prune.py: the used part of a text.
import Derived.Test.YtjlabkibpknkpaaDoorZBxE
namespace Go.Proofs.YtjlabkibpknkpaaDoor.BxH
open Go.RowKit Go.Proofs.YtjlabkibpknkpaaDoorW.PrintWords Go.Proofs.YtjlabkibpknkpaaDoorW.PrintLast Go.Proofs.YtjlabkibpknkpaaDoorW.PrintMore Go.Proofs.YtjlabkibpknkpaaDoor.FmM Go.Proofs.YtjlabkibpknkpaaDoor.PkP Go.Proofs.YtjlabkibpknkpaaDoor.FmN Go.Proofs.YtjlabkibpknkpaaDoor.FmB Go.Proofs.YtjlabkibpknkpaaDoor.FmC Go.Proofs.YtjlabkibpknkpaaDoor.FmH Go.Proofs.YtjlabkibpknkpaaDoor.FsP Go.Proofs.YtjlabkibpknkpaaDoor.BxF Go.Proofs.YtjlabkibpknkpaaDoor.BxA Go.Proofs.YtjlabkibpknkpaaDoor.BxG Go.Proofs.YtjlabkibpknkpaaDoor.BxE
set_option linter.unusedVariables false
set_option linter.unusedSimpArgs false
open Classical
theorem equalS_calls (A : Option Addr) (c : Nat) (l : List ByteArray) (B : Option Addr) (d : Nat) (m : List ByteArray) (w : World) (hA : Kd.C Kd.string w A l.length l) (hc : l.length ≤ c) (hB : Kd.C Kd.string w B m.length m) (hd : m.length ≤ d) (hl : l.length ≤ 1000000) :
    Calls Tryd.prog 48 #[.slice A l.length c, .slice B m.length d] w fun e w' => e = .returned (.bool (decide (l = m))) ∧ Below w.heap.size w w' := by
  obtain ⟨k, hk⟩ := (equalS_ev l m hl).get
  exact (FeM.slices_Equal_string_string.calls k A c l B d m _ w hA hc hB hd hk).mono (fun e w' h => ⟨h.1, h.2.below⟩)
set_option maxRecDepth 100000 in
set_option maxHeartbeats 2000000 in
theorem same_calls (a0 : ByteArray) (a1 a2 a3 : Int) (aA4 : Option Addr) (ac4 : Nat) (aw : List ByteArray) (aA5 : Option Addr) (ac5 : Nat) (am : List S31) (b0 : ByteArray) (b1 b2 b3 : Int) (bA4 : Option Addr) (bc4 : Nat) (bw : List ByteArray) (bA5 : Option Addr) (bc5 : Nat) (bm : List S31) (w : World) (hC4a : Kd.C Kd.string w aA4 aw.length aw) (hc4a : aw.length ≤ ac4) (hC5a : Kd.C k31 w aA5 am.length am) (hc5a : am.length ≤ ac5) (hC4b : Kd.C Kd.string w bA4 bw.length bw) (hc4b : bw.length ≤ bc4) (hC5b : Kd.C k31 w bA5 bm.length bm) (hc5b : bm.length ≤ bc5) (hl4 : aw.length ≤ 1000000) (hl5 : am.length ≤ 1000000) (hw : ∀ m ∈ am, m.f5.length ≤ 1000000) :
    Calls Tryd.prog 25 #[.agg #[.string a0, .int .i64 a1, .int .i64 a2, .int .i64 a3, .slice aA4 aw.length ac4, .slice aA5 am.length ac5], .agg #[.string b0, .int .i64 b1, .int .i64 b2, .int .i64 b3, .slice bA4 bw.length bc4, .slice bA5 bm.length bc5]] w fun e w' => e = .returned (.bool (sameB a0 b0 a1 a2 a3 b1 b2 b3 aw bw am bm)) ∧ Below w.heap.size w w' := by
  have hu26 := Tryd.underlying26
  have HE4 := Aside0.mk (fun W (hbl : Below w.heap.size w W) => equalS_calls aA4 ac4 aw bA4 bc4 bw W (Kd.C_below hC4a hbl) hc4a (Kd.C_below hC4b hbl) hc4b hl4)
  have HE5 := Aside0.mk (fun W (hbl : Below w.heap.size w W) => equalFunc_calls aA5 ac5 am bA5 bc5 bm W hl5 (Kd.C_below hC5a hbl) (Kd.C_below hC5b hbl) hw)
  clear hC4a hC4b hC5a hC5b hw hl4 hl5 hc4a hc4b hc5a hc5b
  have eg : ∀ args w, (callFunc 49 args).run Tryd.prog w = .ok (.enter 49 args) w := fun args w => enters_ Tryd.func49 (by kernel_rfl) rfl args w
  have esame : ∀ P : Prop, ∀ d : Decidable P, P → (d = d) := fun _ _ _ => rfl
  clear esame
  by_cases h0 : a0 = b0
  case neg =>
    have ev : sameB a0 b0 a1 a2 a3 b1 b2 b3 aw bw am bm = false := decide_eq_false (fun e => h0 e.1)
    rw [ev]
    have g0 : (a0.toList == b0.toList) = false := beq_eq_false_iff_ne.2 (fun q => h0 (toList_inj.1 q))
    clear HE4 HE5 eg ev h0
    go_enter Tryd.func25, Tryd.ntmps25
    have M0_0 := Aside0.mk (Below.refl w.heap.size w)
    go_wp2_with (first
      | ((with_reducible refine gate_dst (N := 2) rfl ?_); refine box_event ?hgA2 (N := 2) ?hdA2 (cs := #[.string a0, .int .i64 a1, .int .i64 a2, .int .i64 a3, .slice aA4 aw.length ac4, .slice aA5 am.length ac5]) (t := 26) ?hrA2 ?_; (case hdA2 => rfl); (case hgA2 => rfl); (case hrA2 => first | (go_simp; done) | (go_simp; rfl)); intro g_A hg_ w_1 hbx_ hb_; have L0_A := Aside0.mk (show w.heap.size ≤ g_A by have := M0_0.out.size; omega); have M0_1 := Aside0.mk (M0_0.out.trans (hb_.mono M0_0.out.size)); have A_1 := Aside0.mk hbx_; clear hg_ hbx_ hb_ M0_0; have zA0 := blk_cell A_1.out 0; skip)
      | ((with_reducible refine gate_dst (N := 3) rfl ?_); refine box_event ?hgB3 (N := 3) ?hdB3 (cs := #[.string b0, .int .i64 b1, .int .i64 b2, .int .i64 b3, .slice bA4 bw.length bc4, .slice bA5 bm.length bc5]) (t := 26) ?hrB3 ?_; (case hdB3 => rfl); (case hgB3 => rfl); (case hrB3 => first | (go_simp; done) | (go_simp; rfl)); intro g_B hg_ w_2 hbx_ hb_; have L0_B := Aside0.mk (show w.heap.size ≤ g_B by have := M0_1.out.size; omega); have N_A_B := Aside0.mk (show g_A ≠ g_B by have := blk_lt A_1.out; omega); have M0_2 := Aside0.mk (M0_1.out.trans (hb_.mono M0_1.out.size)); have A_2 := Aside0.mk (blk_below A_1.out hb_); have B_2 := Aside0.mk hbx_; clear hg_ hbx_ hb_ M0_1 A_1 zA0; have zA0 := blk_cell A_2.out 0; have zB0 := blk_cell B_2.out 0; skip))
    go_ret
    exact ⟨rfl, M0_2.out⟩
  have g0 : (a0.toList == b0.toList) = true := by rw [beq_iff_eq]; exact toList_inj.2 h0
  by_cases h1 : a1 = b1
  case neg =>
    have ev : sameB a0 b0 a1 a2 a3 b1 b2 b3 aw bw am bm = false := decide_eq_false (fun e => h1 e.2.1)
    rw [ev]
    have g1 : (a1 == b1) = false := beq_eq_false_iff_ne.2 h1
    clear HE4 HE5 eg ev h1
    go_enter Tryd.func25, Tryd.ntmps25
    have M0_0 := Aside0.mk (Below.refl w.heap.size w)
    go_wp2_with (first
      | ((with_reducible refine gate_dst (N := 2) rfl ?_); refine box_event ?hgA2 (N := 2) ?hdA2 (cs := #[.string a0, .int .i64 a1, .int .i64 a2, .int .i64 a3, .slice aA4 aw.length ac4, .slice aA5 am.length ac5]) (t := 26) ?hrA2 ?_; (case hdA2 => rfl); (case hgA2 => rfl); (case hrA2 => first | (go_simp; done) | (go_simp; rfl)); intro g_A hg_ w_1 hbx_ hb_; have L0_A := Aside0.mk (show w.heap.size ≤ g_A by have := M0_0.out.size; omega); have M0_1 := Aside0.mk (M0_0.out.trans (hb_.mono M0_0.out.size)); have A_1 := Aside0.mk hbx_; clear hg_ hbx_ hb_ M0_0; have zA0 := blk_cell A_1.out 0; have zA1 := blk_cell A_1.out 1; skip)
      | ((with_reducible refine gate_dst (N := 3) rfl ?_); refine box_event ?hgB3 (N := 3) ?hdB3 (cs := #[.string b0, .int .i64 b1, .int .i64 b2, .int .i64 b3, .slice bA4 bw.length bc4, .slice bA5 bm.length bc5]) (t := 26) ?hrB3 ?_; (case hdB3 => rfl); (case hgB3 => rfl); (case hrB3 => first | (go_simp; done) | (go_simp; rfl)); intro g_B hg_ w_2 hbx_ hb_; have L0_B := Aside0.mk (show w.heap.size ≤ g_B by have := M0_1.out.size; omega); have N_A_B := Aside0.mk (show g_A ≠ g_B by have := blk_lt A_1.out; omega); have M0_2 := Aside0.mk (M0_1.out.trans (hb_.mono M0_1.out.size)); have A_2 := Aside0.mk (blk_below A_1.out hb_); have B_2 := Aside0.mk hbx_; clear hg_ hbx_ hb_ M0_1 A_1 zA0 zA1; have zA0 := blk_cell A_2.out 0; have zA1 := blk_cell A_2.out 1; have zB0 := blk_cell B_2.out 0; have zB1 := blk_cell B_2.out 1; skip))
    go_ret
    exact ⟨rfl, M0_2.out⟩
  have g1 : (a1 == b1) = true := beq_iff_eq.2 h1
  by_cases h2 : a2 = b2
  case neg =>
    have ev : sameB a0 b0 a1 a2 a3 b1 b2 b3 aw bw am bm = false := decide_eq_false (fun e => h2 e.2.2.1)
    rw [ev]
    have g2 : (a2 == b2) = false := beq_eq_false_iff_ne.2 h2
    clear HE4 HE5 eg ev h2
    go_enter Tryd.func25, Tryd.ntmps25
    have M0_0 := Aside0.mk (Below.refl w.heap.size w)
    go_wp2_with (first
      | ((with_reducible refine gate_dst (N := 2) rfl ?_); refine box_event ?hgA2 (N := 2) ?hdA2 (cs := #[.string a0, .int .i64 a1, .int .i64 a2, .int .i64 a3, .slice aA4 aw.length ac4, .slice aA5 am.length ac5]) (t := 26) ?hrA2 ?_; (case hdA2 => rfl); (case hgA2 => rfl); (case hrA2 => first | (go_simp; done) | (go_simp; rfl)); intro g_A hg_ w_1 hbx_ hb_; have L0_A := Aside0.mk (show w.heap.size ≤ g_A by have := M0_0.out.size; omega); have M0_1 := Aside0.mk (M0_0.out.trans (hb_.mono M0_0.out.size)); have A_1 := Aside0.mk hbx_; clear hg_ hbx_ hb_ M0_0; have zA0 := blk_cell A_1.out 0; have zA1 := blk_cell A_1.out 1; have zA2 := blk_cell A_1.out 2; skip)
      | ((with_reducible refine gate_dst (N := 3) rfl ?_); refine box_event ?hgB3 (N := 3) ?hdB3 (cs := #[.string b0, .int .i64 b1, .int .i64 b2, .int .i64 b3, .slice bA4 bw.length bc4, .slice bA5 bm.length bc5]) (t := 26) ?hrB3 ?_; (case hdB3 => rfl); (case hgB3 => rfl); (case hrB3 => first | (go_simp; done) | (go_simp; rfl)); intro g_B hg_ w_2 hbx_ hb_; have L0_B := Aside0.mk (show w.heap.size ≤ g_B by have := M0_1.out.size; omega); have N_A_B := Aside0.mk (show g_A ≠ g_B by have := blk_lt A_1.out; omega); have M0_2 := Aside0.mk (M0_1.out.trans (hb_.mono M0_1.out.size)); have A_2 := Aside0.mk (blk_below A_1.out hb_); have B_2 := Aside0.mk hbx_; clear hg_ hbx_ hb_ M0_1 A_1 zA0 zA1 zA2; have zA0 := blk_cell A_2.out 0; have zA1 := blk_cell A_2.out 1; have zA2 := blk_cell A_2.out 2; have zB0 := blk_cell B_2.out 0; have zB1 := blk_cell B_2.out 1; have zB2 := blk_cell B_2.out 2; skip))
    go_ret
    exact ⟨rfl, M0_2.out⟩
  have g2 : (a2 == b2) = true := beq_iff_eq.2 h2
  by_cases h3 : a3 = b3
  case neg =>
    have ev : sameB a0 b0 a1 a2 a3 b1 b2 b3 aw bw am bm = false := decide_eq_false (fun e => h3 e.2.2.2.1)
    rw [ev]
    have g3 : (a3 == b3) = false := beq_eq_false_iff_ne.2 h3
    clear HE4 HE5 eg ev h3
    go_enter Tryd.func25, Tryd.ntmps25
    have M0_0 := Aside0.mk (Below.refl w.heap.size w)
    go_wp2_with (first
      | ((with_reducible refine gate_dst (N := 2) rfl ?_); refine box_event ?hgA2 (N := 2) ?hdA2 (cs := #[.string a0, .int .i64 a1, .int .i64 a2, .int .i64 a3, .slice aA4 aw.length ac4, .slice aA5 am.length ac5]) (t := 26) ?hrA2 ?_; (case hdA2 => rfl); (case hgA2 => rfl); (case hrA2 => first | (go_simp; done) | (go_simp; rfl)); intro g_A hg_ w_1 hbx_ hb_; have L0_A := Aside0.mk (show w.heap.size ≤ g_A by have := M0_0.out.size; omega); have M0_1 := Aside0.mk (M0_0.out.trans (hb_.mono M0_0.out.size)); have A_1 := Aside0.mk hbx_; clear hg_ hbx_ hb_ M0_0; have zA0 := blk_cell A_1.out 0; have zA1 := blk_cell A_1.out 1; have zA2 := blk_cell A_1.out 2; have zA3 := blk_cell A_1.out 3; skip)
      | ((with_reducible refine gate_dst (N := 3) rfl ?_); refine box_event ?hgB3 (N := 3) ?hdB3 (cs := #[.string b0, .int .i64 b1, .int .i64 b2, .int .i64 b3, .slice bA4 bw.length bc4, .slice bA5 bm.length bc5]) (t := 26) ?hrB3 ?_; (case hdB3 => rfl); (case hgB3 => rfl); (case hrB3 => first | (go_simp; done) | (go_simp; rfl)); intro g_B hg_ w_2 hbx_ hb_; have L0_B := Aside0.mk (show w.heap.size ≤ g_B by have := M0_1.out.size; omega); have N_A_B := Aside0.mk (show g_A ≠ g_B by have := blk_lt A_1.out; omega); have M0_2 := Aside0.mk (M0_1.out.trans (hb_.mono M0_1.out.size)); have A_2 := Aside0.mk (blk_below A_1.out hb_); have B_2 := Aside0.mk hbx_; clear hg_ hbx_ hb_ M0_1 A_1 zA0 zA1 zA2 zA3; have zA0 := blk_cell A_2.out 0; have zA1 := blk_cell A_2.out 1; have zA2 := blk_cell A_2.out 2; have zA3 := blk_cell A_2.out 3; have zB0 := blk_cell B_2.out 0; have zB1 := blk_cell B_2.out 1; have zB2 := blk_cell B_2.out 2; have zB3 := blk_cell B_2.out 3; skip))
    go_ret
    exact ⟨rfl, M0_2.out⟩
  have g3 : (a3 == b3) = true := beq_iff_eq.2 h3
  by_cases h4 : aw = bw
  case neg =>
    have ev : sameB a0 b0 a1 a2 a3 b1 b2 b3 aw bw am bm = false := decide_eq_false (fun e => h4 e.2.2.2.2.1)
    rw [ev]
    rw [decide_eq_false h4] at HE4
    clear HE5 eg ev h0 h1 h2 h3 h4
    go_enter Tryd.func25, Tryd.ntmps25
    have M0_0 := Aside0.mk (Below.refl w.heap.size w)
    go_wp2_with (first
      | ((with_reducible refine gate_dst (N := 2) rfl ?_); refine box_event ?hgA2 (N := 2) ?hdA2 (cs := #[.string a0, .int .i64 a1, .int .i64 a2, .int .i64 a3, .slice aA4 aw.length ac4, .slice aA5 am.length ac5]) (t := 26) ?hrA2 ?_; (case hdA2 => rfl); (case hgA2 => rfl); (case hrA2 => first | (go_simp; done) | (go_simp; rfl)); intro g_A hg_ w_1 hbx_ hb_; have L0_A := Aside0.mk (show w.heap.size ≤ g_A by have := M0_0.out.size; omega); have M0_1 := Aside0.mk (M0_0.out.trans (hb_.mono M0_0.out.size)); have A_1 := Aside0.mk hbx_; clear hg_ hbx_ hb_ M0_0; have zA0 := blk_cell A_1.out 0; have zA1 := blk_cell A_1.out 1; have zA2 := blk_cell A_1.out 2; have zA3 := blk_cell A_1.out 3; have zA4 := blk_cell A_1.out 4; skip)
      | ((with_reducible refine gate_dst (N := 3) rfl ?_); refine box_event ?hgB3 (N := 3) ?hdB3 (cs := #[.string b0, .int .i64 b1, .int .i64 b2, .int .i64 b3, .slice bA4 bw.length bc4, .slice bA5 bm.length bc5]) (t := 26) ?hrB3 ?_; (case hdB3 => rfl); (case hgB3 => rfl); (case hrB3 => first | (go_simp; done) | (go_simp; rfl)); intro g_B hg_ w_2 hbx_ hb_; have L0_B := Aside0.mk (show w.heap.size ≤ g_B by have := M0_1.out.size; omega); have N_A_B := Aside0.mk (show g_A ≠ g_B by have := blk_lt A_1.out; omega); have M0_2 := Aside0.mk (M0_1.out.trans (hb_.mono M0_1.out.size)); have A_2 := Aside0.mk (blk_below A_1.out hb_); have B_2 := Aside0.mk hbx_; clear hg_ hbx_ hb_ M0_1 A_1 zA0 zA1 zA2 zA3 zA4; have zA0 := blk_cell A_2.out 0; have zA1 := blk_cell A_2.out 1; have zA2 := blk_cell A_2.out 2; have zA3 := blk_cell A_2.out 3; have zA4 := blk_cell A_2.out 4; have zB0 := blk_cell B_2.out 0; have zB1 := blk_cell B_2.out 1; have zB2 := blk_cell B_2.out 2; have zB3 := blk_cell B_2.out 3; have zB4 := blk_cell B_2.out 4; skip)
      | (go_at_call 48; refine (HE4.out w_2 M0_2.out).mono ?_; rintro e_ w_3 ⟨rfl, hb⟩; have M0_3 := Aside0.mk (M0_2.out.trans (hb.mono M0_2.out.size)); have A_3 := Aside0.mk (blk_below A_2.out hb); have B_3 := Aside0.mk (blk_below B_2.out hb); clear hb M0_2 A_2 B_2 zA0 zA1 zA2 zA3 zA4 zB0 zB1 zB2 zB3 zB4; have zA0 := blk_cell A_3.out 0; have zA1 := blk_cell A_3.out 1; have zA2 := blk_cell A_3.out 2; have zA3 := blk_cell A_3.out 3; have zA4 := blk_cell A_3.out 4; have zB0 := blk_cell B_3.out 0; have zB1 := blk_cell B_3.out 1; have zB2 := blk_cell B_3.out 2; have zB3 := blk_cell B_3.out 3; have zB4 := blk_cell B_3.out 4; skip))
    go_ret
    exact ⟨rfl, M0_3.out⟩
  have ev : sameB a0 b0 a1 a2 a3 b1 b2 b3 aw bw am bm = decide (am = bm) := by unfold sameB; rw [decide_eq_decide]; exact ⟨fun e => e.2.2.2.2.2, fun e => ⟨h0, h1, h2, h3, h4, e⟩⟩
  rw [ev]
  rw [decide_eq_true h4] at HE4
  clear ev h0 h1 h2 h3 h4
  generalize decide (am = bm) = P at *
  go_enter Tryd.func25, Tryd.ntmps25
  have M0_0 := Aside0.mk (Below.refl w.heap.size w)
  go_wp2_with (first
    | ((with_reducible refine gate_dst (N := 2) rfl ?_); refine box_event ?hgA2 (N := 2) ?hdA2 (cs := #[.string a0, .int .i64 a1, .int .i64 a2, .int .i64 a3, .slice aA4 aw.length ac4, .slice aA5 am.length ac5]) (t := 26) ?hrA2 ?_; (case hdA2 => rfl); (case hgA2 => rfl); (case hrA2 => first | (go_simp; done) | (go_simp; rfl)); intro g_A hg_ w_1 hbx_ hb_; have L0_A := Aside0.mk (show w.heap.size ≤ g_A by have := M0_0.out.size; omega); have M0_1 := Aside0.mk (M0_0.out.trans (hb_.mono M0_0.out.size)); have A_1 := Aside0.mk hbx_; clear hg_ hbx_ hb_ M0_0; have zA0 := blk_cell A_1.out 0; have zA1 := blk_cell A_1.out 1; have zA2 := blk_cell A_1.out 2; have zA3 := blk_cell A_1.out 3; have zA4 := blk_cell A_1.out 4; have zA5 := blk_cell A_1.out 5; skip)
    | ((with_reducible refine gate_dst (N := 3) rfl ?_); refine box_event ?hgB3 (N := 3) ?hdB3 (cs := #[.string b0, .int .i64 b1, .int .i64 b2, .int .i64 b3, .slice bA4 bw.length bc4, .slice bA5 bm.length bc5]) (t := 26) ?hrB3 ?_; (case hdB3 => rfl); (case hgB3 => rfl); (case hrB3 => first | (go_simp; done) | (go_simp; rfl)); intro g_B hg_ w_2 hbx_ hb_; have L0_B := Aside0.mk (show w.heap.size ≤ g_B by have := M0_1.out.size; omega); have N_A_B := Aside0.mk (show g_A ≠ g_B by have := blk_lt A_1.out; omega); have M0_2 := Aside0.mk (M0_1.out.trans (hb_.mono M0_1.out.size)); have A_2 := Aside0.mk (blk_below A_1.out hb_); have B_2 := Aside0.mk hbx_; clear hg_ hbx_ hb_ M0_1 A_1 zA0 zA1 zA2 zA3 zA4 zA5; have zA0 := blk_cell A_2.out 0; have zA1 := blk_cell A_2.out 1; have zA2 := blk_cell A_2.out 2; have zA3 := blk_cell A_2.out 3; have zA4 := blk_cell A_2.out 4; have zA5 := blk_cell A_2.out 5; have zB0 := blk_cell B_2.out 0; have zB1 := blk_cell B_2.out 1; have zB2 := blk_cell B_2.out 2; have zB3 := blk_cell B_2.out 3; have zB4 := blk_cell B_2.out 4; have zB5 := blk_cell B_2.out 5; skip)
    | (go_at_call 48; refine (HE4.out w_2 M0_2.out).mono ?_; rintro e_ w_3 ⟨rfl, hb⟩; have M0_3 := Aside0.mk (M0_2.out.trans (hb.mono M0_2.out.size)); have A_3 := Aside0.mk (blk_below A_2.out hb); have B_3 := Aside0.mk (blk_below B_2.out hb); clear hb M0_2 A_2 B_2 zA0 zA1 zA2 zA3 zA4 zA5 zB0 zB1 zB2 zB3 zB4 zB5; have zA0 := blk_cell A_3.out 0; have zA1 := blk_cell A_3.out 1; have zA2 := blk_cell A_3.out 2; have zA3 := blk_cell A_3.out 3; have zA4 := blk_cell A_3.out 4; have zA5 := blk_cell A_3.out 5; have zB0 := blk_cell B_3.out 0; have zB1 := blk_cell B_3.out 1; have zB2 := blk_cell B_3.out 2; have zB3 := blk_cell B_3.out 3; have zB4 := blk_cell B_3.out 4; have zB5 := blk_cell B_3.out 5; skip)
    | (go_at_call 49; refine (HE5.out w_3 M0_3.out).mono ?_; rintro e_ w_4 ⟨rfl, hb⟩; have M0_4 := Aside0.mk (M0_3.out.trans (hb.mono M0_3.out.size)); have A_4 := Aside0.mk (blk_below A_3.out hb); have B_4 := Aside0.mk (blk_below B_3.out hb); clear hb M0_3 A_3 B_3 zA0 zA1 zA2 zA3 zA4 zA5 zB0 zB1 zB2 zB3 zB4 zB5; have zA0 := blk_cell A_4.out 0; have zA1 := blk_cell A_4.out 1; have zA2 := blk_cell A_4.out 2; have zA3 := blk_cell A_4.out 3; have zA4 := blk_cell A_4.out 4; have zA5 := blk_cell A_4.out 5; have zB0 := blk_cell B_4.out 0; have zB1 := blk_cell B_4.out 1; have zB2 := blk_cell B_4.out 2; have zB3 := blk_cell B_4.out 3; have zB4 := blk_cell B_4.out 4; have zB5 := blk_cell B_4.out 5; skip))
  go_ret
  exact ⟨rfl, M0_4.out⟩
theorem rsame_calls (a0 : ByteArray) (a1 a2 a3 : Int) (aA4 : Option Addr) (ac4 : Nat) (aw : List ByteArray) (aA5 : Option Addr) (ac5 : Nat) (am : List S31) (b0 : ByteArray) (b1 b2 b3 : Int) (bA4 : Option Addr) (bc4 : Nat) (bw : List ByteArray) (bA5 : Option Addr) (bc5 : Nat) (bm : List S31) (w : World) (hC4a : Kd.C Kd.string w aA4 aw.length aw) (hc4a : aw.length ≤ ac4) (hC5a : Kd.C k31 w aA5 am.length am) (hc5a : am.length ≤ ac5) (hC4b : Kd.C Kd.string w bA4 bw.length bw) (hc4b : bw.length ≤ bc4) (hC5b : Kd.C k31 w bA5 bm.length bm) (hc5b : bm.length ≤ bc5) (hl4 : aw.length ≤ 1000000) (hl5 : am.length ≤ 1000000) (hw : ∀ m ∈ am, m.f5.length ≤ 1000000) :
    Calls Tryd.prog 22 #[.agg #[.string a0, .int .i64 a1, .int .i64 a2, .int .i64 a3, .slice aA4 aw.length ac4, .slice aA5 am.length ac5], .agg #[.string b0, .int .i64 b1, .int .i64 b2, .int .i64 b3, .slice bA4 bw.length bc4, .slice bA5 bm.length bc5]] w fun e w' => e = .returned (.bool (sameB a0 b0 a1 a2 a3 b1 b2 b3 aw bw am bm)) ∧ Below w.heap.size w w' := by
  obtain ⟨k, hk⟩ := (sameBox_ev a0 b0 a1 a2 a3 b1 b2 b3 aw bw am bm hl5 hw hl4).get
  exact mailsackref1_SameBox.calls k a0 a1 a2 a3 aA4 ac4 aw aA5 ac5 am b0 b1 b2 b3 bA4 bc4 bw bA5 bc5 bm _ w hC4a hc4a hC5a hc5a hC4b hc4b hC5b hc5b hk
theorem mayMsg_calls (a0 : ByteArray) (a1 a2 a3 : Int) (aA4 : Option Addr) (ac4 : Nat) (aw : List ByteArray) (aA5 : Option Addr) (ac5 : Nat) (am : List S31) (m0 m1 m2 : Int) (m3 : ByteArray) (m4 : Int) (A6 : Option Addr) (c6 : Nat) (m5 : List Int) (m6 : ByteArray) (w : World) (hC4a : Kd.C Kd.string w aA4 aw.length aw) (hc4a : aw.length ≤ ac4) (hC5a : Kd.C k31 w aA5 am.length am) (hc5a : am.length ≤ ac5) (hC6 : Kd.C (Kd.int .i64) w A6 m5.length m5) (hc6 : m5.length ≤ c6) (hw : wt ⟨m0, m1, m2, m3, m4, m5, m6⟩ ≤ 1000000) :
    Calls Tryd.prog 16 #[.agg #[.string a0, .int .i64 a1, .int .i64 a2, .int .i64 a3, .slice aA4 aw.length ac4, .slice aA5 am.length ac5], .agg #[.int .i64 m0, .int .i64 m1, .int .i64 m2, .string m3, .int .i64 m4, .slice A6 m5.length c6, .string m6]] w fun e w' => e = .returned (.int .i64 (bit01 (msgOk (aw.length : Int) ⟨m0, m1, m2, m3, m4, m5, m6⟩))) ∧ Below w.heap.size w w' := by
  obtain ⟨k, hk⟩ := (fmsg_ev a0 a1 a2 a3 aw am ⟨m0, m1, m2, m3, m4, m5, m6⟩ hw).get
  exact box_MayMsg.calls k a0 a1 a2 a3 aA4 ac4 aw aA5 ac5 am m0 m1 m2 m3 m4 A6 c6 m5 m6 _ w hC4a hc4a hC5a hc5a hC6 hc6 hk
theorem rmayMsg_calls (a0 : ByteArray) (a1 a2 a3 : Int) (aA4 : Option Addr) (ac4 : Nat) (aw : List ByteArray) (aA5 : Option Addr) (ac5 : Nat) (am : List S31) (m0 m1 m2 : Int) (m3 : ByteArray) (m4 : Int) (A6 : Option Addr) (c6 : Nat) (m5 : List Int) (m6 : ByteArray) (w : World) (hC4a : Kd.C Kd.string w aA4 aw.length aw) (hc4a : aw.length ≤ ac4) (hC5a : Kd.C k31 w aA5 am.length am) (hc5a : am.length ≤ ac5) (hC6 : Kd.C (Kd.int .i64) w A6 m5.length m5) (hc6 : m5.length ≤ c6) (hw : wt ⟨m0, m1, m2, m3, m4, m5, m6⟩ ≤ 1000000) :
    Calls Tryd.prog 24 #[.agg #[.string a0, .int .i64 a1, .int .i64 a2, .int .i64 a3, .slice aA4 aw.length ac4, .slice aA5 am.length ac5], .agg #[.int .i64 m0, .int .i64 m1, .int .i64 m2, .string m3, .int .i64 m4, .slice A6 m5.length c6, .string m6]] w fun e w' => e = .returned (.int .i64 (bit01 (msgOk (aw.length : Int) ⟨m0, m1, m2, m3, m4, m5, m6⟩))) ∧ Below w.heap.size w w' := by
  obtain ⟨k, hk⟩ := (rmsg_ev a0 a1 a2 a3 aw am ⟨m0, m1, m2, m3, m4, m5, m6⟩ hw).get
  exact mailsackref1_MayMsg.calls k a0 a1 a2 a3 aA4 ac4 aw aA5 ac5 am m0 m1 m2 m3 m4 A6 c6 m5 m6 _ w hC4a hc4a hC5a hc5a hC6 hc6 hk
theorem rmay_calls (a0 : ByteArray) (a1 a2 a3 : Int) (aA4 : Option Addr) (ac4 : Nat) (aw : List ByteArray) (aA5 : Option Addr) (ac5 : Nat) (am : List S31) (w : World) (hC4a : Kd.C Kd.string w aA4 aw.length aw) (hc4a : aw.length ≤ ac4) (hC5a : Kd.C k31 w aA5 am.length am) (hc5a : am.length ≤ ac5) (hw : ∀ m ∈ am, wt m ≤ 1000000) (hs : ∀ s ∈ aw, s.size ≤ 100000000) :
    Calls Tryd.prog 23 #[.agg #[.string a0, .int .i64 a1, .int .i64 a2, .int .i64 a3, .slice aA4 aw.length ac4, .slice aA5 am.length ac5]] w fun e w' => e = .returned (.int .i64 (boxP a0 a1 a2 a3 aw am)) ∧ Below w.heap.size w w' := by
  obtain ⟨k, hk⟩ := (rbox_ev a0 a1 a2 a3 aw am hw hs).get
  exact mailsackref1_MayBox.calls k a0 a1 a2 a3 aA4 ac4 aw aA5 ac5 am _ w hC4a hc4a hC5a hc5a hk
theorem rfind_calls (a0 : ByteArray) (a1 a2 a3 : Int) (aA4 : Option Addr) (ac4 : Nat) (aw : List ByteArray) (aA5 : Option Addr) (ac5 : Nat) (am : List S31) (u : Int) (w : World) (hC4a : Kd.C Kd.string w aA4 aw.length aw) (hc4a : aw.length ≤ ac4) (hC5a : Kd.C k31 w aA5 am.length am) (hc5a : am.length ≤ ac5) (hl : am.length ≤ 1000000) :
    Calls Tryd.prog 26 #[.agg #[.string a0, .int .i64 a1, .int .i64 a2, .int .i64 a3, .slice aA4 aw.length ac4, .slice aA5 am.length ac5], .int .i64 u] w fun e w' => e = .returned (.int .i64 (findP u 0 am)) ∧ Below w.heap.size w w' := by
  obtain ⟨k, hk⟩ := (rfind_ev a0 a1 a2 a3 aw am u hl).get
  exact mailsackref1_Find.calls k a0 a1 a2 a3 aA4 ac4 aw aA5 ac5 am u _ w hC4a hc4a hC5a hc5a hk
theorem runseen_calls (a0 : ByteArray) (a1 a2 a3 : Int) (aA4 : Option Addr) (ac4 : Nat) (aw : List ByteArray) (aA5 : Option Addr) (ac5 : Nat) (am : List S31) (w : World) (hC4a : Kd.C Kd.string w aA4 aw.length aw) (hc4a : aw.length ≤ ac4) (hC5a : Kd.C k31 w aA5 am.length am) (hc5a : am.length ≤ ac5) (hl : am.length ≤ 1000000) :
    Calls Tryd.prog 30 #[.agg #[.string a0, .int .i64 a1, .int .i64 a2, .int .i64 a3, .slice aA4 aw.length ac4, .slice aA5 am.length ac5]] w fun e w' => e = .returned (.int .i64 ((unsN am : Nat) : Int)) ∧ Below w.heap.size w w' := by
  obtain ⟨k, hk⟩ := (runseen_ev a0 a1 a2 a3 aw am hl).get
  exact mailsackref1_Unseen.calls k a0 a1 a2 a3 aA4 ac4 aw aA5 ac5 am _ w hC4a hc4a hC5a hc5a hk
theorem rwords_calls (a0 : ByteArray) (a1 a2 a3 : Int) (aA4 : Option Addr) (ac4 : Nat) (aw : List ByteArray) (aA5 : Option Addr) (ac5 : Nat) (am : List S31) (m0 m1 m2 : Int) (m3 : ByteArray) (m4 : Int) (A6 : Option Addr) (c6 : Nat) (m5 : List Int) (m6 : ByteArray) (w : World) (hC4a : Kd.C Kd.string w aA4 aw.length aw) (hc4a : aw.length ≤ ac4) (hC5a : Kd.C k31 w aA5 am.length am) (hc5a : am.length ≤ ac5) (hC6 : Kd.C (Kd.int .i64) w A6 m5.length m5) (hc6 : m5.length ≤ c6) (hl : m5.length ≤ 1000000) :
    Calls Tryd.prog 29 #[.agg #[.string a0, .int .i64 a1, .int .i64 a2, .int .i64 a3, .slice aA4 aw.length ac4, .slice aA5 am.length ac5], .agg #[.int .i64 m0, .int .i64 m1, .int .i64 m2, .string m3, .int .i64 m4, .slice A6 m5.length c6, .string m6]] w fun e w' => ∃ A c, e = .returned (.slice A (selW aw m5).length c) ∧ (selW aw m5).length ≤ c ∧ Kd.C Kd.string w' A (selW aw m5).length (selW aw m5) ∧ Below w.heap.size w w' := by
  obtain ⟨k, hk⟩ := (rwords_ev a0 a1 a2 a3 aw am m5 hl m0 m1 m2 m3 m4 m6).get
  refine (mailsackref1_WordsOf.calls k a0 a1 a2 a3 aA4 ac4 aw aA5 ac5 am m0 m1 m2 m3 m4 A6 c6 m5 m6 _ w hC4a hc4a hC5a hc5a hC6 hc6 hk).mono ?_
  rintro e w' ⟨v, rfl, hR, hb⟩
  obtain ⟨A, c, rfl, h1, h2⟩ := Kd.R_reads hR
  exact ⟨A, c, rfl, h1, h2, hb⟩
theorem sameTexts_calls (A : Option Addr) (c : Nat) (l : List ByteArray) (B : Option Addr) (d : Nat) (m : List ByteArray) (w : World) (hA : Kd.C Kd.string w A l.length l) (hc : l.length ≤ c) (hB : Kd.C Kd.string w B m.length m) (hd : m.length ≤ d) (hl : l.length ≤ 1000000) :
    Calls Tryd.prog 28 #[.slice A l.length c, .slice B m.length d] w fun e w' => e = .returned (.bool (decide (l = m))) ∧ Below w.heap.size w w' := by
  obtain ⟨k, hk⟩ := (sameTexts_ev l m hl).get
  exact (mailsackref1_SameTexts.calls k A c l B d m _ w hA hc hB hd hk).mono (fun e w' h => ⟨h.1, h.2.below⟩)
section
attribute [local go_sem] max2_int max_two
set_option maxRecDepth 100000 in
theorem rown_calls (id : ByteArray) (u : Int) (w : World) (ht : Tab w) (h0 : -9223372036854775808 ≤ u) (h1 : u ≤ 9223372036854775807) (hid : id.size ≤ 140737488355328) :
    Calls Tryd.prog 27 #[.string id, .int .i64 u] w fun e w' => e = .returned (.string (ownB id u)) ∧ Below w.heap.size w w' := by
  have hi := Aside0.mk (itoa_calls (mx u 0) (by unfold mx; split <;> omega) (by unfold mx; split <;> omega) w ht)
  have hz := Lib.itoa_length_le (mx u 0) (by unfold mx; split <;> omega) (by unfold mx; split <;> omega)
  have hsz : (itoaB (mx u 0)).size ≤ 21 := by unfold itoaB; rw [ByteArray.size]; simpa using hz
  have HO : Aside0 (ownB id u = (((⟨#[101]⟩ : ByteArray) ++ itoaB (mx u 0)) ++ (⟨#[45]⟩ : ByteArray)) ++ id) := ⟨rfl⟩
  have hq : (⟨(Lib.itoa (mx u 0)).toArray⟩ : ByteArray) = itoaB (mx u 0) := rfl
  rw [hq] at hi
  have hm : (if u < 0 then 0 else u) = mx u 0 := rfl
  have hm2 : (if 0 < u then u else 0) = mx u 0 := by unfold mx; split <;> split <;> omega
  have hm3 : (if (0 : Int) ≤ u then u else 0) = mx u 0 := by unfold mx; split <;> split <;> omega
  have hm4 : mx 0 u = mx u 0 := by unfold mx; split <;> split <;> omega
  clear hq hz ht h0 h1
  rw [HO.out]
  clear HO
  generalize itoaB (mx u 0) = t at *
  have h1 : ¬ 9223372036854775807 < 1 + t.size := by omega
  have h2 : ¬ 9223372036854775807 < 1 + t.size + 1 := by omega
  have h3 : ¬ 9223372036854775807 < 1 + t.size + 1 + id.size := by omega
  go_enter Tryd.func27, Tryd.ntmps27
  go_wp2_with fail
  refine hi.out.mono ?_
  rintro e w1 ⟨rfl, hb⟩
  have HB := Aside0.mk hb
  clear hb hi hm hm2 hm3 hm4
  go_wp2_with fail
  go_ret
  exact ⟨rfl, HB.out⟩
end
end Go.Proofs.YtjlabkibpknkpaaDoor.BxH
