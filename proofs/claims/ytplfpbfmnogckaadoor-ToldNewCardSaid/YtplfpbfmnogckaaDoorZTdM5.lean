-- Printed by prune.py: the used part of a text.
import Derived.Test.YtplfpbfmnogckaaDoorZTdM0
import Derived.Test.YtplfpbfmnogckaaDoorZTdM3
import Derived.Test.YtplfpbfmnogckaaDoorZTdM4
namespace Go.Proofs.YtplfpbfmnogckaaDoor.TdM
open Go.RowKit Go.Proofs.YtplfpbfmnogckaaDoorW.PrintWords Go.Proofs.YtplfpbfmnogckaaDoorW.PrintLast Go.Proofs.YtplfpbfmnogckaaDoorW.PrintMore
attribute [local go_sem] max2_int min2_int max_two min_two max_three min_three max_four min_four
open Go.Proofs.YtplfpbfmnogckaaDoor.TdG
set_option linter.unusedVariables false
set_option linter.unusedSimpArgs false
mutual
def mailsackref1_MayBox.j0 : Nat → Bool → ByteArray → Int → Int → Int → List ByteArray → List (S34) → Option (Int)
  | 0, _, _, _, _, _, _, _ => none
  | k + 1, x48, x112000, x112001, x112002, x112003, x112004, x112005 => if x48 = true then (some 1) else (if (x112004.length : Int) > 64 then (mailsackref1_MayBox.j1 k true x112000 x112001 x112002 x112003 x112004 x112005) else (mailsackref1_MayBox.j1 k (decide ((x112005.length : Int) > 60)) x112000 x112001 x112002 x112003 x112004 x112005))
def mailsackref1_MayBox.j1 : Nat → Bool → ByteArray → Int → Int → Int → List ByteArray → List (S34) → Option (Int)
  | 0, _, _, _, _, _, _, _ => none
  | k + 1, x58, x112000, x112001, x112002, x112003, x112004, x112005 => if x58 = true then (some 4) else (mailsackref1_MayBox.l0 k x112004 (x112004.length : Int) 0 x112000 x112001 x112002 x112003 x112004 x112005)
def mailsackref1_MayBox.l0 : Nat → List ByteArray → Int → Int → ByteArray → Int → Int → Int → List ByteArray → List (S34) → Option (Int)
  | 0, _, _, _, _, _, _, _, _, _ => none
  | k + 1, x60, x61, x62, x112000, x112001, x112002, x112003, x112004, x112005 => if x62 < x61 then (if 0 ≤ x62 then (if x62 < (x60.length : Int) then ((mailsackref1_Atom.f k (rdOf ByteArray.empty x60 x62)).bind fun t114 => (if t114 = true then (if x62 ≤ (x112004.length : Int) then ((mailsackref1_Has.f k (x112004.take (x62 : Int).toNat) (rdOf ByteArray.empty x60 x62)).bind fun t116 => (if t116 = true then (some 1) else (mailsackref1_MayBox.l0 k x60 x61 (wrap64 (x62 + 1)) x112000 x112001 x112002 x112003 x112004 x112005))) else (none)) else (some 1))) else (none)) else (none)) else (mailsackref1_MayBox.l1 k 0 x112005 (x112005.length : Int) 0 x112000 x112001 x112002 x112003 x112004 x112005)
def mailsackref1_MayBox.l1 : Nat → Int → List (S34) → Int → Int → ByteArray → Int → Int → Int → List ByteArray → List (S34) → Option (Int)
  | 0, _, _, _, _, _, _, _, _, _, _ => none
  | k + 1, x5, x80, x81, x82, x112000, x112001, x112002, x112003, x112004, x112005 => if x82 < x81 then (if 0 ≤ x82 then (if x82 < (x80.length : Int) then ((mailsackref1_MayMsg.f k x112000 x112001 x112002 x112003 x112004 x112005 ((rd_T34 x80 x82).f0) ((rd_T34 x80 x82).f1) ((rd_T34 x80 x82).f2) ((rd_T34 x80 x82).f3) ((rd_T34 x80 x82).f4) ((rd_T34 x80 x82).f5) ((rd_T34 x80 x82).f6)).bind fun t119 => (if t119 = 0 then (if ((rd_T34 x80 x82).f0) ≤ x5 then (some 1) else (if ((rd_T34 x80 x82).f0) ≥ x112002 then (some 1) else (if ((rd_T34 x80 x82).f1) > x112003 then (some 1) else (mailsackref1_MayBox.l1 k ((rd_T34 x80 x82).f0) x80 x81 (wrap64 (x82 + 1)) x112000 x112001 x112002 x112003 x112004 x112005)))) else (some t119))) else (none)) else (none)) else (some 0)
end
def mailsackref1_MayBox.f (k : Nat) (a0_0 : ByteArray) (a0_1 : Int) (a0_2 : Int) (a0_3 : Int) (l0_4 : List ByteArray) (l0_5 : List (S34)) : Option (Int) := (mailsackref1_Atom.f k a0_0).bind fun t112 => (if t112 = true then (if (a0_0.size : Int) > 12 then (mailsackref1_MayBox.j0 k true a0_0 a0_1 a0_2 a0_3 l0_4 l0_5) else (if a0_1 < 1 then (mailsackref1_MayBox.j0 k true a0_0 a0_1 a0_2 a0_3 l0_4 l0_5) else (if a0_1 > 1000000 then (mailsackref1_MayBox.j0 k true a0_0 a0_1 a0_2 a0_3 l0_4 l0_5) else (if a0_3 < 1 then (mailsackref1_MayBox.j0 k true a0_0 a0_1 a0_2 a0_3 l0_4 l0_5) else (if a0_3 > 1000000 then (mailsackref1_MayBox.j0 k true a0_0 a0_1 a0_2 a0_3 l0_4 l0_5) else (if a0_2 < 1 then (mailsackref1_MayBox.j0 k true a0_0 a0_1 a0_2 a0_3 l0_4 l0_5) else (mailsackref1_MayBox.j0 k (decide (a0_2 > 1000000)) a0_0 a0_1 a0_2 a0_3 l0_4 l0_5))))))) else (mailsackref1_MayBox.j0 k true a0_0 a0_1 a0_2 a0_3 l0_4 l0_5))
set_option maxHeartbeats 8000000 in
set_option maxRecDepth 100000 in
theorem mailsackref1_MayBox.calls (k : Nat) (a0_0 : ByteArray) (a0_1 : Int) (a0_2 : Int) (a0_3 : Int) (A0_4 : Option Addr) (c0_4 : Nat) (l0_4 : List ByteArray) (A0_5 : Option Addr) (c0_5 : Nat) (l0_5 : List (S34)) (r : Int) (w : World) (hr0_4 : Kd.C Kd.string w A0_4 l0_4.length l0_4) (hc0_4 : l0_4.length ≤ c0_4) (hr0_5 : Kd.C k34 w A0_5 l0_5.length l0_5) (hc0_5 : l0_5.length ≤ c0_5) (h : mailsackref1_MayBox.f k a0_0 a0_1 a0_2 a0_3 l0_4 l0_5 = some r) :
    Calls Tryd.prog 13 #[.agg #[.string a0_0, .int .i64 a0_1, .int .i64 a0_2, .int .i64 a0_3, .slice A0_4 l0_4.length c0_4, .slice A0_5 l0_5.length c0_5]] w fun e w' => e = .returned (.int .i64 r) ∧ Below w.heap.size w w' := by
  have hu25 := Tryd.underlying25
  have hu34 := Tryd.underlying34
  have HR0_4 := Aside0.mk hr0_4
  have HC0_4 := Aside0.mk hc0_4
  clear hr0_4 hc0_4
  have HR0_5 := Aside0.mk hr0_5
  have HC0_5 := Aside0.mk hc0_5
  clear hr0_5 hc0_5
  have HB := Aside0.mk (Below.refl w.heap.size w)
  have H : ((mailsackref1_Atom.f k a0_0).bind fun t112 => (if t112 = true then (if (a0_0.size : Int) > 12 then (mailsackref1_MayBox.j0 k true a0_0 a0_1 a0_2 a0_3 l0_4 l0_5) else (if a0_1 < 1 then (mailsackref1_MayBox.j0 k true a0_0 a0_1 a0_2 a0_3 l0_4 l0_5) else (if a0_1 > 1000000 then (mailsackref1_MayBox.j0 k true a0_0 a0_1 a0_2 a0_3 l0_4 l0_5) else (if a0_3 < 1 then (mailsackref1_MayBox.j0 k true a0_0 a0_1 a0_2 a0_3 l0_4 l0_5) else (if a0_3 > 1000000 then (mailsackref1_MayBox.j0 k true a0_0 a0_1 a0_2 a0_3 l0_4 l0_5) else (if a0_2 < 1 then (mailsackref1_MayBox.j0 k true a0_0 a0_1 a0_2 a0_3 l0_4 l0_5) else (mailsackref1_MayBox.j0 k (decide (a0_2 > 1000000)) a0_0 a0_1 a0_2 a0_3 l0_4 l0_5))))))) else (mailsackref1_MayBox.j0 k true a0_0 a0_1 a0_2 a0_3 l0_4 l0_5))) = some r := h
  clear h
  have HC2 := Aside0.mk H
  clear H
  go_enter Tryd.func13, Tryd.ntmps13
  go_upto_region 1 with (first | ((with_reducible refine gate_dst (N := 1) rfl ?_); (try (refine gate_guard (by rfl) ?_; dsimp only)); refine box_event ?hg (N := 1) ?hd (cs := #[.string a0_0, .int .i64 a0_1, .int .i64 a0_2, .int .i64 a0_3, .slice A0_4 l0_4.length c0_4, .slice A0_5 l0_5.length c0_5]) (t := 25) ?hr ?_; (case hd => rfl); (case hg => rfl); (case hr => first | (go_simp; done) | (go_simp; rfl)); intro gb111 hg w3 hbox hb; have n0_ := Aside0.mk (below_step (by repeat (first | (with_reducible first | exact HB.out | apply below_alloc | apply pw_below_drewN | apply below_drew1) | exact HB.out)) hb); have n1_ := Aside0.mk (hbox); have n2_ := Aside0.mk ((by rw [hg]; exact (below_size (by repeat (first | (with_reducible first | exact HB.out | apply below_alloc | apply pw_below_drewN | apply below_drew1) | exact HB.out))) : w.heap.size ≤ gb111)); have n3_ := Aside0.mk ((by rw [hg]; exact (below_size (by repeat (first | (with_reducible first | exact HB.out | apply below_alloc | apply pw_below_drewN | apply below_drew1) | exact HB.out))) : w.heap.size ≤ gb111)); clear HB; have HB := n0_; have BK111 := n1_; have GW111 := n2_; have GE111 := n3_; clear n0_ n1_ n2_ n3_; clear hb hbox hg))
  (try simp only [Act.put, List.setIfInBounds_toArray, List.set_cons_zero, List.set_cons_succ])
  go_cut [48] (fun v48 wc => ∃ (kq : Nat) (x48_1 : Bool), v48 = .bool x48_1 ∧ Aside0 (mailsackref1_MayBox.j0 kq x48_1 a0_0 a0_1 a0_2 a0_3 l0_4 l0_5 = some r) ∧ Aside0 (kq ≤ k) ∧ Aside0 (wc.heap[gb111]? = some (.cells #[.string a0_0, .int .i64 a0_1, .int .i64 a0_2, .int .i64 a0_3, (.slice A0_4 l0_4.length c0_4), (.slice A0_5 l0_5.length c0_5)] 25 (0, 0))) ∧ Aside0 (Below w.heap.size w wc))
  case first =>
    have H := HC2.out
    clear HC2
    replace H := Option.bind_eq_some_iff.mp H
    obtain ⟨t112, A40, H⟩ := H
    replace H : (if t112 = true then (if (a0_0.size : Int) > 12 then (mailsackref1_MayBox.j0 k true a0_0 a0_1 a0_2 a0_3 l0_4 l0_5) else (if a0_1 < 1 then (mailsackref1_MayBox.j0 k true a0_0 a0_1 a0_2 a0_3 l0_4 l0_5) else (if a0_1 > 1000000 then (mailsackref1_MayBox.j0 k true a0_0 a0_1 a0_2 a0_3 l0_4 l0_5) else (if a0_3 < 1 then (mailsackref1_MayBox.j0 k true a0_0 a0_1 a0_2 a0_3 l0_4 l0_5) else (if a0_3 > 1000000 then (mailsackref1_MayBox.j0 k true a0_0 a0_1 a0_2 a0_3 l0_4 l0_5) else (if a0_2 < 1 then (mailsackref1_MayBox.j0 k true a0_0 a0_1 a0_2 a0_3 l0_4 l0_5) else (mailsackref1_MayBox.j0 k (decide (a0_2 > 1000000)) a0_0 a0_1 a0_2 a0_3 l0_4 l0_5))))))) else (mailsackref1_MayBox.j0 k true a0_0 a0_1 a0_2 a0_3 l0_4 l0_5)) = some r := H
    have A4 := Aside0.mk A40
    clear A40
    by_cases c5 : t112 = true
    · subst c5
      have H1 : (if (a0_0.size : Int) > 12 then (mailsackref1_MayBox.j0 k true a0_0 a0_1 a0_2 a0_3 l0_4 l0_5) else (if a0_1 < 1 then (mailsackref1_MayBox.j0 k true a0_0 a0_1 a0_2 a0_3 l0_4 l0_5) else (if a0_1 > 1000000 then (mailsackref1_MayBox.j0 k true a0_0 a0_1 a0_2 a0_3 l0_4 l0_5) else (if a0_3 < 1 then (mailsackref1_MayBox.j0 k true a0_0 a0_1 a0_2 a0_3 l0_4 l0_5) else (if a0_3 > 1000000 then (mailsackref1_MayBox.j0 k true a0_0 a0_1 a0_2 a0_3 l0_4 l0_5) else (if a0_2 < 1 then (mailsackref1_MayBox.j0 k true a0_0 a0_1 a0_2 a0_3 l0_4 l0_5) else (mailsackref1_MayBox.j0 k (decide (a0_2 > 1000000)) a0_0 a0_1 a0_2 a0_3 l0_4 l0_5))))))) = some r := by rw [if_pos rfl] at H; exact H
      clear H
      have H := H1
      clear H1
      by_cases c6 : (a0_0.size : Int) > 12
      · rw [if_pos c6] at H
        have c6b0 : decide (12 < (a0_0.size : Int)) = true := decide_eq_true c6
        have c6b1 : decide (12 < a0_0.size) = true := decide_eq_true (by omega)
        clear c6
        (first | rw [c6b0] | (simp only [i64_w, i32_w]; rw [c6b0]) | skip)
        have H' := Aside0.mk H
        clear H
        have hcz7_0 : w3.cell? ⟨gb111, 0, none⟩ = some (.string a0_0) := (blk_cell BK111.out 0).trans rfl
        have hcz7_1 : w3.cell? ⟨gb111, 1, none⟩ = some (.int .i64 a0_1) := (blk_cell BK111.out 1).trans rfl
        have hcz7_2 : w3.cell? ⟨gb111, 2, none⟩ = some (.int .i64 a0_2) := (blk_cell BK111.out 2).trans rfl
        have hcz7_3 : w3.cell? ⟨gb111, 3, none⟩ = some (.int .i64 a0_3) := (blk_cell BK111.out 3).trans rfl
        have hcz7_4 : w3.cell? ⟨gb111, 4, none⟩ = some (.slice A0_4 l0_4.length c0_4) := (blk_cell BK111.out 4).trans rfl
        have hcz7_5 : w3.cell? ⟨gb111, 5, none⟩ = some (.slice A0_5 l0_5.length c0_5) := (blk_cell BK111.out 5).trans rfl
        have hfz7_0 := blk_frozen BK111.out 0
        have hfz7_1 := blk_frozen BK111.out 1
        have hfz7_2 := blk_frozen BK111.out 2
        have hfz7_3 := blk_frozen BK111.out 3
        have hfz7_4 := blk_frozen BK111.out 4
        have hfz7_5 := blk_frozen BK111.out 5
        go_wp2_with (first | ((with_reducible refine gate_callee (f := 26) rfl ?_); refine goesL_ (some 11) rfl rfl Tryd.func26 (by kernel_rfl) rfl #[.string a0_0] rfl (by (try simp only [List.map_toArray, List.map_cons, List.map_nil]); first | done | rfl | (simp only [List.length_drop, List.length_take]; rfl)) ?_; (with_reducible refine (mailsackref1_Atom.calls k a0_0 true _ A4.out).mono ?_); rintro e w' ⟨rfl, ⟨nd, rfl⟩⟩; refine ⟨_, rfl, ?_⟩))
        go_meet
        case rel => exact ⟨_, (true), (by first | rfl | (simp; done) | (simp [*]; done)), H', ⟨by first | omega | exact Nat.le_refl _⟩, ⟨by (with_reducible repeat (first | refine blk_drewN ?_ _ | refine blk_drew ?_ | refine blk_alloc ?_ _)); exact BK111.out⟩, ⟨by repeat (first | (with_reducible first | exact HB.out | apply below_alloc | apply pw_below_drewN | apply below_drew1 | refine below_set ?_ GE111.out) | exact HB.out)⟩⟩
      · rw [if_neg c6] at H
        have c6b0 : decide (12 < (a0_0.size : Int)) = false := decide_eq_false c6
        have c6b1 : decide (12 < a0_0.size) = false := decide_eq_false (by omega)
        clear c6
        (first | rw [c6b0] | (simp only [i64_w, i32_w]; rw [c6b0]) | skip)
        by_cases c8 : a0_1 < 1
        · rw [if_pos c8] at H
          have c8b0 : decide (a0_1 < 1) = true := decide_eq_true c8
          clear c8
          have H' := Aside0.mk H
          clear H
          have hcz9_0 : w3.cell? ⟨gb111, 0, none⟩ = some (.string a0_0) := (blk_cell BK111.out 0).trans rfl
          have hcz9_1 : w3.cell? ⟨gb111, 1, none⟩ = some (.int .i64 a0_1) := (blk_cell BK111.out 1).trans rfl
          have hcz9_2 : w3.cell? ⟨gb111, 2, none⟩ = some (.int .i64 a0_2) := (blk_cell BK111.out 2).trans rfl
          have hcz9_3 : w3.cell? ⟨gb111, 3, none⟩ = some (.int .i64 a0_3) := (blk_cell BK111.out 3).trans rfl
          have hcz9_4 : w3.cell? ⟨gb111, 4, none⟩ = some (.slice A0_4 l0_4.length c0_4) := (blk_cell BK111.out 4).trans rfl
          have hcz9_5 : w3.cell? ⟨gb111, 5, none⟩ = some (.slice A0_5 l0_5.length c0_5) := (blk_cell BK111.out 5).trans rfl
          have hfz9_0 := blk_frozen BK111.out 0
          have hfz9_1 := blk_frozen BK111.out 1
          have hfz9_2 := blk_frozen BK111.out 2
          have hfz9_3 := blk_frozen BK111.out 3
          have hfz9_4 := blk_frozen BK111.out 4
          have hfz9_5 := blk_frozen BK111.out 5
          go_wp2_with (first | ((with_reducible refine gate_callee (f := 26) rfl ?_); refine goesL_ (some 11) rfl rfl Tryd.func26 (by kernel_rfl) rfl #[.string a0_0] rfl (by (try simp only [List.map_toArray, List.map_cons, List.map_nil]); first | done | rfl | (simp only [List.length_drop, List.length_take]; rfl)) ?_; (with_reducible refine (mailsackref1_Atom.calls k a0_0 true _ A4.out).mono ?_); rintro e w' ⟨rfl, ⟨nd, rfl⟩⟩; refine ⟨_, rfl, ?_⟩))
          go_meet
          case rel => exact ⟨_, (true), (by first | rfl | (simp; done) | (simp [*]; done)), H', ⟨by first | omega | exact Nat.le_refl _⟩, ⟨by (with_reducible repeat (first | refine blk_drewN ?_ _ | refine blk_drew ?_ | refine blk_alloc ?_ _)); exact BK111.out⟩, ⟨by repeat (first | (with_reducible first | exact HB.out | apply below_alloc | apply pw_below_drewN | apply below_drew1 | refine below_set ?_ GE111.out) | exact HB.out)⟩⟩
        · rw [if_neg c8] at H
          have c8b0 : decide (a0_1 < 1) = false := decide_eq_false c8
          clear c8
          by_cases c10 : a0_1 > 1000000
          · rw [if_pos c10] at H
            have c10b0 : decide (1000000 < a0_1) = true := decide_eq_true c10
            clear c10
            have H' := Aside0.mk H
            clear H
            have hcz11_0 : w3.cell? ⟨gb111, 0, none⟩ = some (.string a0_0) := (blk_cell BK111.out 0).trans rfl
            have hcz11_1 : w3.cell? ⟨gb111, 1, none⟩ = some (.int .i64 a0_1) := (blk_cell BK111.out 1).trans rfl
            have hcz11_2 : w3.cell? ⟨gb111, 2, none⟩ = some (.int .i64 a0_2) := (blk_cell BK111.out 2).trans rfl
            have hcz11_3 : w3.cell? ⟨gb111, 3, none⟩ = some (.int .i64 a0_3) := (blk_cell BK111.out 3).trans rfl
            have hcz11_4 : w3.cell? ⟨gb111, 4, none⟩ = some (.slice A0_4 l0_4.length c0_4) := (blk_cell BK111.out 4).trans rfl
            have hcz11_5 : w3.cell? ⟨gb111, 5, none⟩ = some (.slice A0_5 l0_5.length c0_5) := (blk_cell BK111.out 5).trans rfl
            have hfz11_0 := blk_frozen BK111.out 0
            have hfz11_1 := blk_frozen BK111.out 1
            have hfz11_2 := blk_frozen BK111.out 2
            have hfz11_3 := blk_frozen BK111.out 3
            have hfz11_4 := blk_frozen BK111.out 4
            have hfz11_5 := blk_frozen BK111.out 5
            go_wp2_with (first | ((with_reducible refine gate_callee (f := 26) rfl ?_); refine goesL_ (some 11) rfl rfl Tryd.func26 (by kernel_rfl) rfl #[.string a0_0] rfl (by (try simp only [List.map_toArray, List.map_cons, List.map_nil]); first | done | rfl | (simp only [List.length_drop, List.length_take]; rfl)) ?_; (with_reducible refine (mailsackref1_Atom.calls k a0_0 true _ A4.out).mono ?_); rintro e w' ⟨rfl, ⟨nd, rfl⟩⟩; refine ⟨_, rfl, ?_⟩))
            go_meet
            case rel => exact ⟨_, (true), (by first | rfl | (simp; done) | (simp [*]; done)), H', ⟨by first | omega | exact Nat.le_refl _⟩, ⟨by (with_reducible repeat (first | refine blk_drewN ?_ _ | refine blk_drew ?_ | refine blk_alloc ?_ _)); exact BK111.out⟩, ⟨by repeat (first | (with_reducible first | exact HB.out | apply below_alloc | apply pw_below_drewN | apply below_drew1 | refine below_set ?_ GE111.out) | exact HB.out)⟩⟩
          · rw [if_neg c10] at H
            have c10b0 : decide (1000000 < a0_1) = false := decide_eq_false c10
            clear c10
            by_cases c12 : a0_3 < 1
            · rw [if_pos c12] at H
              have c12b0 : decide (a0_3 < 1) = true := decide_eq_true c12
              clear c12
              have H' := Aside0.mk H
              clear H
              have hcz13_0 : w3.cell? ⟨gb111, 0, none⟩ = some (.string a0_0) := (blk_cell BK111.out 0).trans rfl
              have hcz13_1 : w3.cell? ⟨gb111, 1, none⟩ = some (.int .i64 a0_1) := (blk_cell BK111.out 1).trans rfl
              have hcz13_2 : w3.cell? ⟨gb111, 2, none⟩ = some (.int .i64 a0_2) := (blk_cell BK111.out 2).trans rfl
              have hcz13_3 : w3.cell? ⟨gb111, 3, none⟩ = some (.int .i64 a0_3) := (blk_cell BK111.out 3).trans rfl
              have hcz13_4 : w3.cell? ⟨gb111, 4, none⟩ = some (.slice A0_4 l0_4.length c0_4) := (blk_cell BK111.out 4).trans rfl
              have hcz13_5 : w3.cell? ⟨gb111, 5, none⟩ = some (.slice A0_5 l0_5.length c0_5) := (blk_cell BK111.out 5).trans rfl
              have hfz13_0 := blk_frozen BK111.out 0
              have hfz13_1 := blk_frozen BK111.out 1
              have hfz13_2 := blk_frozen BK111.out 2
              have hfz13_3 := blk_frozen BK111.out 3
              have hfz13_4 := blk_frozen BK111.out 4
              have hfz13_5 := blk_frozen BK111.out 5
              go_wp2_with (first | ((with_reducible refine gate_callee (f := 26) rfl ?_); refine goesL_ (some 11) rfl rfl Tryd.func26 (by kernel_rfl) rfl #[.string a0_0] rfl (by (try simp only [List.map_toArray, List.map_cons, List.map_nil]); first | done | rfl | (simp only [List.length_drop, List.length_take]; rfl)) ?_; (with_reducible refine (mailsackref1_Atom.calls k a0_0 true _ A4.out).mono ?_); rintro e w' ⟨rfl, ⟨nd, rfl⟩⟩; refine ⟨_, rfl, ?_⟩))
              go_meet
              case rel => exact ⟨_, (true), (by first | rfl | (simp; done) | (simp [*]; done)), H', ⟨by first | omega | exact Nat.le_refl _⟩, ⟨by (with_reducible repeat (first | refine blk_drewN ?_ _ | refine blk_drew ?_ | refine blk_alloc ?_ _)); exact BK111.out⟩, ⟨by repeat (first | (with_reducible first | exact HB.out | apply below_alloc | apply pw_below_drewN | apply below_drew1 | refine below_set ?_ GE111.out) | exact HB.out)⟩⟩
            · rw [if_neg c12] at H
              have c12b0 : decide (a0_3 < 1) = false := decide_eq_false c12
              clear c12
              by_cases c14 : a0_3 > 1000000
              · rw [if_pos c14] at H
                have c14b0 : decide (1000000 < a0_3) = true := decide_eq_true c14
                clear c14
                have H' := Aside0.mk H
                clear H
                have hcz15_0 : w3.cell? ⟨gb111, 0, none⟩ = some (.string a0_0) := (blk_cell BK111.out 0).trans rfl
                have hcz15_1 : w3.cell? ⟨gb111, 1, none⟩ = some (.int .i64 a0_1) := (blk_cell BK111.out 1).trans rfl
                have hcz15_2 : w3.cell? ⟨gb111, 2, none⟩ = some (.int .i64 a0_2) := (blk_cell BK111.out 2).trans rfl
                have hcz15_3 : w3.cell? ⟨gb111, 3, none⟩ = some (.int .i64 a0_3) := (blk_cell BK111.out 3).trans rfl
                have hcz15_4 : w3.cell? ⟨gb111, 4, none⟩ = some (.slice A0_4 l0_4.length c0_4) := (blk_cell BK111.out 4).trans rfl
                have hcz15_5 : w3.cell? ⟨gb111, 5, none⟩ = some (.slice A0_5 l0_5.length c0_5) := (blk_cell BK111.out 5).trans rfl
                have hfz15_0 := blk_frozen BK111.out 0
                have hfz15_1 := blk_frozen BK111.out 1
                have hfz15_2 := blk_frozen BK111.out 2
                have hfz15_3 := blk_frozen BK111.out 3
                have hfz15_4 := blk_frozen BK111.out 4
                have hfz15_5 := blk_frozen BK111.out 5
                go_wp2_with (first | ((with_reducible refine gate_callee (f := 26) rfl ?_); refine goesL_ (some 11) rfl rfl Tryd.func26 (by kernel_rfl) rfl #[.string a0_0] rfl (by (try simp only [List.map_toArray, List.map_cons, List.map_nil]); first | done | rfl | (simp only [List.length_drop, List.length_take]; rfl)) ?_; (with_reducible refine (mailsackref1_Atom.calls k a0_0 true _ A4.out).mono ?_); rintro e w' ⟨rfl, ⟨nd, rfl⟩⟩; refine ⟨_, rfl, ?_⟩))
                go_meet
                case rel => exact ⟨_, (true), (by first | rfl | (simp; done) | (simp [*]; done)), H', ⟨by first | omega | exact Nat.le_refl _⟩, ⟨by (with_reducible repeat (first | refine blk_drewN ?_ _ | refine blk_drew ?_ | refine blk_alloc ?_ _)); exact BK111.out⟩, ⟨by repeat (first | (with_reducible first | exact HB.out | apply below_alloc | apply pw_below_drewN | apply below_drew1 | refine below_set ?_ GE111.out) | exact HB.out)⟩⟩
              · rw [if_neg c14] at H
                have c14b0 : decide (1000000 < a0_3) = false := decide_eq_false c14
                clear c14
                by_cases c16 : a0_2 < 1
                · rw [if_pos c16] at H
                  have c16b0 : decide (a0_2 < 1) = true := decide_eq_true c16
                  clear c16
                  have H' := Aside0.mk H
                  clear H
                  have hcz17_0 : w3.cell? ⟨gb111, 0, none⟩ = some (.string a0_0) := (blk_cell BK111.out 0).trans rfl
                  have hcz17_1 : w3.cell? ⟨gb111, 1, none⟩ = some (.int .i64 a0_1) := (blk_cell BK111.out 1).trans rfl
                  have hcz17_2 : w3.cell? ⟨gb111, 2, none⟩ = some (.int .i64 a0_2) := (blk_cell BK111.out 2).trans rfl
                  have hcz17_3 : w3.cell? ⟨gb111, 3, none⟩ = some (.int .i64 a0_3) := (blk_cell BK111.out 3).trans rfl
                  have hcz17_4 : w3.cell? ⟨gb111, 4, none⟩ = some (.slice A0_4 l0_4.length c0_4) := (blk_cell BK111.out 4).trans rfl
                  have hcz17_5 : w3.cell? ⟨gb111, 5, none⟩ = some (.slice A0_5 l0_5.length c0_5) := (blk_cell BK111.out 5).trans rfl
                  have hfz17_0 := blk_frozen BK111.out 0
                  have hfz17_1 := blk_frozen BK111.out 1
                  have hfz17_2 := blk_frozen BK111.out 2
                  have hfz17_3 := blk_frozen BK111.out 3
                  have hfz17_4 := blk_frozen BK111.out 4
                  have hfz17_5 := blk_frozen BK111.out 5
                  go_wp2_with (first | ((with_reducible refine gate_callee (f := 26) rfl ?_); refine goesL_ (some 11) rfl rfl Tryd.func26 (by kernel_rfl) rfl #[.string a0_0] rfl (by (try simp only [List.map_toArray, List.map_cons, List.map_nil]); first | done | rfl | (simp only [List.length_drop, List.length_take]; rfl)) ?_; (with_reducible refine (mailsackref1_Atom.calls k a0_0 true _ A4.out).mono ?_); rintro e w' ⟨rfl, ⟨nd, rfl⟩⟩; refine ⟨_, rfl, ?_⟩))
                  go_meet
                  case rel => exact ⟨_, (true), (by first | rfl | (simp; done) | (simp [*]; done)), H', ⟨by first | omega | exact Nat.le_refl _⟩, ⟨by (with_reducible repeat (first | refine blk_drewN ?_ _ | refine blk_drew ?_ | refine blk_alloc ?_ _)); exact BK111.out⟩, ⟨by repeat (first | (with_reducible first | exact HB.out | apply below_alloc | apply pw_below_drewN | apply below_drew1 | refine below_set ?_ GE111.out) | exact HB.out)⟩⟩
                · rw [if_neg c16] at H
                  have c16b0 : decide (a0_2 < 1) = false := decide_eq_false c16
                  clear c16
                  have H' := Aside0.mk H
                  clear H
                  have hcz18_0 : w3.cell? ⟨gb111, 0, none⟩ = some (.string a0_0) := (blk_cell BK111.out 0).trans rfl
                  have hcz18_1 : w3.cell? ⟨gb111, 1, none⟩ = some (.int .i64 a0_1) := (blk_cell BK111.out 1).trans rfl
                  have hcz18_2 : w3.cell? ⟨gb111, 2, none⟩ = some (.int .i64 a0_2) := (blk_cell BK111.out 2).trans rfl
                  have hcz18_3 : w3.cell? ⟨gb111, 3, none⟩ = some (.int .i64 a0_3) := (blk_cell BK111.out 3).trans rfl
                  have hcz18_4 : w3.cell? ⟨gb111, 4, none⟩ = some (.slice A0_4 l0_4.length c0_4) := (blk_cell BK111.out 4).trans rfl
                  have hcz18_5 : w3.cell? ⟨gb111, 5, none⟩ = some (.slice A0_5 l0_5.length c0_5) := (blk_cell BK111.out 5).trans rfl
                  have hfz18_0 := blk_frozen BK111.out 0
                  have hfz18_1 := blk_frozen BK111.out 1
                  have hfz18_2 := blk_frozen BK111.out 2
                  have hfz18_3 := blk_frozen BK111.out 3
                  have hfz18_4 := blk_frozen BK111.out 4
                  have hfz18_5 := blk_frozen BK111.out 5
                  go_wp2_with (first | ((with_reducible refine gate_callee (f := 26) rfl ?_); refine goesL_ (some 11) rfl rfl Tryd.func26 (by kernel_rfl) rfl #[.string a0_0] rfl (by (try simp only [List.map_toArray, List.map_cons, List.map_nil]); first | done | rfl | (simp only [List.length_drop, List.length_take]; rfl)) ?_; (with_reducible refine (mailsackref1_Atom.calls k a0_0 true _ A4.out).mono ?_); rintro e w' ⟨rfl, ⟨nd, rfl⟩⟩; refine ⟨_, rfl, ?_⟩))
                  go_meet
                  case rel => exact ⟨_, (decide (a0_2 > 1000000)), (by first | rfl | (simp; done) | (simp [*]; done)), H', ⟨by first | omega | exact Nat.le_refl _⟩, ⟨by (with_reducible repeat (first | refine blk_drewN ?_ _ | refine blk_drew ?_ | refine blk_alloc ?_ _)); exact BK111.out⟩, ⟨by repeat (first | (with_reducible first | exact HB.out | apply below_alloc | apply pw_below_drewN | apply below_drew1 | refine below_set ?_ GE111.out) | exact HB.out)⟩⟩
    · replace c5 := Bool.eq_false_iff.mpr c5
      subst c5
      have H1 : (mailsackref1_MayBox.j0 k true a0_0 a0_1 a0_2 a0_3 l0_4 l0_5) = some r := by rw [if_neg (show ¬ (false = true) by decide)] at H; exact H
      clear H
      have H := H1
      clear H1
      have H' := Aside0.mk H
      clear H
      have hcz19_0 : w3.cell? ⟨gb111, 0, none⟩ = some (.string a0_0) := (blk_cell BK111.out 0).trans rfl
      have hcz19_1 : w3.cell? ⟨gb111, 1, none⟩ = some (.int .i64 a0_1) := (blk_cell BK111.out 1).trans rfl
      have hcz19_2 : w3.cell? ⟨gb111, 2, none⟩ = some (.int .i64 a0_2) := (blk_cell BK111.out 2).trans rfl
      have hcz19_3 : w3.cell? ⟨gb111, 3, none⟩ = some (.int .i64 a0_3) := (blk_cell BK111.out 3).trans rfl
      have hcz19_4 : w3.cell? ⟨gb111, 4, none⟩ = some (.slice A0_4 l0_4.length c0_4) := (blk_cell BK111.out 4).trans rfl
      have hcz19_5 : w3.cell? ⟨gb111, 5, none⟩ = some (.slice A0_5 l0_5.length c0_5) := (blk_cell BK111.out 5).trans rfl
      have hfz19_0 := blk_frozen BK111.out 0
      have hfz19_1 := blk_frozen BK111.out 1
      have hfz19_2 := blk_frozen BK111.out 2
      have hfz19_3 := blk_frozen BK111.out 3
      have hfz19_4 := blk_frozen BK111.out 4
      have hfz19_5 := blk_frozen BK111.out 5
      go_wp2_with (first | ((with_reducible refine gate_callee (f := 26) rfl ?_); refine goesL_ (some 11) rfl rfl Tryd.func26 (by kernel_rfl) rfl #[.string a0_0] rfl (by (try simp only [List.map_toArray, List.map_cons, List.map_nil]); first | done | rfl | (simp only [List.length_drop, List.length_take]; rfl)) ?_; (with_reducible refine (mailsackref1_Atom.calls k a0_0 false _ A4.out).mono ?_); rintro e w' ⟨rfl, ⟨nd, rfl⟩⟩; refine ⟨_, rfl, ?_⟩))
      go_meet
      case rel => exact ⟨_, (true), (by first | rfl | (simp; done) | (simp [*]; done)), H', ⟨by first | omega | exact Nat.le_refl _⟩, ⟨by (with_reducible repeat (first | refine blk_drewN ?_ _ | refine blk_drew ?_ | refine blk_alloc ?_ _)); exact BK111.out⟩, ⟨by repeat (first | (with_reducible first | exact HB.out | apply below_alloc | apply pw_below_drewN | apply below_drew1 | refine below_set ?_ GE111.out) | exact HB.out)⟩⟩
  case rest =>
    clear HC2
    try clear c1
    try clear c2
    try clear p2
    try clear c5
    try clear c6
    try clear c6b0
    try clear c6b1
    try clear c8
    try clear c8b0
    try clear c10
    try clear c10b0
    try clear c12
    try clear c12b0
    try clear c13
    try clear c14
    try clear c14b0
    try clear c16
    try clear c16b0
    try clear hcz11_0
    try clear hcz11_1
    try clear hcz11_2
    try clear hcz11_3
    try clear hcz11_4
    try clear hcz11_5
    try clear hcz13_0
    try clear hcz13_1
    try clear hcz13_2
    try clear hcz13_3
    try clear hcz13_4
    try clear hcz13_5
    try clear hcz15_0
    try clear hcz15_1
    try clear hcz15_2
    try clear hcz15_3
    try clear hcz15_4
    try clear hcz15_5
    try clear hcz17_0
    try clear hcz17_1
    try clear hcz17_2
    try clear hcz17_3
    try clear hcz17_4
    try clear hcz17_5
    try clear hcz18_0
    try clear hcz18_1
    try clear hcz18_2
    try clear hcz18_3
    try clear hcz18_4
    try clear hcz18_5
    try clear hcz19_0
    try clear hcz19_1
    try clear hcz19_2
    try clear hcz19_3
    try clear hcz19_4
    try clear hcz19_5
    try clear hcz7_0
    try clear hcz7_1
    try clear hcz7_2
    try clear hcz7_3
    try clear hcz7_4
    try clear hcz7_5
    try clear hcz9_0
    try clear hcz9_1
    try clear hcz9_2
    try clear hcz9_3
    try clear hcz9_4
    try clear hcz9_5
    try clear hfz11_0
    try clear hfz11_1
    try clear hfz11_2
    try clear hfz11_3
    try clear hfz11_4
    try clear hfz11_5
    try clear hfz13_0
    try clear hfz13_1
    try clear hfz13_2
    try clear hfz13_3
    try clear hfz13_4
    try clear hfz13_5
    try clear hfz15_0
    try clear hfz15_1
    try clear hfz15_2
    try clear hfz15_3
    try clear hfz15_4
    try clear hfz15_5
    try clear hfz17_0
    try clear hfz17_1
    try clear hfz17_2
    try clear hfz17_3
    try clear hfz17_4
    try clear hfz17_5
    try clear hfz18_0
    try clear hfz18_1
    try clear hfz18_2
    try clear hfz18_3
    try clear hfz18_4
    try clear hfz18_5
    try clear hfz19_0
    try clear hfz19_1
    try clear hfz19_2
    try clear hfz19_3
    try clear hfz19_4
    try clear hfz19_5
    try clear hfz7_0
    try clear hfz7_1
    try clear hfz7_2
    try clear hfz7_3
    try clear hfz7_4
    try clear hfz7_5
    try clear hfz9_0
    try clear hfz9_1
    try clear hfz9_2
    try clear hfz9_3
    try clear hfz9_4
    try clear hfz9_5
    obtain ⟨kq, x48_1, rfl, HA, HJ1, BK111, HB⟩ := hcut
    cases kq with
    | zero => exact absurd HA.out (by simp [mailsackref1_MayBox.j0])
    | succ kj1 =>
      have H := HA.out
      clear HA
      simp only [mailsackref1_MayBox.j0] at H
      by_cases c20 : x48_1 = true
      · subst c20
        have H1 : (some 1) = some r := by rw [if_pos rfl] at H; exact H
        clear H
        have H := H1
        clear H1
        obtain rfl := Option.some.inj H
        go_wp2
        go_ret
        exact ⟨by first | rfl | (simp [errW_none, errW_some] <;> rfl) | (simp [*, errW_none, errW_some] <;> rfl), by repeat (first | (with_reducible first | exact HB.out | apply below_alloc | apply pw_below_drewN | apply below_drew1 | refine below_set ?_ GE111.out) | exact HB.out)⟩
      · replace c20 := Bool.eq_false_iff.mpr c20
        subst c20
        have H1 : (if (l0_4.length : Int) > 64 then (mailsackref1_MayBox.j1 kj1 true a0_0 a0_1 a0_2 a0_3 l0_4 l0_5) else (mailsackref1_MayBox.j1 kj1 (decide ((l0_5.length : Int) > 60)) a0_0 a0_1 a0_2 a0_3 l0_4 l0_5)) = some r := by rw [if_neg (show ¬ (false = true) by decide)] at H; exact H
        clear H
        have H := H1
        clear H1
        have HC21 := Aside0.mk H
        clear H
        go_upto_region 3 with (fail)
        go_cut [58] (fun v58 wc => ∃ (kq : Nat) (x58_20 : Bool), v58 = .bool x58_20 ∧ Aside0 (mailsackref1_MayBox.j1 kq x58_20 a0_0 a0_1 a0_2 a0_3 l0_4 l0_5 = some r) ∧ Aside0 (kq ≤ kj1) ∧ Aside0 (wc.heap[gb111]? = some (.cells #[.string a0_0, .int .i64 a0_1, .int .i64 a0_2, .int .i64 a0_3, (.slice A0_4 l0_4.length c0_4), (.slice A0_5 l0_5.length c0_5)] 25 (0, 0))) ∧ Aside0 (Below w.heap.size w wc))
        case first =>
          have H := HC21.out
          clear HC21
          by_cases c22 : (l0_4.length : Int) > 64
          · rw [if_pos c22] at H
            have c22b0 : decide (64 < (l0_4.length : Int)) = true := decide_eq_true c22
            have c22b1 : decide (64 < l0_4.length) = true := decide_eq_true (by omega)
            clear c22
            (first | rw [c22b0] | (simp only [i64_w, i32_w]; rw [c22b0]) | skip)
            have H' := Aside0.mk H
            clear H
            have hcz23_0 : wc.cell? ⟨gb111, 0, none⟩ = some (.string a0_0) := (blk_cell BK111.out 0).trans rfl
            have hcz23_1 : wc.cell? ⟨gb111, 1, none⟩ = some (.int .i64 a0_1) := (blk_cell BK111.out 1).trans rfl
            have hcz23_2 : wc.cell? ⟨gb111, 2, none⟩ = some (.int .i64 a0_2) := (blk_cell BK111.out 2).trans rfl
            have hcz23_3 : wc.cell? ⟨gb111, 3, none⟩ = some (.int .i64 a0_3) := (blk_cell BK111.out 3).trans rfl
            have hcz23_4 : wc.cell? ⟨gb111, 4, none⟩ = some (.slice A0_4 l0_4.length c0_4) := (blk_cell BK111.out 4).trans rfl
            have hcz23_5 : wc.cell? ⟨gb111, 5, none⟩ = some (.slice A0_5 l0_5.length c0_5) := (blk_cell BK111.out 5).trans rfl
            have hfz23_0 := blk_frozen BK111.out 0
            have hfz23_1 := blk_frozen BK111.out 1
            have hfz23_2 := blk_frozen BK111.out 2
            have hfz23_3 := blk_frozen BK111.out 3
            have hfz23_4 := blk_frozen BK111.out 4
            have hfz23_5 := blk_frozen BK111.out 5
            go_wp2
            go_meet
            case rel => exact ⟨_, (true), (by first | rfl | (simp; done) | (simp [*]; done)), H', ⟨by have := HJ1.out; first | omega | exact Nat.le_refl _⟩, ⟨by (with_reducible repeat (first | refine blk_drewN ?_ _ | refine blk_drew ?_ | refine blk_alloc ?_ _)); exact BK111.out⟩, ⟨by repeat (first | (with_reducible first | exact HB.out | apply below_alloc | apply pw_below_drewN | apply below_drew1 | refine below_set ?_ GE111.out) | exact HB.out)⟩⟩
          · rw [if_neg c22] at H
            have c22b0 : decide (64 < (l0_4.length : Int)) = false := decide_eq_false c22
            have c22b1 : decide (64 < l0_4.length) = false := decide_eq_false (by omega)
            clear c22
            (first | rw [c22b0] | (simp only [i64_w, i32_w]; rw [c22b0]) | skip)
            have H' := Aside0.mk H
            clear H
            have hcz24_0 : wc.cell? ⟨gb111, 0, none⟩ = some (.string a0_0) := (blk_cell BK111.out 0).trans rfl
            have hcz24_1 : wc.cell? ⟨gb111, 1, none⟩ = some (.int .i64 a0_1) := (blk_cell BK111.out 1).trans rfl
            have hcz24_2 : wc.cell? ⟨gb111, 2, none⟩ = some (.int .i64 a0_2) := (blk_cell BK111.out 2).trans rfl
            have hcz24_3 : wc.cell? ⟨gb111, 3, none⟩ = some (.int .i64 a0_3) := (blk_cell BK111.out 3).trans rfl
            have hcz24_4 : wc.cell? ⟨gb111, 4, none⟩ = some (.slice A0_4 l0_4.length c0_4) := (blk_cell BK111.out 4).trans rfl
            have hcz24_5 : wc.cell? ⟨gb111, 5, none⟩ = some (.slice A0_5 l0_5.length c0_5) := (blk_cell BK111.out 5).trans rfl
            have hfz24_0 := blk_frozen BK111.out 0
            have hfz24_1 := blk_frozen BK111.out 1
            have hfz24_2 := blk_frozen BK111.out 2
            have hfz24_3 := blk_frozen BK111.out 3
            have hfz24_4 := blk_frozen BK111.out 4
            have hfz24_5 := blk_frozen BK111.out 5
            go_wp2
            go_meet
            case rel => exact ⟨_, (decide ((l0_5.length : Int) > 60)), (by first | rfl | (simp; done) | (simp [*]; done)), H', ⟨by have := HJ1.out; first | omega | exact Nat.le_refl _⟩, ⟨by (with_reducible repeat (first | refine blk_drewN ?_ _ | refine blk_drew ?_ | refine blk_alloc ?_ _)); exact BK111.out⟩, ⟨by repeat (first | (with_reducible first | exact HB.out | apply below_alloc | apply pw_below_drewN | apply below_drew1 | refine below_set ?_ GE111.out) | exact HB.out)⟩⟩
        case rest =>
          clear HC21
          try clear c1
          try clear c2
          try clear p2
          try clear c5
          try clear c6
          try clear c6b0
          try clear c6b1
          try clear c8
          try clear c8b0
          try clear c10
          try clear c10b0
          try clear c12
          try clear c12b0
          try clear c13
          try clear c14
          try clear c14b0
          try clear c16
          try clear c16b0
          try clear c20
          try clear c22
          try clear c22b0
          try clear c22b1
          try clear hcz11_0
          try clear hcz11_1
          try clear hcz11_2
          try clear hcz11_3
          try clear hcz11_4
          try clear hcz11_5
          try clear hcz13_0
          try clear hcz13_1
          try clear hcz13_2
          try clear hcz13_3
          try clear hcz13_4
          try clear hcz13_5
          try clear hcz15_0
          try clear hcz15_1
          try clear hcz15_2
          try clear hcz15_3
          try clear hcz15_4
          try clear hcz15_5
          try clear hcz17_0
          try clear hcz17_1
          try clear hcz17_2
          try clear hcz17_3
          try clear hcz17_4
          try clear hcz17_5
          try clear hcz18_0
          try clear hcz18_1
          try clear hcz18_2
          try clear hcz18_3
          try clear hcz18_4
          try clear hcz18_5
          try clear hcz19_0
          try clear hcz19_1
          try clear hcz19_2
          try clear hcz19_3
          try clear hcz19_4
          try clear hcz19_5
          try clear hcz23_0
          try clear hcz23_1
          try clear hcz23_2
          try clear hcz23_3
          try clear hcz23_4
          try clear hcz23_5
          try clear hcz24_0
          try clear hcz24_1
          try clear hcz24_2
          try clear hcz24_3
          try clear hcz24_4
          try clear hcz24_5
          try clear hcz7_0
          try clear hcz7_1
          try clear hcz7_2
          try clear hcz7_3
          try clear hcz7_4
          try clear hcz7_5
          try clear hcz9_0
          try clear hcz9_1
          try clear hcz9_2
          try clear hcz9_3
          try clear hcz9_4
          try clear hcz9_5
          try clear hfz11_0
          try clear hfz11_1
          try clear hfz11_2
          try clear hfz11_3
          try clear hfz11_4
          try clear hfz11_5
          try clear hfz13_0
          try clear hfz13_1
          try clear hfz13_2
          try clear hfz13_3
          try clear hfz13_4
          try clear hfz13_5
          try clear hfz15_0
          try clear hfz15_1
          try clear hfz15_2
          try clear hfz15_3
          try clear hfz15_4
          try clear hfz15_5
          try clear hfz17_0
          try clear hfz17_1
          try clear hfz17_2
          try clear hfz17_3
          try clear hfz17_4
          try clear hfz17_5
          try clear hfz18_0
          try clear hfz18_1
          try clear hfz18_2
          try clear hfz18_3
          try clear hfz18_4
          try clear hfz18_5
          try clear hfz19_0
          try clear hfz19_1
          try clear hfz19_2
          try clear hfz19_3
          try clear hfz19_4
          try clear hfz19_5
          try clear hfz23_0
          try clear hfz23_1
          try clear hfz23_2
          try clear hfz23_3
          try clear hfz23_4
          try clear hfz23_5
          try clear hfz24_0
          try clear hfz24_1
          try clear hfz24_2
          try clear hfz24_3
          try clear hfz24_4
          try clear hfz24_5
          try clear hfz7_0
          try clear hfz7_1
          try clear hfz7_2
          try clear hfz7_3
          try clear hfz7_4
          try clear hfz7_5
          try clear hfz9_0
          try clear hfz9_1
          try clear hfz9_2
          try clear hfz9_3
          try clear hfz9_4
          try clear hfz9_5
          try clear p2
          obtain ⟨kq, x58_20, rfl, HA, HJ20, BK111, HB⟩ := hcut
          cases kq with
          | zero => exact absurd HA.out (by simp [mailsackref1_MayBox.j1])
          | succ kj20 =>
            have H := HA.out
            clear HA
            simp only [mailsackref1_MayBox.j1] at H
            by_cases c25 : x58_20 = true
            · subst c25
              have H1 : (some 4) = some r := by rw [if_pos rfl] at H; exact H
              clear H
              have H := H1
              clear H1
              obtain rfl := Option.some.inj H
              go_wp2
              go_ret
              exact ⟨by first | rfl | (simp [errW_none, errW_some] <;> rfl) | (simp [*, errW_none, errW_some] <;> rfl), by repeat (first | (with_reducible first | exact HB.out | apply below_alloc | apply pw_below_drewN | apply below_drew1 | refine below_set ?_ GE111.out) | exact HB.out)⟩
            · replace c25 := Bool.eq_false_iff.mpr c25
              subst c25
              have H1 : (mailsackref1_MayBox.l0 kj20 l0_4 (l0_4.length : Int) 0 a0_0 a0_1 a0_2 a0_3 l0_4 l0_5) = some r := by rw [if_neg (show ¬ (false = true) by decide)] at H; exact H
              clear H
              have H := H1
              clear H1
              have H' := Aside0.mk H
              clear H
              have hcz26_0 : wc.cell? ⟨gb111, 0, none⟩ = some (.string a0_0) := (blk_cell BK111.out 0).trans rfl
              have hcz26_1 : wc.cell? ⟨gb111, 1, none⟩ = some (.int .i64 a0_1) := (blk_cell BK111.out 1).trans rfl
              have hcz26_2 : wc.cell? ⟨gb111, 2, none⟩ = some (.int .i64 a0_2) := (blk_cell BK111.out 2).trans rfl
              have hcz26_3 : wc.cell? ⟨gb111, 3, none⟩ = some (.int .i64 a0_3) := (blk_cell BK111.out 3).trans rfl
              have hcz26_4 : wc.cell? ⟨gb111, 4, none⟩ = some (.slice A0_4 l0_4.length c0_4) := (blk_cell BK111.out 4).trans rfl
              have hcz26_5 : wc.cell? ⟨gb111, 5, none⟩ = some (.slice A0_5 l0_5.length c0_5) := (blk_cell BK111.out 5).trans rfl
              have hfz26_0 := blk_frozen BK111.out 0
              have hfz26_1 := blk_frozen BK111.out 1
              have hfz26_2 := blk_frozen BK111.out 2
              have hfz26_3 := blk_frozen BK111.out 3
              have hfz26_4 := blk_frozen BK111.out 4
              have hfz26_5 := blk_frozen BK111.out 5
              go_wp2
              go_loopg [62] kj20 (fun kq v62 w' => ∃ (x62_3 : Int), v62 = .int .i64 x62_3 ∧ Aside0 (mailsackref1_MayBox.l0 kq l0_4 (l0_4.length : Int) x62_3 a0_0 a0_1 a0_2 a0_3 l0_4 l0_5 = some r) ∧ Aside0 (kq ≤ kj20) ∧ Aside0 (w'.heap[gb111]? = some (.cells #[.string a0_0, .int .i64 a0_1, .int .i64 a0_2, .int .i64 a0_3, (.slice A0_4 l0_4.length c0_4), (.slice A0_5 l0_5.length c0_5)] 25 (0, 0))) ∧ Aside0 (Below w.heap.size w w'))
              case atStart => exact ⟨(0), (by first | rfl | (simp; done) | (simp [*]; done)), H', ⟨Nat.le_refl _⟩, ⟨by (with_reducible repeat (first | refine blk_drewN ?_ _ | refine blk_drew ?_ | refine blk_alloc ?_ _)); exact BK111.out⟩, ⟨by repeat (first | (with_reducible first | exact HB.out | apply below_alloc | apply pw_below_drewN | apply below_drew1 | refine below_set ?_ GE111.out) | exact HB.out)⟩⟩
              case round =>
                clear H'
                try clear c1
                try clear c2
                try clear p2
                try clear c5
                try clear c6
                try clear c6b0
                try clear c6b1
                try clear c8
                try clear c8b0
                try clear c10
                try clear c10b0
                try clear c12
                try clear c12b0
                try clear c13
                try clear c14
                try clear c14b0
                try clear c16
                try clear c16b0
                try clear c20
                try clear c22
                try clear c22b0
                try clear c22b1
                try clear c25
                try clear c26
                try clear hcz11_0
                try clear hcz11_1
                try clear hcz11_2
                try clear hcz11_3
                try clear hcz11_4
                try clear hcz11_5
                try clear hcz13_0
                try clear hcz13_1
                try clear hcz13_2
                try clear hcz13_3
                try clear hcz13_4
                try clear hcz13_5
                try clear hcz15_0
                try clear hcz15_1
                try clear hcz15_2
                try clear hcz15_3
                try clear hcz15_4
                try clear hcz15_5
                try clear hcz17_0
                try clear hcz17_1
                try clear hcz17_2
                try clear hcz17_3
                try clear hcz17_4
                try clear hcz17_5
                try clear hcz18_0
                try clear hcz18_1
                try clear hcz18_2
                try clear hcz18_3
                try clear hcz18_4
                try clear hcz18_5
                try clear hcz19_0
                try clear hcz19_1
                try clear hcz19_2
                try clear hcz19_3
                try clear hcz19_4
                try clear hcz19_5
                try clear hcz23_0
                try clear hcz23_1
                try clear hcz23_2
                try clear hcz23_3
                try clear hcz23_4
                try clear hcz23_5
                try clear hcz24_0
                try clear hcz24_1
                try clear hcz24_2
                try clear hcz24_3
                try clear hcz24_4
                try clear hcz24_5
                try clear hcz26_0
                try clear hcz26_1
                try clear hcz26_2
                try clear hcz26_3
                try clear hcz26_4
                try clear hcz26_5
                try clear hcz7_0
                try clear hcz7_1
                try clear hcz7_2
                try clear hcz7_3
                try clear hcz7_4
                try clear hcz7_5
                try clear hcz9_0
                try clear hcz9_1
                try clear hcz9_2
                try clear hcz9_3
                try clear hcz9_4
                try clear hcz9_5
                try clear hfz11_0
                try clear hfz11_1
                try clear hfz11_2
                try clear hfz11_3
                try clear hfz11_4
                try clear hfz11_5
                try clear hfz13_0
                try clear hfz13_1
                try clear hfz13_2
                try clear hfz13_3
                try clear hfz13_4
                try clear hfz13_5
                try clear hfz15_0
                try clear hfz15_1
                try clear hfz15_2
                try clear hfz15_3
                try clear hfz15_4
                try clear hfz15_5
                try clear hfz17_0
                try clear hfz17_1
                try clear hfz17_2
                try clear hfz17_3
                try clear hfz17_4
                try clear hfz17_5
                try clear hfz18_0
                try clear hfz18_1
                try clear hfz18_2
                try clear hfz18_3
                try clear hfz18_4
                try clear hfz18_5
                try clear hfz19_0
                try clear hfz19_1
                try clear hfz19_2
                try clear hfz19_3
                try clear hfz19_4
                try clear hfz19_5
                try clear hfz23_0
                try clear hfz23_1
                try clear hfz23_2
                try clear hfz23_3
                try clear hfz23_4
                try clear hfz23_5
                try clear hfz24_0
                try clear hfz24_1
                try clear hfz24_2
                try clear hfz24_3
                try clear hfz24_4
                try clear hfz24_5
                try clear hfz26_0
                try clear hfz26_1
                try clear hfz26_2
                try clear hfz26_3
                try clear hfz26_4
                try clear hfz26_5
                try clear hfz7_0
                try clear hfz7_1
                try clear hfz7_2
                try clear hfz7_3
                try clear hfz7_4
                try clear hfz7_5
                try clear hfz9_0
                try clear hfz9_1
                try clear hfz9_2
                try clear hfz9_3
                try clear hfz9_4
                try clear hfz9_5
                try clear p2
                obtain ⟨x62_3, rfl, HA, HK3, BK111, HB⟩ := hrel
                cases gk with
                | zero => exact absurd HA.out (by simp [mailsackref1_MayBox.l0])
                | succ k3 =>
                  have H := HA.out
                  clear HA
                  simp only [mailsackref1_MayBox.l0] at H
                  by_cases c27 : x62_3 < (l0_4.length : Int)
                  · rw [if_pos c27] at H
                    have c27b0 : decide (x62_3 < (l0_4.length : Int)) = true := decide_eq_true c27
                    clear c27
                    by_cases c28 : 0 ≤ x62_3
                    · rw [if_pos c28] at H
                      have c28b0 : decide (0 ≤ x62_3) = true := decide_eq_true c28
                      clear c28
                      by_cases c29 : x62_3 < (l0_4.length : Int)
                      · rw [if_pos c29] at H
                        have c29b0 : decide (x62_3 < (l0_4.length : Int)) = true := decide_eq_true c29
                        clear c29
                        replace H := Option.bind_eq_some_iff.mp H
                        obtain ⟨t114, A300, H⟩ := H
                        replace H : (if t114 = true then (if x62_3 ≤ (l0_4.length : Int) then ((mailsackref1_Has.f k3 (l0_4.take (x62_3 : Int).toNat) (rdOf ByteArray.empty l0_4 x62_3)).bind fun t116 => (if t116 = true then (some 1) else (mailsackref1_MayBox.l0 k3 l0_4 (l0_4.length : Int) (wrap64 (x62_3 + 1)) a0_0 a0_1 a0_2 a0_3 l0_4 l0_5))) else (none)) else (some 1)) = some r := H
                        have A30 := Aside0.mk A300
                        clear A300
                        by_cases c31 : t114 = true
                        · subst c31
                          have H1 : (if x62_3 ≤ (l0_4.length : Int) then ((mailsackref1_Has.f k3 (l0_4.take (x62_3 : Int).toNat) (rdOf ByteArray.empty l0_4 x62_3)).bind fun t116 => (if t116 = true then (some 1) else (mailsackref1_MayBox.l0 k3 l0_4 (l0_4.length : Int) (wrap64 (x62_3 + 1)) a0_0 a0_1 a0_2 a0_3 l0_4 l0_5))) else (none)) = some r := by rw [if_pos rfl] at H; exact H
                          clear H
                          have H := H1
                          clear H1
                          have c32b0 := eq_true (of_decide_eq_true (by first | (with_reducible assumption) | assumption) : 0 ≤ x62_3)
                          by_cases c33 : x62_3 ≤ (l0_4.length : Int)
                          · rw [if_pos c33] at H
                            have c33b0 := eq_true c33
                            have c33b1 : decide (x62_3 ≤ (l0_4.length : Int)) = true := decide_eq_true c33
                            clear c33
                            replace H := Option.bind_eq_some_iff.mp H
                            obtain ⟨t116, A340, H⟩ := H
                            replace H : (if t116 = true then (some 1) else (mailsackref1_MayBox.l0 k3 l0_4 (l0_4.length : Int) (wrap64 (x62_3 + 1)) a0_0 a0_1 a0_2 a0_3 l0_4 l0_5)) = some r := H
                            have A34 := Aside0.mk A340
                            clear A340
                            by_cases c35 : t116 = true
                            · subst c35
                              have H1 : (some 1) = some r := by rw [if_pos rfl] at H; exact H
                              clear H
                              have H := H1
                              clear H1
                              obtain rfl := Option.some.inj H
                              have p113 : 0 ≤ (x62_3 : Int) := of_decide_eq_true (by first | (with_reducible assumption) | assumption)
                              have q113 : x62_3 < (l0_4.length : Int) := of_decide_eq_true (by first | (with_reducible assumption) | assumption)
                              obtain ⟨ad113, e113, hx113_0⟩ := Kd.at_string HR0_4.out x62_3 p113 q113
                              cases e113
                              replace hx113_0 := (HB.out.cell (World.block_lt_of_cell? w _ hx113_0)).trans hx113_0
                              replace p113 := eq_true p113
                              replace q113 := eq_true q113
                              go_wp2_with (first | ((with_reducible refine gate_callee (f := 26) rfl ?_); refine goesL_ (some 68) rfl rfl Tryd.func26 (by kernel_rfl) rfl #[.string (rdOf ByteArray.empty l0_4 x62_3)] rfl (by (try simp only [List.map_toArray, List.map_cons, List.map_nil]); first | done | rfl | (simp only [List.length_drop, List.length_take]; rfl)) ?_; (with_reducible refine (mailsackref1_Atom.calls k3 (rdOf ByteArray.empty l0_4 x62_3) true _ A30.out).mono ?_); rintro e w' ⟨rfl, ⟨nd, rfl⟩⟩; refine ⟨_, rfl, ?_⟩; have hcz36_0 : wr.cell? ⟨gb111, 0, none⟩ = some (.string a0_0) := (blk_cell BK111.out 0).trans rfl; have hcz36_1 : wr.cell? ⟨gb111, 1, none⟩ = some (.int .i64 a0_1) := (blk_cell BK111.out 1).trans rfl; have hcz36_2 : wr.cell? ⟨gb111, 2, none⟩ = some (.int .i64 a0_2) := (blk_cell BK111.out 2).trans rfl; have hcz36_3 : wr.cell? ⟨gb111, 3, none⟩ = some (.int .i64 a0_3) := (blk_cell BK111.out 3).trans rfl; have hcz36_4 : wr.cell? ⟨gb111, 4, none⟩ = some (.slice (some ad113) l0_4.length c0_4) := (blk_cell BK111.out 4).trans rfl; have hcz36_5 : wr.cell? ⟨gb111, 5, none⟩ = some (.slice A0_5 l0_5.length c0_5) := (blk_cell BK111.out 5).trans rfl; have hfz36_0 := blk_frozen BK111.out 0; have hfz36_1 := blk_frozen BK111.out 1; have hfz36_2 := blk_frozen BK111.out 2; have hfz36_3 := blk_frozen BK111.out 3; have hfz36_4 := blk_frozen BK111.out 4; have hfz36_5 := blk_frozen BK111.out 5; obtain ⟨i037, hi037, _, hsz37, _⟩ := info_parts info9; obtain ⟨hcut37, hA37, hC37⟩ := print_take_of (P := Tryd.prog) Value.string (⟨#[]⟩ : ByteArray) 22 9 .i64 Tryd.underlying22 hi037 hsz37 (some ad113) c0_4 l0_4 x62_3 (of_decide_eq_true (by first | (with_reducible assumption) | assumption)) (of_decide_eq_true (by first | (with_reducible assumption) | assumption)) HC0_4.out; have HR115 := Aside0.mk (Kd.C_of_reads (h1 := fun _ => rfl) (hA37 _ (Kd.reads_of_C HR0_4.out))); have HC115 := Aside0.mk hC37; clear hA37 hC37 hi037 hsz37) | (go_at_call 27; (first | (with_reducible refine (mailsackref1_Has.calls k3 _ _ (l0_4.take (x62_3 : Int).toNat) (rdOf ByteArray.empty l0_4 x62_3) true _ ?side1 ?side2 A34.out).mono ?_) | (refine (Go.Proofs.YtplfpbfmnogckaaDoor.Cm.cut_arg2 (Go.Proofs.YtplfpbfmnogckaaDoor.Cm.take_len (l := l0_4) (x := x62_3) (of_decide_eq_true (by first | (with_reducible assumption) | assumption)) (of_decide_eq_true (by first | (with_reducible assumption) | assumption))) (mailsackref1_Has.calls k3 _ _ (l0_4.take (x62_3 : Int).toNat) (rdOf ByteArray.empty l0_4 x62_3) true _ ?side1 ?side2 A34.out)).mono ?_)); (case side1 => repeat (first | exact (Kd.C_below HR115.out (by repeat (first | (with_reducible first | exact HB.out | apply below_alloc | apply pw_below_drewN | apply below_drew1 | refine below_set ?_ GE111.out) | exact HB.out))) | (with_reducible refine Kd.C_alloc ?_ _) | (with_reducible refine Kd.C_drewN ?_ _) | (with_reducible refine Kd.C_drew ?_))); (case side2 => exact HC115.out); rintro e w' ⟨rfl, ⟨nd, rfl⟩⟩))
                              go_ret
                              exact ⟨by first | rfl | (simp [errW_none, errW_some] <;> rfl) | (simp [*, errW_none, errW_some] <;> rfl), by repeat (first | (with_reducible first | exact HB.out | apply below_alloc | apply pw_below_drewN | apply below_drew1 | refine below_set ?_ GE111.out) | exact HB.out)⟩
                            · replace c35 := Bool.eq_false_iff.mpr c35
                              subst c35
                              have H1 : (mailsackref1_MayBox.l0 k3 l0_4 (l0_4.length : Int) (wrap64 (x62_3 + 1)) a0_0 a0_1 a0_2 a0_3 l0_4 l0_5) = some r := by rw [if_neg (show ¬ (false = true) by decide)] at H; exact H
                              clear H
                              have H := H1
                              clear H1
                              have H' := Aside0.mk H
                              clear H
                              have p113 : 0 ≤ (x62_3 : Int) := of_decide_eq_true (by first | (with_reducible assumption) | assumption)
                              have q113 : x62_3 < (l0_4.length : Int) := of_decide_eq_true (by first | (with_reducible assumption) | assumption)
                              obtain ⟨ad113, e113, hx113_0⟩ := Kd.at_string HR0_4.out x62_3 p113 q113
                              cases e113
                              replace hx113_0 := (HB.out.cell (World.block_lt_of_cell? w _ hx113_0)).trans hx113_0
                              replace p113 := eq_true p113
                              replace q113 := eq_true q113
                              go_wp2_with (first | ((with_reducible refine gate_callee (f := 26) rfl ?_); refine goesL_ (some 68) rfl rfl Tryd.func26 (by kernel_rfl) rfl #[.string (rdOf ByteArray.empty l0_4 x62_3)] rfl (by (try simp only [List.map_toArray, List.map_cons, List.map_nil]); first | done | rfl | (simp only [List.length_drop, List.length_take]; rfl)) ?_; (with_reducible refine (mailsackref1_Atom.calls k3 (rdOf ByteArray.empty l0_4 x62_3) true _ A30.out).mono ?_); rintro e w' ⟨rfl, ⟨nd, rfl⟩⟩; refine ⟨_, rfl, ?_⟩; have hcz38_0 : wr.cell? ⟨gb111, 0, none⟩ = some (.string a0_0) := (blk_cell BK111.out 0).trans rfl; have hcz38_1 : wr.cell? ⟨gb111, 1, none⟩ = some (.int .i64 a0_1) := (blk_cell BK111.out 1).trans rfl; have hcz38_2 : wr.cell? ⟨gb111, 2, none⟩ = some (.int .i64 a0_2) := (blk_cell BK111.out 2).trans rfl; have hcz38_3 : wr.cell? ⟨gb111, 3, none⟩ = some (.int .i64 a0_3) := (blk_cell BK111.out 3).trans rfl; have hcz38_4 : wr.cell? ⟨gb111, 4, none⟩ = some (.slice (some ad113) l0_4.length c0_4) := (blk_cell BK111.out 4).trans rfl; have hcz38_5 : wr.cell? ⟨gb111, 5, none⟩ = some (.slice A0_5 l0_5.length c0_5) := (blk_cell BK111.out 5).trans rfl; have hfz38_0 := blk_frozen BK111.out 0; have hfz38_1 := blk_frozen BK111.out 1; have hfz38_2 := blk_frozen BK111.out 2; have hfz38_3 := blk_frozen BK111.out 3; have hfz38_4 := blk_frozen BK111.out 4; have hfz38_5 := blk_frozen BK111.out 5; obtain ⟨i039, hi039, _, hsz39, _⟩ := info_parts info9; obtain ⟨hcut39, hA39, hC39⟩ := print_take_of (P := Tryd.prog) Value.string (⟨#[]⟩ : ByteArray) 22 9 .i64 Tryd.underlying22 hi039 hsz39 (some ad113) c0_4 l0_4 x62_3 (of_decide_eq_true (by first | (with_reducible assumption) | assumption)) (of_decide_eq_true (by first | (with_reducible assumption) | assumption)) HC0_4.out; have HR115 := Aside0.mk (Kd.C_of_reads (h1 := fun _ => rfl) (hA39 _ (Kd.reads_of_C HR0_4.out))); have HC115 := Aside0.mk hC39; clear hA39 hC39 hi039 hsz39) | (go_at_call 27; (first | (with_reducible refine (mailsackref1_Has.calls k3 _ _ (l0_4.take (x62_3 : Int).toNat) (rdOf ByteArray.empty l0_4 x62_3) false _ ?side1 ?side2 A34.out).mono ?_) | (refine (Go.Proofs.YtplfpbfmnogckaaDoor.Cm.cut_arg2 (Go.Proofs.YtplfpbfmnogckaaDoor.Cm.take_len (l := l0_4) (x := x62_3) (of_decide_eq_true (by first | (with_reducible assumption) | assumption)) (of_decide_eq_true (by first | (with_reducible assumption) | assumption))) (mailsackref1_Has.calls k3 _ _ (l0_4.take (x62_3 : Int).toNat) (rdOf ByteArray.empty l0_4 x62_3) false _ ?side1 ?side2 A34.out)).mono ?_)); (case side1 => repeat (first | exact (Kd.C_below HR115.out (by repeat (first | (with_reducible first | exact HB.out | apply below_alloc | apply pw_below_drewN | apply below_drew1 | refine below_set ?_ GE111.out) | exact HB.out))) | (with_reducible refine Kd.C_alloc ?_ _) | (with_reducible refine Kd.C_drewN ?_ _) | (with_reducible refine Kd.C_drew ?_))); (case side2 => exact HC115.out); rintro e w' ⟨rfl, ⟨nd, rfl⟩⟩))
                              go_roundg k3
                              case measure => have := HJ1.out; have := HJ20.out; have := HK3.out; omega
                              case rel => exact ⟨(wrap64 (x62_3 + 1)), (by first | rfl | (simp; done) | (simp [*]; done)), H', ⟨by have := HJ1.out; have := HJ20.out; have := HK3.out; omega⟩, ⟨by (with_reducible repeat (first | refine blk_drewN ?_ _ | refine blk_drew ?_ | refine blk_alloc ?_ _)); exact BK111.out⟩, ⟨by repeat (first | (with_reducible first | exact HB.out | apply below_alloc | apply pw_below_drewN | apply below_drew1 | refine below_set ?_ GE111.out) | exact HB.out)⟩⟩
                          · rw [if_neg c33] at H
                            exact absurd H (by simp)
                        · replace c31 := Bool.eq_false_iff.mpr c31
                          subst c31
                          have H1 : (some 1) = some r := by rw [if_neg (show ¬ (false = true) by decide)] at H; exact H
                          clear H
                          have H := H1
                          clear H1
                          obtain rfl := Option.some.inj H
                          have p113 : 0 ≤ (x62_3 : Int) := of_decide_eq_true (by first | (with_reducible assumption) | assumption)
                          have q113 : x62_3 < (l0_4.length : Int) := of_decide_eq_true (by first | (with_reducible assumption) | assumption)
                          obtain ⟨ad113, e113, hx113_0⟩ := Kd.at_string HR0_4.out x62_3 p113 q113
                          cases e113
                          replace hx113_0 := (HB.out.cell (World.block_lt_of_cell? w _ hx113_0)).trans hx113_0
                          replace p113 := eq_true p113
                          replace q113 := eq_true q113
                          go_wp2_with (first | ((with_reducible refine gate_callee (f := 26) rfl ?_); refine goesL_ (some 68) rfl rfl Tryd.func26 (by kernel_rfl) rfl #[.string (rdOf ByteArray.empty l0_4 x62_3)] rfl (by (try simp only [List.map_toArray, List.map_cons, List.map_nil]); first | done | rfl | (simp only [List.length_drop, List.length_take]; rfl)) ?_; (with_reducible refine (mailsackref1_Atom.calls k3 (rdOf ByteArray.empty l0_4 x62_3) false _ A30.out).mono ?_); rintro e w' ⟨rfl, ⟨nd, rfl⟩⟩; refine ⟨_, rfl, ?_⟩))
                          go_ret
                          exact ⟨by first | rfl | (simp [errW_none, errW_some] <;> rfl) | (simp [*, errW_none, errW_some] <;> rfl), by repeat (first | (with_reducible first | exact HB.out | apply below_alloc | apply pw_below_drewN | apply below_drew1 | refine below_set ?_ GE111.out) | exact HB.out)⟩
                      · rw [if_neg c29] at H
                        exact absurd H (by simp)
                    · rw [if_neg c28] at H
                      exact absurd H (by simp)
                  · rw [if_neg c27] at H
                    have c27b0 : decide (x62_3 < (l0_4.length : Int)) = false := decide_eq_false c27
                    clear c27
                    have H' := Aside0.mk H
                    clear H
                    have hcz40_0 : wr.cell? ⟨gb111, 0, none⟩ = some (.string a0_0) := (blk_cell BK111.out 0).trans rfl
                    have hcz40_1 : wr.cell? ⟨gb111, 1, none⟩ = some (.int .i64 a0_1) := (blk_cell BK111.out 1).trans rfl
                    have hcz40_2 : wr.cell? ⟨gb111, 2, none⟩ = some (.int .i64 a0_2) := (blk_cell BK111.out 2).trans rfl
                    have hcz40_3 : wr.cell? ⟨gb111, 3, none⟩ = some (.int .i64 a0_3) := (blk_cell BK111.out 3).trans rfl
                    have hcz40_4 : wr.cell? ⟨gb111, 4, none⟩ = some (.slice A0_4 l0_4.length c0_4) := (blk_cell BK111.out 4).trans rfl
                    have hcz40_5 : wr.cell? ⟨gb111, 5, none⟩ = some (.slice A0_5 l0_5.length c0_5) := (blk_cell BK111.out 5).trans rfl
                    have hfz40_0 := blk_frozen BK111.out 0
                    have hfz40_1 := blk_frozen BK111.out 1
                    have hfz40_2 := blk_frozen BK111.out 2
                    have hfz40_3 := blk_frozen BK111.out 3
                    have hfz40_4 := blk_frozen BK111.out 4
                    have hfz40_5 := blk_frozen BK111.out 5
                    go_wp2
                    go_loopg [5, 82] k3 (fun kq v5 v82 w' => ∃ (x5_4 : Int) (x82_4 : Int), v5 = .int .i64 x5_4 ∧ v82 = .int .i64 x82_4 ∧ Aside0 (mailsackref1_MayBox.l1 kq x5_4 l0_5 (l0_5.length : Int) x82_4 a0_0 a0_1 a0_2 a0_3 l0_4 l0_5 = some r) ∧ Aside0 (kq ≤ k3) ∧ Aside0 (w'.heap[gb111]? = some (.cells #[.string a0_0, .int .i64 a0_1, .int .i64 a0_2, .int .i64 a0_3, (.slice A0_4 l0_4.length c0_4), (.slice A0_5 l0_5.length c0_5)] 25 (0, 0))) ∧ Aside0 (Below w.heap.size w w'))
                    case atStart => exact ⟨(0), (0), (by first | rfl | (simp; done) | (simp [*]; done)), (by first | rfl | (simp; done) | (simp [*]; done)), H', ⟨Nat.le_refl _⟩, ⟨by (with_reducible repeat (first | refine blk_drewN ?_ _ | refine blk_drew ?_ | refine blk_alloc ?_ _)); exact BK111.out⟩, ⟨by repeat (first | (with_reducible first | exact HB.out | apply below_alloc | apply pw_below_drewN | apply below_drew1 | refine below_set ?_ GE111.out) | exact HB.out)⟩⟩
                    case round =>
                      clear H'
                      try clear c1
                      try clear p1
                      try clear q1
                      try clear hx1
                      try clear c2
                      try clear p2
                      try clear c3
                      try clear c5
                      try clear c6
                      try clear c6b0
                      try clear c6b1
                      try clear p6
                      try clear c8
                      try clear c8b0
                      try clear c10
                      try clear c10b0
                      try clear p11
                      try clear q11
                      try clear hx11
                      try clear c12
                      try clear c12b0
                      try clear c13
                      try clear c14
                      try clear c14b0
                      try clear c16
                      try clear c16b0
                      try clear c20
                      try clear c22
                      try clear c22b0
                      try clear c22b1
                      try clear c25
                      try clear c26
                      try clear c27
                      try clear c27b0
                      try clear c28
                      try clear c28b0
                      try clear c29
                      try clear c29b0
                      try clear c31
                      try clear c32
                      try clear c32b0
                      try clear c33
                      try clear c33b0
                      try clear c33b1
                      try clear c35
                      try clear hcz11_0
                      try clear hcz11_1
                      try clear hcz11_2
                      try clear hcz11_3
                      try clear hcz11_4
                      try clear hcz11_5
                      try clear hcz13_0
                      try clear hcz13_1
                      try clear hcz13_2
                      try clear hcz13_3
                      try clear hcz13_4
                      try clear hcz13_5
                      try clear hcz15_0
                      try clear hcz15_1
                      try clear hcz15_2
                      try clear hcz15_3
                      try clear hcz15_4
                      try clear hcz15_5
                      try clear hcz17_0
                      try clear hcz17_1
                      try clear hcz17_2
                      try clear hcz17_3
                      try clear hcz17_4
                      try clear hcz17_5
                      try clear hcz18_0
                      try clear hcz18_1
                      try clear hcz18_2
                      try clear hcz18_3
                      try clear hcz18_4
                      try clear hcz18_5
                      try clear hcz19_0
                      try clear hcz19_1
                      try clear hcz19_2
                      try clear hcz19_3
                      try clear hcz19_4
                      try clear hcz19_5
                      try clear hcz23_0
                      try clear hcz23_1
                      try clear hcz23_2
                      try clear hcz23_3
                      try clear hcz23_4
                      try clear hcz23_5
                      try clear hcz24_0
                      try clear hcz24_1
                      try clear hcz24_2
                      try clear hcz24_3
                      try clear hcz24_4
                      try clear hcz24_5
                      try clear hcz26_0
                      try clear hcz26_1
                      try clear hcz26_2
                      try clear hcz26_3
                      try clear hcz26_4
                      try clear hcz26_5
                      try clear hcz36_0
                      try clear hcz36_1
                      try clear hcz36_2
                      try clear hcz36_3
                      try clear hcz36_4
                      try clear hcz36_5
                      try clear hcz38_0
                      try clear hcz38_1
                      try clear hcz38_2
                      try clear hcz38_3
                      try clear hcz38_4
                      try clear hcz38_5
                      try clear hcz40_0
                      try clear hcz40_1
                      try clear hcz40_2
                      try clear hcz40_3
                      try clear hcz40_4
                      try clear hcz40_5
                      try clear hcz7_0
                      try clear hcz7_1
                      try clear hcz7_2
                      try clear hcz7_3
                      try clear hcz7_4
                      try clear hcz7_5
                      try clear hcz9_0
                      try clear hcz9_1
                      try clear hcz9_2
                      try clear hcz9_3
                      try clear hcz9_4
                      try clear hcz9_5
                      try clear hfz11_0
                      try clear hfz11_1
                      try clear hfz11_2
                      try clear hfz11_3
                      try clear hfz11_4
                      try clear hfz11_5
                      try clear hfz13_0
                      try clear hfz13_1
                      try clear hfz13_2
                      try clear hfz13_3
                      try clear hfz13_4
                      try clear hfz13_5
                      try clear hfz15_0
                      try clear hfz15_1
                      try clear hfz15_2
                      try clear hfz15_3
                      try clear hfz15_4
                      try clear hfz15_5
                      try clear hfz17_0
                      try clear hfz17_1
                      try clear hfz17_2
                      try clear hfz17_3
                      try clear hfz17_4
                      try clear hfz17_5
                      try clear hfz18_0
                      try clear hfz18_1
                      try clear hfz18_2
                      try clear hfz18_3
                      try clear hfz18_4
                      try clear hfz18_5
                      try clear hfz19_0
                      try clear hfz19_1
                      try clear hfz19_2
                      try clear hfz19_3
                      try clear hfz19_4
                      try clear hfz19_5
                      try clear hfz23_0
                      try clear hfz23_1
                      try clear hfz23_2
                      try clear hfz23_3
                      try clear hfz23_4
                      try clear hfz23_5
                      try clear hfz24_0
                      try clear hfz24_1
                      try clear hfz24_2
                      try clear hfz24_3
                      try clear hfz24_4
                      try clear hfz24_5
                      try clear hfz26_0
                      try clear hfz26_1
                      try clear hfz26_2
                      try clear hfz26_3
                      try clear hfz26_4
                      try clear hfz26_5
                      try clear hfz36_0
                      try clear hfz36_1
                      try clear hfz36_2
                      try clear hfz36_3
                      try clear hfz36_4
                      try clear hfz36_5
                      try clear hfz38_0
                      try clear hfz38_1
                      try clear hfz38_2
                      try clear hfz38_3
                      try clear hfz38_4
                      try clear hfz38_5
                      try clear hfz40_0
                      try clear hfz40_1
                      try clear hfz40_2
                      try clear hfz40_3
                      try clear hfz40_4
                      try clear hfz40_5
                      try clear hfz7_0
                      try clear hfz7_1
                      try clear hfz7_2
                      try clear hfz7_3
                      try clear hfz7_4
                      try clear hfz7_5
                      try clear hfz9_0
                      try clear hfz9_1
                      try clear hfz9_2
                      try clear hfz9_3
                      try clear hfz9_4
                      try clear hfz9_5
                      try clear hx113_0
                      try clear p113
                      try clear p2
                      try clear q113
                      obtain ⟨x5_4, x82_4, rfl, rfl, HA, HK4, BK111, HB⟩ := hrel
                      cases gk with
                      | zero => exact absurd HA.out (by simp [mailsackref1_MayBox.l1])
                      | succ k4 =>
                        have H := HA.out
                        clear HA
                        simp only [mailsackref1_MayBox.l1] at H
                        by_cases c41 : x82_4 < (l0_5.length : Int)
                        · rw [if_pos c41] at H
                          have c41b0 : decide (x82_4 < (l0_5.length : Int)) = true := decide_eq_true c41
                          clear c41
                          by_cases c42 : 0 ≤ x82_4
                          · rw [if_pos c42] at H
                            have c42b0 : decide (0 ≤ x82_4) = true := decide_eq_true c42
                            clear c42
                            by_cases c43 : x82_4 < (l0_5.length : Int)
                            · rw [if_pos c43] at H
                              have c43b0 : decide (x82_4 < (l0_5.length : Int)) = true := decide_eq_true c43
                              clear c43
                              replace H := Option.bind_eq_some_iff.mp H
                              obtain ⟨t119, A440, H⟩ := H
                              replace H : (if t119 = 0 then (if ((rd_T34 l0_5 x82_4).f0) ≤ x5_4 then (some 1) else (if ((rd_T34 l0_5 x82_4).f0) ≥ a0_2 then (some 1) else (if ((rd_T34 l0_5 x82_4).f1) > a0_3 then (some 1) else (mailsackref1_MayBox.l1 k4 ((rd_T34 l0_5 x82_4).f0) l0_5 (l0_5.length : Int) (wrap64 (x82_4 + 1)) a0_0 a0_1 a0_2 a0_3 l0_4 l0_5)))) else (some t119)) = some r := H
                              have A44 := Aside0.mk A440
                              clear A440
                              by_cases c45 : t119 = 0
                              · rw [if_pos c45] at H
                                have c45b0 : (t119 == 0) = true := beq_iff_eq.mpr c45
                                have c45b1 : (t119 != 0) = false := bne_eq_false_iff_eq.mpr c45
                                clear c45
                                by_cases c46 : ((rd_T34 l0_5 x82_4).f0) ≤ x5_4
                                · rw [if_pos c46] at H
                                  have c46b0 : decide (((rd_T34 l0_5 x82_4).f0) ≤ x5_4) = true := decide_eq_true c46
                                  clear c46
                                  obtain rfl := Option.some.inj H
                                  have p117 : 0 ≤ (x82_4 : Int) := of_decide_eq_true (by first | (with_reducible assumption) | assumption)
                                  have q117 : x82_4 < (l0_5.length : Int) := of_decide_eq_true (by first | (with_reducible assumption) | assumption)
                                  obtain ⟨ad117, A117_5, c117_5, e117, hx117_0, hx117_1, hx117_2, hx117_3, hx117_4, hx117_5, hx117_6, hl117_5, hi117_5⟩ := at_T34 HR0_5.out x82_4 p117 q117
                                  cases e117
                                  replace hx117_0 := (HB.out.cell (World.block_lt_of_cell? w _ hx117_0)).trans hx117_0
                                  replace hx117_1 := (HB.out.cell (World.block_lt_of_cell? w _ hx117_1)).trans hx117_1
                                  replace hx117_2 := (HB.out.cell (World.block_lt_of_cell? w _ hx117_2)).trans hx117_2
                                  replace hx117_3 := (HB.out.cell (World.block_lt_of_cell? w _ hx117_3)).trans hx117_3
                                  replace hx117_4 := (HB.out.cell (World.block_lt_of_cell? w _ hx117_4)).trans hx117_4
                                  replace hx117_5 := (HB.out.cell (World.block_lt_of_cell? w _ hx117_5)).trans hx117_5
                                  replace hx117_6 := (HB.out.cell (World.block_lt_of_cell? w _ hx117_6)).trans hx117_6
                                  have HR117_5 := Aside0.mk hi117_5
                                  have HC117_5 := Aside0.mk hl117_5
                                  clear hi117_5 hl117_5
                                  replace p117 := eq_true p117
                                  replace q117 := eq_true q117
                                  go_wp2_with (first | ((with_reducible refine gate_dst (N := 7) rfl ?_); (try (refine gate_guard (by rfl) ?_; dsimp only)); refine box_event ?hg (N := 7) ?hd (cs := #[.int .i64 0, .int .i64 0, .int .i64 0, .string (⟨#[]⟩ : ByteArray), .int .i64 0, .slice none 0 0, .string (⟨#[]⟩ : ByteArray)]) (t := 34) ?hr ?_; (case hd => rfl); (case hg => rfl); (case hr => first | (go_simp; done) | (go_simp; rfl)); intro gb118 hg w47 hbox hb; have n0_ := Aside0.mk (blk_below (g := gb111) (o := .cells #[.string a0_0, .int .i64 a0_1, .int .i64 a0_2, .int .i64 a0_3, .slice A0_4 l0_4.length c0_4, .slice (some ad117) l0_5.length c0_5] 25 (0, 0)) (by (with_reducible repeat (first | refine blk_drewN ?_ _ | refine blk_drew ?_ | refine blk_alloc ?_ _)); exact BK111.out) hb); have n1_ := Aside0.mk (below_step (by repeat (first | (with_reducible first | exact HB.out | apply below_alloc | apply pw_below_drewN | apply below_drew1 | refine below_set ?_ GE111.out) | exact HB.out)) hb); have n2_ := Aside0.mk (hbox); have n3_ := Aside0.mk ((by rw [hg]; exact (below_size (by repeat (first | (with_reducible first | exact HB.out | apply below_alloc | apply pw_below_drewN | apply below_drew1 | refine below_set ?_ GE111.out) | exact HB.out))) : w.heap.size ≤ gb118)); have n4_ := Aside0.mk ((by rw [hg]; exact (below_size (by repeat (first | (with_reducible first | exact HB.out | apply below_alloc | apply pw_below_drewN | apply below_drew1 | refine below_set ?_ GE111.out) | exact HB.out))) : w.heap.size ≤ gb118)); have n5_ := Aside0.mk ((by rw [hg]; exact Nat.ne_of_lt (blk_lt (g := gb111) (o := .cells #[.string a0_0, .int .i64 a0_1, .int .i64 a0_2, .int .i64 a0_3, .slice A0_4 l0_4.length c0_4, .slice (some ad117) l0_5.length c0_5] 25 (0, 0)) (by (with_reducible repeat (first | refine blk_drewN ?_ _ | refine blk_drew ?_ | refine blk_alloc ?_ _)); exact BK111.out)) : gb111 ≠ gb118)); have n6_ := Aside0.mk ((by rw [hg]; exact Nat.ne_of_gt (blk_lt (g := gb111) (o := .cells #[.string a0_0, .int .i64 a0_1, .int .i64 a0_2, .int .i64 a0_3, .slice A0_4 l0_4.length c0_4, .slice (some ad117) l0_5.length c0_5] 25 (0, 0)) (by (with_reducible repeat (first | refine blk_drewN ?_ _ | refine blk_drew ?_ | refine blk_alloc ?_ _)); exact BK111.out)) : gb118 ≠ gb111)); clear BK111; clear HB; have BK111 := n0_; have HB := n1_; have BK118 := n2_; have GW118 := n3_; have GE118 := n4_; have NB111_118 := n5_; have NB118_111 := n6_; clear n0_ n1_ n2_ n3_ n4_ n5_ n6_; clear hb hbox hg; have hnb48 := NB118_111.out; have hnc48 := NB111_118.out; have hcz49_0 : w47.cell? ⟨gb118, 0, none⟩ = some (.int .i64 0) := (blk_cell BK118.out 0).trans rfl; have hcz49_1 : w47.cell? ⟨gb118, 1, none⟩ = some (.int .i64 0) := (blk_cell BK118.out 1).trans rfl; have hcz49_2 : w47.cell? ⟨gb118, 2, none⟩ = some (.int .i64 0) := (blk_cell BK118.out 2).trans rfl; have hcz49_3 : w47.cell? ⟨gb118, 3, none⟩ = some (.string (⟨#[]⟩ : ByteArray)) := (blk_cell BK118.out 3).trans rfl; have hcz49_4 : w47.cell? ⟨gb118, 4, none⟩ = some (.int .i64 0) := (blk_cell BK118.out 4).trans rfl; have hcz49_5 : w47.cell? ⟨gb118, 5, none⟩ = some (.slice none 0 0) := (blk_cell BK118.out 5).trans rfl; have hcz49_6 : w47.cell? ⟨gb118, 6, none⟩ = some (.string (⟨#[]⟩ : ByteArray)) := (blk_cell BK118.out 6).trans rfl; have hfz49_0 := blk_frozen BK118.out 0; have hfz49_1 := blk_frozen BK118.out 1; have hfz49_2 := blk_frozen BK118.out 2; have hfz49_3 := blk_frozen BK118.out 3; have hfz49_4 := blk_frozen BK118.out 4; have hfz49_5 := blk_frozen BK118.out 5; have hfz49_6 := blk_frozen BK118.out 6; have hcz50_0 : w47.cell? ⟨gb111, 0, none⟩ = some (.string a0_0) := (blk_cell BK111.out 0).trans rfl; have hcz50_1 : w47.cell? ⟨gb111, 1, none⟩ = some (.int .i64 a0_1) := (blk_cell BK111.out 1).trans rfl; have hcz50_2 : w47.cell? ⟨gb111, 2, none⟩ = some (.int .i64 a0_2) := (blk_cell BK111.out 2).trans rfl; have hcz50_3 : w47.cell? ⟨gb111, 3, none⟩ = some (.int .i64 a0_3) := (blk_cell BK111.out 3).trans rfl; have hcz50_4 : w47.cell? ⟨gb111, 4, none⟩ = some (.slice A0_4 l0_4.length c0_4) := (blk_cell BK111.out 4).trans rfl; have hcz50_5 : w47.cell? ⟨gb111, 5, none⟩ = some (.slice (some ad117) l0_5.length c0_5) := (blk_cell BK111.out 5).trans rfl; have hfz50_0 := blk_frozen BK111.out 0; have hfz50_1 := blk_frozen BK111.out 1; have hfz50_2 := blk_frozen BK111.out 2; have hfz50_3 := blk_frozen BK111.out 3; have hfz50_4 := blk_frozen BK111.out 4; have hfz50_5 := blk_frozen BK111.out 5) | ((with_reducible refine gate_callee (f := 28) rfl ?_); refine goesL_ (some 88) rfl rfl Tryd.func28 (by kernel_rfl) rfl #[.agg #[.string a0_0, .int .i64 a0_1, .int .i64 a0_2, .int .i64 a0_3, .slice A0_4 l0_4.length c0_4, .slice (some ad117) l0_5.length c0_5], .agg #[.int .i64 ((rd_T34 l0_5 x82_4).f0), .int .i64 ((rd_T34 l0_5 x82_4).f1), .int .i64 ((rd_T34 l0_5 x82_4).f2), .string ((rd_T34 l0_5 x82_4).f3), .int .i64 ((rd_T34 l0_5 x82_4).f4), .slice A117_5 ((rd_T34 l0_5 x82_4).f5).length c117_5, .string ((rd_T34 l0_5 x82_4).f6)]] rfl (by (try simp only [List.map_toArray, List.map_cons, List.map_nil]); first | done | rfl | (simp only [List.length_drop, List.length_take]; rfl)) ?_; (with_reducible refine (mailsackref1_MayMsg.calls k4 a0_0 a0_1 a0_2 a0_3 _ _ l0_4 _ _ l0_5 ((rd_T34 l0_5 x82_4).f0) ((rd_T34 l0_5 x82_4).f1) ((rd_T34 l0_5 x82_4).f2) ((rd_T34 l0_5 x82_4).f3) ((rd_T34 l0_5 x82_4).f4) _ _ ((rd_T34 l0_5 x82_4).f5) ((rd_T34 l0_5 x82_4).f6) t119 _ ?side1 ?side2 ?side3 ?side4 ?side5 ?side6 A44.out).mono ?_); (case side1 => exact Kd.C_below HR0_4.out (by repeat (first | (with_reducible first | exact HB.out | apply below_alloc | apply pw_below_drewN | apply below_drew1 | refine below_set ?_ GE111.out | refine below_set ?_ GE118.out) | exact HB.out))); (case side2 => exact HC0_4.out); (case side3 => exact Kd.C_below HR0_5.out (by repeat (first | (with_reducible first | exact HB.out | apply below_alloc | apply pw_below_drewN | apply below_drew1 | refine below_set ?_ GE111.out | refine below_set ?_ GE118.out) | exact HB.out))); (case side4 => exact HC0_5.out); (case side5 => exact Kd.C_below HR117_5.out (by repeat (first | (with_reducible first | exact HB.out | apply below_alloc | apply pw_below_drewN | apply below_drew1 | refine below_set ?_ GE111.out | refine below_set ?_ GE118.out) | exact HB.out))); (case side6 => exact HC117_5.out); rintro e w51 ⟨rfl, hb⟩; refine ⟨_, rfl, ?_⟩; have n0_ := Aside0.mk (blk_below (g := gb111) (o := .cells #[.string a0_0, .int .i64 a0_1, .int .i64 a0_2, .int .i64 a0_3, .slice A0_4 l0_4.length c0_4, .slice (some ad117) l0_5.length c0_5] 25 (0, 0)) (by (with_reducible repeat (first | refine blk_drewN ?_ _ | refine blk_drew ?_ | refine blk_alloc ?_ _)); refine blk_far ?_ NB111_118.out _; (with_reducible repeat (first | refine blk_drewN ?_ _ | refine blk_drew ?_ | refine blk_alloc ?_ _)); refine blk_far ?_ NB111_118.out _; (with_reducible repeat (first | refine blk_drewN ?_ _ | refine blk_drew ?_ | refine blk_alloc ?_ _)); refine blk_far ?_ NB111_118.out _; (with_reducible repeat (first | refine blk_drewN ?_ _ | refine blk_drew ?_ | refine blk_alloc ?_ _)); refine blk_far ?_ NB111_118.out _; (with_reducible repeat (first | refine blk_drewN ?_ _ | refine blk_drew ?_ | refine blk_alloc ?_ _)); refine blk_far ?_ NB111_118.out _; (with_reducible repeat (first | refine blk_drewN ?_ _ | refine blk_drew ?_ | refine blk_alloc ?_ _)); refine blk_far ?_ NB111_118.out _; (with_reducible repeat (first | refine blk_drewN ?_ _ | refine blk_drew ?_ | refine blk_alloc ?_ _)); refine blk_far ?_ NB111_118.out _; (with_reducible repeat (first | refine blk_drewN ?_ _ | refine blk_drew ?_ | refine blk_alloc ?_ _)); exact BK111.out) hb); have n1_ := Aside0.mk (blk_below (g := gb118) (o := .cells #[.int .i64 ((rd_T34 l0_5 x82_4).f0), .int .i64 ((rd_T34 l0_5 x82_4).f1), .int .i64 ((rd_T34 l0_5 x82_4).f2), .string ((rd_T34 l0_5 x82_4).f3), .int .i64 ((rd_T34 l0_5 x82_4).f4), .slice A117_5 ((rd_T34 l0_5 x82_4).f5).length c117_5, .string ((rd_T34 l0_5 x82_4).f6)] 34 (0, 0)) (by (with_reducible repeat (first | refine blk_drewN ?_ _ | refine blk_drew ?_ | refine blk_alloc ?_ _)); refine blk_put (cs := #[.int .i64 ((rd_T34 l0_5 x82_4).f0), .int .i64 ((rd_T34 l0_5 x82_4).f1), .int .i64 ((rd_T34 l0_5 x82_4).f2), .string ((rd_T34 l0_5 x82_4).f3), .int .i64 ((rd_T34 l0_5 x82_4).f4), .slice A117_5 ((rd_T34 l0_5 x82_4).f5).length c117_5, .string (⟨#[]⟩ : ByteArray)]) ?_ 6 _ rfl; (with_reducible repeat (first | refine blk_drewN ?_ _ | refine blk_drew ?_ | refine blk_alloc ?_ _)); refine blk_put (cs := #[.int .i64 ((rd_T34 l0_5 x82_4).f0), .int .i64 ((rd_T34 l0_5 x82_4).f1), .int .i64 ((rd_T34 l0_5 x82_4).f2), .string ((rd_T34 l0_5 x82_4).f3), .int .i64 ((rd_T34 l0_5 x82_4).f4), .slice none 0 0, .string (⟨#[]⟩ : ByteArray)]) ?_ 5 _ rfl; (with_reducible repeat (first | refine blk_drewN ?_ _ | refine blk_drew ?_ | refine blk_alloc ?_ _)); refine blk_put (cs := #[.int .i64 ((rd_T34 l0_5 x82_4).f0), .int .i64 ((rd_T34 l0_5 x82_4).f1), .int .i64 ((rd_T34 l0_5 x82_4).f2), .string ((rd_T34 l0_5 x82_4).f3), .int .i64 0, .slice none 0 0, .string (⟨#[]⟩ : ByteArray)]) ?_ 4 _ rfl; (with_reducible repeat (first | refine blk_drewN ?_ _ | refine blk_drew ?_ | refine blk_alloc ?_ _)); refine blk_put (cs := #[.int .i64 ((rd_T34 l0_5 x82_4).f0), .int .i64 ((rd_T34 l0_5 x82_4).f1), .int .i64 ((rd_T34 l0_5 x82_4).f2), .string (⟨#[]⟩ : ByteArray), .int .i64 0, .slice none 0 0, .string (⟨#[]⟩ : ByteArray)]) ?_ 3 _ rfl; (with_reducible repeat (first | refine blk_drewN ?_ _ | refine blk_drew ?_ | refine blk_alloc ?_ _)); refine blk_put (cs := #[.int .i64 ((rd_T34 l0_5 x82_4).f0), .int .i64 ((rd_T34 l0_5 x82_4).f1), .int .i64 0, .string (⟨#[]⟩ : ByteArray), .int .i64 0, .slice none 0 0, .string (⟨#[]⟩ : ByteArray)]) ?_ 2 _ rfl; (with_reducible repeat (first | refine blk_drewN ?_ _ | refine blk_drew ?_ | refine blk_alloc ?_ _)); refine blk_put (cs := #[.int .i64 ((rd_T34 l0_5 x82_4).f0), .int .i64 0, .int .i64 0, .string (⟨#[]⟩ : ByteArray), .int .i64 0, .slice none 0 0, .string (⟨#[]⟩ : ByteArray)]) ?_ 1 _ rfl; (with_reducible repeat (first | refine blk_drewN ?_ _ | refine blk_drew ?_ | refine blk_alloc ?_ _)); refine blk_put (cs := #[.int .i64 0, .int .i64 0, .int .i64 0, .string (⟨#[]⟩ : ByteArray), .int .i64 0, .slice none 0 0, .string (⟨#[]⟩ : ByteArray)]) ?_ 0 _ rfl; (with_reducible repeat (first | refine blk_drewN ?_ _ | refine blk_drew ?_ | refine blk_alloc ?_ _)); exact BK118.out) hb); have n2_ := Aside0.mk (below_step (by repeat (first | (with_reducible first | exact HB.out | apply below_alloc | apply pw_below_drewN | apply below_drew1 | refine below_set ?_ GE111.out | refine below_set ?_ GE118.out) | exact HB.out)) hb); clear BK111; clear BK118; clear HB; have BK111 := n0_; have BK118 := n1_; have HB := n2_; clear n0_ n1_ n2_; (try clear hb); (try clear hb2); (try clear hk); (try clear hi); have hcz52_0 : w51.cell? ⟨gb118, 0, none⟩ = some (.int .i64 ((rd_T34 l0_5 x82_4).f0)) := (blk_cell BK118.out 0).trans rfl; have hcz52_1 : w51.cell? ⟨gb118, 1, none⟩ = some (.int .i64 ((rd_T34 l0_5 x82_4).f1)) := (blk_cell BK118.out 1).trans rfl; have hcz52_2 : w51.cell? ⟨gb118, 2, none⟩ = some (.int .i64 ((rd_T34 l0_5 x82_4).f2)) := (blk_cell BK118.out 2).trans rfl; have hcz52_3 : w51.cell? ⟨gb118, 3, none⟩ = some (.string ((rd_T34 l0_5 x82_4).f3)) := (blk_cell BK118.out 3).trans rfl; have hcz52_4 : w51.cell? ⟨gb118, 4, none⟩ = some (.int .i64 ((rd_T34 l0_5 x82_4).f4)) := (blk_cell BK118.out 4).trans rfl; have hcz52_5 : w51.cell? ⟨gb118, 5, none⟩ = some (.slice A117_5 ((rd_T34 l0_5 x82_4).f5).length c117_5) := (blk_cell BK118.out 5).trans rfl; have hcz52_6 : w51.cell? ⟨gb118, 6, none⟩ = some (.string ((rd_T34 l0_5 x82_4).f6)) := (blk_cell BK118.out 6).trans rfl; have hfz52_0 := blk_frozen BK118.out 0; have hfz52_1 := blk_frozen BK118.out 1; have hfz52_2 := blk_frozen BK118.out 2; have hfz52_3 := blk_frozen BK118.out 3; have hfz52_4 := blk_frozen BK118.out 4; have hfz52_5 := blk_frozen BK118.out 5; have hfz52_6 := blk_frozen BK118.out 6))
                                  go_ret
                                  exact ⟨by first | rfl | (simp [errW_none, errW_some] <;> rfl) | (simp [*, errW_none, errW_some] <;> rfl), by repeat (first | (with_reducible first | exact HB.out | apply below_alloc | apply pw_below_drewN | apply below_drew1 | refine below_set ?_ GE111.out | refine below_set ?_ GE118.out) | exact HB.out)⟩
                                · rw [if_neg c46] at H
                                  have c46b0 : decide (((rd_T34 l0_5 x82_4).f0) ≤ x5_4) = false := decide_eq_false c46
                                  clear c46
                                  by_cases c53 : ((rd_T34 l0_5 x82_4).f0) ≥ a0_2
                                  · rw [if_pos c53] at H
                                    have c53b0 : decide (a0_2 ≤ ((rd_T34 l0_5 x82_4).f0)) = true := decide_eq_true c53
                                    clear c53
                                    obtain rfl := Option.some.inj H
                                    have p117 : 0 ≤ (x82_4 : Int) := of_decide_eq_true (by first | (with_reducible assumption) | assumption)
                                    have q117 : x82_4 < (l0_5.length : Int) := of_decide_eq_true (by first | (with_reducible assumption) | assumption)
                                    obtain ⟨ad117, A117_5, c117_5, e117, hx117_0, hx117_1, hx117_2, hx117_3, hx117_4, hx117_5, hx117_6, hl117_5, hi117_5⟩ := at_T34 HR0_5.out x82_4 p117 q117
                                    cases e117
                                    replace hx117_0 := (HB.out.cell (World.block_lt_of_cell? w _ hx117_0)).trans hx117_0
                                    replace hx117_1 := (HB.out.cell (World.block_lt_of_cell? w _ hx117_1)).trans hx117_1
                                    replace hx117_2 := (HB.out.cell (World.block_lt_of_cell? w _ hx117_2)).trans hx117_2
                                    replace hx117_3 := (HB.out.cell (World.block_lt_of_cell? w _ hx117_3)).trans hx117_3
                                    replace hx117_4 := (HB.out.cell (World.block_lt_of_cell? w _ hx117_4)).trans hx117_4
                                    replace hx117_5 := (HB.out.cell (World.block_lt_of_cell? w _ hx117_5)).trans hx117_5
                                    replace hx117_6 := (HB.out.cell (World.block_lt_of_cell? w _ hx117_6)).trans hx117_6
                                    have HR117_5 := Aside0.mk hi117_5
                                    have HC117_5 := Aside0.mk hl117_5
                                    clear hi117_5 hl117_5
                                    replace p117 := eq_true p117
                                    replace q117 := eq_true q117
                                    go_wp2_with (first | ((with_reducible refine gate_dst (N := 7) rfl ?_); (try (refine gate_guard (by rfl) ?_; dsimp only)); refine box_event ?hg (N := 7) ?hd (cs := #[.int .i64 0, .int .i64 0, .int .i64 0, .string (⟨#[]⟩ : ByteArray), .int .i64 0, .slice none 0 0, .string (⟨#[]⟩ : ByteArray)]) (t := 34) ?hr ?_; (case hd => rfl); (case hg => rfl); (case hr => first | (go_simp; done) | (go_simp; rfl)); intro gb118 hg w54 hbox hb; have n0_ := Aside0.mk (blk_below (g := gb111) (o := .cells #[.string a0_0, .int .i64 a0_1, .int .i64 a0_2, .int .i64 a0_3, .slice A0_4 l0_4.length c0_4, .slice (some ad117) l0_5.length c0_5] 25 (0, 0)) (by (with_reducible repeat (first | refine blk_drewN ?_ _ | refine blk_drew ?_ | refine blk_alloc ?_ _)); exact BK111.out) hb); have n1_ := Aside0.mk (below_step (by repeat (first | (with_reducible first | exact HB.out | apply below_alloc | apply pw_below_drewN | apply below_drew1 | refine below_set ?_ GE111.out) | exact HB.out)) hb); have n2_ := Aside0.mk (hbox); have n3_ := Aside0.mk ((by rw [hg]; exact (below_size (by repeat (first | (with_reducible first | exact HB.out | apply below_alloc | apply pw_below_drewN | apply below_drew1 | refine below_set ?_ GE111.out) | exact HB.out))) : w.heap.size ≤ gb118)); have n4_ := Aside0.mk ((by rw [hg]; exact (below_size (by repeat (first | (with_reducible first | exact HB.out | apply below_alloc | apply pw_below_drewN | apply below_drew1 | refine below_set ?_ GE111.out) | exact HB.out))) : w.heap.size ≤ gb118)); have n5_ := Aside0.mk ((by rw [hg]; exact Nat.ne_of_lt (blk_lt (g := gb111) (o := .cells #[.string a0_0, .int .i64 a0_1, .int .i64 a0_2, .int .i64 a0_3, .slice A0_4 l0_4.length c0_4, .slice (some ad117) l0_5.length c0_5] 25 (0, 0)) (by (with_reducible repeat (first | refine blk_drewN ?_ _ | refine blk_drew ?_ | refine blk_alloc ?_ _)); exact BK111.out)) : gb111 ≠ gb118)); have n6_ := Aside0.mk ((by rw [hg]; exact Nat.ne_of_gt (blk_lt (g := gb111) (o := .cells #[.string a0_0, .int .i64 a0_1, .int .i64 a0_2, .int .i64 a0_3, .slice A0_4 l0_4.length c0_4, .slice (some ad117) l0_5.length c0_5] 25 (0, 0)) (by (with_reducible repeat (first | refine blk_drewN ?_ _ | refine blk_drew ?_ | refine blk_alloc ?_ _)); exact BK111.out)) : gb118 ≠ gb111)); clear BK111; clear HB; have BK111 := n0_; have HB := n1_; have BK118 := n2_; have GW118 := n3_; have GE118 := n4_; have NB111_118 := n5_; have NB118_111 := n6_; clear n0_ n1_ n2_ n3_ n4_ n5_ n6_; clear hb hbox hg; have hnb55 := NB118_111.out; have hnc55 := NB111_118.out; have hcz56_0 : w54.cell? ⟨gb118, 0, none⟩ = some (.int .i64 0) := (blk_cell BK118.out 0).trans rfl; have hcz56_1 : w54.cell? ⟨gb118, 1, none⟩ = some (.int .i64 0) := (blk_cell BK118.out 1).trans rfl; have hcz56_2 : w54.cell? ⟨gb118, 2, none⟩ = some (.int .i64 0) := (blk_cell BK118.out 2).trans rfl; have hcz56_3 : w54.cell? ⟨gb118, 3, none⟩ = some (.string (⟨#[]⟩ : ByteArray)) := (blk_cell BK118.out 3).trans rfl; have hcz56_4 : w54.cell? ⟨gb118, 4, none⟩ = some (.int .i64 0) := (blk_cell BK118.out 4).trans rfl; have hcz56_5 : w54.cell? ⟨gb118, 5, none⟩ = some (.slice none 0 0) := (blk_cell BK118.out 5).trans rfl; have hcz56_6 : w54.cell? ⟨gb118, 6, none⟩ = some (.string (⟨#[]⟩ : ByteArray)) := (blk_cell BK118.out 6).trans rfl; have hfz56_0 := blk_frozen BK118.out 0; have hfz56_1 := blk_frozen BK118.out 1; have hfz56_2 := blk_frozen BK118.out 2; have hfz56_3 := blk_frozen BK118.out 3; have hfz56_4 := blk_frozen BK118.out 4; have hfz56_5 := blk_frozen BK118.out 5; have hfz56_6 := blk_frozen BK118.out 6; have hcz57_0 : w54.cell? ⟨gb111, 0, none⟩ = some (.string a0_0) := (blk_cell BK111.out 0).trans rfl; have hcz57_1 : w54.cell? ⟨gb111, 1, none⟩ = some (.int .i64 a0_1) := (blk_cell BK111.out 1).trans rfl; have hcz57_2 : w54.cell? ⟨gb111, 2, none⟩ = some (.int .i64 a0_2) := (blk_cell BK111.out 2).trans rfl; have hcz57_3 : w54.cell? ⟨gb111, 3, none⟩ = some (.int .i64 a0_3) := (blk_cell BK111.out 3).trans rfl; have hcz57_4 : w54.cell? ⟨gb111, 4, none⟩ = some (.slice A0_4 l0_4.length c0_4) := (blk_cell BK111.out 4).trans rfl; have hcz57_5 : w54.cell? ⟨gb111, 5, none⟩ = some (.slice (some ad117) l0_5.length c0_5) := (blk_cell BK111.out 5).trans rfl; have hfz57_0 := blk_frozen BK111.out 0; have hfz57_1 := blk_frozen BK111.out 1; have hfz57_2 := blk_frozen BK111.out 2; have hfz57_3 := blk_frozen BK111.out 3; have hfz57_4 := blk_frozen BK111.out 4; have hfz57_5 := blk_frozen BK111.out 5) | ((with_reducible refine gate_callee (f := 28) rfl ?_); refine goesL_ (some 88) rfl rfl Tryd.func28 (by kernel_rfl) rfl #[.agg #[.string a0_0, .int .i64 a0_1, .int .i64 a0_2, .int .i64 a0_3, .slice A0_4 l0_4.length c0_4, .slice (some ad117) l0_5.length c0_5], .agg #[.int .i64 ((rd_T34 l0_5 x82_4).f0), .int .i64 ((rd_T34 l0_5 x82_4).f1), .int .i64 ((rd_T34 l0_5 x82_4).f2), .string ((rd_T34 l0_5 x82_4).f3), .int .i64 ((rd_T34 l0_5 x82_4).f4), .slice A117_5 ((rd_T34 l0_5 x82_4).f5).length c117_5, .string ((rd_T34 l0_5 x82_4).f6)]] rfl (by (try simp only [List.map_toArray, List.map_cons, List.map_nil]); first | done | rfl | (simp only [List.length_drop, List.length_take]; rfl)) ?_; (with_reducible refine (mailsackref1_MayMsg.calls k4 a0_0 a0_1 a0_2 a0_3 _ _ l0_4 _ _ l0_5 ((rd_T34 l0_5 x82_4).f0) ((rd_T34 l0_5 x82_4).f1) ((rd_T34 l0_5 x82_4).f2) ((rd_T34 l0_5 x82_4).f3) ((rd_T34 l0_5 x82_4).f4) _ _ ((rd_T34 l0_5 x82_4).f5) ((rd_T34 l0_5 x82_4).f6) t119 _ ?side1 ?side2 ?side3 ?side4 ?side5 ?side6 A44.out).mono ?_); (case side1 => exact Kd.C_below HR0_4.out (by repeat (first | (with_reducible first | exact HB.out | apply below_alloc | apply pw_below_drewN | apply below_drew1 | refine below_set ?_ GE111.out | refine below_set ?_ GE118.out) | exact HB.out))); (case side2 => exact HC0_4.out); (case side3 => exact Kd.C_below HR0_5.out (by repeat (first | (with_reducible first | exact HB.out | apply below_alloc | apply pw_below_drewN | apply below_drew1 | refine below_set ?_ GE111.out | refine below_set ?_ GE118.out) | exact HB.out))); (case side4 => exact HC0_5.out); (case side5 => exact Kd.C_below HR117_5.out (by repeat (first | (with_reducible first | exact HB.out | apply below_alloc | apply pw_below_drewN | apply below_drew1 | refine below_set ?_ GE111.out | refine below_set ?_ GE118.out) | exact HB.out))); (case side6 => exact HC117_5.out); rintro e w58 ⟨rfl, hb⟩; refine ⟨_, rfl, ?_⟩; have n0_ := Aside0.mk (blk_below (g := gb111) (o := .cells #[.string a0_0, .int .i64 a0_1, .int .i64 a0_2, .int .i64 a0_3, .slice A0_4 l0_4.length c0_4, .slice (some ad117) l0_5.length c0_5] 25 (0, 0)) (by (with_reducible repeat (first | refine blk_drewN ?_ _ | refine blk_drew ?_ | refine blk_alloc ?_ _)); refine blk_far ?_ NB111_118.out _; (with_reducible repeat (first | refine blk_drewN ?_ _ | refine blk_drew ?_ | refine blk_alloc ?_ _)); refine blk_far ?_ NB111_118.out _; (with_reducible repeat (first | refine blk_drewN ?_ _ | refine blk_drew ?_ | refine blk_alloc ?_ _)); refine blk_far ?_ NB111_118.out _; (with_reducible repeat (first | refine blk_drewN ?_ _ | refine blk_drew ?_ | refine blk_alloc ?_ _)); refine blk_far ?_ NB111_118.out _; (with_reducible repeat (first | refine blk_drewN ?_ _ | refine blk_drew ?_ | refine blk_alloc ?_ _)); refine blk_far ?_ NB111_118.out _; (with_reducible repeat (first | refine blk_drewN ?_ _ | refine blk_drew ?_ | refine blk_alloc ?_ _)); refine blk_far ?_ NB111_118.out _; (with_reducible repeat (first | refine blk_drewN ?_ _ | refine blk_drew ?_ | refine blk_alloc ?_ _)); refine blk_far ?_ NB111_118.out _; (with_reducible repeat (first | refine blk_drewN ?_ _ | refine blk_drew ?_ | refine blk_alloc ?_ _)); exact BK111.out) hb); have n1_ := Aside0.mk (blk_below (g := gb118) (o := .cells #[.int .i64 ((rd_T34 l0_5 x82_4).f0), .int .i64 ((rd_T34 l0_5 x82_4).f1), .int .i64 ((rd_T34 l0_5 x82_4).f2), .string ((rd_T34 l0_5 x82_4).f3), .int .i64 ((rd_T34 l0_5 x82_4).f4), .slice A117_5 ((rd_T34 l0_5 x82_4).f5).length c117_5, .string ((rd_T34 l0_5 x82_4).f6)] 34 (0, 0)) (by (with_reducible repeat (first | refine blk_drewN ?_ _ | refine blk_drew ?_ | refine blk_alloc ?_ _)); refine blk_put (cs := #[.int .i64 ((rd_T34 l0_5 x82_4).f0), .int .i64 ((rd_T34 l0_5 x82_4).f1), .int .i64 ((rd_T34 l0_5 x82_4).f2), .string ((rd_T34 l0_5 x82_4).f3), .int .i64 ((rd_T34 l0_5 x82_4).f4), .slice A117_5 ((rd_T34 l0_5 x82_4).f5).length c117_5, .string (⟨#[]⟩ : ByteArray)]) ?_ 6 _ rfl; (with_reducible repeat (first | refine blk_drewN ?_ _ | refine blk_drew ?_ | refine blk_alloc ?_ _)); refine blk_put (cs := #[.int .i64 ((rd_T34 l0_5 x82_4).f0), .int .i64 ((rd_T34 l0_5 x82_4).f1), .int .i64 ((rd_T34 l0_5 x82_4).f2), .string ((rd_T34 l0_5 x82_4).f3), .int .i64 ((rd_T34 l0_5 x82_4).f4), .slice none 0 0, .string (⟨#[]⟩ : ByteArray)]) ?_ 5 _ rfl; (with_reducible repeat (first | refine blk_drewN ?_ _ | refine blk_drew ?_ | refine blk_alloc ?_ _)); refine blk_put (cs := #[.int .i64 ((rd_T34 l0_5 x82_4).f0), .int .i64 ((rd_T34 l0_5 x82_4).f1), .int .i64 ((rd_T34 l0_5 x82_4).f2), .string ((rd_T34 l0_5 x82_4).f3), .int .i64 0, .slice none 0 0, .string (⟨#[]⟩ : ByteArray)]) ?_ 4 _ rfl; (with_reducible repeat (first | refine blk_drewN ?_ _ | refine blk_drew ?_ | refine blk_alloc ?_ _)); refine blk_put (cs := #[.int .i64 ((rd_T34 l0_5 x82_4).f0), .int .i64 ((rd_T34 l0_5 x82_4).f1), .int .i64 ((rd_T34 l0_5 x82_4).f2), .string (⟨#[]⟩ : ByteArray), .int .i64 0, .slice none 0 0, .string (⟨#[]⟩ : ByteArray)]) ?_ 3 _ rfl; (with_reducible repeat (first | refine blk_drewN ?_ _ | refine blk_drew ?_ | refine blk_alloc ?_ _)); refine blk_put (cs := #[.int .i64 ((rd_T34 l0_5 x82_4).f0), .int .i64 ((rd_T34 l0_5 x82_4).f1), .int .i64 0, .string (⟨#[]⟩ : ByteArray), .int .i64 0, .slice none 0 0, .string (⟨#[]⟩ : ByteArray)]) ?_ 2 _ rfl; (with_reducible repeat (first | refine blk_drewN ?_ _ | refine blk_drew ?_ | refine blk_alloc ?_ _)); refine blk_put (cs := #[.int .i64 ((rd_T34 l0_5 x82_4).f0), .int .i64 0, .int .i64 0, .string (⟨#[]⟩ : ByteArray), .int .i64 0, .slice none 0 0, .string (⟨#[]⟩ : ByteArray)]) ?_ 1 _ rfl; (with_reducible repeat (first | refine blk_drewN ?_ _ | refine blk_drew ?_ | refine blk_alloc ?_ _)); refine blk_put (cs := #[.int .i64 0, .int .i64 0, .int .i64 0, .string (⟨#[]⟩ : ByteArray), .int .i64 0, .slice none 0 0, .string (⟨#[]⟩ : ByteArray)]) ?_ 0 _ rfl; (with_reducible repeat (first | refine blk_drewN ?_ _ | refine blk_drew ?_ | refine blk_alloc ?_ _)); exact BK118.out) hb); have n2_ := Aside0.mk (below_step (by repeat (first | (with_reducible first | exact HB.out | apply below_alloc | apply pw_below_drewN | apply below_drew1 | refine below_set ?_ GE111.out | refine below_set ?_ GE118.out) | exact HB.out)) hb); clear BK111; clear BK118; clear HB; have BK111 := n0_; have BK118 := n1_; have HB := n2_; clear n0_ n1_ n2_; (try clear hb); (try clear hb2); (try clear hk); (try clear hi); have hcz59_0 : w58.cell? ⟨gb118, 0, none⟩ = some (.int .i64 ((rd_T34 l0_5 x82_4).f0)) := (blk_cell BK118.out 0).trans rfl; have hcz59_1 : w58.cell? ⟨gb118, 1, none⟩ = some (.int .i64 ((rd_T34 l0_5 x82_4).f1)) := (blk_cell BK118.out 1).trans rfl; have hcz59_2 : w58.cell? ⟨gb118, 2, none⟩ = some (.int .i64 ((rd_T34 l0_5 x82_4).f2)) := (blk_cell BK118.out 2).trans rfl; have hcz59_3 : w58.cell? ⟨gb118, 3, none⟩ = some (.string ((rd_T34 l0_5 x82_4).f3)) := (blk_cell BK118.out 3).trans rfl; have hcz59_4 : w58.cell? ⟨gb118, 4, none⟩ = some (.int .i64 ((rd_T34 l0_5 x82_4).f4)) := (blk_cell BK118.out 4).trans rfl; have hcz59_5 : w58.cell? ⟨gb118, 5, none⟩ = some (.slice A117_5 ((rd_T34 l0_5 x82_4).f5).length c117_5) := (blk_cell BK118.out 5).trans rfl; have hcz59_6 : w58.cell? ⟨gb118, 6, none⟩ = some (.string ((rd_T34 l0_5 x82_4).f6)) := (blk_cell BK118.out 6).trans rfl; have hfz59_0 := blk_frozen BK118.out 0; have hfz59_1 := blk_frozen BK118.out 1; have hfz59_2 := blk_frozen BK118.out 2; have hfz59_3 := blk_frozen BK118.out 3; have hfz59_4 := blk_frozen BK118.out 4; have hfz59_5 := blk_frozen BK118.out 5; have hfz59_6 := blk_frozen BK118.out 6; have hcz60_0 : w58.cell? ⟨gb111, 0, none⟩ = some (.string a0_0) := (blk_cell BK111.out 0).trans rfl; have hcz60_1 : w58.cell? ⟨gb111, 1, none⟩ = some (.int .i64 a0_1) := (blk_cell BK111.out 1).trans rfl; have hcz60_2 : w58.cell? ⟨gb111, 2, none⟩ = some (.int .i64 a0_2) := (blk_cell BK111.out 2).trans rfl; have hcz60_3 : w58.cell? ⟨gb111, 3, none⟩ = some (.int .i64 a0_3) := (blk_cell BK111.out 3).trans rfl; have hcz60_4 : w58.cell? ⟨gb111, 4, none⟩ = some (.slice A0_4 l0_4.length c0_4) := (blk_cell BK111.out 4).trans rfl; have hcz60_5 : w58.cell? ⟨gb111, 5, none⟩ = some (.slice (some ad117) l0_5.length c0_5) := (blk_cell BK111.out 5).trans rfl; have hfz60_0 := blk_frozen BK111.out 0; have hfz60_1 := blk_frozen BK111.out 1; have hfz60_2 := blk_frozen BK111.out 2; have hfz60_3 := blk_frozen BK111.out 3; have hfz60_4 := blk_frozen BK111.out 4; have hfz60_5 := blk_frozen BK111.out 5))
                                    go_ret
                                    exact ⟨by first | rfl | (simp [errW_none, errW_some] <;> rfl) | (simp [*, errW_none, errW_some] <;> rfl), by repeat (first | (with_reducible first | exact HB.out | apply below_alloc | apply pw_below_drewN | apply below_drew1 | refine below_set ?_ GE111.out | refine below_set ?_ GE118.out) | exact HB.out)⟩
                                  · rw [if_neg c53] at H
                                    have c53b0 : decide (a0_2 ≤ ((rd_T34 l0_5 x82_4).f0)) = false := decide_eq_false c53
                                    clear c53
                                    by_cases c61 : ((rd_T34 l0_5 x82_4).f1) > a0_3
                                    · rw [if_pos c61] at H
                                      have c61b0 : decide (a0_3 < ((rd_T34 l0_5 x82_4).f1)) = true := decide_eq_true c61
                                      clear c61
                                      obtain rfl := Option.some.inj H
                                      have p117 : 0 ≤ (x82_4 : Int) := of_decide_eq_true (by first | (with_reducible assumption) | assumption)
                                      have q117 : x82_4 < (l0_5.length : Int) := of_decide_eq_true (by first | (with_reducible assumption) | assumption)
                                      obtain ⟨ad117, A117_5, c117_5, e117, hx117_0, hx117_1, hx117_2, hx117_3, hx117_4, hx117_5, hx117_6, hl117_5, hi117_5⟩ := at_T34 HR0_5.out x82_4 p117 q117
                                      cases e117
                                      replace hx117_0 := (HB.out.cell (World.block_lt_of_cell? w _ hx117_0)).trans hx117_0
                                      replace hx117_1 := (HB.out.cell (World.block_lt_of_cell? w _ hx117_1)).trans hx117_1
                                      replace hx117_2 := (HB.out.cell (World.block_lt_of_cell? w _ hx117_2)).trans hx117_2
                                      replace hx117_3 := (HB.out.cell (World.block_lt_of_cell? w _ hx117_3)).trans hx117_3
                                      replace hx117_4 := (HB.out.cell (World.block_lt_of_cell? w _ hx117_4)).trans hx117_4
                                      replace hx117_5 := (HB.out.cell (World.block_lt_of_cell? w _ hx117_5)).trans hx117_5
                                      replace hx117_6 := (HB.out.cell (World.block_lt_of_cell? w _ hx117_6)).trans hx117_6
                                      have HR117_5 := Aside0.mk hi117_5
                                      have HC117_5 := Aside0.mk hl117_5
                                      clear hi117_5 hl117_5
                                      replace p117 := eq_true p117
                                      replace q117 := eq_true q117
                                      go_wp2_with (first | ((with_reducible refine gate_dst (N := 7) rfl ?_); (try (refine gate_guard (by rfl) ?_; dsimp only)); refine box_event ?hg (N := 7) ?hd (cs := #[.int .i64 0, .int .i64 0, .int .i64 0, .string (⟨#[]⟩ : ByteArray), .int .i64 0, .slice none 0 0, .string (⟨#[]⟩ : ByteArray)]) (t := 34) ?hr ?_; (case hd => rfl); (case hg => rfl); (case hr => first | (go_simp; done) | (go_simp; rfl)); intro gb118 hg w62 hbox hb; have n0_ := Aside0.mk (blk_below (g := gb111) (o := .cells #[.string a0_0, .int .i64 a0_1, .int .i64 a0_2, .int .i64 a0_3, .slice A0_4 l0_4.length c0_4, .slice (some ad117) l0_5.length c0_5] 25 (0, 0)) (by (with_reducible repeat (first | refine blk_drewN ?_ _ | refine blk_drew ?_ | refine blk_alloc ?_ _)); exact BK111.out) hb); have n1_ := Aside0.mk (below_step (by repeat (first | (with_reducible first | exact HB.out | apply below_alloc | apply pw_below_drewN | apply below_drew1 | refine below_set ?_ GE111.out) | exact HB.out)) hb); have n2_ := Aside0.mk (hbox); have n3_ := Aside0.mk ((by rw [hg]; exact (below_size (by repeat (first | (with_reducible first | exact HB.out | apply below_alloc | apply pw_below_drewN | apply below_drew1 | refine below_set ?_ GE111.out) | exact HB.out))) : w.heap.size ≤ gb118)); have n4_ := Aside0.mk ((by rw [hg]; exact (below_size (by repeat (first | (with_reducible first | exact HB.out | apply below_alloc | apply pw_below_drewN | apply below_drew1 | refine below_set ?_ GE111.out) | exact HB.out))) : w.heap.size ≤ gb118)); have n5_ := Aside0.mk ((by rw [hg]; exact Nat.ne_of_lt (blk_lt (g := gb111) (o := .cells #[.string a0_0, .int .i64 a0_1, .int .i64 a0_2, .int .i64 a0_3, .slice A0_4 l0_4.length c0_4, .slice (some ad117) l0_5.length c0_5] 25 (0, 0)) (by (with_reducible repeat (first | refine blk_drewN ?_ _ | refine blk_drew ?_ | refine blk_alloc ?_ _)); exact BK111.out)) : gb111 ≠ gb118)); have n6_ := Aside0.mk ((by rw [hg]; exact Nat.ne_of_gt (blk_lt (g := gb111) (o := .cells #[.string a0_0, .int .i64 a0_1, .int .i64 a0_2, .int .i64 a0_3, .slice A0_4 l0_4.length c0_4, .slice (some ad117) l0_5.length c0_5] 25 (0, 0)) (by (with_reducible repeat (first | refine blk_drewN ?_ _ | refine blk_drew ?_ | refine blk_alloc ?_ _)); exact BK111.out)) : gb118 ≠ gb111)); clear BK111; clear HB; have BK111 := n0_; have HB := n1_; have BK118 := n2_; have GW118 := n3_; have GE118 := n4_; have NB111_118 := n5_; have NB118_111 := n6_; clear n0_ n1_ n2_ n3_ n4_ n5_ n6_; clear hb hbox hg; have hnb63 := NB118_111.out; have hnc63 := NB111_118.out; have hcz64_0 : w62.cell? ⟨gb118, 0, none⟩ = some (.int .i64 0) := (blk_cell BK118.out 0).trans rfl; have hcz64_1 : w62.cell? ⟨gb118, 1, none⟩ = some (.int .i64 0) := (blk_cell BK118.out 1).trans rfl; have hcz64_2 : w62.cell? ⟨gb118, 2, none⟩ = some (.int .i64 0) := (blk_cell BK118.out 2).trans rfl; have hcz64_3 : w62.cell? ⟨gb118, 3, none⟩ = some (.string (⟨#[]⟩ : ByteArray)) := (blk_cell BK118.out 3).trans rfl; have hcz64_4 : w62.cell? ⟨gb118, 4, none⟩ = some (.int .i64 0) := (blk_cell BK118.out 4).trans rfl; have hcz64_5 : w62.cell? ⟨gb118, 5, none⟩ = some (.slice none 0 0) := (blk_cell BK118.out 5).trans rfl; have hcz64_6 : w62.cell? ⟨gb118, 6, none⟩ = some (.string (⟨#[]⟩ : ByteArray)) := (blk_cell BK118.out 6).trans rfl; have hfz64_0 := blk_frozen BK118.out 0; have hfz64_1 := blk_frozen BK118.out 1; have hfz64_2 := blk_frozen BK118.out 2; have hfz64_3 := blk_frozen BK118.out 3; have hfz64_4 := blk_frozen BK118.out 4; have hfz64_5 := blk_frozen BK118.out 5; have hfz64_6 := blk_frozen BK118.out 6; have hcz65_0 : w62.cell? ⟨gb111, 0, none⟩ = some (.string a0_0) := (blk_cell BK111.out 0).trans rfl; have hcz65_1 : w62.cell? ⟨gb111, 1, none⟩ = some (.int .i64 a0_1) := (blk_cell BK111.out 1).trans rfl; have hcz65_2 : w62.cell? ⟨gb111, 2, none⟩ = some (.int .i64 a0_2) := (blk_cell BK111.out 2).trans rfl; have hcz65_3 : w62.cell? ⟨gb111, 3, none⟩ = some (.int .i64 a0_3) := (blk_cell BK111.out 3).trans rfl; have hcz65_4 : w62.cell? ⟨gb111, 4, none⟩ = some (.slice A0_4 l0_4.length c0_4) := (blk_cell BK111.out 4).trans rfl; have hcz65_5 : w62.cell? ⟨gb111, 5, none⟩ = some (.slice (some ad117) l0_5.length c0_5) := (blk_cell BK111.out 5).trans rfl; have hfz65_0 := blk_frozen BK111.out 0; have hfz65_1 := blk_frozen BK111.out 1; have hfz65_2 := blk_frozen BK111.out 2; have hfz65_3 := blk_frozen BK111.out 3; have hfz65_4 := blk_frozen BK111.out 4; have hfz65_5 := blk_frozen BK111.out 5) | ((with_reducible refine gate_callee (f := 28) rfl ?_); refine goesL_ (some 88) rfl rfl Tryd.func28 (by kernel_rfl) rfl #[.agg #[.string a0_0, .int .i64 a0_1, .int .i64 a0_2, .int .i64 a0_3, .slice A0_4 l0_4.length c0_4, .slice (some ad117) l0_5.length c0_5], .agg #[.int .i64 ((rd_T34 l0_5 x82_4).f0), .int .i64 ((rd_T34 l0_5 x82_4).f1), .int .i64 ((rd_T34 l0_5 x82_4).f2), .string ((rd_T34 l0_5 x82_4).f3), .int .i64 ((rd_T34 l0_5 x82_4).f4), .slice A117_5 ((rd_T34 l0_5 x82_4).f5).length c117_5, .string ((rd_T34 l0_5 x82_4).f6)]] rfl (by (try simp only [List.map_toArray, List.map_cons, List.map_nil]); first | done | rfl | (simp only [List.length_drop, List.length_take]; rfl)) ?_; (with_reducible refine (mailsackref1_MayMsg.calls k4 a0_0 a0_1 a0_2 a0_3 _ _ l0_4 _ _ l0_5 ((rd_T34 l0_5 x82_4).f0) ((rd_T34 l0_5 x82_4).f1) ((rd_T34 l0_5 x82_4).f2) ((rd_T34 l0_5 x82_4).f3) ((rd_T34 l0_5 x82_4).f4) _ _ ((rd_T34 l0_5 x82_4).f5) ((rd_T34 l0_5 x82_4).f6) t119 _ ?side1 ?side2 ?side3 ?side4 ?side5 ?side6 A44.out).mono ?_); (case side1 => exact Kd.C_below HR0_4.out (by repeat (first | (with_reducible first | exact HB.out | apply below_alloc | apply pw_below_drewN | apply below_drew1 | refine below_set ?_ GE111.out | refine below_set ?_ GE118.out) | exact HB.out))); (case side2 => exact HC0_4.out); (case side3 => exact Kd.C_below HR0_5.out (by repeat (first | (with_reducible first | exact HB.out | apply below_alloc | apply pw_below_drewN | apply below_drew1 | refine below_set ?_ GE111.out | refine below_set ?_ GE118.out) | exact HB.out))); (case side4 => exact HC0_5.out); (case side5 => exact Kd.C_below HR117_5.out (by repeat (first | (with_reducible first | exact HB.out | apply below_alloc | apply pw_below_drewN | apply below_drew1 | refine below_set ?_ GE111.out | refine below_set ?_ GE118.out) | exact HB.out))); (case side6 => exact HC117_5.out); rintro e w66 ⟨rfl, hb⟩; refine ⟨_, rfl, ?_⟩; have n0_ := Aside0.mk (blk_below (g := gb111) (o := .cells #[.string a0_0, .int .i64 a0_1, .int .i64 a0_2, .int .i64 a0_3, .slice A0_4 l0_4.length c0_4, .slice (some ad117) l0_5.length c0_5] 25 (0, 0)) (by (with_reducible repeat (first | refine blk_drewN ?_ _ | refine blk_drew ?_ | refine blk_alloc ?_ _)); refine blk_far ?_ NB111_118.out _; (with_reducible repeat (first | refine blk_drewN ?_ _ | refine blk_drew ?_ | refine blk_alloc ?_ _)); refine blk_far ?_ NB111_118.out _; (with_reducible repeat (first | refine blk_drewN ?_ _ | refine blk_drew ?_ | refine blk_alloc ?_ _)); refine blk_far ?_ NB111_118.out _; (with_reducible repeat (first | refine blk_drewN ?_ _ | refine blk_drew ?_ | refine blk_alloc ?_ _)); refine blk_far ?_ NB111_118.out _; (with_reducible repeat (first | refine blk_drewN ?_ _ | refine blk_drew ?_ | refine blk_alloc ?_ _)); refine blk_far ?_ NB111_118.out _; (with_reducible repeat (first | refine blk_drewN ?_ _ | refine blk_drew ?_ | refine blk_alloc ?_ _)); refine blk_far ?_ NB111_118.out _; (with_reducible repeat (first | refine blk_drewN ?_ _ | refine blk_drew ?_ | refine blk_alloc ?_ _)); refine blk_far ?_ NB111_118.out _; (with_reducible repeat (first | refine blk_drewN ?_ _ | refine blk_drew ?_ | refine blk_alloc ?_ _)); exact BK111.out) hb); have n1_ := Aside0.mk (blk_below (g := gb118) (o := .cells #[.int .i64 ((rd_T34 l0_5 x82_4).f0), .int .i64 ((rd_T34 l0_5 x82_4).f1), .int .i64 ((rd_T34 l0_5 x82_4).f2), .string ((rd_T34 l0_5 x82_4).f3), .int .i64 ((rd_T34 l0_5 x82_4).f4), .slice A117_5 ((rd_T34 l0_5 x82_4).f5).length c117_5, .string ((rd_T34 l0_5 x82_4).f6)] 34 (0, 0)) (by (with_reducible repeat (first | refine blk_drewN ?_ _ | refine blk_drew ?_ | refine blk_alloc ?_ _)); refine blk_put (cs := #[.int .i64 ((rd_T34 l0_5 x82_4).f0), .int .i64 ((rd_T34 l0_5 x82_4).f1), .int .i64 ((rd_T34 l0_5 x82_4).f2), .string ((rd_T34 l0_5 x82_4).f3), .int .i64 ((rd_T34 l0_5 x82_4).f4), .slice A117_5 ((rd_T34 l0_5 x82_4).f5).length c117_5, .string (⟨#[]⟩ : ByteArray)]) ?_ 6 _ rfl; (with_reducible repeat (first | refine blk_drewN ?_ _ | refine blk_drew ?_ | refine blk_alloc ?_ _)); refine blk_put (cs := #[.int .i64 ((rd_T34 l0_5 x82_4).f0), .int .i64 ((rd_T34 l0_5 x82_4).f1), .int .i64 ((rd_T34 l0_5 x82_4).f2), .string ((rd_T34 l0_5 x82_4).f3), .int .i64 ((rd_T34 l0_5 x82_4).f4), .slice none 0 0, .string (⟨#[]⟩ : ByteArray)]) ?_ 5 _ rfl; (with_reducible repeat (first | refine blk_drewN ?_ _ | refine blk_drew ?_ | refine blk_alloc ?_ _)); refine blk_put (cs := #[.int .i64 ((rd_T34 l0_5 x82_4).f0), .int .i64 ((rd_T34 l0_5 x82_4).f1), .int .i64 ((rd_T34 l0_5 x82_4).f2), .string ((rd_T34 l0_5 x82_4).f3), .int .i64 0, .slice none 0 0, .string (⟨#[]⟩ : ByteArray)]) ?_ 4 _ rfl; (with_reducible repeat (first | refine blk_drewN ?_ _ | refine blk_drew ?_ | refine blk_alloc ?_ _)); refine blk_put (cs := #[.int .i64 ((rd_T34 l0_5 x82_4).f0), .int .i64 ((rd_T34 l0_5 x82_4).f1), .int .i64 ((rd_T34 l0_5 x82_4).f2), .string (⟨#[]⟩ : ByteArray), .int .i64 0, .slice none 0 0, .string (⟨#[]⟩ : ByteArray)]) ?_ 3 _ rfl; (with_reducible repeat (first | refine blk_drewN ?_ _ | refine blk_drew ?_ | refine blk_alloc ?_ _)); refine blk_put (cs := #[.int .i64 ((rd_T34 l0_5 x82_4).f0), .int .i64 ((rd_T34 l0_5 x82_4).f1), .int .i64 0, .string (⟨#[]⟩ : ByteArray), .int .i64 0, .slice none 0 0, .string (⟨#[]⟩ : ByteArray)]) ?_ 2 _ rfl; (with_reducible repeat (first | refine blk_drewN ?_ _ | refine blk_drew ?_ | refine blk_alloc ?_ _)); refine blk_put (cs := #[.int .i64 ((rd_T34 l0_5 x82_4).f0), .int .i64 0, .int .i64 0, .string (⟨#[]⟩ : ByteArray), .int .i64 0, .slice none 0 0, .string (⟨#[]⟩ : ByteArray)]) ?_ 1 _ rfl; (with_reducible repeat (first | refine blk_drewN ?_ _ | refine blk_drew ?_ | refine blk_alloc ?_ _)); refine blk_put (cs := #[.int .i64 0, .int .i64 0, .int .i64 0, .string (⟨#[]⟩ : ByteArray), .int .i64 0, .slice none 0 0, .string (⟨#[]⟩ : ByteArray)]) ?_ 0 _ rfl; (with_reducible repeat (first | refine blk_drewN ?_ _ | refine blk_drew ?_ | refine blk_alloc ?_ _)); exact BK118.out) hb); have n2_ := Aside0.mk (below_step (by repeat (first | (with_reducible first | exact HB.out | apply below_alloc | apply pw_below_drewN | apply below_drew1 | refine below_set ?_ GE111.out | refine below_set ?_ GE118.out) | exact HB.out)) hb); clear BK111; clear BK118; clear HB; have BK111 := n0_; have BK118 := n1_; have HB := n2_; clear n0_ n1_ n2_; (try clear hb); (try clear hb2); (try clear hk); (try clear hi); have hcz67_0 : w66.cell? ⟨gb118, 0, none⟩ = some (.int .i64 ((rd_T34 l0_5 x82_4).f0)) := (blk_cell BK118.out 0).trans rfl; have hcz67_1 : w66.cell? ⟨gb118, 1, none⟩ = some (.int .i64 ((rd_T34 l0_5 x82_4).f1)) := (blk_cell BK118.out 1).trans rfl; have hcz67_2 : w66.cell? ⟨gb118, 2, none⟩ = some (.int .i64 ((rd_T34 l0_5 x82_4).f2)) := (blk_cell BK118.out 2).trans rfl; have hcz67_3 : w66.cell? ⟨gb118, 3, none⟩ = some (.string ((rd_T34 l0_5 x82_4).f3)) := (blk_cell BK118.out 3).trans rfl; have hcz67_4 : w66.cell? ⟨gb118, 4, none⟩ = some (.int .i64 ((rd_T34 l0_5 x82_4).f4)) := (blk_cell BK118.out 4).trans rfl; have hcz67_5 : w66.cell? ⟨gb118, 5, none⟩ = some (.slice A117_5 ((rd_T34 l0_5 x82_4).f5).length c117_5) := (blk_cell BK118.out 5).trans rfl; have hcz67_6 : w66.cell? ⟨gb118, 6, none⟩ = some (.string ((rd_T34 l0_5 x82_4).f6)) := (blk_cell BK118.out 6).trans rfl; have hfz67_0 := blk_frozen BK118.out 0; have hfz67_1 := blk_frozen BK118.out 1; have hfz67_2 := blk_frozen BK118.out 2; have hfz67_3 := blk_frozen BK118.out 3; have hfz67_4 := blk_frozen BK118.out 4; have hfz67_5 := blk_frozen BK118.out 5; have hfz67_6 := blk_frozen BK118.out 6; have hcz68_0 : w66.cell? ⟨gb111, 0, none⟩ = some (.string a0_0) := (blk_cell BK111.out 0).trans rfl; have hcz68_1 : w66.cell? ⟨gb111, 1, none⟩ = some (.int .i64 a0_1) := (blk_cell BK111.out 1).trans rfl; have hcz68_2 : w66.cell? ⟨gb111, 2, none⟩ = some (.int .i64 a0_2) := (blk_cell BK111.out 2).trans rfl; have hcz68_3 : w66.cell? ⟨gb111, 3, none⟩ = some (.int .i64 a0_3) := (blk_cell BK111.out 3).trans rfl; have hcz68_4 : w66.cell? ⟨gb111, 4, none⟩ = some (.slice A0_4 l0_4.length c0_4) := (blk_cell BK111.out 4).trans rfl; have hcz68_5 : w66.cell? ⟨gb111, 5, none⟩ = some (.slice (some ad117) l0_5.length c0_5) := (blk_cell BK111.out 5).trans rfl; have hfz68_0 := blk_frozen BK111.out 0; have hfz68_1 := blk_frozen BK111.out 1; have hfz68_2 := blk_frozen BK111.out 2; have hfz68_3 := blk_frozen BK111.out 3; have hfz68_4 := blk_frozen BK111.out 4; have hfz68_5 := blk_frozen BK111.out 5))
                                      go_ret
                                      exact ⟨by first | rfl | (simp [errW_none, errW_some] <;> rfl) | (simp [*, errW_none, errW_some] <;> rfl), by repeat (first | (with_reducible first | exact HB.out | apply below_alloc | apply pw_below_drewN | apply below_drew1 | refine below_set ?_ GE111.out | refine below_set ?_ GE118.out) | exact HB.out)⟩
                                    · rw [if_neg c61] at H
                                      have c61b0 : decide (a0_3 < ((rd_T34 l0_5 x82_4).f1)) = false := decide_eq_false c61
                                      clear c61
                                      have H' := Aside0.mk H
                                      clear H
                                      have p117 : 0 ≤ (x82_4 : Int) := of_decide_eq_true (by first | (with_reducible assumption) | assumption)
                                      have q117 : x82_4 < (l0_5.length : Int) := of_decide_eq_true (by first | (with_reducible assumption) | assumption)
                                      obtain ⟨ad117, A117_5, c117_5, e117, hx117_0, hx117_1, hx117_2, hx117_3, hx117_4, hx117_5, hx117_6, hl117_5, hi117_5⟩ := at_T34 HR0_5.out x82_4 p117 q117
                                      cases e117
                                      replace hx117_0 := (HB.out.cell (World.block_lt_of_cell? w _ hx117_0)).trans hx117_0
                                      replace hx117_1 := (HB.out.cell (World.block_lt_of_cell? w _ hx117_1)).trans hx117_1
                                      replace hx117_2 := (HB.out.cell (World.block_lt_of_cell? w _ hx117_2)).trans hx117_2
                                      replace hx117_3 := (HB.out.cell (World.block_lt_of_cell? w _ hx117_3)).trans hx117_3
                                      replace hx117_4 := (HB.out.cell (World.block_lt_of_cell? w _ hx117_4)).trans hx117_4
                                      replace hx117_5 := (HB.out.cell (World.block_lt_of_cell? w _ hx117_5)).trans hx117_5
                                      replace hx117_6 := (HB.out.cell (World.block_lt_of_cell? w _ hx117_6)).trans hx117_6
                                      have HR117_5 := Aside0.mk hi117_5
                                      have HC117_5 := Aside0.mk hl117_5
                                      clear hi117_5 hl117_5
                                      replace p117 := eq_true p117
                                      replace q117 := eq_true q117
                                      go_wp2_with (first | ((with_reducible refine gate_dst (N := 7) rfl ?_); (try (refine gate_guard (by rfl) ?_; dsimp only)); refine box_event ?hg (N := 7) ?hd (cs := #[.int .i64 0, .int .i64 0, .int .i64 0, .string (⟨#[]⟩ : ByteArray), .int .i64 0, .slice none 0 0, .string (⟨#[]⟩ : ByteArray)]) (t := 34) ?hr ?_; (case hd => rfl); (case hg => rfl); (case hr => first | (go_simp; done) | (go_simp; rfl)); intro gb118 hg w69 hbox hb; have n0_ := Aside0.mk (blk_below (g := gb111) (o := .cells #[.string a0_0, .int .i64 a0_1, .int .i64 a0_2, .int .i64 a0_3, .slice A0_4 l0_4.length c0_4, .slice (some ad117) l0_5.length c0_5] 25 (0, 0)) (by (with_reducible repeat (first | refine blk_drewN ?_ _ | refine blk_drew ?_ | refine blk_alloc ?_ _)); exact BK111.out) hb); have n1_ := Aside0.mk (below_step (by repeat (first | (with_reducible first | exact HB.out | apply below_alloc | apply pw_below_drewN | apply below_drew1 | refine below_set ?_ GE111.out) | exact HB.out)) hb); have n2_ := Aside0.mk (hbox); have n3_ := Aside0.mk ((by rw [hg]; exact (below_size (by repeat (first | (with_reducible first | exact HB.out | apply below_alloc | apply pw_below_drewN | apply below_drew1 | refine below_set ?_ GE111.out) | exact HB.out))) : w.heap.size ≤ gb118)); have n4_ := Aside0.mk ((by rw [hg]; exact (below_size (by repeat (first | (with_reducible first | exact HB.out | apply below_alloc | apply pw_below_drewN | apply below_drew1 | refine below_set ?_ GE111.out) | exact HB.out))) : w.heap.size ≤ gb118)); have n5_ := Aside0.mk ((by rw [hg]; exact Nat.ne_of_lt (blk_lt (g := gb111) (o := .cells #[.string a0_0, .int .i64 a0_1, .int .i64 a0_2, .int .i64 a0_3, .slice A0_4 l0_4.length c0_4, .slice (some ad117) l0_5.length c0_5] 25 (0, 0)) (by (with_reducible repeat (first | refine blk_drewN ?_ _ | refine blk_drew ?_ | refine blk_alloc ?_ _)); exact BK111.out)) : gb111 ≠ gb118)); have n6_ := Aside0.mk ((by rw [hg]; exact Nat.ne_of_gt (blk_lt (g := gb111) (o := .cells #[.string a0_0, .int .i64 a0_1, .int .i64 a0_2, .int .i64 a0_3, .slice A0_4 l0_4.length c0_4, .slice (some ad117) l0_5.length c0_5] 25 (0, 0)) (by (with_reducible repeat (first | refine blk_drewN ?_ _ | refine blk_drew ?_ | refine blk_alloc ?_ _)); exact BK111.out)) : gb118 ≠ gb111)); clear BK111; clear HB; have BK111 := n0_; have HB := n1_; have BK118 := n2_; have GW118 := n3_; have GE118 := n4_; have NB111_118 := n5_; have NB118_111 := n6_; clear n0_ n1_ n2_ n3_ n4_ n5_ n6_; clear hb hbox hg; have hnb70 := NB118_111.out; have hnc70 := NB111_118.out; have hcz71_0 : w69.cell? ⟨gb118, 0, none⟩ = some (.int .i64 0) := (blk_cell BK118.out 0).trans rfl; have hcz71_1 : w69.cell? ⟨gb118, 1, none⟩ = some (.int .i64 0) := (blk_cell BK118.out 1).trans rfl; have hcz71_2 : w69.cell? ⟨gb118, 2, none⟩ = some (.int .i64 0) := (blk_cell BK118.out 2).trans rfl; have hcz71_3 : w69.cell? ⟨gb118, 3, none⟩ = some (.string (⟨#[]⟩ : ByteArray)) := (blk_cell BK118.out 3).trans rfl; have hcz71_4 : w69.cell? ⟨gb118, 4, none⟩ = some (.int .i64 0) := (blk_cell BK118.out 4).trans rfl; have hcz71_5 : w69.cell? ⟨gb118, 5, none⟩ = some (.slice none 0 0) := (blk_cell BK118.out 5).trans rfl; have hcz71_6 : w69.cell? ⟨gb118, 6, none⟩ = some (.string (⟨#[]⟩ : ByteArray)) := (blk_cell BK118.out 6).trans rfl; have hfz71_0 := blk_frozen BK118.out 0; have hfz71_1 := blk_frozen BK118.out 1; have hfz71_2 := blk_frozen BK118.out 2; have hfz71_3 := blk_frozen BK118.out 3; have hfz71_4 := blk_frozen BK118.out 4; have hfz71_5 := blk_frozen BK118.out 5; have hfz71_6 := blk_frozen BK118.out 6; have hcz72_0 : w69.cell? ⟨gb111, 0, none⟩ = some (.string a0_0) := (blk_cell BK111.out 0).trans rfl; have hcz72_1 : w69.cell? ⟨gb111, 1, none⟩ = some (.int .i64 a0_1) := (blk_cell BK111.out 1).trans rfl; have hcz72_2 : w69.cell? ⟨gb111, 2, none⟩ = some (.int .i64 a0_2) := (blk_cell BK111.out 2).trans rfl; have hcz72_3 : w69.cell? ⟨gb111, 3, none⟩ = some (.int .i64 a0_3) := (blk_cell BK111.out 3).trans rfl; have hcz72_4 : w69.cell? ⟨gb111, 4, none⟩ = some (.slice A0_4 l0_4.length c0_4) := (blk_cell BK111.out 4).trans rfl; have hcz72_5 : w69.cell? ⟨gb111, 5, none⟩ = some (.slice (some ad117) l0_5.length c0_5) := (blk_cell BK111.out 5).trans rfl; have hfz72_0 := blk_frozen BK111.out 0; have hfz72_1 := blk_frozen BK111.out 1; have hfz72_2 := blk_frozen BK111.out 2; have hfz72_3 := blk_frozen BK111.out 3; have hfz72_4 := blk_frozen BK111.out 4; have hfz72_5 := blk_frozen BK111.out 5) | ((with_reducible refine gate_callee (f := 28) rfl ?_); refine goesL_ (some 88) rfl rfl Tryd.func28 (by kernel_rfl) rfl #[.agg #[.string a0_0, .int .i64 a0_1, .int .i64 a0_2, .int .i64 a0_3, .slice A0_4 l0_4.length c0_4, .slice (some ad117) l0_5.length c0_5], .agg #[.int .i64 ((rd_T34 l0_5 x82_4).f0), .int .i64 ((rd_T34 l0_5 x82_4).f1), .int .i64 ((rd_T34 l0_5 x82_4).f2), .string ((rd_T34 l0_5 x82_4).f3), .int .i64 ((rd_T34 l0_5 x82_4).f4), .slice A117_5 ((rd_T34 l0_5 x82_4).f5).length c117_5, .string ((rd_T34 l0_5 x82_4).f6)]] rfl (by (try simp only [List.map_toArray, List.map_cons, List.map_nil]); first | done | rfl | (simp only [List.length_drop, List.length_take]; rfl)) ?_; (with_reducible refine (mailsackref1_MayMsg.calls k4 a0_0 a0_1 a0_2 a0_3 _ _ l0_4 _ _ l0_5 ((rd_T34 l0_5 x82_4).f0) ((rd_T34 l0_5 x82_4).f1) ((rd_T34 l0_5 x82_4).f2) ((rd_T34 l0_5 x82_4).f3) ((rd_T34 l0_5 x82_4).f4) _ _ ((rd_T34 l0_5 x82_4).f5) ((rd_T34 l0_5 x82_4).f6) t119 _ ?side1 ?side2 ?side3 ?side4 ?side5 ?side6 A44.out).mono ?_); (case side1 => exact Kd.C_below HR0_4.out (by repeat (first | (with_reducible first | exact HB.out | apply below_alloc | apply pw_below_drewN | apply below_drew1 | refine below_set ?_ GE111.out | refine below_set ?_ GE118.out) | exact HB.out))); (case side2 => exact HC0_4.out); (case side3 => exact Kd.C_below HR0_5.out (by repeat (first | (with_reducible first | exact HB.out | apply below_alloc | apply pw_below_drewN | apply below_drew1 | refine below_set ?_ GE111.out | refine below_set ?_ GE118.out) | exact HB.out))); (case side4 => exact HC0_5.out); (case side5 => exact Kd.C_below HR117_5.out (by repeat (first | (with_reducible first | exact HB.out | apply below_alloc | apply pw_below_drewN | apply below_drew1 | refine below_set ?_ GE111.out | refine below_set ?_ GE118.out) | exact HB.out))); (case side6 => exact HC117_5.out); rintro e w73 ⟨rfl, hb⟩; refine ⟨_, rfl, ?_⟩; have n0_ := Aside0.mk (blk_below (g := gb111) (o := .cells #[.string a0_0, .int .i64 a0_1, .int .i64 a0_2, .int .i64 a0_3, .slice A0_4 l0_4.length c0_4, .slice (some ad117) l0_5.length c0_5] 25 (0, 0)) (by (with_reducible repeat (first | refine blk_drewN ?_ _ | refine blk_drew ?_ | refine blk_alloc ?_ _)); refine blk_far ?_ NB111_118.out _; (with_reducible repeat (first | refine blk_drewN ?_ _ | refine blk_drew ?_ | refine blk_alloc ?_ _)); refine blk_far ?_ NB111_118.out _; (with_reducible repeat (first | refine blk_drewN ?_ _ | refine blk_drew ?_ | refine blk_alloc ?_ _)); refine blk_far ?_ NB111_118.out _; (with_reducible repeat (first | refine blk_drewN ?_ _ | refine blk_drew ?_ | refine blk_alloc ?_ _)); refine blk_far ?_ NB111_118.out _; (with_reducible repeat (first | refine blk_drewN ?_ _ | refine blk_drew ?_ | refine blk_alloc ?_ _)); refine blk_far ?_ NB111_118.out _; (with_reducible repeat (first | refine blk_drewN ?_ _ | refine blk_drew ?_ | refine blk_alloc ?_ _)); refine blk_far ?_ NB111_118.out _; (with_reducible repeat (first | refine blk_drewN ?_ _ | refine blk_drew ?_ | refine blk_alloc ?_ _)); refine blk_far ?_ NB111_118.out _; (with_reducible repeat (first | refine blk_drewN ?_ _ | refine blk_drew ?_ | refine blk_alloc ?_ _)); exact BK111.out) hb); have n1_ := Aside0.mk (blk_below (g := gb118) (o := .cells #[.int .i64 ((rd_T34 l0_5 x82_4).f0), .int .i64 ((rd_T34 l0_5 x82_4).f1), .int .i64 ((rd_T34 l0_5 x82_4).f2), .string ((rd_T34 l0_5 x82_4).f3), .int .i64 ((rd_T34 l0_5 x82_4).f4), .slice A117_5 ((rd_T34 l0_5 x82_4).f5).length c117_5, .string ((rd_T34 l0_5 x82_4).f6)] 34 (0, 0)) (by (with_reducible repeat (first | refine blk_drewN ?_ _ | refine blk_drew ?_ | refine blk_alloc ?_ _)); refine blk_put (cs := #[.int .i64 ((rd_T34 l0_5 x82_4).f0), .int .i64 ((rd_T34 l0_5 x82_4).f1), .int .i64 ((rd_T34 l0_5 x82_4).f2), .string ((rd_T34 l0_5 x82_4).f3), .int .i64 ((rd_T34 l0_5 x82_4).f4), .slice A117_5 ((rd_T34 l0_5 x82_4).f5).length c117_5, .string (⟨#[]⟩ : ByteArray)]) ?_ 6 _ rfl; (with_reducible repeat (first | refine blk_drewN ?_ _ | refine blk_drew ?_ | refine blk_alloc ?_ _)); refine blk_put (cs := #[.int .i64 ((rd_T34 l0_5 x82_4).f0), .int .i64 ((rd_T34 l0_5 x82_4).f1), .int .i64 ((rd_T34 l0_5 x82_4).f2), .string ((rd_T34 l0_5 x82_4).f3), .int .i64 ((rd_T34 l0_5 x82_4).f4), .slice none 0 0, .string (⟨#[]⟩ : ByteArray)]) ?_ 5 _ rfl; (with_reducible repeat (first | refine blk_drewN ?_ _ | refine blk_drew ?_ | refine blk_alloc ?_ _)); refine blk_put (cs := #[.int .i64 ((rd_T34 l0_5 x82_4).f0), .int .i64 ((rd_T34 l0_5 x82_4).f1), .int .i64 ((rd_T34 l0_5 x82_4).f2), .string ((rd_T34 l0_5 x82_4).f3), .int .i64 0, .slice none 0 0, .string (⟨#[]⟩ : ByteArray)]) ?_ 4 _ rfl; (with_reducible repeat (first | refine blk_drewN ?_ _ | refine blk_drew ?_ | refine blk_alloc ?_ _)); refine blk_put (cs := #[.int .i64 ((rd_T34 l0_5 x82_4).f0), .int .i64 ((rd_T34 l0_5 x82_4).f1), .int .i64 ((rd_T34 l0_5 x82_4).f2), .string (⟨#[]⟩ : ByteArray), .int .i64 0, .slice none 0 0, .string (⟨#[]⟩ : ByteArray)]) ?_ 3 _ rfl; (with_reducible repeat (first | refine blk_drewN ?_ _ | refine blk_drew ?_ | refine blk_alloc ?_ _)); refine blk_put (cs := #[.int .i64 ((rd_T34 l0_5 x82_4).f0), .int .i64 ((rd_T34 l0_5 x82_4).f1), .int .i64 0, .string (⟨#[]⟩ : ByteArray), .int .i64 0, .slice none 0 0, .string (⟨#[]⟩ : ByteArray)]) ?_ 2 _ rfl; (with_reducible repeat (first | refine blk_drewN ?_ _ | refine blk_drew ?_ | refine blk_alloc ?_ _)); refine blk_put (cs := #[.int .i64 ((rd_T34 l0_5 x82_4).f0), .int .i64 0, .int .i64 0, .string (⟨#[]⟩ : ByteArray), .int .i64 0, .slice none 0 0, .string (⟨#[]⟩ : ByteArray)]) ?_ 1 _ rfl; (with_reducible repeat (first | refine blk_drewN ?_ _ | refine blk_drew ?_ | refine blk_alloc ?_ _)); refine blk_put (cs := #[.int .i64 0, .int .i64 0, .int .i64 0, .string (⟨#[]⟩ : ByteArray), .int .i64 0, .slice none 0 0, .string (⟨#[]⟩ : ByteArray)]) ?_ 0 _ rfl; (with_reducible repeat (first | refine blk_drewN ?_ _ | refine blk_drew ?_ | refine blk_alloc ?_ _)); exact BK118.out) hb); have n2_ := Aside0.mk (below_step (by repeat (first | (with_reducible first | exact HB.out | apply below_alloc | apply pw_below_drewN | apply below_drew1 | refine below_set ?_ GE111.out | refine below_set ?_ GE118.out) | exact HB.out)) hb); clear BK111; clear BK118; clear HB; have BK111 := n0_; have BK118 := n1_; have HB := n2_; clear n0_ n1_ n2_; (try clear hb); (try clear hb2); (try clear hk); (try clear hi); have hcz74_0 : w73.cell? ⟨gb118, 0, none⟩ = some (.int .i64 ((rd_T34 l0_5 x82_4).f0)) := (blk_cell BK118.out 0).trans rfl; have hcz74_1 : w73.cell? ⟨gb118, 1, none⟩ = some (.int .i64 ((rd_T34 l0_5 x82_4).f1)) := (blk_cell BK118.out 1).trans rfl; have hcz74_2 : w73.cell? ⟨gb118, 2, none⟩ = some (.int .i64 ((rd_T34 l0_5 x82_4).f2)) := (blk_cell BK118.out 2).trans rfl; have hcz74_3 : w73.cell? ⟨gb118, 3, none⟩ = some (.string ((rd_T34 l0_5 x82_4).f3)) := (blk_cell BK118.out 3).trans rfl; have hcz74_4 : w73.cell? ⟨gb118, 4, none⟩ = some (.int .i64 ((rd_T34 l0_5 x82_4).f4)) := (blk_cell BK118.out 4).trans rfl; have hcz74_5 : w73.cell? ⟨gb118, 5, none⟩ = some (.slice A117_5 ((rd_T34 l0_5 x82_4).f5).length c117_5) := (blk_cell BK118.out 5).trans rfl; have hcz74_6 : w73.cell? ⟨gb118, 6, none⟩ = some (.string ((rd_T34 l0_5 x82_4).f6)) := (blk_cell BK118.out 6).trans rfl; have hfz74_0 := blk_frozen BK118.out 0; have hfz74_1 := blk_frozen BK118.out 1; have hfz74_2 := blk_frozen BK118.out 2; have hfz74_3 := blk_frozen BK118.out 3; have hfz74_4 := blk_frozen BK118.out 4; have hfz74_5 := blk_frozen BK118.out 5; have hfz74_6 := blk_frozen BK118.out 6; have hcz75_0 : w73.cell? ⟨gb111, 0, none⟩ = some (.string a0_0) := (blk_cell BK111.out 0).trans rfl; have hcz75_1 : w73.cell? ⟨gb111, 1, none⟩ = some (.int .i64 a0_1) := (blk_cell BK111.out 1).trans rfl; have hcz75_2 : w73.cell? ⟨gb111, 2, none⟩ = some (.int .i64 a0_2) := (blk_cell BK111.out 2).trans rfl; have hcz75_3 : w73.cell? ⟨gb111, 3, none⟩ = some (.int .i64 a0_3) := (blk_cell BK111.out 3).trans rfl; have hcz75_4 : w73.cell? ⟨gb111, 4, none⟩ = some (.slice A0_4 l0_4.length c0_4) := (blk_cell BK111.out 4).trans rfl; have hcz75_5 : w73.cell? ⟨gb111, 5, none⟩ = some (.slice (some ad117) l0_5.length c0_5) := (blk_cell BK111.out 5).trans rfl; have hfz75_0 := blk_frozen BK111.out 0; have hfz75_1 := blk_frozen BK111.out 1; have hfz75_2 := blk_frozen BK111.out 2; have hfz75_3 := blk_frozen BK111.out 3; have hfz75_4 := blk_frozen BK111.out 4; have hfz75_5 := blk_frozen BK111.out 5))
                                      go_roundg k4
                                      case measure => have := HJ1.out; have := HJ20.out; have := HK3.out; have := HK4.out; omega
                                      case rel => exact ⟨((rd_T34 l0_5 x82_4).f0), (wrap64 (x82_4 + 1)), (by first | rfl | (simp; done) | (simp [*]; done)), (by first | rfl | (simp; done) | (simp [*]; done)), H', ⟨by have := HJ1.out; have := HJ20.out; have := HK3.out; have := HK4.out; omega⟩, ⟨by (with_reducible repeat (first | refine blk_drewN ?_ _ | refine blk_drew ?_ | refine blk_alloc ?_ _)); exact BK111.out⟩, ⟨by repeat (first | (with_reducible first | exact HB.out | apply below_alloc | apply pw_below_drewN | apply below_drew1 | refine below_set ?_ GE111.out | refine below_set ?_ GE118.out) | exact HB.out)⟩⟩
                              · rw [if_neg c45] at H
                                have c45b0 : (t119 == 0) = false := beq_eq_false_iff_ne.mpr c45
                                have c45b1 : (t119 != 0) = true := bne_iff_ne.mpr c45
                                obtain rfl := Option.some.inj H
                                have p117 : 0 ≤ (x82_4 : Int) := of_decide_eq_true (by first | (with_reducible assumption) | assumption)
                                have q117 : x82_4 < (l0_5.length : Int) := of_decide_eq_true (by first | (with_reducible assumption) | assumption)
                                obtain ⟨ad117, A117_5, c117_5, e117, hx117_0, hx117_1, hx117_2, hx117_3, hx117_4, hx117_5, hx117_6, hl117_5, hi117_5⟩ := at_T34 HR0_5.out x82_4 p117 q117
                                cases e117
                                replace hx117_0 := (HB.out.cell (World.block_lt_of_cell? w _ hx117_0)).trans hx117_0
                                replace hx117_1 := (HB.out.cell (World.block_lt_of_cell? w _ hx117_1)).trans hx117_1
                                replace hx117_2 := (HB.out.cell (World.block_lt_of_cell? w _ hx117_2)).trans hx117_2
                                replace hx117_3 := (HB.out.cell (World.block_lt_of_cell? w _ hx117_3)).trans hx117_3
                                replace hx117_4 := (HB.out.cell (World.block_lt_of_cell? w _ hx117_4)).trans hx117_4
                                replace hx117_5 := (HB.out.cell (World.block_lt_of_cell? w _ hx117_5)).trans hx117_5
                                replace hx117_6 := (HB.out.cell (World.block_lt_of_cell? w _ hx117_6)).trans hx117_6
                                have HR117_5 := Aside0.mk hi117_5
                                have HC117_5 := Aside0.mk hl117_5
                                clear hi117_5 hl117_5
                                replace p117 := eq_true p117
                                replace q117 := eq_true q117
                                go_wp2_with (first | ((with_reducible refine gate_dst (N := 7) rfl ?_); (try (refine gate_guard (by rfl) ?_; dsimp only)); refine box_event ?hg (N := 7) ?hd (cs := #[.int .i64 0, .int .i64 0, .int .i64 0, .string (⟨#[]⟩ : ByteArray), .int .i64 0, .slice none 0 0, .string (⟨#[]⟩ : ByteArray)]) (t := 34) ?hr ?_; (case hd => rfl); (case hg => rfl); (case hr => first | (go_simp; done) | (go_simp; rfl)); intro gb118 hg w76 hbox hb; have n0_ := Aside0.mk (blk_below (g := gb111) (o := .cells #[.string a0_0, .int .i64 a0_1, .int .i64 a0_2, .int .i64 a0_3, .slice A0_4 l0_4.length c0_4, .slice (some ad117) l0_5.length c0_5] 25 (0, 0)) (by (with_reducible repeat (first | refine blk_drewN ?_ _ | refine blk_drew ?_ | refine blk_alloc ?_ _)); exact BK111.out) hb); have n1_ := Aside0.mk (below_step (by repeat (first | (with_reducible first | exact HB.out | apply below_alloc | apply pw_below_drewN | apply below_drew1 | refine below_set ?_ GE111.out) | exact HB.out)) hb); have n2_ := Aside0.mk (hbox); have n3_ := Aside0.mk ((by rw [hg]; exact (below_size (by repeat (first | (with_reducible first | exact HB.out | apply below_alloc | apply pw_below_drewN | apply below_drew1 | refine below_set ?_ GE111.out) | exact HB.out))) : w.heap.size ≤ gb118)); have n4_ := Aside0.mk ((by rw [hg]; exact (below_size (by repeat (first | (with_reducible first | exact HB.out | apply below_alloc | apply pw_below_drewN | apply below_drew1 | refine below_set ?_ GE111.out) | exact HB.out))) : w.heap.size ≤ gb118)); have n5_ := Aside0.mk ((by rw [hg]; exact Nat.ne_of_lt (blk_lt (g := gb111) (o := .cells #[.string a0_0, .int .i64 a0_1, .int .i64 a0_2, .int .i64 a0_3, .slice A0_4 l0_4.length c0_4, .slice (some ad117) l0_5.length c0_5] 25 (0, 0)) (by (with_reducible repeat (first | refine blk_drewN ?_ _ | refine blk_drew ?_ | refine blk_alloc ?_ _)); exact BK111.out)) : gb111 ≠ gb118)); have n6_ := Aside0.mk ((by rw [hg]; exact Nat.ne_of_gt (blk_lt (g := gb111) (o := .cells #[.string a0_0, .int .i64 a0_1, .int .i64 a0_2, .int .i64 a0_3, .slice A0_4 l0_4.length c0_4, .slice (some ad117) l0_5.length c0_5] 25 (0, 0)) (by (with_reducible repeat (first | refine blk_drewN ?_ _ | refine blk_drew ?_ | refine blk_alloc ?_ _)); exact BK111.out)) : gb118 ≠ gb111)); clear BK111; clear HB; have BK111 := n0_; have HB := n1_; have BK118 := n2_; have GW118 := n3_; have GE118 := n4_; have NB111_118 := n5_; have NB118_111 := n6_; clear n0_ n1_ n2_ n3_ n4_ n5_ n6_; clear hb hbox hg; have hnb77 := NB118_111.out; have hnc77 := NB111_118.out; have hcz78_0 : w76.cell? ⟨gb118, 0, none⟩ = some (.int .i64 0) := (blk_cell BK118.out 0).trans rfl; have hcz78_1 : w76.cell? ⟨gb118, 1, none⟩ = some (.int .i64 0) := (blk_cell BK118.out 1).trans rfl; have hcz78_2 : w76.cell? ⟨gb118, 2, none⟩ = some (.int .i64 0) := (blk_cell BK118.out 2).trans rfl; have hcz78_3 : w76.cell? ⟨gb118, 3, none⟩ = some (.string (⟨#[]⟩ : ByteArray)) := (blk_cell BK118.out 3).trans rfl; have hcz78_4 : w76.cell? ⟨gb118, 4, none⟩ = some (.int .i64 0) := (blk_cell BK118.out 4).trans rfl; have hcz78_5 : w76.cell? ⟨gb118, 5, none⟩ = some (.slice none 0 0) := (blk_cell BK118.out 5).trans rfl; have hcz78_6 : w76.cell? ⟨gb118, 6, none⟩ = some (.string (⟨#[]⟩ : ByteArray)) := (blk_cell BK118.out 6).trans rfl; have hfz78_0 := blk_frozen BK118.out 0; have hfz78_1 := blk_frozen BK118.out 1; have hfz78_2 := blk_frozen BK118.out 2; have hfz78_3 := blk_frozen BK118.out 3; have hfz78_4 := blk_frozen BK118.out 4; have hfz78_5 := blk_frozen BK118.out 5; have hfz78_6 := blk_frozen BK118.out 6; have hcz79_0 : w76.cell? ⟨gb111, 0, none⟩ = some (.string a0_0) := (blk_cell BK111.out 0).trans rfl; have hcz79_1 : w76.cell? ⟨gb111, 1, none⟩ = some (.int .i64 a0_1) := (blk_cell BK111.out 1).trans rfl; have hcz79_2 : w76.cell? ⟨gb111, 2, none⟩ = some (.int .i64 a0_2) := (blk_cell BK111.out 2).trans rfl; have hcz79_3 : w76.cell? ⟨gb111, 3, none⟩ = some (.int .i64 a0_3) := (blk_cell BK111.out 3).trans rfl; have hcz79_4 : w76.cell? ⟨gb111, 4, none⟩ = some (.slice A0_4 l0_4.length c0_4) := (blk_cell BK111.out 4).trans rfl; have hcz79_5 : w76.cell? ⟨gb111, 5, none⟩ = some (.slice (some ad117) l0_5.length c0_5) := (blk_cell BK111.out 5).trans rfl; have hfz79_0 := blk_frozen BK111.out 0; have hfz79_1 := blk_frozen BK111.out 1; have hfz79_2 := blk_frozen BK111.out 2; have hfz79_3 := blk_frozen BK111.out 3; have hfz79_4 := blk_frozen BK111.out 4; have hfz79_5 := blk_frozen BK111.out 5) | ((with_reducible refine gate_callee (f := 28) rfl ?_); refine goesL_ (some 88) rfl rfl Tryd.func28 (by kernel_rfl) rfl #[.agg #[.string a0_0, .int .i64 a0_1, .int .i64 a0_2, .int .i64 a0_3, .slice A0_4 l0_4.length c0_4, .slice (some ad117) l0_5.length c0_5], .agg #[.int .i64 ((rd_T34 l0_5 x82_4).f0), .int .i64 ((rd_T34 l0_5 x82_4).f1), .int .i64 ((rd_T34 l0_5 x82_4).f2), .string ((rd_T34 l0_5 x82_4).f3), .int .i64 ((rd_T34 l0_5 x82_4).f4), .slice A117_5 ((rd_T34 l0_5 x82_4).f5).length c117_5, .string ((rd_T34 l0_5 x82_4).f6)]] rfl (by (try simp only [List.map_toArray, List.map_cons, List.map_nil]); first | done | rfl | (simp only [List.length_drop, List.length_take]; rfl)) ?_; (with_reducible refine (mailsackref1_MayMsg.calls k4 a0_0 a0_1 a0_2 a0_3 _ _ l0_4 _ _ l0_5 ((rd_T34 l0_5 x82_4).f0) ((rd_T34 l0_5 x82_4).f1) ((rd_T34 l0_5 x82_4).f2) ((rd_T34 l0_5 x82_4).f3) ((rd_T34 l0_5 x82_4).f4) _ _ ((rd_T34 l0_5 x82_4).f5) ((rd_T34 l0_5 x82_4).f6) t119 _ ?side1 ?side2 ?side3 ?side4 ?side5 ?side6 A44.out).mono ?_); (case side1 => exact Kd.C_below HR0_4.out (by repeat (first | (with_reducible first | exact HB.out | apply below_alloc | apply pw_below_drewN | apply below_drew1 | refine below_set ?_ GE111.out | refine below_set ?_ GE118.out) | exact HB.out))); (case side2 => exact HC0_4.out); (case side3 => exact Kd.C_below HR0_5.out (by repeat (first | (with_reducible first | exact HB.out | apply below_alloc | apply pw_below_drewN | apply below_drew1 | refine below_set ?_ GE111.out | refine below_set ?_ GE118.out) | exact HB.out))); (case side4 => exact HC0_5.out); (case side5 => exact Kd.C_below HR117_5.out (by repeat (first | (with_reducible first | exact HB.out | apply below_alloc | apply pw_below_drewN | apply below_drew1 | refine below_set ?_ GE111.out | refine below_set ?_ GE118.out) | exact HB.out))); (case side6 => exact HC117_5.out); rintro e w80 ⟨rfl, hb⟩; refine ⟨_, rfl, ?_⟩; have n0_ := Aside0.mk (blk_below (g := gb111) (o := .cells #[.string a0_0, .int .i64 a0_1, .int .i64 a0_2, .int .i64 a0_3, .slice A0_4 l0_4.length c0_4, .slice (some ad117) l0_5.length c0_5] 25 (0, 0)) (by (with_reducible repeat (first | refine blk_drewN ?_ _ | refine blk_drew ?_ | refine blk_alloc ?_ _)); refine blk_far ?_ NB111_118.out _; (with_reducible repeat (first | refine blk_drewN ?_ _ | refine blk_drew ?_ | refine blk_alloc ?_ _)); refine blk_far ?_ NB111_118.out _; (with_reducible repeat (first | refine blk_drewN ?_ _ | refine blk_drew ?_ | refine blk_alloc ?_ _)); refine blk_far ?_ NB111_118.out _; (with_reducible repeat (first | refine blk_drewN ?_ _ | refine blk_drew ?_ | refine blk_alloc ?_ _)); refine blk_far ?_ NB111_118.out _; (with_reducible repeat (first | refine blk_drewN ?_ _ | refine blk_drew ?_ | refine blk_alloc ?_ _)); refine blk_far ?_ NB111_118.out _; (with_reducible repeat (first | refine blk_drewN ?_ _ | refine blk_drew ?_ | refine blk_alloc ?_ _)); refine blk_far ?_ NB111_118.out _; (with_reducible repeat (first | refine blk_drewN ?_ _ | refine blk_drew ?_ | refine blk_alloc ?_ _)); refine blk_far ?_ NB111_118.out _; (with_reducible repeat (first | refine blk_drewN ?_ _ | refine blk_drew ?_ | refine blk_alloc ?_ _)); exact BK111.out) hb); have n1_ := Aside0.mk (blk_below (g := gb118) (o := .cells #[.int .i64 ((rd_T34 l0_5 x82_4).f0), .int .i64 ((rd_T34 l0_5 x82_4).f1), .int .i64 ((rd_T34 l0_5 x82_4).f2), .string ((rd_T34 l0_5 x82_4).f3), .int .i64 ((rd_T34 l0_5 x82_4).f4), .slice A117_5 ((rd_T34 l0_5 x82_4).f5).length c117_5, .string ((rd_T34 l0_5 x82_4).f6)] 34 (0, 0)) (by (with_reducible repeat (first | refine blk_drewN ?_ _ | refine blk_drew ?_ | refine blk_alloc ?_ _)); refine blk_put (cs := #[.int .i64 ((rd_T34 l0_5 x82_4).f0), .int .i64 ((rd_T34 l0_5 x82_4).f1), .int .i64 ((rd_T34 l0_5 x82_4).f2), .string ((rd_T34 l0_5 x82_4).f3), .int .i64 ((rd_T34 l0_5 x82_4).f4), .slice A117_5 ((rd_T34 l0_5 x82_4).f5).length c117_5, .string (⟨#[]⟩ : ByteArray)]) ?_ 6 _ rfl; (with_reducible repeat (first | refine blk_drewN ?_ _ | refine blk_drew ?_ | refine blk_alloc ?_ _)); refine blk_put (cs := #[.int .i64 ((rd_T34 l0_5 x82_4).f0), .int .i64 ((rd_T34 l0_5 x82_4).f1), .int .i64 ((rd_T34 l0_5 x82_4).f2), .string ((rd_T34 l0_5 x82_4).f3), .int .i64 ((rd_T34 l0_5 x82_4).f4), .slice none 0 0, .string (⟨#[]⟩ : ByteArray)]) ?_ 5 _ rfl; (with_reducible repeat (first | refine blk_drewN ?_ _ | refine blk_drew ?_ | refine blk_alloc ?_ _)); refine blk_put (cs := #[.int .i64 ((rd_T34 l0_5 x82_4).f0), .int .i64 ((rd_T34 l0_5 x82_4).f1), .int .i64 ((rd_T34 l0_5 x82_4).f2), .string ((rd_T34 l0_5 x82_4).f3), .int .i64 0, .slice none 0 0, .string (⟨#[]⟩ : ByteArray)]) ?_ 4 _ rfl; (with_reducible repeat (first | refine blk_drewN ?_ _ | refine blk_drew ?_ | refine blk_alloc ?_ _)); refine blk_put (cs := #[.int .i64 ((rd_T34 l0_5 x82_4).f0), .int .i64 ((rd_T34 l0_5 x82_4).f1), .int .i64 ((rd_T34 l0_5 x82_4).f2), .string (⟨#[]⟩ : ByteArray), .int .i64 0, .slice none 0 0, .string (⟨#[]⟩ : ByteArray)]) ?_ 3 _ rfl; (with_reducible repeat (first | refine blk_drewN ?_ _ | refine blk_drew ?_ | refine blk_alloc ?_ _)); refine blk_put (cs := #[.int .i64 ((rd_T34 l0_5 x82_4).f0), .int .i64 ((rd_T34 l0_5 x82_4).f1), .int .i64 0, .string (⟨#[]⟩ : ByteArray), .int .i64 0, .slice none 0 0, .string (⟨#[]⟩ : ByteArray)]) ?_ 2 _ rfl; (with_reducible repeat (first | refine blk_drewN ?_ _ | refine blk_drew ?_ | refine blk_alloc ?_ _)); refine blk_put (cs := #[.int .i64 ((rd_T34 l0_5 x82_4).f0), .int .i64 0, .int .i64 0, .string (⟨#[]⟩ : ByteArray), .int .i64 0, .slice none 0 0, .string (⟨#[]⟩ : ByteArray)]) ?_ 1 _ rfl; (with_reducible repeat (first | refine blk_drewN ?_ _ | refine blk_drew ?_ | refine blk_alloc ?_ _)); refine blk_put (cs := #[.int .i64 0, .int .i64 0, .int .i64 0, .string (⟨#[]⟩ : ByteArray), .int .i64 0, .slice none 0 0, .string (⟨#[]⟩ : ByteArray)]) ?_ 0 _ rfl; (with_reducible repeat (first | refine blk_drewN ?_ _ | refine blk_drew ?_ | refine blk_alloc ?_ _)); exact BK118.out) hb); have n2_ := Aside0.mk (below_step (by repeat (first | (with_reducible first | exact HB.out | apply below_alloc | apply pw_below_drewN | apply below_drew1 | refine below_set ?_ GE111.out | refine below_set ?_ GE118.out) | exact HB.out)) hb); clear BK111; clear BK118; clear HB; have BK111 := n0_; have BK118 := n1_; have HB := n2_; clear n0_ n1_ n2_; (try clear hb); (try clear hb2); (try clear hk); (try clear hi)))
                                go_ret
                                exact ⟨by first | rfl | (simp [errW_none, errW_some] <;> rfl) | (simp [*, errW_none, errW_some] <;> rfl), by repeat (first | (with_reducible first | exact HB.out | apply below_alloc | apply pw_below_drewN | apply below_drew1 | refine below_set ?_ GE111.out | refine below_set ?_ GE118.out) | exact HB.out)⟩
                            · rw [if_neg c43] at H
                              exact absurd H (by simp)
                          · rw [if_neg c42] at H
                            exact absurd H (by simp)
                        · rw [if_neg c41] at H
                          have c41b0 : decide (x82_4 < (l0_5.length : Int)) = false := decide_eq_false c41
                          clear c41
                          obtain rfl := Option.some.inj H
                          go_wp2
                          go_ret
                          exact ⟨by first | rfl | (simp [errW_none, errW_some] <;> rfl) | (simp [*, errW_none, errW_some] <;> rfl), by repeat (first | (with_reducible first | exact HB.out | apply below_alloc | apply pw_below_drewN | apply below_drew1 | refine below_set ?_ GE111.out) | exact HB.out)⟩
end Go.Proofs.YtplfpbfmnogckaaDoor.TdM
