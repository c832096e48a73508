-- Printed by prune.py: the used part of a text.
import Derived.Test.YtjlabkibpknkpaaDoorZFmM0
import Derived.Test.YtjlabkibpknkpaaDoorZFmM9
namespace Go.Proofs.YtjlabkibpknkpaaDoor.FmM
open Go.RowKit Go.Proofs.YtjlabkibpknkpaaDoorW.PrintWords Go.Proofs.YtjlabkibpknkpaaDoorW.PrintLast Go.Proofs.YtjlabkibpknkpaaDoorW.PrintMore
attribute [local go_sem] max2_int min2_int max_two min_two max_three min_three max_four min_four
open Go.Proofs.YtjlabkibpknkpaaDoor.FmG
set_option linter.unusedVariables false
set_option linter.unusedSimpArgs false
mutual
def mailsackref1_SameBox.j0 : Nat → Bool → ByteArray → Int → Int → Int → List ByteArray → List (S31) → ByteArray → Int → Int → Int → List ByteArray → List (S31) → Option (Bool)
  | 0, _, _, _, _, _, _, _, _, _, _, _, _, _ => none
  | k + 1, x48, x207000, x207001, x207002, x207003, x207004, x207005, x208000, x208001, x208002, x208003, x208004, x208005 => if x48 = true then (some false) else (mailsackref1_SameBox.l0 k (x207005.length : Int) 0 x207000 x207001 x207002 x207003 x207004 x207005 x208000 x208001 x208002 x208003 x208004 x208005)
def mailsackref1_SameBox.l0 : Nat → Int → Int → ByteArray → Int → Int → Int → List ByteArray → List (S31) → ByteArray → Int → Int → Int → List ByteArray → List (S31) → Option (Bool)
  | 0, _, _, _, _, _, _, _, _, _, _, _, _, _, _ => none
  | k + 1, x51, x52, x207000, x207001, x207002, x207003, x207004, x207005, x208000, x208001, x208002, x208003, x208004, x208005 => if x52 < x51 then (if 0 ≤ x52 then (if x52 < (x207005.length : Int) then (if x52 < (x208005.length : Int) then ((mailsackref1_SameMsg.f k ((rd_T31 x207005 x52).f0) ((rd_T31 x207005 x52).f1) ((rd_T31 x207005 x52).f2) ((rd_T31 x207005 x52).f3) ((rd_T31 x207005 x52).f4) ((rd_T31 x207005 x52).f5) ((rd_T31 x207005 x52).f6) ((rd_T31 x208005 x52).f0) ((rd_T31 x208005 x52).f1) ((rd_T31 x208005 x52).f2) ((rd_T31 x208005 x52).f3) ((rd_T31 x208005 x52).f4) ((rd_T31 x208005 x52).f5) ((rd_T31 x208005 x52).f6)).bind fun t211 => (if t211 = true then (mailsackref1_SameBox.l0 k x51 (wrap64 (x52 + 1)) x207000 x207001 x207002 x207003 x207004 x207005 x208000 x208001 x208002 x208003 x208004 x208005) else (some false))) else (none)) else (none)) else (none)) else (some true)
end
def mailsackref1_SameBox.f (k : Nat) (a0_0 : ByteArray) (a0_1 : Int) (a0_2 : Int) (a0_3 : Int) (l0_4 : List ByteArray) (l0_5 : List (S31)) (a1_0 : ByteArray) (a1_1 : Int) (a1_2 : Int) (a1_3 : Int) (l1_4 : List ByteArray) (l1_5 : List (S31)) : Option (Bool) := if a0_0.toList = a1_0.toList then (if a0_1 = a1_1 then (if a0_2 = a1_2 then (if a0_3 = a1_3 then ((mailsackref1_SameTexts.f k l0_4 l1_4).bind fun t208 => (if t208 = true then (mailsackref1_SameBox.j0 k ((l0_5.length : Int) != (l1_5.length : Int)) a0_0 a0_1 a0_2 a0_3 l0_4 l0_5 a1_0 a1_1 a1_2 a1_3 l1_4 l1_5) else (mailsackref1_SameBox.j0 k true a0_0 a0_1 a0_2 a0_3 l0_4 l0_5 a1_0 a1_1 a1_2 a1_3 l1_4 l1_5))) else (mailsackref1_SameBox.j0 k true a0_0 a0_1 a0_2 a0_3 l0_4 l0_5 a1_0 a1_1 a1_2 a1_3 l1_4 l1_5)) else (mailsackref1_SameBox.j0 k true a0_0 a0_1 a0_2 a0_3 l0_4 l0_5 a1_0 a1_1 a1_2 a1_3 l1_4 l1_5)) else (mailsackref1_SameBox.j0 k true a0_0 a0_1 a0_2 a0_3 l0_4 l0_5 a1_0 a1_1 a1_2 a1_3 l1_4 l1_5)) else (mailsackref1_SameBox.j0 k true a0_0 a0_1 a0_2 a0_3 l0_4 l0_5 a1_0 a1_1 a1_2 a1_3 l1_4 l1_5)
def mailsackref1_SameBox.T6 : Bool × List (List Nat × List Nat) := (true, [([], []), ([0], [0]), ([], []), ([1, 2], [1, 2]), ([3], [3]), ([], []), ([5], [5]), ([], []), ([6, 7], [6, 7]), ([8], [8]), ([4, 9], [4, 9]), ([10], [10])])
def mailsackref1_SameBox.B6 : List Nat := [0, 1, 0, 7, 15, 0, 32, 0, 224, 480, 1023, 2047]
theorem mailsackref1_SameBox.tab6 : rtab .any (opsOf Tryd.f22 6) = mailsackref1_SameBox.T6 := by kernel_rfl
theorem mailsackref1_SameBox.bits6 : waitsOk mailsackref1_SameBox.T6.2 mailsackref1_SameBox.B6 = true := by kernel_rfl
set_option maxHeartbeats 8000000 in
set_option maxRecDepth 100000 in
theorem mailsackref1_SameBox.calls (k : Nat) (a0_0 : ByteArray) (a0_1 : Int) (a0_2 : Int) (a0_3 : Int) (A0_4 : Option Addr) (c0_4 : Nat) (l0_4 : List ByteArray) (A0_5 : Option Addr) (c0_5 : Nat) (l0_5 : List (S31)) (a1_0 : ByteArray) (a1_1 : Int) (a1_2 : Int) (a1_3 : Int) (A1_4 : Option Addr) (c1_4 : Nat) (l1_4 : List ByteArray) (A1_5 : Option Addr) (c1_5 : Nat) (l1_5 : List (S31)) (r : Bool) (w : World) (hr0_4 : Kd.C Kd.string w A0_4 l0_4.length l0_4) (hc0_4 : l0_4.length ≤ c0_4) (hr0_5 : Kd.C k31 w A0_5 l0_5.length l0_5) (hc0_5 : l0_5.length ≤ c0_5) (hr1_4 : Kd.C Kd.string w A1_4 l1_4.length l1_4) (hc1_4 : l1_4.length ≤ c1_4) (hr1_5 : Kd.C k31 w A1_5 l1_5.length l1_5) (hc1_5 : l1_5.length ≤ c1_5) (h : mailsackref1_SameBox.f k a0_0 a0_1 a0_2 a0_3 l0_4 l0_5 a1_0 a1_1 a1_2 a1_3 l1_4 l1_5 = some r) :
    Calls Tryd.prog 22 #[.agg #[.string a0_0, .int .i64 a0_1, .int .i64 a0_2, .int .i64 a0_3, .slice A0_4 l0_4.length c0_4, .slice A0_5 l0_5.length c0_5], .agg #[.string a1_0, .int .i64 a1_1, .int .i64 a1_2, .int .i64 a1_3, .slice A1_4 l1_4.length c1_4, .slice A1_5 l1_5.length c1_5]] w fun e w' => e = .returned (.bool r) ∧ Below w.heap.size w w' := by
  have hu26 := Tryd.underlying26
  have hu31 := Tryd.underlying31
  have HR0_4 := Aside0.mk hr0_4
  have HC0_4 := Aside0.mk hc0_4
  clear hr0_4 hc0_4
  have HR0_5 := Aside0.mk hr0_5
  have HC0_5 := Aside0.mk hc0_5
  clear hr0_5 hc0_5
  have HR1_4 := Aside0.mk hr1_4
  have HC1_4 := Aside0.mk hc1_4
  clear hr1_4 hc1_4
  have HR1_5 := Aside0.mk hr1_5
  have HC1_5 := Aside0.mk hc1_5
  clear hr1_5 hc1_5
  have HB := Aside0.mk (Below.refl w.heap.size w)
  have H : (if a0_0.toList = a1_0.toList then (if a0_1 = a1_1 then (if a0_2 = a1_2 then (if a0_3 = a1_3 then ((mailsackref1_SameTexts.f k l0_4 l1_4).bind fun t208 => (if t208 = true then (mailsackref1_SameBox.j0 k ((l0_5.length : Int) != (l1_5.length : Int)) a0_0 a0_1 a0_2 a0_3 l0_4 l0_5 a1_0 a1_1 a1_2 a1_3 l1_4 l1_5) else (mailsackref1_SameBox.j0 k true a0_0 a0_1 a0_2 a0_3 l0_4 l0_5 a1_0 a1_1 a1_2 a1_3 l1_4 l1_5))) else (mailsackref1_SameBox.j0 k true a0_0 a0_1 a0_2 a0_3 l0_4 l0_5 a1_0 a1_1 a1_2 a1_3 l1_4 l1_5)) else (mailsackref1_SameBox.j0 k true a0_0 a0_1 a0_2 a0_3 l0_4 l0_5 a1_0 a1_1 a1_2 a1_3 l1_4 l1_5)) else (mailsackref1_SameBox.j0 k true a0_0 a0_1 a0_2 a0_3 l0_4 l0_5 a1_0 a1_1 a1_2 a1_3 l1_4 l1_5)) else (mailsackref1_SameBox.j0 k true a0_0 a0_1 a0_2 a0_3 l0_4 l0_5 a1_0 a1_1 a1_2 a1_3 l1_4 l1_5)) = some r := h
  clear h
  have HC3 := Aside0.mk H
  clear H
  go_enter Tryd.func22, Tryd.ntmps22
  go_upto_region 1 with (first | ((with_reducible refine gate_dst (N := 2) rfl ?_); (try (refine gate_guard (by rfl) ?_; dsimp only)); refine box_event ?hg (N := 2) ?hd (cs := #[.string a0_0, .int .i64 a0_1, .int .i64 a0_2, .int .i64 a0_3, .slice A0_4 l0_4.length c0_4, .slice A0_5 l0_5.length c0_5]) (t := 26) ?hr ?_; (case hd => rfl); (case hg => rfl); (case hr => first | (go_simp; done) | (go_simp; rfl)); intro gb206 hg w4 hbox hb; have n0_ := Aside0.mk (below_step (by repeat (first | (with_reducible first | exact HB.out | apply below_alloc | apply pw_below_drewN | apply below_drew1) | exact HB.out)) hb); have n1_ := Aside0.mk (hbox); have n2_ := Aside0.mk ((by rw [hg]; exact (below_size (by repeat (first | (with_reducible first | exact HB.out | apply below_alloc | apply pw_below_drewN | apply below_drew1) | exact HB.out))) : w.heap.size ≤ gb206)); have n3_ := Aside0.mk ((by rw [hg]; exact (below_size (by repeat (first | (with_reducible first | exact HB.out | apply below_alloc | apply pw_below_drewN | apply below_drew1) | exact HB.out))) : w.heap.size ≤ gb206)); clear HB; have HB := n0_; have BK206 := n1_; have GW206 := n2_; have GE206 := n3_; clear n0_ n1_ n2_ n3_; clear hb hbox hg) | ((with_reducible refine gate_dst (N := 3) rfl ?_); (try (refine gate_guard (by rfl) ?_; dsimp only)); refine box_event ?hg (N := 3) ?hd (cs := #[.string a1_0, .int .i64 a1_1, .int .i64 a1_2, .int .i64 a1_3, .slice A1_4 l1_4.length c1_4, .slice A1_5 l1_5.length c1_5]) (t := 26) ?hr ?_; (case hd => rfl); (case hg => rfl); (case hr => first | (go_simp; done) | (go_simp; rfl)); intro gb207 hg w5 hbox hb; have n0_ := Aside0.mk (blk_below (g := gb206) (o := .cells #[.string a0_0, .int .i64 a0_1, .int .i64 a0_2, .int .i64 a0_3, .slice A0_4 l0_4.length c0_4, .slice A0_5 l0_5.length c0_5] 26 (0, 0)) (by (with_reducible repeat (first | refine blk_drewN ?_ _ | refine blk_drew ?_ | refine blk_alloc ?_ _)); exact BK206.out) hb); have n1_ := Aside0.mk (below_step (by repeat (first | (with_reducible first | exact HB.out | apply below_alloc | apply pw_below_drewN | apply below_drew1 | refine below_set ?_ GE206.out) | exact HB.out)) hb); have n2_ := Aside0.mk (hbox); have n3_ := Aside0.mk ((by rw [hg]; exact (below_size (by repeat (first | (with_reducible first | exact HB.out | apply below_alloc | apply pw_below_drewN | apply below_drew1 | refine below_set ?_ GE206.out) | exact HB.out))) : w.heap.size ≤ gb207)); have n4_ := Aside0.mk ((by rw [hg]; exact (below_size (by repeat (first | (with_reducible first | exact HB.out | apply below_alloc | apply pw_below_drewN | apply below_drew1 | refine below_set ?_ GE206.out) | exact HB.out))) : w.heap.size ≤ gb207)); have n5_ := Aside0.mk ((by rw [hg]; exact Nat.ne_of_lt (blk_lt (g := gb206) (o := .cells #[.string a0_0, .int .i64 a0_1, .int .i64 a0_2, .int .i64 a0_3, .slice A0_4 l0_4.length c0_4, .slice A0_5 l0_5.length c0_5] 26 (0, 0)) (by (with_reducible repeat (first | refine blk_drewN ?_ _ | refine blk_drew ?_ | refine blk_alloc ?_ _)); exact BK206.out)) : gb206 ≠ gb207)); have n6_ := Aside0.mk ((by rw [hg]; exact Nat.ne_of_gt (blk_lt (g := gb206) (o := .cells #[.string a0_0, .int .i64 a0_1, .int .i64 a0_2, .int .i64 a0_3, .slice A0_4 l0_4.length c0_4, .slice A0_5 l0_5.length c0_5] 26 (0, 0)) (by (with_reducible repeat (first | refine blk_drewN ?_ _ | refine blk_drew ?_ | refine blk_alloc ?_ _)); exact BK206.out)) : gb207 ≠ gb206)); clear BK206; clear HB; have BK206 := n0_; have HB := n1_; have BK207 := n2_; have GW207 := n3_; have GE207 := n4_; have NB206_207 := n5_; have NB207_206 := n6_; clear n0_ n1_ n2_ n3_ n4_ n5_ n6_; clear hb hbox hg))
  (try simp only [Act.put, List.setIfInBounds_toArray, List.set_cons_zero, List.set_cons_succ])
  go_cut [48] (fun v48 wc => ∃ (kq : Nat) (x48_2 : Bool), v48 = .bool x48_2 ∧ Aside0 (mailsackref1_SameBox.j0 kq x48_2 a0_0 a0_1 a0_2 a0_3 l0_4 l0_5 a1_0 a1_1 a1_2 a1_3 l1_4 l1_5 = some r) ∧ Aside0 (kq ≤ k) ∧ Aside0 (wc.heap[gb206]? = some (.cells #[.string a0_0, .int .i64 a0_1, .int .i64 a0_2, .int .i64 a0_3, (.slice A0_4 l0_4.length c0_4), (.slice A0_5 l0_5.length c0_5)] 26 (0, 0))) ∧ Aside0 (wc.heap[gb207]? = some (.cells #[.string a1_0, .int .i64 a1_1, .int .i64 a1_2, .int .i64 a1_3, (.slice A1_4 l1_4.length c1_4), (.slice A1_5 l1_5.length c1_5)] 26 (0, 0))) ∧ Aside0 (Below w.heap.size w wc))
  case first =>
    have H := HC3.out
    clear HC3
    by_cases c6 : a0_0.toList = a1_0.toList
    · rw [if_pos c6] at H
      have c6b0 : (a0_0.toList == a1_0.toList) = true := beq_iff_eq.mpr c6
      have c6b1 : (a0_0.toList != a1_0.toList) = false := bne_eq_false_iff_eq.mpr c6
      clear c6
      (first | rw [c6b0] | (simp only [i64_w, i32_w]; rw [c6b0]) | skip)
      by_cases c7 : a0_1 = a1_1
      · rw [if_pos c7] at H
        have c7b0 : (a0_1 == a1_1) = true := beq_iff_eq.mpr c7
        have c7b1 : (a0_1 != a1_1) = false := bne_eq_false_iff_eq.mpr c7
        clear c7
        by_cases c8 : a0_2 = a1_2
        · rw [if_pos c8] at H
          have c8b0 : (a0_2 == a1_2) = true := beq_iff_eq.mpr c8
          have c8b1 : (a0_2 != a1_2) = false := bne_eq_false_iff_eq.mpr c8
          clear c8
          by_cases c9 : a0_3 = a1_3
          · rw [if_pos c9] at H
            have c9b0 : (a0_3 == a1_3) = true := beq_iff_eq.mpr c9
            have c9b1 : (a0_3 != a1_3) = false := bne_eq_false_iff_eq.mpr c9
            clear c9
            replace H := Option.bind_eq_some_iff.mp H
            obtain ⟨t208, A100, H⟩ := H
            replace H : (if t208 = true then (mailsackref1_SameBox.j0 k ((l0_5.length : Int) != (l1_5.length : Int)) a0_0 a0_1 a0_2 a0_3 l0_4 l0_5 a1_0 a1_1 a1_2 a1_3 l1_4 l1_5) else (mailsackref1_SameBox.j0 k true a0_0 a0_1 a0_2 a0_3 l0_4 l0_5 a1_0 a1_1 a1_2 a1_3 l1_4 l1_5)) = some r := H
            have A10 := Aside0.mk A100
            clear A100
            by_cases c11 : t208 = true
            · subst c11
              have H1 : (mailsackref1_SameBox.j0 k ((l0_5.length : Int) != (l1_5.length : Int)) a0_0 a0_1 a0_2 a0_3 l0_4 l0_5 a1_0 a1_1 a1_2 a1_3 l1_4 l1_5) = some r := by rw [if_pos rfl] at H; exact H
              clear H
              have H := H1
              clear H1
              have H' := Aside0.mk H
              clear H
              have hnb12 := NB206_207.out
              have hnc12 := NB207_206.out
              have hcz13_0 : w5.cell? ⟨gb206, 0, none⟩ = some (.string a0_0) := (blk_cell BK206.out 0).trans rfl
              have hcz13_1 : w5.cell? ⟨gb206, 1, none⟩ = some (.int .i64 a0_1) := (blk_cell BK206.out 1).trans rfl
              have hcz13_2 : w5.cell? ⟨gb206, 2, none⟩ = some (.int .i64 a0_2) := (blk_cell BK206.out 2).trans rfl
              have hcz13_3 : w5.cell? ⟨gb206, 3, none⟩ = some (.int .i64 a0_3) := (blk_cell BK206.out 3).trans rfl
              have hcz13_4 : w5.cell? ⟨gb206, 4, none⟩ = some (.slice A0_4 l0_4.length c0_4) := (blk_cell BK206.out 4).trans rfl
              have hcz13_5 : w5.cell? ⟨gb206, 5, none⟩ = some (.slice A0_5 l0_5.length c0_5) := (blk_cell BK206.out 5).trans rfl
              have hfz13_0 := blk_frozen BK206.out 0
              have hfz13_1 := blk_frozen BK206.out 1
              have hfz13_2 := blk_frozen BK206.out 2
              have hfz13_3 := blk_frozen BK206.out 3
              have hfz13_4 := blk_frozen BK206.out 4
              have hfz13_5 := blk_frozen BK206.out 5
              have hcz14_0 : w5.cell? ⟨gb207, 0, none⟩ = some (.string a1_0) := (blk_cell BK207.out 0).trans rfl
              have hcz14_1 : w5.cell? ⟨gb207, 1, none⟩ = some (.int .i64 a1_1) := (blk_cell BK207.out 1).trans rfl
              have hcz14_2 : w5.cell? ⟨gb207, 2, none⟩ = some (.int .i64 a1_2) := (blk_cell BK207.out 2).trans rfl
              have hcz14_3 : w5.cell? ⟨gb207, 3, none⟩ = some (.int .i64 a1_3) := (blk_cell BK207.out 3).trans rfl
              have hcz14_4 : w5.cell? ⟨gb207, 4, none⟩ = some (.slice A1_4 l1_4.length c1_4) := (blk_cell BK207.out 4).trans rfl
              have hcz14_5 : w5.cell? ⟨gb207, 5, none⟩ = some (.slice A1_5 l1_5.length c1_5) := (blk_cell BK207.out 5).trans rfl
              have hfz14_0 := blk_frozen BK207.out 0
              have hfz14_1 := blk_frozen BK207.out 1
              have hfz14_2 := blk_frozen BK207.out 2
              have hfz14_3 := blk_frozen BK207.out 3
              have hfz14_4 := blk_frozen BK207.out 4
              have hfz14_5 := blk_frozen BK207.out 5
              go_wp2_with (first | (go_at_call 28; (with_reducible refine (mailsackref1_SameTexts.calls k _ _ l0_4 _ _ l1_4 true _ ?side1 ?side2 ?side3 ?side4 A10.out).mono ?_); (case side1 => repeat (first | exact (Kd.C_below HR0_4.out HB.out) | (with_reducible refine Kd.C_alloc ?_ _) | (with_reducible refine Kd.C_drewN ?_ _) | (with_reducible refine Kd.C_drew ?_))); (case side2 => exact HC0_4.out); (case side3 => repeat (first | exact (Kd.C_below HR1_4.out HB.out) | (with_reducible refine Kd.C_alloc ?_ _) | (with_reducible refine Kd.C_drewN ?_ _) | (with_reducible refine Kd.C_drew ?_))); (case side4 => exact HC1_4.out); rintro e w' ⟨rfl, ⟨nd, rfl⟩⟩))
              go_meet
              case rel => exact ⟨_, (((l0_5.length : Int) != (l1_5.length : Int))), (by first | rfl | (simp; done) | (simp [*]; done)), H', ⟨by first | omega | exact Nat.le_refl _⟩, ⟨by (with_reducible repeat (first | refine blk_drewN ?_ _ | refine blk_drew ?_ | refine blk_alloc ?_ _)); exact BK206.out⟩, ⟨by (with_reducible repeat (first | refine blk_drewN ?_ _ | refine blk_drew ?_ | refine blk_alloc ?_ _)); exact BK207.out⟩, ⟨by repeat (first | (with_reducible first | exact HB.out | apply below_alloc | apply pw_below_drewN | apply below_drew1 | refine below_set ?_ GE206.out | refine below_set ?_ GE207.out) | exact HB.out)⟩⟩
            · replace c11 := Bool.eq_false_iff.mpr c11
              subst c11
              have H1 : (mailsackref1_SameBox.j0 k true a0_0 a0_1 a0_2 a0_3 l0_4 l0_5 a1_0 a1_1 a1_2 a1_3 l1_4 l1_5) = some r := by rw [if_neg (show ¬ (false = true) by decide)] at H; exact H
              clear H
              have H := H1
              clear H1
              have H' := Aside0.mk H
              clear H
              have hnb15 := NB206_207.out
              have hnc15 := NB207_206.out
              have hcz16_0 : w5.cell? ⟨gb206, 0, none⟩ = some (.string a0_0) := (blk_cell BK206.out 0).trans rfl
              have hcz16_1 : w5.cell? ⟨gb206, 1, none⟩ = some (.int .i64 a0_1) := (blk_cell BK206.out 1).trans rfl
              have hcz16_2 : w5.cell? ⟨gb206, 2, none⟩ = some (.int .i64 a0_2) := (blk_cell BK206.out 2).trans rfl
              have hcz16_3 : w5.cell? ⟨gb206, 3, none⟩ = some (.int .i64 a0_3) := (blk_cell BK206.out 3).trans rfl
              have hcz16_4 : w5.cell? ⟨gb206, 4, none⟩ = some (.slice A0_4 l0_4.length c0_4) := (blk_cell BK206.out 4).trans rfl
              have hcz16_5 : w5.cell? ⟨gb206, 5, none⟩ = some (.slice A0_5 l0_5.length c0_5) := (blk_cell BK206.out 5).trans rfl
              have hfz16_0 := blk_frozen BK206.out 0
              have hfz16_1 := blk_frozen BK206.out 1
              have hfz16_2 := blk_frozen BK206.out 2
              have hfz16_3 := blk_frozen BK206.out 3
              have hfz16_4 := blk_frozen BK206.out 4
              have hfz16_5 := blk_frozen BK206.out 5
              have hcz17_0 : w5.cell? ⟨gb207, 0, none⟩ = some (.string a1_0) := (blk_cell BK207.out 0).trans rfl
              have hcz17_1 : w5.cell? ⟨gb207, 1, none⟩ = some (.int .i64 a1_1) := (blk_cell BK207.out 1).trans rfl
              have hcz17_2 : w5.cell? ⟨gb207, 2, none⟩ = some (.int .i64 a1_2) := (blk_cell BK207.out 2).trans rfl
              have hcz17_3 : w5.cell? ⟨gb207, 3, none⟩ = some (.int .i64 a1_3) := (blk_cell BK207.out 3).trans rfl
              have hcz17_4 : w5.cell? ⟨gb207, 4, none⟩ = some (.slice A1_4 l1_4.length c1_4) := (blk_cell BK207.out 4).trans rfl
              have hcz17_5 : w5.cell? ⟨gb207, 5, none⟩ = some (.slice A1_5 l1_5.length c1_5) := (blk_cell BK207.out 5).trans rfl
              have hfz17_0 := blk_frozen BK207.out 0
              have hfz17_1 := blk_frozen BK207.out 1
              have hfz17_2 := blk_frozen BK207.out 2
              have hfz17_3 := blk_frozen BK207.out 3
              have hfz17_4 := blk_frozen BK207.out 4
              have hfz17_5 := blk_frozen BK207.out 5
              go_wp2_with (first | (go_at_call 28; (with_reducible refine (mailsackref1_SameTexts.calls k _ _ l0_4 _ _ l1_4 false _ ?side1 ?side2 ?side3 ?side4 A10.out).mono ?_); (case side1 => repeat (first | exact (Kd.C_below HR0_4.out HB.out) | (with_reducible refine Kd.C_alloc ?_ _) | (with_reducible refine Kd.C_drewN ?_ _) | (with_reducible refine Kd.C_drew ?_))); (case side2 => exact HC0_4.out); (case side3 => repeat (first | exact (Kd.C_below HR1_4.out HB.out) | (with_reducible refine Kd.C_alloc ?_ _) | (with_reducible refine Kd.C_drewN ?_ _) | (with_reducible refine Kd.C_drew ?_))); (case side4 => exact HC1_4.out); rintro e w' ⟨rfl, ⟨nd, rfl⟩⟩))
              go_meet
              case rel => exact ⟨_, (true), (by first | rfl | (simp; done) | (simp [*]; done)), H', ⟨by first | omega | exact Nat.le_refl _⟩, ⟨by (with_reducible repeat (first | refine blk_drewN ?_ _ | refine blk_drew ?_ | refine blk_alloc ?_ _)); exact BK206.out⟩, ⟨by (with_reducible repeat (first | refine blk_drewN ?_ _ | refine blk_drew ?_ | refine blk_alloc ?_ _)); exact BK207.out⟩, ⟨by repeat (first | (with_reducible first | exact HB.out | apply below_alloc | apply pw_below_drewN | apply below_drew1 | refine below_set ?_ GE206.out | refine below_set ?_ GE207.out) | exact HB.out)⟩⟩
          · rw [if_neg c9] at H
            have c9b0 : (a0_3 == a1_3) = false := beq_eq_false_iff_ne.mpr c9
            have c9b1 : (a0_3 != a1_3) = true := bne_iff_ne.mpr c9
            have H' := Aside0.mk H
            clear H
            have hnb18 := NB206_207.out
            have hnc18 := NB207_206.out
            have hcz19_0 : w5.cell? ⟨gb206, 0, none⟩ = some (.string a0_0) := (blk_cell BK206.out 0).trans rfl
            have hcz19_1 : w5.cell? ⟨gb206, 1, none⟩ = some (.int .i64 a0_1) := (blk_cell BK206.out 1).trans rfl
            have hcz19_2 : w5.cell? ⟨gb206, 2, none⟩ = some (.int .i64 a0_2) := (blk_cell BK206.out 2).trans rfl
            have hcz19_3 : w5.cell? ⟨gb206, 3, none⟩ = some (.int .i64 a0_3) := (blk_cell BK206.out 3).trans rfl
            have hcz19_4 : w5.cell? ⟨gb206, 4, none⟩ = some (.slice A0_4 l0_4.length c0_4) := (blk_cell BK206.out 4).trans rfl
            have hcz19_5 : w5.cell? ⟨gb206, 5, none⟩ = some (.slice A0_5 l0_5.length c0_5) := (blk_cell BK206.out 5).trans rfl
            have hfz19_0 := blk_frozen BK206.out 0
            have hfz19_1 := blk_frozen BK206.out 1
            have hfz19_2 := blk_frozen BK206.out 2
            have hfz19_3 := blk_frozen BK206.out 3
            have hfz19_4 := blk_frozen BK206.out 4
            have hfz19_5 := blk_frozen BK206.out 5
            have hcz20_0 : w5.cell? ⟨gb207, 0, none⟩ = some (.string a1_0) := (blk_cell BK207.out 0).trans rfl
            have hcz20_1 : w5.cell? ⟨gb207, 1, none⟩ = some (.int .i64 a1_1) := (blk_cell BK207.out 1).trans rfl
            have hcz20_2 : w5.cell? ⟨gb207, 2, none⟩ = some (.int .i64 a1_2) := (blk_cell BK207.out 2).trans rfl
            have hcz20_3 : w5.cell? ⟨gb207, 3, none⟩ = some (.int .i64 a1_3) := (blk_cell BK207.out 3).trans rfl
            have hcz20_4 : w5.cell? ⟨gb207, 4, none⟩ = some (.slice A1_4 l1_4.length c1_4) := (blk_cell BK207.out 4).trans rfl
            have hcz20_5 : w5.cell? ⟨gb207, 5, none⟩ = some (.slice A1_5 l1_5.length c1_5) := (blk_cell BK207.out 5).trans rfl
            have hfz20_0 := blk_frozen BK207.out 0
            have hfz20_1 := blk_frozen BK207.out 1
            have hfz20_2 := blk_frozen BK207.out 2
            have hfz20_3 := blk_frozen BK207.out 3
            have hfz20_4 := blk_frozen BK207.out 4
            have hfz20_5 := blk_frozen BK207.out 5
            go_wp2
            go_meet
            case rel => exact ⟨_, (true), (by first | rfl | (simp; done) | (simp [*]; done)), H', ⟨by first | omega | exact Nat.le_refl _⟩, ⟨by (with_reducible repeat (first | refine blk_drewN ?_ _ | refine blk_drew ?_ | refine blk_alloc ?_ _)); exact BK206.out⟩, ⟨by (with_reducible repeat (first | refine blk_drewN ?_ _ | refine blk_drew ?_ | refine blk_alloc ?_ _)); exact BK207.out⟩, ⟨by repeat (first | (with_reducible first | exact HB.out | apply below_alloc | apply pw_below_drewN | apply below_drew1 | refine below_set ?_ GE206.out | refine below_set ?_ GE207.out) | exact HB.out)⟩⟩
        · rw [if_neg c8] at H
          have c8b0 : (a0_2 == a1_2) = false := beq_eq_false_iff_ne.mpr c8
          have c8b1 : (a0_2 != a1_2) = true := bne_iff_ne.mpr c8
          have H' := Aside0.mk H
          clear H
          have hnb21 := NB206_207.out
          have hnc21 := NB207_206.out
          have hcz22_0 : w5.cell? ⟨gb206, 0, none⟩ = some (.string a0_0) := (blk_cell BK206.out 0).trans rfl
          have hcz22_1 : w5.cell? ⟨gb206, 1, none⟩ = some (.int .i64 a0_1) := (blk_cell BK206.out 1).trans rfl
          have hcz22_2 : w5.cell? ⟨gb206, 2, none⟩ = some (.int .i64 a0_2) := (blk_cell BK206.out 2).trans rfl
          have hcz22_3 : w5.cell? ⟨gb206, 3, none⟩ = some (.int .i64 a0_3) := (blk_cell BK206.out 3).trans rfl
          have hcz22_4 : w5.cell? ⟨gb206, 4, none⟩ = some (.slice A0_4 l0_4.length c0_4) := (blk_cell BK206.out 4).trans rfl
          have hcz22_5 : w5.cell? ⟨gb206, 5, none⟩ = some (.slice A0_5 l0_5.length c0_5) := (blk_cell BK206.out 5).trans rfl
          have hfz22_0 := blk_frozen BK206.out 0
          have hfz22_1 := blk_frozen BK206.out 1
          have hfz22_2 := blk_frozen BK206.out 2
          have hfz22_3 := blk_frozen BK206.out 3
          have hfz22_4 := blk_frozen BK206.out 4
          have hfz22_5 := blk_frozen BK206.out 5
          have hcz23_0 : w5.cell? ⟨gb207, 0, none⟩ = some (.string a1_0) := (blk_cell BK207.out 0).trans rfl
          have hcz23_1 : w5.cell? ⟨gb207, 1, none⟩ = some (.int .i64 a1_1) := (blk_cell BK207.out 1).trans rfl
          have hcz23_2 : w5.cell? ⟨gb207, 2, none⟩ = some (.int .i64 a1_2) := (blk_cell BK207.out 2).trans rfl
          have hcz23_3 : w5.cell? ⟨gb207, 3, none⟩ = some (.int .i64 a1_3) := (blk_cell BK207.out 3).trans rfl
          have hcz23_4 : w5.cell? ⟨gb207, 4, none⟩ = some (.slice A1_4 l1_4.length c1_4) := (blk_cell BK207.out 4).trans rfl
          have hcz23_5 : w5.cell? ⟨gb207, 5, none⟩ = some (.slice A1_5 l1_5.length c1_5) := (blk_cell BK207.out 5).trans rfl
          have hfz23_0 := blk_frozen BK207.out 0
          have hfz23_1 := blk_frozen BK207.out 1
          have hfz23_2 := blk_frozen BK207.out 2
          have hfz23_3 := blk_frozen BK207.out 3
          have hfz23_4 := blk_frozen BK207.out 4
          have hfz23_5 := blk_frozen BK207.out 5
          go_wp2
          go_meet
          case rel => exact ⟨_, (true), (by first | rfl | (simp; done) | (simp [*]; done)), H', ⟨by first | omega | exact Nat.le_refl _⟩, ⟨by (with_reducible repeat (first | refine blk_drewN ?_ _ | refine blk_drew ?_ | refine blk_alloc ?_ _)); exact BK206.out⟩, ⟨by (with_reducible repeat (first | refine blk_drewN ?_ _ | refine blk_drew ?_ | refine blk_alloc ?_ _)); exact BK207.out⟩, ⟨by repeat (first | (with_reducible first | exact HB.out | apply below_alloc | apply pw_below_drewN | apply below_drew1 | refine below_set ?_ GE206.out | refine below_set ?_ GE207.out) | exact HB.out)⟩⟩
      · rw [if_neg c7] at H
        have c7b0 : (a0_1 == a1_1) = false := beq_eq_false_iff_ne.mpr c7
        have c7b1 : (a0_1 != a1_1) = true := bne_iff_ne.mpr c7
        have H' := Aside0.mk H
        clear H
        have hnb24 := NB206_207.out
        have hnc24 := NB207_206.out
        have hcz25_0 : w5.cell? ⟨gb206, 0, none⟩ = some (.string a0_0) := (blk_cell BK206.out 0).trans rfl
        have hcz25_1 : w5.cell? ⟨gb206, 1, none⟩ = some (.int .i64 a0_1) := (blk_cell BK206.out 1).trans rfl
        have hcz25_2 : w5.cell? ⟨gb206, 2, none⟩ = some (.int .i64 a0_2) := (blk_cell BK206.out 2).trans rfl
        have hcz25_3 : w5.cell? ⟨gb206, 3, none⟩ = some (.int .i64 a0_3) := (blk_cell BK206.out 3).trans rfl
        have hcz25_4 : w5.cell? ⟨gb206, 4, none⟩ = some (.slice A0_4 l0_4.length c0_4) := (blk_cell BK206.out 4).trans rfl
        have hcz25_5 : w5.cell? ⟨gb206, 5, none⟩ = some (.slice A0_5 l0_5.length c0_5) := (blk_cell BK206.out 5).trans rfl
        have hfz25_0 := blk_frozen BK206.out 0
        have hfz25_1 := blk_frozen BK206.out 1
        have hfz25_2 := blk_frozen BK206.out 2
        have hfz25_3 := blk_frozen BK206.out 3
        have hfz25_4 := blk_frozen BK206.out 4
        have hfz25_5 := blk_frozen BK206.out 5
        have hcz26_0 : w5.cell? ⟨gb207, 0, none⟩ = some (.string a1_0) := (blk_cell BK207.out 0).trans rfl
        have hcz26_1 : w5.cell? ⟨gb207, 1, none⟩ = some (.int .i64 a1_1) := (blk_cell BK207.out 1).trans rfl
        have hcz26_2 : w5.cell? ⟨gb207, 2, none⟩ = some (.int .i64 a1_2) := (blk_cell BK207.out 2).trans rfl
        have hcz26_3 : w5.cell? ⟨gb207, 3, none⟩ = some (.int .i64 a1_3) := (blk_cell BK207.out 3).trans rfl
        have hcz26_4 : w5.cell? ⟨gb207, 4, none⟩ = some (.slice A1_4 l1_4.length c1_4) := (blk_cell BK207.out 4).trans rfl
        have hcz26_5 : w5.cell? ⟨gb207, 5, none⟩ = some (.slice A1_5 l1_5.length c1_5) := (blk_cell BK207.out 5).trans rfl
        have hfz26_0 := blk_frozen BK207.out 0
        have hfz26_1 := blk_frozen BK207.out 1
        have hfz26_2 := blk_frozen BK207.out 2
        have hfz26_3 := blk_frozen BK207.out 3
        have hfz26_4 := blk_frozen BK207.out 4
        have hfz26_5 := blk_frozen BK207.out 5
        go_wp2
        go_meet
        case rel => exact ⟨_, (true), (by first | rfl | (simp; done) | (simp [*]; done)), H', ⟨by first | omega | exact Nat.le_refl _⟩, ⟨by (with_reducible repeat (first | refine blk_drewN ?_ _ | refine blk_drew ?_ | refine blk_alloc ?_ _)); exact BK206.out⟩, ⟨by (with_reducible repeat (first | refine blk_drewN ?_ _ | refine blk_drew ?_ | refine blk_alloc ?_ _)); exact BK207.out⟩, ⟨by repeat (first | (with_reducible first | exact HB.out | apply below_alloc | apply pw_below_drewN | apply below_drew1 | refine below_set ?_ GE206.out | refine below_set ?_ GE207.out) | exact HB.out)⟩⟩
    · rw [if_neg c6] at H
      have c6b0 : (a0_0.toList == a1_0.toList) = false := beq_eq_false_iff_ne.mpr c6
      have c6b1 : (a0_0.toList != a1_0.toList) = true := bne_iff_ne.mpr c6
      (first | rw [c6b0] | (simp only [i64_w, i32_w]; rw [c6b0]) | skip)
      have H' := Aside0.mk H
      clear H
      have hnb27 := NB206_207.out
      have hnc27 := NB207_206.out
      have hcz28_0 : w5.cell? ⟨gb206, 0, none⟩ = some (.string a0_0) := (blk_cell BK206.out 0).trans rfl
      have hcz28_1 : w5.cell? ⟨gb206, 1, none⟩ = some (.int .i64 a0_1) := (blk_cell BK206.out 1).trans rfl
      have hcz28_2 : w5.cell? ⟨gb206, 2, none⟩ = some (.int .i64 a0_2) := (blk_cell BK206.out 2).trans rfl
      have hcz28_3 : w5.cell? ⟨gb206, 3, none⟩ = some (.int .i64 a0_3) := (blk_cell BK206.out 3).trans rfl
      have hcz28_4 : w5.cell? ⟨gb206, 4, none⟩ = some (.slice A0_4 l0_4.length c0_4) := (blk_cell BK206.out 4).trans rfl
      have hcz28_5 : w5.cell? ⟨gb206, 5, none⟩ = some (.slice A0_5 l0_5.length c0_5) := (blk_cell BK206.out 5).trans rfl
      have hfz28_0 := blk_frozen BK206.out 0
      have hfz28_1 := blk_frozen BK206.out 1
      have hfz28_2 := blk_frozen BK206.out 2
      have hfz28_3 := blk_frozen BK206.out 3
      have hfz28_4 := blk_frozen BK206.out 4
      have hfz28_5 := blk_frozen BK206.out 5
      have hcz29_0 : w5.cell? ⟨gb207, 0, none⟩ = some (.string a1_0) := (blk_cell BK207.out 0).trans rfl
      have hcz29_1 : w5.cell? ⟨gb207, 1, none⟩ = some (.int .i64 a1_1) := (blk_cell BK207.out 1).trans rfl
      have hcz29_2 : w5.cell? ⟨gb207, 2, none⟩ = some (.int .i64 a1_2) := (blk_cell BK207.out 2).trans rfl
      have hcz29_3 : w5.cell? ⟨gb207, 3, none⟩ = some (.int .i64 a1_3) := (blk_cell BK207.out 3).trans rfl
      have hcz29_4 : w5.cell? ⟨gb207, 4, none⟩ = some (.slice A1_4 l1_4.length c1_4) := (blk_cell BK207.out 4).trans rfl
      have hcz29_5 : w5.cell? ⟨gb207, 5, none⟩ = some (.slice A1_5 l1_5.length c1_5) := (blk_cell BK207.out 5).trans rfl
      have hfz29_0 := blk_frozen BK207.out 0
      have hfz29_1 := blk_frozen BK207.out 1
      have hfz29_2 := blk_frozen BK207.out 2
      have hfz29_3 := blk_frozen BK207.out 3
      have hfz29_4 := blk_frozen BK207.out 4
      have hfz29_5 := blk_frozen BK207.out 5
      go_wp2
      go_meet
      case rel => exact ⟨_, (true), (by first | rfl | (simp; done) | (simp [*]; done)), H', ⟨by first | omega | exact Nat.le_refl _⟩, ⟨by (with_reducible repeat (first | refine blk_drewN ?_ _ | refine blk_drew ?_ | refine blk_alloc ?_ _)); exact BK206.out⟩, ⟨by (with_reducible repeat (first | refine blk_drewN ?_ _ | refine blk_drew ?_ | refine blk_alloc ?_ _)); exact BK207.out⟩, ⟨by repeat (first | (with_reducible first | exact HB.out | apply below_alloc | apply pw_below_drewN | apply below_drew1 | refine below_set ?_ GE206.out | refine below_set ?_ GE207.out) | exact HB.out)⟩⟩
  case rest =>
    clear HC3
    try clear c1
    try clear c2
    try clear p2
    try clear c6
    try clear c6b0
    try clear c6b1
    try clear c7
    try clear c7b0
    try clear c7b1
    try clear c8
    try clear c8b0
    try clear c8b1
    try clear c9
    try clear c9b0
    try clear c9b1
    try clear c11
    try clear c12
    try clear c15
    try clear c18
    try clear c21
    try clear c22
    try clear c24
    try clear c27
    try clear hcz13_0
    try clear hcz13_1
    try clear hcz13_2
    try clear hcz13_3
    try clear hcz13_4
    try clear hcz13_5
    try clear hcz14_0
    try clear hcz14_1
    try clear hcz14_2
    try clear hcz14_3
    try clear hcz14_4
    try clear hcz14_5
    try clear hcz16_0
    try clear hcz16_1
    try clear hcz16_2
    try clear hcz16_3
    try clear hcz16_4
    try clear hcz16_5
    try clear hcz17_0
    try clear hcz17_1
    try clear hcz17_2
    try clear hcz17_3
    try clear hcz17_4
    try clear hcz17_5
    try clear hcz19_0
    try clear hcz19_1
    try clear hcz19_2
    try clear hcz19_3
    try clear hcz19_4
    try clear hcz19_5
    try clear hcz20_0
    try clear hcz20_1
    try clear hcz20_2
    try clear hcz20_3
    try clear hcz20_4
    try clear hcz20_5
    try clear hcz22_0
    try clear hcz22_1
    try clear hcz22_2
    try clear hcz22_3
    try clear hcz22_4
    try clear hcz22_5
    try clear hcz23_0
    try clear hcz23_1
    try clear hcz23_2
    try clear hcz23_3
    try clear hcz23_4
    try clear hcz23_5
    try clear hcz25_0
    try clear hcz25_1
    try clear hcz25_2
    try clear hcz25_3
    try clear hcz25_4
    try clear hcz25_5
    try clear hcz26_0
    try clear hcz26_1
    try clear hcz26_2
    try clear hcz26_3
    try clear hcz26_4
    try clear hcz26_5
    try clear hcz28_0
    try clear hcz28_1
    try clear hcz28_2
    try clear hcz28_3
    try clear hcz28_4
    try clear hcz28_5
    try clear hcz29_0
    try clear hcz29_1
    try clear hcz29_2
    try clear hcz29_3
    try clear hcz29_4
    try clear hcz29_5
    try clear hfz13_0
    try clear hfz13_1
    try clear hfz13_2
    try clear hfz13_3
    try clear hfz13_4
    try clear hfz13_5
    try clear hfz14_0
    try clear hfz14_1
    try clear hfz14_2
    try clear hfz14_3
    try clear hfz14_4
    try clear hfz14_5
    try clear hfz16_0
    try clear hfz16_1
    try clear hfz16_2
    try clear hfz16_3
    try clear hfz16_4
    try clear hfz16_5
    try clear hfz17_0
    try clear hfz17_1
    try clear hfz17_2
    try clear hfz17_3
    try clear hfz17_4
    try clear hfz17_5
    try clear hfz19_0
    try clear hfz19_1
    try clear hfz19_2
    try clear hfz19_3
    try clear hfz19_4
    try clear hfz19_5
    try clear hfz20_0
    try clear hfz20_1
    try clear hfz20_2
    try clear hfz20_3
    try clear hfz20_4
    try clear hfz20_5
    try clear hfz22_0
    try clear hfz22_1
    try clear hfz22_2
    try clear hfz22_3
    try clear hfz22_4
    try clear hfz22_5
    try clear hfz23_0
    try clear hfz23_1
    try clear hfz23_2
    try clear hfz23_3
    try clear hfz23_4
    try clear hfz23_5
    try clear hfz25_0
    try clear hfz25_1
    try clear hfz25_2
    try clear hfz25_3
    try clear hfz25_4
    try clear hfz25_5
    try clear hfz26_0
    try clear hfz26_1
    try clear hfz26_2
    try clear hfz26_3
    try clear hfz26_4
    try clear hfz26_5
    try clear hfz28_0
    try clear hfz28_1
    try clear hfz28_2
    try clear hfz28_3
    try clear hfz28_4
    try clear hfz28_5
    try clear hfz29_0
    try clear hfz29_1
    try clear hfz29_2
    try clear hfz29_3
    try clear hfz29_4
    try clear hfz29_5
    obtain ⟨kq, x48_2, rfl, HA, HJ2, BK206, BK207, HB⟩ := hcut
    cases kq with
    | zero => exact absurd HA.out (by simp [mailsackref1_SameBox.j0])
    | succ kj2 =>
      have H := HA.out
      clear HA
      simp only [mailsackref1_SameBox.j0] at H
      by_cases c30 : x48_2 = true
      · subst c30
        have H1 : (some false) = some r := by rw [if_pos rfl] at H; exact H
        clear H
        have H := H1
        clear H1
        obtain rfl := Option.some.inj H
        go_wp2
        go_ret
        exact ⟨by first | rfl | (simp [errW_none, errW_some] <;> rfl) | (simp [*, errW_none, errW_some] <;> rfl), by repeat (first | (with_reducible first | exact HB.out | apply below_alloc | apply pw_below_drewN | apply below_drew1 | refine below_set ?_ GE206.out | refine below_set ?_ GE207.out) | exact HB.out)⟩
      · replace c30 := Bool.eq_false_iff.mpr c30
        subst c30
        have H1 : (mailsackref1_SameBox.l0 kj2 (l0_5.length : Int) 0 a0_0 a0_1 a0_2 a0_3 l0_4 l0_5 a1_0 a1_1 a1_2 a1_3 l1_4 l1_5) = some r := by rw [if_neg (show ¬ (false = true) by decide)] at H; exact H
        clear H
        have H := H1
        clear H1
        have H' := Aside0.mk H
        clear H
        have hnb31 := NB206_207.out
        have hnc31 := NB207_206.out
        have hcz32_0 : wc.cell? ⟨gb206, 0, none⟩ = some (.string a0_0) := (blk_cell BK206.out 0).trans rfl
        have hcz32_1 : wc.cell? ⟨gb206, 1, none⟩ = some (.int .i64 a0_1) := (blk_cell BK206.out 1).trans rfl
        have hcz32_2 : wc.cell? ⟨gb206, 2, none⟩ = some (.int .i64 a0_2) := (blk_cell BK206.out 2).trans rfl
        have hcz32_3 : wc.cell? ⟨gb206, 3, none⟩ = some (.int .i64 a0_3) := (blk_cell BK206.out 3).trans rfl
        have hcz32_4 : wc.cell? ⟨gb206, 4, none⟩ = some (.slice A0_4 l0_4.length c0_4) := (blk_cell BK206.out 4).trans rfl
        have hcz32_5 : wc.cell? ⟨gb206, 5, none⟩ = some (.slice A0_5 l0_5.length c0_5) := (blk_cell BK206.out 5).trans rfl
        have hfz32_0 := blk_frozen BK206.out 0
        have hfz32_1 := blk_frozen BK206.out 1
        have hfz32_2 := blk_frozen BK206.out 2
        have hfz32_3 := blk_frozen BK206.out 3
        have hfz32_4 := blk_frozen BK206.out 4
        have hfz32_5 := blk_frozen BK206.out 5
        go_wp2
        go_loopg [52] kj2 (fun kq v52 w' => ∃ (x52_2 : Int), v52 = .int .i64 x52_2 ∧ Aside0 (mailsackref1_SameBox.l0 kq (l0_5.length : Int) x52_2 a0_0 a0_1 a0_2 a0_3 l0_4 l0_5 a1_0 a1_1 a1_2 a1_3 l1_4 l1_5 = some r) ∧ Aside0 (kq ≤ kj2) ∧ Aside0 (w'.heap[gb206]? = some (.cells #[.string a0_0, .int .i64 a0_1, .int .i64 a0_2, .int .i64 a0_3, (.slice A0_4 l0_4.length c0_4), (.slice A0_5 l0_5.length c0_5)] 26 (0, 0))) ∧ Aside0 (w'.heap[gb207]? = some (.cells #[.string a1_0, .int .i64 a1_1, .int .i64 a1_2, .int .i64 a1_3, (.slice A1_4 l1_4.length c1_4), (.slice A1_5 l1_5.length c1_5)] 26 (0, 0))) ∧ Aside0 (Below w.heap.size w w'))
        case atStart => exact ⟨(0), (by first | rfl | (simp; done) | (simp [*]; done)), H', ⟨Nat.le_refl _⟩, ⟨by (with_reducible repeat (first | refine blk_drewN ?_ _ | refine blk_drew ?_ | refine blk_alloc ?_ _)); exact BK206.out⟩, ⟨by (with_reducible repeat (first | refine blk_drewN ?_ _ | refine blk_drew ?_ | refine blk_alloc ?_ _)); exact BK207.out⟩, ⟨by repeat (first | (with_reducible first | exact HB.out | apply below_alloc | apply pw_below_drewN | apply below_drew1 | refine below_set ?_ GE206.out | refine below_set ?_ GE207.out) | exact HB.out)⟩⟩
        case round =>
          clear H'
          try clear c1
          try clear c2
          try clear p2
          try clear c3
          try clear c6
          try clear c6b0
          try clear c6b1
          try clear c7
          try clear c7b0
          try clear c7b1
          try clear c8
          try clear c8b0
          try clear c8b1
          try clear c9
          try clear c9b0
          try clear c9b1
          try clear c11
          try clear c12
          try clear c15
          try clear c18
          try clear c21
          try clear c22
          try clear c24
          try clear c27
          try clear c30
          try clear c31
          try clear hcz13_0
          try clear hcz13_1
          try clear hcz13_2
          try clear hcz13_3
          try clear hcz13_4
          try clear hcz13_5
          try clear hcz14_0
          try clear hcz14_1
          try clear hcz14_2
          try clear hcz14_3
          try clear hcz14_4
          try clear hcz14_5
          try clear hcz16_0
          try clear hcz16_1
          try clear hcz16_2
          try clear hcz16_3
          try clear hcz16_4
          try clear hcz16_5
          try clear hcz17_0
          try clear hcz17_1
          try clear hcz17_2
          try clear hcz17_3
          try clear hcz17_4
          try clear hcz17_5
          try clear hcz19_0
          try clear hcz19_1
          try clear hcz19_2
          try clear hcz19_3
          try clear hcz19_4
          try clear hcz19_5
          try clear hcz20_0
          try clear hcz20_1
          try clear hcz20_2
          try clear hcz20_3
          try clear hcz20_4
          try clear hcz20_5
          try clear hcz22_0
          try clear hcz22_1
          try clear hcz22_2
          try clear hcz22_3
          try clear hcz22_4
          try clear hcz22_5
          try clear hcz23_0
          try clear hcz23_1
          try clear hcz23_2
          try clear hcz23_3
          try clear hcz23_4
          try clear hcz23_5
          try clear hcz25_0
          try clear hcz25_1
          try clear hcz25_2
          try clear hcz25_3
          try clear hcz25_4
          try clear hcz25_5
          try clear hcz26_0
          try clear hcz26_1
          try clear hcz26_2
          try clear hcz26_3
          try clear hcz26_4
          try clear hcz26_5
          try clear hcz28_0
          try clear hcz28_1
          try clear hcz28_2
          try clear hcz28_3
          try clear hcz28_4
          try clear hcz28_5
          try clear hcz29_0
          try clear hcz29_1
          try clear hcz29_2
          try clear hcz29_3
          try clear hcz29_4
          try clear hcz29_5
          try clear hcz32_0
          try clear hcz32_1
          try clear hcz32_2
          try clear hcz32_3
          try clear hcz32_4
          try clear hcz32_5
          try clear hfz13_0
          try clear hfz13_1
          try clear hfz13_2
          try clear hfz13_3
          try clear hfz13_4
          try clear hfz13_5
          try clear hfz14_0
          try clear hfz14_1
          try clear hfz14_2
          try clear hfz14_3
          try clear hfz14_4
          try clear hfz14_5
          try clear hfz16_0
          try clear hfz16_1
          try clear hfz16_2
          try clear hfz16_3
          try clear hfz16_4
          try clear hfz16_5
          try clear hfz17_0
          try clear hfz17_1
          try clear hfz17_2
          try clear hfz17_3
          try clear hfz17_4
          try clear hfz17_5
          try clear hfz19_0
          try clear hfz19_1
          try clear hfz19_2
          try clear hfz19_3
          try clear hfz19_4
          try clear hfz19_5
          try clear hfz20_0
          try clear hfz20_1
          try clear hfz20_2
          try clear hfz20_3
          try clear hfz20_4
          try clear hfz20_5
          try clear hfz22_0
          try clear hfz22_1
          try clear hfz22_2
          try clear hfz22_3
          try clear hfz22_4
          try clear hfz22_5
          try clear hfz23_0
          try clear hfz23_1
          try clear hfz23_2
          try clear hfz23_3
          try clear hfz23_4
          try clear hfz23_5
          try clear hfz25_0
          try clear hfz25_1
          try clear hfz25_2
          try clear hfz25_3
          try clear hfz25_4
          try clear hfz25_5
          try clear hfz26_0
          try clear hfz26_1
          try clear hfz26_2
          try clear hfz26_3
          try clear hfz26_4
          try clear hfz26_5
          try clear hfz28_0
          try clear hfz28_1
          try clear hfz28_2
          try clear hfz28_3
          try clear hfz28_4
          try clear hfz28_5
          try clear hfz29_0
          try clear hfz29_1
          try clear hfz29_2
          try clear hfz29_3
          try clear hfz29_4
          try clear hfz29_5
          try clear hfz32_0
          try clear hfz32_1
          try clear hfz32_2
          try clear hfz32_3
          try clear hfz32_4
          try clear hfz32_5
          try clear p2
          obtain ⟨x52_2, rfl, HA, HK2, BK206, BK207, HB⟩ := hrel
          cases gk with
          | zero => exact absurd HA.out (by simp [mailsackref1_SameBox.l0])
          | succ k2 =>
            have H := HA.out
            clear HA
            simp only [mailsackref1_SameBox.l0] at H
            by_cases c33 : x52_2 < (l0_5.length : Int)
            · rw [if_pos c33] at H
              have c33b0 : decide (x52_2 < (l0_5.length : Int)) = true := decide_eq_true c33
              clear c33
              by_cases c34 : 0 ≤ x52_2
              · rw [if_pos c34] at H
                have c34b0 : decide (0 ≤ x52_2) = true := decide_eq_true c34
                clear c34
                by_cases c35 : x52_2 < (l0_5.length : Int)
                · rw [if_pos c35] at H
                  have c35b0 : decide (x52_2 < (l0_5.length : Int)) = true := decide_eq_true c35
                  clear c35
                  by_cases c36 : x52_2 < (l1_5.length : Int)
                  · rw [if_pos c36] at H
                    have c36b0 : decide (x52_2 < (l1_5.length : Int)) = true := decide_eq_true c36
                    clear c36
                    replace H := Option.bind_eq_some_iff.mp H
                    obtain ⟨t211, A370, H⟩ := H
                    replace H : (if t211 = true then (mailsackref1_SameBox.l0 k2 (l0_5.length : Int) (wrap64 (x52_2 + 1)) a0_0 a0_1 a0_2 a0_3 l0_4 l0_5 a1_0 a1_1 a1_2 a1_3 l1_4 l1_5) else (some false)) = some r := H
                    have A37 := Aside0.mk A370
                    clear A370
                    by_cases c38 : t211 = true
                    · subst c38
                      have H1 : (mailsackref1_SameBox.l0 k2 (l0_5.length : Int) (wrap64 (x52_2 + 1)) a0_0 a0_1 a0_2 a0_3 l0_4 l0_5 a1_0 a1_1 a1_2 a1_3 l1_4 l1_5) = some r := by rw [if_pos rfl] at H; exact H
                      clear H
                      have H := H1
                      clear H1
                      have H' := Aside0.mk H
                      clear H
                      try go_wp2
                      have n0_ := Aside0.mk (blk_drew BK206.out)
                      have n1_ := Aside0.mk (blk_drew BK207.out)
                      have n2_ := Aside0.mk (below_drew1 HB.out)
                      clear BK206
                      clear BK207
                      clear HB
                      have BK206 := n0_
                      have BK207 := n1_
                      have HB := n2_
                      clear n0_ n1_ n2_
                      have p209 : 0 ≤ (x52_2 : Int) := of_decide_eq_true (by first | (with_reducible assumption) | assumption)
                      have q209 : x52_2 < (l0_5.length : Int) := of_decide_eq_true (by first | (with_reducible assumption) | assumption)
                      obtain ⟨ad209, A209_5, c209_5, e209, hx209_0, hx209_1, hx209_2, hx209_3, hx209_4, hx209_5, hx209_6, hl209_5, hi209_5⟩ := at_T31 HR0_5.out x52_2 p209 q209
                      have hw209_6 := hx209_6
                      have hw209_5 := hx209_5
                      have hw209_4 := hx209_4
                      have hw209_3 := hx209_3
                      have hw209_2 := hx209_2
                      have hw209_1 := hx209_1
                      have hw209_0 := hx209_0
                      cases e209
                      replace hx209_0 := (HB.out.cell (World.block_lt_of_cell? w _ hx209_0)).trans hx209_0
                      replace hx209_1 := (HB.out.cell (World.block_lt_of_cell? w _ hx209_1)).trans hx209_1
                      replace hx209_2 := (HB.out.cell (World.block_lt_of_cell? w _ hx209_2)).trans hx209_2
                      replace hx209_3 := (HB.out.cell (World.block_lt_of_cell? w _ hx209_3)).trans hx209_3
                      replace hx209_4 := (HB.out.cell (World.block_lt_of_cell? w _ hx209_4)).trans hx209_4
                      replace hx209_5 := (HB.out.cell (World.block_lt_of_cell? w _ hx209_5)).trans hx209_5
                      replace hx209_6 := (HB.out.cell (World.block_lt_of_cell? w _ hx209_6)).trans hx209_6
                      have HR209_5 := Aside0.mk hi209_5
                      have HC209_5 := Aside0.mk hl209_5
                      clear hi209_5 hl209_5
                      replace p209 := eq_true p209
                      replace q209 := eq_true q209
                      have p210 : 0 ≤ (x52_2 : Int) := of_decide_eq_true (by first | (with_reducible assumption) | assumption)
                      have q210 : x52_2 < (l1_5.length : Int) := of_decide_eq_true (by first | (with_reducible assumption) | assumption)
                      obtain ⟨ad210, A210_5, c210_5, e210, hx210_0, hx210_1, hx210_2, hx210_3, hx210_4, hx210_5, hx210_6, hl210_5, hi210_5⟩ := at_T31 HR1_5.out x52_2 p210 q210
                      have hw210_6 := hx210_6
                      have hw210_5 := hx210_5
                      have hw210_4 := hx210_4
                      have hw210_3 := hx210_3
                      have hw210_2 := hx210_2
                      have hw210_1 := hx210_1
                      have hw210_0 := hx210_0
                      cases e210
                      replace hx210_0 := (HB.out.cell (World.block_lt_of_cell? w _ hx210_0)).trans hx210_0
                      replace hx210_1 := (HB.out.cell (World.block_lt_of_cell? w _ hx210_1)).trans hx210_1
                      replace hx210_2 := (HB.out.cell (World.block_lt_of_cell? w _ hx210_2)).trans hx210_2
                      replace hx210_3 := (HB.out.cell (World.block_lt_of_cell? w _ hx210_3)).trans hx210_3
                      replace hx210_4 := (HB.out.cell (World.block_lt_of_cell? w _ hx210_4)).trans hx210_4
                      replace hx210_5 := (HB.out.cell (World.block_lt_of_cell? w _ hx210_5)).trans hx210_5
                      replace hx210_6 := (HB.out.cell (World.block_lt_of_cell? w _ hx210_6)).trans hx210_6
                      have HR210_5 := Aside0.mk hi210_5
                      have HC210_5 := Aside0.mk hl210_5
                      clear hi210_5 hl210_5
                      replace p210 := eq_true p210
                      replace q210 := eq_true q210
                      refine start_ (n := 12) (S := fun w' => w'.cell? ⟨gb206, 0, none⟩ = some (.string a0_0) ∧ w'.cell? ⟨gb206, 1, none⟩ = some (.int .i64 a0_1) ∧ w'.cell? ⟨gb206, 2, none⟩ = some (.int .i64 a0_2) ∧ w'.cell? ⟨gb206, 3, none⟩ = some (.int .i64 a0_3) ∧ w'.cell? ⟨gb206, 4, none⟩ = some (.slice A0_4 l0_4.length c0_4) ∧ w'.cell? ⟨gb206, 5, none⟩ = some (.slice (some ad209) l0_5.length c0_5) ∧ w'.cell? ⟨gb207, 0, none⟩ = some (.string a1_0) ∧ w'.cell? ⟨gb207, 1, none⟩ = some (.int .i64 a1_1) ∧ w'.cell? ⟨gb207, 2, none⟩ = some (.int .i64 a1_2) ∧ w'.cell? ⟨gb207, 3, none⟩ = some (.int .i64 a1_3) ∧ w'.cell? ⟨gb207, 4, none⟩ = some (.slice A1_4 l1_4.length c1_4) ∧ w'.cell? ⟨gb207, 5, none⟩ = some (.slice (some ad210) l1_5.length c1_5) ∧ w'.cell? (ad209.add ((x52_2).toNat * 7)) = some (.int .i64 ((rd_T31 l0_5 x52_2).f0)) ∧ w'.cell? ⟨(ad209.add ((x52_2).toNat * 7)).block, (ad209.add ((x52_2).toNat * 7)).off + 1, none⟩ = some (.int .i64 ((rd_T31 l0_5 x52_2).f1)) ∧ w'.cell? ⟨(ad209.add ((x52_2).toNat * 7)).block, (ad209.add ((x52_2).toNat * 7)).off + 2, none⟩ = some (.int .i64 ((rd_T31 l0_5 x52_2).f2)) ∧ w'.cell? ⟨(ad209.add ((x52_2).toNat * 7)).block, (ad209.add ((x52_2).toNat * 7)).off + 3, none⟩ = some (.string ((rd_T31 l0_5 x52_2).f3)) ∧ w'.cell? ⟨(ad209.add ((x52_2).toNat * 7)).block, (ad209.add ((x52_2).toNat * 7)).off + 4, none⟩ = some (.int .i64 ((rd_T31 l0_5 x52_2).f4)) ∧ w'.cell? ⟨(ad209.add ((x52_2).toNat * 7)).block, (ad209.add ((x52_2).toNat * 7)).off + 5, none⟩ = some (.slice A209_5 ((rd_T31 l0_5 x52_2).f5).length c209_5) ∧ w'.cell? ⟨(ad209.add ((x52_2).toNat * 7)).block, (ad209.add ((x52_2).toNat * 7)).off + 6, none⟩ = some (.string ((rd_T31 l0_5 x52_2).f6)) ∧ w'.cell? (ad210.add ((x52_2).toNat * 7)) = some (.int .i64 ((rd_T31 l1_5 x52_2).f0)) ∧ w'.cell? ⟨(ad210.add ((x52_2).toNat * 7)).block, (ad210.add ((x52_2).toNat * 7)).off + 1, none⟩ = some (.int .i64 ((rd_T31 l1_5 x52_2).f1)) ∧ w'.cell? ⟨(ad210.add ((x52_2).toNat * 7)).block, (ad210.add ((x52_2).toNat * 7)).off + 2, none⟩ = some (.int .i64 ((rd_T31 l1_5 x52_2).f2)) ∧ w'.cell? ⟨(ad210.add ((x52_2).toNat * 7)).block, (ad210.add ((x52_2).toNat * 7)).off + 3, none⟩ = some (.string ((rd_T31 l1_5 x52_2).f3)) ∧ w'.cell? ⟨(ad210.add ((x52_2).toNat * 7)).block, (ad210.add ((x52_2).toNat * 7)).off + 4, none⟩ = some (.int .i64 ((rd_T31 l1_5 x52_2).f4)) ∧ w'.cell? ⟨(ad210.add ((x52_2).toNat * 7)).block, (ad210.add ((x52_2).toNat * 7)).off + 5, none⟩ = some (.slice A210_5 ((rd_T31 l1_5 x52_2).f5).length c210_5) ∧ w'.cell? ⟨(ad210.add ((x52_2).toNat * 7)).block, (ad210.add ((x52_2).toNat * 7)).off + 6, none⟩ = some (.string ((rd_T31 l1_5 x52_2).f6))) (ds := []) #[false, false, false, false, false, false, false, false, false, false, false, false] (by kernel_rfl) rfl rfl ⟨(blk_cell BK206.out 0).trans rfl, (blk_cell BK206.out 1).trans rfl, (blk_cell BK206.out 2).trans rfl, (blk_cell BK206.out 3).trans rfl, (blk_cell BK206.out 4).trans rfl, (blk_cell BK206.out 5).trans rfl, (blk_cell BK207.out 0).trans rfl, (blk_cell BK207.out 1).trans rfl, (blk_cell BK207.out 2).trans rfl, (blk_cell BK207.out 3).trans rfl, (blk_cell BK207.out 4).trans rfl, (blk_cell BK207.out 5).trans rfl, ((HB.out.cell (World.block_lt_of_cell? w _ hw209_0)).trans hw209_0), ((HB.out.cell (World.block_lt_of_cell? w _ hw209_1)).trans hw209_1), ((HB.out.cell (World.block_lt_of_cell? w _ hw209_2)).trans hw209_2), ((HB.out.cell (World.block_lt_of_cell? w _ hw209_3)).trans hw209_3), ((HB.out.cell (World.block_lt_of_cell? w _ hw209_4)).trans hw209_4), ((HB.out.cell (World.block_lt_of_cell? w _ hw209_5)).trans hw209_5), ((HB.out.cell (World.block_lt_of_cell? w _ hw209_6)).trans hw209_6), ((HB.out.cell (World.block_lt_of_cell? w _ hw210_0)).trans hw210_0), ((HB.out.cell (World.block_lt_of_cell? w _ hw210_1)).trans hw210_1), ((HB.out.cell (World.block_lt_of_cell? w _ hw210_2)).trans hw210_2), ((HB.out.cell (World.block_lt_of_cell? w _ hw210_3)).trans hw210_3), ((HB.out.cell (World.block_lt_of_cell? w _ hw210_4)).trans hw210_4), ((HB.out.cell (World.block_lt_of_cell? w _ hw210_5)).trans hw210_5), ((HB.out.cell (World.block_lt_of_cell? w _ hw210_6)).trans hw210_6)⟩ (fun hHeld => ?_); refine with_tabW mailsackref1_SameBox.tab6 mailsackref1_SameBox.bits6 (fun HT_ HW_ => ?_)
                      generalize wr.drew = w39 at BK206 BK207 HB HR209_5 HR210_5 hx209_0 hx209_1 hx209_2 hx209_3 hx209_4 hx209_5 hx209_6 hx210_0 hx210_1 hx210_2 hx210_3 hx210_4 hx210_5 hx210_6 hHeld ⊢
                      refine pure_ (i := 0) (N := some 55) (v := ?_) (a' := ?_) #[true, false, false, false, false, false, false, false, false, false, false, false] rfl rfl (any_of HT_.out (by kernel_rfl)) (fun _ _ _ h => h) (Or.inl ⟨by rfl, ?_⟩) ?_ ?_
                      rotate_left
                      · intro w'
                        go_simp
                        with_reducible rfl
                      rotate_left
                      · simp only [Act.put, List.setIfInBounds_toArray, List.set_cons_zero, List.set_cons_succ, i64_w, i32_w]
                        rfl
                      refine pure_ (i := 2) (N := some 57) (v := ?_) (a' := ?_) #[true, false, true, false, false, false, false, false, false, false, false, false] rfl rfl (any_of HT_.out (by kernel_rfl)) (fun _ _ _ h => h) (Or.inl ⟨by rfl, ?_⟩) ?_ ?_
                      rotate_left
                      · intro w'
                        go_simp
                        with_reducible rfl
                      rotate_left
                      · simp only [Act.put, List.setIfInBounds_toArray, List.set_cons_zero, List.set_cons_succ, i64_w, i32_w]
                        rfl
                      refine pure_ (i := 5) (N := some 60) (v := ?_) (a' := ?_) #[true, false, true, false, false, true, false, false, false, false, false, false] rfl rfl (any_of HT_.out (by kernel_rfl)) (fun _ _ _ h => h) (Or.inl ⟨by rfl, ?_⟩) ?_ ?_
                      rotate_left
                      · intro w'
                        go_simp
                        with_reducible rfl
                      rotate_left
                      · simp only [Act.put, List.setIfInBounds_toArray, List.set_cons_zero, List.set_cons_succ, i64_w, i32_w]
                        rfl
                      refine pure_ (i := 7) (N := some 62) (v := ?_) (a' := ?_) #[true, false, true, false, false, true, false, true, false, false, false, false] rfl rfl (any_of HT_.out (by kernel_rfl)) (fun _ _ _ h => h) (Or.inl ⟨by rfl, ?_⟩) ?_ ?_
                      rotate_left
                      · intro w'
                        go_simp
                        with_reducible rfl
                      rotate_left
                      · simp only [Act.put, List.setIfInBounds_toArray, List.set_cons_zero, List.set_cons_succ, i64_w, i32_w]
                        rfl
                      refine take_ (i := 1) (N := some 56) (v := ?_) (a' := ?_) #[true, true, true, false, false, true, false, true, false, false, false, false] rfl rfl (take_ofW HT_.out HW_.out (by kernel_rfl)) (fun _ _ _ h => h) (Or.inl ⟨by rfl, ?_⟩) hHeld ?_ ?_
                      rotate_left
                      · rintro w' ⟨s0, s1, s2, s3, s4, s5, s6, s7, s8, s9, s10, s11, s12, s13, s14, s15, s16, s17, s18, s19, s20, s21, s22, s23, s24, s25⟩
                        go_simp
                        with_reducible rfl
                      rotate_left
                      · simp only [Act.put, List.setIfInBounds_toArray, List.set_cons_zero, List.set_cons_succ, i64_w, i32_w]
                        rfl
                      refine pure_ (i := 3) (N := some 58) (v := ?_) (a' := ?_) #[true, true, true, true, false, true, false, true, false, false, false, false] rfl rfl (any_of HT_.out (by kernel_rfl)) (fun _ _ _ h => h) (Or.inl ⟨by rfl, ?_⟩) ?_ ?_
                      rotate_left
                      · intro w'
                        go_simp
                        with_reducible rfl
                      rotate_left
                      · simp only [Act.put, List.setIfInBounds_toArray, List.set_cons_zero, List.set_cons_succ, i64_w, i32_w]
                        rfl
                      refine take_ (i := 4) (N := some 59) (v := ?_) (a' := ?_) #[true, true, true, true, true, true, false, true, false, false, false, false] rfl rfl (take_ofW HT_.out HW_.out (by kernel_rfl)) (fun _ _ _ h => h) (Or.inl ⟨by rfl, ?_⟩) hHeld ?_ ?_
                      rotate_left
                      · rintro w' ⟨s0, s1, s2, s3, s4, s5, s6, s7, s8, s9, s10, s11, s12, s13, s14, s15, s16, s17, s18, s19, s20, s21, s22, s23, s24, s25⟩
                        go_simp
                        with_reducible rfl
                      rotate_left
                      · simp only [Act.put, List.setIfInBounds_toArray, List.set_cons_zero, List.set_cons_succ, i64_w, i32_w]
                        rfl
                      refine take_ (i := 6) (N := some 61) (v := ?_) (a' := ?_) #[true, true, true, true, true, true, true, true, false, false, false, false] rfl rfl (take_ofW HT_.out HW_.out (by kernel_rfl)) (fun _ _ _ h => h) (Or.inl ⟨by rfl, ?_⟩) hHeld ?_ ?_
                      rotate_left
                      · rintro w' ⟨s0, s1, s2, s3, s4, s5, s6, s7, s8, s9, s10, s11, s12, s13, s14, s15, s16, s17, s18, s19, s20, s21, s22, s23, s24, s25⟩
                        go_simp
                        with_reducible rfl
                      rotate_left
                      · simp only [Act.put, List.setIfInBounds_toArray, List.set_cons_zero, List.set_cons_succ, i64_w, i32_w]
                        rfl
                      refine pure_ (i := 8) (N := some 63) (v := ?_) (a' := ?_) #[true, true, true, true, true, true, true, true, true, false, false, false] rfl rfl (any_of HT_.out (by kernel_rfl)) (fun _ _ _ h => h) (Or.inl ⟨by rfl, ?_⟩) ?_ ?_
                      rotate_left
                      · intro w'
                        go_simp
                        with_reducible rfl
                      rotate_left
                      · simp only [Act.put, List.setIfInBounds_toArray, List.set_cons_zero, List.set_cons_succ, i64_w, i32_w]
                        rfl
                      refine take_ (i := 9) (N := some 64) (v := ?_) (a' := ?_) #[true, true, true, true, true, true, true, true, true, true, false, false] rfl rfl (take_ofW HT_.out HW_.out (by kernel_rfl)) (fun _ _ _ h => h) (Or.inl ⟨by rfl, ?_⟩) hHeld ?_ ?_
                      rotate_left
                      · rintro w' ⟨s0, s1, s2, s3, s4, s5, s6, s7, s8, s9, s10, s11, s12, s13, s14, s15, s16, s17, s18, s19, s20, s21, s22, s23, s24, s25⟩
                        go_simp
                        with_reducible rfl
                      rotate_left
                      · simp only [Act.put, List.setIfInBounds_toArray, List.set_cons_zero, List.set_cons_succ, i64_w, i32_w]
                        rfl
                      refine one_ (i := 10) (N := some 65) #[true, true, true, true, true, true, true, true, true, true, true, false] rfl rfl (one_of HT_.out (by kernel_rfl)) (by decide) (fun K hK => ?_)
                      refine goes_ Tryd.func45 (by kernel_rfl) rfl #[.agg #[.int .i64 ((rd_T31 l0_5 x52_2).f0), .int .i64 ((rd_T31 l0_5 x52_2).f1), .int .i64 ((rd_T31 l0_5 x52_2).f2), .string ((rd_T31 l0_5 x52_2).f3), .int .i64 ((rd_T31 l0_5 x52_2).f4), .slice A209_5 ((rd_T31 l0_5 x52_2).f5).length c209_5, .string ((rd_T31 l0_5 x52_2).f6)], .agg #[.int .i64 ((rd_T31 l1_5 x52_2).f0), .int .i64 ((rd_T31 l1_5 x52_2).f1), .int .i64 ((rd_T31 l1_5 x52_2).f2), .string ((rd_T31 l1_5 x52_2).f3), .int .i64 ((rd_T31 l1_5 x52_2).f4), .slice A210_5 ((rd_T31 l1_5 x52_2).f5).length c210_5, .string ((rd_T31 l1_5 x52_2).f6)]] (by rfl) rfl rfl (by (try simp only [List.map_toArray, List.map_cons, List.map_nil]); first | done | rfl | (simp only [List.length_drop, List.length_take]; rfl)) ?_
                      with_reducible refine (mailsackref1_SameMsg.calls k2 ((rd_T31 l0_5 x52_2).f0) ((rd_T31 l0_5 x52_2).f1) ((rd_T31 l0_5 x52_2).f2) ((rd_T31 l0_5 x52_2).f3) ((rd_T31 l0_5 x52_2).f4) _ _ ((rd_T31 l0_5 x52_2).f5) ((rd_T31 l0_5 x52_2).f6) ((rd_T31 l1_5 x52_2).f0) ((rd_T31 l1_5 x52_2).f1) ((rd_T31 l1_5 x52_2).f2) ((rd_T31 l1_5 x52_2).f3) ((rd_T31 l1_5 x52_2).f4) _ _ ((rd_T31 l1_5 x52_2).f5) ((rd_T31 l1_5 x52_2).f6) true _ ?side1 ?side2 ?side3 ?side4 A37.out).mono ?_
                      (case side1 => repeat (first | exact (Kd.C_below HR209_5.out HB.out) | (with_reducible refine Kd.C_alloc ?_ _) | (with_reducible refine Kd.C_drewN ?_ _) | (with_reducible refine Kd.C_drew ?_)))
                      (case side2 => exact HC209_5.out)
                      (case side3 => repeat (first | exact (Kd.C_below HR210_5.out HB.out) | (with_reducible refine Kd.C_alloc ?_ _) | (with_reducible refine Kd.C_drewN ?_ _) | (with_reducible refine Kd.C_drew ?_)))
                      (case side4 => exact HC210_5.out)
                      rintro e w40 ⟨rfl, hb⟩
                      refine ⟨_, rfl, ?_⟩
                      have n0_ := Aside0.mk (blk_below (g := gb206) (o := .cells #[.string a0_0, .int .i64 a0_1, .int .i64 a0_2, .int .i64 a0_3, .slice A0_4 l0_4.length c0_4, .slice (some ad209) l0_5.length c0_5] 26 (0, 0)) (by (with_reducible repeat (first | refine blk_drewN ?_ _ | refine blk_drew ?_ | refine blk_alloc ?_ _)); exact BK206.out) hb)
                      have n1_ := Aside0.mk (blk_below (g := gb207) (o := .cells #[.string a1_0, .int .i64 a1_1, .int .i64 a1_2, .int .i64 a1_3, .slice A1_4 l1_4.length c1_4, .slice (some ad210) l1_5.length c1_5] 26 (0, 0)) (by (with_reducible repeat (first | refine blk_drewN ?_ _ | refine blk_drew ?_ | refine blk_alloc ?_ _)); exact BK207.out) hb)
                      have n2_ := Aside0.mk (below_step (by repeat (first | (with_reducible first | exact HB.out | apply below_alloc | apply pw_below_drewN | apply below_drew1 | refine below_set ?_ GE206.out | refine below_set ?_ GE207.out) | exact HB.out)) hb)
                      clear BK206
                      clear BK207
                      clear HB
                      have BK206 := n0_
                      have BK207 := n1_
                      have HB := n2_
                      clear n0_ n1_ n2_
                      (try clear hb)
                      (try clear hb2)
                      (try clear hk)
                      (try clear hi)
                      refine hK.out _ _ ⟨(blk_cell BK206.out 0).trans rfl, (blk_cell BK206.out 1).trans rfl, (blk_cell BK206.out 2).trans rfl, (blk_cell BK206.out 3).trans rfl, (blk_cell BK206.out 4).trans rfl, (blk_cell BK206.out 5).trans rfl, (blk_cell BK207.out 0).trans rfl, (blk_cell BK207.out 1).trans rfl, (blk_cell BK207.out 2).trans rfl, (blk_cell BK207.out 3).trans rfl, (blk_cell BK207.out 4).trans rfl, (blk_cell BK207.out 5).trans rfl, ((HB.out.cell (World.block_lt_of_cell? w _ hw209_0)).trans hw209_0), ((HB.out.cell (World.block_lt_of_cell? w _ hw209_1)).trans hw209_1), ((HB.out.cell (World.block_lt_of_cell? w _ hw209_2)).trans hw209_2), ((HB.out.cell (World.block_lt_of_cell? w _ hw209_3)).trans hw209_3), ((HB.out.cell (World.block_lt_of_cell? w _ hw209_4)).trans hw209_4), ((HB.out.cell (World.block_lt_of_cell? w _ hw209_5)).trans hw209_5), ((HB.out.cell (World.block_lt_of_cell? w _ hw209_6)).trans hw209_6), ((HB.out.cell (World.block_lt_of_cell? w _ hw210_0)).trans hw210_0), ((HB.out.cell (World.block_lt_of_cell? w _ hw210_1)).trans hw210_1), ((HB.out.cell (World.block_lt_of_cell? w _ hw210_2)).trans hw210_2), ((HB.out.cell (World.block_lt_of_cell? w _ hw210_3)).trans hw210_3), ((HB.out.cell (World.block_lt_of_cell? w _ hw210_4)).trans hw210_4), ((HB.out.cell (World.block_lt_of_cell? w _ hw210_5)).trans hw210_5), ((HB.out.cell (World.block_lt_of_cell? w _ hw210_6)).trans hw210_6)⟩ (fun hHeld => ?_)
                      clear hK K
                      refine norm_ (a' := ?_) ?_ ?_
                      rotate_left
                      · show Act.put _ (some 65) _ = _
                        simp only [Act.put, List.setIfInBounds_toArray, List.set_cons_zero, List.set_cons_succ, i64_w, i32_w]
                        rfl
                      refine pure_ (i := 11) (N := some 66) (v := ?_) (a' := ?_) #[true, true, true, true, true, true, true, true, true, true, true, true] rfl rfl (any_of HT_.out (by kernel_rfl)) (fun _ _ _ h => h) (Or.inl ⟨by rfl, ?_⟩) ?_ ?_
                      rotate_left
                      · intro w'
                        go_simp
                        with_reducible rfl
                      rotate_left
                      · simp only [Act.put, List.setIfInBounds_toArray, List.set_cons_zero, List.set_cons_succ, i64_w, i32_w]
                        rfl
                      refine done_ (done_of HT_.out (by kernel_rfl)) ?_
                      try go_wp2
                      go_roundg k2
                      case measure => have := HJ2.out; have := HK2.out; omega
                      case rel => exact ⟨(wrap64 (x52_2 + 1)), (by first | rfl | (simp; done) | (simp [*]; done)), H', ⟨by have := HJ2.out; have := HK2.out; omega⟩, ⟨by (with_reducible repeat (first | refine blk_drewN ?_ _ | refine blk_drew ?_ | refine blk_alloc ?_ _)); exact BK206.out⟩, ⟨by (with_reducible repeat (first | refine blk_drewN ?_ _ | refine blk_drew ?_ | refine blk_alloc ?_ _)); exact BK207.out⟩, ⟨by repeat (first | (with_reducible first | exact HB.out | apply below_alloc | apply pw_below_drewN | apply below_drew1 | refine below_set ?_ GE206.out | refine below_set ?_ GE207.out) | exact HB.out)⟩⟩
                    · replace c38 := Bool.eq_false_iff.mpr c38
                      subst c38
                      have H1 : (some false) = some r := by rw [if_neg (show ¬ (false = true) by decide)] at H; exact H
                      clear H
                      have H := H1
                      clear H1
                      obtain rfl := Option.some.inj H
                      try go_wp2
                      have n0_ := Aside0.mk (blk_drew BK206.out)
                      have n1_ := Aside0.mk (blk_drew BK207.out)
                      have n2_ := Aside0.mk (below_drew1 HB.out)
                      clear BK206
                      clear BK207
                      clear HB
                      have BK206 := n0_
                      have BK207 := n1_
                      have HB := n2_
                      clear n0_ n1_ n2_
                      have p209 : 0 ≤ (x52_2 : Int) := of_decide_eq_true (by first | (with_reducible assumption) | assumption)
                      have q209 : x52_2 < (l0_5.length : Int) := of_decide_eq_true (by first | (with_reducible assumption) | assumption)
                      obtain ⟨ad209, A209_5, c209_5, e209, hx209_0, hx209_1, hx209_2, hx209_3, hx209_4, hx209_5, hx209_6, hl209_5, hi209_5⟩ := at_T31 HR0_5.out x52_2 p209 q209
                      have hw209_6 := hx209_6
                      have hw209_5 := hx209_5
                      have hw209_4 := hx209_4
                      have hw209_3 := hx209_3
                      have hw209_2 := hx209_2
                      have hw209_1 := hx209_1
                      have hw209_0 := hx209_0
                      cases e209
                      replace hx209_0 := (HB.out.cell (World.block_lt_of_cell? w _ hx209_0)).trans hx209_0
                      replace hx209_1 := (HB.out.cell (World.block_lt_of_cell? w _ hx209_1)).trans hx209_1
                      replace hx209_2 := (HB.out.cell (World.block_lt_of_cell? w _ hx209_2)).trans hx209_2
                      replace hx209_3 := (HB.out.cell (World.block_lt_of_cell? w _ hx209_3)).trans hx209_3
                      replace hx209_4 := (HB.out.cell (World.block_lt_of_cell? w _ hx209_4)).trans hx209_4
                      replace hx209_5 := (HB.out.cell (World.block_lt_of_cell? w _ hx209_5)).trans hx209_5
                      replace hx209_6 := (HB.out.cell (World.block_lt_of_cell? w _ hx209_6)).trans hx209_6
                      have HR209_5 := Aside0.mk hi209_5
                      have HC209_5 := Aside0.mk hl209_5
                      clear hi209_5 hl209_5
                      replace p209 := eq_true p209
                      replace q209 := eq_true q209
                      have p210 : 0 ≤ (x52_2 : Int) := of_decide_eq_true (by first | (with_reducible assumption) | assumption)
                      have q210 : x52_2 < (l1_5.length : Int) := of_decide_eq_true (by first | (with_reducible assumption) | assumption)
                      obtain ⟨ad210, A210_5, c210_5, e210, hx210_0, hx210_1, hx210_2, hx210_3, hx210_4, hx210_5, hx210_6, hl210_5, hi210_5⟩ := at_T31 HR1_5.out x52_2 p210 q210
                      have hw210_6 := hx210_6
                      have hw210_5 := hx210_5
                      have hw210_4 := hx210_4
                      have hw210_3 := hx210_3
                      have hw210_2 := hx210_2
                      have hw210_1 := hx210_1
                      have hw210_0 := hx210_0
                      cases e210
                      replace hx210_0 := (HB.out.cell (World.block_lt_of_cell? w _ hx210_0)).trans hx210_0
                      replace hx210_1 := (HB.out.cell (World.block_lt_of_cell? w _ hx210_1)).trans hx210_1
                      replace hx210_2 := (HB.out.cell (World.block_lt_of_cell? w _ hx210_2)).trans hx210_2
                      replace hx210_3 := (HB.out.cell (World.block_lt_of_cell? w _ hx210_3)).trans hx210_3
                      replace hx210_4 := (HB.out.cell (World.block_lt_of_cell? w _ hx210_4)).trans hx210_4
                      replace hx210_5 := (HB.out.cell (World.block_lt_of_cell? w _ hx210_5)).trans hx210_5
                      replace hx210_6 := (HB.out.cell (World.block_lt_of_cell? w _ hx210_6)).trans hx210_6
                      have HR210_5 := Aside0.mk hi210_5
                      have HC210_5 := Aside0.mk hl210_5
                      clear hi210_5 hl210_5
                      replace p210 := eq_true p210
                      replace q210 := eq_true q210
                      refine start_ (n := 12) (S := fun w' => w'.cell? ⟨gb206, 0, none⟩ = some (.string a0_0) ∧ w'.cell? ⟨gb206, 1, none⟩ = some (.int .i64 a0_1) ∧ w'.cell? ⟨gb206, 2, none⟩ = some (.int .i64 a0_2) ∧ w'.cell? ⟨gb206, 3, none⟩ = some (.int .i64 a0_3) ∧ w'.cell? ⟨gb206, 4, none⟩ = some (.slice A0_4 l0_4.length c0_4) ∧ w'.cell? ⟨gb206, 5, none⟩ = some (.slice (some ad209) l0_5.length c0_5) ∧ w'.cell? ⟨gb207, 0, none⟩ = some (.string a1_0) ∧ w'.cell? ⟨gb207, 1, none⟩ = some (.int .i64 a1_1) ∧ w'.cell? ⟨gb207, 2, none⟩ = some (.int .i64 a1_2) ∧ w'.cell? ⟨gb207, 3, none⟩ = some (.int .i64 a1_3) ∧ w'.cell? ⟨gb207, 4, none⟩ = some (.slice A1_4 l1_4.length c1_4) ∧ w'.cell? ⟨gb207, 5, none⟩ = some (.slice (some ad210) l1_5.length c1_5) ∧ w'.cell? (ad209.add ((x52_2).toNat * 7)) = some (.int .i64 ((rd_T31 l0_5 x52_2).f0)) ∧ w'.cell? ⟨(ad209.add ((x52_2).toNat * 7)).block, (ad209.add ((x52_2).toNat * 7)).off + 1, none⟩ = some (.int .i64 ((rd_T31 l0_5 x52_2).f1)) ∧ w'.cell? ⟨(ad209.add ((x52_2).toNat * 7)).block, (ad209.add ((x52_2).toNat * 7)).off + 2, none⟩ = some (.int .i64 ((rd_T31 l0_5 x52_2).f2)) ∧ w'.cell? ⟨(ad209.add ((x52_2).toNat * 7)).block, (ad209.add ((x52_2).toNat * 7)).off + 3, none⟩ = some (.string ((rd_T31 l0_5 x52_2).f3)) ∧ w'.cell? ⟨(ad209.add ((x52_2).toNat * 7)).block, (ad209.add ((x52_2).toNat * 7)).off + 4, none⟩ = some (.int .i64 ((rd_T31 l0_5 x52_2).f4)) ∧ w'.cell? ⟨(ad209.add ((x52_2).toNat * 7)).block, (ad209.add ((x52_2).toNat * 7)).off + 5, none⟩ = some (.slice A209_5 ((rd_T31 l0_5 x52_2).f5).length c209_5) ∧ w'.cell? ⟨(ad209.add ((x52_2).toNat * 7)).block, (ad209.add ((x52_2).toNat * 7)).off + 6, none⟩ = some (.string ((rd_T31 l0_5 x52_2).f6)) ∧ w'.cell? (ad210.add ((x52_2).toNat * 7)) = some (.int .i64 ((rd_T31 l1_5 x52_2).f0)) ∧ w'.cell? ⟨(ad210.add ((x52_2).toNat * 7)).block, (ad210.add ((x52_2).toNat * 7)).off + 1, none⟩ = some (.int .i64 ((rd_T31 l1_5 x52_2).f1)) ∧ w'.cell? ⟨(ad210.add ((x52_2).toNat * 7)).block, (ad210.add ((x52_2).toNat * 7)).off + 2, none⟩ = some (.int .i64 ((rd_T31 l1_5 x52_2).f2)) ∧ w'.cell? ⟨(ad210.add ((x52_2).toNat * 7)).block, (ad210.add ((x52_2).toNat * 7)).off + 3, none⟩ = some (.string ((rd_T31 l1_5 x52_2).f3)) ∧ w'.cell? ⟨(ad210.add ((x52_2).toNat * 7)).block, (ad210.add ((x52_2).toNat * 7)).off + 4, none⟩ = some (.int .i64 ((rd_T31 l1_5 x52_2).f4)) ∧ w'.cell? ⟨(ad210.add ((x52_2).toNat * 7)).block, (ad210.add ((x52_2).toNat * 7)).off + 5, none⟩ = some (.slice A210_5 ((rd_T31 l1_5 x52_2).f5).length c210_5) ∧ w'.cell? ⟨(ad210.add ((x52_2).toNat * 7)).block, (ad210.add ((x52_2).toNat * 7)).off + 6, none⟩ = some (.string ((rd_T31 l1_5 x52_2).f6))) (ds := []) #[false, false, false, false, false, false, false, false, false, false, false, false] (by kernel_rfl) rfl rfl ⟨(blk_cell BK206.out 0).trans rfl, (blk_cell BK206.out 1).trans rfl, (blk_cell BK206.out 2).trans rfl, (blk_cell BK206.out 3).trans rfl, (blk_cell BK206.out 4).trans rfl, (blk_cell BK206.out 5).trans rfl, (blk_cell BK207.out 0).trans rfl, (blk_cell BK207.out 1).trans rfl, (blk_cell BK207.out 2).trans rfl, (blk_cell BK207.out 3).trans rfl, (blk_cell BK207.out 4).trans rfl, (blk_cell BK207.out 5).trans rfl, ((HB.out.cell (World.block_lt_of_cell? w _ hw209_0)).trans hw209_0), ((HB.out.cell (World.block_lt_of_cell? w _ hw209_1)).trans hw209_1), ((HB.out.cell (World.block_lt_of_cell? w _ hw209_2)).trans hw209_2), ((HB.out.cell (World.block_lt_of_cell? w _ hw209_3)).trans hw209_3), ((HB.out.cell (World.block_lt_of_cell? w _ hw209_4)).trans hw209_4), ((HB.out.cell (World.block_lt_of_cell? w _ hw209_5)).trans hw209_5), ((HB.out.cell (World.block_lt_of_cell? w _ hw209_6)).trans hw209_6), ((HB.out.cell (World.block_lt_of_cell? w _ hw210_0)).trans hw210_0), ((HB.out.cell (World.block_lt_of_cell? w _ hw210_1)).trans hw210_1), ((HB.out.cell (World.block_lt_of_cell? w _ hw210_2)).trans hw210_2), ((HB.out.cell (World.block_lt_of_cell? w _ hw210_3)).trans hw210_3), ((HB.out.cell (World.block_lt_of_cell? w _ hw210_4)).trans hw210_4), ((HB.out.cell (World.block_lt_of_cell? w _ hw210_5)).trans hw210_5), ((HB.out.cell (World.block_lt_of_cell? w _ hw210_6)).trans hw210_6)⟩ (fun hHeld => ?_); refine with_tabW mailsackref1_SameBox.tab6 mailsackref1_SameBox.bits6 (fun HT_ HW_ => ?_)
                      generalize wr.drew = w41 at BK206 BK207 HB HR209_5 HR210_5 hx209_0 hx209_1 hx209_2 hx209_3 hx209_4 hx209_5 hx209_6 hx210_0 hx210_1 hx210_2 hx210_3 hx210_4 hx210_5 hx210_6 hHeld ⊢
                      refine pure_ (i := 0) (N := some 55) (v := ?_) (a' := ?_) #[true, false, false, false, false, false, false, false, false, false, false, false] rfl rfl (any_of HT_.out (by kernel_rfl)) (fun _ _ _ h => h) (Or.inl ⟨by rfl, ?_⟩) ?_ ?_
                      rotate_left
                      · intro w'
                        go_simp
                        with_reducible rfl
                      rotate_left
                      · simp only [Act.put, List.setIfInBounds_toArray, List.set_cons_zero, List.set_cons_succ, i64_w, i32_w]
                        rfl
                      refine pure_ (i := 2) (N := some 57) (v := ?_) (a' := ?_) #[true, false, true, false, false, false, false, false, false, false, false, false] rfl rfl (any_of HT_.out (by kernel_rfl)) (fun _ _ _ h => h) (Or.inl ⟨by rfl, ?_⟩) ?_ ?_
                      rotate_left
                      · intro w'
                        go_simp
                        with_reducible rfl
                      rotate_left
                      · simp only [Act.put, List.setIfInBounds_toArray, List.set_cons_zero, List.set_cons_succ, i64_w, i32_w]
                        rfl
                      refine pure_ (i := 5) (N := some 60) (v := ?_) (a' := ?_) #[true, false, true, false, false, true, false, false, false, false, false, false] rfl rfl (any_of HT_.out (by kernel_rfl)) (fun _ _ _ h => h) (Or.inl ⟨by rfl, ?_⟩) ?_ ?_
                      rotate_left
                      · intro w'
                        go_simp
                        with_reducible rfl
                      rotate_left
                      · simp only [Act.put, List.setIfInBounds_toArray, List.set_cons_zero, List.set_cons_succ, i64_w, i32_w]
                        rfl
                      refine pure_ (i := 7) (N := some 62) (v := ?_) (a' := ?_) #[true, false, true, false, false, true, false, true, false, false, false, false] rfl rfl (any_of HT_.out (by kernel_rfl)) (fun _ _ _ h => h) (Or.inl ⟨by rfl, ?_⟩) ?_ ?_
                      rotate_left
                      · intro w'
                        go_simp
                        with_reducible rfl
                      rotate_left
                      · simp only [Act.put, List.setIfInBounds_toArray, List.set_cons_zero, List.set_cons_succ, i64_w, i32_w]
                        rfl
                      refine take_ (i := 1) (N := some 56) (v := ?_) (a' := ?_) #[true, true, true, false, false, true, false, true, false, false, false, false] rfl rfl (take_ofW HT_.out HW_.out (by kernel_rfl)) (fun _ _ _ h => h) (Or.inl ⟨by rfl, ?_⟩) hHeld ?_ ?_
                      rotate_left
                      · rintro w' ⟨s0, s1, s2, s3, s4, s5, s6, s7, s8, s9, s10, s11, s12, s13, s14, s15, s16, s17, s18, s19, s20, s21, s22, s23, s24, s25⟩
                        go_simp
                        with_reducible rfl
                      rotate_left
                      · simp only [Act.put, List.setIfInBounds_toArray, List.set_cons_zero, List.set_cons_succ, i64_w, i32_w]
                        rfl
                      refine pure_ (i := 3) (N := some 58) (v := ?_) (a' := ?_) #[true, true, true, true, false, true, false, true, false, false, false, false] rfl rfl (any_of HT_.out (by kernel_rfl)) (fun _ _ _ h => h) (Or.inl ⟨by rfl, ?_⟩) ?_ ?_
                      rotate_left
                      · intro w'
                        go_simp
                        with_reducible rfl
                      rotate_left
                      · simp only [Act.put, List.setIfInBounds_toArray, List.set_cons_zero, List.set_cons_succ, i64_w, i32_w]
                        rfl
                      refine take_ (i := 4) (N := some 59) (v := ?_) (a' := ?_) #[true, true, true, true, true, true, false, true, false, false, false, false] rfl rfl (take_ofW HT_.out HW_.out (by kernel_rfl)) (fun _ _ _ h => h) (Or.inl ⟨by rfl, ?_⟩) hHeld ?_ ?_
                      rotate_left
                      · rintro w' ⟨s0, s1, s2, s3, s4, s5, s6, s7, s8, s9, s10, s11, s12, s13, s14, s15, s16, s17, s18, s19, s20, s21, s22, s23, s24, s25⟩
                        go_simp
                        with_reducible rfl
                      rotate_left
                      · simp only [Act.put, List.setIfInBounds_toArray, List.set_cons_zero, List.set_cons_succ, i64_w, i32_w]
                        rfl
                      refine take_ (i := 6) (N := some 61) (v := ?_) (a' := ?_) #[true, true, true, true, true, true, true, true, false, false, false, false] rfl rfl (take_ofW HT_.out HW_.out (by kernel_rfl)) (fun _ _ _ h => h) (Or.inl ⟨by rfl, ?_⟩) hHeld ?_ ?_
                      rotate_left
                      · rintro w' ⟨s0, s1, s2, s3, s4, s5, s6, s7, s8, s9, s10, s11, s12, s13, s14, s15, s16, s17, s18, s19, s20, s21, s22, s23, s24, s25⟩
                        go_simp
                        with_reducible rfl
                      rotate_left
                      · simp only [Act.put, List.setIfInBounds_toArray, List.set_cons_zero, List.set_cons_succ, i64_w, i32_w]
                        rfl
                      refine pure_ (i := 8) (N := some 63) (v := ?_) (a' := ?_) #[true, true, true, true, true, true, true, true, true, false, false, false] rfl rfl (any_of HT_.out (by kernel_rfl)) (fun _ _ _ h => h) (Or.inl ⟨by rfl, ?_⟩) ?_ ?_
                      rotate_left
                      · intro w'
                        go_simp
                        with_reducible rfl
                      rotate_left
                      · simp only [Act.put, List.setIfInBounds_toArray, List.set_cons_zero, List.set_cons_succ, i64_w, i32_w]
                        rfl
                      refine take_ (i := 9) (N := some 64) (v := ?_) (a' := ?_) #[true, true, true, true, true, true, true, true, true, true, false, false] rfl rfl (take_ofW HT_.out HW_.out (by kernel_rfl)) (fun _ _ _ h => h) (Or.inl ⟨by rfl, ?_⟩) hHeld ?_ ?_
                      rotate_left
                      · rintro w' ⟨s0, s1, s2, s3, s4, s5, s6, s7, s8, s9, s10, s11, s12, s13, s14, s15, s16, s17, s18, s19, s20, s21, s22, s23, s24, s25⟩
                        go_simp
                        with_reducible rfl
                      rotate_left
                      · simp only [Act.put, List.setIfInBounds_toArray, List.set_cons_zero, List.set_cons_succ, i64_w, i32_w]
                        rfl
                      refine one_ (i := 10) (N := some 65) #[true, true, true, true, true, true, true, true, true, true, true, false] rfl rfl (one_of HT_.out (by kernel_rfl)) (by decide) (fun K hK => ?_)
                      refine goes_ Tryd.func45 (by kernel_rfl) rfl #[.agg #[.int .i64 ((rd_T31 l0_5 x52_2).f0), .int .i64 ((rd_T31 l0_5 x52_2).f1), .int .i64 ((rd_T31 l0_5 x52_2).f2), .string ((rd_T31 l0_5 x52_2).f3), .int .i64 ((rd_T31 l0_5 x52_2).f4), .slice A209_5 ((rd_T31 l0_5 x52_2).f5).length c209_5, .string ((rd_T31 l0_5 x52_2).f6)], .agg #[.int .i64 ((rd_T31 l1_5 x52_2).f0), .int .i64 ((rd_T31 l1_5 x52_2).f1), .int .i64 ((rd_T31 l1_5 x52_2).f2), .string ((rd_T31 l1_5 x52_2).f3), .int .i64 ((rd_T31 l1_5 x52_2).f4), .slice A210_5 ((rd_T31 l1_5 x52_2).f5).length c210_5, .string ((rd_T31 l1_5 x52_2).f6)]] (by rfl) rfl rfl (by (try simp only [List.map_toArray, List.map_cons, List.map_nil]); first | done | rfl | (simp only [List.length_drop, List.length_take]; rfl)) ?_
                      with_reducible refine (mailsackref1_SameMsg.calls k2 ((rd_T31 l0_5 x52_2).f0) ((rd_T31 l0_5 x52_2).f1) ((rd_T31 l0_5 x52_2).f2) ((rd_T31 l0_5 x52_2).f3) ((rd_T31 l0_5 x52_2).f4) _ _ ((rd_T31 l0_5 x52_2).f5) ((rd_T31 l0_5 x52_2).f6) ((rd_T31 l1_5 x52_2).f0) ((rd_T31 l1_5 x52_2).f1) ((rd_T31 l1_5 x52_2).f2) ((rd_T31 l1_5 x52_2).f3) ((rd_T31 l1_5 x52_2).f4) _ _ ((rd_T31 l1_5 x52_2).f5) ((rd_T31 l1_5 x52_2).f6) false _ ?side1 ?side2 ?side3 ?side4 A37.out).mono ?_
                      (case side1 => repeat (first | exact (Kd.C_below HR209_5.out HB.out) | (with_reducible refine Kd.C_alloc ?_ _) | (with_reducible refine Kd.C_drewN ?_ _) | (with_reducible refine Kd.C_drew ?_)))
                      (case side2 => exact HC209_5.out)
                      (case side3 => repeat (first | exact (Kd.C_below HR210_5.out HB.out) | (with_reducible refine Kd.C_alloc ?_ _) | (with_reducible refine Kd.C_drewN ?_ _) | (with_reducible refine Kd.C_drew ?_)))
                      (case side4 => exact HC210_5.out)
                      rintro e w42 ⟨rfl, hb⟩
                      refine ⟨_, rfl, ?_⟩
                      have n0_ := Aside0.mk (blk_below (g := gb206) (o := .cells #[.string a0_0, .int .i64 a0_1, .int .i64 a0_2, .int .i64 a0_3, .slice A0_4 l0_4.length c0_4, .slice (some ad209) l0_5.length c0_5] 26 (0, 0)) (by (with_reducible repeat (first | refine blk_drewN ?_ _ | refine blk_drew ?_ | refine blk_alloc ?_ _)); exact BK206.out) hb)
                      have n1_ := Aside0.mk (blk_below (g := gb207) (o := .cells #[.string a1_0, .int .i64 a1_1, .int .i64 a1_2, .int .i64 a1_3, .slice A1_4 l1_4.length c1_4, .slice (some ad210) l1_5.length c1_5] 26 (0, 0)) (by (with_reducible repeat (first | refine blk_drewN ?_ _ | refine blk_drew ?_ | refine blk_alloc ?_ _)); exact BK207.out) hb)
                      have n2_ := Aside0.mk (below_step (by repeat (first | (with_reducible first | exact HB.out | apply below_alloc | apply pw_below_drewN | apply below_drew1 | refine below_set ?_ GE206.out | refine below_set ?_ GE207.out) | exact HB.out)) hb)
                      clear BK206
                      clear BK207
                      clear HB
                      have BK206 := n0_
                      have BK207 := n1_
                      have HB := n2_
                      clear n0_ n1_ n2_
                      (try clear hb)
                      (try clear hb2)
                      (try clear hk)
                      (try clear hi)
                      refine hK.out _ _ ⟨(blk_cell BK206.out 0).trans rfl, (blk_cell BK206.out 1).trans rfl, (blk_cell BK206.out 2).trans rfl, (blk_cell BK206.out 3).trans rfl, (blk_cell BK206.out 4).trans rfl, (blk_cell BK206.out 5).trans rfl, (blk_cell BK207.out 0).trans rfl, (blk_cell BK207.out 1).trans rfl, (blk_cell BK207.out 2).trans rfl, (blk_cell BK207.out 3).trans rfl, (blk_cell BK207.out 4).trans rfl, (blk_cell BK207.out 5).trans rfl, ((HB.out.cell (World.block_lt_of_cell? w _ hw209_0)).trans hw209_0), ((HB.out.cell (World.block_lt_of_cell? w _ hw209_1)).trans hw209_1), ((HB.out.cell (World.block_lt_of_cell? w _ hw209_2)).trans hw209_2), ((HB.out.cell (World.block_lt_of_cell? w _ hw209_3)).trans hw209_3), ((HB.out.cell (World.block_lt_of_cell? w _ hw209_4)).trans hw209_4), ((HB.out.cell (World.block_lt_of_cell? w _ hw209_5)).trans hw209_5), ((HB.out.cell (World.block_lt_of_cell? w _ hw209_6)).trans hw209_6), ((HB.out.cell (World.block_lt_of_cell? w _ hw210_0)).trans hw210_0), ((HB.out.cell (World.block_lt_of_cell? w _ hw210_1)).trans hw210_1), ((HB.out.cell (World.block_lt_of_cell? w _ hw210_2)).trans hw210_2), ((HB.out.cell (World.block_lt_of_cell? w _ hw210_3)).trans hw210_3), ((HB.out.cell (World.block_lt_of_cell? w _ hw210_4)).trans hw210_4), ((HB.out.cell (World.block_lt_of_cell? w _ hw210_5)).trans hw210_5), ((HB.out.cell (World.block_lt_of_cell? w _ hw210_6)).trans hw210_6)⟩ (fun hHeld => ?_)
                      clear hK K
                      refine norm_ (a' := ?_) ?_ ?_
                      rotate_left
                      · show Act.put _ (some 65) _ = _
                        simp only [Act.put, List.setIfInBounds_toArray, List.set_cons_zero, List.set_cons_succ, i64_w, i32_w]
                        rfl
                      refine pure_ (i := 11) (N := some 66) (v := ?_) (a' := ?_) #[true, true, true, true, true, true, true, true, true, true, true, true] rfl rfl (any_of HT_.out (by kernel_rfl)) (fun _ _ _ h => h) (Or.inl ⟨by rfl, ?_⟩) ?_ ?_
                      rotate_left
                      · intro w'
                        go_simp
                        with_reducible rfl
                      rotate_left
                      · simp only [Act.put, List.setIfInBounds_toArray, List.set_cons_zero, List.set_cons_succ, i64_w, i32_w]
                        rfl
                      refine done_ (done_of HT_.out (by kernel_rfl)) ?_
                      try go_wp2
                      go_ret
                      exact ⟨by first | rfl | (simp [errW_none, errW_some] <;> rfl) | (simp [*, errW_none, errW_some] <;> rfl), by repeat (first | (with_reducible first | exact HB.out | apply below_alloc | apply pw_below_drewN | apply below_drew1 | refine below_set ?_ GE206.out | refine below_set ?_ GE207.out) | exact HB.out)⟩
                  · rw [if_neg c36] at H
                    exact absurd H (by simp)
                · rw [if_neg c35] at H
                  exact absurd H (by simp)
              · rw [if_neg c34] at H
                exact absurd H (by simp)
            · rw [if_neg c33] at H
              have c33b0 : decide (x52_2 < (l0_5.length : Int)) = false := decide_eq_false c33
              clear c33
              obtain rfl := Option.some.inj H
              go_wp2
              go_ret
              exact ⟨by first | rfl | (simp [errW_none, errW_some] <;> rfl) | (simp [*, errW_none, errW_some] <;> rfl), by repeat (first | (with_reducible first | exact HB.out | apply below_alloc | apply pw_below_drewN | apply below_drew1 | refine below_set ?_ GE206.out | refine below_set ?_ GE207.out) | exact HB.out)⟩
end Go.Proofs.YtjlabkibpknkpaaDoor.FmM
