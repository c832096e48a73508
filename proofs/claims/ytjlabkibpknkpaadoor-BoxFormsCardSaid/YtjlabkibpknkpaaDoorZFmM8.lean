-- Printed by prune.py: the used part of a text.
import Derived.Test.YtjlabkibpknkpaaDoorZFmM0
import Derived.Test.YtjlabkibpknkpaaDoorZFmM6
import Derived.Test.YtjlabkibpknkpaaDoorZFmM7
namespace Go.Proofs.YtjlabkibpknkpaaDoor.FmM
open Go.RowKit Go.Proofs.YtjlabkibpknkpaaDoorW.PrintWords Go.Proofs.YtjlabkibpknkpaaDoorW.PrintLast Go.Proofs.YtjlabkibpknkpaaDoorW.PrintMore
attribute [local go_sem] max2_int min2_int max_two min_two max_three min_three max_four min_four
open Go.Proofs.YtjlabkibpknkpaaDoor.FmG
set_option linter.unusedVariables false
set_option linter.unusedSimpArgs false
mutual
def box_May.j0 : Nat → Bool → ByteArray → Int → Int → Int → List ByteArray → List (S31) → Option (Int)
  | 0, _, _, _, _, _, _, _ => none
  | k + 1, x8, x188000, x188001, x188002, x188003, x188004, x188005 => if x8 = true then (some 1) else (if (x188004.length : Int) > 64 then (some 4) else (if (x188005.length : Int) > 60 then (some 4) else (box_May.l0 k x188004 (x188004.length : Int) 0 x188000 x188001 x188002 x188003 x188004 x188005)))
def box_May.l0 : Nat → List ByteArray → Int → Int → ByteArray → Int → Int → Int → List ByteArray → List (S31) → Option (Int)
  | 0, _, _, _, _, _, _, _, _, _ => none
  | k + 1, x49, x50, x51, x188000, x188001, x188002, x188003, x188004, x188005 => if x51 < x50 then (if 0 ≤ x51 then (if x51 < (x49.length : Int) then ((flag_May.f k (rdOf ByteArray.empty x49 x51)).bind fun t193 => (if t193 = true then (if x51 ≤ (x188004.length : Int) then ((slices_Contains_string_string.f k (x188004.take (x51 : Int).toNat) (rdOf ByteArray.empty x49 x51)).bind fun t195 => (if t195 = true then (some 1) else (box_May.l0 k x49 x50 (wrap64 (x51 + 1)) x188000 x188001 x188002 x188003 x188004 x188005))) else (none)) else (some 1))) else (none)) else (none)) else (box_May.l1 k 0 x188005 (x188005.length : Int) 0 x188000 x188001 x188002 x188003 x188004 x188005)
def box_May.l1 : Nat → Int → List (S31) → Int → Int → ByteArray → Int → Int → Int → List ByteArray → List (S31) → Option (Int)
  | 0, _, _, _, _, _, _, _, _, _, _ => none
  | k + 1, x5, x69, x70, x71, x188000, x188001, x188002, x188003, x188004, x188005 => if x71 < x70 then (if 0 ≤ x71 then (if x71 < (x69.length : Int) then ((box_MayMsg.f k x188000 x188001 x188002 x188003 x188004 x188005 ((rd_T31 x69 x71).f0) ((rd_T31 x69 x71).f1) ((rd_T31 x69 x71).f2) ((rd_T31 x69 x71).f3) ((rd_T31 x69 x71).f4) ((rd_T31 x69 x71).f5) ((rd_T31 x69 x71).f6)).bind fun t198 => (if t198 = 0 then (if ((rd_T31 x69 x71).f0) ≤ x5 then (some 1) else (if ((rd_T31 x69 x71).f0) ≥ x188002 then (some 1) else (if ((rd_T31 x69 x71).f1) > x188003 then (some 1) else (box_May.l1 k ((rd_T31 x69 x71).f0) x69 x70 (wrap64 (x71 + 1)) x188000 x188001 x188002 x188003 x188004 x188005)))) else (some 1))) else (none)) else (none)) else (some 0)
end
def box_May.f (k : Nat) (a0_0 : ByteArray) (a0_1 : Int) (a0_2 : Int) (a0_3 : Int) (l0_4 : List ByteArray) (l0_5 : List (S31)) : Option (Int) := (flag_Atom.f k a0_0).bind fun t188 => (if t188 = true then (if (a0_0.size : Int) > 12 then (box_May.j0 k true a0_0 a0_1 a0_2 a0_3 l0_4 l0_5) else ((box_within.f a0_1 1 1000000).bind fun t189 => (if t189 = true then ((box_within.f a0_3 1 1000000).bind fun t190 => (if t190 = true then ((box_within.f a0_2 1 1000000).bind fun t191 => (box_May.j0 k (!t191) a0_0 a0_1 a0_2 a0_3 l0_4 l0_5)) else (box_May.j0 k true a0_0 a0_1 a0_2 a0_3 l0_4 l0_5))) else (box_May.j0 k true a0_0 a0_1 a0_2 a0_3 l0_4 l0_5)))) else (box_May.j0 k true a0_0 a0_1 a0_2 a0_3 l0_4 l0_5))
set_option maxHeartbeats 8000000 in
set_option maxRecDepth 100000 in
theorem box_May.calls (k : Nat) (a0_0 : ByteArray) (a0_1 : Int) (a0_2 : Int) (a0_3 : Int) (A0_4 : Option Addr) (c0_4 : Nat) (l0_4 : List ByteArray) (A0_5 : Option Addr) (c0_5 : Nat) (l0_5 : List (S31)) (r : Int) (w : World) (hr0_4 : Kd.C Kd.string w A0_4 l0_4.length l0_4) (hc0_4 : l0_4.length ≤ c0_4) (hr0_5 : Kd.C k31 w A0_5 l0_5.length l0_5) (hc0_5 : l0_5.length ≤ c0_5) (h : box_May.f k a0_0 a0_1 a0_2 a0_3 l0_4 l0_5 = some r) :
    Calls Tryd.prog 11 #[.agg #[.string a0_0, .int .i64 a0_1, .int .i64 a0_2, .int .i64 a0_3, .slice A0_4 l0_4.length c0_4, .slice A0_5 l0_5.length c0_5]] w fun e w' => e = .returned (.int .i64 r) ∧ Below w.heap.size w w' := by
  have hu26 := Tryd.underlying26
  have hu31 := Tryd.underlying31
  have HR0_4 := Aside0.mk hr0_4
  have HC0_4 := Aside0.mk hc0_4
  clear hr0_4 hc0_4
  have HR0_5 := Aside0.mk hr0_5
  have HC0_5 := Aside0.mk hc0_5
  clear hr0_5 hc0_5
  have HB := Aside0.mk (Below.refl w.heap.size w)
  have H : ((flag_Atom.f k a0_0).bind fun t188 => (if t188 = true then (if (a0_0.size : Int) > 12 then (box_May.j0 k true a0_0 a0_1 a0_2 a0_3 l0_4 l0_5) else ((box_within.f a0_1 1 1000000).bind fun t189 => (if t189 = true then ((box_within.f a0_3 1 1000000).bind fun t190 => (if t190 = true then ((box_within.f a0_2 1 1000000).bind fun t191 => (box_May.j0 k (!t191) a0_0 a0_1 a0_2 a0_3 l0_4 l0_5)) else (box_May.j0 k true a0_0 a0_1 a0_2 a0_3 l0_4 l0_5))) else (box_May.j0 k true a0_0 a0_1 a0_2 a0_3 l0_4 l0_5)))) else (box_May.j0 k true a0_0 a0_1 a0_2 a0_3 l0_4 l0_5))) = some r := h
  clear h
  have HC2 := Aside0.mk H
  clear H
  go_enter Tryd.func11, Tryd.ntmps11
  go_upto_region 1 with (first | ((with_reducible refine gate_dst (N := 1) rfl ?_); (try (refine gate_guard (by rfl) ?_; dsimp only)); refine box_event ?hg (N := 1) ?hd (cs := #[.string a0_0, .int .i64 a0_1, .int .i64 a0_2, .int .i64 a0_3, .slice A0_4 l0_4.length c0_4, .slice A0_5 l0_5.length c0_5]) (t := 26) ?hr ?_; (case hd => rfl); (case hg => rfl); (case hr => first | (go_simp; done) | (go_simp; rfl)); intro gb187 hg w3 hbox hb; have n0_ := Aside0.mk (below_step (by repeat (first | (with_reducible first | exact HB.out | apply below_alloc | apply pw_below_drewN | apply below_drew1) | exact HB.out)) hb); have n1_ := Aside0.mk (hbox); have n2_ := Aside0.mk ((by rw [hg]; exact (below_size (by repeat (first | (with_reducible first | exact HB.out | apply below_alloc | apply pw_below_drewN | apply below_drew1) | exact HB.out))) : w.heap.size ≤ gb187)); have n3_ := Aside0.mk ((by rw [hg]; exact (below_size (by repeat (first | (with_reducible first | exact HB.out | apply below_alloc | apply pw_below_drewN | apply below_drew1) | exact HB.out))) : w.heap.size ≤ gb187)); clear HB; have HB := n0_; have BK187 := n1_; have GW187 := n2_; have GE187 := n3_; clear n0_ n1_ n2_ n3_; clear hb hbox hg))
  (try simp only [Act.put, List.setIfInBounds_toArray, List.set_cons_zero, List.set_cons_succ])
  go_cut [8] (fun v8 wc => ∃ (kq : Nat) (x8_1 : Bool), v8 = .bool x8_1 ∧ Aside0 (box_May.j0 kq x8_1 a0_0 a0_1 a0_2 a0_3 l0_4 l0_5 = some r) ∧ Aside0 (kq ≤ k) ∧ Aside0 (wc.heap[gb187]? = some (.cells #[.string a0_0, .int .i64 a0_1, .int .i64 a0_2, .int .i64 a0_3, (.slice A0_4 l0_4.length c0_4), (.slice A0_5 l0_5.length c0_5)] 26 (0, 0))) ∧ Aside0 (Below w.heap.size w wc))
  case first =>
    have H := HC2.out
    clear HC2
    replace H := Option.bind_eq_some_iff.mp H
    obtain ⟨t188, A40, H⟩ := H
    replace H : (if t188 = true then (if (a0_0.size : Int) > 12 then (box_May.j0 k true a0_0 a0_1 a0_2 a0_3 l0_4 l0_5) else ((box_within.f a0_1 1 1000000).bind fun t189 => (if t189 = true then ((box_within.f a0_3 1 1000000).bind fun t190 => (if t190 = true then ((box_within.f a0_2 1 1000000).bind fun t191 => (box_May.j0 k (!t191) a0_0 a0_1 a0_2 a0_3 l0_4 l0_5)) else (box_May.j0 k true a0_0 a0_1 a0_2 a0_3 l0_4 l0_5))) else (box_May.j0 k true a0_0 a0_1 a0_2 a0_3 l0_4 l0_5)))) else (box_May.j0 k true a0_0 a0_1 a0_2 a0_3 l0_4 l0_5)) = some r := H
    have A4 := Aside0.mk A40
    clear A40
    by_cases c5 : t188 = true
    · subst c5
      have H1 : (if (a0_0.size : Int) > 12 then (box_May.j0 k true a0_0 a0_1 a0_2 a0_3 l0_4 l0_5) else ((box_within.f a0_1 1 1000000).bind fun t189 => (if t189 = true then ((box_within.f a0_3 1 1000000).bind fun t190 => (if t190 = true then ((box_within.f a0_2 1 1000000).bind fun t191 => (box_May.j0 k (!t191) a0_0 a0_1 a0_2 a0_3 l0_4 l0_5)) else (box_May.j0 k true a0_0 a0_1 a0_2 a0_3 l0_4 l0_5))) else (box_May.j0 k true a0_0 a0_1 a0_2 a0_3 l0_4 l0_5)))) = some r := by rw [if_pos rfl] at H; exact H
      clear H
      have H := H1
      clear H1
      by_cases c6 : (a0_0.size : Int) > 12
      · rw [if_pos c6] at H
        have c6b0 : decide (12 < (a0_0.size : Int)) = true := decide_eq_true c6
        have c6b1 : decide (12 < a0_0.size) = true := decide_eq_true (by omega)
        clear c6
        (first | rw [c6b0] | (simp only [i64_w, i32_w]; rw [c6b0]) | skip)
        have H' := Aside0.mk H
        clear H
        have hcz7_0 : w3.cell? ⟨gb187, 0, none⟩ = some (.string a0_0) := (blk_cell BK187.out 0).trans rfl
        have hcz7_1 : w3.cell? ⟨gb187, 1, none⟩ = some (.int .i64 a0_1) := (blk_cell BK187.out 1).trans rfl
        have hcz7_2 : w3.cell? ⟨gb187, 2, none⟩ = some (.int .i64 a0_2) := (blk_cell BK187.out 2).trans rfl
        have hcz7_3 : w3.cell? ⟨gb187, 3, none⟩ = some (.int .i64 a0_3) := (blk_cell BK187.out 3).trans rfl
        have hcz7_4 : w3.cell? ⟨gb187, 4, none⟩ = some (.slice A0_4 l0_4.length c0_4) := (blk_cell BK187.out 4).trans rfl
        have hcz7_5 : w3.cell? ⟨gb187, 5, none⟩ = some (.slice A0_5 l0_5.length c0_5) := (blk_cell BK187.out 5).trans rfl
        have hfz7_0 := blk_frozen BK187.out 0
        have hfz7_1 := blk_frozen BK187.out 1
        have hfz7_2 := blk_frozen BK187.out 2
        have hfz7_3 := blk_frozen BK187.out 3
        have hfz7_4 := blk_frozen BK187.out 4
        have hfz7_5 := blk_frozen BK187.out 5
        go_wp2_with (first | ((with_reducible refine gate_callee (f := 34) rfl ?_); refine goesL_ (some 11) rfl rfl Tryd.func34 (by kernel_rfl) rfl #[.string a0_0] rfl (by (try simp only [List.map_toArray, List.map_cons, List.map_nil]); first | done | rfl | (simp only [List.length_drop, List.length_take]; rfl)) ?_; (with_reducible refine (flag_Atom.calls k a0_0 true _ A4.out).mono ?_); rintro e w' ⟨rfl, ⟨nd, rfl⟩⟩; refine ⟨_, rfl, ?_⟩))
        go_meet
        case rel => exact ⟨_, (true), (by first | rfl | (simp; done) | (simp [*]; done)), H', ⟨by first | omega | exact Nat.le_refl _⟩, ⟨by (with_reducible repeat (first | refine blk_drewN ?_ _ | refine blk_drew ?_ | refine blk_alloc ?_ _)); exact BK187.out⟩, ⟨by repeat (first | (with_reducible first | exact HB.out | apply below_alloc | apply pw_below_drewN | apply below_drew1 | refine below_set ?_ GE187.out) | exact HB.out)⟩⟩
      · rw [if_neg c6] at H
        have c6b0 : decide (12 < (a0_0.size : Int)) = false := decide_eq_false c6
        have c6b1 : decide (12 < a0_0.size) = false := decide_eq_false (by omega)
        clear c6
        (first | rw [c6b0] | (simp only [i64_w, i32_w]; rw [c6b0]) | skip)
        replace H := Option.bind_eq_some_iff.mp H
        obtain ⟨t189, A80, H⟩ := H
        replace H : (if t189 = true then ((box_within.f a0_3 1 1000000).bind fun t190 => (if t190 = true then ((box_within.f a0_2 1 1000000).bind fun t191 => (box_May.j0 k (!t191) a0_0 a0_1 a0_2 a0_3 l0_4 l0_5)) else (box_May.j0 k true a0_0 a0_1 a0_2 a0_3 l0_4 l0_5))) else (box_May.j0 k true a0_0 a0_1 a0_2 a0_3 l0_4 l0_5)) = some r := H
        have A8 := Aside0.mk A80
        clear A80
        by_cases c9 : t189 = true
        · subst c9
          have H1 : ((box_within.f a0_3 1 1000000).bind fun t190 => (if t190 = true then ((box_within.f a0_2 1 1000000).bind fun t191 => (box_May.j0 k (!t191) a0_0 a0_1 a0_2 a0_3 l0_4 l0_5)) else (box_May.j0 k true a0_0 a0_1 a0_2 a0_3 l0_4 l0_5))) = some r := by rw [if_pos rfl] at H; exact H
          clear H
          have H := H1
          clear H1
          replace H := Option.bind_eq_some_iff.mp H
          obtain ⟨t190, A100, H⟩ := H
          replace H : (if t190 = true then ((box_within.f a0_2 1 1000000).bind fun t191 => (box_May.j0 k (!t191) a0_0 a0_1 a0_2 a0_3 l0_4 l0_5)) else (box_May.j0 k true a0_0 a0_1 a0_2 a0_3 l0_4 l0_5)) = some r := H
          have A10 := Aside0.mk A100
          clear A100
          by_cases c11 : t190 = true
          · subst c11
            have H1 : ((box_within.f a0_2 1 1000000).bind fun t191 => (box_May.j0 k (!t191) a0_0 a0_1 a0_2 a0_3 l0_4 l0_5)) = some r := by rw [if_pos rfl] at H; exact H
            clear H
            have H := H1
            clear H1
            replace H := Option.bind_eq_some_iff.mp H
            obtain ⟨t191, A120, H⟩ := H
            replace H : (box_May.j0 k (!t191) a0_0 a0_1 a0_2 a0_3 l0_4 l0_5) = some r := H
            have A12 := Aside0.mk A120
            clear A120
            have H' := Aside0.mk H
            clear H
            have hcz13_0 : w3.cell? ⟨gb187, 0, none⟩ = some (.string a0_0) := (blk_cell BK187.out 0).trans rfl
            have hcz13_1 : w3.cell? ⟨gb187, 1, none⟩ = some (.int .i64 a0_1) := (blk_cell BK187.out 1).trans rfl
            have hcz13_2 : w3.cell? ⟨gb187, 2, none⟩ = some (.int .i64 a0_2) := (blk_cell BK187.out 2).trans rfl
            have hcz13_3 : w3.cell? ⟨gb187, 3, none⟩ = some (.int .i64 a0_3) := (blk_cell BK187.out 3).trans rfl
            have hcz13_4 : w3.cell? ⟨gb187, 4, none⟩ = some (.slice A0_4 l0_4.length c0_4) := (blk_cell BK187.out 4).trans rfl
            have hcz13_5 : w3.cell? ⟨gb187, 5, none⟩ = some (.slice A0_5 l0_5.length c0_5) := (blk_cell BK187.out 5).trans rfl
            have hfz13_0 := blk_frozen BK187.out 0
            have hfz13_1 := blk_frozen BK187.out 1
            have hfz13_2 := blk_frozen BK187.out 2
            have hfz13_3 := blk_frozen BK187.out 3
            have hfz13_4 := blk_frozen BK187.out 4
            have hfz13_5 := blk_frozen BK187.out 5
            go_wp2_with (first | ((with_reducible refine gate_callee (f := 34) rfl ?_); refine goesL_ (some 11) rfl rfl Tryd.func34 (by kernel_rfl) rfl #[.string a0_0] rfl (by (try simp only [List.map_toArray, List.map_cons, List.map_nil]); first | done | rfl | (simp only [List.length_drop, List.length_take]; rfl)) ?_; (with_reducible refine (flag_Atom.calls k a0_0 true _ A4.out).mono ?_); rintro e w' ⟨rfl, ⟨nd, rfl⟩⟩; refine ⟨_, rfl, ?_⟩) | (go_at_call 35; (with_reducible refine (box_within.calls a0_1 1 1000000 true _ A8.out).mono ?_); rintro e w' ⟨rfl, ⟨nd, rfl⟩⟩) | (go_at_call 35; (with_reducible refine (box_within.calls a0_3 1 1000000 true _ A10.out).mono ?_); rintro e w' ⟨rfl, ⟨nd, rfl⟩⟩) | (go_at_call 35; (with_reducible refine (box_within.calls a0_2 1 1000000 t191 _ A12.out).mono ?_); rintro e w' ⟨rfl, ⟨nd, rfl⟩⟩))
            go_meet
            case rel => exact ⟨_, (!t191), (by first | rfl | (simp; done) | (simp [*]; done)), H', ⟨by first | omega | exact Nat.le_refl _⟩, ⟨by (with_reducible repeat (first | refine blk_drewN ?_ _ | refine blk_drew ?_ | refine blk_alloc ?_ _)); exact BK187.out⟩, ⟨by repeat (first | (with_reducible first | exact HB.out | apply below_alloc | apply pw_below_drewN | apply below_drew1 | refine below_set ?_ GE187.out) | exact HB.out)⟩⟩
          · replace c11 := Bool.eq_false_iff.mpr c11
            subst c11
            have H1 : (box_May.j0 k true a0_0 a0_1 a0_2 a0_3 l0_4 l0_5) = some r := by rw [if_neg (show ¬ (false = true) by decide)] at H; exact H
            clear H
            have H := H1
            clear H1
            have H' := Aside0.mk H
            clear H
            have hcz14_0 : w3.cell? ⟨gb187, 0, none⟩ = some (.string a0_0) := (blk_cell BK187.out 0).trans rfl
            have hcz14_1 : w3.cell? ⟨gb187, 1, none⟩ = some (.int .i64 a0_1) := (blk_cell BK187.out 1).trans rfl
            have hcz14_2 : w3.cell? ⟨gb187, 2, none⟩ = some (.int .i64 a0_2) := (blk_cell BK187.out 2).trans rfl
            have hcz14_3 : w3.cell? ⟨gb187, 3, none⟩ = some (.int .i64 a0_3) := (blk_cell BK187.out 3).trans rfl
            have hcz14_4 : w3.cell? ⟨gb187, 4, none⟩ = some (.slice A0_4 l0_4.length c0_4) := (blk_cell BK187.out 4).trans rfl
            have hcz14_5 : w3.cell? ⟨gb187, 5, none⟩ = some (.slice A0_5 l0_5.length c0_5) := (blk_cell BK187.out 5).trans rfl
            have hfz14_0 := blk_frozen BK187.out 0
            have hfz14_1 := blk_frozen BK187.out 1
            have hfz14_2 := blk_frozen BK187.out 2
            have hfz14_3 := blk_frozen BK187.out 3
            have hfz14_4 := blk_frozen BK187.out 4
            have hfz14_5 := blk_frozen BK187.out 5
            go_wp2_with (first | ((with_reducible refine gate_callee (f := 34) rfl ?_); refine goesL_ (some 11) rfl rfl Tryd.func34 (by kernel_rfl) rfl #[.string a0_0] rfl (by (try simp only [List.map_toArray, List.map_cons, List.map_nil]); first | done | rfl | (simp only [List.length_drop, List.length_take]; rfl)) ?_; (with_reducible refine (flag_Atom.calls k a0_0 true _ A4.out).mono ?_); rintro e w' ⟨rfl, ⟨nd, rfl⟩⟩; refine ⟨_, rfl, ?_⟩) | (go_at_call 35; (with_reducible refine (box_within.calls a0_1 1 1000000 true _ A8.out).mono ?_); rintro e w' ⟨rfl, ⟨nd, rfl⟩⟩) | (go_at_call 35; (with_reducible refine (box_within.calls a0_3 1 1000000 false _ A10.out).mono ?_); rintro e w' ⟨rfl, ⟨nd, rfl⟩⟩))
            go_meet
            case rel => exact ⟨_, (true), (by first | rfl | (simp; done) | (simp [*]; done)), H', ⟨by first | omega | exact Nat.le_refl _⟩, ⟨by (with_reducible repeat (first | refine blk_drewN ?_ _ | refine blk_drew ?_ | refine blk_alloc ?_ _)); exact BK187.out⟩, ⟨by repeat (first | (with_reducible first | exact HB.out | apply below_alloc | apply pw_below_drewN | apply below_drew1 | refine below_set ?_ GE187.out) | exact HB.out)⟩⟩
        · replace c9 := Bool.eq_false_iff.mpr c9
          subst c9
          have H1 : (box_May.j0 k true a0_0 a0_1 a0_2 a0_3 l0_4 l0_5) = some r := by rw [if_neg (show ¬ (false = true) by decide)] at H; exact H
          clear H
          have H := H1
          clear H1
          have H' := Aside0.mk H
          clear H
          have hcz15_0 : w3.cell? ⟨gb187, 0, none⟩ = some (.string a0_0) := (blk_cell BK187.out 0).trans rfl
          have hcz15_1 : w3.cell? ⟨gb187, 1, none⟩ = some (.int .i64 a0_1) := (blk_cell BK187.out 1).trans rfl
          have hcz15_2 : w3.cell? ⟨gb187, 2, none⟩ = some (.int .i64 a0_2) := (blk_cell BK187.out 2).trans rfl
          have hcz15_3 : w3.cell? ⟨gb187, 3, none⟩ = some (.int .i64 a0_3) := (blk_cell BK187.out 3).trans rfl
          have hcz15_4 : w3.cell? ⟨gb187, 4, none⟩ = some (.slice A0_4 l0_4.length c0_4) := (blk_cell BK187.out 4).trans rfl
          have hcz15_5 : w3.cell? ⟨gb187, 5, none⟩ = some (.slice A0_5 l0_5.length c0_5) := (blk_cell BK187.out 5).trans rfl
          have hfz15_0 := blk_frozen BK187.out 0
          have hfz15_1 := blk_frozen BK187.out 1
          have hfz15_2 := blk_frozen BK187.out 2
          have hfz15_3 := blk_frozen BK187.out 3
          have hfz15_4 := blk_frozen BK187.out 4
          have hfz15_5 := blk_frozen BK187.out 5
          go_wp2_with (first | ((with_reducible refine gate_callee (f := 34) rfl ?_); refine goesL_ (some 11) rfl rfl Tryd.func34 (by kernel_rfl) rfl #[.string a0_0] rfl (by (try simp only [List.map_toArray, List.map_cons, List.map_nil]); first | done | rfl | (simp only [List.length_drop, List.length_take]; rfl)) ?_; (with_reducible refine (flag_Atom.calls k a0_0 true _ A4.out).mono ?_); rintro e w' ⟨rfl, ⟨nd, rfl⟩⟩; refine ⟨_, rfl, ?_⟩) | (go_at_call 35; (with_reducible refine (box_within.calls a0_1 1 1000000 false _ A8.out).mono ?_); rintro e w' ⟨rfl, ⟨nd, rfl⟩⟩))
          go_meet
          case rel => exact ⟨_, (true), (by first | rfl | (simp; done) | (simp [*]; done)), H', ⟨by first | omega | exact Nat.le_refl _⟩, ⟨by (with_reducible repeat (first | refine blk_drewN ?_ _ | refine blk_drew ?_ | refine blk_alloc ?_ _)); exact BK187.out⟩, ⟨by repeat (first | (with_reducible first | exact HB.out | apply below_alloc | apply pw_below_drewN | apply below_drew1 | refine below_set ?_ GE187.out) | exact HB.out)⟩⟩
    · replace c5 := Bool.eq_false_iff.mpr c5
      subst c5
      have H1 : (box_May.j0 k true a0_0 a0_1 a0_2 a0_3 l0_4 l0_5) = some r := by rw [if_neg (show ¬ (false = true) by decide)] at H; exact H
      clear H
      have H := H1
      clear H1
      have H' := Aside0.mk H
      clear H
      have hcz16_0 : w3.cell? ⟨gb187, 0, none⟩ = some (.string a0_0) := (blk_cell BK187.out 0).trans rfl
      have hcz16_1 : w3.cell? ⟨gb187, 1, none⟩ = some (.int .i64 a0_1) := (blk_cell BK187.out 1).trans rfl
      have hcz16_2 : w3.cell? ⟨gb187, 2, none⟩ = some (.int .i64 a0_2) := (blk_cell BK187.out 2).trans rfl
      have hcz16_3 : w3.cell? ⟨gb187, 3, none⟩ = some (.int .i64 a0_3) := (blk_cell BK187.out 3).trans rfl
      have hcz16_4 : w3.cell? ⟨gb187, 4, none⟩ = some (.slice A0_4 l0_4.length c0_4) := (blk_cell BK187.out 4).trans rfl
      have hcz16_5 : w3.cell? ⟨gb187, 5, none⟩ = some (.slice A0_5 l0_5.length c0_5) := (blk_cell BK187.out 5).trans rfl
      have hfz16_0 := blk_frozen BK187.out 0
      have hfz16_1 := blk_frozen BK187.out 1
      have hfz16_2 := blk_frozen BK187.out 2
      have hfz16_3 := blk_frozen BK187.out 3
      have hfz16_4 := blk_frozen BK187.out 4
      have hfz16_5 := blk_frozen BK187.out 5
      go_wp2_with (first | ((with_reducible refine gate_callee (f := 34) rfl ?_); refine goesL_ (some 11) rfl rfl Tryd.func34 (by kernel_rfl) rfl #[.string a0_0] rfl (by (try simp only [List.map_toArray, List.map_cons, List.map_nil]); first | done | rfl | (simp only [List.length_drop, List.length_take]; rfl)) ?_; (with_reducible refine (flag_Atom.calls k a0_0 false _ A4.out).mono ?_); rintro e w' ⟨rfl, ⟨nd, rfl⟩⟩; refine ⟨_, rfl, ?_⟩))
      go_meet
      case rel => exact ⟨_, (true), (by first | rfl | (simp; done) | (simp [*]; done)), H', ⟨by first | omega | exact Nat.le_refl _⟩, ⟨by (with_reducible repeat (first | refine blk_drewN ?_ _ | refine blk_drew ?_ | refine blk_alloc ?_ _)); exact BK187.out⟩, ⟨by repeat (first | (with_reducible first | exact HB.out | apply below_alloc | apply pw_below_drewN | apply below_drew1 | refine below_set ?_ GE187.out) | exact HB.out)⟩⟩
  case rest =>
    clear HC2
    try clear c1
    try clear p2
    try clear c3
    try clear c5
    try clear c6
    try clear c6b0
    try clear c6b1
    try clear c9
    try clear c11
    try clear hcz13_0
    try clear hcz13_1
    try clear hcz13_2
    try clear hcz13_3
    try clear hcz13_4
    try clear hcz13_5
    try clear hcz14_0
    try clear hcz14_1
    try clear hcz14_2
    try clear hcz14_3
    try clear hcz14_4
    try clear hcz14_5
    try clear hcz15_0
    try clear hcz15_1
    try clear hcz15_2
    try clear hcz15_3
    try clear hcz15_4
    try clear hcz15_5
    try clear hcz16_0
    try clear hcz16_1
    try clear hcz16_2
    try clear hcz16_3
    try clear hcz16_4
    try clear hcz16_5
    try clear hcz7_0
    try clear hcz7_1
    try clear hcz7_2
    try clear hcz7_3
    try clear hcz7_4
    try clear hcz7_5
    try clear hfz13_0
    try clear hfz13_1
    try clear hfz13_2
    try clear hfz13_3
    try clear hfz13_4
    try clear hfz13_5
    try clear hfz14_0
    try clear hfz14_1
    try clear hfz14_2
    try clear hfz14_3
    try clear hfz14_4
    try clear hfz14_5
    try clear hfz15_0
    try clear hfz15_1
    try clear hfz15_2
    try clear hfz15_3
    try clear hfz15_4
    try clear hfz15_5
    try clear hfz16_0
    try clear hfz16_1
    try clear hfz16_2
    try clear hfz16_3
    try clear hfz16_4
    try clear hfz16_5
    try clear hfz7_0
    try clear hfz7_1
    try clear hfz7_2
    try clear hfz7_3
    try clear hfz7_4
    try clear hfz7_5
    obtain ⟨kq, x8_1, rfl, HA, HJ1, BK187, HB⟩ := hcut
    cases kq with
    | zero => exact absurd HA.out (by simp [box_May.j0])
    | succ kj1 =>
      have H := HA.out
      clear HA
      simp only [box_May.j0] at H
      by_cases c17 : x8_1 = true
      · subst c17
        have H1 : (some 1) = some r := by rw [if_pos rfl] at H; exact H
        clear H
        have H := H1
        clear H1
        obtain rfl := Option.some.inj H
        go_wp2
        go_ret
        exact ⟨by first | rfl | (simp [errW_none, errW_some] <;> rfl) | (simp [*, errW_none, errW_some] <;> rfl), by repeat (first | (with_reducible first | exact HB.out | apply below_alloc | apply pw_below_drewN | apply below_drew1 | refine below_set ?_ GE187.out) | exact HB.out)⟩
      · replace c17 := Bool.eq_false_iff.mpr c17
        subst c17
        have H1 : (if (l0_4.length : Int) > 64 then (some 4) else (if (l0_5.length : Int) > 60 then (some 4) else (box_May.l0 kj1 l0_4 (l0_4.length : Int) 0 a0_0 a0_1 a0_2 a0_3 l0_4 l0_5))) = some r := by rw [if_neg (show ¬ (false = true) by decide)] at H; exact H
        clear H
        have H := H1
        clear H1
        by_cases c18 : (l0_4.length : Int) > 64
        · rw [if_pos c18] at H
          have c18b0 : decide (64 < (l0_4.length : Int)) = true := decide_eq_true c18
          have c18b1 : decide (64 < l0_4.length) = true := decide_eq_true (by omega)
          clear c18
          obtain rfl := Option.some.inj H
          have hcz19_0 : wc.cell? ⟨gb187, 0, none⟩ = some (.string a0_0) := (blk_cell BK187.out 0).trans rfl
          have hcz19_1 : wc.cell? ⟨gb187, 1, none⟩ = some (.int .i64 a0_1) := (blk_cell BK187.out 1).trans rfl
          have hcz19_2 : wc.cell? ⟨gb187, 2, none⟩ = some (.int .i64 a0_2) := (blk_cell BK187.out 2).trans rfl
          have hcz19_3 : wc.cell? ⟨gb187, 3, none⟩ = some (.int .i64 a0_3) := (blk_cell BK187.out 3).trans rfl
          have hcz19_4 : wc.cell? ⟨gb187, 4, none⟩ = some (.slice A0_4 l0_4.length c0_4) := (blk_cell BK187.out 4).trans rfl
          have hcz19_5 : wc.cell? ⟨gb187, 5, none⟩ = some (.slice A0_5 l0_5.length c0_5) := (blk_cell BK187.out 5).trans rfl
          have hfz19_0 := blk_frozen BK187.out 0
          have hfz19_1 := blk_frozen BK187.out 1
          have hfz19_2 := blk_frozen BK187.out 2
          have hfz19_3 := blk_frozen BK187.out 3
          have hfz19_4 := blk_frozen BK187.out 4
          have hfz19_5 := blk_frozen BK187.out 5
          go_wp2
          go_ret
          exact ⟨by first | rfl | (simp [errW_none, errW_some] <;> rfl) | (simp [*, errW_none, errW_some] <;> rfl), by repeat (first | (with_reducible first | exact HB.out | apply below_alloc | apply pw_below_drewN | apply below_drew1 | refine below_set ?_ GE187.out) | exact HB.out)⟩
        · rw [if_neg c18] at H
          have c18b0 : decide (64 < (l0_4.length : Int)) = false := decide_eq_false c18
          have c18b1 : decide (64 < l0_4.length) = false := decide_eq_false (by omega)
          clear c18
          by_cases c20 : (l0_5.length : Int) > 60
          · rw [if_pos c20] at H
            have c20b0 : decide (60 < (l0_5.length : Int)) = true := decide_eq_true c20
            have c20b1 : decide (60 < l0_5.length) = true := decide_eq_true (by omega)
            clear c20
            obtain rfl := Option.some.inj H
            have hcz21_0 : wc.cell? ⟨gb187, 0, none⟩ = some (.string a0_0) := (blk_cell BK187.out 0).trans rfl
            have hcz21_1 : wc.cell? ⟨gb187, 1, none⟩ = some (.int .i64 a0_1) := (blk_cell BK187.out 1).trans rfl
            have hcz21_2 : wc.cell? ⟨gb187, 2, none⟩ = some (.int .i64 a0_2) := (blk_cell BK187.out 2).trans rfl
            have hcz21_3 : wc.cell? ⟨gb187, 3, none⟩ = some (.int .i64 a0_3) := (blk_cell BK187.out 3).trans rfl
            have hcz21_4 : wc.cell? ⟨gb187, 4, none⟩ = some (.slice A0_4 l0_4.length c0_4) := (blk_cell BK187.out 4).trans rfl
            have hcz21_5 : wc.cell? ⟨gb187, 5, none⟩ = some (.slice A0_5 l0_5.length c0_5) := (blk_cell BK187.out 5).trans rfl
            have hfz21_0 := blk_frozen BK187.out 0
            have hfz21_1 := blk_frozen BK187.out 1
            have hfz21_2 := blk_frozen BK187.out 2
            have hfz21_3 := blk_frozen BK187.out 3
            have hfz21_4 := blk_frozen BK187.out 4
            have hfz21_5 := blk_frozen BK187.out 5
            go_wp2
            go_ret
            exact ⟨by first | rfl | (simp [errW_none, errW_some] <;> rfl) | (simp [*, errW_none, errW_some] <;> rfl), by repeat (first | (with_reducible first | exact HB.out | apply below_alloc | apply pw_below_drewN | apply below_drew1 | refine below_set ?_ GE187.out) | exact HB.out)⟩
          · rw [if_neg c20] at H
            have c20b0 : decide (60 < (l0_5.length : Int)) = false := decide_eq_false c20
            have c20b1 : decide (60 < l0_5.length) = false := decide_eq_false (by omega)
            clear c20
            have H' := Aside0.mk H
            clear H
            have hcz22_0 : wc.cell? ⟨gb187, 0, none⟩ = some (.string a0_0) := (blk_cell BK187.out 0).trans rfl
            have hcz22_1 : wc.cell? ⟨gb187, 1, none⟩ = some (.int .i64 a0_1) := (blk_cell BK187.out 1).trans rfl
            have hcz22_2 : wc.cell? ⟨gb187, 2, none⟩ = some (.int .i64 a0_2) := (blk_cell BK187.out 2).trans rfl
            have hcz22_3 : wc.cell? ⟨gb187, 3, none⟩ = some (.int .i64 a0_3) := (blk_cell BK187.out 3).trans rfl
            have hcz22_4 : wc.cell? ⟨gb187, 4, none⟩ = some (.slice A0_4 l0_4.length c0_4) := (blk_cell BK187.out 4).trans rfl
            have hcz22_5 : wc.cell? ⟨gb187, 5, none⟩ = some (.slice A0_5 l0_5.length c0_5) := (blk_cell BK187.out 5).trans rfl
            have hfz22_0 := blk_frozen BK187.out 0
            have hfz22_1 := blk_frozen BK187.out 1
            have hfz22_2 := blk_frozen BK187.out 2
            have hfz22_3 := blk_frozen BK187.out 3
            have hfz22_4 := blk_frozen BK187.out 4
            have hfz22_5 := blk_frozen BK187.out 5
            go_wp2
            go_loopg [51] kj1 (fun kq v51 w' => ∃ (x51_2 : Int), v51 = .int .i64 x51_2 ∧ Aside0 (box_May.l0 kq l0_4 (l0_4.length : Int) x51_2 a0_0 a0_1 a0_2 a0_3 l0_4 l0_5 = some r) ∧ Aside0 (kq ≤ kj1) ∧ Aside0 (w'.heap[gb187]? = some (.cells #[.string a0_0, .int .i64 a0_1, .int .i64 a0_2, .int .i64 a0_3, (.slice A0_4 l0_4.length c0_4), (.slice A0_5 l0_5.length c0_5)] 26 (0, 0))) ∧ Aside0 (Below w.heap.size w w'))
            case atStart => exact ⟨(0), (by first | rfl | (simp; done) | (simp [*]; done)), H', ⟨Nat.le_refl _⟩, ⟨by (with_reducible repeat (first | refine blk_drewN ?_ _ | refine blk_drew ?_ | refine blk_alloc ?_ _)); exact BK187.out⟩, ⟨by repeat (first | (with_reducible first | exact HB.out | apply below_alloc | apply pw_below_drewN | apply below_drew1 | refine below_set ?_ GE187.out) | exact HB.out)⟩⟩
            case round =>
              clear H'
              try clear c1
              try clear c2
              try clear p2
              try clear c3
              try clear c5
              try clear c6
              try clear c6b0
              try clear c6b1
              try clear c9
              try clear c11
              try clear c17
              try clear c18
              try clear c18b0
              try clear c18b1
              try clear c20
              try clear c20b0
              try clear c20b1
              try clear hcz13_0
              try clear hcz13_1
              try clear hcz13_2
              try clear hcz13_3
              try clear hcz13_4
              try clear hcz13_5
              try clear hcz14_0
              try clear hcz14_1
              try clear hcz14_2
              try clear hcz14_3
              try clear hcz14_4
              try clear hcz14_5
              try clear hcz15_0
              try clear hcz15_1
              try clear hcz15_2
              try clear hcz15_3
              try clear hcz15_4
              try clear hcz15_5
              try clear hcz16_0
              try clear hcz16_1
              try clear hcz16_2
              try clear hcz16_3
              try clear hcz16_4
              try clear hcz16_5
              try clear hcz19_0
              try clear hcz19_1
              try clear hcz19_2
              try clear hcz19_3
              try clear hcz19_4
              try clear hcz19_5
              try clear hcz21_0
              try clear hcz21_1
              try clear hcz21_2
              try clear hcz21_3
              try clear hcz21_4
              try clear hcz21_5
              try clear hcz22_0
              try clear hcz22_1
              try clear hcz22_2
              try clear hcz22_3
              try clear hcz22_4
              try clear hcz22_5
              try clear hcz7_0
              try clear hcz7_1
              try clear hcz7_2
              try clear hcz7_3
              try clear hcz7_4
              try clear hcz7_5
              try clear hfz13_0
              try clear hfz13_1
              try clear hfz13_2
              try clear hfz13_3
              try clear hfz13_4
              try clear hfz13_5
              try clear hfz14_0
              try clear hfz14_1
              try clear hfz14_2
              try clear hfz14_3
              try clear hfz14_4
              try clear hfz14_5
              try clear hfz15_0
              try clear hfz15_1
              try clear hfz15_2
              try clear hfz15_3
              try clear hfz15_4
              try clear hfz15_5
              try clear hfz16_0
              try clear hfz16_1
              try clear hfz16_2
              try clear hfz16_3
              try clear hfz16_4
              try clear hfz16_5
              try clear hfz19_0
              try clear hfz19_1
              try clear hfz19_2
              try clear hfz19_3
              try clear hfz19_4
              try clear hfz19_5
              try clear hfz21_0
              try clear hfz21_1
              try clear hfz21_2
              try clear hfz21_3
              try clear hfz21_4
              try clear hfz21_5
              try clear hfz22_0
              try clear hfz22_1
              try clear hfz22_2
              try clear hfz22_3
              try clear hfz22_4
              try clear hfz22_5
              try clear hfz7_0
              try clear hfz7_1
              try clear hfz7_2
              try clear hfz7_3
              try clear hfz7_4
              try clear hfz7_5
              try clear p2
              obtain ⟨x51_2, rfl, HA, HK2, BK187, HB⟩ := hrel
              cases gk with
              | zero => exact absurd HA.out (by simp [box_May.l0])
              | succ k2 =>
                have H := HA.out
                clear HA
                simp only [box_May.l0] at H
                by_cases c23 : x51_2 < (l0_4.length : Int)
                · rw [if_pos c23] at H
                  have c23b0 : decide (x51_2 < (l0_4.length : Int)) = true := decide_eq_true c23
                  clear c23
                  by_cases c24 : 0 ≤ x51_2
                  · rw [if_pos c24] at H
                    have c24b0 : decide (0 ≤ x51_2) = true := decide_eq_true c24
                    clear c24
                    by_cases c25 : x51_2 < (l0_4.length : Int)
                    · rw [if_pos c25] at H
                      have c25b0 : decide (x51_2 < (l0_4.length : Int)) = true := decide_eq_true c25
                      clear c25
                      replace H := Option.bind_eq_some_iff.mp H
                      obtain ⟨t193, A260, H⟩ := H
                      replace H : (if t193 = true then (if x51_2 ≤ (l0_4.length : Int) then ((slices_Contains_string_string.f k2 (l0_4.take (x51_2 : Int).toNat) (rdOf ByteArray.empty l0_4 x51_2)).bind fun t195 => (if t195 = true then (some 1) else (box_May.l0 k2 l0_4 (l0_4.length : Int) (wrap64 (x51_2 + 1)) a0_0 a0_1 a0_2 a0_3 l0_4 l0_5))) else (none)) else (some 1)) = some r := H
                      have A26 := Aside0.mk A260
                      clear A260
                      by_cases c27 : t193 = true
                      · subst c27
                        have H1 : (if x51_2 ≤ (l0_4.length : Int) then ((slices_Contains_string_string.f k2 (l0_4.take (x51_2 : Int).toNat) (rdOf ByteArray.empty l0_4 x51_2)).bind fun t195 => (if t195 = true then (some 1) else (box_May.l0 k2 l0_4 (l0_4.length : Int) (wrap64 (x51_2 + 1)) a0_0 a0_1 a0_2 a0_3 l0_4 l0_5))) else (none)) = some r := by rw [if_pos rfl] at H; exact H
                        clear H
                        have H := H1
                        clear H1
                        have c28b0 := eq_true (of_decide_eq_true (by first | (with_reducible assumption) | assumption) : 0 ≤ x51_2)
                        by_cases c29 : x51_2 ≤ (l0_4.length : Int)
                        · rw [if_pos c29] at H
                          have c29b0 := eq_true c29
                          have c29b1 : decide (x51_2 ≤ (l0_4.length : Int)) = true := decide_eq_true c29
                          clear c29
                          replace H := Option.bind_eq_some_iff.mp H
                          obtain ⟨t195, A300, H⟩ := H
                          replace H : (if t195 = true then (some 1) else (box_May.l0 k2 l0_4 (l0_4.length : Int) (wrap64 (x51_2 + 1)) a0_0 a0_1 a0_2 a0_3 l0_4 l0_5)) = some r := H
                          have A30 := Aside0.mk A300
                          clear A300
                          by_cases c31 : t195 = true
                          · subst c31
                            have H1 : (some 1) = some r := by rw [if_pos rfl] at H; exact H
                            clear H
                            have H := H1
                            clear H1
                            obtain rfl := Option.some.inj H
                            have p192 : 0 ≤ (x51_2 : Int) := of_decide_eq_true (by first | (with_reducible assumption) | assumption)
                            have q192 : x51_2 < (l0_4.length : Int) := of_decide_eq_true (by first | (with_reducible assumption) | assumption)
                            obtain ⟨ad192, e192, hx192_0⟩ := Kd.at_string HR0_4.out x51_2 p192 q192
                            cases e192
                            replace hx192_0 := (HB.out.cell (World.block_lt_of_cell? w _ hx192_0)).trans hx192_0
                            replace p192 := eq_true p192
                            replace q192 := eq_true q192
                            go_wp2_with (first | ((with_reducible refine gate_callee (f := 36) rfl ?_); refine goesL_ (some 57) rfl rfl Tryd.func36 (by kernel_rfl) rfl #[.string (rdOf ByteArray.empty l0_4 x51_2)] rfl (by (try simp only [List.map_toArray, List.map_cons, List.map_nil]); first | done | rfl | (simp only [List.length_drop, List.length_take]; rfl)) ?_; (with_reducible refine (flag_May.calls k2 (rdOf ByteArray.empty l0_4 x51_2) true _ A26.out).mono ?_); rintro e w' ⟨rfl, ⟨nd, rfl⟩⟩; refine ⟨_, rfl, ?_⟩; have hcz32_0 : wr.cell? ⟨gb187, 0, none⟩ = some (.string a0_0) := (blk_cell BK187.out 0).trans rfl; have hcz32_1 : wr.cell? ⟨gb187, 1, none⟩ = some (.int .i64 a0_1) := (blk_cell BK187.out 1).trans rfl; have hcz32_2 : wr.cell? ⟨gb187, 2, none⟩ = some (.int .i64 a0_2) := (blk_cell BK187.out 2).trans rfl; have hcz32_3 : wr.cell? ⟨gb187, 3, none⟩ = some (.int .i64 a0_3) := (blk_cell BK187.out 3).trans rfl; have hcz32_4 : wr.cell? ⟨gb187, 4, none⟩ = some (.slice (some ad192) l0_4.length c0_4) := (blk_cell BK187.out 4).trans rfl; have hcz32_5 : wr.cell? ⟨gb187, 5, none⟩ = some (.slice A0_5 l0_5.length c0_5) := (blk_cell BK187.out 5).trans rfl; have hfz32_0 := blk_frozen BK187.out 0; have hfz32_1 := blk_frozen BK187.out 1; have hfz32_2 := blk_frozen BK187.out 2; have hfz32_3 := blk_frozen BK187.out 3; have hfz32_4 := blk_frozen BK187.out 4; have hfz32_5 := blk_frozen BK187.out 5; obtain ⟨i033, hi033, _, hsz33, _⟩ := info_parts info9; obtain ⟨hcut33, hA33, hC33⟩ := print_take_of (P := Tryd.prog) Value.string (⟨#[]⟩ : ByteArray) 23 9 .i64 Tryd.underlying23 hi033 hsz33 (some ad192) c0_4 l0_4 x51_2 (of_decide_eq_true (by first | (with_reducible assumption) | assumption)) (of_decide_eq_true (by first | (with_reducible assumption) | assumption)) HC0_4.out; have HR194 := Aside0.mk (Kd.C_of_reads (h1 := fun _ => rfl) (hA33 _ (Kd.reads_of_C HR0_4.out))); have HC194 := Aside0.mk hC33; clear hA33 hC33 hi033 hsz33) | (go_at_call 37; (first | (with_reducible refine (slices_Contains_string_string.calls k2 _ _ (l0_4.take (x51_2 : Int).toNat) (rdOf ByteArray.empty l0_4 x51_2) true _ ?side1 ?side2 A30.out).mono ?_) | (refine (Go.Proofs.YtjlabkibpknkpaaDoor.Cm.cut_arg2 (Go.Proofs.YtjlabkibpknkpaaDoor.Cm.take_len (l := l0_4) (x := x51_2) (of_decide_eq_true (by first | (with_reducible assumption) | assumption)) (of_decide_eq_true (by first | (with_reducible assumption) | assumption))) (slices_Contains_string_string.calls k2 _ _ (l0_4.take (x51_2 : Int).toNat) (rdOf ByteArray.empty l0_4 x51_2) true _ ?side1 ?side2 A30.out)).mono ?_)); (case side1 => repeat (first | exact (Kd.C_below HR194.out (by repeat (first | (with_reducible first | exact HB.out | apply below_alloc | apply pw_below_drewN | apply below_drew1 | refine below_set ?_ GE187.out) | exact HB.out))) | (with_reducible refine Kd.C_alloc ?_ _) | (with_reducible refine Kd.C_drewN ?_ _) | (with_reducible refine Kd.C_drew ?_))); (case side2 => exact HC194.out); rintro e w' ⟨rfl, ⟨nd, rfl⟩⟩))
                            go_ret
                            exact ⟨by first | rfl | (simp [errW_none, errW_some] <;> rfl) | (simp [*, errW_none, errW_some] <;> rfl), by repeat (first | (with_reducible first | exact HB.out | apply below_alloc | apply pw_below_drewN | apply below_drew1 | refine below_set ?_ GE187.out) | exact HB.out)⟩
                          · replace c31 := Bool.eq_false_iff.mpr c31
                            subst c31
                            have H1 : (box_May.l0 k2 l0_4 (l0_4.length : Int) (wrap64 (x51_2 + 1)) a0_0 a0_1 a0_2 a0_3 l0_4 l0_5) = some r := by rw [if_neg (show ¬ (false = true) by decide)] at H; exact H
                            clear H
                            have H := H1
                            clear H1
                            have H' := Aside0.mk H
                            clear H
                            have p192 : 0 ≤ (x51_2 : Int) := of_decide_eq_true (by first | (with_reducible assumption) | assumption)
                            have q192 : x51_2 < (l0_4.length : Int) := of_decide_eq_true (by first | (with_reducible assumption) | assumption)
                            obtain ⟨ad192, e192, hx192_0⟩ := Kd.at_string HR0_4.out x51_2 p192 q192
                            cases e192
                            replace hx192_0 := (HB.out.cell (World.block_lt_of_cell? w _ hx192_0)).trans hx192_0
                            replace p192 := eq_true p192
                            replace q192 := eq_true q192
                            go_wp2_with (first | ((with_reducible refine gate_callee (f := 36) rfl ?_); refine goesL_ (some 57) rfl rfl Tryd.func36 (by kernel_rfl) rfl #[.string (rdOf ByteArray.empty l0_4 x51_2)] rfl (by (try simp only [List.map_toArray, List.map_cons, List.map_nil]); first | done | rfl | (simp only [List.length_drop, List.length_take]; rfl)) ?_; (with_reducible refine (flag_May.calls k2 (rdOf ByteArray.empty l0_4 x51_2) true _ A26.out).mono ?_); rintro e w' ⟨rfl, ⟨nd, rfl⟩⟩; refine ⟨_, rfl, ?_⟩; have hcz34_0 : wr.cell? ⟨gb187, 0, none⟩ = some (.string a0_0) := (blk_cell BK187.out 0).trans rfl; have hcz34_1 : wr.cell? ⟨gb187, 1, none⟩ = some (.int .i64 a0_1) := (blk_cell BK187.out 1).trans rfl; have hcz34_2 : wr.cell? ⟨gb187, 2, none⟩ = some (.int .i64 a0_2) := (blk_cell BK187.out 2).trans rfl; have hcz34_3 : wr.cell? ⟨gb187, 3, none⟩ = some (.int .i64 a0_3) := (blk_cell BK187.out 3).trans rfl; have hcz34_4 : wr.cell? ⟨gb187, 4, none⟩ = some (.slice (some ad192) l0_4.length c0_4) := (blk_cell BK187.out 4).trans rfl; have hcz34_5 : wr.cell? ⟨gb187, 5, none⟩ = some (.slice A0_5 l0_5.length c0_5) := (blk_cell BK187.out 5).trans rfl; have hfz34_0 := blk_frozen BK187.out 0; have hfz34_1 := blk_frozen BK187.out 1; have hfz34_2 := blk_frozen BK187.out 2; have hfz34_3 := blk_frozen BK187.out 3; have hfz34_4 := blk_frozen BK187.out 4; have hfz34_5 := blk_frozen BK187.out 5; obtain ⟨i035, hi035, _, hsz35, _⟩ := info_parts info9; obtain ⟨hcut35, hA35, hC35⟩ := print_take_of (P := Tryd.prog) Value.string (⟨#[]⟩ : ByteArray) 23 9 .i64 Tryd.underlying23 hi035 hsz35 (some ad192) c0_4 l0_4 x51_2 (of_decide_eq_true (by first | (with_reducible assumption) | assumption)) (of_decide_eq_true (by first | (with_reducible assumption) | assumption)) HC0_4.out; have HR194 := Aside0.mk (Kd.C_of_reads (h1 := fun _ => rfl) (hA35 _ (Kd.reads_of_C HR0_4.out))); have HC194 := Aside0.mk hC35; clear hA35 hC35 hi035 hsz35) | (go_at_call 37; (first | (with_reducible refine (slices_Contains_string_string.calls k2 _ _ (l0_4.take (x51_2 : Int).toNat) (rdOf ByteArray.empty l0_4 x51_2) false _ ?side1 ?side2 A30.out).mono ?_) | (refine (Go.Proofs.YtjlabkibpknkpaaDoor.Cm.cut_arg2 (Go.Proofs.YtjlabkibpknkpaaDoor.Cm.take_len (l := l0_4) (x := x51_2) (of_decide_eq_true (by first | (with_reducible assumption) | assumption)) (of_decide_eq_true (by first | (with_reducible assumption) | assumption))) (slices_Contains_string_string.calls k2 _ _ (l0_4.take (x51_2 : Int).toNat) (rdOf ByteArray.empty l0_4 x51_2) false _ ?side1 ?side2 A30.out)).mono ?_)); (case side1 => repeat (first | exact (Kd.C_below HR194.out (by repeat (first | (with_reducible first | exact HB.out | apply below_alloc | apply pw_below_drewN | apply below_drew1 | refine below_set ?_ GE187.out) | exact HB.out))) | (with_reducible refine Kd.C_alloc ?_ _) | (with_reducible refine Kd.C_drewN ?_ _) | (with_reducible refine Kd.C_drew ?_))); (case side2 => exact HC194.out); rintro e w' ⟨rfl, ⟨nd, rfl⟩⟩))
                            go_roundg k2
                            case measure => have := HJ1.out; have := HK2.out; omega
                            case rel => exact ⟨(wrap64 (x51_2 + 1)), (by first | rfl | (simp; done) | (simp [*]; done)), H', ⟨by have := HJ1.out; have := HK2.out; omega⟩, ⟨by (with_reducible repeat (first | refine blk_drewN ?_ _ | refine blk_drew ?_ | refine blk_alloc ?_ _)); exact BK187.out⟩, ⟨by repeat (first | (with_reducible first | exact HB.out | apply below_alloc | apply pw_below_drewN | apply below_drew1 | refine below_set ?_ GE187.out) | exact HB.out)⟩⟩
                        · rw [if_neg c29] at H
                          exact absurd H (by simp)
                      · replace c27 := Bool.eq_false_iff.mpr c27
                        subst c27
                        have H1 : (some 1) = some r := by rw [if_neg (show ¬ (false = true) by decide)] at H; exact H
                        clear H
                        have H := H1
                        clear H1
                        obtain rfl := Option.some.inj H
                        have p192 : 0 ≤ (x51_2 : Int) := of_decide_eq_true (by first | (with_reducible assumption) | assumption)
                        have q192 : x51_2 < (l0_4.length : Int) := of_decide_eq_true (by first | (with_reducible assumption) | assumption)
                        obtain ⟨ad192, e192, hx192_0⟩ := Kd.at_string HR0_4.out x51_2 p192 q192
                        cases e192
                        replace hx192_0 := (HB.out.cell (World.block_lt_of_cell? w _ hx192_0)).trans hx192_0
                        replace p192 := eq_true p192
                        replace q192 := eq_true q192
                        go_wp2_with (first | ((with_reducible refine gate_callee (f := 36) rfl ?_); refine goesL_ (some 57) rfl rfl Tryd.func36 (by kernel_rfl) rfl #[.string (rdOf ByteArray.empty l0_4 x51_2)] rfl (by (try simp only [List.map_toArray, List.map_cons, List.map_nil]); first | done | rfl | (simp only [List.length_drop, List.length_take]; rfl)) ?_; (with_reducible refine (flag_May.calls k2 (rdOf ByteArray.empty l0_4 x51_2) false _ A26.out).mono ?_); rintro e w' ⟨rfl, ⟨nd, rfl⟩⟩; refine ⟨_, rfl, ?_⟩))
                        go_ret
                        exact ⟨by first | rfl | (simp [errW_none, errW_some] <;> rfl) | (simp [*, errW_none, errW_some] <;> rfl), by repeat (first | (with_reducible first | exact HB.out | apply below_alloc | apply pw_below_drewN | apply below_drew1 | refine below_set ?_ GE187.out) | exact HB.out)⟩
                    · rw [if_neg c25] at H
                      exact absurd H (by simp)
                  · rw [if_neg c24] at H
                    exact absurd H (by simp)
                · rw [if_neg c23] at H
                  have c23b0 : decide (x51_2 < (l0_4.length : Int)) = false := decide_eq_false c23
                  clear c23
                  have H' := Aside0.mk H
                  clear H
                  have hcz36_0 : wr.cell? ⟨gb187, 0, none⟩ = some (.string a0_0) := (blk_cell BK187.out 0).trans rfl
                  have hcz36_1 : wr.cell? ⟨gb187, 1, none⟩ = some (.int .i64 a0_1) := (blk_cell BK187.out 1).trans rfl
                  have hcz36_2 : wr.cell? ⟨gb187, 2, none⟩ = some (.int .i64 a0_2) := (blk_cell BK187.out 2).trans rfl
                  have hcz36_3 : wr.cell? ⟨gb187, 3, none⟩ = some (.int .i64 a0_3) := (blk_cell BK187.out 3).trans rfl
                  have hcz36_4 : wr.cell? ⟨gb187, 4, none⟩ = some (.slice A0_4 l0_4.length c0_4) := (blk_cell BK187.out 4).trans rfl
                  have hcz36_5 : wr.cell? ⟨gb187, 5, none⟩ = some (.slice A0_5 l0_5.length c0_5) := (blk_cell BK187.out 5).trans rfl
                  have hfz36_0 := blk_frozen BK187.out 0
                  have hfz36_1 := blk_frozen BK187.out 1
                  have hfz36_2 := blk_frozen BK187.out 2
                  have hfz36_3 := blk_frozen BK187.out 3
                  have hfz36_4 := blk_frozen BK187.out 4
                  have hfz36_5 := blk_frozen BK187.out 5
                  go_wp2
                  go_loopg [5, 71] k2 (fun kq v5 v71 w' => ∃ (x5_3 : Int) (x71_3 : Int), v5 = .int .i64 x5_3 ∧ v71 = .int .i64 x71_3 ∧ Aside0 (box_May.l1 kq x5_3 l0_5 (l0_5.length : Int) x71_3 a0_0 a0_1 a0_2 a0_3 l0_4 l0_5 = some r) ∧ Aside0 (kq ≤ k2) ∧ Aside0 (w'.heap[gb187]? = some (.cells #[.string a0_0, .int .i64 a0_1, .int .i64 a0_2, .int .i64 a0_3, (.slice A0_4 l0_4.length c0_4), (.slice A0_5 l0_5.length c0_5)] 26 (0, 0))) ∧ Aside0 (Below w.heap.size w w'))
                  case atStart => exact ⟨(0), (0), (by first | rfl | (simp; done) | (simp [*]; done)), (by first | rfl | (simp; done) | (simp [*]; done)), H', ⟨Nat.le_refl _⟩, ⟨by (with_reducible repeat (first | refine blk_drewN ?_ _ | refine blk_drew ?_ | refine blk_alloc ?_ _)); exact BK187.out⟩, ⟨by repeat (first | (with_reducible first | exact HB.out | apply below_alloc | apply pw_below_drewN | apply below_drew1 | refine below_set ?_ GE187.out) | exact HB.out)⟩⟩
                  case round =>
                    clear H'
                    try clear c1
                    try clear p1
                    try clear q1
                    try clear hx1
                    try clear c2
                    try clear p2
                    try clear c3
                    try clear c5
                    try clear c6
                    try clear c6b0
                    try clear c6b1
                    try clear p6
                    try clear c9
                    try clear c11
                    try clear c17
                    try clear c18
                    try clear c18b0
                    try clear c18b1
                    try clear p19
                    try clear q19
                    try clear hx19
                    try clear c20
                    try clear c20b0
                    try clear c20b1
                    try clear c23
                    try clear c23b0
                    try clear c24
                    try clear c24b0
                    try clear c25
                    try clear c25b0
                    try clear c27
                    try clear c28
                    try clear c28b0
                    try clear c29
                    try clear c29b0
                    try clear c29b1
                    try clear c31
                    try clear c34
                    try clear c36
                    try clear hcz13_0
                    try clear hcz13_1
                    try clear hcz13_2
                    try clear hcz13_3
                    try clear hcz13_4
                    try clear hcz13_5
                    try clear hcz14_0
                    try clear hcz14_1
                    try clear hcz14_2
                    try clear hcz14_3
                    try clear hcz14_4
                    try clear hcz14_5
                    try clear hcz15_0
                    try clear hcz15_1
                    try clear hcz15_2
                    try clear hcz15_3
                    try clear hcz15_4
                    try clear hcz15_5
                    try clear hcz16_0
                    try clear hcz16_1
                    try clear hcz16_2
                    try clear hcz16_3
                    try clear hcz16_4
                    try clear hcz16_5
                    try clear hcz19_0
                    try clear hcz19_1
                    try clear hcz19_2
                    try clear hcz19_3
                    try clear hcz19_4
                    try clear hcz19_5
                    try clear hcz21_0
                    try clear hcz21_1
                    try clear hcz21_2
                    try clear hcz21_3
                    try clear hcz21_4
                    try clear hcz21_5
                    try clear hcz22_0
                    try clear hcz22_1
                    try clear hcz22_2
                    try clear hcz22_3
                    try clear hcz22_4
                    try clear hcz22_5
                    try clear hcz32_0
                    try clear hcz32_1
                    try clear hcz32_2
                    try clear hcz32_3
                    try clear hcz32_4
                    try clear hcz32_5
                    try clear hcz34_0
                    try clear hcz34_1
                    try clear hcz34_2
                    try clear hcz34_3
                    try clear hcz34_4
                    try clear hcz34_5
                    try clear hcz36_0
                    try clear hcz36_1
                    try clear hcz36_2
                    try clear hcz36_3
                    try clear hcz36_4
                    try clear hcz36_5
                    try clear hcz7_0
                    try clear hcz7_1
                    try clear hcz7_2
                    try clear hcz7_3
                    try clear hcz7_4
                    try clear hcz7_5
                    try clear hfz13_0
                    try clear hfz13_1
                    try clear hfz13_2
                    try clear hfz13_3
                    try clear hfz13_4
                    try clear hfz13_5
                    try clear hfz14_0
                    try clear hfz14_1
                    try clear hfz14_2
                    try clear hfz14_3
                    try clear hfz14_4
                    try clear hfz14_5
                    try clear hfz15_0
                    try clear hfz15_1
                    try clear hfz15_2
                    try clear hfz15_3
                    try clear hfz15_4
                    try clear hfz15_5
                    try clear hfz16_0
                    try clear hfz16_1
                    try clear hfz16_2
                    try clear hfz16_3
                    try clear hfz16_4
                    try clear hfz16_5
                    try clear hfz19_0
                    try clear hfz19_1
                    try clear hfz19_2
                    try clear hfz19_3
                    try clear hfz19_4
                    try clear hfz19_5
                    try clear hfz21_0
                    try clear hfz21_1
                    try clear hfz21_2
                    try clear hfz21_3
                    try clear hfz21_4
                    try clear hfz21_5
                    try clear hfz22_0
                    try clear hfz22_1
                    try clear hfz22_2
                    try clear hfz22_3
                    try clear hfz22_4
                    try clear hfz22_5
                    try clear hfz32_0
                    try clear hfz32_1
                    try clear hfz32_2
                    try clear hfz32_3
                    try clear hfz32_4
                    try clear hfz32_5
                    try clear hfz34_0
                    try clear hfz34_1
                    try clear hfz34_2
                    try clear hfz34_3
                    try clear hfz34_4
                    try clear hfz34_5
                    try clear hfz36_0
                    try clear hfz36_1
                    try clear hfz36_2
                    try clear hfz36_3
                    try clear hfz36_4
                    try clear hfz36_5
                    try clear hfz7_0
                    try clear hfz7_1
                    try clear hfz7_2
                    try clear hfz7_3
                    try clear hfz7_4
                    try clear hfz7_5
                    try clear hx192_0
                    try clear p192
                    try clear p2
                    try clear q192
                    obtain ⟨x5_3, x71_3, rfl, rfl, HA, HK3, BK187, HB⟩ := hrel
                    cases gk with
                    | zero => exact absurd HA.out (by simp [box_May.l1])
                    | succ k3 =>
                      have H := HA.out
                      clear HA
                      simp only [box_May.l1] at H
                      by_cases c37 : x71_3 < (l0_5.length : Int)
                      · rw [if_pos c37] at H
                        have c37b0 : decide (x71_3 < (l0_5.length : Int)) = true := decide_eq_true c37
                        clear c37
                        by_cases c38 : 0 ≤ x71_3
                        · rw [if_pos c38] at H
                          have c38b0 : decide (0 ≤ x71_3) = true := decide_eq_true c38
                          clear c38
                          by_cases c39 : x71_3 < (l0_5.length : Int)
                          · rw [if_pos c39] at H
                            have c39b0 : decide (x71_3 < (l0_5.length : Int)) = true := decide_eq_true c39
                            clear c39
                            replace H := Option.bind_eq_some_iff.mp H
                            obtain ⟨t198, A400, H⟩ := H
                            replace H : (if t198 = 0 then (if ((rd_T31 l0_5 x71_3).f0) ≤ x5_3 then (some 1) else (if ((rd_T31 l0_5 x71_3).f0) ≥ a0_2 then (some 1) else (if ((rd_T31 l0_5 x71_3).f1) > a0_3 then (some 1) else (box_May.l1 k3 ((rd_T31 l0_5 x71_3).f0) l0_5 (l0_5.length : Int) (wrap64 (x71_3 + 1)) a0_0 a0_1 a0_2 a0_3 l0_4 l0_5)))) else (some 1)) = some r := H
                            have A40 := Aside0.mk A400
                            clear A400
                            by_cases c41 : t198 = 0
                            · rw [if_pos c41] at H
                              have c41b0 : (t198 == 0) = true := beq_iff_eq.mpr c41
                              have c41b1 : (t198 != 0) = false := bne_eq_false_iff_eq.mpr c41
                              clear c41
                              by_cases c42 : ((rd_T31 l0_5 x71_3).f0) ≤ x5_3
                              · rw [if_pos c42] at H
                                have c42b0 : decide (((rd_T31 l0_5 x71_3).f0) ≤ x5_3) = true := decide_eq_true c42
                                clear c42
                                obtain rfl := Option.some.inj H
                                have p196 : 0 ≤ (x71_3 : Int) := of_decide_eq_true (by first | (with_reducible assumption) | assumption)
                                have q196 : x71_3 < (l0_5.length : Int) := of_decide_eq_true (by first | (with_reducible assumption) | assumption)
                                obtain ⟨ad196, A196_5, c196_5, e196, hx196_0, hx196_1, hx196_2, hx196_3, hx196_4, hx196_5, hx196_6, hl196_5, hi196_5⟩ := at_T31 HR0_5.out x71_3 p196 q196
                                cases e196
                                replace hx196_0 := (HB.out.cell (World.block_lt_of_cell? w _ hx196_0)).trans hx196_0
                                replace hx196_1 := (HB.out.cell (World.block_lt_of_cell? w _ hx196_1)).trans hx196_1
                                replace hx196_2 := (HB.out.cell (World.block_lt_of_cell? w _ hx196_2)).trans hx196_2
                                replace hx196_3 := (HB.out.cell (World.block_lt_of_cell? w _ hx196_3)).trans hx196_3
                                replace hx196_4 := (HB.out.cell (World.block_lt_of_cell? w _ hx196_4)).trans hx196_4
                                replace hx196_5 := (HB.out.cell (World.block_lt_of_cell? w _ hx196_5)).trans hx196_5
                                replace hx196_6 := (HB.out.cell (World.block_lt_of_cell? w _ hx196_6)).trans hx196_6
                                have HR196_5 := Aside0.mk hi196_5
                                have HC196_5 := Aside0.mk hl196_5
                                clear hi196_5 hl196_5
                                replace p196 := eq_true p196
                                replace q196 := eq_true q196
                                go_wp2_with (first | ((with_reducible refine gate_dst (N := 7) rfl ?_); (try (refine gate_guard (by rfl) ?_; dsimp only)); refine box_event ?hg (N := 7) ?hd (cs := #[.int .i64 0, .int .i64 0, .int .i64 0, .string (⟨#[]⟩ : ByteArray), .int .i64 0, .slice none 0 0, .string (⟨#[]⟩ : ByteArray)]) (t := 31) ?hr ?_; (case hd => rfl); (case hg => rfl); (case hr => first | (go_simp; done) | (go_simp; rfl)); intro gb197 hg w43 hbox hb; have n0_ := Aside0.mk (blk_below (g := gb187) (o := .cells #[.string a0_0, .int .i64 a0_1, .int .i64 a0_2, .int .i64 a0_3, .slice A0_4 l0_4.length c0_4, .slice (some ad196) l0_5.length c0_5] 26 (0, 0)) (by (with_reducible repeat (first | refine blk_drewN ?_ _ | refine blk_drew ?_ | refine blk_alloc ?_ _)); exact BK187.out) hb); have n1_ := Aside0.mk (below_step (by repeat (first | (with_reducible first | exact HB.out | apply below_alloc | apply pw_below_drewN | apply below_drew1 | refine below_set ?_ GE187.out) | exact HB.out)) hb); have n2_ := Aside0.mk (hbox); have n3_ := Aside0.mk ((by rw [hg]; exact (below_size (by repeat (first | (with_reducible first | exact HB.out | apply below_alloc | apply pw_below_drewN | apply below_drew1 | refine below_set ?_ GE187.out) | exact HB.out))) : w.heap.size ≤ gb197)); have n4_ := Aside0.mk ((by rw [hg]; exact (below_size (by repeat (first | (with_reducible first | exact HB.out | apply below_alloc | apply pw_below_drewN | apply below_drew1 | refine below_set ?_ GE187.out) | exact HB.out))) : w.heap.size ≤ gb197)); have n5_ := Aside0.mk ((by rw [hg]; exact Nat.ne_of_lt (blk_lt (g := gb187) (o := .cells #[.string a0_0, .int .i64 a0_1, .int .i64 a0_2, .int .i64 a0_3, .slice A0_4 l0_4.length c0_4, .slice (some ad196) l0_5.length c0_5] 26 (0, 0)) (by (with_reducible repeat (first | refine blk_drewN ?_ _ | refine blk_drew ?_ | refine blk_alloc ?_ _)); exact BK187.out)) : gb187 ≠ gb197)); have n6_ := Aside0.mk ((by rw [hg]; exact Nat.ne_of_gt (blk_lt (g := gb187) (o := .cells #[.string a0_0, .int .i64 a0_1, .int .i64 a0_2, .int .i64 a0_3, .slice A0_4 l0_4.length c0_4, .slice (some ad196) l0_5.length c0_5] 26 (0, 0)) (by (with_reducible repeat (first | refine blk_drewN ?_ _ | refine blk_drew ?_ | refine blk_alloc ?_ _)); exact BK187.out)) : gb197 ≠ gb187)); clear BK187; clear HB; have BK187 := n0_; have HB := n1_; have BK197 := n2_; have GW197 := n3_; have GE197 := n4_; have NB187_197 := n5_; have NB197_187 := n6_; clear n0_ n1_ n2_ n3_ n4_ n5_ n6_; clear hb hbox hg; have hnb44 := NB197_187.out; have hnc44 := NB187_197.out; have hcz45_0 : w43.cell? ⟨gb197, 0, none⟩ = some (.int .i64 0) := (blk_cell BK197.out 0).trans rfl; have hcz45_1 : w43.cell? ⟨gb197, 1, none⟩ = some (.int .i64 0) := (blk_cell BK197.out 1).trans rfl; have hcz45_2 : w43.cell? ⟨gb197, 2, none⟩ = some (.int .i64 0) := (blk_cell BK197.out 2).trans rfl; have hcz45_3 : w43.cell? ⟨gb197, 3, none⟩ = some (.string (⟨#[]⟩ : ByteArray)) := (blk_cell BK197.out 3).trans rfl; have hcz45_4 : w43.cell? ⟨gb197, 4, none⟩ = some (.int .i64 0) := (blk_cell BK197.out 4).trans rfl; have hcz45_5 : w43.cell? ⟨gb197, 5, none⟩ = some (.slice none 0 0) := (blk_cell BK197.out 5).trans rfl; have hcz45_6 : w43.cell? ⟨gb197, 6, none⟩ = some (.string (⟨#[]⟩ : ByteArray)) := (blk_cell BK197.out 6).trans rfl; have hfz45_0 := blk_frozen BK197.out 0; have hfz45_1 := blk_frozen BK197.out 1; have hfz45_2 := blk_frozen BK197.out 2; have hfz45_3 := blk_frozen BK197.out 3; have hfz45_4 := blk_frozen BK197.out 4; have hfz45_5 := blk_frozen BK197.out 5; have hfz45_6 := blk_frozen BK197.out 6; have hcz46_0 : w43.cell? ⟨gb187, 0, none⟩ = some (.string a0_0) := (blk_cell BK187.out 0).trans rfl; have hcz46_1 : w43.cell? ⟨gb187, 1, none⟩ = some (.int .i64 a0_1) := (blk_cell BK187.out 1).trans rfl; have hcz46_2 : w43.cell? ⟨gb187, 2, none⟩ = some (.int .i64 a0_2) := (blk_cell BK187.out 2).trans rfl; have hcz46_3 : w43.cell? ⟨gb187, 3, none⟩ = some (.int .i64 a0_3) := (blk_cell BK187.out 3).trans rfl; have hcz46_4 : w43.cell? ⟨gb187, 4, none⟩ = some (.slice A0_4 l0_4.length c0_4) := (blk_cell BK187.out 4).trans rfl; have hcz46_5 : w43.cell? ⟨gb187, 5, none⟩ = some (.slice (some ad196) l0_5.length c0_5) := (blk_cell BK187.out 5).trans rfl; have hfz46_0 := blk_frozen BK187.out 0; have hfz46_1 := blk_frozen BK187.out 1; have hfz46_2 := blk_frozen BK187.out 2; have hfz46_3 := blk_frozen BK187.out 3; have hfz46_4 := blk_frozen BK187.out 4; have hfz46_5 := blk_frozen BK187.out 5) | ((with_reducible refine gate_callee (f := 16) rfl ?_); refine goesL_ (some 77) rfl rfl Tryd.func16 (by kernel_rfl) rfl #[.agg #[.string a0_0, .int .i64 a0_1, .int .i64 a0_2, .int .i64 a0_3, .slice A0_4 l0_4.length c0_4, .slice (some ad196) l0_5.length c0_5], .agg #[.int .i64 ((rd_T31 l0_5 x71_3).f0), .int .i64 ((rd_T31 l0_5 x71_3).f1), .int .i64 ((rd_T31 l0_5 x71_3).f2), .string ((rd_T31 l0_5 x71_3).f3), .int .i64 ((rd_T31 l0_5 x71_3).f4), .slice A196_5 ((rd_T31 l0_5 x71_3).f5).length c196_5, .string ((rd_T31 l0_5 x71_3).f6)]] rfl (by (try simp only [List.map_toArray, List.map_cons, List.map_nil]); first | done | rfl | (simp only [List.length_drop, List.length_take]; rfl)) ?_; (with_reducible refine (box_MayMsg.calls k3 a0_0 a0_1 a0_2 a0_3 _ _ l0_4 _ _ l0_5 ((rd_T31 l0_5 x71_3).f0) ((rd_T31 l0_5 x71_3).f1) ((rd_T31 l0_5 x71_3).f2) ((rd_T31 l0_5 x71_3).f3) ((rd_T31 l0_5 x71_3).f4) _ _ ((rd_T31 l0_5 x71_3).f5) ((rd_T31 l0_5 x71_3).f6) t198 _ ?side1 ?side2 ?side3 ?side4 ?side5 ?side6 A40.out).mono ?_); (case side1 => exact Kd.C_below HR0_4.out (by repeat (first | (with_reducible first | exact HB.out | apply below_alloc | apply pw_below_drewN | apply below_drew1 | refine below_set ?_ GE187.out | refine below_set ?_ GE197.out) | exact HB.out))); (case side2 => exact HC0_4.out); (case side3 => exact Kd.C_below HR0_5.out (by repeat (first | (with_reducible first | exact HB.out | apply below_alloc | apply pw_below_drewN | apply below_drew1 | refine below_set ?_ GE187.out | refine below_set ?_ GE197.out) | exact HB.out))); (case side4 => exact HC0_5.out); (case side5 => exact Kd.C_below HR196_5.out (by repeat (first | (with_reducible first | exact HB.out | apply below_alloc | apply pw_below_drewN | apply below_drew1 | refine below_set ?_ GE187.out | refine below_set ?_ GE197.out) | exact HB.out))); (case side6 => exact HC196_5.out); rintro e w47 ⟨rfl, hb⟩; refine ⟨_, rfl, ?_⟩; have n0_ := Aside0.mk (blk_below (g := gb187) (o := .cells #[.string a0_0, .int .i64 a0_1, .int .i64 a0_2, .int .i64 a0_3, .slice A0_4 l0_4.length c0_4, .slice (some ad196) l0_5.length c0_5] 26 (0, 0)) (by (with_reducible repeat (first | refine blk_drewN ?_ _ | refine blk_drew ?_ | refine blk_alloc ?_ _)); refine blk_far ?_ NB187_197.out _; (with_reducible repeat (first | refine blk_drewN ?_ _ | refine blk_drew ?_ | refine blk_alloc ?_ _)); refine blk_far ?_ NB187_197.out _; (with_reducible repeat (first | refine blk_drewN ?_ _ | refine blk_drew ?_ | refine blk_alloc ?_ _)); refine blk_far ?_ NB187_197.out _; (with_reducible repeat (first | refine blk_drewN ?_ _ | refine blk_drew ?_ | refine blk_alloc ?_ _)); refine blk_far ?_ NB187_197.out _; (with_reducible repeat (first | refine blk_drewN ?_ _ | refine blk_drew ?_ | refine blk_alloc ?_ _)); refine blk_far ?_ NB187_197.out _; (with_reducible repeat (first | refine blk_drewN ?_ _ | refine blk_drew ?_ | refine blk_alloc ?_ _)); refine blk_far ?_ NB187_197.out _; (with_reducible repeat (first | refine blk_drewN ?_ _ | refine blk_drew ?_ | refine blk_alloc ?_ _)); refine blk_far ?_ NB187_197.out _; (with_reducible repeat (first | refine blk_drewN ?_ _ | refine blk_drew ?_ | refine blk_alloc ?_ _)); exact BK187.out) hb); have n1_ := Aside0.mk (blk_below (g := gb197) (o := .cells #[.int .i64 ((rd_T31 l0_5 x71_3).f0), .int .i64 ((rd_T31 l0_5 x71_3).f1), .int .i64 ((rd_T31 l0_5 x71_3).f2), .string ((rd_T31 l0_5 x71_3).f3), .int .i64 ((rd_T31 l0_5 x71_3).f4), .slice A196_5 ((rd_T31 l0_5 x71_3).f5).length c196_5, .string ((rd_T31 l0_5 x71_3).f6)] 31 (0, 0)) (by (with_reducible repeat (first | refine blk_drewN ?_ _ | refine blk_drew ?_ | refine blk_alloc ?_ _)); refine blk_put (cs := #[.int .i64 ((rd_T31 l0_5 x71_3).f0), .int .i64 ((rd_T31 l0_5 x71_3).f1), .int .i64 ((rd_T31 l0_5 x71_3).f2), .string ((rd_T31 l0_5 x71_3).f3), .int .i64 ((rd_T31 l0_5 x71_3).f4), .slice A196_5 ((rd_T31 l0_5 x71_3).f5).length c196_5, .string (⟨#[]⟩ : ByteArray)]) ?_ 6 _ rfl; (with_reducible repeat (first | refine blk_drewN ?_ _ | refine blk_drew ?_ | refine blk_alloc ?_ _)); refine blk_put (cs := #[.int .i64 ((rd_T31 l0_5 x71_3).f0), .int .i64 ((rd_T31 l0_5 x71_3).f1), .int .i64 ((rd_T31 l0_5 x71_3).f2), .string ((rd_T31 l0_5 x71_3).f3), .int .i64 ((rd_T31 l0_5 x71_3).f4), .slice none 0 0, .string (⟨#[]⟩ : ByteArray)]) ?_ 5 _ rfl; (with_reducible repeat (first | refine blk_drewN ?_ _ | refine blk_drew ?_ | refine blk_alloc ?_ _)); refine blk_put (cs := #[.int .i64 ((rd_T31 l0_5 x71_3).f0), .int .i64 ((rd_T31 l0_5 x71_3).f1), .int .i64 ((rd_T31 l0_5 x71_3).f2), .string ((rd_T31 l0_5 x71_3).f3), .int .i64 0, .slice none 0 0, .string (⟨#[]⟩ : ByteArray)]) ?_ 4 _ rfl; (with_reducible repeat (first | refine blk_drewN ?_ _ | refine blk_drew ?_ | refine blk_alloc ?_ _)); refine blk_put (cs := #[.int .i64 ((rd_T31 l0_5 x71_3).f0), .int .i64 ((rd_T31 l0_5 x71_3).f1), .int .i64 ((rd_T31 l0_5 x71_3).f2), .string (⟨#[]⟩ : ByteArray), .int .i64 0, .slice none 0 0, .string (⟨#[]⟩ : ByteArray)]) ?_ 3 _ rfl; (with_reducible repeat (first | refine blk_drewN ?_ _ | refine blk_drew ?_ | refine blk_alloc ?_ _)); refine blk_put (cs := #[.int .i64 ((rd_T31 l0_5 x71_3).f0), .int .i64 ((rd_T31 l0_5 x71_3).f1), .int .i64 0, .string (⟨#[]⟩ : ByteArray), .int .i64 0, .slice none 0 0, .string (⟨#[]⟩ : ByteArray)]) ?_ 2 _ rfl; (with_reducible repeat (first | refine blk_drewN ?_ _ | refine blk_drew ?_ | refine blk_alloc ?_ _)); refine blk_put (cs := #[.int .i64 ((rd_T31 l0_5 x71_3).f0), .int .i64 0, .int .i64 0, .string (⟨#[]⟩ : ByteArray), .int .i64 0, .slice none 0 0, .string (⟨#[]⟩ : ByteArray)]) ?_ 1 _ rfl; (with_reducible repeat (first | refine blk_drewN ?_ _ | refine blk_drew ?_ | refine blk_alloc ?_ _)); refine blk_put (cs := #[.int .i64 0, .int .i64 0, .int .i64 0, .string (⟨#[]⟩ : ByteArray), .int .i64 0, .slice none 0 0, .string (⟨#[]⟩ : ByteArray)]) ?_ 0 _ rfl; (with_reducible repeat (first | refine blk_drewN ?_ _ | refine blk_drew ?_ | refine blk_alloc ?_ _)); exact BK197.out) hb); have n2_ := Aside0.mk (below_step (by repeat (first | (with_reducible first | exact HB.out | apply below_alloc | apply pw_below_drewN | apply below_drew1 | refine below_set ?_ GE187.out | refine below_set ?_ GE197.out) | exact HB.out)) hb); clear BK187; clear BK197; clear HB; have BK187 := n0_; have BK197 := n1_; have HB := n2_; clear n0_ n1_ n2_; (try clear hb); (try clear hb2); (try clear hk); (try clear hi); have hcz48_0 : w47.cell? ⟨gb197, 0, none⟩ = some (.int .i64 ((rd_T31 l0_5 x71_3).f0)) := (blk_cell BK197.out 0).trans rfl; have hcz48_1 : w47.cell? ⟨gb197, 1, none⟩ = some (.int .i64 ((rd_T31 l0_5 x71_3).f1)) := (blk_cell BK197.out 1).trans rfl; have hcz48_2 : w47.cell? ⟨gb197, 2, none⟩ = some (.int .i64 ((rd_T31 l0_5 x71_3).f2)) := (blk_cell BK197.out 2).trans rfl; have hcz48_3 : w47.cell? ⟨gb197, 3, none⟩ = some (.string ((rd_T31 l0_5 x71_3).f3)) := (blk_cell BK197.out 3).trans rfl; have hcz48_4 : w47.cell? ⟨gb197, 4, none⟩ = some (.int .i64 ((rd_T31 l0_5 x71_3).f4)) := (blk_cell BK197.out 4).trans rfl; have hcz48_5 : w47.cell? ⟨gb197, 5, none⟩ = some (.slice A196_5 ((rd_T31 l0_5 x71_3).f5).length c196_5) := (blk_cell BK197.out 5).trans rfl; have hcz48_6 : w47.cell? ⟨gb197, 6, none⟩ = some (.string ((rd_T31 l0_5 x71_3).f6)) := (blk_cell BK197.out 6).trans rfl; have hfz48_0 := blk_frozen BK197.out 0; have hfz48_1 := blk_frozen BK197.out 1; have hfz48_2 := blk_frozen BK197.out 2; have hfz48_3 := blk_frozen BK197.out 3; have hfz48_4 := blk_frozen BK197.out 4; have hfz48_5 := blk_frozen BK197.out 5; have hfz48_6 := blk_frozen BK197.out 6))
                                go_ret
                                exact ⟨by first | rfl | (simp [errW_none, errW_some] <;> rfl) | (simp [*, errW_none, errW_some] <;> rfl), by repeat (first | (with_reducible first | exact HB.out | apply below_alloc | apply pw_below_drewN | apply below_drew1 | refine below_set ?_ GE187.out | refine below_set ?_ GE197.out) | exact HB.out)⟩
                              · rw [if_neg c42] at H
                                have c42b0 : decide (((rd_T31 l0_5 x71_3).f0) ≤ x5_3) = false := decide_eq_false c42
                                clear c42
                                by_cases c49 : ((rd_T31 l0_5 x71_3).f0) ≥ a0_2
                                · rw [if_pos c49] at H
                                  have c49b0 : decide (a0_2 ≤ ((rd_T31 l0_5 x71_3).f0)) = true := decide_eq_true c49
                                  clear c49
                                  obtain rfl := Option.some.inj H
                                  have p196 : 0 ≤ (x71_3 : Int) := of_decide_eq_true (by first | (with_reducible assumption) | assumption)
                                  have q196 : x71_3 < (l0_5.length : Int) := of_decide_eq_true (by first | (with_reducible assumption) | assumption)
                                  obtain ⟨ad196, A196_5, c196_5, e196, hx196_0, hx196_1, hx196_2, hx196_3, hx196_4, hx196_5, hx196_6, hl196_5, hi196_5⟩ := at_T31 HR0_5.out x71_3 p196 q196
                                  cases e196
                                  replace hx196_0 := (HB.out.cell (World.block_lt_of_cell? w _ hx196_0)).trans hx196_0
                                  replace hx196_1 := (HB.out.cell (World.block_lt_of_cell? w _ hx196_1)).trans hx196_1
                                  replace hx196_2 := (HB.out.cell (World.block_lt_of_cell? w _ hx196_2)).trans hx196_2
                                  replace hx196_3 := (HB.out.cell (World.block_lt_of_cell? w _ hx196_3)).trans hx196_3
                                  replace hx196_4 := (HB.out.cell (World.block_lt_of_cell? w _ hx196_4)).trans hx196_4
                                  replace hx196_5 := (HB.out.cell (World.block_lt_of_cell? w _ hx196_5)).trans hx196_5
                                  replace hx196_6 := (HB.out.cell (World.block_lt_of_cell? w _ hx196_6)).trans hx196_6
                                  have HR196_5 := Aside0.mk hi196_5
                                  have HC196_5 := Aside0.mk hl196_5
                                  clear hi196_5 hl196_5
                                  replace p196 := eq_true p196
                                  replace q196 := eq_true q196
                                  go_wp2_with (first | ((with_reducible refine gate_dst (N := 7) rfl ?_); (try (refine gate_guard (by rfl) ?_; dsimp only)); refine box_event ?hg (N := 7) ?hd (cs := #[.int .i64 0, .int .i64 0, .int .i64 0, .string (⟨#[]⟩ : ByteArray), .int .i64 0, .slice none 0 0, .string (⟨#[]⟩ : ByteArray)]) (t := 31) ?hr ?_; (case hd => rfl); (case hg => rfl); (case hr => first | (go_simp; done) | (go_simp; rfl)); intro gb197 hg w50 hbox hb; have n0_ := Aside0.mk (blk_below (g := gb187) (o := .cells #[.string a0_0, .int .i64 a0_1, .int .i64 a0_2, .int .i64 a0_3, .slice A0_4 l0_4.length c0_4, .slice (some ad196) l0_5.length c0_5] 26 (0, 0)) (by (with_reducible repeat (first | refine blk_drewN ?_ _ | refine blk_drew ?_ | refine blk_alloc ?_ _)); exact BK187.out) hb); have n1_ := Aside0.mk (below_step (by repeat (first | (with_reducible first | exact HB.out | apply below_alloc | apply pw_below_drewN | apply below_drew1 | refine below_set ?_ GE187.out) | exact HB.out)) hb); have n2_ := Aside0.mk (hbox); have n3_ := Aside0.mk ((by rw [hg]; exact (below_size (by repeat (first | (with_reducible first | exact HB.out | apply below_alloc | apply pw_below_drewN | apply below_drew1 | refine below_set ?_ GE187.out) | exact HB.out))) : w.heap.size ≤ gb197)); have n4_ := Aside0.mk ((by rw [hg]; exact (below_size (by repeat (first | (with_reducible first | exact HB.out | apply below_alloc | apply pw_below_drewN | apply below_drew1 | refine below_set ?_ GE187.out) | exact HB.out))) : w.heap.size ≤ gb197)); have n5_ := Aside0.mk ((by rw [hg]; exact Nat.ne_of_lt (blk_lt (g := gb187) (o := .cells #[.string a0_0, .int .i64 a0_1, .int .i64 a0_2, .int .i64 a0_3, .slice A0_4 l0_4.length c0_4, .slice (some ad196) l0_5.length c0_5] 26 (0, 0)) (by (with_reducible repeat (first | refine blk_drewN ?_ _ | refine blk_drew ?_ | refine blk_alloc ?_ _)); exact BK187.out)) : gb187 ≠ gb197)); have n6_ := Aside0.mk ((by rw [hg]; exact Nat.ne_of_gt (blk_lt (g := gb187) (o := .cells #[.string a0_0, .int .i64 a0_1, .int .i64 a0_2, .int .i64 a0_3, .slice A0_4 l0_4.length c0_4, .slice (some ad196) l0_5.length c0_5] 26 (0, 0)) (by (with_reducible repeat (first | refine blk_drewN ?_ _ | refine blk_drew ?_ | refine blk_alloc ?_ _)); exact BK187.out)) : gb197 ≠ gb187)); clear BK187; clear HB; have BK187 := n0_; have HB := n1_; have BK197 := n2_; have GW197 := n3_; have GE197 := n4_; have NB187_197 := n5_; have NB197_187 := n6_; clear n0_ n1_ n2_ n3_ n4_ n5_ n6_; clear hb hbox hg; have hnb51 := NB197_187.out; have hnc51 := NB187_197.out; have hcz52_0 : w50.cell? ⟨gb197, 0, none⟩ = some (.int .i64 0) := (blk_cell BK197.out 0).trans rfl; have hcz52_1 : w50.cell? ⟨gb197, 1, none⟩ = some (.int .i64 0) := (blk_cell BK197.out 1).trans rfl; have hcz52_2 : w50.cell? ⟨gb197, 2, none⟩ = some (.int .i64 0) := (blk_cell BK197.out 2).trans rfl; have hcz52_3 : w50.cell? ⟨gb197, 3, none⟩ = some (.string (⟨#[]⟩ : ByteArray)) := (blk_cell BK197.out 3).trans rfl; have hcz52_4 : w50.cell? ⟨gb197, 4, none⟩ = some (.int .i64 0) := (blk_cell BK197.out 4).trans rfl; have hcz52_5 : w50.cell? ⟨gb197, 5, none⟩ = some (.slice none 0 0) := (blk_cell BK197.out 5).trans rfl; have hcz52_6 : w50.cell? ⟨gb197, 6, none⟩ = some (.string (⟨#[]⟩ : ByteArray)) := (blk_cell BK197.out 6).trans rfl; have hfz52_0 := blk_frozen BK197.out 0; have hfz52_1 := blk_frozen BK197.out 1; have hfz52_2 := blk_frozen BK197.out 2; have hfz52_3 := blk_frozen BK197.out 3; have hfz52_4 := blk_frozen BK197.out 4; have hfz52_5 := blk_frozen BK197.out 5; have hfz52_6 := blk_frozen BK197.out 6; have hcz53_0 : w50.cell? ⟨gb187, 0, none⟩ = some (.string a0_0) := (blk_cell BK187.out 0).trans rfl; have hcz53_1 : w50.cell? ⟨gb187, 1, none⟩ = some (.int .i64 a0_1) := (blk_cell BK187.out 1).trans rfl; have hcz53_2 : w50.cell? ⟨gb187, 2, none⟩ = some (.int .i64 a0_2) := (blk_cell BK187.out 2).trans rfl; have hcz53_3 : w50.cell? ⟨gb187, 3, none⟩ = some (.int .i64 a0_3) := (blk_cell BK187.out 3).trans rfl; have hcz53_4 : w50.cell? ⟨gb187, 4, none⟩ = some (.slice A0_4 l0_4.length c0_4) := (blk_cell BK187.out 4).trans rfl; have hcz53_5 : w50.cell? ⟨gb187, 5, none⟩ = some (.slice (some ad196) l0_5.length c0_5) := (blk_cell BK187.out 5).trans rfl; have hfz53_0 := blk_frozen BK187.out 0; have hfz53_1 := blk_frozen BK187.out 1; have hfz53_2 := blk_frozen BK187.out 2; have hfz53_3 := blk_frozen BK187.out 3; have hfz53_4 := blk_frozen BK187.out 4; have hfz53_5 := blk_frozen BK187.out 5) | ((with_reducible refine gate_callee (f := 16) rfl ?_); refine goesL_ (some 77) rfl rfl Tryd.func16 (by kernel_rfl) rfl #[.agg #[.string a0_0, .int .i64 a0_1, .int .i64 a0_2, .int .i64 a0_3, .slice A0_4 l0_4.length c0_4, .slice (some ad196) l0_5.length c0_5], .agg #[.int .i64 ((rd_T31 l0_5 x71_3).f0), .int .i64 ((rd_T31 l0_5 x71_3).f1), .int .i64 ((rd_T31 l0_5 x71_3).f2), .string ((rd_T31 l0_5 x71_3).f3), .int .i64 ((rd_T31 l0_5 x71_3).f4), .slice A196_5 ((rd_T31 l0_5 x71_3).f5).length c196_5, .string ((rd_T31 l0_5 x71_3).f6)]] rfl (by (try simp only [List.map_toArray, List.map_cons, List.map_nil]); first | done | rfl | (simp only [List.length_drop, List.length_take]; rfl)) ?_; (with_reducible refine (box_MayMsg.calls k3 a0_0 a0_1 a0_2 a0_3 _ _ l0_4 _ _ l0_5 ((rd_T31 l0_5 x71_3).f0) ((rd_T31 l0_5 x71_3).f1) ((rd_T31 l0_5 x71_3).f2) ((rd_T31 l0_5 x71_3).f3) ((rd_T31 l0_5 x71_3).f4) _ _ ((rd_T31 l0_5 x71_3).f5) ((rd_T31 l0_5 x71_3).f6) t198 _ ?side1 ?side2 ?side3 ?side4 ?side5 ?side6 A40.out).mono ?_); (case side1 => exact Kd.C_below HR0_4.out (by repeat (first | (with_reducible first | exact HB.out | apply below_alloc | apply pw_below_drewN | apply below_drew1 | refine below_set ?_ GE187.out | refine below_set ?_ GE197.out) | exact HB.out))); (case side2 => exact HC0_4.out); (case side3 => exact Kd.C_below HR0_5.out (by repeat (first | (with_reducible first | exact HB.out | apply below_alloc | apply pw_below_drewN | apply below_drew1 | refine below_set ?_ GE187.out | refine below_set ?_ GE197.out) | exact HB.out))); (case side4 => exact HC0_5.out); (case side5 => exact Kd.C_below HR196_5.out (by repeat (first | (with_reducible first | exact HB.out | apply below_alloc | apply pw_below_drewN | apply below_drew1 | refine below_set ?_ GE187.out | refine below_set ?_ GE197.out) | exact HB.out))); (case side6 => exact HC196_5.out); rintro e w54 ⟨rfl, hb⟩; refine ⟨_, rfl, ?_⟩; have n0_ := Aside0.mk (blk_below (g := gb187) (o := .cells #[.string a0_0, .int .i64 a0_1, .int .i64 a0_2, .int .i64 a0_3, .slice A0_4 l0_4.length c0_4, .slice (some ad196) l0_5.length c0_5] 26 (0, 0)) (by (with_reducible repeat (first | refine blk_drewN ?_ _ | refine blk_drew ?_ | refine blk_alloc ?_ _)); refine blk_far ?_ NB187_197.out _; (with_reducible repeat (first | refine blk_drewN ?_ _ | refine blk_drew ?_ | refine blk_alloc ?_ _)); refine blk_far ?_ NB187_197.out _; (with_reducible repeat (first | refine blk_drewN ?_ _ | refine blk_drew ?_ | refine blk_alloc ?_ _)); refine blk_far ?_ NB187_197.out _; (with_reducible repeat (first | refine blk_drewN ?_ _ | refine blk_drew ?_ | refine blk_alloc ?_ _)); refine blk_far ?_ NB187_197.out _; (with_reducible repeat (first | refine blk_drewN ?_ _ | refine blk_drew ?_ | refine blk_alloc ?_ _)); refine blk_far ?_ NB187_197.out _; (with_reducible repeat (first | refine blk_drewN ?_ _ | refine blk_drew ?_ | refine blk_alloc ?_ _)); refine blk_far ?_ NB187_197.out _; (with_reducible repeat (first | refine blk_drewN ?_ _ | refine blk_drew ?_ | refine blk_alloc ?_ _)); refine blk_far ?_ NB187_197.out _; (with_reducible repeat (first | refine blk_drewN ?_ _ | refine blk_drew ?_ | refine blk_alloc ?_ _)); exact BK187.out) hb); have n1_ := Aside0.mk (blk_below (g := gb197) (o := .cells #[.int .i64 ((rd_T31 l0_5 x71_3).f0), .int .i64 ((rd_T31 l0_5 x71_3).f1), .int .i64 ((rd_T31 l0_5 x71_3).f2), .string ((rd_T31 l0_5 x71_3).f3), .int .i64 ((rd_T31 l0_5 x71_3).f4), .slice A196_5 ((rd_T31 l0_5 x71_3).f5).length c196_5, .string ((rd_T31 l0_5 x71_3).f6)] 31 (0, 0)) (by (with_reducible repeat (first | refine blk_drewN ?_ _ | refine blk_drew ?_ | refine blk_alloc ?_ _)); refine blk_put (cs := #[.int .i64 ((rd_T31 l0_5 x71_3).f0), .int .i64 ((rd_T31 l0_5 x71_3).f1), .int .i64 ((rd_T31 l0_5 x71_3).f2), .string ((rd_T31 l0_5 x71_3).f3), .int .i64 ((rd_T31 l0_5 x71_3).f4), .slice A196_5 ((rd_T31 l0_5 x71_3).f5).length c196_5, .string (⟨#[]⟩ : ByteArray)]) ?_ 6 _ rfl; (with_reducible repeat (first | refine blk_drewN ?_ _ | refine blk_drew ?_ | refine blk_alloc ?_ _)); refine blk_put (cs := #[.int .i64 ((rd_T31 l0_5 x71_3).f0), .int .i64 ((rd_T31 l0_5 x71_3).f1), .int .i64 ((rd_T31 l0_5 x71_3).f2), .string ((rd_T31 l0_5 x71_3).f3), .int .i64 ((rd_T31 l0_5 x71_3).f4), .slice none 0 0, .string (⟨#[]⟩ : ByteArray)]) ?_ 5 _ rfl; (with_reducible repeat (first | refine blk_drewN ?_ _ | refine blk_drew ?_ | refine blk_alloc ?_ _)); refine blk_put (cs := #[.int .i64 ((rd_T31 l0_5 x71_3).f0), .int .i64 ((rd_T31 l0_5 x71_3).f1), .int .i64 ((rd_T31 l0_5 x71_3).f2), .string ((rd_T31 l0_5 x71_3).f3), .int .i64 0, .slice none 0 0, .string (⟨#[]⟩ : ByteArray)]) ?_ 4 _ rfl; (with_reducible repeat (first | refine blk_drewN ?_ _ | refine blk_drew ?_ | refine blk_alloc ?_ _)); refine blk_put (cs := #[.int .i64 ((rd_T31 l0_5 x71_3).f0), .int .i64 ((rd_T31 l0_5 x71_3).f1), .int .i64 ((rd_T31 l0_5 x71_3).f2), .string (⟨#[]⟩ : ByteArray), .int .i64 0, .slice none 0 0, .string (⟨#[]⟩ : ByteArray)]) ?_ 3 _ rfl; (with_reducible repeat (first | refine blk_drewN ?_ _ | refine blk_drew ?_ | refine blk_alloc ?_ _)); refine blk_put (cs := #[.int .i64 ((rd_T31 l0_5 x71_3).f0), .int .i64 ((rd_T31 l0_5 x71_3).f1), .int .i64 0, .string (⟨#[]⟩ : ByteArray), .int .i64 0, .slice none 0 0, .string (⟨#[]⟩ : ByteArray)]) ?_ 2 _ rfl; (with_reducible repeat (first | refine blk_drewN ?_ _ | refine blk_drew ?_ | refine blk_alloc ?_ _)); refine blk_put (cs := #[.int .i64 ((rd_T31 l0_5 x71_3).f0), .int .i64 0, .int .i64 0, .string (⟨#[]⟩ : ByteArray), .int .i64 0, .slice none 0 0, .string (⟨#[]⟩ : ByteArray)]) ?_ 1 _ rfl; (with_reducible repeat (first | refine blk_drewN ?_ _ | refine blk_drew ?_ | refine blk_alloc ?_ _)); refine blk_put (cs := #[.int .i64 0, .int .i64 0, .int .i64 0, .string (⟨#[]⟩ : ByteArray), .int .i64 0, .slice none 0 0, .string (⟨#[]⟩ : ByteArray)]) ?_ 0 _ rfl; (with_reducible repeat (first | refine blk_drewN ?_ _ | refine blk_drew ?_ | refine blk_alloc ?_ _)); exact BK197.out) hb); have n2_ := Aside0.mk (below_step (by repeat (first | (with_reducible first | exact HB.out | apply below_alloc | apply pw_below_drewN | apply below_drew1 | refine below_set ?_ GE187.out | refine below_set ?_ GE197.out) | exact HB.out)) hb); clear BK187; clear BK197; clear HB; have BK187 := n0_; have BK197 := n1_; have HB := n2_; clear n0_ n1_ n2_; (try clear hb); (try clear hb2); (try clear hk); (try clear hi); have hcz55_0 : w54.cell? ⟨gb197, 0, none⟩ = some (.int .i64 ((rd_T31 l0_5 x71_3).f0)) := (blk_cell BK197.out 0).trans rfl; have hcz55_1 : w54.cell? ⟨gb197, 1, none⟩ = some (.int .i64 ((rd_T31 l0_5 x71_3).f1)) := (blk_cell BK197.out 1).trans rfl; have hcz55_2 : w54.cell? ⟨gb197, 2, none⟩ = some (.int .i64 ((rd_T31 l0_5 x71_3).f2)) := (blk_cell BK197.out 2).trans rfl; have hcz55_3 : w54.cell? ⟨gb197, 3, none⟩ = some (.string ((rd_T31 l0_5 x71_3).f3)) := (blk_cell BK197.out 3).trans rfl; have hcz55_4 : w54.cell? ⟨gb197, 4, none⟩ = some (.int .i64 ((rd_T31 l0_5 x71_3).f4)) := (blk_cell BK197.out 4).trans rfl; have hcz55_5 : w54.cell? ⟨gb197, 5, none⟩ = some (.slice A196_5 ((rd_T31 l0_5 x71_3).f5).length c196_5) := (blk_cell BK197.out 5).trans rfl; have hcz55_6 : w54.cell? ⟨gb197, 6, none⟩ = some (.string ((rd_T31 l0_5 x71_3).f6)) := (blk_cell BK197.out 6).trans rfl; have hfz55_0 := blk_frozen BK197.out 0; have hfz55_1 := blk_frozen BK197.out 1; have hfz55_2 := blk_frozen BK197.out 2; have hfz55_3 := blk_frozen BK197.out 3; have hfz55_4 := blk_frozen BK197.out 4; have hfz55_5 := blk_frozen BK197.out 5; have hfz55_6 := blk_frozen BK197.out 6; have hcz56_0 : w54.cell? ⟨gb187, 0, none⟩ = some (.string a0_0) := (blk_cell BK187.out 0).trans rfl; have hcz56_1 : w54.cell? ⟨gb187, 1, none⟩ = some (.int .i64 a0_1) := (blk_cell BK187.out 1).trans rfl; have hcz56_2 : w54.cell? ⟨gb187, 2, none⟩ = some (.int .i64 a0_2) := (blk_cell BK187.out 2).trans rfl; have hcz56_3 : w54.cell? ⟨gb187, 3, none⟩ = some (.int .i64 a0_3) := (blk_cell BK187.out 3).trans rfl; have hcz56_4 : w54.cell? ⟨gb187, 4, none⟩ = some (.slice A0_4 l0_4.length c0_4) := (blk_cell BK187.out 4).trans rfl; have hcz56_5 : w54.cell? ⟨gb187, 5, none⟩ = some (.slice (some ad196) l0_5.length c0_5) := (blk_cell BK187.out 5).trans rfl; have hfz56_0 := blk_frozen BK187.out 0; have hfz56_1 := blk_frozen BK187.out 1; have hfz56_2 := blk_frozen BK187.out 2; have hfz56_3 := blk_frozen BK187.out 3; have hfz56_4 := blk_frozen BK187.out 4; have hfz56_5 := blk_frozen BK187.out 5))
                                  go_ret
                                  exact ⟨by first | rfl | (simp [errW_none, errW_some] <;> rfl) | (simp [*, errW_none, errW_some] <;> rfl), by repeat (first | (with_reducible first | exact HB.out | apply below_alloc | apply pw_below_drewN | apply below_drew1 | refine below_set ?_ GE187.out | refine below_set ?_ GE197.out) | exact HB.out)⟩
                                · rw [if_neg c49] at H
                                  have c49b0 : decide (a0_2 ≤ ((rd_T31 l0_5 x71_3).f0)) = false := decide_eq_false c49
                                  clear c49
                                  by_cases c57 : ((rd_T31 l0_5 x71_3).f1) > a0_3
                                  · rw [if_pos c57] at H
                                    have c57b0 : decide (a0_3 < ((rd_T31 l0_5 x71_3).f1)) = true := decide_eq_true c57
                                    clear c57
                                    obtain rfl := Option.some.inj H
                                    have p196 : 0 ≤ (x71_3 : Int) := of_decide_eq_true (by first | (with_reducible assumption) | assumption)
                                    have q196 : x71_3 < (l0_5.length : Int) := of_decide_eq_true (by first | (with_reducible assumption) | assumption)
                                    obtain ⟨ad196, A196_5, c196_5, e196, hx196_0, hx196_1, hx196_2, hx196_3, hx196_4, hx196_5, hx196_6, hl196_5, hi196_5⟩ := at_T31 HR0_5.out x71_3 p196 q196
                                    cases e196
                                    replace hx196_0 := (HB.out.cell (World.block_lt_of_cell? w _ hx196_0)).trans hx196_0
                                    replace hx196_1 := (HB.out.cell (World.block_lt_of_cell? w _ hx196_1)).trans hx196_1
                                    replace hx196_2 := (HB.out.cell (World.block_lt_of_cell? w _ hx196_2)).trans hx196_2
                                    replace hx196_3 := (HB.out.cell (World.block_lt_of_cell? w _ hx196_3)).trans hx196_3
                                    replace hx196_4 := (HB.out.cell (World.block_lt_of_cell? w _ hx196_4)).trans hx196_4
                                    replace hx196_5 := (HB.out.cell (World.block_lt_of_cell? w _ hx196_5)).trans hx196_5
                                    replace hx196_6 := (HB.out.cell (World.block_lt_of_cell? w _ hx196_6)).trans hx196_6
                                    have HR196_5 := Aside0.mk hi196_5
                                    have HC196_5 := Aside0.mk hl196_5
                                    clear hi196_5 hl196_5
                                    replace p196 := eq_true p196
                                    replace q196 := eq_true q196
                                    go_wp2_with (first | ((with_reducible refine gate_dst (N := 7) rfl ?_); (try (refine gate_guard (by rfl) ?_; dsimp only)); refine box_event ?hg (N := 7) ?hd (cs := #[.int .i64 0, .int .i64 0, .int .i64 0, .string (⟨#[]⟩ : ByteArray), .int .i64 0, .slice none 0 0, .string (⟨#[]⟩ : ByteArray)]) (t := 31) ?hr ?_; (case hd => rfl); (case hg => rfl); (case hr => first | (go_simp; done) | (go_simp; rfl)); intro gb197 hg w58 hbox hb; have n0_ := Aside0.mk (blk_below (g := gb187) (o := .cells #[.string a0_0, .int .i64 a0_1, .int .i64 a0_2, .int .i64 a0_3, .slice A0_4 l0_4.length c0_4, .slice (some ad196) l0_5.length c0_5] 26 (0, 0)) (by (with_reducible repeat (first | refine blk_drewN ?_ _ | refine blk_drew ?_ | refine blk_alloc ?_ _)); exact BK187.out) hb); have n1_ := Aside0.mk (below_step (by repeat (first | (with_reducible first | exact HB.out | apply below_alloc | apply pw_below_drewN | apply below_drew1 | refine below_set ?_ GE187.out) | exact HB.out)) hb); have n2_ := Aside0.mk (hbox); have n3_ := Aside0.mk ((by rw [hg]; exact (below_size (by repeat (first | (with_reducible first | exact HB.out | apply below_alloc | apply pw_below_drewN | apply below_drew1 | refine below_set ?_ GE187.out) | exact HB.out))) : w.heap.size ≤ gb197)); have n4_ := Aside0.mk ((by rw [hg]; exact (below_size (by repeat (first | (with_reducible first | exact HB.out | apply below_alloc | apply pw_below_drewN | apply below_drew1 | refine below_set ?_ GE187.out) | exact HB.out))) : w.heap.size ≤ gb197)); have n5_ := Aside0.mk ((by rw [hg]; exact Nat.ne_of_lt (blk_lt (g := gb187) (o := .cells #[.string a0_0, .int .i64 a0_1, .int .i64 a0_2, .int .i64 a0_3, .slice A0_4 l0_4.length c0_4, .slice (some ad196) l0_5.length c0_5] 26 (0, 0)) (by (with_reducible repeat (first | refine blk_drewN ?_ _ | refine blk_drew ?_ | refine blk_alloc ?_ _)); exact BK187.out)) : gb187 ≠ gb197)); have n6_ := Aside0.mk ((by rw [hg]; exact Nat.ne_of_gt (blk_lt (g := gb187) (o := .cells #[.string a0_0, .int .i64 a0_1, .int .i64 a0_2, .int .i64 a0_3, .slice A0_4 l0_4.length c0_4, .slice (some ad196) l0_5.length c0_5] 26 (0, 0)) (by (with_reducible repeat (first | refine blk_drewN ?_ _ | refine blk_drew ?_ | refine blk_alloc ?_ _)); exact BK187.out)) : gb197 ≠ gb187)); clear BK187; clear HB; have BK187 := n0_; have HB := n1_; have BK197 := n2_; have GW197 := n3_; have GE197 := n4_; have NB187_197 := n5_; have NB197_187 := n6_; clear n0_ n1_ n2_ n3_ n4_ n5_ n6_; clear hb hbox hg; have hnb59 := NB197_187.out; have hnc59 := NB187_197.out; have hcz60_0 : w58.cell? ⟨gb197, 0, none⟩ = some (.int .i64 0) := (blk_cell BK197.out 0).trans rfl; have hcz60_1 : w58.cell? ⟨gb197, 1, none⟩ = some (.int .i64 0) := (blk_cell BK197.out 1).trans rfl; have hcz60_2 : w58.cell? ⟨gb197, 2, none⟩ = some (.int .i64 0) := (blk_cell BK197.out 2).trans rfl; have hcz60_3 : w58.cell? ⟨gb197, 3, none⟩ = some (.string (⟨#[]⟩ : ByteArray)) := (blk_cell BK197.out 3).trans rfl; have hcz60_4 : w58.cell? ⟨gb197, 4, none⟩ = some (.int .i64 0) := (blk_cell BK197.out 4).trans rfl; have hcz60_5 : w58.cell? ⟨gb197, 5, none⟩ = some (.slice none 0 0) := (blk_cell BK197.out 5).trans rfl; have hcz60_6 : w58.cell? ⟨gb197, 6, none⟩ = some (.string (⟨#[]⟩ : ByteArray)) := (blk_cell BK197.out 6).trans rfl; have hfz60_0 := blk_frozen BK197.out 0; have hfz60_1 := blk_frozen BK197.out 1; have hfz60_2 := blk_frozen BK197.out 2; have hfz60_3 := blk_frozen BK197.out 3; have hfz60_4 := blk_frozen BK197.out 4; have hfz60_5 := blk_frozen BK197.out 5; have hfz60_6 := blk_frozen BK197.out 6; have hcz61_0 : w58.cell? ⟨gb187, 0, none⟩ = some (.string a0_0) := (blk_cell BK187.out 0).trans rfl; have hcz61_1 : w58.cell? ⟨gb187, 1, none⟩ = some (.int .i64 a0_1) := (blk_cell BK187.out 1).trans rfl; have hcz61_2 : w58.cell? ⟨gb187, 2, none⟩ = some (.int .i64 a0_2) := (blk_cell BK187.out 2).trans rfl; have hcz61_3 : w58.cell? ⟨gb187, 3, none⟩ = some (.int .i64 a0_3) := (blk_cell BK187.out 3).trans rfl; have hcz61_4 : w58.cell? ⟨gb187, 4, none⟩ = some (.slice A0_4 l0_4.length c0_4) := (blk_cell BK187.out 4).trans rfl; have hcz61_5 : w58.cell? ⟨gb187, 5, none⟩ = some (.slice (some ad196) l0_5.length c0_5) := (blk_cell BK187.out 5).trans rfl; have hfz61_0 := blk_frozen BK187.out 0; have hfz61_1 := blk_frozen BK187.out 1; have hfz61_2 := blk_frozen BK187.out 2; have hfz61_3 := blk_frozen BK187.out 3; have hfz61_4 := blk_frozen BK187.out 4; have hfz61_5 := blk_frozen BK187.out 5) | ((with_reducible refine gate_callee (f := 16) rfl ?_); refine goesL_ (some 77) rfl rfl Tryd.func16 (by kernel_rfl) rfl #[.agg #[.string a0_0, .int .i64 a0_1, .int .i64 a0_2, .int .i64 a0_3, .slice A0_4 l0_4.length c0_4, .slice (some ad196) l0_5.length c0_5], .agg #[.int .i64 ((rd_T31 l0_5 x71_3).f0), .int .i64 ((rd_T31 l0_5 x71_3).f1), .int .i64 ((rd_T31 l0_5 x71_3).f2), .string ((rd_T31 l0_5 x71_3).f3), .int .i64 ((rd_T31 l0_5 x71_3).f4), .slice A196_5 ((rd_T31 l0_5 x71_3).f5).length c196_5, .string ((rd_T31 l0_5 x71_3).f6)]] rfl (by (try simp only [List.map_toArray, List.map_cons, List.map_nil]); first | done | rfl | (simp only [List.length_drop, List.length_take]; rfl)) ?_; (with_reducible refine (box_MayMsg.calls k3 a0_0 a0_1 a0_2 a0_3 _ _ l0_4 _ _ l0_5 ((rd_T31 l0_5 x71_3).f0) ((rd_T31 l0_5 x71_3).f1) ((rd_T31 l0_5 x71_3).f2) ((rd_T31 l0_5 x71_3).f3) ((rd_T31 l0_5 x71_3).f4) _ _ ((rd_T31 l0_5 x71_3).f5) ((rd_T31 l0_5 x71_3).f6) t198 _ ?side1 ?side2 ?side3 ?side4 ?side5 ?side6 A40.out).mono ?_); (case side1 => exact Kd.C_below HR0_4.out (by repeat (first | (with_reducible first | exact HB.out | apply below_alloc | apply pw_below_drewN | apply below_drew1 | refine below_set ?_ GE187.out | refine below_set ?_ GE197.out) | exact HB.out))); (case side2 => exact HC0_4.out); (case side3 => exact Kd.C_below HR0_5.out (by repeat (first | (with_reducible first | exact HB.out | apply below_alloc | apply pw_below_drewN | apply below_drew1 | refine below_set ?_ GE187.out | refine below_set ?_ GE197.out) | exact HB.out))); (case side4 => exact HC0_5.out); (case side5 => exact Kd.C_below HR196_5.out (by repeat (first | (with_reducible first | exact HB.out | apply below_alloc | apply pw_below_drewN | apply below_drew1 | refine below_set ?_ GE187.out | refine below_set ?_ GE197.out) | exact HB.out))); (case side6 => exact HC196_5.out); rintro e w62 ⟨rfl, hb⟩; refine ⟨_, rfl, ?_⟩; have n0_ := Aside0.mk (blk_below (g := gb187) (o := .cells #[.string a0_0, .int .i64 a0_1, .int .i64 a0_2, .int .i64 a0_3, .slice A0_4 l0_4.length c0_4, .slice (some ad196) l0_5.length c0_5] 26 (0, 0)) (by (with_reducible repeat (first | refine blk_drewN ?_ _ | refine blk_drew ?_ | refine blk_alloc ?_ _)); refine blk_far ?_ NB187_197.out _; (with_reducible repeat (first | refine blk_drewN ?_ _ | refine blk_drew ?_ | refine blk_alloc ?_ _)); refine blk_far ?_ NB187_197.out _; (with_reducible repeat (first | refine blk_drewN ?_ _ | refine blk_drew ?_ | refine blk_alloc ?_ _)); refine blk_far ?_ NB187_197.out _; (with_reducible repeat (first | refine blk_drewN ?_ _ | refine blk_drew ?_ | refine blk_alloc ?_ _)); refine blk_far ?_ NB187_197.out _; (with_reducible repeat (first | refine blk_drewN ?_ _ | refine blk_drew ?_ | refine blk_alloc ?_ _)); refine blk_far ?_ NB187_197.out _; (with_reducible repeat (first | refine blk_drewN ?_ _ | refine blk_drew ?_ | refine blk_alloc ?_ _)); refine blk_far ?_ NB187_197.out _; (with_reducible repeat (first | refine blk_drewN ?_ _ | refine blk_drew ?_ | refine blk_alloc ?_ _)); refine blk_far ?_ NB187_197.out _; (with_reducible repeat (first | refine blk_drewN ?_ _ | refine blk_drew ?_ | refine blk_alloc ?_ _)); exact BK187.out) hb); have n1_ := Aside0.mk (blk_below (g := gb197) (o := .cells #[.int .i64 ((rd_T31 l0_5 x71_3).f0), .int .i64 ((rd_T31 l0_5 x71_3).f1), .int .i64 ((rd_T31 l0_5 x71_3).f2), .string ((rd_T31 l0_5 x71_3).f3), .int .i64 ((rd_T31 l0_5 x71_3).f4), .slice A196_5 ((rd_T31 l0_5 x71_3).f5).length c196_5, .string ((rd_T31 l0_5 x71_3).f6)] 31 (0, 0)) (by (with_reducible repeat (first | refine blk_drewN ?_ _ | refine blk_drew ?_ | refine blk_alloc ?_ _)); refine blk_put (cs := #[.int .i64 ((rd_T31 l0_5 x71_3).f0), .int .i64 ((rd_T31 l0_5 x71_3).f1), .int .i64 ((rd_T31 l0_5 x71_3).f2), .string ((rd_T31 l0_5 x71_3).f3), .int .i64 ((rd_T31 l0_5 x71_3).f4), .slice A196_5 ((rd_T31 l0_5 x71_3).f5).length c196_5, .string (⟨#[]⟩ : ByteArray)]) ?_ 6 _ rfl; (with_reducible repeat (first | refine blk_drewN ?_ _ | refine blk_drew ?_ | refine blk_alloc ?_ _)); refine blk_put (cs := #[.int .i64 ((rd_T31 l0_5 x71_3).f0), .int .i64 ((rd_T31 l0_5 x71_3).f1), .int .i64 ((rd_T31 l0_5 x71_3).f2), .string ((rd_T31 l0_5 x71_3).f3), .int .i64 ((rd_T31 l0_5 x71_3).f4), .slice none 0 0, .string (⟨#[]⟩ : ByteArray)]) ?_ 5 _ rfl; (with_reducible repeat (first | refine blk_drewN ?_ _ | refine blk_drew ?_ | refine blk_alloc ?_ _)); refine blk_put (cs := #[.int .i64 ((rd_T31 l0_5 x71_3).f0), .int .i64 ((rd_T31 l0_5 x71_3).f1), .int .i64 ((rd_T31 l0_5 x71_3).f2), .string ((rd_T31 l0_5 x71_3).f3), .int .i64 0, .slice none 0 0, .string (⟨#[]⟩ : ByteArray)]) ?_ 4 _ rfl; (with_reducible repeat (first | refine blk_drewN ?_ _ | refine blk_drew ?_ | refine blk_alloc ?_ _)); refine blk_put (cs := #[.int .i64 ((rd_T31 l0_5 x71_3).f0), .int .i64 ((rd_T31 l0_5 x71_3).f1), .int .i64 ((rd_T31 l0_5 x71_3).f2), .string (⟨#[]⟩ : ByteArray), .int .i64 0, .slice none 0 0, .string (⟨#[]⟩ : ByteArray)]) ?_ 3 _ rfl; (with_reducible repeat (first | refine blk_drewN ?_ _ | refine blk_drew ?_ | refine blk_alloc ?_ _)); refine blk_put (cs := #[.int .i64 ((rd_T31 l0_5 x71_3).f0), .int .i64 ((rd_T31 l0_5 x71_3).f1), .int .i64 0, .string (⟨#[]⟩ : ByteArray), .int .i64 0, .slice none 0 0, .string (⟨#[]⟩ : ByteArray)]) ?_ 2 _ rfl; (with_reducible repeat (first | refine blk_drewN ?_ _ | refine blk_drew ?_ | refine blk_alloc ?_ _)); refine blk_put (cs := #[.int .i64 ((rd_T31 l0_5 x71_3).f0), .int .i64 0, .int .i64 0, .string (⟨#[]⟩ : ByteArray), .int .i64 0, .slice none 0 0, .string (⟨#[]⟩ : ByteArray)]) ?_ 1 _ rfl; (with_reducible repeat (first | refine blk_drewN ?_ _ | refine blk_drew ?_ | refine blk_alloc ?_ _)); refine blk_put (cs := #[.int .i64 0, .int .i64 0, .int .i64 0, .string (⟨#[]⟩ : ByteArray), .int .i64 0, .slice none 0 0, .string (⟨#[]⟩ : ByteArray)]) ?_ 0 _ rfl; (with_reducible repeat (first | refine blk_drewN ?_ _ | refine blk_drew ?_ | refine blk_alloc ?_ _)); exact BK197.out) hb); have n2_ := Aside0.mk (below_step (by repeat (first | (with_reducible first | exact HB.out | apply below_alloc | apply pw_below_drewN | apply below_drew1 | refine below_set ?_ GE187.out | refine below_set ?_ GE197.out) | exact HB.out)) hb); clear BK187; clear BK197; clear HB; have BK187 := n0_; have BK197 := n1_; have HB := n2_; clear n0_ n1_ n2_; (try clear hb); (try clear hb2); (try clear hk); (try clear hi); have hcz63_0 : w62.cell? ⟨gb197, 0, none⟩ = some (.int .i64 ((rd_T31 l0_5 x71_3).f0)) := (blk_cell BK197.out 0).trans rfl; have hcz63_1 : w62.cell? ⟨gb197, 1, none⟩ = some (.int .i64 ((rd_T31 l0_5 x71_3).f1)) := (blk_cell BK197.out 1).trans rfl; have hcz63_2 : w62.cell? ⟨gb197, 2, none⟩ = some (.int .i64 ((rd_T31 l0_5 x71_3).f2)) := (blk_cell BK197.out 2).trans rfl; have hcz63_3 : w62.cell? ⟨gb197, 3, none⟩ = some (.string ((rd_T31 l0_5 x71_3).f3)) := (blk_cell BK197.out 3).trans rfl; have hcz63_4 : w62.cell? ⟨gb197, 4, none⟩ = some (.int .i64 ((rd_T31 l0_5 x71_3).f4)) := (blk_cell BK197.out 4).trans rfl; have hcz63_5 : w62.cell? ⟨gb197, 5, none⟩ = some (.slice A196_5 ((rd_T31 l0_5 x71_3).f5).length c196_5) := (blk_cell BK197.out 5).trans rfl; have hcz63_6 : w62.cell? ⟨gb197, 6, none⟩ = some (.string ((rd_T31 l0_5 x71_3).f6)) := (blk_cell BK197.out 6).trans rfl; have hfz63_0 := blk_frozen BK197.out 0; have hfz63_1 := blk_frozen BK197.out 1; have hfz63_2 := blk_frozen BK197.out 2; have hfz63_3 := blk_frozen BK197.out 3; have hfz63_4 := blk_frozen BK197.out 4; have hfz63_5 := blk_frozen BK197.out 5; have hfz63_6 := blk_frozen BK197.out 6; have hcz64_0 : w62.cell? ⟨gb187, 0, none⟩ = some (.string a0_0) := (blk_cell BK187.out 0).trans rfl; have hcz64_1 : w62.cell? ⟨gb187, 1, none⟩ = some (.int .i64 a0_1) := (blk_cell BK187.out 1).trans rfl; have hcz64_2 : w62.cell? ⟨gb187, 2, none⟩ = some (.int .i64 a0_2) := (blk_cell BK187.out 2).trans rfl; have hcz64_3 : w62.cell? ⟨gb187, 3, none⟩ = some (.int .i64 a0_3) := (blk_cell BK187.out 3).trans rfl; have hcz64_4 : w62.cell? ⟨gb187, 4, none⟩ = some (.slice A0_4 l0_4.length c0_4) := (blk_cell BK187.out 4).trans rfl; have hcz64_5 : w62.cell? ⟨gb187, 5, none⟩ = some (.slice (some ad196) l0_5.length c0_5) := (blk_cell BK187.out 5).trans rfl; have hfz64_0 := blk_frozen BK187.out 0; have hfz64_1 := blk_frozen BK187.out 1; have hfz64_2 := blk_frozen BK187.out 2; have hfz64_3 := blk_frozen BK187.out 3; have hfz64_4 := blk_frozen BK187.out 4; have hfz64_5 := blk_frozen BK187.out 5))
                                    go_ret
                                    exact ⟨by first | rfl | (simp [errW_none, errW_some] <;> rfl) | (simp [*, errW_none, errW_some] <;> rfl), by repeat (first | (with_reducible first | exact HB.out | apply below_alloc | apply pw_below_drewN | apply below_drew1 | refine below_set ?_ GE187.out | refine below_set ?_ GE197.out) | exact HB.out)⟩
                                  · rw [if_neg c57] at H
                                    have c57b0 : decide (a0_3 < ((rd_T31 l0_5 x71_3).f1)) = false := decide_eq_false c57
                                    clear c57
                                    have H' := Aside0.mk H
                                    clear H
                                    have p196 : 0 ≤ (x71_3 : Int) := of_decide_eq_true (by first | (with_reducible assumption) | assumption)
                                    have q196 : x71_3 < (l0_5.length : Int) := of_decide_eq_true (by first | (with_reducible assumption) | assumption)
                                    obtain ⟨ad196, A196_5, c196_5, e196, hx196_0, hx196_1, hx196_2, hx196_3, hx196_4, hx196_5, hx196_6, hl196_5, hi196_5⟩ := at_T31 HR0_5.out x71_3 p196 q196
                                    cases e196
                                    replace hx196_0 := (HB.out.cell (World.block_lt_of_cell? w _ hx196_0)).trans hx196_0
                                    replace hx196_1 := (HB.out.cell (World.block_lt_of_cell? w _ hx196_1)).trans hx196_1
                                    replace hx196_2 := (HB.out.cell (World.block_lt_of_cell? w _ hx196_2)).trans hx196_2
                                    replace hx196_3 := (HB.out.cell (World.block_lt_of_cell? w _ hx196_3)).trans hx196_3
                                    replace hx196_4 := (HB.out.cell (World.block_lt_of_cell? w _ hx196_4)).trans hx196_4
                                    replace hx196_5 := (HB.out.cell (World.block_lt_of_cell? w _ hx196_5)).trans hx196_5
                                    replace hx196_6 := (HB.out.cell (World.block_lt_of_cell? w _ hx196_6)).trans hx196_6
                                    have HR196_5 := Aside0.mk hi196_5
                                    have HC196_5 := Aside0.mk hl196_5
                                    clear hi196_5 hl196_5
                                    replace p196 := eq_true p196
                                    replace q196 := eq_true q196
                                    go_wp2_with (first | ((with_reducible refine gate_dst (N := 7) rfl ?_); (try (refine gate_guard (by rfl) ?_; dsimp only)); refine box_event ?hg (N := 7) ?hd (cs := #[.int .i64 0, .int .i64 0, .int .i64 0, .string (⟨#[]⟩ : ByteArray), .int .i64 0, .slice none 0 0, .string (⟨#[]⟩ : ByteArray)]) (t := 31) ?hr ?_; (case hd => rfl); (case hg => rfl); (case hr => first | (go_simp; done) | (go_simp; rfl)); intro gb197 hg w65 hbox hb; have n0_ := Aside0.mk (blk_below (g := gb187) (o := .cells #[.string a0_0, .int .i64 a0_1, .int .i64 a0_2, .int .i64 a0_3, .slice A0_4 l0_4.length c0_4, .slice (some ad196) l0_5.length c0_5] 26 (0, 0)) (by (with_reducible repeat (first | refine blk_drewN ?_ _ | refine blk_drew ?_ | refine blk_alloc ?_ _)); exact BK187.out) hb); have n1_ := Aside0.mk (below_step (by repeat (first | (with_reducible first | exact HB.out | apply below_alloc | apply pw_below_drewN | apply below_drew1 | refine below_set ?_ GE187.out) | exact HB.out)) hb); have n2_ := Aside0.mk (hbox); have n3_ := Aside0.mk ((by rw [hg]; exact (below_size (by repeat (first | (with_reducible first | exact HB.out | apply below_alloc | apply pw_below_drewN | apply below_drew1 | refine below_set ?_ GE187.out) | exact HB.out))) : w.heap.size ≤ gb197)); have n4_ := Aside0.mk ((by rw [hg]; exact (below_size (by repeat (first | (with_reducible first | exact HB.out | apply below_alloc | apply pw_below_drewN | apply below_drew1 | refine below_set ?_ GE187.out) | exact HB.out))) : w.heap.size ≤ gb197)); have n5_ := Aside0.mk ((by rw [hg]; exact Nat.ne_of_lt (blk_lt (g := gb187) (o := .cells #[.string a0_0, .int .i64 a0_1, .int .i64 a0_2, .int .i64 a0_3, .slice A0_4 l0_4.length c0_4, .slice (some ad196) l0_5.length c0_5] 26 (0, 0)) (by (with_reducible repeat (first | refine blk_drewN ?_ _ | refine blk_drew ?_ | refine blk_alloc ?_ _)); exact BK187.out)) : gb187 ≠ gb197)); have n6_ := Aside0.mk ((by rw [hg]; exact Nat.ne_of_gt (blk_lt (g := gb187) (o := .cells #[.string a0_0, .int .i64 a0_1, .int .i64 a0_2, .int .i64 a0_3, .slice A0_4 l0_4.length c0_4, .slice (some ad196) l0_5.length c0_5] 26 (0, 0)) (by (with_reducible repeat (first | refine blk_drewN ?_ _ | refine blk_drew ?_ | refine blk_alloc ?_ _)); exact BK187.out)) : gb197 ≠ gb187)); clear BK187; clear HB; have BK187 := n0_; have HB := n1_; have BK197 := n2_; have GW197 := n3_; have GE197 := n4_; have NB187_197 := n5_; have NB197_187 := n6_; clear n0_ n1_ n2_ n3_ n4_ n5_ n6_; clear hb hbox hg; have hnb66 := NB197_187.out; have hnc66 := NB187_197.out; have hcz67_0 : w65.cell? ⟨gb197, 0, none⟩ = some (.int .i64 0) := (blk_cell BK197.out 0).trans rfl; have hcz67_1 : w65.cell? ⟨gb197, 1, none⟩ = some (.int .i64 0) := (blk_cell BK197.out 1).trans rfl; have hcz67_2 : w65.cell? ⟨gb197, 2, none⟩ = some (.int .i64 0) := (blk_cell BK197.out 2).trans rfl; have hcz67_3 : w65.cell? ⟨gb197, 3, none⟩ = some (.string (⟨#[]⟩ : ByteArray)) := (blk_cell BK197.out 3).trans rfl; have hcz67_4 : w65.cell? ⟨gb197, 4, none⟩ = some (.int .i64 0) := (blk_cell BK197.out 4).trans rfl; have hcz67_5 : w65.cell? ⟨gb197, 5, none⟩ = some (.slice none 0 0) := (blk_cell BK197.out 5).trans rfl; have hcz67_6 : w65.cell? ⟨gb197, 6, none⟩ = some (.string (⟨#[]⟩ : ByteArray)) := (blk_cell BK197.out 6).trans rfl; have hfz67_0 := blk_frozen BK197.out 0; have hfz67_1 := blk_frozen BK197.out 1; have hfz67_2 := blk_frozen BK197.out 2; have hfz67_3 := blk_frozen BK197.out 3; have hfz67_4 := blk_frozen BK197.out 4; have hfz67_5 := blk_frozen BK197.out 5; have hfz67_6 := blk_frozen BK197.out 6; have hcz68_0 : w65.cell? ⟨gb187, 0, none⟩ = some (.string a0_0) := (blk_cell BK187.out 0).trans rfl; have hcz68_1 : w65.cell? ⟨gb187, 1, none⟩ = some (.int .i64 a0_1) := (blk_cell BK187.out 1).trans rfl; have hcz68_2 : w65.cell? ⟨gb187, 2, none⟩ = some (.int .i64 a0_2) := (blk_cell BK187.out 2).trans rfl; have hcz68_3 : w65.cell? ⟨gb187, 3, none⟩ = some (.int .i64 a0_3) := (blk_cell BK187.out 3).trans rfl; have hcz68_4 : w65.cell? ⟨gb187, 4, none⟩ = some (.slice A0_4 l0_4.length c0_4) := (blk_cell BK187.out 4).trans rfl; have hcz68_5 : w65.cell? ⟨gb187, 5, none⟩ = some (.slice (some ad196) l0_5.length c0_5) := (blk_cell BK187.out 5).trans rfl; have hfz68_0 := blk_frozen BK187.out 0; have hfz68_1 := blk_frozen BK187.out 1; have hfz68_2 := blk_frozen BK187.out 2; have hfz68_3 := blk_frozen BK187.out 3; have hfz68_4 := blk_frozen BK187.out 4; have hfz68_5 := blk_frozen BK187.out 5) | ((with_reducible refine gate_callee (f := 16) rfl ?_); refine goesL_ (some 77) rfl rfl Tryd.func16 (by kernel_rfl) rfl #[.agg #[.string a0_0, .int .i64 a0_1, .int .i64 a0_2, .int .i64 a0_3, .slice A0_4 l0_4.length c0_4, .slice (some ad196) l0_5.length c0_5], .agg #[.int .i64 ((rd_T31 l0_5 x71_3).f0), .int .i64 ((rd_T31 l0_5 x71_3).f1), .int .i64 ((rd_T31 l0_5 x71_3).f2), .string ((rd_T31 l0_5 x71_3).f3), .int .i64 ((rd_T31 l0_5 x71_3).f4), .slice A196_5 ((rd_T31 l0_5 x71_3).f5).length c196_5, .string ((rd_T31 l0_5 x71_3).f6)]] rfl (by (try simp only [List.map_toArray, List.map_cons, List.map_nil]); first | done | rfl | (simp only [List.length_drop, List.length_take]; rfl)) ?_; (with_reducible refine (box_MayMsg.calls k3 a0_0 a0_1 a0_2 a0_3 _ _ l0_4 _ _ l0_5 ((rd_T31 l0_5 x71_3).f0) ((rd_T31 l0_5 x71_3).f1) ((rd_T31 l0_5 x71_3).f2) ((rd_T31 l0_5 x71_3).f3) ((rd_T31 l0_5 x71_3).f4) _ _ ((rd_T31 l0_5 x71_3).f5) ((rd_T31 l0_5 x71_3).f6) t198 _ ?side1 ?side2 ?side3 ?side4 ?side5 ?side6 A40.out).mono ?_); (case side1 => exact Kd.C_below HR0_4.out (by repeat (first | (with_reducible first | exact HB.out | apply below_alloc | apply pw_below_drewN | apply below_drew1 | refine below_set ?_ GE187.out | refine below_set ?_ GE197.out) | exact HB.out))); (case side2 => exact HC0_4.out); (case side3 => exact Kd.C_below HR0_5.out (by repeat (first | (with_reducible first | exact HB.out | apply below_alloc | apply pw_below_drewN | apply below_drew1 | refine below_set ?_ GE187.out | refine below_set ?_ GE197.out) | exact HB.out))); (case side4 => exact HC0_5.out); (case side5 => exact Kd.C_below HR196_5.out (by repeat (first | (with_reducible first | exact HB.out | apply below_alloc | apply pw_below_drewN | apply below_drew1 | refine below_set ?_ GE187.out | refine below_set ?_ GE197.out) | exact HB.out))); (case side6 => exact HC196_5.out); rintro e w69 ⟨rfl, hb⟩; refine ⟨_, rfl, ?_⟩; have n0_ := Aside0.mk (blk_below (g := gb187) (o := .cells #[.string a0_0, .int .i64 a0_1, .int .i64 a0_2, .int .i64 a0_3, .slice A0_4 l0_4.length c0_4, .slice (some ad196) l0_5.length c0_5] 26 (0, 0)) (by (with_reducible repeat (first | refine blk_drewN ?_ _ | refine blk_drew ?_ | refine blk_alloc ?_ _)); refine blk_far ?_ NB187_197.out _; (with_reducible repeat (first | refine blk_drewN ?_ _ | refine blk_drew ?_ | refine blk_alloc ?_ _)); refine blk_far ?_ NB187_197.out _; (with_reducible repeat (first | refine blk_drewN ?_ _ | refine blk_drew ?_ | refine blk_alloc ?_ _)); refine blk_far ?_ NB187_197.out _; (with_reducible repeat (first | refine blk_drewN ?_ _ | refine blk_drew ?_ | refine blk_alloc ?_ _)); refine blk_far ?_ NB187_197.out _; (with_reducible repeat (first | refine blk_drewN ?_ _ | refine blk_drew ?_ | refine blk_alloc ?_ _)); refine blk_far ?_ NB187_197.out _; (with_reducible repeat (first | refine blk_drewN ?_ _ | refine blk_drew ?_ | refine blk_alloc ?_ _)); refine blk_far ?_ NB187_197.out _; (with_reducible repeat (first | refine blk_drewN ?_ _ | refine blk_drew ?_ | refine blk_alloc ?_ _)); refine blk_far ?_ NB187_197.out _; (with_reducible repeat (first | refine blk_drewN ?_ _ | refine blk_drew ?_ | refine blk_alloc ?_ _)); exact BK187.out) hb); have n1_ := Aside0.mk (blk_below (g := gb197) (o := .cells #[.int .i64 ((rd_T31 l0_5 x71_3).f0), .int .i64 ((rd_T31 l0_5 x71_3).f1), .int .i64 ((rd_T31 l0_5 x71_3).f2), .string ((rd_T31 l0_5 x71_3).f3), .int .i64 ((rd_T31 l0_5 x71_3).f4), .slice A196_5 ((rd_T31 l0_5 x71_3).f5).length c196_5, .string ((rd_T31 l0_5 x71_3).f6)] 31 (0, 0)) (by (with_reducible repeat (first | refine blk_drewN ?_ _ | refine blk_drew ?_ | refine blk_alloc ?_ _)); refine blk_put (cs := #[.int .i64 ((rd_T31 l0_5 x71_3).f0), .int .i64 ((rd_T31 l0_5 x71_3).f1), .int .i64 ((rd_T31 l0_5 x71_3).f2), .string ((rd_T31 l0_5 x71_3).f3), .int .i64 ((rd_T31 l0_5 x71_3).f4), .slice A196_5 ((rd_T31 l0_5 x71_3).f5).length c196_5, .string (⟨#[]⟩ : ByteArray)]) ?_ 6 _ rfl; (with_reducible repeat (first | refine blk_drewN ?_ _ | refine blk_drew ?_ | refine blk_alloc ?_ _)); refine blk_put (cs := #[.int .i64 ((rd_T31 l0_5 x71_3).f0), .int .i64 ((rd_T31 l0_5 x71_3).f1), .int .i64 ((rd_T31 l0_5 x71_3).f2), .string ((rd_T31 l0_5 x71_3).f3), .int .i64 ((rd_T31 l0_5 x71_3).f4), .slice none 0 0, .string (⟨#[]⟩ : ByteArray)]) ?_ 5 _ rfl; (with_reducible repeat (first | refine blk_drewN ?_ _ | refine blk_drew ?_ | refine blk_alloc ?_ _)); refine blk_put (cs := #[.int .i64 ((rd_T31 l0_5 x71_3).f0), .int .i64 ((rd_T31 l0_5 x71_3).f1), .int .i64 ((rd_T31 l0_5 x71_3).f2), .string ((rd_T31 l0_5 x71_3).f3), .int .i64 0, .slice none 0 0, .string (⟨#[]⟩ : ByteArray)]) ?_ 4 _ rfl; (with_reducible repeat (first | refine blk_drewN ?_ _ | refine blk_drew ?_ | refine blk_alloc ?_ _)); refine blk_put (cs := #[.int .i64 ((rd_T31 l0_5 x71_3).f0), .int .i64 ((rd_T31 l0_5 x71_3).f1), .int .i64 ((rd_T31 l0_5 x71_3).f2), .string (⟨#[]⟩ : ByteArray), .int .i64 0, .slice none 0 0, .string (⟨#[]⟩ : ByteArray)]) ?_ 3 _ rfl; (with_reducible repeat (first | refine blk_drewN ?_ _ | refine blk_drew ?_ | refine blk_alloc ?_ _)); refine blk_put (cs := #[.int .i64 ((rd_T31 l0_5 x71_3).f0), .int .i64 ((rd_T31 l0_5 x71_3).f1), .int .i64 0, .string (⟨#[]⟩ : ByteArray), .int .i64 0, .slice none 0 0, .string (⟨#[]⟩ : ByteArray)]) ?_ 2 _ rfl; (with_reducible repeat (first | refine blk_drewN ?_ _ | refine blk_drew ?_ | refine blk_alloc ?_ _)); refine blk_put (cs := #[.int .i64 ((rd_T31 l0_5 x71_3).f0), .int .i64 0, .int .i64 0, .string (⟨#[]⟩ : ByteArray), .int .i64 0, .slice none 0 0, .string (⟨#[]⟩ : ByteArray)]) ?_ 1 _ rfl; (with_reducible repeat (first | refine blk_drewN ?_ _ | refine blk_drew ?_ | refine blk_alloc ?_ _)); refine blk_put (cs := #[.int .i64 0, .int .i64 0, .int .i64 0, .string (⟨#[]⟩ : ByteArray), .int .i64 0, .slice none 0 0, .string (⟨#[]⟩ : ByteArray)]) ?_ 0 _ rfl; (with_reducible repeat (first | refine blk_drewN ?_ _ | refine blk_drew ?_ | refine blk_alloc ?_ _)); exact BK197.out) hb); have n2_ := Aside0.mk (below_step (by repeat (first | (with_reducible first | exact HB.out | apply below_alloc | apply pw_below_drewN | apply below_drew1 | refine below_set ?_ GE187.out | refine below_set ?_ GE197.out) | exact HB.out)) hb); clear BK187; clear BK197; clear HB; have BK187 := n0_; have BK197 := n1_; have HB := n2_; clear n0_ n1_ n2_; (try clear hb); (try clear hb2); (try clear hk); (try clear hi); have hcz70_0 : w69.cell? ⟨gb197, 0, none⟩ = some (.int .i64 ((rd_T31 l0_5 x71_3).f0)) := (blk_cell BK197.out 0).trans rfl; have hcz70_1 : w69.cell? ⟨gb197, 1, none⟩ = some (.int .i64 ((rd_T31 l0_5 x71_3).f1)) := (blk_cell BK197.out 1).trans rfl; have hcz70_2 : w69.cell? ⟨gb197, 2, none⟩ = some (.int .i64 ((rd_T31 l0_5 x71_3).f2)) := (blk_cell BK197.out 2).trans rfl; have hcz70_3 : w69.cell? ⟨gb197, 3, none⟩ = some (.string ((rd_T31 l0_5 x71_3).f3)) := (blk_cell BK197.out 3).trans rfl; have hcz70_4 : w69.cell? ⟨gb197, 4, none⟩ = some (.int .i64 ((rd_T31 l0_5 x71_3).f4)) := (blk_cell BK197.out 4).trans rfl; have hcz70_5 : w69.cell? ⟨gb197, 5, none⟩ = some (.slice A196_5 ((rd_T31 l0_5 x71_3).f5).length c196_5) := (blk_cell BK197.out 5).trans rfl; have hcz70_6 : w69.cell? ⟨gb197, 6, none⟩ = some (.string ((rd_T31 l0_5 x71_3).f6)) := (blk_cell BK197.out 6).trans rfl; have hfz70_0 := blk_frozen BK197.out 0; have hfz70_1 := blk_frozen BK197.out 1; have hfz70_2 := blk_frozen BK197.out 2; have hfz70_3 := blk_frozen BK197.out 3; have hfz70_4 := blk_frozen BK197.out 4; have hfz70_5 := blk_frozen BK197.out 5; have hfz70_6 := blk_frozen BK197.out 6; have hcz71_0 : w69.cell? ⟨gb187, 0, none⟩ = some (.string a0_0) := (blk_cell BK187.out 0).trans rfl; have hcz71_1 : w69.cell? ⟨gb187, 1, none⟩ = some (.int .i64 a0_1) := (blk_cell BK187.out 1).trans rfl; have hcz71_2 : w69.cell? ⟨gb187, 2, none⟩ = some (.int .i64 a0_2) := (blk_cell BK187.out 2).trans rfl; have hcz71_3 : w69.cell? ⟨gb187, 3, none⟩ = some (.int .i64 a0_3) := (blk_cell BK187.out 3).trans rfl; have hcz71_4 : w69.cell? ⟨gb187, 4, none⟩ = some (.slice A0_4 l0_4.length c0_4) := (blk_cell BK187.out 4).trans rfl; have hcz71_5 : w69.cell? ⟨gb187, 5, none⟩ = some (.slice (some ad196) l0_5.length c0_5) := (blk_cell BK187.out 5).trans rfl; have hfz71_0 := blk_frozen BK187.out 0; have hfz71_1 := blk_frozen BK187.out 1; have hfz71_2 := blk_frozen BK187.out 2; have hfz71_3 := blk_frozen BK187.out 3; have hfz71_4 := blk_frozen BK187.out 4; have hfz71_5 := blk_frozen BK187.out 5))
                                    go_roundg k3
                                    case measure => have := HJ1.out; have := HK2.out; have := HK3.out; omega
                                    case rel => exact ⟨((rd_T31 l0_5 x71_3).f0), (wrap64 (x71_3 + 1)), (by first | rfl | (simp; done) | (simp [*]; done)), (by first | rfl | (simp; done) | (simp [*]; done)), H', ⟨by have := HJ1.out; have := HK2.out; have := HK3.out; omega⟩, ⟨by (with_reducible repeat (first | refine blk_drewN ?_ _ | refine blk_drew ?_ | refine blk_alloc ?_ _)); exact BK187.out⟩, ⟨by repeat (first | (with_reducible first | exact HB.out | apply below_alloc | apply pw_below_drewN | apply below_drew1 | refine below_set ?_ GE187.out | refine below_set ?_ GE197.out) | exact HB.out)⟩⟩
                            · rw [if_neg c41] at H
                              have c41b0 : (t198 == 0) = false := beq_eq_false_iff_ne.mpr c41
                              have c41b1 : (t198 != 0) = true := bne_iff_ne.mpr c41
                              obtain rfl := Option.some.inj H
                              have p196 : 0 ≤ (x71_3 : Int) := of_decide_eq_true (by first | (with_reducible assumption) | assumption)
                              have q196 : x71_3 < (l0_5.length : Int) := of_decide_eq_true (by first | (with_reducible assumption) | assumption)
                              obtain ⟨ad196, A196_5, c196_5, e196, hx196_0, hx196_1, hx196_2, hx196_3, hx196_4, hx196_5, hx196_6, hl196_5, hi196_5⟩ := at_T31 HR0_5.out x71_3 p196 q196
                              cases e196
                              replace hx196_0 := (HB.out.cell (World.block_lt_of_cell? w _ hx196_0)).trans hx196_0
                              replace hx196_1 := (HB.out.cell (World.block_lt_of_cell? w _ hx196_1)).trans hx196_1
                              replace hx196_2 := (HB.out.cell (World.block_lt_of_cell? w _ hx196_2)).trans hx196_2
                              replace hx196_3 := (HB.out.cell (World.block_lt_of_cell? w _ hx196_3)).trans hx196_3
                              replace hx196_4 := (HB.out.cell (World.block_lt_of_cell? w _ hx196_4)).trans hx196_4
                              replace hx196_5 := (HB.out.cell (World.block_lt_of_cell? w _ hx196_5)).trans hx196_5
                              replace hx196_6 := (HB.out.cell (World.block_lt_of_cell? w _ hx196_6)).trans hx196_6
                              have HR196_5 := Aside0.mk hi196_5
                              have HC196_5 := Aside0.mk hl196_5
                              clear hi196_5 hl196_5
                              replace p196 := eq_true p196
                              replace q196 := eq_true q196
                              go_wp2_with (first | ((with_reducible refine gate_dst (N := 7) rfl ?_); (try (refine gate_guard (by rfl) ?_; dsimp only)); refine box_event ?hg (N := 7) ?hd (cs := #[.int .i64 0, .int .i64 0, .int .i64 0, .string (⟨#[]⟩ : ByteArray), .int .i64 0, .slice none 0 0, .string (⟨#[]⟩ : ByteArray)]) (t := 31) ?hr ?_; (case hd => rfl); (case hg => rfl); (case hr => first | (go_simp; done) | (go_simp; rfl)); intro gb197 hg w72 hbox hb; have n0_ := Aside0.mk (blk_below (g := gb187) (o := .cells #[.string a0_0, .int .i64 a0_1, .int .i64 a0_2, .int .i64 a0_3, .slice A0_4 l0_4.length c0_4, .slice (some ad196) l0_5.length c0_5] 26 (0, 0)) (by (with_reducible repeat (first | refine blk_drewN ?_ _ | refine blk_drew ?_ | refine blk_alloc ?_ _)); exact BK187.out) hb); have n1_ := Aside0.mk (below_step (by repeat (first | (with_reducible first | exact HB.out | apply below_alloc | apply pw_below_drewN | apply below_drew1 | refine below_set ?_ GE187.out) | exact HB.out)) hb); have n2_ := Aside0.mk (hbox); have n3_ := Aside0.mk ((by rw [hg]; exact (below_size (by repeat (first | (with_reducible first | exact HB.out | apply below_alloc | apply pw_below_drewN | apply below_drew1 | refine below_set ?_ GE187.out) | exact HB.out))) : w.heap.size ≤ gb197)); have n4_ := Aside0.mk ((by rw [hg]; exact (below_size (by repeat (first | (with_reducible first | exact HB.out | apply below_alloc | apply pw_below_drewN | apply below_drew1 | refine below_set ?_ GE187.out) | exact HB.out))) : w.heap.size ≤ gb197)); have n5_ := Aside0.mk ((by rw [hg]; exact Nat.ne_of_lt (blk_lt (g := gb187) (o := .cells #[.string a0_0, .int .i64 a0_1, .int .i64 a0_2, .int .i64 a0_3, .slice A0_4 l0_4.length c0_4, .slice (some ad196) l0_5.length c0_5] 26 (0, 0)) (by (with_reducible repeat (first | refine blk_drewN ?_ _ | refine blk_drew ?_ | refine blk_alloc ?_ _)); exact BK187.out)) : gb187 ≠ gb197)); have n6_ := Aside0.mk ((by rw [hg]; exact Nat.ne_of_gt (blk_lt (g := gb187) (o := .cells #[.string a0_0, .int .i64 a0_1, .int .i64 a0_2, .int .i64 a0_3, .slice A0_4 l0_4.length c0_4, .slice (some ad196) l0_5.length c0_5] 26 (0, 0)) (by (with_reducible repeat (first | refine blk_drewN ?_ _ | refine blk_drew ?_ | refine blk_alloc ?_ _)); exact BK187.out)) : gb197 ≠ gb187)); clear BK187; clear HB; have BK187 := n0_; have HB := n1_; have BK197 := n2_; have GW197 := n3_; have GE197 := n4_; have NB187_197 := n5_; have NB197_187 := n6_; clear n0_ n1_ n2_ n3_ n4_ n5_ n6_; clear hb hbox hg; have hnb73 := NB197_187.out; have hnc73 := NB187_197.out; have hcz74_0 : w72.cell? ⟨gb197, 0, none⟩ = some (.int .i64 0) := (blk_cell BK197.out 0).trans rfl; have hcz74_1 : w72.cell? ⟨gb197, 1, none⟩ = some (.int .i64 0) := (blk_cell BK197.out 1).trans rfl; have hcz74_2 : w72.cell? ⟨gb197, 2, none⟩ = some (.int .i64 0) := (blk_cell BK197.out 2).trans rfl; have hcz74_3 : w72.cell? ⟨gb197, 3, none⟩ = some (.string (⟨#[]⟩ : ByteArray)) := (blk_cell BK197.out 3).trans rfl; have hcz74_4 : w72.cell? ⟨gb197, 4, none⟩ = some (.int .i64 0) := (blk_cell BK197.out 4).trans rfl; have hcz74_5 : w72.cell? ⟨gb197, 5, none⟩ = some (.slice none 0 0) := (blk_cell BK197.out 5).trans rfl; have hcz74_6 : w72.cell? ⟨gb197, 6, none⟩ = some (.string (⟨#[]⟩ : ByteArray)) := (blk_cell BK197.out 6).trans rfl; have hfz74_0 := blk_frozen BK197.out 0; have hfz74_1 := blk_frozen BK197.out 1; have hfz74_2 := blk_frozen BK197.out 2; have hfz74_3 := blk_frozen BK197.out 3; have hfz74_4 := blk_frozen BK197.out 4; have hfz74_5 := blk_frozen BK197.out 5; have hfz74_6 := blk_frozen BK197.out 6; have hcz75_0 : w72.cell? ⟨gb187, 0, none⟩ = some (.string a0_0) := (blk_cell BK187.out 0).trans rfl; have hcz75_1 : w72.cell? ⟨gb187, 1, none⟩ = some (.int .i64 a0_1) := (blk_cell BK187.out 1).trans rfl; have hcz75_2 : w72.cell? ⟨gb187, 2, none⟩ = some (.int .i64 a0_2) := (blk_cell BK187.out 2).trans rfl; have hcz75_3 : w72.cell? ⟨gb187, 3, none⟩ = some (.int .i64 a0_3) := (blk_cell BK187.out 3).trans rfl; have hcz75_4 : w72.cell? ⟨gb187, 4, none⟩ = some (.slice A0_4 l0_4.length c0_4) := (blk_cell BK187.out 4).trans rfl; have hcz75_5 : w72.cell? ⟨gb187, 5, none⟩ = some (.slice (some ad196) l0_5.length c0_5) := (blk_cell BK187.out 5).trans rfl; have hfz75_0 := blk_frozen BK187.out 0; have hfz75_1 := blk_frozen BK187.out 1; have hfz75_2 := blk_frozen BK187.out 2; have hfz75_3 := blk_frozen BK187.out 3; have hfz75_4 := blk_frozen BK187.out 4; have hfz75_5 := blk_frozen BK187.out 5) | ((with_reducible refine gate_callee (f := 16) rfl ?_); refine goesL_ (some 77) rfl rfl Tryd.func16 (by kernel_rfl) rfl #[.agg #[.string a0_0, .int .i64 a0_1, .int .i64 a0_2, .int .i64 a0_3, .slice A0_4 l0_4.length c0_4, .slice (some ad196) l0_5.length c0_5], .agg #[.int .i64 ((rd_T31 l0_5 x71_3).f0), .int .i64 ((rd_T31 l0_5 x71_3).f1), .int .i64 ((rd_T31 l0_5 x71_3).f2), .string ((rd_T31 l0_5 x71_3).f3), .int .i64 ((rd_T31 l0_5 x71_3).f4), .slice A196_5 ((rd_T31 l0_5 x71_3).f5).length c196_5, .string ((rd_T31 l0_5 x71_3).f6)]] rfl (by (try simp only [List.map_toArray, List.map_cons, List.map_nil]); first | done | rfl | (simp only [List.length_drop, List.length_take]; rfl)) ?_; (with_reducible refine (box_MayMsg.calls k3 a0_0 a0_1 a0_2 a0_3 _ _ l0_4 _ _ l0_5 ((rd_T31 l0_5 x71_3).f0) ((rd_T31 l0_5 x71_3).f1) ((rd_T31 l0_5 x71_3).f2) ((rd_T31 l0_5 x71_3).f3) ((rd_T31 l0_5 x71_3).f4) _ _ ((rd_T31 l0_5 x71_3).f5) ((rd_T31 l0_5 x71_3).f6) t198 _ ?side1 ?side2 ?side3 ?side4 ?side5 ?side6 A40.out).mono ?_); (case side1 => exact Kd.C_below HR0_4.out (by repeat (first | (with_reducible first | exact HB.out | apply below_alloc | apply pw_below_drewN | apply below_drew1 | refine below_set ?_ GE187.out | refine below_set ?_ GE197.out) | exact HB.out))); (case side2 => exact HC0_4.out); (case side3 => exact Kd.C_below HR0_5.out (by repeat (first | (with_reducible first | exact HB.out | apply below_alloc | apply pw_below_drewN | apply below_drew1 | refine below_set ?_ GE187.out | refine below_set ?_ GE197.out) | exact HB.out))); (case side4 => exact HC0_5.out); (case side5 => exact Kd.C_below HR196_5.out (by repeat (first | (with_reducible first | exact HB.out | apply below_alloc | apply pw_below_drewN | apply below_drew1 | refine below_set ?_ GE187.out | refine below_set ?_ GE197.out) | exact HB.out))); (case side6 => exact HC196_5.out); rintro e w76 ⟨rfl, hb⟩; refine ⟨_, rfl, ?_⟩; have n0_ := Aside0.mk (blk_below (g := gb187) (o := .cells #[.string a0_0, .int .i64 a0_1, .int .i64 a0_2, .int .i64 a0_3, .slice A0_4 l0_4.length c0_4, .slice (some ad196) l0_5.length c0_5] 26 (0, 0)) (by (with_reducible repeat (first | refine blk_drewN ?_ _ | refine blk_drew ?_ | refine blk_alloc ?_ _)); refine blk_far ?_ NB187_197.out _; (with_reducible repeat (first | refine blk_drewN ?_ _ | refine blk_drew ?_ | refine blk_alloc ?_ _)); refine blk_far ?_ NB187_197.out _; (with_reducible repeat (first | refine blk_drewN ?_ _ | refine blk_drew ?_ | refine blk_alloc ?_ _)); refine blk_far ?_ NB187_197.out _; (with_reducible repeat (first | refine blk_drewN ?_ _ | refine blk_drew ?_ | refine blk_alloc ?_ _)); refine blk_far ?_ NB187_197.out _; (with_reducible repeat (first | refine blk_drewN ?_ _ | refine blk_drew ?_ | refine blk_alloc ?_ _)); refine blk_far ?_ NB187_197.out _; (with_reducible repeat (first | refine blk_drewN ?_ _ | refine blk_drew ?_ | refine blk_alloc ?_ _)); refine blk_far ?_ NB187_197.out _; (with_reducible repeat (first | refine blk_drewN ?_ _ | refine blk_drew ?_ | refine blk_alloc ?_ _)); refine blk_far ?_ NB187_197.out _; (with_reducible repeat (first | refine blk_drewN ?_ _ | refine blk_drew ?_ | refine blk_alloc ?_ _)); exact BK187.out) hb); have n1_ := Aside0.mk (blk_below (g := gb197) (o := .cells #[.int .i64 ((rd_T31 l0_5 x71_3).f0), .int .i64 ((rd_T31 l0_5 x71_3).f1), .int .i64 ((rd_T31 l0_5 x71_3).f2), .string ((rd_T31 l0_5 x71_3).f3), .int .i64 ((rd_T31 l0_5 x71_3).f4), .slice A196_5 ((rd_T31 l0_5 x71_3).f5).length c196_5, .string ((rd_T31 l0_5 x71_3).f6)] 31 (0, 0)) (by (with_reducible repeat (first | refine blk_drewN ?_ _ | refine blk_drew ?_ | refine blk_alloc ?_ _)); refine blk_put (cs := #[.int .i64 ((rd_T31 l0_5 x71_3).f0), .int .i64 ((rd_T31 l0_5 x71_3).f1), .int .i64 ((rd_T31 l0_5 x71_3).f2), .string ((rd_T31 l0_5 x71_3).f3), .int .i64 ((rd_T31 l0_5 x71_3).f4), .slice A196_5 ((rd_T31 l0_5 x71_3).f5).length c196_5, .string (⟨#[]⟩ : ByteArray)]) ?_ 6 _ rfl; (with_reducible repeat (first | refine blk_drewN ?_ _ | refine blk_drew ?_ | refine blk_alloc ?_ _)); refine blk_put (cs := #[.int .i64 ((rd_T31 l0_5 x71_3).f0), .int .i64 ((rd_T31 l0_5 x71_3).f1), .int .i64 ((rd_T31 l0_5 x71_3).f2), .string ((rd_T31 l0_5 x71_3).f3), .int .i64 ((rd_T31 l0_5 x71_3).f4), .slice none 0 0, .string (⟨#[]⟩ : ByteArray)]) ?_ 5 _ rfl; (with_reducible repeat (first | refine blk_drewN ?_ _ | refine blk_drew ?_ | refine blk_alloc ?_ _)); refine blk_put (cs := #[.int .i64 ((rd_T31 l0_5 x71_3).f0), .int .i64 ((rd_T31 l0_5 x71_3).f1), .int .i64 ((rd_T31 l0_5 x71_3).f2), .string ((rd_T31 l0_5 x71_3).f3), .int .i64 0, .slice none 0 0, .string (⟨#[]⟩ : ByteArray)]) ?_ 4 _ rfl; (with_reducible repeat (first | refine blk_drewN ?_ _ | refine blk_drew ?_ | refine blk_alloc ?_ _)); refine blk_put (cs := #[.int .i64 ((rd_T31 l0_5 x71_3).f0), .int .i64 ((rd_T31 l0_5 x71_3).f1), .int .i64 ((rd_T31 l0_5 x71_3).f2), .string (⟨#[]⟩ : ByteArray), .int .i64 0, .slice none 0 0, .string (⟨#[]⟩ : ByteArray)]) ?_ 3 _ rfl; (with_reducible repeat (first | refine blk_drewN ?_ _ | refine blk_drew ?_ | refine blk_alloc ?_ _)); refine blk_put (cs := #[.int .i64 ((rd_T31 l0_5 x71_3).f0), .int .i64 ((rd_T31 l0_5 x71_3).f1), .int .i64 0, .string (⟨#[]⟩ : ByteArray), .int .i64 0, .slice none 0 0, .string (⟨#[]⟩ : ByteArray)]) ?_ 2 _ rfl; (with_reducible repeat (first | refine blk_drewN ?_ _ | refine blk_drew ?_ | refine blk_alloc ?_ _)); refine blk_put (cs := #[.int .i64 ((rd_T31 l0_5 x71_3).f0), .int .i64 0, .int .i64 0, .string (⟨#[]⟩ : ByteArray), .int .i64 0, .slice none 0 0, .string (⟨#[]⟩ : ByteArray)]) ?_ 1 _ rfl; (with_reducible repeat (first | refine blk_drewN ?_ _ | refine blk_drew ?_ | refine blk_alloc ?_ _)); refine blk_put (cs := #[.int .i64 0, .int .i64 0, .int .i64 0, .string (⟨#[]⟩ : ByteArray), .int .i64 0, .slice none 0 0, .string (⟨#[]⟩ : ByteArray)]) ?_ 0 _ rfl; (with_reducible repeat (first | refine blk_drewN ?_ _ | refine blk_drew ?_ | refine blk_alloc ?_ _)); exact BK197.out) hb); have n2_ := Aside0.mk (below_step (by repeat (first | (with_reducible first | exact HB.out | apply below_alloc | apply pw_below_drewN | apply below_drew1 | refine below_set ?_ GE187.out | refine below_set ?_ GE197.out) | exact HB.out)) hb); clear BK187; clear BK197; clear HB; have BK187 := n0_; have BK197 := n1_; have HB := n2_; clear n0_ n1_ n2_; (try clear hb); (try clear hb2); (try clear hk); (try clear hi)))
                              go_ret
                              exact ⟨by first | rfl | (simp [errW_none, errW_some] <;> rfl) | (simp [*, errW_none, errW_some] <;> rfl), by repeat (first | (with_reducible first | exact HB.out | apply below_alloc | apply pw_below_drewN | apply below_drew1 | refine below_set ?_ GE187.out | refine below_set ?_ GE197.out) | exact HB.out)⟩
                          · rw [if_neg c39] at H
                            exact absurd H (by simp)
                        · rw [if_neg c38] at H
                          exact absurd H (by simp)
                      · rw [if_neg c37] at H
                        have c37b0 : decide (x71_3 < (l0_5.length : Int)) = false := decide_eq_false c37
                        clear c37
                        obtain rfl := Option.some.inj H
                        go_wp2
                        go_ret
                        exact ⟨by first | rfl | (simp [errW_none, errW_some] <;> rfl) | (simp [*, errW_none, errW_some] <;> rfl), by repeat (first | (with_reducible first | exact HB.out | apply below_alloc | apply pw_below_drewN | apply below_drew1 | refine below_set ?_ GE187.out) | exact HB.out)⟩
end Go.Proofs.YtjlabkibpknkpaaDoor.FmM
