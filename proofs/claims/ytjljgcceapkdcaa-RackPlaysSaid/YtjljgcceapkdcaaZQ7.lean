-- The used parts of 6 texts, laid together by merge.py.
import Derived.Test.YtjljgcceapkdcaaZQ6
import Derived.Test.YtjljgcceapkdcaaZQ4
import Derived.Test.YtjljgcceapkdcaaZQ5
import Derived.Test.YtjljgcceapkdcaaProg
import Derived.Below
import Derived.Deep.Draws
import Derived.Deep.AppendLies
import Derived.Maps.AppendAt
import Derived.OwnWalk
import Derived.Laws.BytesArg
import Derived.Laws.MakeOwn
import Derived.Laws.OwnMore
import Derived.Deep.OwnRows
import Derived.Tactics
import Derived.Lib.ConvBytes
import Derived.Laws.Slices
import Derived.WalkKit
import Derived.KernelRfl
import Derived.RowKit3
import Derived.Deep.LoopGhost
import Derived.Deep.QuietTactic
import Derived.BigQuiet
import Derived.WideLaws
import Derived.Deep.DeepCutAuto
import Derived.Deep.CutBlock
import Derived.Deep.RegionHeld3
import Derived.Laws.Rows
import Derived.Lib.AppendStr
import Derived.ArgAppend
import Derived.Laws.IdiomCopy
import Derived.OrdersHeld
import Derived.Laws.BitsLemmas
import Derived.RowKit
import Derived.Lib.BufferMore
import Derived.Test.YtjljgcceapkdcaaZQ1
import Derived.Test.YtjljgcceapkdcaaZQ3
import Derived.Laws.StructEq
section
namespace Go.Proofs.Ytjljgcceapkdcaa.RkM
open Go.RowKit Go.Proofs.YtjljgcceapkdcaaW.PrintWords Go.Proofs.YtjljgcceapkdcaaW.PrintLast Go.Proofs.YtjljgcceapkdcaaW.PrintMore
attribute [local go_sem] max2_int min2_int max_two min_two max_three min_three max_four min_four
set_option linter.unusedVariables false
set_option linter.unusedSimpArgs false
def mailsacklaw13_Heavy.l0 : Nat → Int → List (S45) → Int → Int → Option (Int)
  | 0, _, _, _, _ => none
  | k + 1, x3, x6, x7, x8 => if x8 < x7 then (if 0 ≤ x8 then (if x8 < (x6.length : Int) then (if x8 ≥ 100 then (some (wrap64 (x8 + 1))) else (if (wrap64 (x3 + (wrap64 ((wrap64 ((((rd_T45 x6 x8).f2).size : Int) + (((rd_T45 x6 x8).f3).length : Int))) + (((rd_T45 x6 x8).f4).length : Int))))) > 300000 then (some (wrap64 (x8 + 1))) else (mailsacklaw13_Heavy.l0 k (wrap64 (x3 + (wrap64 ((wrap64 ((((rd_T45 x6 x8).f2).size : Int) + (((rd_T45 x6 x8).f3).length : Int))) + (((rd_T45 x6 x8).f4).length : Int))))) x6 x7 (wrap64 (x8 + 1))))) else (none)) else (none)) else (some 0)
def mailsacklaw13_Heavy.f (k : Nat) (l0 : List (S45)) : Option (Int) := mailsacklaw13_Heavy.l0 k 0 l0 (l0.length : Int) 0
set_option maxHeartbeats 8000000 in
set_option maxRecDepth 100000 in
theorem mailsacklaw13_Heavy.calls (k : Nat) (A0 : Option Addr) (c0 : Nat) (l0 : List (S45)) (r : Int) (w : World) (hr0 : Kd.C k45 w A0 l0.length l0) (hc0 : l0.length ≤ c0) (h : mailsacklaw13_Heavy.f k l0 = some r) :
    Calls Try.prog 27 #[.slice A0 l0.length c0] w fun e w' => e = .returned (.int .i64 r) ∧ Below w.heap.size w w' := by
  have hu45 := Try.underlying45
  have HR0 := Aside0.mk hr0
  have HC0 := Aside0.mk hc0
  clear hr0 hc0
  have HB := Aside0.mk (Below.refl w.heap.size w)
  have H : (mailsacklaw13_Heavy.l0 k 0 l0 (l0.length : Int) 0) = some r := h
  clear h
  have H' := Aside0.mk H
  clear H
  go_enter Try.func27, Try.ntmps27
  go_wp2
  go_loopg [3, 8] k (fun kq v3 v8 w' => ∃ (x3_1 : Int) (x8_1 : Int), v3 = .int .i64 x3_1 ∧ v8 = .int .i64 x8_1 ∧ Aside0 (mailsacklaw13_Heavy.l0 kq x3_1 l0 (l0.length : Int) x8_1 = some r) ∧ Aside0 (kq ≤ k) ∧ Aside0 (Below w.heap.size w w'))
  case atStart => exact ⟨(0), (0), (by first | rfl | (simp; done) | (simp [*]; done)), (by first | rfl | (simp; done) | (simp [*]; done)), H', ⟨Nat.le_refl _⟩, ⟨by repeat (first | (with_reducible first | exact HB.out | apply below_alloc | apply pw_below_drewN | apply below_drew1) | exact HB.out)⟩⟩
  case round =>
    clear H'
    obtain ⟨x3_1, x8_1, rfl, rfl, HA, HK1, HB⟩ := hrel
    cases gk with
    | zero => exact absurd HA.out (by simp [mailsacklaw13_Heavy.l0])
    | succ k1 =>
      have H := HA.out
      clear HA
      simp only [mailsacklaw13_Heavy.l0] at H
      by_cases c2 : x8_1 < (l0.length : Int)
      · rw [if_pos c2] at H
        have c2b0 : decide (x8_1 < (l0.length : Int)) = true := decide_eq_true c2
        clear c2
        by_cases c3 : 0 ≤ x8_1
        · rw [if_pos c3] at H
          have c3b0 : decide (0 ≤ x8_1) = true := decide_eq_true c3
          clear c3
          by_cases c4 : x8_1 < (l0.length : Int)
          · rw [if_pos c4] at H
            have c4b0 : decide (x8_1 < (l0.length : Int)) = true := decide_eq_true c4
            clear c4
            by_cases c5 : x8_1 ≥ 100
            · rw [if_pos c5] at H
              have c5b0 : decide (100 ≤ x8_1) = true := decide_eq_true c5
              clear c5
              obtain rfl := Option.some.inj H
              have p101 : 0 ≤ (x8_1 : Int) := of_decide_eq_true (by first | (with_reducible assumption) | assumption)
              have q101 : x8_1 < (l0.length : Int) := of_decide_eq_true (by first | (with_reducible assumption) | assumption)
              obtain ⟨ad101, A101_3, c101_3, A101_4, c101_4, e101, hx101_0, hx101_1, hx101_2, hx101_3, hx101_4, hl101_3, hi101_3, hl101_4, hi101_4⟩ := at_T45 HR0.out x8_1 p101 q101
              cases e101
              replace hx101_0 := (HB.out.cell (World.block_lt_of_cell? w _ hx101_0)).trans hx101_0
              replace hx101_1 := (HB.out.cell (World.block_lt_of_cell? w _ hx101_1)).trans hx101_1
              replace hx101_2 := (HB.out.cell (World.block_lt_of_cell? w _ hx101_2)).trans hx101_2
              replace hx101_3 := (HB.out.cell (World.block_lt_of_cell? w _ hx101_3)).trans hx101_3
              replace hx101_4 := (HB.out.cell (World.block_lt_of_cell? w _ hx101_4)).trans hx101_4
              have HR101_3 := Aside0.mk hi101_3
              have HC101_3 := Aside0.mk hl101_3
              clear hi101_3 hl101_3
              have HR101_4 := Aside0.mk hi101_4
              have HC101_4 := Aside0.mk hl101_4
              clear hi101_4 hl101_4
              replace p101 := eq_true p101
              replace q101 := eq_true q101
              go_wp2_with (first | ((with_reducible refine gate_dst (N := 5) rfl ?_); refine box_event ?hg (N := 5) ?hd (cs := #[.int .i64 0, .int .i64 0, .string (⟨#[]⟩ : ByteArray), .slice none 0 0, .slice none 0 0]) (t := 45) ?hr ?_; (case hd => rfl); (case hg => rfl); (case hr => first | (go_simp; done) | (go_simp; rfl)); intro gb102 hg w6 hbox hb; have n0_ := Aside0.mk (below_step (by repeat (first | (with_reducible first | exact HB.out | apply below_alloc | apply pw_below_drewN | apply below_drew1) | exact HB.out)) hb); have n1_ := Aside0.mk (hbox); have n2_ := Aside0.mk ((by rw [hg]; exact (below_size (by repeat (first | (with_reducible first | exact HB.out | apply below_alloc | apply pw_below_drewN | apply below_drew1) | exact HB.out))) : w.heap.size ≤ gb102)); have n3_ := Aside0.mk ((by rw [hg]; exact (below_size (by repeat (first | (with_reducible first | exact HB.out | apply below_alloc | apply pw_below_drewN | apply below_drew1) | exact HB.out))) : w.heap.size ≤ gb102)); clear HB; have HB := n0_; have BK102 := n1_; have GW102 := n2_; have GE102 := n3_; clear n0_ n1_ n2_ n3_; clear hb hbox hg; have hcz7_0 : w6.cell? ⟨gb102, 0, none⟩ = some (.int .i64 0) := (blk_cell BK102.out 0).trans rfl; have hcz7_1 : w6.cell? ⟨gb102, 1, none⟩ = some (.int .i64 0) := (blk_cell BK102.out 1).trans rfl; have hcz7_2 : w6.cell? ⟨gb102, 2, none⟩ = some (.string (⟨#[]⟩ : ByteArray)) := (blk_cell BK102.out 2).trans rfl; have hcz7_3 : w6.cell? ⟨gb102, 3, none⟩ = some (.slice none 0 0) := (blk_cell BK102.out 3).trans rfl; have hcz7_4 : w6.cell? ⟨gb102, 4, none⟩ = some (.slice none 0 0) := (blk_cell BK102.out 4).trans rfl; have hfz7_0 := blk_frozen BK102.out 0; have hfz7_1 := blk_frozen BK102.out 1; have hfz7_2 := blk_frozen BK102.out 2; have hfz7_3 := blk_frozen BK102.out 3; have hfz7_4 := blk_frozen BK102.out 4))
              go_ret
              exact ⟨by first | rfl | (simp [errW_none, errW_some] <;> rfl) | (simp [*, errW_none, errW_some] <;> rfl), by repeat (first | (with_reducible first | exact HB.out | apply below_alloc | apply pw_below_drewN | apply below_drew1 | refine below_set ?_ GE102.out) | exact HB.out)⟩
            · rw [if_neg c5] at H
              have c5b0 : decide (100 ≤ x8_1) = false := decide_eq_false c5
              clear c5
              by_cases c8 : (wrap64 (x3_1 + (wrap64 ((wrap64 ((((rd_T45 l0 x8_1).f2).size : Int) + (((rd_T45 l0 x8_1).f3).length : Int))) + (((rd_T45 l0 x8_1).f4).length : Int))))) > 300000
              · rw [if_pos c8] at H
                have c8b0 : decide (300000 < (wrap64 (x3_1 + (wrap64 ((wrap64 ((((rd_T45 l0 x8_1).f2).size : Int) + (((rd_T45 l0 x8_1).f3).length : Int))) + (((rd_T45 l0 x8_1).f4).length : Int)))))) = true := decide_eq_true c8
                clear c8
                obtain rfl := Option.some.inj H
                have p101 : 0 ≤ (x8_1 : Int) := of_decide_eq_true (by first | (with_reducible assumption) | assumption)
                have q101 : x8_1 < (l0.length : Int) := of_decide_eq_true (by first | (with_reducible assumption) | assumption)
                obtain ⟨ad101, A101_3, c101_3, A101_4, c101_4, e101, hx101_0, hx101_1, hx101_2, hx101_3, hx101_4, hl101_3, hi101_3, hl101_4, hi101_4⟩ := at_T45 HR0.out x8_1 p101 q101
                cases e101
                replace hx101_0 := (HB.out.cell (World.block_lt_of_cell? w _ hx101_0)).trans hx101_0
                replace hx101_1 := (HB.out.cell (World.block_lt_of_cell? w _ hx101_1)).trans hx101_1
                replace hx101_2 := (HB.out.cell (World.block_lt_of_cell? w _ hx101_2)).trans hx101_2
                replace hx101_3 := (HB.out.cell (World.block_lt_of_cell? w _ hx101_3)).trans hx101_3
                replace hx101_4 := (HB.out.cell (World.block_lt_of_cell? w _ hx101_4)).trans hx101_4
                have HR101_3 := Aside0.mk hi101_3
                have HC101_3 := Aside0.mk hl101_3
                clear hi101_3 hl101_3
                have HR101_4 := Aside0.mk hi101_4
                have HC101_4 := Aside0.mk hl101_4
                clear hi101_4 hl101_4
                replace p101 := eq_true p101
                replace q101 := eq_true q101
                go_wp2_with (first | ((with_reducible refine gate_dst (N := 5) rfl ?_); refine box_event ?hg (N := 5) ?hd (cs := #[.int .i64 0, .int .i64 0, .string (⟨#[]⟩ : ByteArray), .slice none 0 0, .slice none 0 0]) (t := 45) ?hr ?_; (case hd => rfl); (case hg => rfl); (case hr => first | (go_simp; done) | (go_simp; rfl)); intro gb102 hg w9 hbox hb; have n0_ := Aside0.mk (below_step (by repeat (first | (with_reducible first | exact HB.out | apply below_alloc | apply pw_below_drewN | apply below_drew1) | exact HB.out)) hb); have n1_ := Aside0.mk (hbox); have n2_ := Aside0.mk ((by rw [hg]; exact (below_size (by repeat (first | (with_reducible first | exact HB.out | apply below_alloc | apply pw_below_drewN | apply below_drew1) | exact HB.out))) : w.heap.size ≤ gb102)); have n3_ := Aside0.mk ((by rw [hg]; exact (below_size (by repeat (first | (with_reducible first | exact HB.out | apply below_alloc | apply pw_below_drewN | apply below_drew1) | exact HB.out))) : w.heap.size ≤ gb102)); clear HB; have HB := n0_; have BK102 := n1_; have GW102 := n2_; have GE102 := n3_; clear n0_ n1_ n2_ n3_; clear hb hbox hg; have hcz10_0 : w9.cell? ⟨gb102, 0, none⟩ = some (.int .i64 0) := (blk_cell BK102.out 0).trans rfl; have hcz10_1 : w9.cell? ⟨gb102, 1, none⟩ = some (.int .i64 0) := (blk_cell BK102.out 1).trans rfl; have hcz10_2 : w9.cell? ⟨gb102, 2, none⟩ = some (.string (⟨#[]⟩ : ByteArray)) := (blk_cell BK102.out 2).trans rfl; have hcz10_3 : w9.cell? ⟨gb102, 3, none⟩ = some (.slice none 0 0) := (blk_cell BK102.out 3).trans rfl; have hcz10_4 : w9.cell? ⟨gb102, 4, none⟩ = some (.slice none 0 0) := (blk_cell BK102.out 4).trans rfl; have hfz10_0 := blk_frozen BK102.out 0; have hfz10_1 := blk_frozen BK102.out 1; have hfz10_2 := blk_frozen BK102.out 2; have hfz10_3 := blk_frozen BK102.out 3; have hfz10_4 := blk_frozen BK102.out 4))
                go_ret
                exact ⟨by first | rfl | (simp [errW_none, errW_some] <;> rfl) | (simp [*, errW_none, errW_some] <;> rfl), by repeat (first | (with_reducible first | exact HB.out | apply below_alloc | apply pw_below_drewN | apply below_drew1 | refine below_set ?_ GE102.out) | exact HB.out)⟩
              · rw [if_neg c8] at H
                have c8b0 : decide (300000 < (wrap64 (x3_1 + (wrap64 ((wrap64 ((((rd_T45 l0 x8_1).f2).size : Int) + (((rd_T45 l0 x8_1).f3).length : Int))) + (((rd_T45 l0 x8_1).f4).length : Int)))))) = false := decide_eq_false c8
                clear c8
                have H' := Aside0.mk H
                clear H
                have p101 : 0 ≤ (x8_1 : Int) := of_decide_eq_true (by first | (with_reducible assumption) | assumption)
                have q101 : x8_1 < (l0.length : Int) := of_decide_eq_true (by first | (with_reducible assumption) | assumption)
                obtain ⟨ad101, A101_3, c101_3, A101_4, c101_4, e101, hx101_0, hx101_1, hx101_2, hx101_3, hx101_4, hl101_3, hi101_3, hl101_4, hi101_4⟩ := at_T45 HR0.out x8_1 p101 q101
                cases e101
                replace hx101_0 := (HB.out.cell (World.block_lt_of_cell? w _ hx101_0)).trans hx101_0
                replace hx101_1 := (HB.out.cell (World.block_lt_of_cell? w _ hx101_1)).trans hx101_1
                replace hx101_2 := (HB.out.cell (World.block_lt_of_cell? w _ hx101_2)).trans hx101_2
                replace hx101_3 := (HB.out.cell (World.block_lt_of_cell? w _ hx101_3)).trans hx101_3
                replace hx101_4 := (HB.out.cell (World.block_lt_of_cell? w _ hx101_4)).trans hx101_4
                have HR101_3 := Aside0.mk hi101_3
                have HC101_3 := Aside0.mk hl101_3
                clear hi101_3 hl101_3
                have HR101_4 := Aside0.mk hi101_4
                have HC101_4 := Aside0.mk hl101_4
                clear hi101_4 hl101_4
                replace p101 := eq_true p101
                replace q101 := eq_true q101
                go_wp2_with (first | ((with_reducible refine gate_dst (N := 5) rfl ?_); refine box_event ?hg (N := 5) ?hd (cs := #[.int .i64 0, .int .i64 0, .string (⟨#[]⟩ : ByteArray), .slice none 0 0, .slice none 0 0]) (t := 45) ?hr ?_; (case hd => rfl); (case hg => rfl); (case hr => first | (go_simp; done) | (go_simp; rfl)); intro gb102 hg w11 hbox hb; have n0_ := Aside0.mk (below_step (by repeat (first | (with_reducible first | exact HB.out | apply below_alloc | apply pw_below_drewN | apply below_drew1) | exact HB.out)) hb); have n1_ := Aside0.mk (hbox); have n2_ := Aside0.mk ((by rw [hg]; exact (below_size (by repeat (first | (with_reducible first | exact HB.out | apply below_alloc | apply pw_below_drewN | apply below_drew1) | exact HB.out))) : w.heap.size ≤ gb102)); have n3_ := Aside0.mk ((by rw [hg]; exact (below_size (by repeat (first | (with_reducible first | exact HB.out | apply below_alloc | apply pw_below_drewN | apply below_drew1) | exact HB.out))) : w.heap.size ≤ gb102)); clear HB; have HB := n0_; have BK102 := n1_; have GW102 := n2_; have GE102 := n3_; clear n0_ n1_ n2_ n3_; clear hb hbox hg; have hcz12_0 : w11.cell? ⟨gb102, 0, none⟩ = some (.int .i64 0) := (blk_cell BK102.out 0).trans rfl; have hcz12_1 : w11.cell? ⟨gb102, 1, none⟩ = some (.int .i64 0) := (blk_cell BK102.out 1).trans rfl; have hcz12_2 : w11.cell? ⟨gb102, 2, none⟩ = some (.string (⟨#[]⟩ : ByteArray)) := (blk_cell BK102.out 2).trans rfl; have hcz12_3 : w11.cell? ⟨gb102, 3, none⟩ = some (.slice none 0 0) := (blk_cell BK102.out 3).trans rfl; have hcz12_4 : w11.cell? ⟨gb102, 4, none⟩ = some (.slice none 0 0) := (blk_cell BK102.out 4).trans rfl; have hfz12_0 := blk_frozen BK102.out 0; have hfz12_1 := blk_frozen BK102.out 1; have hfz12_2 := blk_frozen BK102.out 2; have hfz12_3 := blk_frozen BK102.out 3; have hfz12_4 := blk_frozen BK102.out 4))
                go_roundg k1
                case measure => have := HK1.out; omega
                case rel => exact ⟨(wrap64 (x3_1 + (wrap64 ((wrap64 ((((rd_T45 l0 x8_1).f2).size : Int) + (((rd_T45 l0 x8_1).f3).length : Int))) + (((rd_T45 l0 x8_1).f4).length : Int))))), (wrap64 (x8_1 + 1)), (by first | rfl | (simp; done) | (simp [*]; done)), (by first | rfl | (simp; done) | (simp [*]; done)), H', ⟨by have := HK1.out; omega⟩, ⟨by repeat (first | (with_reducible first | exact HB.out | apply below_alloc | apply pw_below_drewN | apply below_drew1 | refine below_set ?_ GE102.out) | exact HB.out)⟩⟩
          · rw [if_neg c4] at H
            exact absurd H (by simp)
        · rw [if_neg c3] at H
          exact absurd H (by simp)
      · rw [if_neg c2] at H
        have c2b0 : decide (x8_1 < (l0.length : Int)) = false := decide_eq_false c2
        clear c2
        obtain rfl := Option.some.inj H
        go_wp2
        go_ret
        exact ⟨by first | rfl | (simp [errW_none, errW_some] <;> rfl) | (simp [*, errW_none, errW_some] <;> rfl), by repeat (first | (with_reducible first | exact HB.out | apply below_alloc | apply pw_below_drewN | apply below_drew1) | exact HB.out)⟩
def mailsackref13_named.f (a0 : ByteArray) : Option (Bool) := if (a0.size : Int) ≥ 1 then (some (decide ((a0.size : Int) ≤ 24))) else (some false)
set_option maxHeartbeats 8000000 in
set_option maxRecDepth 100000 in
theorem mailsackref13_named.calls (a0 : ByteArray) (r : Bool) (w : World) (h : mailsackref13_named.f a0 = some r) :
    Calls Try.prog 60 #[.string a0] w fun e w' => e = .returned (.bool r) ∧ Drawn0 w w' := by
  have H : (if (a0.size : Int) ≥ 1 then (some (decide ((a0.size : Int) ≤ 24))) else (some false)) = some r := h
  clear h
  by_cases c2 : (a0.size : Int) ≥ 1
  · rw [if_pos c2] at H
    have c2b0 : decide (1 ≤ (a0.size : Int)) = true := decide_eq_true c2
    have c2b1 : decide (1 ≤ a0.size) = true := decide_eq_true (by omega)
    clear c2
    obtain rfl := Option.some.inj H
    go_enter Try.func60, Try.ntmps60
    go_wp2
    go_ret
    exact ⟨by first | rfl | (simp; done) | (simp [*]; done), by repeat (first | exact Drawn0.refl _ | apply Drawn0.step)⟩
  · rw [if_neg c2] at H
    have c2b0 : decide (1 ≤ (a0.size : Int)) = false := decide_eq_false c2
    have c2b1 : decide (1 ≤ a0.size) = false := decide_eq_false (by omega)
    clear c2
    obtain rfl := Option.some.inj H
    go_enter Try.func60, Try.ntmps60
    go_wp2
    go_ret
    exact ⟨by first | rfl | (simp; done) | (simp [*]; done), by repeat (first | exact Drawn0.refl _ | apply Drawn0.step)⟩
def rack_named.f (a0 : ByteArray) : Option (Bool) := if (a0.size : Int) ≥ 1 then (some (decide ((a0.size : Int) ≤ 24))) else (some false)
set_option maxHeartbeats 8000000 in
set_option maxRecDepth 100000 in
theorem rack_named.calls (a0 : ByteArray) (r : Bool) (w : World) (h : rack_named.f a0 = some r) :
    Calls Try.prog 52 #[.string a0] w fun e w' => e = .returned (.bool r) ∧ Drawn0 w w' := by
  have H : (if (a0.size : Int) ≥ 1 then (some (decide ((a0.size : Int) ≤ 24))) else (some false)) = some r := h
  clear h
  by_cases c2 : (a0.size : Int) ≥ 1
  · rw [if_pos c2] at H
    have c2b0 : decide (1 ≤ (a0.size : Int)) = true := decide_eq_true c2
    have c2b1 : decide (1 ≤ a0.size) = true := decide_eq_true (by omega)
    clear c2
    obtain rfl := Option.some.inj H
    go_enter Try.func52, Try.ntmps52
    go_wp2
    go_ret
    exact ⟨by first | rfl | (simp; done) | (simp [*]; done), by repeat (first | exact Drawn0.refl _ | apply Drawn0.step)⟩
  · rw [if_neg c2] at H
    have c2b0 : decide (1 ≤ (a0.size : Int)) = false := decide_eq_false c2
    have c2b1 : decide (1 ≤ a0.size) = false := decide_eq_false (by omega)
    clear c2
    obtain rfl := Option.some.inj H
    go_enter Try.func52, Try.ntmps52
    go_wp2
    go_ret
    exact ⟨by first | rfl | (simp; done) | (simp [*]; done), by repeat (first | exact Drawn0.refl _ | apply Drawn0.step)⟩
def rack_cost.f (a0 : ByteArray) (l1 : List Int) : Option (Int) := some (wrap64 ((wrap64 ((a0.size : Int) + (l1.length : Int))) + 8))
set_option maxHeartbeats 8000000 in
set_option maxRecDepth 100000 in
theorem rack_cost.calls (a0 : ByteArray) (A1 : Option Addr) (c1 : Nat) (l1 : List Int) (r : Int) (w : World) (hr1 : Kd.C (Kd.int .u8) w A1 l1.length l1) (hc1 : l1.length ≤ c1) (h : rack_cost.f a0 l1 = some r) :
    Calls Try.prog 53 #[.string a0, .slice A1 l1.length c1] w fun e w' => e = .returned (.int .i64 r) ∧ Drawn0 w w' := by
  have HR1 := Aside0.mk hr1
  have HC1 := Aside0.mk hc1
  clear hr1 hc1
  have H : (some (wrap64 ((wrap64 ((a0.size : Int) + (l1.length : Int))) + 8))) = some r := h
  clear h
  obtain rfl := Option.some.inj H
  go_enter Try.func53, Try.ntmps53
  go_wp2
  go_ret
  exact ⟨by first | rfl | (simp; done) | (simp [*]; done), by repeat (first | exact Drawn0.refl _ | apply Drawn0.step)⟩
def slices_Clone_byte_byte.f (l0 : List Int) : Option (List Int) := (some (([] : List Int) : List Int)).bind fun y115 => (if y115.length + l0.length < 140737488355328 then (some (y115 ++ l0)) else (none))
set_option maxHeartbeats 8000000 in
set_option maxRecDepth 100000 in
theorem slices_Clone_byte_byte.calls_some (ad0 : Addr) (c0 : Nat) (l0 : List Int) (r : List Int) (w : World) (hr0 : Kd.C (Kd.int .u8) w (some ad0) l0.length l0) (hc0 : l0.length ≤ c0) (h : slices_Clone_byte_byte.f l0 = some r) :
    Calls Try.prog 55 #[.slice (some ad0) l0.length c0] w fun e w' => ∃ v0_ : Value, e = .returned (v0_) ∧ Kd.R (Kd.int .u8) 5 w' w.heap.size (fun _ => True) v0_ r ∧ Below w.heap.size w w' := by
  have HR0 := Aside0.mk hr0
  have HC0 := Aside0.mk hc0
  clear hr0 hc0
  have HB := Aside0.mk (Below.refl w.heap.size w)
  have H : ((some (([] : List Int) : List Int)).bind fun y115 => (if y115.length + l0.length < 140737488355328 then (some (y115 ++ l0)) else (none))) = some r := h
  clear h
  obtain ⟨y115, hy115⟩ : ∃ y_ : List Int, y_ = (([] : List Int)) := ⟨_, rfl⟩
  replace H : (if y115.length + l0.length < 140737488355328 then (some (y115 ++ l0)) else (none)) = some r := by first | (rw [hy115]; with_reducible exact H) | (have H2_ := (Option.bind_some _ _).symm.trans H; rw [hy115]; with_reducible exact H2_) | (have H2_ := (Option.bind_some _ _).symm.trans H; with_reducible exact H2_) | with_reducible exact H | (rw [hy115]; exact H) | exact H
  have Ny115 := Aside0.mk hy115
  clear hy115
  by_cases c2 : y115.length + l0.length < 140737488355328
  · rw [if_pos c2] at H
    have LMc2 := Aside0.mk c2
    clear c2
    obtain ⟨y118, hy118⟩ : ∃ y_ : List Int, y_ = (y115 ++ l0) := ⟨_, rfl⟩
    replace H : (some y118) = some r := by first | (rw [hy118]; with_reducible exact H) | (have H2_ := (Option.bind_some _ _).symm.trans H; rw [hy118]; with_reducible exact H2_) | (have H2_ := (Option.bind_some _ _).symm.trans H; with_reducible exact H2_) | with_reducible exact H | (rw [hy118]; exact H) | exact H
    have Ny118 := Aside0.mk hy118
    clear hy118
    obtain rfl := Option.some.inj H
    have hnil_ : ∀ W, (binOp .eql 23 (.slice (some ad0) l0.length c0) (.slice none 0 0)).run Try.prog W = .ok (.bool false) W := fun W => Lib.run_eql_slice_some_nil W _ _ _ Try.underlying23
    go_enter Try.func55, Try.ntmps55
    go_wp2_with (first | ((with_reducible refine gate_dst (N := 5) rfl ?_); refine Kd.R_lit (Kd.int .u8) _ 5 ?hg (N := 5) ?hd (xs := ([] : List Int)) (inner := []) (ok := fun _ => True) (okp := fun _ => True) ?hr ?hp (fun _ hk => hk) trivial (Below.refl _ _) (Nat.le_refl _) (by simp) ?_; (case hd => rfl); (case hg => rfl); (case hr => first | (go_simp; done) | (go_simp; rfl)); (case hp => exact (Reps.none _ _)); intro v116 w3 ho4 hb hg_ hnew_; clear hg_ hnew_; (first | rw [← Ny115.out] at ho4 | (simp only [Int.reduceToNat] at ho4; rw [← Ny115.out] at ho4)); have n0_ := Aside0.mk (Kd.R_lower ho4 (below_size (by repeat (first | (with_reducible first | exact HB.out | apply below_alloc | apply pw_below_drewN | apply below_drew1) | exact HB.out)))); have n1_ := Aside0.mk (below_step (by repeat (first | (with_reducible first | exact HB.out | apply below_alloc | apply pw_below_drewN | apply below_drew1) | exact HB.out)) hb); clear HB; have HO117 := n0_; have HB := n1_; clear n0_ n1_; clear hb ho4) | ((with_reducible refine gate_builtin (b := .append) (xs := #[.tmp 5, .tmp 6]) rfl ?_); at_builtin; refine Kd.R_append_rows (Kd.int .u8) (w0 := w) w.heap.size rfl (.tmp 5) (.tmp 6) 23 5 (.int .u8 0) 1 rfl Try.underlying23 info5 rfl (by decide) (by omega) v116 y115 l0 _ _ _ (fun _ => True) (fun _ => False) rfl rfl ?aO ?aR (fun _ _ h => h) (fun _ h => h.elim) ?aF ?aB ?aS ?aL ?_; (case aR => repeat (first | exact (Kd.C_below HR0.out HB.out) | (with_reducible refine Kd.C_alloc ?_ _) | (with_reducible refine Kd.C_drewN ?_ _) | (with_reducible refine Kd.C_drew ?_))); (case aB => exact (by repeat (first | (with_reducible first | exact HB.out | apply below_alloc | apply pw_below_drewN | apply below_drew1) | exact HB.out))); (case aF => exact (fun _ _ => trivial)); (case aO => exact (by (with_reducible repeat (first | apply Kd.R_alloc | apply Kd.R_drewN | apply Kd.R_drew)); exact HO117.out)); (case aS => exact (below_size (by repeat (first | (with_reducible first | exact HB.out | apply below_alloc | apply pw_below_drewN | apply below_drew1) | exact HB.out)))); (case aL => have := LMc2.out; omega); intro v119 w5 ho hb hg hat; rw [← Ny118.out] at ho; have n0_ := Aside0.mk (hb); have n1_ := Aside0.mk (ho); clear HB; clear HO117; have HB := n0_; have HO120 := n1_; clear n0_ n1_; clear ho hb hg hat))
    go_ret
    exact ⟨_, by first | rfl | (simp [errW_none, errW_some] <;> rfl) | (simp [*, errW_none, errW_some] <;> rfl), by (with_reducible repeat (first | apply Kd.R_alloc | apply Kd.R_drewN | apply Kd.R_drew)); exact HO120.out, by repeat (first | (with_reducible first | exact HB.out | apply below_alloc | apply pw_below_drewN | apply below_drew1) | exact HB.out)⟩
  · rw [if_neg c2] at H
    exact absurd H (by simp)
set_option maxHeartbeats 8000000 in
theorem slices_Clone_byte_byte.calls (A0 : Option Addr) (c0 : Nat) (l0 : List Int) (r : List Int) (w : World) (hr0 : Kd.C (Kd.int .u8) w A0 l0.length l0) (hc0 : l0.length ≤ c0) (h : slices_Clone_byte_byte.f l0 = some r) :
    Calls Try.prog 55 #[.slice A0 l0.length c0] w fun e w' => ∃ v0_ : Value, e = .returned (v0_) ∧ Kd.R (Kd.int .u8) 5 w' w.heap.size (fun _ => True) v0_ r ∧ Below w.heap.size w w' := by
  cases A0 with
  | some ad0 => exact slices_Clone_byte_byte.calls_some ad0 c0 l0 r w hr0 hc0 h
  | none =>
    have h0 : l0 = [] := by
      rcases Nat.eq_zero_or_pos l0.length with h0 | h0
      · exact List.eq_nil_of_length_eq_zero h0
      · obtain ⟨_, h1, _⟩ := hr0.2.2 h0
        cases h1
    subst h0
    have hr : r = [] := by simpa [slices_Clone_byte_byte.f] using h.symm
    subst hr
    have hnil_ : ∀ W, (binOp .eql 23 (.slice none 0 c0) (.slice none 0 0)).run Try.prog W = .ok (.bool true) W := fun W => Lib.run_eql_slice_nil_nil W _ _ Try.underlying23
    clear hr0 hc0 h
    go_enter Try.func55, Try.ntmps55
    go_wp2
    go_ret
    exact ⟨_, rfl, Kd.R_nil _ _ _ _ _, Below.refl _ _⟩
end Go.Proofs.Ytjljgcceapkdcaa.RkM
end
section
namespace Go.Proofs.Ytjljgcceapkdcaa.Rw
open Go.RowKit Go.Proofs.YtjljgcceapkdcaaW.PrintWords Go.Proofs.YtjljgcceapkdcaaW.PrintLast Go.Proofs.YtjljgcceapkdcaaW.PrintMore
set_option linter.unusedVariables false
def AP (v u : Value) : Prop := v.ownBlock = none ∨ v.ownBlock ≠ u.ownBlock
theorem AP.symm {v u : Value} (h : AP v u) : AP u v := by
  cases hu : u.ownBlock with
  | none => exact .inl hu
  | some k =>
    refine .inr (fun e => ?_)
    rcases h with h | h
    · rw [h, hu] at e; cases e
    · exact h e.symm
theorem AP.nil (v : Value) : AP (.slice none 0 0) v := .inl rfl
def Tg {α : Type} (d : Kd α) (e : Nat) (w : World) (base : Nat) (v : Value) (l : List α) : Prop := d.R e w base (fun k => some k = v.ownBlock) v l
section
variable {α : Type} {d : Kd α} {e : Nat}
theorem Tg.of (hE : d.E = []) {w : World} {base : Nat} {v : Value} {l : List α} {ok : Nat → Prop} (h : d.R e w base ok v l) : Tg d e w base v l := Kd.R_tight hE h
theorem Tg.nil (d : Kd α) (e : Nat) (w : World) (base : Nat) : Tg d e w base (.slice none 0 0) [] := Kd.R_nil d e w base _
theorem Tg.any {w : World} {base : Nat} {v : Value} {l : List α} (h : Tg d e w base v l) : d.R e w base (fun _ => True) v l := Kd.R_mono h (fun _ _ => trivial)
theorem Tg.below {w w1 : World} {base : Nat} {v : Value} {l : List α} (h : Tg d e w base v l) (hb : Below w.heap.size w w1) : Tg d e w1 base v l := Kd.R_below h hb
theorem Tg.kept {w w1 : World} {base : Nat} {v u : Value} {l : List α} (h : Tg d e w base v l) (hk : Kept w w1 (fun k => some k = u.ownBlock)) (ha : AP v u) : Tg d e w1 base v l :=
  Kd.R_kept h hk (fun k h1 h2 => by
    rcases ha with ha | ha
    · rw [ha] at h1; cases h1
    · exact ha (h1.symm.trans h2))
theorem Tg.grown {w w1 : World} {base : Nat} {v u : Value} {l : List α} (h : Tg d e w base v l) (hg : w.grownBy w1 u.ownBlock) (ha : AP v u) : Tg d e w1 base v l :=
  h.kept (Kept.of_grown hg (Kept.refl _ _) (fun k hk => .inl hk.symm)) ha
theorem Tg.grown_none {w w1 : World} {base : Nat} {v : Value} {l : List α} (h : Tg d e w base v l) (hg : w.grownBy w1 none) : Tg d e w1 base v l :=
  Kd.R_kept h (S := fun _ => False) (Kept.of_grown hg (Kept.refl _ _) (fun k hk => by cases hk)) (fun _ _ h2 => h2)
end
theorem row_slice {α : Type} {d : Kd α} {e base : Nat} {w : World} {ok : Nat → Prop} {v : Value} {xs : List α} (h : d.R e w base ok v xs) : ∃ A n c, v = .slice A n c ∧ Aside0 (n = xs.length) ∧ Aside0 (n ≤ c ∧ d.C w A n xs) := by
  obtain ⟨A, c, rfl, h1, h2⟩ := Kd.R_reads h
  exact ⟨A, _, c, rfl, ⟨rfl⟩, ⟨h1, h2⟩⟩
theorem tg_C {α : Type} {d : Kd α} {e : Nat} {w : World} {base : Nat} {A : Option Addr} {n c : Nat} {xs : List α} (h : Tg d e w base (.slice A n c) xs) : n = xs.length ∧ n ≤ c ∧ d.C w A n xs := by
  have h1 := Kd.R_reads' h
  refine ⟨h1.1, h1.2.1, ?_⟩
  rw [h1.1]
  exact h1.2.2
end Go.Proofs.Ytjljgcceapkdcaa.Rw
end
section
namespace Go.Proofs.Ytjljgcceapkdcaa.RkB
open Go.RowKit Go.Proofs.YtjljgcceapkdcaaW.PrintWords Go.Proofs.YtjljgcceapkdcaaW.PrintLast Go.Proofs.YtjljgcceapkdcaaW.PrintMore Go.Proofs.Ytjljgcceapkdcaa.RkM Go.Proofs.Ytjljgcceapkdcaa.RkA Go.Proofs.Ytjljgcceapkdcaa.Rw
set_option linter.unusedVariables false
set_option linter.unusedSimpArgs false
structure WR where
  nm : ByteArray
  cut : Bool
  A : Option Addr
  c : Nat
  d : ByteArray
def WR.cs (x : WR) : List Value := [.string x.nm, .bool x.cut, .slice x.A x.d.size x.c]
def kW : Kd WR where
  sz := 3
  E := []
  K := fun _ x cs => cs = x.cs
  M := fun _ _ _ x cs => cs = x.cs
  K_len := fun h => by subst h; rfl
  K_one := fun h u hu => by
    subst h
    simp only [WR.cs, List.mem_cons, List.not_mem_nil, or_false] at hu
    rcases hu with rfl | rfl | rfl <;> rfl
  K_below := fun _ h => h
  K_of_M := fun h => h
  M_mono := fun _ h => h
  M_bound := fun h => h
  M_move := fun _ h => h
  M_lower := fun _ h => h
structure RS where
  room : Int
  bs : Nat
  bn : Nat
  ss : List FE
  ns : List FE
  lv : Value
  ls : List WR
  fuse : Int
  down : Bool
  writes : Int
def RS.cs (r : RS) : Array Value := #[.int .i64 r.room, .map (some r.bs), .map (some r.bn), r.lv, .int .i64 r.fuse, .bool r.down, .int .i64 r.writes]
def RS.S (g : Nat) (r : RS) (k : Nat) : Prop := k = g ∨ k = r.bs ∨ k = r.bn ∨ some k = r.lv.ownBlock
structure DOk (w : World) (S : Nat → Prop) (A : Option Addr) (c : Nat) (d : ByteArray) : Prop where
  cap : d.size ≤ c
  size : d.size ≤ 200000
  C : Kd.C (Kd.int .u8) w A d.size (bytesOf d)
  apart : ∀ ad, A = some ad → ad.block < w.heap.size ∧ ¬ S ad.block
theorem DOk.kept {w w1 : World} {S S1 S' : Nat → Prop} {A : Option Addr} {c : Nat} {d : ByteArray} (h : DOk w S A c d) (hk : Kept w w1 S1) (h1 : ∀ k, S1 k → S k) (hS : ∀ k, S' k → S k ∨ w.heap.size ≤ k) : DOk w1 S' A c d :=
  ⟨h.cap, h.size, Kd.C_foot_neS (fun h => h) h.C (fun ad e _ hs => (h.apart ad e).2 (h1 _ hs)) w1 hk, fun ad e => ⟨Nat.lt_of_lt_of_le (h.apart ad e).1 hk.1, fun hs => by
    rcases hS _ hs with h2 | h2
    · exact (h.apart ad e).2 h2
    · have := (h.apart ad e).1
      omega⟩⟩
structure RackAt (w0 w : World) (g : Nat) (r : RS) : Prop where
  blk : w.heap[g]? = some (.cells r.cs 78 (0, 0))
  sm : FM w r.bs r.ss.length r.ss
  nm : FM w r.bn r.ns.length r.ns
  ne : r.bs ≠ r.bn
  row : Tg kW 84 w w0.heap.size r.lv r.ls
  lowg : w0.heap.size ≤ g
  lows : w0.heap.size ≤ r.bs
  lown : w0.heap.size ≤ r.bn
  bel : Below w0.heap.size w0 w
  ds : ∀ x ∈ r.ss, x.nm.size ≤ 100 ∧ DOk w (r.S g) x.A x.c x.d
  dn : ∀ x ∈ r.ns, x.nm.size ≤ 100 ∧ DOk w (r.S g) x.A x.c x.d
  dl : ∀ x ∈ r.ls, x.nm.size ≤ 100 ∧ DOk w (r.S g) x.A x.c x.d
  rm : 0 ≤ r.room ∧ r.room ≤ 1000000
  fs : -1 ≤ r.fuse ∧ r.fuse ≤ 9223372036854775807
theorem FM.tight {w : World} {b n : Nat} {fs : List FE} (h : FM w b n fs) : FM w b fs.length fs := by
  obtain ⟨es, clock, h1, F, hs, hD⟩ := h
  refine ⟨es, clock, h1, F, ?_, hD⟩
  injection hD with hD
  have := congrArg List.length hD
  rw [List.length_map, length_sorted, List.length_map] at this
  simpa using Nat.le_of_eq this.symm
theorem RackAt.nes {w0 w : World} {g : Nat} {r : RS} (h : RackAt w0 w g r) : r.bs ≠ g ∧ r.bn ≠ g := ⟨h.sm.ne h.blk, h.nm.ne h.blk⟩
theorem RackAt.lv_ne {w0 w : World} {g : Nat} {r : RS} (h : RackAt w0 w g r) : ∀ k, some k = r.lv.ownBlock → k ≠ g ∧ k ≠ r.bs ∧ k ≠ r.bn ∧ k < w.heap.size ∧ w0.heap.size ≤ k := by
  intro k hk
  obtain ⟨h1, h2⟩ := Kd.R_bound h.row
  obtain ⟨_, h3, h4, q, hq, cells, hc⟩ := h1 k hk.symm
  have hq' : q = 84 := by simpa [kW] using hq
  subst hq'
  refine ⟨?_, ?_, ?_, h4, h3⟩
  · rintro rfl
    have := h.blk
    rw [hc] at this
    injection this with this
    injection this with _ h9
    cases h9
  · rintro rfl
    exact h.sm.ne hc rfl
  · rintro rfl
    exact h.nm.ne hc rfl
theorem RackAt.below {w0 w w1 : World} {g : Nat} {r : RS} (h : RackAt w0 w g r) (hb : Below w.heap.size w w1) : RackAt w0 w1 g r := by
  have hk := Kept.of_below hb (r.S g)
  exact ⟨blk_below h.blk hb, h.sm.below hb, h.nm.below hb, h.ne, h.row.below hb, h.lowg, h.lows, h.lown, h.bel.trans (hb.mono h.bel.size), fun x hx => ⟨(h.ds x hx).1, (h.ds x hx).2.kept hk (fun _ h => h) (fun _ h => .inl h)⟩, fun x hx => ⟨(h.dn x hx).1, (h.dn x hx).2.kept hk (fun _ h => h) (fun _ h => .inl h)⟩, fun x hx => ⟨(h.dl x hx).1, (h.dl x hx).2.kept hk (fun _ h => h) (fun _ h => .inl h)⟩, h.rm, h.fs⟩
theorem RackAt.cells {w0 w w1 : World} {g : Nat} {r r' : RS} (h : RackAt w0 w g r) (hk : Kept w w1 (fun k => k = g)) (hb : Below w0.heap.size w0 w1) (hblk : w1.heap[g]? = some (.cells r'.cs 78 (0, 0)))
    (e1 : r'.bs = r.bs) (e2 : r'.bn = r.bn) (e3 : r'.ss = r.ss) (e4 : r'.ns = r.ns) (e5 : r'.lv = r.lv) (e6 : r'.ls = r.ls) (hrm : 0 ≤ r'.room ∧ r'.room ≤ 1000000) (hfs : -1 ≤ r'.fuse ∧ r'.fuse ≤ 9223372036854775807) : RackAt w0 w1 g r' := by
  have hS : ∀ k, r'.S g k → r.S g k ∨ w.heap.size ≤ k := fun k hk => by
    unfold RS.S at hk ⊢
    rw [e1, e2, e5] at hk
    exact .inl hk
  have h1 : ∀ k, k = g → r.S g k := fun k e => .inl e
  refine ⟨hblk, ?_, ?_, by rw [e1, e2]; exact h.ne, ?_, h.lowg, by rw [e1]; exact h.lows, by rw [e2]; exact h.lown, hb, ?_, ?_, ?_, hrm, hfs⟩
  · rw [e1, e3]
    exact h.sm.move (hk.2 _ h.sm.lt h.nes.1)
  · rw [e2, e4]
    exact h.nm.move (hk.2 _ h.nm.lt h.nes.2)
  · rw [e5, e6]
    exact Kd.R_kept h.row hk (fun k ho e => (h.lv_ne k ho).1 e)
  · rw [e3]
    exact fun x hx => ⟨(h.ds x hx).1, (h.ds x hx).2.kept hk h1 hS⟩
  · rw [e4]
    exact fun x hx => ⟨(h.dn x hx).1, (h.dn x hx).2.kept hk h1 hS⟩
  · rw [e6]
    exact fun x hx => ⟨(h.dl x hx).1, (h.dl x hx).2.kept hk h1 hS⟩
end Go.Proofs.Ytjljgcceapkdcaa.RkB
end
section
namespace Go.Proofs.Ytjljgcceapkdcaa.RkC
open Go.RowKit Go.Proofs.YtjljgcceapkdcaaW.PrintWords Go.Proofs.YtjljgcceapkdcaaW.PrintLast Go.Proofs.YtjljgcceapkdcaaW.PrintMore Go.Proofs.Ytjljgcceapkdcaa.RkM Go.Proofs.Ytjljgcceapkdcaa.RkA Go.Proofs.Ytjljgcceapkdcaa.RkB Go.Proofs.Ytjljgcceapkdcaa.Rw
set_option linter.unusedVariables false
set_option linter.unusedSimpArgs false
def clampR (n : Int) : Int := if 1000000 < if n < 0 then 0 else n then 1000000 else if n < 0 then 0 else n
theorem clampR_rng (n : Int) : 0 ≤ clampR n ∧ clampR n ≤ 1000000 := by unfold clampR; (repeat' split) <;> omega
def newRS (room : Int) (b1 b2 : Nat) : RS := ⟨clampR room, b1, b2, [], [], .slice none 0 0, [], -1, false, 0⟩
def NewP (w0 w : World) (room : Int) (e : Ending) (w' : World) : Prop := ∃ g b1 b2, e = .returned (.pointer (some ⟨g, 0, none⟩)) ∧ RackAt w0 w' g (newRS room b1 b2) ∧ Below w.heap.size w w'
set_option maxRecDepth 100000 in
theorem new_calls (w0 : World) (room : Int) (w : World) (hB : Below w0.heap.size w0 w) :
    Calls Try.prog 15 #[.int .i64 room] w (NewP w0 w room) := by
  have HB0 := Aside0.mk hB
  clear hB
  go_enter Try.func15, Try.ntmps15
  have M0_0 := Aside0.mk (Below.refl w.heap.size w)
  go_wp2_with (first
    | ((with_reducible refine gate_dst (N := 6) rfl ?_); refine made_event rfl _ rfl ?_; intro b1 w_1 hbM hI hb; have M0_1 := Aside0.mk (M0_0.out.trans (hb.mono M0_0.out.size)); have M1_1 := Aside0.mk (Below.refl w_1.heap.size w_1); have F1 := Aside0.mk hI; have L1 := Aside0.mk hbM; clear hb hI hbM M0_0; skip)
    | ((with_reducible refine gate_dst (N := 7) rfl ?_); refine made_event rfl _ rfl ?_; intro b2 w_2 hbN hI hb; have M0_2 := Aside0.mk (M0_1.out.trans (hb.mono M0_1.out.size)); have M1_2 := Aside0.mk (M1_1.out.trans (hb.mono M1_1.out.size)); have M2_2 := Aside0.mk (Below.refl w_2.heap.size w_2); have F2 := Aside0.mk hI; have L2 := Aside0.mk hbN; clear hb hI hbN M0_1 M1_1; skip)
    | ((with_reducible refine gate_dst (N := 9) rfl ?_); refine box_event ?hgG9 (N := 9) ?hdG9 (cs := #[.int .i64 (if 1000000 < if room < 0 then 0 else room then 1000000 else if room < 0 then 0 else room), .map (some b1), .map (some b2), .slice none 0 0, .int .i64 (-1), .bool false, .int .i64 0]) (t := 78) ?hrG9 ?_; (case hdG9 => rfl); (case hgG9 => rfl); (case hrG9 => first | (go_simp; done) | (go_simp; rfl)); intro g_G hg_ w_3 hbx_ hb_; have L0_G := Aside0.mk (show w.heap.size ≤ g_G by have := M0_2.out.size; omega); have L1_G := Aside0.mk (show w_1.heap.size ≤ g_G by have := M1_2.out.size; omega); have L2_G := Aside0.mk (show w_2.heap.size ≤ g_G by have := M2_2.out.size; omega); have M0_3 := Aside0.mk (M0_2.out.trans (hb_.mono M0_2.out.size)); have M1_3 := Aside0.mk (M1_2.out.trans (hb_.mono M1_2.out.size)); have M2_3 := Aside0.mk (M2_2.out.trans (hb_.mono M2_2.out.size)); have G_3 := Aside0.mk hbx_; clear hg_ hbx_ hb_ M0_2 M1_2 M2_2; have zG0 := blk_cell G_3.out 0; have zG1 := blk_cell G_3.out 1; have zG2 := blk_cell G_3.out 2; have zG3 := blk_cell G_3.out 3; have zG4 := blk_cell G_3.out 4; have zG5 := blk_cell G_3.out 5; have zG6 := blk_cell G_3.out 6; skip))
  all_goals
    have hb1 := F1.out.lt
    have l1 := L1.out
    have l2 := L2.out
    have l3 := L0_G.out
    have l4 := HB0.out.size
    have hN : NewP w0 w room (.returned (.pointer (some ⟨g_G, 0, none⟩))) w_3 := ⟨_, _, _, rfl, ⟨G_3.out, (F1.out.below M1_3.out), (F2.out.below M2_3.out), (show b1 ≠ b2 by omega), Tg.nil _ _ _ _, (show w0.heap.size ≤ g_G by omega), (show w0.heap.size ≤ b1 by omega), (show w0.heap.size ≤ b2 by omega), HB0.out.trans ((M0_3.out).mono l4), fun x hx => (by cases hx), fun x hx => (by cases hx), fun x hx => (by cases hx), clampR_rng room, (show -1 ≤ (-1 : Int) ∧ (-1 : Int) ≤ 9223372036854775807 by decide)⟩, M0_3.out⟩
    go_ret
    exact hN
theorem rack_c {w0 w : World} {g : Nat} {r : RS} (h : RackAt w0 w g r) (i : Nat) : w.cell? ⟨g, i, none⟩ = r.cs[i]? := blk_cell h.blk i
def IntP (w : World) (n : Int) (e : Ending) (w' : World) : Prop := e = .returned (.int .i64 n) ∧ Below w.heap.size w w'
set_option maxRecDepth 100000 in
theorem loose_calls (w0 : World) (g : Nat) (r : RS) (w : World) (h : RackAt w0 w g r) : Calls Try.prog 17 #[.pointer (some ⟨g, 0, none⟩)] w (IntP w (r.ls.length : Int)) := by
  obtain ⟨A, n, c, hv, hn, _⟩ := row_slice h.row
  have hc := rack_c h 3
  unfold RS.cs at hc
  rw [hv, hn.out] at hc
  have HB := Aside0.mk (Below.refl w.heap.size w)
  clear hn hv h
  go_enter Try.func17, Try.ntmps17
  go_wp2_with fail
  go_ret
  exact ⟨rfl, HB.out⟩
set_option maxRecDepth 100000 in
theorem writes_calls (w0 : World) (g : Nat) (r : RS) (w : World) (h : RackAt w0 w g r) : Calls Try.prog 26 #[.pointer (some ⟨g, 0, none⟩)] w (IntP w r.writes) := by
  have hc := rack_c h 6
  unfold RS.cs at hc
  have HB := Aside0.mk (Below.refl w.heap.size w)
  clear h
  go_enter Try.func26, Try.ntmps26
  go_wp2_with fail
  go_ret
  exact ⟨rfl, HB.out⟩
def BoolP (w : World) (x : Bool) (e : Ending) (w' : World) : Prop := e = .returned (.bool x) ∧ Below w.heap.size w w'
set_option maxRecDepth 100000 in
theorem down_calls (w0 : World) (g : Nat) (r : RS) (w : World) (h : RackAt w0 w g r) : Calls Try.prog 22 #[.pointer (some ⟨g, 0, none⟩)] w (BoolP w r.down) := by
  have hc := rack_c h 5
  unfold RS.cs at hc
  have HB := Aside0.mk (Below.refl w.heap.size w)
  clear h
  go_enter Try.func22, Try.ntmps22
  go_wp2_with fail
  go_ret
  exact ⟨rfl, HB.out⟩
end Go.Proofs.Ytjljgcceapkdcaa.RkC
end
section
namespace Go.Proofs.Ytjljgcceapkdcaa.RkD
open Go.RowKit Go.Proofs.YtjljgcceapkdcaaW.PrintWords Go.Proofs.YtjljgcceapkdcaaW.PrintLast Go.Proofs.YtjljgcceapkdcaaW.PrintMore Go.Proofs.Ytjljgcceapkdcaa.RkM Go.Proofs.Ytjljgcceapkdcaa.RkA Go.Proofs.Ytjljgcceapkdcaa.RkB Go.Proofs.Ytjljgcceapkdcaa.RkC Go.Proofs.Ytjljgcceapkdcaa.Rw
set_option linter.unusedVariables false
set_option linter.unusedSimpArgs false
theorem w64s {x : Int} (h0 : -9223372036854775808 ≤ x) (h1 : x ≤ 9223372036854775807) : wrap64 x = x := by unfold wrap64; omega
def costN (nm d : ByteArray) : Nat := nm.size + d.size + 8
theorem cost_calls (nm : ByteArray) (A : Option Addr) (c : Nat) (d : ByteArray) (w : World) (hC : Kd.C (Kd.int .u8) w A d.size (bytesOf d)) (hc : d.size ≤ c) (h1 : nm.size ≤ 140737488355328) (h2 : d.size ≤ 140737488355328) :
    Calls Try.prog 53 #[.string nm, .slice A d.size c] w (IntP w (costN nm d : Int)) := by
  have e := bytesOf_length d
  have hC' : Kd.C (Kd.int .u8) w A (bytesOf d).length (bytesOf d) := by rw [e]; exact hC
  have h := rack_cost.calls nm A c (bytesOf d) (costN nm d : Int) w hC' (by omega) (by
    unfold rack_cost.f costN
    rw [e, w64s (x := (nm.size : Int) + (d.size : Int)) (by omega) (by omega), w64s (by omega) (by omega)]
    congr 1)
  rw [e] at h
  exact h.mono (by rintro _ _ ⟨rfl, hd⟩; exact ⟨rfl, hd.below⟩)
def namedB (s : ByteArray) : Bool := decide (1 ≤ s.size) && decide (s.size ≤ 24)
theorem named_calls (s : ByteArray) (w : World) : Calls Try.prog 52 #[.string s] w (BoolP w (namedB s)) := by
  refine (rack_named.calls s (namedB s) w ?_).mono (by rintro _ _ ⟨rfl, hd⟩; exact ⟨rfl, hd.below⟩)
  unfold rack_named.f namedB
  by_cases h : 1 ≤ s.size
  · rw [if_pos (by omega), decide_eq_true h]
    simp
    omega
  · rw [if_neg (by omega), decide_eq_false h]
    rfl
def CloneP (w : World) (d : ByteArray) (e : Ending) (w' : World) : Prop := ∃ A c, e = .returned (.slice A d.size c) ∧ d.size ≤ c ∧ Kd.C (Kd.int .u8) w' A d.size (bytesOf d) ∧ (∀ ad, A = some ad → w.heap.size ≤ ad.block ∧ ad.block < w'.heap.size) ∧ Below w.heap.size w w'
theorem clone_calls (A : Option Addr) (c : Nat) (d : ByteArray) (w : World) (hC : Kd.C (Kd.int .u8) w A d.size (bytesOf d)) (hc : d.size ≤ c) (h2 : d.size ≤ 1000000000) :
    Calls Try.prog 55 #[.slice A d.size c] w (CloneP w d) := by
  have e := bytesOf_length d
  have hC' : Kd.C (Kd.int .u8) w A (bytesOf d).length (bytesOf d) := by rw [e]; exact hC
  have h := slices_Clone_byte_byte.calls A c (bytesOf d) (bytesOf d) w hC' (by omega) (by
    show (if 0 + (bytesOf d).length < 140737488355328 then some ([] ++ bytesOf d) else none) = _
    rw [if_pos (by omega), List.nil_append])
  rw [e] at h
  refine h.mono ?_
  rintro _ w' ⟨v, rfl, hR, hb⟩
  obtain ⟨A', c', rfl, h1, h3⟩ := Kd.R_reads hR
  rw [e] at h1 h3
  refine ⟨A', c', by rw [e], h1, h3, fun ad ha => ?_, hb⟩
  subst ha
  obtain ⟨h4, _⟩ := Kd.R_bound hR
  have := h4 ad.block (by simp [Value.ownBlock])
  exact ⟨this.2.1, this.2.2.1⟩
def sumF : List FE → Nat
  | [] => 0
  | x :: r => costN x.nm x.d + sumF r
theorem sumF_drop : ∀ {fs : List FE}, SrtF fs → ∀ {x : FE}, x ∈ fs → sumF fs = costN x.nm x.d + sumF (dropF fs x.nm)
  | [], _, _, h => by cases h
  | y :: r, hs, x, h => by
    obtain ⟨h1, h2⟩ := List.pairwise_cons.1 hs
    rcases List.mem_cons.1 h with rfl | h
    · have : dropF (x :: r) x.nm = r := by
        unfold dropF
        rw [List.filter_cons_of_neg (by simp), List.filter_eq_self]
        intro z hz
        have := h1 z hz
        simp only [decide_eq_true_eq]
        intro e
        rw [e, before_irr] at this
        cases this
      rw [this]
      rfl
    · have hne : y.nm ≠ x.nm := fun e => by
        have := h1 x h
        rw [e, before_irr] at this
        cases this
      have : dropF (y :: r) x.nm = y :: dropF r x.nm := by
        unfold dropF
        rw [List.filter_cons_of_pos (by simpa using hne)]
      rw [this]
      show costN y.nm y.d + sumF r = costN x.nm x.d + (costN y.nm y.d + sumF (dropF r x.nm))
      have := sumF_drop h2 h
      omega
theorem srtF_drop {fs : List FE} (h : SrtF fs) (k : ByteArray) : SrtF (dropF fs k) := List.Pairwise.filter _ h
theorem sumF_le : ∀ {fs : List FE} {m : Nat}, (∀ x ∈ fs, costN x.nm x.d ≤ m) → sumF fs ≤ fs.length * m
  | [], _, _ => Nat.zero_le _
  | x :: r, m, h => by
    have h1 := h x List.mem_cons_self
    have h2 := sumF_le (fs := r) (m := m) (fun y hy => h y (List.mem_cons_of_mem _ hy))
    show costN x.nm x.d + sumF r ≤ (r.length + 1) * m
    rw [Nat.add_mul]
    omega
theorem RG_sub {w : World} {b q n : Nat} {fs todo : List FE} {cnt : Nat} (h : RG w b q n fs todo cnt) : ∀ x ∈ todo, x ∈ fs := by
  obtain ⟨_, _, _, h⟩ := h
  exact h
set_option maxRecDepth 100000 in
set_option maxHeartbeats 4000000 in
theorem size_calls (w0 : World) (g : Nat) (r : RS) (w : World) (h : RackAt w0 w g r) (hl : r.ns.length ≤ 100000) : Calls Try.prog 37 #[.pointer (some ⟨g, 0, none⟩)] w (IntP w (sumF r.ns : Int)) := by
  have hc := rack_c h 2
  unfold RS.cs at hc
  have HN := Aside0.mk h.nm
  have HD := Aside0.mk h.dn
  have HS := Aside0.mk h.nm.srt
  have HT := Aside0.mk (Nat.le_trans (sumF_le (fs := r.ns) (m := 200200) (fun x hx => by
    obtain ⟨h1, h2⟩ := h.dn x hx
    have := h2.size
    unfold costN
    omega)) (Nat.mul_le_mul_right 200200 hl))
  clear h hl
  generalize r.bn = bn at *
  go_enter Try.func37, Try.ntmps37
  go_wp2_with (first | ((with_reducible refine gate_dst (N := 12) rfl ?_); refine range_event rfl _ rfl bn r.ns.length r.ns rfl HN.out ?_; intro q w1 hq hRG hb; have HR := Aside0.mk hRG; have HB := Aside0.mk hb; clear hRG hb; skip))
  clear HN hc
  go_frame
  go_loopw [3] (fun v wr => ∃ (todo : List FE) (cnt : Nat), v = .int .i64 ((sumF r.ns : Int) - (sumF todo : Int)) ∧ Aside0 (RG wr bn q r.ns.length r.ns todo cnt) ∧ Aside0 (SrtF todo) ∧ Aside0 (sumF todo ≤ sumF r.ns) ∧ Aside0 (Below w.heap.size w wr)) (fun _ wr => wr.rangeLeft bn q)
  case atStart => exact ⟨r.ns, _, by simp, HR, HS, ⟨Nat.le_refl _⟩, HB⟩
  case round =>
    clear HR HB
    obtain ⟨todo, cnt, rfl, HR, HST, HLe, HB⟩ := hrel
    have hM : Aside0 (wr.rangeLeft bn q = cnt) := ⟨HR.out.left_eq⟩
    go_wp2_with (first
      | ((with_reducible refine gate_dst (N := 13) rfl ?_); refine next_event rfl _ rfl bn q _ r.ns todo cnt rfl HR.out ?done ?more; (case' done => intro hnil; have HDn := Aside0.mk hnil; clear hnil; skip); (case' more => intro x w2 cnt1 hx hRG hlt hg hsz hen; have HX := Aside0.mk hx; have HXs := Aside0.mk (RG_sub HR.out x hx); have HB2 := Aside0.mk (HB.out.grown hg HB.out.size (fun k e => by injection e with e; omega)); have HR2 := Aside0.mk hRG; have HLt := Aside0.mk hlt; have HG2 := Aside0.mk hg; clear hx hRG hlt hg HR HB; have hsum := sumF_drop HST.out HX.out; have hle := HLe.out; have hT := HT.out; have HSum := Aside0.mk hsum; have h1 : (0 : Int) ≤ (sumF r.ns : Int) - (sumF todo : Int) := (by omega); have h2 : (sumF r.ns : Int) - (sumF todo : Int) + (costN x.nm x.d : Int) ≤ 20020000000 := (by omega); clear hsum hle hT; skip))
      | (go_at_call 53; refine (cost_calls x.nm x.A x.c x.d _ (Kd.C_below (HD.out x HXs.out).2.C HB2.out) (HD.out x HXs.out).2.cap (by have := (HD.out x HXs.out).1; omega) (by have := (HD.out x HXs.out).2.size; omega)).mono ?_; rintro e_ w3 ⟨rfl, hb⟩; have HB3 := Aside0.mk (HB2.out.trans (hb.mono HB2.out.size)); have HR3 := Aside0.mk (HR2.out.below hb); clear hb HB2 HR2 hen; skip))
    · go_roundw
      case rel => exact ⟨dropF todo x.nm, _, by rw [HSum.out]; congr 1; omega, HR3, ⟨srtF_drop HST.out x.nm⟩, ⟨by have := HSum.out; have := HLe.out; omega⟩, HB3⟩
      case measure => rw [hM.out, HR3.out.left_eq]; exact HLt.out
    · go_ret
      exact ⟨by rw [HDn.out]; show Ending.returned (.int .i64 ((sumF r.ns : Int) - 0)) = _; rw [Int.sub_zero], HB.out⟩
end Go.Proofs.Ytjljgcceapkdcaa.RkD
end
section
namespace Go.Proofs.Ytjljgcceapkdcaa.PkM
open Go.RowKit Go.Proofs.YtjljgcceapkdcaaW.PrintWords Go.Proofs.YtjljgcceapkdcaaW.PrintLast Go.Proofs.YtjljgcceapkdcaaW.PrintMore
attribute [local go_sem] max2_int min2_int max_two min_two max_three min_three max_four min_four
set_option linter.unusedVariables false
set_option linter.unusedSimpArgs false
def errW : Option Int → Value
  | none => .nilIface
  | some c => .iface 0 (.int .i64 c)
theorem errW_none : errW none = .nilIface := rfl
theorem errW_some (c : Int) : errW (some c) = .iface 0 (.int .i64 c) := rfl
theorem info5 : (Try.prog.info? 5).map (fun i => (i.zero, i.size, i.bytes)) = some (some (.int .u8 0), 1, 1) := by kernel_rfl
end Go.Proofs.Ytjljgcceapkdcaa.PkM
end
