-- Printed by prune.py: the used part of a text.
import Derived.Test.YtplfpbfmnogckaaDoorZTdM0
import Derived.Test.YtplfpbfmnogckaaDoorZTdG
namespace Go.Proofs.YtplfpbfmnogckaaDoor.TdM
open Go.RowKit Go.Proofs.YtplfpbfmnogckaaDoorW.PrintWords Go.Proofs.YtplfpbfmnogckaaDoorW.PrintLast Go.Proofs.YtplfpbfmnogckaaDoorW.PrintMore
attribute [local go_sem] max2_int min2_int max_two min_two max_three min_three max_four min_four
open Go.Proofs.YtplfpbfmnogckaaDoor.TdG
set_option linter.unusedVariables false
set_option linter.unusedSimpArgs false
mutual
def item_same.l0 : Nat → ByteArray → ByteArray → Int → Int → Option (Bool)
  | 0, _, _, _, _ => none
  | k + 1, x0, x1, x13, x14 => if x14 < x13 then (if 0 ≤ x14 then (if x14 < (x1.size : Int) then (if (bt x1 x14) ≥ 97 then (item_same.j1 k x0 x1 x14 (bt x1 x14) x13 x14 (decide ((bt x1 x14) ≤ 122))) else (item_same.j1 k x0 x1 x14 (bt x1 x14) x13 x14 false)) else (none)) else (none)) else (some true)
def item_same.j1 : Nat → ByteArray → ByteArray → Int → Int → Int → Int → Bool → Option (Bool)
  | 0, _, _, _, _, _, _, _ => none
  | k + 1, x0, x1, x5, x6, x13, x14, x25 => if x25 = true then (if 0 ≤ x5 then (if x5 < (x0.size : Int) then (if ((x6 - 32) % 256) = (bt x0 x5) then (item_same.l0 k x0 x1 x13 (wrap64 (x14 + 1))) else (some false)) else (none)) else (none)) else (if 0 ≤ x5 then (if x5 < (x0.size : Int) then (if x6 = (bt x0 x5) then (item_same.l0 k x0 x1 x13 (wrap64 (x14 + 1))) else (some false)) else (none)) else (none))
end
def item_same.f (k : Nat) (a0 : ByteArray) (a1 : ByteArray) : Option (Bool) := if (a0.size : Int) = (a1.size : Int) then (item_same.l0 k a0 a1 (a1.size : Int) 0) else (some false)
set_option maxHeartbeats 8000000 in
set_option maxRecDepth 100000 in
theorem item_same.calls (k : Nat) (a0 : ByteArray) (a1 : ByteArray) (r : Bool) (w : World) (h : item_same.f k a0 a1 = some r) :
    Calls Tryd.prog 41 #[.string a0, .string a1] w fun e w' => e = .returned (.bool r) ∧ Drawn0 w w' := by
  have H : (if (a0.size : Int) = (a1.size : Int) then (item_same.l0 k a0 a1 (a1.size : Int) 0) else (some false)) = some r := h
  clear h
  by_cases c3 : (a0.size : Int) = (a1.size : Int)
  · rw [if_pos c3] at H
    have c3b0 : ((a0.size : Int) == (a1.size : Int)) = true := beq_iff_eq.mpr c3
    have c3b1 : ((a0.size : Int) != (a1.size : Int)) = false := bne_eq_false_iff_eq.mpr c3
    have c3b2 : (a0.size == a1.size) = true := by first | simpa using c3 | (simp at c3 ⊢; omega)
    clear c3
    have H' := Aside0.mk H
    clear H
    go_enter Tryd.func41, Tryd.ntmps41
    go_wp2
    go_loopg [14] k (fun kq v14 w' => ∃ (x14_1 : Int), v14 = .int .i64 x14_1 ∧ Aside0 (item_same.l0 kq a0 a1 (a1.size : Int) x14_1 = some r) ∧ Aside0 (kq ≤ k) ∧ Drawn0 w w')
    case atStart => exact ⟨(0), (by first | rfl | (simp; done) | (simp [*]; done)), H', ⟨Nat.le_refl _⟩, by repeat (first | exact Drawn0.refl _ | apply Drawn0.step)⟩
    case round =>
      clear H'
      try clear p2
      try clear c3
      try clear c3b0
      try clear c3b1
      try clear c3b2
      obtain ⟨x14_1, rfl, HA, HK1, ⟨m1, rfl⟩⟩ := hrel
      cases gk with
      | zero => exact absurd HA.out (by simp [item_same.l0])
      | succ k1 =>
        have H := HA.out
        clear HA
        simp only [item_same.l0] at H
        by_cases c4 : x14_1 < (a1.size : Int)
        · rw [if_pos c4] at H
          have c4b0 : decide (x14_1 < (a1.size : Int)) = true := decide_eq_true c4
          clear c4
          by_cases c5 : 0 ≤ x14_1
          · rw [if_pos c5] at H
            have c5b0 : decide (0 ≤ x14_1) = true := decide_eq_true c5
            clear c5
            by_cases c6 : x14_1 < (a1.size : Int)
            · rw [if_pos c6] at H
              have c6b0 : decide (x14_1 < (a1.size : Int)) = true := decide_eq_true c6
              clear c6
              have HC8 := Aside0.mk H
              clear H
              have p7 : 0 ≤ (x14_1 : Int) := of_decide_eq_true (by first | (with_reducible assumption) | assumption)
              have q7 : x14_1 < (a1.size : Int) := of_decide_eq_true (by first | (with_reducible assumption) | assumption)
              have hx7 := bt_at a1 x14_1
              replace p7 := eq_true p7
              replace q7 := eq_true q7
              go_upto_region 7 with (fail)
              go_cut [25] (fun v25 wc => ∃ (kq : Nat) (x25_7 : Bool), v25 = .bool x25_7 ∧ Aside0 (item_same.j1 kq a0 a1 x14_1 (bt a1 x14_1) (a1.size : Int) x14_1 x25_7 = some r) ∧ Aside0 (kq ≤ k1) ∧ Drawn0 w wc)
              case first =>
                have H := HC8.out
                clear HC8
                by_cases c9 : (bt a1 x14_1) ≥ 97
                · rw [if_pos c9] at H
                  have c9b0 : decide (97 ≤ (bt a1 x14_1)) = true := decide_eq_true c9
                  clear c9
                  (first | rw [c9b0] | (simp only [i64_w, i32_w]; rw [c9b0]) | skip)
                  have H' := Aside0.mk H
                  clear H
                  go_wp2
                  go_meet
                  case rel => exact ⟨_, (decide ((bt a1 x14_1) ≤ 122)), (by first | rfl | (simp; done) | (simp [*]; done)), H', ⟨by have := HK1.out; first | omega | exact Nat.le_refl _⟩, by repeat (first | exact Drawn0.refl _ | apply Drawn0.step)⟩
                · rw [if_neg c9] at H
                  have c9b0 : decide (97 ≤ (bt a1 x14_1)) = false := decide_eq_false c9
                  clear c9
                  (first | rw [c9b0] | (simp only [i64_w, i32_w]; rw [c9b0]) | skip)
                  have H' := Aside0.mk H
                  clear H
                  go_wp2
                  go_meet
                  case rel => exact ⟨_, (false), (by first | rfl | (simp; done) | (simp [*]; done)), H', ⟨by have := HK1.out; first | omega | exact Nat.le_refl _⟩, by repeat (first | exact Drawn0.refl _ | apply Drawn0.step)⟩
              case rest =>
                clear HC8
                try clear p2
                try clear c3
                try clear c3b0
                try clear c3b1
                try clear c3b2
                try clear c4
                try clear c4b0
                try clear c5
                try clear c5b0
                try clear c6
                try clear c6b0
                try clear p7
                try clear q7
                try clear hx7
                try clear c9
                try clear c9b0
                try clear p2
                try clear p7
                try clear q7
                obtain ⟨kq, x25_7, rfl, HA, HJ7, ⟨mc7, rfl⟩⟩ := hcut
                cases kq with
                | zero => exact absurd HA.out (by simp [item_same.j1])
                | succ kj7 =>
                  have H := HA.out
                  clear HA
                  simp only [item_same.j1] at H
                  by_cases c10 : x25_7 = true
                  · subst c10
                    have H1 : (if 0 ≤ x14_1 then (if x14_1 < (a0.size : Int) then (if (((bt a1 x14_1) - 32) % 256) = (bt a0 x14_1) then (item_same.l0 kj7 a0 a1 (a1.size : Int) (wrap64 (x14_1 + 1))) else (some false)) else (none)) else (none)) = some r := by rw [if_pos rfl] at H; exact H
                    clear H
                    have H := H1
                    clear H1
                    by_cases c11 : 0 ≤ x14_1
                    · rw [if_pos c11] at H
                      have c11b0 : decide (0 ≤ x14_1) = true := decide_eq_true c11
                      clear c11
                      by_cases c12 : x14_1 < (a0.size : Int)
                      · rw [if_pos c12] at H
                        have c12b0 : decide (x14_1 < (a0.size : Int)) = true := decide_eq_true c12
                        clear c12
                        by_cases c14 : (((bt a1 x14_1) - 32) % 256) = (bt a0 x14_1)
                        · rw [if_pos c14] at H
                          have c14b0 : ((((bt a1 x14_1) - 32) % 256) == (bt a0 x14_1)) = true := beq_iff_eq.mpr c14
                          have c14b1 : ((((bt a1 x14_1) - 32) % 256) != (bt a0 x14_1)) = false := bne_eq_false_iff_eq.mpr c14
                          clear c14
                          have H' := Aside0.mk H
                          clear H
                          have p13 : 0 ≤ (x14_1 : Int) := of_decide_eq_true (by first | (with_reducible assumption) | assumption)
                          have q13 : x14_1 < (a0.size : Int) := of_decide_eq_true (by first | (with_reducible assumption) | assumption)
                          have hx13 := bt_at a0 x14_1
                          replace p13 := eq_true p13
                          replace q13 := eq_true q13
                          go_wp2
                          go_roundg kj7
                          case measure => have := HK1.out; have := HJ7.out; omega
                          case rel => exact ⟨(wrap64 (x14_1 + 1)), (by first | rfl | (simp; done) | (simp [*]; done)), H', ⟨by have := HK1.out; have := HJ7.out; omega⟩, by repeat (first | exact Drawn0.refl _ | apply Drawn0.step)⟩
                        · rw [if_neg c14] at H
                          have c14b0 : ((((bt a1 x14_1) - 32) % 256) == (bt a0 x14_1)) = false := beq_eq_false_iff_ne.mpr c14
                          have c14b1 : ((((bt a1 x14_1) - 32) % 256) != (bt a0 x14_1)) = true := bne_iff_ne.mpr c14
                          obtain rfl := Option.some.inj H
                          have p13 : 0 ≤ (x14_1 : Int) := of_decide_eq_true (by first | (with_reducible assumption) | assumption)
                          have q13 : x14_1 < (a0.size : Int) := of_decide_eq_true (by first | (with_reducible assumption) | assumption)
                          have hx13 := bt_at a0 x14_1
                          replace p13 := eq_true p13
                          replace q13 := eq_true q13
                          go_wp2
                          go_ret
                          exact ⟨by first | rfl | (simp; done) | (simp [*]; done), by repeat (first | exact Drawn0.refl _ | apply Drawn0.step)⟩
                      · rw [if_neg c12] at H
                        exact absurd H (by simp)
                    · rw [if_neg c11] at H
                      exact absurd H (by simp)
                  · replace c10 := Bool.eq_false_iff.mpr c10
                    subst c10
                    have H1 : (if 0 ≤ x14_1 then (if x14_1 < (a0.size : Int) then (if (bt a1 x14_1) = (bt a0 x14_1) then (item_same.l0 kj7 a0 a1 (a1.size : Int) (wrap64 (x14_1 + 1))) else (some false)) else (none)) else (none)) = some r := by rw [if_neg (show ¬ (false = true) by decide)] at H; exact H
                    clear H
                    have H := H1
                    clear H1
                    by_cases c15 : 0 ≤ x14_1
                    · rw [if_pos c15] at H
                      have c15b0 : decide (0 ≤ x14_1) = true := decide_eq_true c15
                      clear c15
                      by_cases c16 : x14_1 < (a0.size : Int)
                      · rw [if_pos c16] at H
                        have c16b0 : decide (x14_1 < (a0.size : Int)) = true := decide_eq_true c16
                        clear c16
                        by_cases c18 : (bt a1 x14_1) = (bt a0 x14_1)
                        · rw [if_pos c18] at H
                          have c18b0 : ((bt a1 x14_1) == (bt a0 x14_1)) = true := beq_iff_eq.mpr c18
                          have c18b1 : ((bt a1 x14_1) != (bt a0 x14_1)) = false := bne_eq_false_iff_eq.mpr c18
                          clear c18
                          have H' := Aside0.mk H
                          clear H
                          have p17 : 0 ≤ (x14_1 : Int) := of_decide_eq_true (by first | (with_reducible assumption) | assumption)
                          have q17 : x14_1 < (a0.size : Int) := of_decide_eq_true (by first | (with_reducible assumption) | assumption)
                          have hx17 := bt_at a0 x14_1
                          replace p17 := eq_true p17
                          replace q17 := eq_true q17
                          go_wp2
                          go_roundg kj7
                          case measure => have := HK1.out; have := HJ7.out; omega
                          case rel => exact ⟨(wrap64 (x14_1 + 1)), (by first | rfl | (simp; done) | (simp [*]; done)), H', ⟨by have := HK1.out; have := HJ7.out; omega⟩, by repeat (first | exact Drawn0.refl _ | apply Drawn0.step)⟩
                        · rw [if_neg c18] at H
                          have c18b0 : ((bt a1 x14_1) == (bt a0 x14_1)) = false := beq_eq_false_iff_ne.mpr c18
                          have c18b1 : ((bt a1 x14_1) != (bt a0 x14_1)) = true := bne_iff_ne.mpr c18
                          obtain rfl := Option.some.inj H
                          have p17 : 0 ≤ (x14_1 : Int) := of_decide_eq_true (by first | (with_reducible assumption) | assumption)
                          have q17 : x14_1 < (a0.size : Int) := of_decide_eq_true (by first | (with_reducible assumption) | assumption)
                          have hx17 := bt_at a0 x14_1
                          replace p17 := eq_true p17
                          replace q17 := eq_true q17
                          go_wp2
                          go_ret
                          exact ⟨by first | rfl | (simp; done) | (simp [*]; done), by repeat (first | exact Drawn0.refl _ | apply Drawn0.step)⟩
                      · rw [if_neg c16] at H
                        exact absurd H (by simp)
                    · rw [if_neg c15] at H
                      exact absurd H (by simp)
            · rw [if_neg c6] at H
              exact absurd H (by simp)
          · rw [if_neg c5] at H
            exact absurd H (by simp)
        · rw [if_neg c4] at H
          have c4b0 : decide (x14_1 < (a1.size : Int)) = false := decide_eq_false c4
          clear c4
          obtain rfl := Option.some.inj H
          go_wp2
          go_ret
          exact ⟨by first | rfl | (simp; done) | (simp [*]; done), by repeat (first | exact Drawn0.refl _ | apply Drawn0.step)⟩
  · rw [if_neg c3] at H
    have c3b0 : ((a0.size : Int) == (a1.size : Int)) = false := beq_eq_false_iff_ne.mpr c3
    have c3b1 : ((a0.size : Int) != (a1.size : Int)) = true := bne_iff_ne.mpr c3
    have c3b2 : (a0.size == a1.size) = false := by first | simpa using c3 | (simp at c3 ⊢; omega)
    obtain rfl := Option.some.inj H
    go_enter Tryd.func41, Tryd.ntmps41
    go_wp2
    go_ret
    exact ⟨by first | rfl | (simp; done) | (simp [*]; done), by repeat (first | exact Drawn0.refl _ | apply Drawn0.step)⟩
def word_byteOf.f (a0 : Int) : Option (Bool) := if a0 ≥ 33 then (if a0 ≤ 126 then ((strings_IndexByte.f (⟨#[40, 41, 123, 34]⟩ : ByteArray) a0).bind fun t159 => (some (decide (t159 < 0)))) else (some false)) else (some false)
set_option maxHeartbeats 8000000 in
set_option maxRecDepth 100000 in
theorem word_byteOf.calls (a0 : Int) (r : Bool) (w : World) (h : word_byteOf.f a0 = some r) :
    Calls Tryd.prog 81 #[.int .u8 a0] w fun e w' => e = .returned (.bool r) ∧ Drawn0 w w' := by
  have H : (if a0 ≥ 33 then (if a0 ≤ 126 then ((strings_IndexByte.f (⟨#[40, 41, 123, 34]⟩ : ByteArray) a0).bind fun t159 => (some (decide (t159 < 0)))) else (some false)) else (some false)) = some r := h
  clear h
  by_cases c2 : a0 ≥ 33
  · rw [if_pos c2] at H
    have c2b0 : decide (33 ≤ a0) = true := decide_eq_true c2
    clear c2
    by_cases c3 : a0 ≤ 126
    · rw [if_pos c3] at H
      have c3b0 : decide (a0 ≤ 126) = true := decide_eq_true c3
      clear c3
      replace H := Option.bind_eq_some_iff.mp H
      obtain ⟨t159, A40, H⟩ := H
      replace H : (some (decide (t159 < 0))) = some r := H
      have A4 := Aside0.mk A40
      clear A40
      obtain rfl := Option.some.inj H
      go_enter Tryd.func81, Tryd.ntmps81
      go_wp2_with (first | (go_at_call 89; (with_reducible refine (strings_IndexByte.calls (⟨#[40, 41, 123, 34]⟩ : ByteArray) a0 t159 _ A4.out).mono ?_); rintro e w' ⟨rfl, ⟨nd, rfl⟩⟩))
      go_ret
      exact ⟨by first | rfl | (simp; done) | (simp [*]; done), by repeat (first | exact Drawn0.refl _ | apply Drawn0.step)⟩
    · rw [if_neg c3] at H
      have c3b0 : decide (a0 ≤ 126) = false := decide_eq_false c3
      clear c3
      obtain rfl := Option.some.inj H
      go_enter Tryd.func81, Tryd.ntmps81
      go_wp2
      go_ret
      exact ⟨by first | rfl | (simp; done) | (simp [*]; done), by repeat (first | exact Drawn0.refl _ | apply Drawn0.step)⟩
  · rw [if_neg c2] at H
    have c2b0 : decide (33 ≤ a0) = false := decide_eq_false c2
    clear c2
    obtain rfl := Option.some.inj H
    go_enter Tryd.func81, Tryd.ntmps81
    go_wp2
    go_ret
    exact ⟨by first | rfl | (simp; done) | (simp [*]; done), by repeat (first | exact Drawn0.refl _ | apply Drawn0.step)⟩
def IsS81 (w0 W : World) (g : Nat) (f0 : ByteArray) (f1 : Int) (f2 : Int) (f3 : List (S60)) : Prop := ∃ A3 c3, W.heap[g]? = some (.cells #[.string f0, .int .i64 f1, .int .i64 f2, .slice A3 f3.length c3] 81 (0, 0)) ∧ w0.heap.size ≤ g ∧ Kd.C k60 w0 A3 f3.length f3
theorem IsS81.grown {w0 W : World} {g : Nat} {f0 : ByteArray} {f1 : Int} {f2 : Int} {f3 : List (S60)} {W1 : World} {row : Option Nat} (h : IsS81 w0 W g f0 f1 f2 f3) (hw : W.grownBy W1 row) (hne : some g ≠ row) : IsS81 w0 W1 g f0 f1 f2 f3 := by
  obtain ⟨A3, c3, hb, hg, hr3⟩ := h
  exact ⟨A3, c3, blk_grown hb hw hne, hg, hr3⟩
theorem IsS81.kept {w0 W : World} {g : Nat} {f0 : ByteArray} {f1 : Int} {f2 : Int} {f3 : List (S60)} {W1 : World} {S : Nat → Prop} (h : IsS81 w0 W g f0 f1 f2 f3) (hk : Kept W W1 S) (hne : ¬ S g) : IsS81 w0 W1 g f0 f1 f2 f3 := by
  obtain ⟨A3, c3, hb, hg, hr3⟩ := h
  exact ⟨A3, c3, blk_kept hb hk hne, hg, hr3⟩
theorem IsS81.below {w0 W : World} {g : Nat} {f0 : ByteArray} {f1 : Int} {f2 : Int} {f3 : List (S60)} {W1 : World} (h : IsS81 w0 W g f0 f1 f2 f3) (hw : Below W.heap.size W W1) : IsS81 w0 W1 g f0 f1 f2 f3 := h.grown (grown_of_below hw none) (by simp)
theorem IsS81.alloc {w0 W : World} {g : Nat} {f0 : ByteArray} {f1 : Int} {f2 : Int} {f3 : List (S60)} (h : IsS81 w0 W g f0 f1 f2 f3) (o : Obj) : IsS81 w0 (W.alloc o) g f0 f1 f2 f3 := h.below (below_alloc (Below.refl _ _) o)
theorem IsS81.drewN {w0 W : World} {g : Nat} {f0 : ByteArray} {f1 : Int} {f2 : Int} {f3 : List (S60)} (h : IsS81 w0 W g f0 f1 f2 f3) (m : Nat) : IsS81 w0 (W.drewN m) g f0 f1 f2 f3 := h
theorem IsS81.drew {w0 W : World} {g : Nat} {f0 : ByteArray} {f1 : Int} {f2 : Int} {f3 : List (S60)} (h : IsS81 w0 W g f0 f1 f2 f3) : IsS81 w0 W.drew g f0 f1 f2 f3 := h
theorem IsS81.at_ {w0 W : World} {g : Nat} {f0 : ByteArray} {f1 : Int} {f2 : Int} {f3 : List (S60)} {w' : World} {m : Nat} (hq : W.drewN m = w') (h : IsS81 w0 W g f0 f1 f2 f3) : IsS81 w0 w' g f0 f1 f2 f3 := by subst hq; exact IsS81.drewN h m
theorem IsS81.apart {w0 W : World} {g : Nat} {f0 : ByteArray} {f1 : Int} {f2 : Int} {f3 : List (S60)} {α : Type} {d : Kd α} {e : Nat} {base : Nat} {ok : Nat → Prop} {v : Value} {xs : List α} (h : IsS81 w0 W g f0 f1 f2 f3) (ho : d.R e W base ok v xs) (ht : ∀ q, q ∈ e :: d.E → q ≠ 81) : d.R e W base (fun k => ok k ∧ k ≠ g) v xs := by
  obtain ⟨A3, c3, hb, hg, hr3⟩ := h
  exact Kd.R_types ho hb ht
theorem IsS81.own_ne {w0 W : World} {g : Nat} {f0 : ByteArray} {f1 : Int} {f2 : Int} {f3 : List (S60)} {α : Type} {d : Kd α} {e : Nat} {base : Nat} {ok : Nat → Prop} {v : Value} {xs : List α} (h : IsS81 w0 W g f0 f1 f2 f3) (ho : d.R e W base ok v xs) (ht : e ≠ 81) : some g ≠ v.ownBlock := by
  obtain ⟨A3, c3, hb, hg, hr3⟩ := h
  exact Kd.R_ne ho hb ht
theorem IsS81.lt {w0 W : World} {g : Nat} {f0 : ByteArray} {f1 : Int} {f2 : Int} {f3 : List (S60)} (h : IsS81 w0 W g f0 f1 f2 f3) : g < W.heap.size := by
  obtain ⟨A3, c3, hb, hg, hr3⟩ := h
  exact blk_lt hb
end Go.Proofs.YtplfpbfmnogckaaDoor.TdM
