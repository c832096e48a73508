-- Written by a program of this claim's session (wip/tool/prune.py): what is used of a longer text. Not trusted: Lean checks it.
import Derived.Test.YtjlabkibpknkpaaZFmM0
namespace Go.Proofs.Ytjlabkibpknkpaa.FmM
open Go.RowKit Go.Proofs.YtjlabkibpknkpaaW.PrintWords Go.Proofs.YtjlabkibpknkpaaW.PrintLast Go.Proofs.YtjlabkibpknkpaaW.PrintMore
attribute [local go_sem] max2_int min2_int max_two min_two max_three min_three max_four min_four
open Go.Proofs.Ytjlabkibpknkpaa.FmG
set_option linter.unusedVariables false
set_option linter.unusedSimpArgs false
def pack_number.l0 : Nat → List Int → Int → Int → Option (Int × Int × Int)
  | 0, _, _, _ => none
  | k + 1, x0, x5, x7 => if x7 < 6 then (if x7 = (x0.length : Int) then (some (0, 0, 2)) else (if 0 ≤ x7 then (if x7 < (x0.length : Int) then (if 0 ≤ (wrap64 (7 * x7)) then (if (rd x0 x7) ≥ 128 then (pack_number.l0 k x0 (Go.bits .or .i64 x5 (shl .i64 (wrap64 (Go.bits .and .u8 (rd x0 x7) 127)) (wrap64 (7 * x7)))) (wrap64 (x7 + 1))) else (if (rd x0 x7) = 0 then (if x7 > 0 then (some (0, 0, 3)) else (if (Go.bits .or .i64 x5 (shl .i64 (wrap64 (Go.bits .and .u8 (rd x0 x7) 127)) (wrap64 (7 * x7)))) > 1099511627776 then (some (0, 0, 3)) else (some (Go.bits .or .i64 x5 (shl .i64 (wrap64 (Go.bits .and .u8 (rd x0 x7) 127)) (wrap64 (7 * x7))), wrap64 (x7 + 1), 0)))) else (if (Go.bits .or .i64 x5 (shl .i64 (wrap64 (Go.bits .and .u8 (rd x0 x7) 127)) (wrap64 (7 * x7)))) > 1099511627776 then (some (0, 0, 3)) else (some (Go.bits .or .i64 x5 (shl .i64 (wrap64 (Go.bits .and .u8 (rd x0 x7) 127)) (wrap64 (7 * x7))), wrap64 (x7 + 1), 0))))) else (none)) else (none)) else (none))) else (some (0, 0, 3))
def pack_number.f (k : Nat) (l0 : List Int) : Option (Int × Int × Int) := pack_number.l0 k l0 0 0
set_option maxHeartbeats 8000000 in
set_option maxRecDepth 100000 in
theorem pack_number.calls (k : Nat) (A0 : Option Addr) (c0 : Nat) (l0 : List Int) (r1 : Int) (r2 : Int) (r3 : Int) (w : World) (hr0 : Kd.C (Kd.int .u8) w A0 l0.length l0) (hc0 : l0.length ≤ c0) (h : pack_number.f k l0 = some (r1, r2, r3)) :
    Calls Try.prog 52 #[.slice A0 l0.length c0] w fun e w' => e = .returned (.tuple #[.int .i64 r1, .int .i64 r2, .int .i64 r3]) ∧ Drawn0 w w' := by
  have HR0 := Aside0.mk hr0
  have HC0 := Aside0.mk hc0
  clear hr0 hc0
  have H : (pack_number.l0 k l0 0 0) = some (r1, r2, r3) := h
  clear h
  have H' := Aside0.mk H
  clear H
  go_enter Try.func52, Try.ntmps52
  go_wp2
  go_loopg [5, 7] k (fun kq v5 v7 w' => ∃ (x5_1 : Int) (x7_1 : Int), v5 = .int .i64 x5_1 ∧ v7 = .int .i64 x7_1 ∧ Aside0 (pack_number.l0 kq l0 x5_1 x7_1 = some (r1, r2, r3)) ∧ Aside0 (kq ≤ k) ∧ Drawn0 w w')
  case atStart => exact ⟨(0), (0), (by first | rfl | (simp; done) | (simp [*]; done)), (by first | rfl | (simp; done) | (simp [*]; done)), H', ⟨Nat.le_refl _⟩, by repeat (first | exact Drawn0.refl _ | apply Drawn0.step)⟩
  case round =>
    clear H'
    obtain ⟨x5_1, x7_1, rfl, rfl, HA, HK1, ⟨m1, rfl⟩⟩ := hrel
    cases gk with
    | zero => exact absurd HA.out (by simp [pack_number.l0])
    | succ k1 =>
      have H := HA.out
      clear HA
      simp only [pack_number.l0] at H
      by_cases c2 : x7_1 < 6
      · rw [if_pos c2] at H
        have c2b0 : decide (x7_1 < 6) = true := decide_eq_true c2
        clear c2
        by_cases c3 : x7_1 = (l0.length : Int)
        · rw [if_pos c3] at H
          have c3b0 : (x7_1 == (l0.length : Int)) = true := beq_iff_eq.mpr c3
          have c3b1 : (x7_1 != (l0.length : Int)) = false := bne_eq_false_iff_eq.mpr c3
          clear c3
          simp only [Option.some.injEq, Prod.mk.injEq] at H
          obtain ⟨rfl, rfl, rfl⟩ := H
          go_wp2
          go_ret3
          exact ⟨by first | rfl | (simp; done) | (simp [*]; done), by repeat (first | exact Drawn0.refl _ | apply Drawn0.step)⟩
        · rw [if_neg c3] at H
          have c3b0 : (x7_1 == (l0.length : Int)) = false := beq_eq_false_iff_ne.mpr c3
          have c3b1 : (x7_1 != (l0.length : Int)) = true := bne_iff_ne.mpr c3
          by_cases c4 : 0 ≤ x7_1
          · rw [if_pos c4] at H
            have c4b0 : decide (0 ≤ x7_1) = true := decide_eq_true c4
            clear c4
            by_cases c5 : x7_1 < (l0.length : Int)
            · rw [if_pos c5] at H
              have c5b0 : decide (x7_1 < (l0.length : Int)) = true := decide_eq_true c5
              clear c5
              obtain ⟨ji6, hji6⟩ : ∃ j_ : Int, (wrap64 (7 * x7_1)) = j_ := ⟨_, rfl⟩
              replace H : (if 0 ≤ (ji6) then (if (rd l0 x7_1) ≥ 128 then (pack_number.l0 k1 l0 (Go.bits .or .i64 x5_1 (shl .i64 (wrap64 (Go.bits .and .u8 (rd l0 x7_1) 127)) (ji6))) (wrap64 (x7_1 + 1))) else (if (rd l0 x7_1) = 0 then (if x7_1 > 0 then (some (0, 0, 3)) else (if (Go.bits .or .i64 x5_1 (shl .i64 (wrap64 (Go.bits .and .u8 (rd l0 x7_1) 127)) (ji6))) > 1099511627776 then (some (0, 0, 3)) else (some (Go.bits .or .i64 x5_1 (shl .i64 (wrap64 (Go.bits .and .u8 (rd l0 x7_1) 127)) (ji6)), wrap64 (x7_1 + 1), 0)))) else (if (Go.bits .or .i64 x5_1 (shl .i64 (wrap64 (Go.bits .and .u8 (rd l0 x7_1) 127)) (ji6))) > 1099511627776 then (some (0, 0, 3)) else (some (Go.bits .or .i64 x5_1 (shl .i64 (wrap64 (Go.bits .and .u8 (rd l0 x7_1) 127)) (ji6)), wrap64 (x7_1 + 1), 0))))) else (none)) = some (r1, r2, r3) := by first | (rw [hji6] at H; exact H) | (simp only [hji6] at H ⊢; exact H)
              have hji6w : (IntKind.i64.wrap (7 * x7_1)) = ji6 := (i64_w _).trans hji6
              by_cases c7 : 0 ≤ (ji6)
              · rw [if_pos c7] at H
                have c7b0 := eq_true c7
                have c7b1 : decide (0 ≤ (ji6)) = true := decide_eq_true c7
                clear c7
                obtain ⟨ji8, hji8⟩ : ∃ j_ : Int, (shl .i64 (wrap64 (Go.bits .and .u8 (rd l0 x7_1) 127)) (ji6)) = j_ := ⟨_, rfl⟩
                replace H : (if (rd l0 x7_1) ≥ 128 then (pack_number.l0 k1 l0 (Go.bits .or .i64 x5_1 (ji8)) (wrap64 (x7_1 + 1))) else (if (rd l0 x7_1) = 0 then (if x7_1 > 0 then (some (0, 0, 3)) else (if (Go.bits .or .i64 x5_1 (ji8)) > 1099511627776 then (some (0, 0, 3)) else (some (Go.bits .or .i64 x5_1 (ji8), wrap64 (x7_1 + 1), 0)))) else (if (Go.bits .or .i64 x5_1 (ji8)) > 1099511627776 then (some (0, 0, 3)) else (some (Go.bits .or .i64 x5_1 (ji8), wrap64 (x7_1 + 1), 0))))) = some (r1, r2, r3) := by first | (rw [hji8] at H; exact H) | (simp only [hji8] at H ⊢; exact H)
                have hji8_ : (IntKind.i64.wrap ((wrap64 (Go.bits .and .u8 (rd l0 x7_1) 127)) * 2 ^ min (ji6).toNat 64)) = ji8 := hji8
                have hji8z : (ji6) ≤ 64 → (IntKind.i64.wrap ((wrap64 (Go.bits .and .u8 (rd l0 x7_1) 127)) * 2 ^ (ji6).toNat)) = ji8 := shl_small hji8
                have hji8y : (wrap64 ((wrap64 (Go.bits .and .u8 (rd l0 x7_1) 127)) * 2 ^ min (ji6).toNat 64)) = ji8 := (i64_w _).symm.trans hji8_
                have hji8x : (ji6) ≤ 64 → (wrap64 ((wrap64 (Go.bits .and .u8 (rd l0 x7_1) 127)) * 2 ^ (ji6).toNat)) = ji8 := fun h_ => (i64_w _).symm.trans (hji8z h_)
                by_cases c9 : (rd l0 x7_1) ≥ 128
                · rw [if_pos c9] at H
                  have c9b0 : decide (128 ≤ (rd l0 x7_1)) = true := decide_eq_true c9
                  clear c9
                  have H' := Aside0.mk H
                  clear H
                  have p212 : 0 ≤ (x7_1 : Int) := of_decide_eq_true (by first | (with_reducible assumption) | assumption)
                  have q212 : x7_1 < (l0.length : Int) := of_decide_eq_true (by first | (with_reducible assumption) | assumption)
                  obtain ⟨ad212, e212, hx212_0⟩ := Kd.at_int HR0.out x7_1 p212 q212
                  cases e212
                  replace p212 := eq_true p212
                  replace q212 := eq_true q212
                  have p213 : 0 ≤ (x7_1 : Int) := of_decide_eq_true (by first | (with_reducible assumption) | assumption)
                  have q213 : x7_1 < (l0.length : Int) := of_decide_eq_true (by first | (with_reducible assumption) | assumption)
                  obtain ⟨ad213, e213, hx213_0⟩ := Kd.at_int HR0.out x7_1 p213 q213
                  obtain rfl : ad212 = ad213 := (by injection e213)
                  replace p213 := eq_true p213
                  replace q213 := eq_true q213
                  go_wp2
                  go_roundg k1
                  case measure => have := HK1.out; omega
                  case rel => exact ⟨(Go.bits .or .i64 x5_1 (ji8)), (wrap64 (x7_1 + 1)), (by first | rfl | (simp; done) | (simp only [← hji8] <;> (first | rfl | simp)) | (simp [*]; done)), (by first | rfl | (simp; done) | (simp [*]; done)), H', ⟨by have := HK1.out; omega⟩, by repeat (first | exact Drawn0.refl _ | apply Drawn0.step)⟩
                · rw [if_neg c9] at H
                  have c9b0 : decide (128 ≤ (rd l0 x7_1)) = false := decide_eq_false c9
                  clear c9
                  by_cases c10 : (rd l0 x7_1) = 0
                  · rw [if_pos c10] at H
                    have c10b0 : ((rd l0 x7_1) == 0) = true := beq_iff_eq.mpr c10
                    have c10b1 : ((rd l0 x7_1) != 0) = false := bne_eq_false_iff_eq.mpr c10
                    clear c10
                    by_cases c11 : x7_1 > 0
                    · rw [if_pos c11] at H
                      have c11b0 : decide (0 < x7_1) = true := decide_eq_true c11
                      clear c11
                      simp only [Option.some.injEq, Prod.mk.injEq] at H
                      obtain ⟨rfl, rfl, rfl⟩ := H
                      have p212 : 0 ≤ (x7_1 : Int) := of_decide_eq_true (by first | (with_reducible assumption) | assumption)
                      have q212 : x7_1 < (l0.length : Int) := of_decide_eq_true (by first | (with_reducible assumption) | assumption)
                      obtain ⟨ad212, e212, hx212_0⟩ := Kd.at_int HR0.out x7_1 p212 q212
                      cases e212
                      replace p212 := eq_true p212
                      replace q212 := eq_true q212
                      have p213 : 0 ≤ (x7_1 : Int) := of_decide_eq_true (by first | (with_reducible assumption) | assumption)
                      have q213 : x7_1 < (l0.length : Int) := of_decide_eq_true (by first | (with_reducible assumption) | assumption)
                      obtain ⟨ad213, e213, hx213_0⟩ := Kd.at_int HR0.out x7_1 p213 q213
                      obtain rfl : ad212 = ad213 := (by injection e213)
                      replace p213 := eq_true p213
                      replace q213 := eq_true q213
                      have p214 : 0 ≤ (x7_1 : Int) := of_decide_eq_true (by first | (with_reducible assumption) | assumption)
                      have q214 : x7_1 < (l0.length : Int) := of_decide_eq_true (by first | (with_reducible assumption) | assumption)
                      obtain ⟨ad214, e214, hx214_0⟩ := Kd.at_int HR0.out x7_1 p214 q214
                      obtain rfl : ad212 = ad214 := (by injection e214)
                      replace p214 := eq_true p214
                      replace q214 := eq_true q214
                      go_wp2
                      go_ret3
                      exact ⟨by first | rfl | (simp; done) | (simp only [← hji6, ← hji8] <;> (first | rfl | simp)) | (simp [*]; done), by repeat (first | exact Drawn0.refl _ | apply Drawn0.step)⟩
                    · rw [if_neg c11] at H
                      have c11b0 : decide (0 < x7_1) = false := decide_eq_false c11
                      clear c11
                      by_cases c12 : (Go.bits .or .i64 x5_1 (ji8)) > 1099511627776
                      · rw [if_pos c12] at H
                        have c12b0 : decide (1099511627776 < (Go.bits .or .i64 x5_1 (ji8))) = true := decide_eq_true c12
                        clear c12
                        simp only [Option.some.injEq, Prod.mk.injEq] at H
                        obtain ⟨rfl, rfl, rfl⟩ := H
                        have p212 : 0 ≤ (x7_1 : Int) := of_decide_eq_true (by first | (with_reducible assumption) | assumption)
                        have q212 : x7_1 < (l0.length : Int) := of_decide_eq_true (by first | (with_reducible assumption) | assumption)
                        obtain ⟨ad212, e212, hx212_0⟩ := Kd.at_int HR0.out x7_1 p212 q212
                        cases e212
                        replace p212 := eq_true p212
                        replace q212 := eq_true q212
                        have p213 : 0 ≤ (x7_1 : Int) := of_decide_eq_true (by first | (with_reducible assumption) | assumption)
                        have q213 : x7_1 < (l0.length : Int) := of_decide_eq_true (by first | (with_reducible assumption) | assumption)
                        obtain ⟨ad213, e213, hx213_0⟩ := Kd.at_int HR0.out x7_1 p213 q213
                        obtain rfl : ad212 = ad213 := (by injection e213)
                        replace p213 := eq_true p213
                        replace q213 := eq_true q213
                        have p214 : 0 ≤ (x7_1 : Int) := of_decide_eq_true (by first | (with_reducible assumption) | assumption)
                        have q214 : x7_1 < (l0.length : Int) := of_decide_eq_true (by first | (with_reducible assumption) | assumption)
                        obtain ⟨ad214, e214, hx214_0⟩ := Kd.at_int HR0.out x7_1 p214 q214
                        obtain rfl : ad212 = ad214 := (by injection e214)
                        replace p214 := eq_true p214
                        replace q214 := eq_true q214
                        go_wp2
                        go_ret3
                        exact ⟨by first | rfl | (simp; done) | (simp only [← hji6, ← hji8] <;> (first | rfl | simp)) | (simp [*]; done), by repeat (first | exact Drawn0.refl _ | apply Drawn0.step)⟩
                      · rw [if_neg c12] at H
                        have c12b0 : decide (1099511627776 < (Go.bits .or .i64 x5_1 (ji8))) = false := decide_eq_false c12
                        clear c12
                        simp only [Option.some.injEq, Prod.mk.injEq] at H
                        obtain ⟨rfl, rfl, rfl⟩ := H
                        have p212 : 0 ≤ (x7_1 : Int) := of_decide_eq_true (by first | (with_reducible assumption) | assumption)
                        have q212 : x7_1 < (l0.length : Int) := of_decide_eq_true (by first | (with_reducible assumption) | assumption)
                        obtain ⟨ad212, e212, hx212_0⟩ := Kd.at_int HR0.out x7_1 p212 q212
                        cases e212
                        replace p212 := eq_true p212
                        replace q212 := eq_true q212
                        have p213 : 0 ≤ (x7_1 : Int) := of_decide_eq_true (by first | (with_reducible assumption) | assumption)
                        have q213 : x7_1 < (l0.length : Int) := of_decide_eq_true (by first | (with_reducible assumption) | assumption)
                        obtain ⟨ad213, e213, hx213_0⟩ := Kd.at_int HR0.out x7_1 p213 q213
                        obtain rfl : ad212 = ad213 := (by injection e213)
                        replace p213 := eq_true p213
                        replace q213 := eq_true q213
                        have p214 : 0 ≤ (x7_1 : Int) := of_decide_eq_true (by first | (with_reducible assumption) | assumption)
                        have q214 : x7_1 < (l0.length : Int) := of_decide_eq_true (by first | (with_reducible assumption) | assumption)
                        obtain ⟨ad214, e214, hx214_0⟩ := Kd.at_int HR0.out x7_1 p214 q214
                        obtain rfl : ad212 = ad214 := (by injection e214)
                        replace p214 := eq_true p214
                        replace q214 := eq_true q214
                        go_wp2
                        go_ret3
                        exact ⟨by first | rfl | (simp; done) | (simp only [← hji6, ← hji8] <;> (first | rfl | simp)) | (simp [*]; done), by repeat (first | exact Drawn0.refl _ | apply Drawn0.step)⟩
                  · rw [if_neg c10] at H
                    have c10b0 : ((rd l0 x7_1) == 0) = false := beq_eq_false_iff_ne.mpr c10
                    have c10b1 : ((rd l0 x7_1) != 0) = true := bne_iff_ne.mpr c10
                    by_cases c13 : (Go.bits .or .i64 x5_1 (ji8)) > 1099511627776
                    · rw [if_pos c13] at H
                      have c13b0 : decide (1099511627776 < (Go.bits .or .i64 x5_1 (ji8))) = true := decide_eq_true c13
                      clear c13
                      simp only [Option.some.injEq, Prod.mk.injEq] at H
                      obtain ⟨rfl, rfl, rfl⟩ := H
                      have p212 : 0 ≤ (x7_1 : Int) := of_decide_eq_true (by first | (with_reducible assumption) | assumption)
                      have q212 : x7_1 < (l0.length : Int) := of_decide_eq_true (by first | (with_reducible assumption) | assumption)
                      obtain ⟨ad212, e212, hx212_0⟩ := Kd.at_int HR0.out x7_1 p212 q212
                      cases e212
                      replace p212 := eq_true p212
                      replace q212 := eq_true q212
                      have p213 : 0 ≤ (x7_1 : Int) := of_decide_eq_true (by first | (with_reducible assumption) | assumption)
                      have q213 : x7_1 < (l0.length : Int) := of_decide_eq_true (by first | (with_reducible assumption) | assumption)
                      obtain ⟨ad213, e213, hx213_0⟩ := Kd.at_int HR0.out x7_1 p213 q213
                      obtain rfl : ad212 = ad213 := (by injection e213)
                      replace p213 := eq_true p213
                      replace q213 := eq_true q213
                      have p214 : 0 ≤ (x7_1 : Int) := of_decide_eq_true (by first | (with_reducible assumption) | assumption)
                      have q214 : x7_1 < (l0.length : Int) := of_decide_eq_true (by first | (with_reducible assumption) | assumption)
                      obtain ⟨ad214, e214, hx214_0⟩ := Kd.at_int HR0.out x7_1 p214 q214
                      obtain rfl : ad212 = ad214 := (by injection e214)
                      replace p214 := eq_true p214
                      replace q214 := eq_true q214
                      go_wp2
                      go_ret3
                      exact ⟨by first | rfl | (simp; done) | (simp only [← hji6, ← hji8] <;> (first | rfl | simp)) | (simp [*]; done), by repeat (first | exact Drawn0.refl _ | apply Drawn0.step)⟩
                    · rw [if_neg c13] at H
                      have c13b0 : decide (1099511627776 < (Go.bits .or .i64 x5_1 (ji8))) = false := decide_eq_false c13
                      clear c13
                      simp only [Option.some.injEq, Prod.mk.injEq] at H
                      obtain ⟨rfl, rfl, rfl⟩ := H
                      have p212 : 0 ≤ (x7_1 : Int) := of_decide_eq_true (by first | (with_reducible assumption) | assumption)
                      have q212 : x7_1 < (l0.length : Int) := of_decide_eq_true (by first | (with_reducible assumption) | assumption)
                      obtain ⟨ad212, e212, hx212_0⟩ := Kd.at_int HR0.out x7_1 p212 q212
                      cases e212
                      replace p212 := eq_true p212
                      replace q212 := eq_true q212
                      have p213 : 0 ≤ (x7_1 : Int) := of_decide_eq_true (by first | (with_reducible assumption) | assumption)
                      have q213 : x7_1 < (l0.length : Int) := of_decide_eq_true (by first | (with_reducible assumption) | assumption)
                      obtain ⟨ad213, e213, hx213_0⟩ := Kd.at_int HR0.out x7_1 p213 q213
                      obtain rfl : ad212 = ad213 := (by injection e213)
                      replace p213 := eq_true p213
                      replace q213 := eq_true q213
                      have p214 : 0 ≤ (x7_1 : Int) := of_decide_eq_true (by first | (with_reducible assumption) | assumption)
                      have q214 : x7_1 < (l0.length : Int) := of_decide_eq_true (by first | (with_reducible assumption) | assumption)
                      obtain ⟨ad214, e214, hx214_0⟩ := Kd.at_int HR0.out x7_1 p214 q214
                      obtain rfl : ad212 = ad214 := (by injection e214)
                      replace p214 := eq_true p214
                      replace q214 := eq_true q214
                      go_wp2
                      go_ret3
                      exact ⟨by first | rfl | (simp; done) | (simp only [← hji6, ← hji8] <;> (first | rfl | simp)) | (simp [*]; done), by repeat (first | exact Drawn0.refl _ | apply Drawn0.step)⟩
              · rw [if_neg c7] at H
                exact absurd H (by simp)
            · rw [if_neg c5] at H
              exact absurd H (by simp)
          · rw [if_neg c4] at H
            exact absurd H (by simp)
      · rw [if_neg c2] at H
        have c2b0 : decide (x7_1 < 6) = false := decide_eq_false c2
        clear c2
        simp only [Option.some.injEq, Prod.mk.injEq] at H
        obtain ⟨rfl, rfl, rfl⟩ := H
        go_wp2
        go_ret3
        exact ⟨by first | rfl | (simp; done) | (simp [*]; done), by repeat (first | exact Drawn0.refl _ | apply Drawn0.step)⟩
end Go.Proofs.Ytjlabkibpknkpaa.FmM
