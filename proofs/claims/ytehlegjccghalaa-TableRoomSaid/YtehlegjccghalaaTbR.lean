/- TableRoom, walked. -/
import Derived.Test.YtehlegjccghalaaTbL
namespace Go.Proofs.Ytehlegjccghalaa.TbR
open Go.RowKit Go.Proofs.YtehlegjccghalaaW.PrintWords Go.Proofs.YtehlegjccghalaaW.PrintLast Go.Proofs.YtehlegjccghalaaW.PrintMore Go.Proofs.Ytehlegjccghalaa.TbI Go.Proofs.Ytehlegjccghalaa.TbP Go.Proofs.Ytehlegjccghalaa.TbT Go.Proofs.Ytehlegjccghalaa.TbN Go.Proofs.Ytehlegjccghalaa.TbL
set_option linter.unusedVariables false
set_option linter.unusedSimpArgs false
theorem rem20 (a : Int) : ∃ m : Nat, wrap64 ((IntKind.u64.wrap a).tmod 20) = (m : Int) ∧ m < 20 := by
  have e1 : IntKind.u64.wrap a = a % 18446744073709551616 := by simp [IntKind.wrap, IntKind.bits, IntKind.signed]
  have h2 : (0 : Int) ≤ a % 18446744073709551616 := Int.emod_nonneg _ (by decide)
  rw [e1, Int.tmod_eq_emod_of_nonneg h2]
  have h3 : (0 : Int) ≤ a % 18446744073709551616 % 20 := Int.emod_nonneg _ (by omega)
  have h4 : a % 18446744073709551616 % 20 < 20 := Int.emod_lt_of_pos _ (by omega)
  generalize a % 18446744073709551616 % 20 = q at *
  refine ⟨q.toNat, ?_, by omega⟩
  unfold wrap64; omega
theorem bel {B : Nat} {w w1 : World} (h : B ≤ w.heap.size) (hq : ∃ q, w1 = w.drewN q) : Below B w w1 := by
  obtain ⟨q, rfl⟩ := hq
  exact pw_below_drewN (Below.refl _ _) q
set_option maxRecDepth 100000 in
theorem tableRoom_calls (a : Int) (A0 : Option Addr) (c0 : Nat) (l0 : List Int) (w : World) (hl0 : l0.length ≤ c0) (hC0 : Kd.C (Kd.int .i64) w A0 l0.length l0) :
    Calls Try.prog 3 #[.int .i64 a, .slice A0 l0.length c0] w fun e w' => e = .returned (.bool true) ∧ Below w.heap.size w w' := by
  have HW := Aside0.mk (fun W => awake_calls W)
  obtain ⟨m, hm, hm20⟩ := rem20 a
  have HN := Aside0.mk (fun W => gd_new (m : Int) m (by omega) W)
  have HC := Aside0.mk hC0
  have hm9 : (m : Int) < 20 := by omega
  obtain ⟨n, hn⟩ : ∃ n, n = l0.length := ⟨_, rfl⟩
  have Hn := Aside0.mk hn
  rw [← hn] at HC hl0 ⊢
  clear hC0 hn hm20
  by_cases h60 : (n : Int) > 60
  · go_enter Try.func3, Try.ntmps3
    go_wp2_with (go_at_call 9; refine (HW.out _).mono ?_; rintro e w1 ⟨rfl, hb⟩; have Hb := Aside0.mk hb; clear hb)
    go_ret
    exact ⟨rfl, Hb.out⟩
  · go_enter Try.func3, Try.ntmps3
    have hn9 : (n : Int) ≤ 60 := by omega
    go_wp2_with (go_at_call 10; refine (HN.out _).mono ?_; rintro e w1 ⟨p, rfl, hb, hG⟩; have HB1 := Aside0.mk hb; have HG1 := Aside0.mk (hG _ (Nat.le_refl _)); clear hb hG)
    clear hm
    go_loopw [23] (fun i wr => ∃ k : Nat, k ≤ n ∧ i = .int .i64 k ∧ Aside0 (Below w.heap.size w wr) ∧ Aside0 (∃ kv vv ks vs, Gd wr w.heap.size p m kv vv ks vs)) (fun i _ => n - (intOf i).toNat)
    case atStart => exact ⟨0, Nat.zero_le _, rfl, HB1, ⟨_, _, _, _, HG1.out⟩⟩
    case round =>
      obtain ⟨k, hk, rfl, HB, HE⟩ := hrel
      by_cases hlt : k < n
      · obtain ⟨ad, e1, hx⟩ := Kd.at_int (Kd.C_below HC.out HB.out) (k : Int) (by omega) (by omega)
        cases e1
        rw [Int.toNat_natCast] at hx
        generalize rd l0 (k : Int) = x at *
        obtain ⟨kv, vv, ks, vs, hG⟩ := HE.out
        have K1 := Aside0.mk (gd_get hG x)
        have KL := Aside0.mk (fun W (h : ∃ q, W = wr.drewN q) => gd_len (hG.drew h))
        have K2 := Aside0.mk (fun W (h : ∃ q, W = wr.drewN q) => gd_put (hG.drew h) x (k : Int))
        have hB0 := HB.out.size
        have hm1 := hG.m
        clear HE hG HG1
        by_cases hin : x ∈ ks
        · rw [has_t hin] at K1 K2
          rw [Bool.true_or] at K2
          clear hin
          by_cases hf : (m : Int) ≤ (ks.length : Int)
          · go_wp2_with (first
              | (go_at_call 13; (with_reducible refine (K2.out _ Q3.out).mono ?_); rintro e w5 ⟨kv5, vv5, rfl, hG5, ht5⟩; obtain ⟨ks5, hks5⟩ : ∃ ks5, ks5 = pk intLt m ks x := ⟨_, rfl⟩; rw [← hks5] at hG5; have hm5 := Int.not_lt.2 (Int.ofNat_le.2 hG5.m); have HG5 := Aside0.mk hG5; have HB5 := Aside0.mk (HB.out.trans ((@bel _ _ _ hB0 Q3.out).trans ht5.1)); have KL5 := Aside0.mk (gd_len hG5); clear hG5 ht5 hks5)
              | (go_at_call 11; refine K1.out.mono ?_; rintro e w3 ⟨rfl, hq⟩; have Q3 := Aside0.mk hq; clear hq)
              | (go_at_call 12; (with_reducible refine (KL.out _ Q3.out).mono ?_); rintro e w4 ⟨rfl, e4⟩; subst e4)
              | (go_at_call 12; (with_reducible refine KL5.out.mono ?_); rintro e w6 ⟨rfl, e6⟩; subst e6))
            go_roundw
            case rel => exact ⟨k + 1, by omega, by go_num, HB5, ⟨_, _, _, _, HG5.out⟩⟩
            case measure => simp [intOf]; omega
          · go_wp2_with (first
              | (go_at_call 13; (with_reducible refine (K2.out _ Q3.out).mono ?_); rintro e w5 ⟨kv5, vv5, rfl, hG5, ht5⟩; obtain ⟨ks5, hks5⟩ : ∃ ks5, ks5 = pk intLt m ks x := ⟨_, rfl⟩; rw [← hks5] at hG5; have hm5 := Int.not_lt.2 (Int.ofNat_le.2 hG5.m); have HG5 := Aside0.mk hG5; have HB5 := Aside0.mk (HB.out.trans ((@bel _ _ _ hB0 Q3.out).trans ht5.1)); have KL5 := Aside0.mk (gd_len hG5); clear hG5 ht5 hks5)
              | (go_at_call 11; refine K1.out.mono ?_; rintro e w3 ⟨rfl, hq⟩; have Q3 := Aside0.mk hq; clear hq)
              | (go_at_call 12; (with_reducible refine (KL.out _ Q3.out).mono ?_); rintro e w4 ⟨rfl, e4⟩; subst e4)
              | (go_at_call 12; (with_reducible refine KL5.out.mono ?_); rintro e w6 ⟨rfl, e6⟩; subst e6))
            go_roundw
            case rel => exact ⟨k + 1, by omega, by go_num, HB5, ⟨_, _, _, _, HG5.out⟩⟩
            case measure => simp [intOf]; omega
        · rw [has_f hin] at K1 K2
          rw [Bool.false_or] at K2
          clear hin
          by_cases hf : (m : Int) ≤ (ks.length : Int)
          · rw [decide_eq_true (show m ≤ ks.length by omega)] at K2
            go_wp2_with (first
              | (go_at_call 13; (with_reducible refine (K2.out _ Q3.out).mono ?_); rintro e w5 ⟨kv5, vv5, rfl, hG5, ht5⟩; obtain ⟨ks5, hks5⟩ : ∃ ks5, ks5 = pk intLt m ks x := ⟨_, rfl⟩; rw [← hks5] at hG5; have hm5 := Int.not_lt.2 (Int.ofNat_le.2 hG5.m); have HG5 := Aside0.mk hG5; have HB5 := Aside0.mk (HB.out.trans ((@bel _ _ _ hB0 Q3.out).trans ht5.1)); have KL5 := Aside0.mk (gd_len hG5); clear hG5 ht5 hks5)
              | (go_at_call 11; refine K1.out.mono ?_; rintro e w3 ⟨rfl, hq⟩; have Q3 := Aside0.mk hq; clear hq)
              | (go_at_call 12; (with_reducible refine (KL.out _ Q3.out).mono ?_); rintro e w4 ⟨rfl, e4⟩; subst e4)
              | (go_at_call 12; (with_reducible refine KL5.out.mono ?_); rintro e w6 ⟨rfl, e6⟩; subst e6))
            go_roundw
            case rel => exact ⟨k + 1, by omega, by go_num, HB5, ⟨_, _, _, _, HG5.out⟩⟩
            case measure => simp [intOf]; omega
          · rw [decide_eq_false (show ¬ m ≤ ks.length by omega)] at K2
            go_wp2_with (first
              | (go_at_call 13; (with_reducible refine (K2.out _ Q3.out).mono ?_); rintro e w5 ⟨kv5, vv5, rfl, hG5, ht5⟩; obtain ⟨ks5, hks5⟩ : ∃ ks5, ks5 = pk intLt m ks x := ⟨_, rfl⟩; rw [← hks5] at hG5; have hm5 := Int.not_lt.2 (Int.ofNat_le.2 hG5.m); have HG5 := Aside0.mk hG5; have HB5 := Aside0.mk (HB.out.trans ((@bel _ _ _ hB0 Q3.out).trans ht5.1)); have KL5 := Aside0.mk (gd_len hG5); clear hG5 ht5 hks5)
              | (go_at_call 11; refine K1.out.mono ?_; rintro e w3 ⟨rfl, hq⟩; have Q3 := Aside0.mk hq; clear hq)
              | (go_at_call 12; (with_reducible refine (KL.out _ Q3.out).mono ?_); rintro e w4 ⟨rfl, e4⟩; subst e4)
              | (go_at_call 12; (with_reducible refine KL5.out.mono ?_); rintro e w6 ⟨rfl, e6⟩; subst e6))
            go_roundw
            case rel => exact ⟨k + 1, by omega, by go_num, HB5, ⟨_, _, _, _, HG5.out⟩⟩
            case measure => simp [intOf]; omega
      · have hke : k = n := by omega
        subst hke
        go_wp2_with (go_at_call 9; refine (HW.out _).mono ?_; rintro e w5 ⟨rfl, hb⟩; have HB5 := Aside0.mk (HB.out.trans (hb.mono HB.out.size)); clear hb)
        go_ret
        exact ⟨rfl, HB5.out⟩
end Go.Proofs.Ytehlegjccghalaa.TbR
