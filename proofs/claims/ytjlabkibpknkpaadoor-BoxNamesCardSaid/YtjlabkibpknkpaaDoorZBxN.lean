-- Written by a program of this claim's session (wip/tool/prune.py): what is used of a longer text. Not trusted: Lean checks it.
import Derived.Test.YtjlabkibpknkpaaDoorZBxD
namespace Go.Proofs.YtjlabkibpknkpaaDoor.BxN
open Go.RowKit Go.Proofs.YtjlabkibpknkpaaDoorW.PrintWords Go.Proofs.YtjlabkibpknkpaaDoorW.PrintLast Go.Proofs.YtjlabkibpknkpaaDoorW.PrintMore Go.Proofs.YtjlabkibpknkpaaDoor.FmM Go.Proofs.YtjlabkibpknkpaaDoor.PkP Go.Proofs.YtjlabkibpknkpaaDoor.FmN Go.Proofs.YtjlabkibpknkpaaDoor.FmB Go.Proofs.YtjlabkibpknkpaaDoor.FmC Go.Proofs.YtjlabkibpknkpaaDoor.FsP Go.Proofs.YtjlabkibpknkpaaDoor.BxF Go.Proofs.YtjlabkibpknkpaaDoor.BxA Go.Proofs.YtjlabkibpknkpaaDoor.BxD
set_option linter.unusedVariables false
set_option linter.unusedSimpArgs false
theorem low_at (x : Int) (n : Nat) (h0 : 0 < n) (h1 : n ≤ 1000000) : ∃ p : Nat, wrap64 ((IntKind.u64.wrap x).tmod (n : Int)) = (p : Int) ∧ p < n := by
  have e : IntKind.u64.wrap x = x % 18446744073709551616 := by simp [IntKind.wrap, IntKind.bits, IntKind.signed]
  have h2 : (0 : Int) ≤ x % 18446744073709551616 := Int.emod_nonneg _ (by decide)
  rw [e, Int.tmod_eq_emod_of_nonneg h2]
  have h3 : 0 ≤ x % 18446744073709551616 % (n : Int) := Int.emod_nonneg _ (by omega)
  have h4 : x % 18446744073709551616 % (n : Int) < (n : Int) := Int.emod_lt_of_pos _ (by omega)
  rw [w64s (by omega) (by omega)]
  exact ⟨(x % 18446744073709551616 % (n : Int)).toNat, by omega, by omega⟩
theorem atom_calls (s : ByteArray) (w : World) : Calls Tryd.prog 14 #[.string s] w fun e w' => e = .returned (.bool (atomP s)) ∧ Below w.heap.size w w' := by
  obtain ⟨k, hk⟩ := (ratom_ev s).get
  exact (mailsackref1_Atom.calls k s _ w hk).mono fun e w' h => ⟨h.1, h.2.below⟩
theorem mayMsg_calls (x : Int) (s : ByteArray) (w : World) (h0 : 1 ≤ x) (h1 : x < 1000000) (h2 : atomP s = true) (h3 : s.size ≤ 20) : Calls Tryd.prog 16 #[.agg #[.string (⟨#[]⟩ : ByteArray), .int .i64 0, .int .i64 0, .int .i64 0, .slice none 0 0, .slice none 0 0], .agg #[.int .i64 x, .int .i64 1, .int .i64 0, .string s, .int .i64 0, .slice none 0 0, .string (⟨#[]⟩ : ByteArray)]] w fun e w' => e = .returned (.int .i64 0) ∧ Below w.heap.size w w' := by
  obtain ⟨k, hk⟩ := (fmsg_ev (⟨#[]⟩ : ByteArray) 0 0 0 [] [] ⟨x, 1, 0, s, 0, [], ⟨#[]⟩⟩ (by show 0 + 0 + s.size ≤ 1000000; omega)).get
  have e : msgOk (([] : List ByteArray).length : Int) ⟨x, 1, 0, s, 0, [], ⟨#[]⟩⟩ = true := by
    unfold msgOk
    simp only
    rw [h2, decide_eq_true (show 1 ≤ x ∧ x < 1000000 ∧ (1 : Int) ≤ 1 ∧ (1 : Int) ≤ 1000000 ∧ (0 : Int) ≤ 0 ∧ (0 : Int) ≤ 1000000 by omega)]
    rfl
  rw [e] at hk
  exact box_MayMsg.calls k (⟨#[]⟩ : ByteArray) 0 0 0 none 0 [] none 0 [] x 1 0 s 0 none 0 [] (⟨#[]⟩ : ByteArray) _ w ⟨rfl, by decide, fun h => absurd h (by decide)⟩ (by decide) ⟨rfl, by decide, fun h => absurd h (by decide)⟩ (by decide) ⟨rfl, by decide, fun h => absurd h (by decide)⟩ (by decide) hk
set_option maxRecDepth 100000 in
set_option maxHeartbeats 4000000 in
theorem boxNames_calls (a b : ByteArray) (x y : Int) (w : World) (ht : Tab w) (ha : a.size ≤ 140737488355328) (hb : b.size ≤ 140737488355328) :
    Calls Tryd.prog 4 #[.string a, .string b, .int .i64 x, .int .i64 y] w fun e w' => e = .returned (.bool true) ∧ Below w.heap.size w w' := by
  have hu26 := Tryd.underlying26
  have hu31 := Tryd.underlying31
  have HA := Aside0.mk (atom_calls a)
  have HB := Aside0.mk (atom_calls b)
  have hAw := Aside0.mk (fun W (hbl : Below w.heap.size w W) => awake_calls W (ht.below hbl))
  have HT := Aside0.mk ht
  clear ht
  cases hA : atomP a with
  | false =>
    rw [hA] at HA
    clear hA ha hb
    go_enter Tryd.func4, Tryd.ntmps4
    go_wp2_with (first
      | (go_at_call 14; refine (HA.out _).mono ?_; clear HA; rintro e w1 ⟨rfl, hb⟩; have HB1 := Aside0.mk hb; clear hb; skip)
      | (go_at_call 14; refine (HB.out _).mono ?_; rintro e w2 ⟨rfl, hb⟩; have HB2 := Aside0.mk (HB1.out.trans (hb.mono HB1.out.size)); clear hb; skip)
      | (go_at_call 13; refine (hAw.out _ HB2.out).mono ?_; rintro e w3 ⟨rfl, hb⟩; have HB3 := Aside0.mk (HB2.out.trans (hb.mono HB2.out.size)); clear hb)
      | (go_at_call 13; refine (hAw.out _ HB1.out).mono ?_; rintro e w3 ⟨rfl, hb⟩; have HB3 := Aside0.mk (HB1.out.trans (hb.mono HB1.out.size)); clear hb))
    go_ret
    exact ⟨rfl, HB3.out⟩
  | true =>
  cases hB : atomP b with
  | false =>
    rw [hA] at HA
    rw [hB] at HB
    clear hA hB ha hb
    go_enter Tryd.func4, Tryd.ntmps4
    go_wp2_with (first
      | (go_at_call 14; refine (HA.out _).mono ?_; clear HA; rintro e w1 ⟨rfl, hb⟩; have HB1 := Aside0.mk hb; clear hb; skip)
      | (go_at_call 14; refine (HB.out _).mono ?_; rintro e w2 ⟨rfl, hb⟩; have HB2 := Aside0.mk (HB1.out.trans (hb.mono HB1.out.size)); clear hb; skip)
      | (go_at_call 13; refine (hAw.out _ HB2.out).mono ?_; rintro e w3 ⟨rfl, hb⟩; have HB3 := Aside0.mk (HB2.out.trans (hb.mono HB2.out.size)); clear hb)
      | (go_at_call 13; refine (hAw.out _ HB1.out).mono ?_; rintro e w3 ⟨rfl, hb⟩; have HB3 := Aside0.mk (HB1.out.trans (hb.mono HB1.out.size)); clear hb))
    go_ret
    exact ⟨rfl, HB3.out⟩
  | true =>
  rw [hA] at HA
  rw [hB] at HB
  by_cases h12 : a.size ≤ 12
  case neg =>
    have hd : decide (12 < (a.size : Int)) = true := decide_eq_true (by omega)
    clear hA hB ha hb h12
    go_enter Tryd.func4, Tryd.ntmps4
    go_wp2_with (first
      | (go_at_call 14; refine (HA.out _).mono ?_; clear HA; rintro e w1 ⟨rfl, hb⟩; have HB1 := Aside0.mk hb; clear hb; skip)
      | (go_at_call 14; refine (HB.out _).mono ?_; rintro e w2 ⟨rfl, hb⟩; have HB2 := Aside0.mk (HB1.out.trans (hb.mono HB1.out.size)); clear hb; skip)
      | (go_at_call 13; refine (hAw.out _ HB2.out).mono ?_; rintro e w3 ⟨rfl, hb⟩; have HB3 := Aside0.mk (HB2.out.trans (hb.mono HB2.out.size)); clear hb)
      | (go_at_call 13; refine (hAw.out _ HB1.out).mono ?_; rintro e w3 ⟨rfl, hb⟩; have HB3 := Aside0.mk (HB1.out.trans (hb.mono HB1.out.size)); clear hb))
    go_ret
    exact ⟨rfl, HB3.out⟩
  case pos =>
  by_cases h13 : b.size ≤ 12
  case neg =>
    have hc : decide (12 < (a.size : Int)) = false := decide_eq_false (by omega)
    have hd : decide (12 < (b.size : Int)) = true := decide_eq_true (by omega)
    clear hA hB ha hb h12 h13
    go_enter Tryd.func4, Tryd.ntmps4
    go_wp2_with (first
      | (go_at_call 14; refine (HA.out _).mono ?_; clear HA; rintro e w1 ⟨rfl, hb⟩; have HB1 := Aside0.mk hb; clear hb; skip)
      | (go_at_call 14; refine (HB.out _).mono ?_; rintro e w2 ⟨rfl, hb⟩; have HB2 := Aside0.mk (HB1.out.trans (hb.mono HB1.out.size)); clear hb; skip)
      | (go_at_call 13; refine (hAw.out _ HB2.out).mono ?_; rintro e w3 ⟨rfl, hb⟩; have HB3 := Aside0.mk (HB2.out.trans (hb.mono HB2.out.size)); clear hb)
      | (go_at_call 13; refine (hAw.out _ HB1.out).mono ?_; rintro e w3 ⟨rfl, hb⟩; have HB3 := Aside0.mk (HB1.out.trans (hb.mono HB1.out.size)); clear hb))
    go_ret
    exact ⟨rfl, HB3.out⟩
  case pos =>
  obtain ⟨p, hp, hp9⟩ := low_at x 999999 (by decide) (by decide)
  obtain ⟨q, hq, hq9⟩ := low_at y 999999 (by decide) (by decide)
  have h1 := own_atom a (p + 1) hA h12 (by omega)
  have h2 := own_atom b (q + 1) hB h13 (by omega)
  have h3 := own_eq a b (p + 1) (q + 1)
  rw [← toList_inj, ← toList_inj] at h3
  have HO1 := Aside0.mk (fun W (hbl : Below w.heap.size w W) => own_calls a ((p + 1 : Nat) : Int) W (HT.out.below hbl) (by omega) (by omega) (by omega))
  have HO2 := Aside0.mk (fun W (hbl : Below w.heap.size w W) => own_calls b ((q + 1 : Nat) : Int) W (HT.out.below hbl) (by omega) (by omega) (by omega))
  have HM := Aside0.mk (fun W => mayMsg_calls ((p + 1 : Nat) : Int) (ownB a ((p + 1 : Nat) : Int)) W (by omega) (by omega) h1.1 h1.2)
  clear h1 h2
  generalize ownB a ((p + 1 : Nat) : Int) = s at *
  generalize ownB b ((q + 1 : Nat) : Int) = t at *
  rw [Int.natCast_add, Int.natCast_one, Int.add_comm] at HO1 HO2 HM
  have hc : decide (12 < (a.size : Int)) = false := decide_eq_false (by omega)
  have hd : decide (12 < (b.size : Int)) = false := decide_eq_false (by omega)
  have hpi : (p : Int) < 999999 := by omega
  have hqi : (q : Int) < 999999 := by omega
  clear hA hB ha hb h12 h13 hp9 hq9
  have H3 := Aside0.mk h3
  have HX : Aside0 (wrap64 (1 + wrap64 ((IntKind.u64.wrap x).tmod 999999)) = 1 + (p : Int)) := ⟨by rw [show (999999 : Int) = ((999999 : Nat) : Int) from rfl, hp, w64s (by omega) (by omega)]⟩
  have HY : Aside0 (wrap64 (1 + wrap64 ((IntKind.u64.wrap y).tmod 999999)) = 1 + (q : Int)) := ⟨by rw [show (999999 : Int) = ((999999 : Nat) : Int) from rfl, hq, w64s (by omega) (by omega)]⟩
  clear h3 hp hq
  go_enter Tryd.func4, Tryd.ntmps4
  go_wp2_with (first
    | (go_at_call 14; refine (HA.out _).mono ?_; clear HA; rintro e w1 ⟨rfl, hb⟩; have HB1 := Aside0.mk hb; clear hb; skip)
    | (go_at_call 14; refine (HB.out _).mono ?_; rintro e w2 ⟨rfl, hb⟩; have HB2 := Aside0.mk (HB1.out.trans (hb.mono HB1.out.size)); clear hb; skip))
  rw [HX.out, HY.out]
  have e3 : (1 : Int) + (p : Int) = 1 + (q : Int) ↔ p + 1 = q + 1 := by omega
  rw [← e3] at H3
  clear HX HY hpi hqi e3
  generalize (1 : Int) + (p : Int) = X at *
  generalize (1 : Int) + (q : Int) = Y at *
  by_cases k1 : a.toList = b.toList
  · by_cases k2 : X = Y
    · subst k2
      have k3 : s.toList = t.toList := H3.out.2 ⟨k1, rfl⟩
      clear H3
      go_wp2_with (first
        | (go_at_call 15; refine (HO1.out _ HB2.out).mono ?_; clear HO1; rintro e w3 ⟨rfl, hb⟩; have HB3 := Aside0.mk (HB2.out.trans (hb.mono HB2.out.size)); clear hb; skip)
        | (go_at_call 15; refine (HO2.out _ HB3.out).mono ?_; rintro e w4 ⟨rfl, hb⟩; have HB4 := Aside0.mk (HB3.out.trans (hb.mono HB3.out.size)); clear hb; skip)
        | (go_at_call 16; refine (HM.out _).mono ?_; rintro e w5 ⟨rfl, hb⟩; have HB5 := Aside0.mk (HB4.out.trans (hb.mono HB4.out.size)); clear hb; skip)
        | (go_at_call 13; refine (hAw.out _ HB5.out).mono ?_; rintro e w6 ⟨rfl, hb⟩; have HB6 := Aside0.mk (HB5.out.trans (hb.mono HB5.out.size)); clear hb))
      go_ret
      exact ⟨rfl, HB6.out⟩
    · have k3 : ¬ s.toList = t.toList := fun h => k2 (H3.out.1 h).2
      have k4 : (X == Y) = false := beq_eq_false_iff_ne.2 k2
      have k5 : decide (X = Y) = false := decide_eq_false k2
      clear H3 k2
      go_wp2_with (first
        | (go_at_call 15; refine (HO1.out _ HB2.out).mono ?_; clear HO1; rintro e w3 ⟨rfl, hb⟩; have HB3 := Aside0.mk (HB2.out.trans (hb.mono HB2.out.size)); clear hb; skip)
        | (go_at_call 15; refine (HO2.out _ HB3.out).mono ?_; rintro e w4 ⟨rfl, hb⟩; have HB4 := Aside0.mk (HB3.out.trans (hb.mono HB3.out.size)); clear hb; skip)
        | (go_at_call 16; refine (HM.out _).mono ?_; rintro e w5 ⟨rfl, hb⟩; have HB5 := Aside0.mk (HB4.out.trans (hb.mono HB4.out.size)); clear hb; skip)
        | (go_at_call 13; refine (hAw.out _ HB5.out).mono ?_; rintro e w6 ⟨rfl, hb⟩; have HB6 := Aside0.mk (HB5.out.trans (hb.mono HB5.out.size)); clear hb))
      go_ret
      exact ⟨by have k6 : (s.toList == t.toList) = false := beq_eq_false_iff_ne.2 k3; show Ending.returned (.bool (!(s.toList == t.toList))) = _; rw [k6]; rfl, HB6.out⟩
  · have k3 : ¬ s.toList = t.toList := fun h => k1 (H3.out.1 h).1
    clear H3
    go_wp2_with (first
      | (go_at_call 15; refine (HO1.out _ HB2.out).mono ?_; clear HO1; rintro e w3 ⟨rfl, hb⟩; have HB3 := Aside0.mk (HB2.out.trans (hb.mono HB2.out.size)); clear hb; skip)
      | (go_at_call 15; refine (HO2.out _ HB3.out).mono ?_; rintro e w4 ⟨rfl, hb⟩; have HB4 := Aside0.mk (HB3.out.trans (hb.mono HB3.out.size)); clear hb; skip)
      | (go_at_call 16; refine (HM.out _).mono ?_; rintro e w5 ⟨rfl, hb⟩; have HB5 := Aside0.mk (HB4.out.trans (hb.mono HB4.out.size)); clear hb; skip)
      | (go_at_call 13; refine (hAw.out _ HB5.out).mono ?_; rintro e w6 ⟨rfl, hb⟩; have HB6 := Aside0.mk (HB5.out.trans (hb.mono HB5.out.size)); clear hb))
    go_ret
    exact ⟨by have k6 : (s.toList == t.toList) = false := beq_eq_false_iff_ne.2 k3; show Ending.returned (.bool (!(s.toList == t.toList))) = _; rw [k6]; rfl, HB6.out⟩
theorem boxNames_open (a b : ByteArray) (x y : Int) (w : World) (ht : Tab w) (ha : a.size ≤ 140737488351232) (hb : b.size ≤ 140737488351232) :
    Calls Tryd.prog 4 #[.string a, .string b, .int .i64 x, .int .i64 y] w fun e w' => e = .returned (.bool true) ∧ Below w.heap.size w w' := boxNames_calls a b x y w ht (by omega) (by omega)
end Go.Proofs.YtjlabkibpknkpaaDoor.BxN
