-- Printed by prune.py: the used part of a text.
import Derived.Test.YtplfpbfmnogckaaDoorZTdN
namespace Go.Proofs.YtplfpbfmnogckaaDoor.TdO
open Go.RowKit Go.Proofs.YtplfpbfmnogckaaDoorW.PrintWords Go.Proofs.YtplfpbfmnogckaaDoorW.PrintLast Go.Proofs.YtplfpbfmnogckaaDoorW.PrintMore Go.Proofs.YtplfpbfmnogckaaDoor.TdG Go.Proofs.YtplfpbfmnogckaaDoor.TdM Go.Proofs.YtplfpbfmnogckaaDoor.TdP Go.Proofs.YtplfpbfmnogckaaDoor.TdD Go.Proofs.YtplfpbfmnogckaaDoor.ItT Go.Proofs.YtplfpbfmnogckaaDoor.ItO Go.Proofs.YtplfpbfmnogckaaDoor.TdF Go.Proofs.YtplfpbfmnogckaaDoor.TdS Go.Proofs.YtplfpbfmnogckaaDoor.TdA Go.Proofs.YtplfpbfmnogckaaDoor.TdW Go.Proofs.YtplfpbfmnogckaaDoor.TdR Go.Proofs.YtplfpbfmnogckaaDoor.TdN
set_option linter.unusedVariables false
set_option linter.unusedSimpArgs false
theorem low_nat (x : Int) (n : Nat) (h0 : 0 < n) (h1 : n ≤ 1000000) : ∃ q : Nat, wrap64 ((IntKind.u64.wrap x).tmod (n : Int)) = (q : Int) ∧ q < n := by
  have e : IntKind.u64.wrap x = x % 18446744073709551616 := by simp [IntKind.wrap, IntKind.bits, IntKind.signed]
  have h2 : (0 : Int) ≤ x % 18446744073709551616 := Int.emod_nonneg _ (by decide)
  rw [e, Int.tmod_eq_emod_of_nonneg h2]
  have h3 : 0 ≤ x % 18446744073709551616 % (n : Int) := Int.emod_nonneg _ (by omega)
  have h4 : x % 18446744073709551616 % (n : Int) < (n : Int) := Int.emod_lt_of_pos _ (by omega)
  generalize x % 18446744073709551616 % (n : Int) = q at *
  exact ⟨q.toNat, by rw [w64s (by omega) (by omega)]; omega, by omega⟩
theorem sync_n (cut : Bool) (a0 : ByteArray) (a1 a2 a3 : Int) (aA4 : Option Addr) (ac4 : Nat) (aw : List ByteArray) (aA5 : Option Addr) (ac5 : Nat) (am : List S34) (A : Option Addr) (n c : Nat) (l : List S37) (w w0 : World) (hW : Below w0.heap.size w0 w) (ht : Tab w0) (hB : BoxIn w0 a0 aA4 ac4 aw aA5 ac5 am) (hL : BoxLight aw am) (hn : n = l.length) (hCl : Kd.C k37 w A n l) (hcl : n ≤ c) (hl : n ≤ 10000) :
    Calls Tryd.prog 15 #[.slice A n c, .agg #[.string a0, .int .i64 a1, .int .i64 a2, .int .i64 a3, .slice aA4 aw.length ac4, .slice aA5 am.length ac5], .bool cut] w fun e w' => ∃ A1 A2 c2, e = .returned (.tuple #[.slice A1 (outS cut am l).length (outS cut am l).length, .slice A2 (linesS cut aw am l).length c2]) ∧ Kd.C k37 w' A1 (outS cut am l).length (outS cut am l) ∧ Below w.heap.size w w' := by
  subst hn
  refine (sync_calls cut a0 a1 a2 a3 aA4 ac4 aw aA5 ac5 am A c l w (ht.below hW) (Kd.C_below hB.C4 hW) hB.c4 (Kd.C_below hB.C5 hW) hB.c5 hCl hcl hL.ms hL.n5 hl).mono ?_
  rintro e w' ⟨A1, A2, c2, rfl, h1, _, _, hb⟩
  exact ⟨A1, A2, c2, rfl, h1, hb⟩
def t_mailsacklaw23_ToldNotes.T8 : Bool × List (List Nat × List Nat) := (true, [([], []), ([], []), ([], []), ([2], [2]), ([], []), ([3, 4], [3, 4]), ([5], [5]), ([6], [6]), ([0, 1, 7], [0, 1, 7]), ([], []), ([8, 9, 8], [8, 9]), ([10], [10]), ([11], [11]), ([11], [11]), ([12, 10, 0, 1, 2, 3, 4, 5, 6, 7, 8, 9, 10, 11, 12], [12]), ([13, 14, 0, 1, 2, 3, 4, 5, 6, 7, 8, 9, 10, 11, 12, 13, 14], [13])])
def t_mailsacklaw23_ToldNotes.B8 : List Nat := [0, 0, 0, 4, 0, 28, 60, 124, 255, 0, 1023, 2047, 4095, 4095, 8191, 32767]
theorem t_mailsacklaw23_ToldNotes.tab8 : rtab .any (opsOf Tryd.f6 8) = t_mailsacklaw23_ToldNotes.T8 := by kernel_rfl
theorem t_mailsacklaw23_ToldNotes.bits8 : waitsOk t_mailsacklaw23_ToldNotes.T8.2 t_mailsacklaw23_ToldNotes.B8 = true := by kernel_rfl
set_option maxRecDepth 100000 in
set_option maxHeartbeats 8000000 in
theorem toldNotes_calls (a0 : ByteArray) (a1 a2 a3 : Int) (aA4 : Option Addr) (ac4 : Nat) (aw : List ByteArray) (aA5 : Option Addr) (ac5 : Nat) (am : List S34) (kk md : Int) (w : World) (ht : Tab w) (hB : BoxIn w a0 aA4 ac4 aw aA5 ac5 am) :
    Calls Tryd.prog 6 #[.agg #[.string a0, .int .i64 a1, .int .i64 a2, .int .i64 a3, .slice aA4 aw.length ac4, .slice aA5 am.length ac5], .int .i64 kk, .int .i64 md] w fun e w' => e = .returned (.bool true) ∧ Below w.heap.size w w' := by
  have hu25 := Tryd.underlying25
  have hu34 := Tryd.underlying34
  have hAw := Aside0.mk (fun W (hW : Below w.heap.size w W) => awake_calls W (ht.below hW))
  have hHv := Aside0.mk (fun W hW => hB.heavy a1 a2 a3 W hW)
  rcases heavy_01 (bulk a0 aw am) aw.length am.length with hh | hh
  case inr =>
    rw [hh] at hHv
    clear hB ht hh
    go_enter Tryd.func6, Tryd.ntmps6
    have M0_0 := Aside0.mk (Below.refl w.heap.size w)
    go_wp2_with (first
      | ((with_reducible refine gate_dst (N := 3) rfl ?_); refine box_event ?hgX3 (N := 3) ?hdX3 (cs := #[.string a0, .int .i64 a1, .int .i64 a2, .int .i64 a3, .slice aA4 aw.length ac4, .slice aA5 am.length ac5]) (t := 25) ?hrX3 ?_; (case hdX3 => rfl); (case hgX3 => rfl); (case hrX3 => first | (go_simp; done) | (go_simp; rfl)); intro g_X hg_ w_1 hbx_ hb_; have L0_X := Aside0.mk (show w.heap.size ≤ g_X by have := M0_0.out.size; omega); have M0_1 := Aside0.mk (M0_0.out.trans (hb_.mono M0_0.out.size)); have X_1 := Aside0.mk hbx_; clear hg_ hbx_ hb_ M0_0; have zX0 := blk_cell X_1.out 0; have zX1 := blk_cell X_1.out 1; have zX2 := blk_cell X_1.out 2; have zX3 := blk_cell X_1.out 3; have zX4 := blk_cell X_1.out 4; have zX5 := blk_cell X_1.out 5; skip)
      | (go_at_call 12; refine (hHv.out w_1 M0_1.out).mono ?_; rintro e_ w_2 ⟨rfl, hb⟩; have M0_2 := Aside0.mk (M0_1.out.trans (hb.mono M0_1.out.size)); have X_2 := Aside0.mk (blk_below X_1.out hb); clear hb M0_1 X_1 zX0 zX1 zX2 zX3 zX4 zX5; have zX0 := blk_cell X_2.out 0; have zX1 := blk_cell X_2.out 1; have zX2 := blk_cell X_2.out 2; have zX3 := blk_cell X_2.out 3; have zX4 := blk_cell X_2.out 4; have zX5 := blk_cell X_2.out 5; skip)
      | (go_at_call 14; refine (hAw.out w_2 M0_2.out).mono ?_; rintro e_ w_3 ⟨rfl, hb⟩; have M0_3 := Aside0.mk (M0_2.out.trans (hb.mono M0_2.out.size)); have X_3 := Aside0.mk (blk_below X_2.out hb); clear hb M0_2 X_2 zX0 zX1 zX2 zX3 zX4 zX5; have zX0 := blk_cell X_3.out 0; have zX1 := blk_cell X_3.out 1; have zX2 := blk_cell X_3.out 2; have zX3 := blk_cell X_3.out 3; have zX4 := blk_cell X_3.out 4; have zX5 := blk_cell X_3.out 5; skip))
    go_ret
    exact ⟨rfl, M0_3.out⟩
  rw [hh] at hHv
  have hL := hB.light hh
  have hMy := Aside0.mk (fun W hW => hB.may hL a1 a2 a3 W hW)
  clear hh
  by_cases hP : boxP a0 a1 a2 a3 aw am = 0
  case neg =>
    have HPN : ((boxP a0 a1 a2 a3 aw am) != 0) = true := bne_iff_ne.mpr hP
    generalize boxP a0 a1 a2 a3 aw am = p at *
    clear hP hB hL ht
    go_enter Tryd.func6, Tryd.ntmps6
    have M0_0 := Aside0.mk (Below.refl w.heap.size w)
    go_wp2_with (first
      | ((with_reducible refine gate_dst (N := 3) rfl ?_); refine box_event ?hgX3 (N := 3) ?hdX3 (cs := #[.string a0, .int .i64 a1, .int .i64 a2, .int .i64 a3, .slice aA4 aw.length ac4, .slice aA5 am.length ac5]) (t := 25) ?hrX3 ?_; (case hdX3 => rfl); (case hgX3 => rfl); (case hrX3 => first | (go_simp; done) | (go_simp; rfl)); intro g_X hg_ w_1 hbx_ hb_; have L0_X := Aside0.mk (show w.heap.size ≤ g_X by have := M0_0.out.size; omega); have M0_1 := Aside0.mk (M0_0.out.trans (hb_.mono M0_0.out.size)); have X_1 := Aside0.mk hbx_; clear hg_ hbx_ hb_ M0_0; have zX0 := blk_cell X_1.out 0; have zX1 := blk_cell X_1.out 1; have zX2 := blk_cell X_1.out 2; have zX3 := blk_cell X_1.out 3; have zX4 := blk_cell X_1.out 4; have zX5 := blk_cell X_1.out 5; skip)
      | (go_at_call 12; refine (hHv.out w_1 M0_1.out).mono ?_; rintro e_ w_2 ⟨rfl, hb⟩; have M0_2 := Aside0.mk (M0_1.out.trans (hb.mono M0_1.out.size)); have X_2 := Aside0.mk (blk_below X_1.out hb); clear hb M0_1 X_1 zX0 zX1 zX2 zX3 zX4 zX5; have zX0 := blk_cell X_2.out 0; have zX1 := blk_cell X_2.out 1; have zX2 := blk_cell X_2.out 2; have zX3 := blk_cell X_2.out 3; have zX4 := blk_cell X_2.out 4; have zX5 := blk_cell X_2.out 5; skip)
      | (go_at_call 13; refine (hMy.out w_2 M0_2.out).mono ?_; rintro e_ w_3 ⟨rfl, hb⟩; have M0_3 := Aside0.mk (M0_2.out.trans (hb.mono M0_2.out.size)); have X_3 := Aside0.mk (blk_below X_2.out hb); clear hb M0_2 X_2 zX0 zX1 zX2 zX3 zX4 zX5; have zX0 := blk_cell X_3.out 0; have zX1 := blk_cell X_3.out 1; have zX2 := blk_cell X_3.out 2; have zX3 := blk_cell X_3.out 3; have zX4 := blk_cell X_3.out 4; have zX5 := blk_cell X_3.out 5; skip)
      | (go_at_call 14; refine (hAw.out w_3 M0_3.out).mono ?_; rintro e_ w_4 ⟨rfl, hb⟩; have M0_4 := Aside0.mk (M0_3.out.trans (hb.mono M0_3.out.size)); have X_4 := Aside0.mk (blk_below X_3.out hb); clear hb M0_3 X_3 zX0 zX1 zX2 zX3 zX4 zX5; have zX0 := blk_cell X_4.out 0; have zX1 := blk_cell X_4.out 1; have zX2 := blk_cell X_4.out 2; have zX3 := blk_cell X_4.out 3; have zX4 := blk_cell X_4.out 4; have zX5 := blk_cell X_4.out 5; skip))
    go_ret
    exact ⟨rfl, M0_4.out⟩
  rw [hP] at hMy
  by_cases hz : am.length = 0
  case pos =>
    have hd : ((am.length : Int) == 0) = true := beq_iff_eq.2 (by omega)
    clear hP hB hL ht hz
    go_enter Tryd.func6, Tryd.ntmps6
    have M0_0 := Aside0.mk (Below.refl w.heap.size w)
    go_wp2_with (first
      | ((with_reducible refine gate_dst (N := 3) rfl ?_); refine box_event ?hgX3 (N := 3) ?hdX3 (cs := #[.string a0, .int .i64 a1, .int .i64 a2, .int .i64 a3, .slice aA4 aw.length ac4, .slice aA5 am.length ac5]) (t := 25) ?hrX3 ?_; (case hdX3 => rfl); (case hgX3 => rfl); (case hrX3 => first | (go_simp; done) | (go_simp; rfl)); intro g_X hg_ w_1 hbx_ hb_; have L0_X := Aside0.mk (show w.heap.size ≤ g_X by have := M0_0.out.size; omega); have M0_1 := Aside0.mk (M0_0.out.trans (hb_.mono M0_0.out.size)); have X_1 := Aside0.mk hbx_; clear hg_ hbx_ hb_ M0_0; have zX0 := blk_cell X_1.out 0; have zX1 := blk_cell X_1.out 1; have zX2 := blk_cell X_1.out 2; have zX3 := blk_cell X_1.out 3; have zX4 := blk_cell X_1.out 4; have zX5 := blk_cell X_1.out 5; skip)
      | (go_at_call 12; refine (hHv.out w_1 M0_1.out).mono ?_; rintro e_ w_2 ⟨rfl, hb⟩; have M0_2 := Aside0.mk (M0_1.out.trans (hb.mono M0_1.out.size)); have X_2 := Aside0.mk (blk_below X_1.out hb); clear hb M0_1 X_1 zX0 zX1 zX2 zX3 zX4 zX5; have zX0 := blk_cell X_2.out 0; have zX1 := blk_cell X_2.out 1; have zX2 := blk_cell X_2.out 2; have zX3 := blk_cell X_2.out 3; have zX4 := blk_cell X_2.out 4; have zX5 := blk_cell X_2.out 5; skip)
      | (go_at_call 13; refine (hMy.out w_2 M0_2.out).mono ?_; rintro e_ w_3 ⟨rfl, hb⟩; have M0_3 := Aside0.mk (M0_2.out.trans (hb.mono M0_2.out.size)); have X_3 := Aside0.mk (blk_below X_2.out hb); clear hb M0_2 X_2 zX0 zX1 zX2 zX3 zX4 zX5; have zX0 := blk_cell X_3.out 0; have zX1 := blk_cell X_3.out 1; have zX2 := blk_cell X_3.out 2; have zX3 := blk_cell X_3.out 3; have zX4 := blk_cell X_3.out 4; have zX5 := blk_cell X_3.out 5; skip)
      | (go_at_call 14; refine (hAw.out w_3 M0_3.out).mono ?_; rintro e_ w_4 ⟨rfl, hb⟩; have M0_4 := Aside0.mk (M0_3.out.trans (hb.mono M0_3.out.size)); have X_4 := Aside0.mk (blk_below X_3.out hb); clear hb M0_3 X_3 zX0 zX1 zX2 zX3 zX4 zX5; have zX0 := blk_cell X_4.out 0; have zX1 := blk_cell X_4.out 1; have zX2 := blk_cell X_4.out 2; have zX3 := blk_cell X_4.out 3; have zX4 := blk_cell X_4.out 4; have zX5 := blk_cell X_4.out 5; skip))
    go_ret
    exact ⟨rfl, M0_4.out⟩
  have hd : ((am.length : Int) == 0) = false := beq_eq_false_iff_ne.2 (by omega)
  have hp := ((msgsOk_iff _ _ _ _ _).1 (may_parts hP).2.2.2.2).2
  obtain ⟨q, hq, hql⟩ := low_nat kk am.length (by omega) (by have := hL.n5; omega)
  have hNe := Aside0.mk (fun W (hW : Below w.heap.size w W) => new_calls a0 a1 a2 a3 aA4 ac4 aw aA5 ac5 am W (Kd.C_below hB.C4 hW) hB.c4 (Kd.C_below hB.C5 hW) hB.c5 (by have := hL.n5; omega))
  obtain ⟨adM, A6, c6, e1, hm0, hm1, hm2, hm3, hm4, hm5, hm6, hc6, hC6⟩ := at_T34 hB.C5 (q : Int) (by omega) (by omega)
  cases e1
  rw [Int.toNat_natCast] at hm0 hm1
  rw [rdm_nat am hql] at hm0 hm1
  have hl1 := note_lines hp aw q hql md
  have hl2 := note_lines hp aw q hql am[q].f1
  rw [if_pos rfl, ← note_back hp q hql md] at hl2
  have hn1 : (noteS am[q].f0 md (am.map seenM)).length = am.length := by rw [note_len, List.length_map]
  have hn2 : (noteS am[q].f0 am[q].f1 (noteS am[q].f0 md (am.map seenM))).length = am.length := by rw [note_len, hn1]
  have n5 := hL.n5
  have hNo := Aside0.mk (fun A c W (h : Kd.C k37 W A am.length (am.map seenM)) (hc : am.length ≤ c) => note_calls A am.length c (am.map seenM) am[q].f0 md W (by rw [List.length_map]) h hc (by omega))
  have hN2 := Aside0.mk (fun A c W (h9 : Kd.C k37 W A am.length (noteS am[q].f0 md (am.map seenM))) (hc : am.length ≤ c) => note_calls A am.length c _ am[q].f0 am[q].f1 W hn1.symm h9 hc (by omega))
  have hS1 := Aside0.mk (fun A c W (hW : Below w.heap.size w W) (h9 : Kd.C k37 W A am.length (noteS am[q].f0 md (am.map seenM))) (hc : am.length ≤ c) => sync_n true a0 a1 a2 a3 aA4 ac4 aw (some adM) ac5 am A am.length c (noteS am[q].f0 md (am.map seenM)) W w hW ht hB hL hn1.symm h9 hc (by omega))
  have hS2 := Aside0.mk (fun A c W (hW : Below w.heap.size w W) (h9 : Kd.C k37 W A am.length (noteS am[q].f0 am[q].f1 (noteS am[q].f0 md (am.map seenM)))) (hc : am.length ≤ c) => sync_n true a0 a1 a2 a3 aA4 ac4 aw (some adM) ac5 am A am.length c (noteS am[q].f0 am[q].f1 (noteS am[q].f0 md (am.map seenM))) W w hW ht hB hL hn2.symm h9 hc (by omega))
  rw [hl1] at hS1
  rw [hl2] at hS2
  clear hl1 hl2 hn1 hn2 hP hB hL ht hm2 hm3 hm4 hm5 hm6 hc6 hC6 hp
  generalize noteS am[q].f0 am[q].f1 (noteS am[q].f0 md (am.map seenM)) = V2 at *
  generalize noteS am[q].f0 md (am.map seenM) = V1 at *
  generalize am.map seenM = V0 at *
  generalize am[q] = m at *
  generalize outS true am V1 = O1 at *
  generalize outS true am V2 = O2 at *
  have hq7 : (q : Int) < (am.length : Int) := by omega
  have hw9 : IntKind.u64.wrap (am.length : Int) = (am.length : Int) := by
    have e : IntKind.u64.wrap (am.length : Int) = (am.length : Int) % 18446744073709551616 := by simp [IntKind.wrap, IntKind.bits, IntKind.signed]
    rw [e]
    omega
  have hz8 : ¬ ((am.length : Int) = 0) := by omega
  have hHM := Aside0.mk (fun W (hW : Below w.heap.size w W) => (⟨pw_cell_below hW hm0, pw_cell_below hW hm1⟩ : _ ∧ _))
  clear hm0 hm1 hql hz
  obtain ⟨want, hwant⟩ : ∃ want : Nat, (if md = m.f1 then 0 else 1) = want := ⟨_, rfl⟩
  rw [hwant] at hS1
  have hwd : (md = m.f1 ∧ want = 0) ∨ (¬ md = m.f1 ∧ want = 1) := by
    by_cases h : md = m.f1
    · rw [if_pos h] at hwant; exact .inl ⟨h, hwant.symm⟩
    · rw [if_neg h] at hwant; exact .inr ⟨h, hwant.symm⟩
  clear hwant n5
  have hq2 := Aside0.mk hq
  go_enter Tryd.func6, Tryd.ntmps6
  have M0_0 := Aside0.mk (Below.refl w.heap.size w)
  have tok1 := Aside0.mk True.intro
  go_upto_region 8 with (first
    | ((with_reducible refine gate_dst (N := 3) rfl ?_); refine box_event ?hgX3 (N := 3) ?hdX3 (cs := #[.string a0, .int .i64 a1, .int .i64 a2, .int .i64 a3, .slice aA4 aw.length ac4, .slice (some adM) am.length ac5]) (t := 25) ?hrX3 ?_; (case hdX3 => rfl); (case hgX3 => rfl); (case hrX3 => first | (go_simp; done) | (go_simp; rfl)); intro g_X hg_ w_1 hbx_ hb_; have L0_X := Aside0.mk (show w.heap.size ≤ g_X by have := M0_0.out.size; omega); have M0_1 := Aside0.mk (M0_0.out.trans (hb_.mono M0_0.out.size)); have X_1 := Aside0.mk hbx_; clear hg_ hbx_ hb_ M0_0; have zX0 := blk_cell X_1.out 0; have zX1 := blk_cell X_1.out 1; have zX2 := blk_cell X_1.out 2; have zX3 := blk_cell X_1.out 3; have zX4 := blk_cell X_1.out 4; have zX5 := blk_cell X_1.out 5; skip)
    | (go_at_call 12; refine (hHv.out w_1 M0_1.out).mono ?_; rintro e_ w_2 ⟨rfl, hb⟩; have M0_2 := Aside0.mk (M0_1.out.trans (hb.mono M0_1.out.size)); have X_2 := Aside0.mk (blk_below X_1.out hb); clear hb M0_1 X_1 zX0 zX1 zX2 zX3 zX4 zX5; have zX0 := blk_cell X_2.out 0; have zX1 := blk_cell X_2.out 1; have zX2 := blk_cell X_2.out 2; have zX3 := blk_cell X_2.out 3; have zX4 := blk_cell X_2.out 4; have zX5 := blk_cell X_2.out 5; skip)
    | (go_at_call 13; refine (hMy.out w_2 M0_2.out).mono ?_; rintro e_ w_3 ⟨rfl, hb⟩; have M0_3 := Aside0.mk (M0_2.out.trans (hb.mono M0_2.out.size)); have X_3 := Aside0.mk (blk_below X_2.out hb); clear hb M0_2 X_2 zX0 zX1 zX2 zX3 zX4 zX5; have zX0 := blk_cell X_3.out 0; have zX1 := blk_cell X_3.out 1; have zX2 := blk_cell X_3.out 2; have zX3 := blk_cell X_3.out 3; have zX4 := blk_cell X_3.out 4; have zX5 := blk_cell X_3.out 5; skip)
    | ((with_reducible refine gate_dst (N := 32) rfl ?_); clear tok1; obtain ⟨gm0, gm1⟩ := hHM.out w_3 M0_3.out; skip)
    | (go_at_call 17; refine (hNe.out w_3 M0_3.out).mono ?_; rintro e_ w_4 ⟨AN, cN, rfl, hcN, hN, hb⟩; have M0_4 := Aside0.mk (M0_3.out.trans (hb.mono M0_3.out.size)); have X_4 := Aside0.mk (blk_below X_3.out hb); have M4_4 := Aside0.mk (Below.refl w_4.heap.size w_4); have CN := Aside0.mk hN; have LN := Aside0.mk hcN; clear hb hN hcN M0_3 X_3 zX0 zX1 zX2 zX3 zX4 zX5; have zX0 := blk_cell X_4.out 0; have zX1 := blk_cell X_4.out 1; have zX2 := blk_cell X_4.out 2; have zX3 := blk_cell X_4.out 3; have zX4 := blk_cell X_4.out 4; have zX5 := blk_cell X_4.out 5; skip)
    | (go_at_call 18; refine (hNo.out AN cN w_4 (Kd.C_below CN.out M4_4.out) LN.out).mono ?_; rintro e_ w_5 ⟨A1, c1, rfl, hc1, h1, hb⟩; have M0_5 := Aside0.mk (M0_4.out.trans (hb.mono M0_4.out.size)); have M4_5 := Aside0.mk (M4_4.out.trans (hb.mono M4_4.out.size)); have X_5 := Aside0.mk (blk_below X_4.out hb); have M5_5 := Aside0.mk (Below.refl w_5.heap.size w_5); have CW := Aside0.mk h1; have LW := Aside0.mk hc1; clear hb h1 hc1 M0_4 M4_4 X_4 zX0 zX1 zX2 zX3 zX4 zX5; have zX0 := blk_cell X_5.out 0; have zX1 := blk_cell X_5.out 1; have zX2 := blk_cell X_5.out 2; have zX3 := blk_cell X_5.out 3; have zX4 := blk_cell X_5.out 4; have zX5 := blk_cell X_5.out 5; skip)
    | (go_at_call 15; refine (hS1.out A1 c1 w_5 M0_5.out (Kd.C_below CW.out M5_5.out) LW.out).mono ?_; rintro e_ w_6 ⟨AO, AL, cL, rfl, hO, hb⟩; have M0_6 := Aside0.mk (M0_5.out.trans (hb.mono M0_5.out.size)); have M4_6 := Aside0.mk (M4_5.out.trans (hb.mono M4_5.out.size)); have M5_6 := Aside0.mk (M5_5.out.trans (hb.mono M5_5.out.size)); have X_6 := Aside0.mk (blk_below X_5.out hb); clear hb M0_5 M4_5 M5_5 X_5 zX0 zX1 zX2 zX3 zX4 zX5; have zX0 := blk_cell X_6.out 0; have zX1 := blk_cell X_6.out 1; have zX2 := blk_cell X_6.out 2; have zX3 := blk_cell X_6.out 3; have zX4 := blk_cell X_6.out 4; have zX5 := blk_cell X_6.out 5; skip))
  have HB := Aside0.mk M0_6.out
  have GX := Aside0.mk X_6.out
  have CV := Aside0.mk (Kd.C_below CW.out M5_6.out)
  have HA := Aside0.mk (Below.refl w_6.heap.size w_6)
  clear zX0 zX1 zX2 zX3 zX4 zX5 gm0 gm1 hq
  refine start_ (n := 16) (S := fun w' => True) (ds := []) #[false, false, false, false, false, false, false, false, false, false, false, false, false, false, false, false] (by kernel_rfl) rfl rfl trivial (fun hHeld => ?_)
  refine with_tabW t_mailsacklaw23_ToldNotes.tab8 t_mailsacklaw23_ToldNotes.bits8 (fun HT_ HW_ => ?_)
  have hd_ := (below_drew1 (Below.refl w_6.heap.size w_6))
  have n_HA := Aside0.mk (HA.out.drew)
  have n_GX := Aside0.mk ((show w_6.drew.heap[g_X]? = _ from GX.out))
  clear HA
  have HA := n_HA
  clear n_HA
  clear GX
  have GX := n_GX
  clear n_GX
  generalize w_6.drew = w_d at *
  clear hd_
  refine inv_at [0, 1, 2, 3, 4, 5, 6, 7, 8, 9, 10, 11, 12, 13, 14, 15] (fun a0_ b a w' => ∃ (A65 : Option Addr) (c65 : Nat) (A67 : Option Addr) (A68 : Option Addr) (c68 : Nat) (m8_ : Value) (m10_ : Value) (m11_ : Value) (m12_ : Value) (m13_ : Value) (m14_ : Value) (m15_ : Value), a = putSel a0_ b [(0, 57, .slice A1 am.length c1), (1, 58, .int .i64 m.f0), (2, 59, .pointer (some ⟨g_X, 5, none⟩)), (3, 60, .slice (some adM) am.length ac5), (4, 61, .int .i64 (q : Int)), (5, 62, .pointer (some (adM.add (q * 7)))), (6, 63, .pointer (some ⟨(adM.add (q * 7)).block, (adM.add (q * 7)).off + 1, none⟩)), (7, 64, .int .i64 m.f1), (8, 65, m8_), (9, 66, .agg #[.string a0, .int .i64 a1, .int .i64 a2, .int .i64 a3, .slice aA4 aw.length ac4, .slice (some adM) am.length ac5]), (10, 67, m10_), (11, 56, m11_), (12, 68, m12_), (13, 69, m13_), (14, 12, m14_), (15, 13, m15_)] ∧ (Below w_6.heap.size w_6 w') ∧ (w'.heap[g_X]? = some (.cells #[.string a0, .int .i64 a1, .int .i64 a2, .int .i64 a3, .slice aA4 aw.length ac4, .slice (some adM) am.length ac5] 25 (0, 0))) ∧ (b 8 = true → Kd.C k37 w' A65 am.length V2 ∧ am.length ≤ c65) ∧ (b 8 = true → (m8_ : Value) = .slice A65 am.length c65) ∧ (b 10 = true → (m10_ : Value) = .tuple #[.slice A67 O2.length O2.length, .slice A68 0 c68]) ∧ (b 11 = true → (m11_ : Value) = .tuple #[.slice A67 O2.length O2.length, .slice A68 0 c68]) ∧ (b 12 = true → (m12_ : Value) = .slice A67 O2.length O2.length) ∧ (b 13 = true → (m13_ : Value) = .slice A68 0 c68) ∧ (b 14 = true → (m14_ : Value) = .slice A67 O2.length O2.length) ∧ (b 15 = true → (m15_ : Value) = .slice A68 0 c68)) HT_.out HW_.out (by kernel_rfl) (by kernel_rfl) ?_ ?_ ?_
  · exact ⟨none, 0, none, none, 0, .bool false, .bool false, .bool false, .bool false, .bool false, .bool false, .bool false, by simp only [putSel, Bool.false_eq_true, if_false], HA.out, GX.out, fun h_ => absurd h_ (by decide), fun h_ => absurd h_ (by decide), fun h_ => absurd h_ (by decide), fun h_ => absurd h_ (by decide), fun h_ => absurd h_ (by decide), fun h_ => absurd h_ (by decide), fun h_ => absurd h_ (by decide), fun h_ => absurd h_ (by decide)⟩
  · skip
    clear GX HA
    refine steps_cons ?_ ?_
    · rintro b a w' ⟨A65, c65, A67, A68, c68, m8_, m10_, m11_, m12_, m13_, m14_, m15_, ha, Q_HA, Q_GX, Q_C65, Q_X8_, Q_X10_, Q_X11_, Q_X12_, Q_X13_, Q_X14_, Q_X15_⟩ hb_ hon hoff
      refine ⟨_, rfl, fun K hK => ?_⟩
      have e9 : a.tmps[9]? = some (.slice A1 am.length c1) := by rw [ha]; exact (putSel_off rfl).trans rfl
      replace ha := Aside0.mk ha
      refine value_ (w1 := w') (v := .slice A1 am.length c1) (by rfl) rfl ?_ ?_
      · go_simp
        try first | rfl | assumption
      refine hK.out _ _ ⟨A65, c65, A67, A68, c68, m8_, m10_, m11_, m12_, m13_, m14_, m15_, (by rw [ha.out]; exact putSel_upk 0 hb_ rfl rfl rfl), Q_HA, Q_GX, fun h0_ => absurd ((hoff 8 (by kernel_rfl)).symm.trans h0_) (by decide), fun h0_ => absurd ((hoff 8 (by kernel_rfl)).symm.trans h0_) (by decide), fun h0_ => absurd ((hoff 10 (by kernel_rfl)).symm.trans h0_) (by decide), fun h0_ => absurd ((hoff 11 (by kernel_rfl)).symm.trans h0_) (by decide), fun h0_ => absurd ((hoff 12 (by kernel_rfl)).symm.trans h0_) (by decide), fun h0_ => absurd ((hoff 13 (by kernel_rfl)).symm.trans h0_) (by decide), fun h0_ => absurd ((hoff 14 (by kernel_rfl)).symm.trans h0_) (by decide), fun h0_ => absurd ((hoff 15 (by kernel_rfl)).symm.trans h0_) (by decide)⟩
    refine steps_cons ?_ ?_
    · rintro b a w' ⟨A65, c65, A67, A68, c68, m8_, m10_, m11_, m12_, m13_, m14_, m15_, ha, Q_HA, Q_GX, Q_C65, Q_X8_, Q_X10_, Q_X11_, Q_X12_, Q_X13_, Q_X14_, Q_X15_⟩ hb_ hon hoff
      refine ⟨_, rfl, fun K hK => ?_⟩
      have e7 : a.tmps[7]? = some (.int .i64 m.f0) := by rw [ha]; exact (putSel_off rfl).trans rfl
      replace ha := Aside0.mk ha
      refine value_ (w1 := w') (v := .int .i64 m.f0) (by rfl) rfl ?_ ?_
      · go_simp
        (try simp only [i64_w])
        try first | rfl | assumption
      refine hK.out _ _ ⟨A65, c65, A67, A68, c68, m8_, m10_, m11_, m12_, m13_, m14_, m15_, (by rw [ha.out]; exact putSel_upk 1 hb_ rfl rfl rfl), Q_HA, Q_GX, fun h0_ => absurd ((hoff 8 (by kernel_rfl)).symm.trans h0_) (by decide), fun h0_ => absurd ((hoff 8 (by kernel_rfl)).symm.trans h0_) (by decide), fun h0_ => absurd ((hoff 10 (by kernel_rfl)).symm.trans h0_) (by decide), fun h0_ => absurd ((hoff 11 (by kernel_rfl)).symm.trans h0_) (by decide), fun h0_ => absurd ((hoff 12 (by kernel_rfl)).symm.trans h0_) (by decide), fun h0_ => absurd ((hoff 13 (by kernel_rfl)).symm.trans h0_) (by decide), fun h0_ => absurd ((hoff 14 (by kernel_rfl)).symm.trans h0_) (by decide), fun h0_ => absurd ((hoff 15 (by kernel_rfl)).symm.trans h0_) (by decide)⟩
    refine steps_cons ?_ ?_
    · rintro b a w' ⟨A65, c65, A67, A68, c68, m8_, m10_, m11_, m12_, m13_, m14_, m15_, ha, Q_HA, Q_GX, Q_C65, Q_X8_, Q_X10_, Q_X11_, Q_X12_, Q_X13_, Q_X14_, Q_X15_⟩ hb_ hon hoff
      refine ⟨_, rfl, fun K hK => ?_⟩
      have e3 : a.tmps[3]? = some (.pointer (some ⟨g_X, 0, none⟩)) := by rw [ha]; exact (putSel_off rfl).trans rfl
      replace ha := Aside0.mk ha
      refine value_ (w1 := w') (v := .pointer (some ⟨g_X, 5, none⟩)) (by rfl) rfl ?_ ?_
      · go_simp
        try first | rfl | assumption
      refine hK.out _ _ ⟨A65, c65, A67, A68, c68, m8_, m10_, m11_, m12_, m13_, m14_, m15_, (by rw [ha.out]; exact putSel_upk 2 hb_ rfl rfl rfl), Q_HA, Q_GX, fun h0_ => absurd ((hoff 8 (by kernel_rfl)).symm.trans h0_) (by decide), fun h0_ => absurd ((hoff 8 (by kernel_rfl)).symm.trans h0_) (by decide), fun h0_ => absurd ((hoff 10 (by kernel_rfl)).symm.trans h0_) (by decide), fun h0_ => absurd ((hoff 11 (by kernel_rfl)).symm.trans h0_) (by decide), fun h0_ => absurd ((hoff 12 (by kernel_rfl)).symm.trans h0_) (by decide), fun h0_ => absurd ((hoff 13 (by kernel_rfl)).symm.trans h0_) (by decide), fun h0_ => absurd ((hoff 14 (by kernel_rfl)).symm.trans h0_) (by decide), fun h0_ => absurd ((hoff 15 (by kernel_rfl)).symm.trans h0_) (by decide)⟩
    refine steps_cons ?_ ?_
    · rintro b a w' ⟨A65, c65, A67, A68, c68, m8_, m10_, m11_, m12_, m13_, m14_, m15_, ha, Q_HA, Q_GX, Q_C65, Q_X8_, Q_X10_, Q_X11_, Q_X12_, Q_X13_, Q_X14_, Q_X15_⟩ hb_ hon hoff
      refine ⟨_, rfl, fun K hK => ?_⟩
      have e59 : a.tmps[59]? = some (.pointer (some ⟨g_X, 5, none⟩)) := by rw [ha]; exact putSel_on (e := (2, 59, .pointer (some ⟨g_X, 5, none⟩))) 2 rfl rfl (hon 2 (by kernel_rfl)) rfl
      replace ha := Aside0.mk ha
      have GX := Aside0.mk Q_GX
      have hc5 := blk_cell GX.out 5
      refine value_ (w1 := w') (v := .slice (some adM) am.length ac5) (by rfl) rfl ?_ ?_
      · go_simp
        try first | rfl | assumption
      refine hK.out _ _ ⟨A65, c65, A67, A68, c68, m8_, m10_, m11_, m12_, m13_, m14_, m15_, (by rw [ha.out]; exact putSel_upk 3 hb_ rfl rfl rfl), Q_HA, Q_GX, fun h0_ => absurd ((hoff 8 (by kernel_rfl)).symm.trans h0_) (by decide), fun h0_ => absurd ((hoff 8 (by kernel_rfl)).symm.trans h0_) (by decide), fun h0_ => absurd ((hoff 10 (by kernel_rfl)).symm.trans h0_) (by decide), fun h0_ => absurd ((hoff 11 (by kernel_rfl)).symm.trans h0_) (by decide), fun h0_ => absurd ((hoff 12 (by kernel_rfl)).symm.trans h0_) (by decide), fun h0_ => absurd ((hoff 13 (by kernel_rfl)).symm.trans h0_) (by decide), fun h0_ => absurd ((hoff 14 (by kernel_rfl)).symm.trans h0_) (by decide), fun h0_ => absurd ((hoff 15 (by kernel_rfl)).symm.trans h0_) (by decide)⟩
    refine steps_cons ?_ ?_
    · rintro b a w' ⟨A65, c65, A67, A68, c68, m8_, m10_, m11_, m12_, m13_, m14_, m15_, ha, Q_HA, Q_GX, Q_C65, Q_X8_, Q_X10_, Q_X11_, Q_X12_, Q_X13_, Q_X14_, Q_X15_⟩ hb_ hon hoff
      refine ⟨_, rfl, fun K hK => ?_⟩
      have e1 : a.tmps[1]? = some (.int .i64 (q : Int)) := by rw [ha]; exact (putSel_off rfl).trans rfl
      replace ha := Aside0.mk ha
      refine value_ (w1 := w') (v := .int .i64 (q : Int)) (by rfl) rfl ?_ ?_
      · go_simp
        (try simp only [i64_w])
        try first | rfl | assumption
      refine hK.out _ _ ⟨A65, c65, A67, A68, c68, m8_, m10_, m11_, m12_, m13_, m14_, m15_, (by rw [ha.out]; exact putSel_upk 4 hb_ rfl rfl rfl), Q_HA, Q_GX, fun h0_ => absurd ((hoff 8 (by kernel_rfl)).symm.trans h0_) (by decide), fun h0_ => absurd ((hoff 8 (by kernel_rfl)).symm.trans h0_) (by decide), fun h0_ => absurd ((hoff 10 (by kernel_rfl)).symm.trans h0_) (by decide), fun h0_ => absurd ((hoff 11 (by kernel_rfl)).symm.trans h0_) (by decide), fun h0_ => absurd ((hoff 12 (by kernel_rfl)).symm.trans h0_) (by decide), fun h0_ => absurd ((hoff 13 (by kernel_rfl)).symm.trans h0_) (by decide), fun h0_ => absurd ((hoff 14 (by kernel_rfl)).symm.trans h0_) (by decide), fun h0_ => absurd ((hoff 15 (by kernel_rfl)).symm.trans h0_) (by decide)⟩
    refine steps_cons ?_ ?_
    · rintro b a w' ⟨A65, c65, A67, A68, c68, m8_, m10_, m11_, m12_, m13_, m14_, m15_, ha, Q_HA, Q_GX, Q_C65, Q_X8_, Q_X10_, Q_X11_, Q_X12_, Q_X13_, Q_X14_, Q_X15_⟩ hb_ hon hoff
      refine ⟨_, rfl, fun K hK => ?_⟩
      have e60 : a.tmps[60]? = some (.slice (some adM) am.length ac5) := by rw [ha]; exact putSel_on (e := (3, 60, .slice (some adM) am.length ac5)) 3 rfl rfl (hon 3 (by kernel_rfl)) rfl
      have e61 : a.tmps[61]? = some (.int .i64 (q : Int)) := by rw [ha]; exact putSel_on (e := (4, 61, .int .i64 (q : Int))) 4 rfl rfl (hon 4 (by kernel_rfl)) rfl
      replace ha := Aside0.mk ha
      refine value_ (w1 := w') (v := .pointer (some (adM.add (q * 7)))) (by rfl) rfl ?_ ?_
      · go_simp
        try first | rfl | assumption
      refine hK.out _ _ ⟨A65, c65, A67, A68, c68, m8_, m10_, m11_, m12_, m13_, m14_, m15_, (by rw [ha.out]; exact putSel_upk 5 hb_ rfl rfl rfl), Q_HA, Q_GX, fun h0_ => absurd ((hoff 8 (by kernel_rfl)).symm.trans h0_) (by decide), fun h0_ => absurd ((hoff 8 (by kernel_rfl)).symm.trans h0_) (by decide), fun h0_ => absurd ((hoff 10 (by kernel_rfl)).symm.trans h0_) (by decide), fun h0_ => absurd ((hoff 11 (by kernel_rfl)).symm.trans h0_) (by decide), fun h0_ => absurd ((hoff 12 (by kernel_rfl)).symm.trans h0_) (by decide), fun h0_ => absurd ((hoff 13 (by kernel_rfl)).symm.trans h0_) (by decide), fun h0_ => absurd ((hoff 14 (by kernel_rfl)).symm.trans h0_) (by decide), fun h0_ => absurd ((hoff 15 (by kernel_rfl)).symm.trans h0_) (by decide)⟩
    refine steps_cons ?_ ?_
    · rintro b a w' ⟨A65, c65, A67, A68, c68, m8_, m10_, m11_, m12_, m13_, m14_, m15_, ha, Q_HA, Q_GX, Q_C65, Q_X8_, Q_X10_, Q_X11_, Q_X12_, Q_X13_, Q_X14_, Q_X15_⟩ hb_ hon hoff
      refine ⟨_, rfl, fun K hK => ?_⟩
      have e62 : a.tmps[62]? = some (.pointer (some (adM.add (q * 7)))) := by rw [ha]; exact putSel_on (e := (5, 62, .pointer (some (adM.add (q * 7))))) 5 rfl rfl (hon 5 (by kernel_rfl)) rfl
      replace ha := Aside0.mk ha
      refine value_ (w1 := w') (v := .pointer (some ⟨(adM.add (q * 7)).block, (adM.add (q * 7)).off + 1, none⟩)) (by rfl) rfl ?_ ?_
      · go_simp
        try first | rfl | assumption
      refine hK.out _ _ ⟨A65, c65, A67, A68, c68, m8_, m10_, m11_, m12_, m13_, m14_, m15_, (by rw [ha.out]; exact putSel_upk 6 hb_ rfl rfl rfl), Q_HA, Q_GX, fun h0_ => absurd ((hoff 8 (by kernel_rfl)).symm.trans h0_) (by decide), fun h0_ => absurd ((hoff 8 (by kernel_rfl)).symm.trans h0_) (by decide), fun h0_ => absurd ((hoff 10 (by kernel_rfl)).symm.trans h0_) (by decide), fun h0_ => absurd ((hoff 11 (by kernel_rfl)).symm.trans h0_) (by decide), fun h0_ => absurd ((hoff 12 (by kernel_rfl)).symm.trans h0_) (by decide), fun h0_ => absurd ((hoff 13 (by kernel_rfl)).symm.trans h0_) (by decide), fun h0_ => absurd ((hoff 14 (by kernel_rfl)).symm.trans h0_) (by decide), fun h0_ => absurd ((hoff 15 (by kernel_rfl)).symm.trans h0_) (by decide)⟩
    refine steps_cons ?_ ?_
    · rintro b a w' ⟨A65, c65, A67, A68, c68, m8_, m10_, m11_, m12_, m13_, m14_, m15_, ha, Q_HA, Q_GX, Q_C65, Q_X8_, Q_X10_, Q_X11_, Q_X12_, Q_X13_, Q_X14_, Q_X15_⟩ hb_ hon hoff
      refine ⟨_, rfl, fun K hK => ?_⟩
      have e63 : a.tmps[63]? = some (.pointer (some ⟨(adM.add (q * 7)).block, (adM.add (q * 7)).off + 1, none⟩)) := by rw [ha]; exact putSel_on (e := (6, 63, .pointer (some ⟨(adM.add (q * 7)).block, (adM.add (q * 7)).off + 1, none⟩))) 6 rfl rfl (hon 6 (by kernel_rfl)) rfl
      replace ha := Aside0.mk ha
      have HA := Aside0.mk Q_HA
      have hc1_ := (hHM.out w' (HB.out.trans (HA.out.mono HB.out.size))).2
      refine value_ (w1 := w') (v := .int .i64 m.f1) (by rfl) rfl ?_ ?_
      · go_simp
        (try simp only [i64_w])
        try first | rfl | assumption
      refine hK.out _ _ ⟨A65, c65, A67, A68, c68, m8_, m10_, m11_, m12_, m13_, m14_, m15_, (by rw [ha.out]; exact putSel_upk 7 hb_ rfl rfl rfl), Q_HA, Q_GX, fun h0_ => absurd ((hoff 8 (by kernel_rfl)).symm.trans h0_) (by decide), fun h0_ => absurd ((hoff 8 (by kernel_rfl)).symm.trans h0_) (by decide), fun h0_ => absurd ((hoff 10 (by kernel_rfl)).symm.trans h0_) (by decide), fun h0_ => absurd ((hoff 11 (by kernel_rfl)).symm.trans h0_) (by decide), fun h0_ => absurd ((hoff 12 (by kernel_rfl)).symm.trans h0_) (by decide), fun h0_ => absurd ((hoff 13 (by kernel_rfl)).symm.trans h0_) (by decide), fun h0_ => absurd ((hoff 14 (by kernel_rfl)).symm.trans h0_) (by decide), fun h0_ => absurd ((hoff 15 (by kernel_rfl)).symm.trans h0_) (by decide)⟩
    refine steps_cons ?_ ?_
    · rintro b a w' ⟨A65, c65, A67, A68, c68, m8_, m10_, m11_, m12_, m13_, m14_, m15_, ha, Q_HA, Q_GX, Q_C65, Q_X8_, Q_X10_, Q_X11_, Q_X12_, Q_X13_, Q_X14_, Q_X15_⟩ hb_ hon hoff
      refine ⟨_, rfl, fun K hK => ?_⟩
      have e57 : a.tmps[57]? = some (.slice A1 am.length c1) := by rw [ha]; exact putSel_on (e := (0, 57, .slice A1 am.length c1)) 0 rfl rfl (hon 0 (by kernel_rfl)) rfl
      have e58 : a.tmps[58]? = some (.int .i64 m.f0) := by rw [ha]; exact putSel_on (e := (1, 58, .int .i64 m.f0)) 1 rfl rfl (hon 1 (by kernel_rfl)) rfl
      have e64 : a.tmps[64]? = some (.int .i64 m.f1) := by rw [ha]; exact putSel_on (e := (7, 64, .int .i64 m.f1)) 7 rfl rfl (hon 7 (by kernel_rfl)) rfl
      replace ha := Aside0.mk ha
      have HA := Aside0.mk Q_HA
      have GX := Aside0.mk Q_GX
      refine goes_ Tryd.func18 (by kernel_rfl) rfl #[.slice A1 am.length c1, .int .i64 m.f0, .int .i64 m.f1] (by rfl) rfl rfl (by first | (simp only [List.map_toArray, List.map_cons, List.map_nil, Act.eval, Array.getD_eq_getD_getElem?, Option.getD_some, e57, e58, e64]; done) | (simp only [List.map_toArray, List.map_cons, List.map_nil, Act.eval, Array.getD_eq_getD_getElem?, Option.getD_some, e57, e58, e64]; rfl)) ?_
      with_reducible refine (hN2.out A1 c1 w' (Kd.C_below CV.out HA.out) LW.out).mono ?_
      rintro e wq ⟨A9, c9, rfl, hc9, h9, hb⟩
      refine ⟨_, rfl, ?_⟩
      refine hK.out _ _ ⟨A9, c9, A67, A68, c68, (.slice A9 am.length c9), m10_, m11_, m12_, m13_, m14_, m15_, (by rw [ha.out]; exact putSel_upk 8 hb_ rfl rfl rfl), HA.out.trans (hb.mono HA.out.size), blk_below GX.out hb, fun _ => ⟨h9, hc9⟩, fun _ => rfl, fun h0_ => absurd ((hoff 10 (by kernel_rfl)).symm.trans h0_) (by decide), fun h0_ => absurd ((hoff 11 (by kernel_rfl)).symm.trans h0_) (by decide), fun h0_ => absurd ((hoff 12 (by kernel_rfl)).symm.trans h0_) (by decide), fun h0_ => absurd ((hoff 13 (by kernel_rfl)).symm.trans h0_) (by decide), fun h0_ => absurd ((hoff 14 (by kernel_rfl)).symm.trans h0_) (by decide), fun h0_ => absurd ((hoff 15 (by kernel_rfl)).symm.trans h0_) (by decide)⟩
    refine steps_cons ?_ ?_
    · rintro b a w' ⟨A65, c65, A67, A68, c68, m8_, m10_, m11_, m12_, m13_, m14_, m15_, ha, Q_HA, Q_GX, Q_C65, Q_X8_, Q_X10_, Q_X11_, Q_X12_, Q_X13_, Q_X14_, Q_X15_⟩ hb_ hon hoff
      refine ⟨_, rfl, fun K hK => ?_⟩
      have e3 : a.tmps[3]? = some (.pointer (some ⟨g_X, 0, none⟩)) := by rw [ha]; exact (putSel_off rfl).trans rfl
      replace ha := Aside0.mk ha
      have GX := Aside0.mk Q_GX
      have hc0 := blk_cell GX.out 0; have hc1 := blk_cell GX.out 1; have hc2 := blk_cell GX.out 2; have hc3 := blk_cell GX.out 3; have hc4 := blk_cell GX.out 4; have hc5 := blk_cell GX.out 5
      refine value_ (w1 := w') (v := .agg #[.string a0, .int .i64 a1, .int .i64 a2, .int .i64 a3, .slice aA4 aw.length ac4, .slice (some adM) am.length ac5]) (by rfl) rfl ?_ ?_
      · go_simp
        try first | rfl | assumption
      refine hK.out _ _ ⟨A65, c65, A67, A68, c68, m8_, m10_, m11_, m12_, m13_, m14_, m15_, (by rw [ha.out]; exact putSel_upk 9 hb_ rfl rfl rfl), Q_HA, Q_GX, Q_C65, Q_X8_, fun h0_ => absurd ((hoff 10 (by kernel_rfl)).symm.trans h0_) (by decide), fun h0_ => absurd ((hoff 11 (by kernel_rfl)).symm.trans h0_) (by decide), fun h0_ => absurd ((hoff 12 (by kernel_rfl)).symm.trans h0_) (by decide), fun h0_ => absurd ((hoff 13 (by kernel_rfl)).symm.trans h0_) (by decide), fun h0_ => absurd ((hoff 14 (by kernel_rfl)).symm.trans h0_) (by decide), fun h0_ => absurd ((hoff 15 (by kernel_rfl)).symm.trans h0_) (by decide)⟩
    refine steps_cons ?_ ?_
    · rintro b a w' ⟨A65, c65, A67, A68, c68, m8_, m10_, m11_, m12_, m13_, m14_, m15_, ha, Q_HA, Q_GX, Q_C65, Q_X8_, Q_X10_, Q_X11_, Q_X12_, Q_X13_, Q_X14_, Q_X15_⟩ hb_ hon hoff
      refine ⟨_, rfl, fun K hK => ?_⟩
      have e65 : a.tmps[65]? = some (m8_) := by rw [ha]; exact putSel_on (e := (8, 65, m8_)) 8 rfl rfl (hon 8 (by kernel_rfl)) rfl
      rw [Q_X8_ (hon 8 (by kernel_rfl))] at e65
      have e66 : a.tmps[66]? = some (.agg #[.string a0, .int .i64 a1, .int .i64 a2, .int .i64 a3, .slice aA4 aw.length ac4, .slice (some adM) am.length ac5]) := by rw [ha]; exact putSel_on (e := (9, 66, .agg #[.string a0, .int .i64 a1, .int .i64 a2, .int .i64 a3, .slice aA4 aw.length ac4, .slice (some adM) am.length ac5])) 9 rfl rfl (hon 9 (by kernel_rfl)) rfl
      replace ha := Aside0.mk ha
      have HA := Aside0.mk Q_HA
      have GX := Aside0.mk Q_GX
      have C65 := Aside0.mk (Q_C65 (hon 8 (by kernel_rfl)))
      refine goes_ Tryd.func15 (by kernel_rfl) rfl #[.slice A65 am.length c65, .agg #[.string a0, .int .i64 a1, .int .i64 a2, .int .i64 a3, .slice aA4 aw.length ac4, .slice (some adM) am.length ac5], .bool true] (by rfl) rfl rfl (by first | (simp only [List.map_toArray, List.map_cons, List.map_nil, Act.eval, Array.getD_eq_getD_getElem?, Option.getD_some, e65, e66]; done) | (simp only [List.map_toArray, List.map_cons, List.map_nil, Act.eval, Array.getD_eq_getD_getElem?, Option.getD_some, e65, e66]; rfl)) ?_
      with_reducible refine (hS2.out A65 c65 w' (HB.out.trans (HA.out.mono HB.out.size)) C65.out.1 C65.out.2).mono ?_
      rintro e wq ⟨A9, A10, c9, rfl, h9, hb⟩
      refine ⟨_, rfl, ?_⟩
      refine hK.out _ _ ⟨A65, c65, A9, A10, c9, m8_, (.tuple #[.slice A9 O2.length O2.length, .slice A10 0 c9]), m11_, m12_, m13_, m14_, m15_, (by rw [ha.out]; exact putSel_upk 10 hb_ rfl rfl rfl), HA.out.trans (hb.mono HA.out.size), blk_below GX.out hb, fun _ => ⟨Kd.C_below C65.out.1 hb, C65.out.2⟩, Q_X8_, fun _ => rfl, fun h0_ => absurd ((hoff 11 (by kernel_rfl)).symm.trans h0_) (by decide), fun h0_ => absurd ((hoff 12 (by kernel_rfl)).symm.trans h0_) (by decide), fun h0_ => absurd ((hoff 13 (by kernel_rfl)).symm.trans h0_) (by decide), fun h0_ => absurd ((hoff 14 (by kernel_rfl)).symm.trans h0_) (by decide), fun h0_ => absurd ((hoff 15 (by kernel_rfl)).symm.trans h0_) (by decide)⟩
    refine steps_cons ?_ ?_
    · rintro b a w' ⟨A65, c65, A67, A68, c68, m8_, m10_, m11_, m12_, m13_, m14_, m15_, ha, Q_HA, Q_GX, Q_C65, Q_X8_, Q_X10_, Q_X11_, Q_X12_, Q_X13_, Q_X14_, Q_X15_⟩ hb_ hon hoff
      refine ⟨_, rfl, fun K hK => ?_⟩
      have e67 : a.tmps[67]? = some (m10_) := by rw [ha]; exact putSel_on (e := (10, 67, m10_)) 10 rfl rfl (hon 10 (by kernel_rfl)) rfl
      rw [Q_X10_ (hon 10 (by kernel_rfl))] at e67
      replace ha := Aside0.mk ha
      refine value_ (w1 := w') (v := .tuple #[.slice A67 O2.length O2.length, .slice A68 0 c68]) (by rfl) rfl ?_ ?_
      · go_simp
        try first | rfl | assumption
      refine hK.out _ _ ⟨A65, c65, A67, A68, c68, m8_, m10_, (.tuple #[.slice A67 O2.length O2.length, .slice A68 0 c68]), m12_, m13_, m14_, m15_, (by rw [ha.out]; exact putSel_upk 11 hb_ rfl rfl rfl), Q_HA, Q_GX, Q_C65, Q_X8_, Q_X10_, fun _ => rfl, fun h0_ => absurd ((hoff 12 (by kernel_rfl)).symm.trans h0_) (by decide), fun h0_ => absurd ((hoff 13 (by kernel_rfl)).symm.trans h0_) (by decide), fun h0_ => absurd ((hoff 14 (by kernel_rfl)).symm.trans h0_) (by decide), fun h0_ => absurd ((hoff 15 (by kernel_rfl)).symm.trans h0_) (by decide)⟩
    refine steps_cons ?_ ?_
    · rintro b a w' ⟨A65, c65, A67, A68, c68, m8_, m10_, m11_, m12_, m13_, m14_, m15_, ha, Q_HA, Q_GX, Q_C65, Q_X8_, Q_X10_, Q_X11_, Q_X12_, Q_X13_, Q_X14_, Q_X15_⟩ hb_ hon hoff
      refine ⟨_, rfl, fun K hK => ?_⟩
      have e56 : a.tmps[56]? = some (m11_) := by rw [ha]; exact putSel_on (e := (11, 56, m11_)) 11 rfl rfl (hon 11 (by kernel_rfl)) rfl
      rw [Q_X11_ (hon 11 (by kernel_rfl))] at e56
      replace ha := Aside0.mk ha
      refine value_ (w1 := w') (v := .slice A67 O2.length O2.length) (by rfl) rfl ?_ ?_
      · go_simp
        try first | rfl | assumption
      refine hK.out _ _ ⟨A65, c65, A67, A68, c68, m8_, m10_, m11_, (.slice A67 O2.length O2.length), m13_, m14_, m15_, (by rw [ha.out]; exact putSel_upk 12 hb_ rfl rfl rfl), Q_HA, Q_GX, Q_C65, Q_X8_, Q_X10_, Q_X11_, fun _ => rfl, Q_X13_, fun h0_ => absurd ((hoff 14 (by kernel_rfl)).symm.trans h0_) (by decide), fun h0_ => absurd ((hoff 15 (by kernel_rfl)).symm.trans h0_) (by decide)⟩
    refine steps_cons ?_ ?_
    · rintro b a w' ⟨A65, c65, A67, A68, c68, m8_, m10_, m11_, m12_, m13_, m14_, m15_, ha, Q_HA, Q_GX, Q_C65, Q_X8_, Q_X10_, Q_X11_, Q_X12_, Q_X13_, Q_X14_, Q_X15_⟩ hb_ hon hoff
      refine ⟨_, rfl, fun K hK => ?_⟩
      have e56 : a.tmps[56]? = some (m11_) := by rw [ha]; exact putSel_on (e := (11, 56, m11_)) 11 rfl rfl (hon 11 (by kernel_rfl)) rfl
      rw [Q_X11_ (hon 11 (by kernel_rfl))] at e56
      replace ha := Aside0.mk ha
      refine value_ (w1 := w') (v := .slice A68 0 c68) (by rfl) rfl ?_ ?_
      · go_simp
        try first | rfl | assumption
      refine hK.out _ _ ⟨A65, c65, A67, A68, c68, m8_, m10_, m11_, m12_, (.slice A68 0 c68), m14_, m15_, (by rw [ha.out]; exact putSel_upk 13 hb_ rfl rfl rfl), Q_HA, Q_GX, Q_C65, Q_X8_, Q_X10_, Q_X11_, Q_X12_, fun _ => rfl, Q_X14_, fun h0_ => absurd ((hoff 15 (by kernel_rfl)).symm.trans h0_) (by decide)⟩
    refine steps_cons ?_ ?_
    · rintro b a w' ⟨A65, c65, A67, A68, c68, m8_, m10_, m11_, m12_, m13_, m14_, m15_, ha, Q_HA, Q_GX, Q_C65, Q_X8_, Q_X10_, Q_X11_, Q_X12_, Q_X13_, Q_X14_, Q_X15_⟩ hb_ hon hoff
      refine ⟨_, rfl, fun K hK => ?_⟩
      have e68 : a.tmps[68]? = some (m12_) := by rw [ha]; exact putSel_on (e := (12, 68, m12_)) 12 rfl rfl (hon 12 (by kernel_rfl)) rfl
      rw [Q_X12_ (hon 12 (by kernel_rfl))] at e68
      replace ha := Aside0.mk ha
      refine value_ (w1 := w') (v := .slice A67 O2.length O2.length) (by rfl) rfl ?_ ?_
      · go_simp
        try first | rfl | assumption
      refine hK.out _ _ ⟨A65, c65, A67, A68, c68, m8_, m10_, m11_, m12_, m13_, (.slice A67 O2.length O2.length), m15_, (by rw [ha.out]; exact putSel_upk 14 hb_ rfl rfl rfl), Q_HA, Q_GX, Q_C65, Q_X8_, Q_X10_, Q_X11_, Q_X12_, Q_X13_, fun _ => rfl, fun h0_ => absurd ((hoff 15 (by kernel_rfl)).symm.trans h0_) (by decide)⟩
    refine steps_cons ?_ ?_
    · rintro b a w' ⟨A65, c65, A67, A68, c68, m8_, m10_, m11_, m12_, m13_, m14_, m15_, ha, Q_HA, Q_GX, Q_C65, Q_X8_, Q_X10_, Q_X11_, Q_X12_, Q_X13_, Q_X14_, Q_X15_⟩ hb_ hon hoff
      refine ⟨_, rfl, fun K hK => ?_⟩
      have e69 : a.tmps[69]? = some (m13_) := by rw [ha]; exact putSel_on (e := (13, 69, m13_)) 13 rfl rfl (hon 13 (by kernel_rfl)) rfl
      rw [Q_X13_ (hon 13 (by kernel_rfl))] at e69
      replace ha := Aside0.mk ha
      refine value_ (w1 := w') (v := .slice A68 0 c68) (by rfl) rfl ?_ ?_
      · go_simp
        try first | rfl | assumption
      refine hK.out _ _ ⟨A65, c65, A67, A68, c68, m8_, m10_, m11_, m12_, m13_, m14_, (.slice A68 0 c68), (by rw [ha.out]; exact putSel_upk 15 hb_ rfl rfl rfl), Q_HA, Q_GX, Q_C65, Q_X8_, Q_X10_, Q_X11_, Q_X12_, Q_X13_, Q_X14_, fun _ => rfl⟩
    exact steps_nil
  rintro b a wz hall ⟨A65, c65, A67, A68, c68, m8_, m10_, m11_, m12_, m13_, m14_, m15_, ha, Q_HA, Q_GX, Q_C65, Q_X8_, Q_X10_, Q_X11_, Q_X12_, Q_X13_, Q_X14_, Q_X15_⟩
  clear GX HA
  have hb0_ := hall 0 (by kernel_rfl)
  have hb1_ := hall 1 (by kernel_rfl)
  have hb2_ := hall 2 (by kernel_rfl)
  have hb3_ := hall 3 (by kernel_rfl)
  have hb4_ := hall 4 (by kernel_rfl)
  have hb5_ := hall 5 (by kernel_rfl)
  have hb6_ := hall 6 (by kernel_rfl)
  have hb7_ := hall 7 (by kernel_rfl)
  have hb8_ := hall 8 (by kernel_rfl)
  have hb9_ := hall 9 (by kernel_rfl)
  have hb10_ := hall 10 (by kernel_rfl)
  have hb11_ := hall 11 (by kernel_rfl)
  have hb12_ := hall 12 (by kernel_rfl)
  have hb13_ := hall 13 (by kernel_rfl)
  have hb14_ := hall 14 (by kernel_rfl)
  have hb15_ := hall 15 (by kernel_rfl)
  subst ha
  obtain rfl := Q_X8_ hb8_
  obtain rfl := Q_X10_ hb10_
  obtain rfl := Q_X11_ hb11_
  obtain rfl := Q_X12_ hb12_
  obtain rfl := Q_X13_ hb13_
  obtain rfl := Q_X14_ hb14_
  obtain rfl := Q_X15_ hb15_
  simp only [putSel, hb0_, hb1_, hb2_, hb3_, hb4_, hb5_, hb6_, hb7_, hb8_, hb9_, hb10_, hb11_, hb12_, hb13_, hb14_, hb15_, if_true, Act.put, List.setIfInBounds_toArray, List.set_cons_zero, List.set_cons_succ]
  have HA := Aside0.mk Q_HA
  clear Q_HA
  have GX := Aside0.mk Q_GX
  clear Q_GX
  have C65 := Aside0.mk (Q_C65 hb8_)
  clear Q_C65
  clear hall hb0_ hb1_ hb2_ hb3_ hb4_ hb5_ hb6_ hb7_ hb8_ hb9_ hb10_ hb11_ hb12_ hb13_ hb14_ hb15_
  have hz5 := blk_cell GX.out 5
  obtain ⟨hm0, hm1⟩ := hHM.out wz (HB.out.trans (HA.out.mono HB.out.size))
  have hAw2 := Aside0.mk (hAw.out wz (HB.out.trans (HA.out.mono HB.out.size)))
  rcases hwd with ⟨h, rfl⟩ | ⟨h, rfl⟩
  · have he : (md == m.f1) = true := beq_iff_eq.2 h
    clear h
    go_wp2_with (go_at_call 14; refine hAw2.out.mono ?_; rintro e w4 ⟨rfl, hb⟩; have HB4 := Aside0.mk hb; clear hb)
    go_ret
    exact ⟨rfl, HB.out.trans ((HA.out.trans (HB4.out.mono HA.out.size)).mono HB.out.size)⟩
  · have he : (md == m.f1) = false := beq_eq_false_iff_ne.2 h
    clear h
    go_wp2_with (go_at_call 14; refine hAw2.out.mono ?_; rintro e w4 ⟨rfl, hb⟩; have HB4 := Aside0.mk hb; clear hb)
    go_ret
    exact ⟨rfl, HB.out.trans ((HA.out.trans (HB4.out.mono HA.out.size)).mono HB.out.size)⟩
theorem toldNotes_open (x : BoxT) (cs : Array Value) (kk md : Int) (w : World) (ht : Tab w) (hK : boxD.K w x cs.toList) (hok : okB x) :
    Calls Tryd.prog 6 #[.agg cs, .int .i64 kk, .int .i64 md] w fun e w' => e = .returned (.bool true) ∧ Below w.heap.size w w' := by
  obtain ⟨A4, c4, A5, c5, rfl, C4, h4, C5, h5⟩ := box_open hK
  exact toldNotes_calls x.1 x.2.1 x.2.2.1 x.2.2.2.1 A4 c4 _ A5 c5 _ kk md w ht (BoxIn.of hok C4 h4 C5 h5)
end Go.Proofs.YtplfpbfmnogckaaDoor.TdO
