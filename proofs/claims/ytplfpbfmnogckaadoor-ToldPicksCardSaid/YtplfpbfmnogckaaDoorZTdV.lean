-- Printed by prune.py: the used part of a text.
import Derived.Test.YtplfpbfmnogckaaDoorZTdQ
import Derived.Test.YtplfpbfmnogckaaDoorZTdO
namespace Go.Proofs.YtplfpbfmnogckaaDoor.TdV
open Go.RowKit Go.Proofs.YtplfpbfmnogckaaDoorW.PrintWords Go.Proofs.YtplfpbfmnogckaaDoorW.PrintLast Go.Proofs.YtplfpbfmnogckaaDoorW.PrintMore Go.Proofs.YtplfpbfmnogckaaDoor.TdG Go.Proofs.YtplfpbfmnogckaaDoor.TdM Go.Proofs.YtplfpbfmnogckaaDoor.TdP Go.Proofs.YtplfpbfmnogckaaDoor.TdD Go.Proofs.YtplfpbfmnogckaaDoor.ItT Go.Proofs.YtplfpbfmnogckaaDoor.ItO Go.Proofs.YtplfpbfmnogckaaDoor.TdF Go.Proofs.YtplfpbfmnogckaaDoor.TdS Go.Proofs.YtplfpbfmnogckaaDoor.TdA Go.Proofs.YtplfpbfmnogckaaDoor.TdW Go.Proofs.YtplfpbfmnogckaaDoor.TdR Go.Proofs.YtplfpbfmnogckaaDoor.TdN Go.Proofs.YtplfpbfmnogckaaDoor.TdO Go.Proofs.YtplfpbfmnogckaaDoor.TdK Go.Proofs.YtplfpbfmnogckaaDoor.TdQ
set_option linter.unusedVariables false
set_option linter.unusedSimpArgs false
def dSp : Kd (Int × Int) := Kd.pair (Kd.int .i64) (Kd.int .i64)
theorem reps_sp (w : World) (base : Nat) (f t : Int) : Reps (dSp.M w base fun _ => True) dSp.sz [(f, t)] [.int .i64 f, .int .i64 t] := by
  refine ⟨rfl, fun j p h => ?_⟩
  cases j with
  | zero =>
    have e : (f, t) = p := by simpa using h
    subst e
    exact ⟨[.int .i64 f], [.int .i64 t], rfl, rfl, rfl⟩
  | succ j => simp at h
theorem onesp_of {w : World} {A : Option Addr} {n : Nat} {f t : Int} (h : dSp.C w A n [(f, t)]) : OneSp w A f t := by
  have hn : n = 1 := h.1.symm
  obtain ⟨ad, c, e, _, hK, hc0⟩ := Kd.C_get h ((0 : Int), (0 : Int)) 0 (by decide) (by omega)
  obtain ⟨c0, c1, rfl, rfl, rfl⟩ := hK
  refine ⟨ad, e, hc0 0 _ rfl, ?_⟩
  have := hc0 1 _ rfl
  simpa [Addr.add] using this
theorem below_new {w w1 : World} (h : w.grownBy w1 none) : Below w.heap.size w w1 := ⟨h.os, h.tape, h.output, h.size, fun k hk => h.block k hk (by simp)⟩
theorem pick_all (l : List S37) (hb : Nat → Bool) (h : ∀ k, k < l.length → hb k = true) : ∀ n, n ≤ l.length → pickL l hb n = (l.take n).map (·.f0)
  | 0, _ => by simp [pickL]
  | n + 1, hn => by
    have hlt : n < l.length := by omega
    rw [pickL_at l hb n hlt, pick_all l hb h n (by omega), h n hlt, if_pos rfl, List.take_succ_eq_append_getElem hlt, List.map_append]
    rfl
theorem pick_one (l : List S37) (hb : Nat → Bool) (q : Nat) (hq : q < l.length) (h : ∀ k, k < l.length → hb k = decide (k = q)) : ∀ n, n ≤ l.length → pickL l hb n = if q < n then [l[q].f0] else []
  | 0, _ => by simp [pickL]
  | n + 1, hn => by
    have hlt : n < l.length := by omega
    rw [pickL_at l hb n hlt, pick_one l hb q hq h n (by omega), h n hlt]
    by_cases e : n = q
    · subst e
      rw [if_neg (by omega), decide_eq_true rfl, if_pos rfl, if_pos (by omega)]
      rfl
    · rw [decide_eq_false e, if_neg (show ¬ (false = true) by decide), List.append_nil]
      by_cases c : q < n
      · rw [if_pos c, if_pos (by omega)]
      · rw [if_neg c, if_neg (by omega)]
theorem findS_at : ∀ (l : List S34) (i j : Nat) (hj : j < l.length), l.Pairwise (fun a b => a.f0 < b.f0) → findS l[j].f0 i (l.map seenM) = ((i + j : Nat) : Int)
  | m :: r, i, 0, _, _ => by rw [List.map_cons, findS]; simp [seenM]
  | m :: r, i, j + 1, hj, hp => by
    have hj2 : j < r.length := by simpa using hj
    have h1 := (List.pairwise_cons.1 hp).1 r[j] (List.getElem_mem hj2)
    have e : (m :: r)[j + 1] = r[j] := rfl
    rw [e, List.map_cons, findS, if_neg (show ¬ (seenM m).f0 = r[j].f0 by show ¬ m.f0 = r[j].f0; omega), findS_at r (i + 1) j hj2 (List.pairwise_cons.1 hp).2]
    congr 1
    omega
theorem pick_own (uid : Bool) (a0 : ByteArray) (a1 a2 a3 : Int) (aA4 : Option Addr) (ac4 : Nat) (aw : List ByteArray) (aA5 : Option Addr) (ac5 : Nat) (am : List S34) (A : Option Addr) (c : Nat) (AS : Option Addr) (cS : Nat) (f t : Int) (hb : Nat → Bool) (L : List Int) (w w0 : World) (hW : Below w0.heap.size w0 w) (hB : BoxIn w0 a0 aA4 ac4 aw aA5 ac5 am) (hn5 : am.length ≤ 100) (hC : Kd.C k37 w A am.length (am.map seenM)) (hc : am.length ≤ c) (hS : OneSp w AS f t)
    (hH : ∀ (k : Nat) (hk : k < am.length), HasP f t (if uid = true then am[k].f0 else ((k : Int) + 1)) (if uid = true then lastU (am.map seenM) else (am.length : Int)) (hb k)) (hP : pickL (am.map seenM) hb am.length = L) :
    Calls Tryd.prog 19 #[.slice A am.length c, .agg #[.string a0, .int .i64 a1, .int .i64 a2, .int .i64 a3, .slice aA4 aw.length ac4, .slice aA5 am.length ac5], .slice AS 1 cS, .bool uid] w fun e w' => ∃ A1 c1, e = .returned (.slice A1 L.length c1) ∧ Kd.C (Kd.int .i64) w' A1 L.length L ∧ Below w.heap.size w w' := by
  have hB' : BoxIn w a0 aA4 ac4 aw aA5 ac5 am := ⟨Kd.C_below hB.C4 hW, hB.c4, Kd.C_below hB.C5 hW, hB.c5, hB.h0, hB.hs, hB.hw, hB.hi, hB.l4, hB.l5⟩
  have hall : ∀ x ∈ am.map seenM, hasB am x = true := own_has _ (seen_uid am)
  obtain ⟨n, hn⟩ : ∃ n, n = am.length := ⟨_, rfl⟩
  have hlm : (am.map seenM).length = n := by rw [List.length_map, hn]
  have hC2 : Kd.C k37 w A (am.map seenM).length (am.map seenM) := by rw [List.length_map]; exact hC
  have key : ∃ (P : Prop), P := ⟨True, trivial⟩
  cases uid with
  | true =>
    have h := pick_true a0 a1 a2 a3 aA4 ac4 aw aA5 ac5 am A c (am.map seenM) AS cS f t hb w hB' hn5 hC2 (by rw [List.length_map]; exact hc) (by rw [List.length_map]; omega) hS hall (fun k hk => by
      have hk2 : k < am.length := by rwa [List.length_map] at hk
      have := hH k hk2
      rw [if_pos rfl, if_pos rfl] at this
      simpa [seenM] using this)
    rw [List.length_map] at h
    refine h.mono ?_
    rintro e w' ⟨A1, n1, c1, rfl, e1, h1, h2, hb2⟩
    rw [hP] at e1 h2
    subst e1
    exact ⟨A1, c1, rfl, h2, hb2⟩
  | false =>
    have h := pick_false a0 a1 a2 a3 aA4 ac4 aw aA5 ac5 am A c (am.map seenM) AS cS f t hb w hB' hn5 hC2 (by rw [List.length_map]; exact hc) (by rw [List.length_map]; omega) hS hall (fun k hk => by
      have hk2 : k < am.length := by rwa [List.length_map] at hk
      have := hH k hk2
      rw [if_neg (by decide), if_neg (by decide)] at this
      rw [List.length_map]
      exact this)
    rw [List.length_map] at h
    refine h.mono ?_
    rintro e w' ⟨A1, n1, c1, rfl, e1, h1, h2, hb2⟩
    rw [hP] at e1 h2
    subst e1
    exact ⟨A1, c1, rfl, h2, hb2⟩
theorem int0 {w : World} {A : Option Addr} {x : Int} (h : Kd.C (Kd.int .i64) w A 1 [x]) : ∃ ad, A = some ad ∧ w.cell? ad = some (.int .i64 x) := by
  obtain ⟨ad, e, hx⟩ := Kd.at_int h 0 (by decide) (by decide)
  exact ⟨ad, e, hx⟩
def t_mailsacklaw23_ToldPicks.T11 : Bool × List (List Nat × List Nat) := (true, [([], []), ([], []), ([0, 1], [0, 1]), ([2], [2]), ([], []), ([4], [4]), ([3, 5], [3, 5]), ([6], [6]), ([7], [7]), ([7], [7]), ([8, 9, 7], [7, 8, 9]), ([10, 7], [7, 10]), ([7], [7]), ([12, 7], [7, 12]), ([11, 13, 7], [7, 11, 13]), ([7, 14], [7, 14]), ([15, 7], [15]), ([16], [16]), ([16], [16]), ([18, 16], [16, 18]), ([17, 19, 16, 16], [16, 17, 19]), ([16], [16]), ([21, 16], [16, 21]), ([20, 22, 16], [16, 20, 22]), ([16, 23], [16, 23])])
def t_mailsacklaw23_ToldPicks.B11 : List Nat := [0, 0, 3, 7, 0, 16, 63, 127, 255, 255, 1023, 2047, 255, 4351, 16383, 32767, 65535, 131071, 131071, 393215, 1048575, 131071, 2228223, 8388607, 16777215]
theorem t_mailsacklaw23_ToldPicks.tab11 : rtab .any (opsOf Tryd.f7 11) = t_mailsacklaw23_ToldPicks.T11 := by kernel_rfl
theorem t_mailsacklaw23_ToldPicks.bits11 : waitsOk t_mailsacklaw23_ToldPicks.T11.2 t_mailsacklaw23_ToldPicks.B11 = true := by kernel_rfl
def t_mailsacklaw23_ToldPicks.T18 : Bool × List (List Nat × List Nat) := (true, [([], []), ([], []), ([], []), ([], []), ([2, 3], [2, 3]), ([4], [4]), ([0, 1, 5], [0, 1, 5]), ([], []), ([], []), ([], []), ([9], [9]), ([], []), ([11], [11]), ([10, 12], [10, 12]), ([13], [13]), ([7, 8, 14, 6], [7, 8, 14]), ([6, 15, 0, 1, 2, 3, 4, 5, 6], [6]), ([15, 16, 0, 1, 2, 3, 4, 5, 6, 7, 8, 9, 10, 11, 12, 13, 14, 15, 16], [15])])
def t_mailsacklaw23_ToldPicks.B18 : List Nat := [0, 0, 0, 0, 12, 28, 63, 0, 0, 0, 512, 0, 2048, 7680, 15872, 32767, 65535, 131071]
theorem t_mailsacklaw23_ToldPicks.tab18 : rtab .any (opsOf Tryd.f7 18) = t_mailsacklaw23_ToldPicks.T18 := by kernel_rfl
theorem t_mailsacklaw23_ToldPicks.bits18 : waitsOk t_mailsacklaw23_ToldPicks.T18.2 t_mailsacklaw23_ToldPicks.B18 = true := by kernel_rfl
set_option maxRecDepth 100000 in
set_option maxHeartbeats 8000000 in
theorem toldPicks_calls (a0 : ByteArray) (a1 a2 a3 : Int) (aA4 : Option Addr) (ac4 : Nat) (aw : List ByteArray) (aA5 : Option Addr) (ac5 : Nat) (am : List S34) (kk : Int) (w : World) (ht : Tab w) (hB : BoxIn w a0 aA4 ac4 aw aA5 ac5 am) :
    Calls Tryd.prog 7 #[.agg #[.string a0, .int .i64 a1, .int .i64 a2, .int .i64 a3, .slice aA4 aw.length ac4, .slice aA5 am.length ac5], .int .i64 kk] w fun e w' => e = .returned (.bool true) ∧ Below w.heap.size w w' := by
  have hu25 := Tryd.underlying25
  have hu34 := Tryd.underlying34
  have hu49 := Tryd.underlying49
  have hAw := Aside0.mk (fun W (hW : Below w.heap.size w W) => awake_calls W (ht.below hW))
  have hHv := Aside0.mk (fun W hW => hB.heavy a1 a2 a3 W hW)
  rcases heavy_01 (bulk a0 aw am) aw.length am.length with hh | hh
  case inr =>
    rw [hh] at hHv
    clear hB ht hh
    go_enter Tryd.func7, Tryd.ntmps7
    have M0_0 := Aside0.mk (Below.refl w.heap.size w)
    go_wp2_with (first
      | ((with_reducible refine gate_dst (N := 2) rfl ?_); refine box_event ?hgX2 (N := 2) ?hdX2 (cs := #[.string a0, .int .i64 a1, .int .i64 a2, .int .i64 a3, .slice aA4 aw.length ac4, .slice aA5 am.length ac5]) (t := 25) ?hrX2 ?_; (case hdX2 => rfl); (case hgX2 => rfl); (case hrX2 => first | (go_simp; done) | (go_simp; rfl)); intro g_X hg_ w_1 hbx_ hb_; have L0_X := Aside0.mk (show w.heap.size ≤ g_X by have := M0_0.out.size; omega); have M0_1 := Aside0.mk (M0_0.out.trans (hb_.mono M0_0.out.size)); have X_1 := Aside0.mk hbx_; clear hg_ hbx_ hb_ M0_0; have zX0 := blk_cell X_1.out 0; have zX1 := blk_cell X_1.out 1; have zX2 := blk_cell X_1.out 2; have zX3 := blk_cell X_1.out 3; have zX4 := blk_cell X_1.out 4; have zX5 := blk_cell X_1.out 5; skip)
      | (go_at_call 12; refine (hHv.out w_1 M0_1.out).mono ?_; rintro e_ w_2 ⟨rfl, hb⟩; have M0_2 := Aside0.mk (M0_1.out.trans (hb.mono M0_1.out.size)); have X_2 := Aside0.mk (blk_below X_1.out hb); clear hb M0_1 X_1 zX0 zX1 zX2 zX3 zX4 zX5; have zX0 := blk_cell X_2.out 0; have zX1 := blk_cell X_2.out 1; have zX2 := blk_cell X_2.out 2; have zX3 := blk_cell X_2.out 3; have zX4 := blk_cell X_2.out 4; have zX5 := blk_cell X_2.out 5; skip)
      | (go_at_call 14; refine (hAw.out w_2 M0_2.out).mono ?_; rintro e_ w_3 ⟨rfl, hb⟩; have M0_3 := Aside0.mk (M0_2.out.trans (hb.mono M0_2.out.size)); have X_3 := Aside0.mk (blk_below X_2.out hb); clear hb M0_2 X_2 zX0 zX1 zX2 zX3 zX4 zX5; have zX0 := blk_cell X_3.out 0; have zX1 := blk_cell X_3.out 1; have zX2 := blk_cell X_3.out 2; have zX3 := blk_cell X_3.out 3; have zX4 := blk_cell X_3.out 4; have zX5 := blk_cell X_3.out 5; skip))
    go_ret
    exact ⟨rfl, M0_3.out⟩
  rw [hh] at hHv
  have hL := hB.light hh
  have hMy := Aside0.mk (fun W hW => hB.may hL a1 a2 a3 W hW)
  clear hh
  by_cases hP : boxP a0 a1 a2 a3 aw am = 0
  case neg =>
    have HPN : ((boxP a0 a1 a2 a3 aw am) != 0) = true := bne_iff_ne.mpr hP
    generalize boxP a0 a1 a2 a3 aw am = p at *
    clear hP hB hL ht
    go_enter Tryd.func7, Tryd.ntmps7
    have M0_0 := Aside0.mk (Below.refl w.heap.size w)
    go_wp2_with (first
      | ((with_reducible refine gate_dst (N := 2) rfl ?_); refine box_event ?hgX2 (N := 2) ?hdX2 (cs := #[.string a0, .int .i64 a1, .int .i64 a2, .int .i64 a3, .slice aA4 aw.length ac4, .slice aA5 am.length ac5]) (t := 25) ?hrX2 ?_; (case hdX2 => rfl); (case hgX2 => rfl); (case hrX2 => first | (go_simp; done) | (go_simp; rfl)); intro g_X hg_ w_1 hbx_ hb_; have L0_X := Aside0.mk (show w.heap.size ≤ g_X by have := M0_0.out.size; omega); have M0_1 := Aside0.mk (M0_0.out.trans (hb_.mono M0_0.out.size)); have X_1 := Aside0.mk hbx_; clear hg_ hbx_ hb_ M0_0; have zX0 := blk_cell X_1.out 0; have zX1 := blk_cell X_1.out 1; have zX2 := blk_cell X_1.out 2; have zX3 := blk_cell X_1.out 3; have zX4 := blk_cell X_1.out 4; have zX5 := blk_cell X_1.out 5; skip)
      | (go_at_call 12; refine (hHv.out w_1 M0_1.out).mono ?_; rintro e_ w_2 ⟨rfl, hb⟩; have M0_2 := Aside0.mk (M0_1.out.trans (hb.mono M0_1.out.size)); have X_2 := Aside0.mk (blk_below X_1.out hb); clear hb M0_1 X_1 zX0 zX1 zX2 zX3 zX4 zX5; have zX0 := blk_cell X_2.out 0; have zX1 := blk_cell X_2.out 1; have zX2 := blk_cell X_2.out 2; have zX3 := blk_cell X_2.out 3; have zX4 := blk_cell X_2.out 4; have zX5 := blk_cell X_2.out 5; skip)
      | (go_at_call 13; refine (hMy.out w_2 M0_2.out).mono ?_; rintro e_ w_3 ⟨rfl, hb⟩; have M0_3 := Aside0.mk (M0_2.out.trans (hb.mono M0_2.out.size)); have X_3 := Aside0.mk (blk_below X_2.out hb); clear hb M0_2 X_2 zX0 zX1 zX2 zX3 zX4 zX5; have zX0 := blk_cell X_3.out 0; have zX1 := blk_cell X_3.out 1; have zX2 := blk_cell X_3.out 2; have zX3 := blk_cell X_3.out 3; have zX4 := blk_cell X_3.out 4; have zX5 := blk_cell X_3.out 5; skip)
      | (go_at_call 14; refine (hAw.out w_3 M0_3.out).mono ?_; rintro e_ w_4 ⟨rfl, hb⟩; have M0_4 := Aside0.mk (M0_3.out.trans (hb.mono M0_3.out.size)); have X_4 := Aside0.mk (blk_below X_3.out hb); clear hb M0_3 X_3 zX0 zX1 zX2 zX3 zX4 zX5; have zX0 := blk_cell X_4.out 0; have zX1 := blk_cell X_4.out 1; have zX2 := blk_cell X_4.out 2; have zX3 := blk_cell X_4.out 3; have zX4 := blk_cell X_4.out 4; have zX5 := blk_cell X_4.out 5; skip))
    go_ret
    exact ⟨rfl, M0_4.out⟩
  rw [hP] at hMy
  obtain ⟨hmp1, hp⟩ := (msgsOk_iff _ _ _ _ _).1 (may_parts hP).2.2.2.2
  have hhead := (may_parts hP).1
  have h60 := (may_parts hP).2.2.1
  have ha2 : a2 ≤ 1000000 := by
    unfold headOk at hhead
    rw [Bool.and_eq_true, decide_eq_true_iff] at hhead
    omega
  have hrng : ∀ m ∈ am, 1 ≤ m.f0 ∧ m.f0 ≤ 1000000 := fun m hm => by have := hmp1 m hm; omega
  have hlu : ∀ m ∈ am, m.f0 ≤ lastU (am.map seenM) ∧ lastU (am.map seenM) ≤ 1000000 := fun m hm => by
    refine ⟨lastU_of hp _ (seen_uid am) m hm, ?_⟩
    unfold lastU
    cases hg : (am.map seenM).getLast? with
    | none => show (0 : Int) ≤ _; omega
    | some x =>
      have := List.mem_of_getLast? hg
      obtain ⟨z, hz, rfl⟩ := List.mem_map.1 this
      exact (hrng z hz).2
  have hNe := Aside0.mk (fun W (hW : Below w.heap.size w W) => new_calls a0 a1 a2 a3 aA4 ac4 aw aA5 ac5 am W (Kd.C_below hB.C4 hW) hB.c4 (Kd.C_below hB.C5 hW) hB.c5 (by omega))
  have hlm : (am.map seenM).length = am.length := List.length_map _
  have hPa := Aside0.mk (fun A c AS cS W (hW : Below w.heap.size w W) (h1 : Kd.C k37 W A am.length (am.map seenM)) (h2 : am.length ≤ c) (h3 : OneSp W AS 1 0) => pick_own true a0 a1 a2 a3 aA4 ac4 aw aA5 ac5 am A c AS cS 1 0 (fun _ => true) (am.map (·.f0)) W w hW hB hL.n5 h1 h2 h3 (fun k hk => .inl ⟨rfl, rfl, by
    have := hrng _ (List.getElem_mem hk); have := hlu _ (List.getElem_mem hk)
    rw [if_pos rfl, if_pos rfl]
    exact ⟨by omega, by omega, by omega, by omega, rfl⟩⟩) (by rw [pick_all _ _ (fun _ _ => rfl) _ (by rw [hlm]; exact Nat.le_refl _), ← hlm, List.take_length, List.map_map]; rfl))
  have hPb := Aside0.mk (fun A c AS cS W (hW : Below w.heap.size w W) (h1 : Kd.C k37 W A am.length (am.map seenM)) (h2 : am.length ≤ c) (h3 : OneSp W AS 1 0) => pick_own false a0 a1 a2 a3 aA4 ac4 aw aA5 ac5 am A c AS cS 1 0 (fun _ => true) (am.map (·.f0)) W w hW hB hL.n5 h1 h2 h3 (fun k hk => .inl ⟨rfl, rfl, by
    rw [if_neg (by decide), if_neg (by decide)]
    exact ⟨by omega, by omega, by omega, by omega, rfl⟩⟩) (by rw [pick_all _ _ (fun _ _ => rfl) _ (by rw [hlm]; exact Nat.le_refl _), ← hlm, List.take_length, List.map_map]; rfl))
  rw [List.length_map] at hPa hPb
  have hPl := Aside0.mk (fun k (hk : k < am.length) (m : S34) (hm : am[k] = m) (A : Option Addr) (c : Nat) (W : World) (h : Kd.C k37 W A am.length (am.map seenM)) => (show Calls Tryd.prog 20 #[.slice A am.length c, .int .i64 m.f0] W (fun e w' => e = .returned (.int .i64 ((k : Int) + 1)) ∧ Below W.heap.size W w') from by
    subst hm
    have h9 := place_calls A am.length c (am.map seenM) am[k].f0 W hlm.symm h (by omega)
    rw [findS_at am 0 k hk hp, show (1 + ((0 + k : Nat) : Int)) = (k : Int) + 1 by omega] at h9
    exact h9))
  have hq0 : ∀ q : Nat, q < am.length → ∃ P1 P2 : Prop, P1 ∧ P2 := fun _ _ => ⟨True, True, trivial, trivial⟩
  have hUx := Aside0.mk (fun (q : Nat) (hq : q < am.length) A c AS cS W (hW : Below w.heap.size w W) (h1 : Kd.C k37 W A am.length (am.map seenM)) (h2 : am.length ≤ c) (h3 : OneSp W AS am[q].f0 am[q].f0) => pick_own true a0 a1 a2 a3 aA4 ac4 aw aA5 ac5 am A c AS cS am[q].f0 am[q].f0 (fun k => decide (k = q)) [am[q].f0] W w hW hB hL.n5 h1 h2 h3 (fun k hk => .inr ⟨(hrng _ (List.getElem_mem hq)).1, (hrng _ (List.getElem_mem hq)).2, rfl, by rw [if_pos rfl]; exact (hrng _ (List.getElem_mem hk)).1, by
    rw [if_pos rfl, decide_eq_decide]
    exact ⟨fun e => by subst e; rfl, fun e => pw_inj hp hk hq e⟩⟩) (by rw [pick_one _ _ q (by rw [hlm]; exact hq) (fun _ _ => rfl) _ (by rw [hlm]; exact Nat.le_refl _), if_pos hq, List.getElem_map]; rfl))
  have hUy := Aside0.mk (fun (q : Nat) (hq : q < am.length) A c AS cS W (hW : Below w.heap.size w W) (h1 : Kd.C k37 W A am.length (am.map seenM)) (h2 : am.length ≤ c) (h3 : OneSp W AS ((q : Int) + 1) ((q : Int) + 1)) => pick_own false a0 a1 a2 a3 aA4 ac4 aw aA5 ac5 am A c AS cS ((q : Int) + 1) ((q : Int) + 1) (fun k => decide (k = q)) [am[q].f0] W w hW hB hL.n5 h1 h2 h3 (fun k hk => .inr ⟨by omega, by omega, rfl, by rw [if_neg (by decide)]; omega, by
    rw [if_neg (by decide), decide_eq_decide]
    omega⟩) (by rw [pick_one _ _ q (by rw [hlm]; exact hq) (fun _ _ => rfl) _ (by rw [hlm]; exact Nat.le_refl _), if_pos hq, List.getElem_map]; rfl))
  have HC5 := Aside0.mk hB.C5
  have hn9 : (am.length : Int) ≤ 60 := by omega
  have hrd := Aside0.mk (fun k (hk : k < am.length) => (show rd (am.map (·.f0)) (k : Int) = am[k].f0 from by
    unfold Go.Proofs.YtplfpbfmnogckaaDoorW.PrintWords.rd
    rw [Int.toNat_natCast, List.getD_eq_getElem?_getD, List.getElem?_map, List.getElem?_eq_getElem hk]
    rfl))
  clear hP hB hL ht hmp1 hp hhead ha2 hrng hlu hlm hq0 h60
  have hqq : am.length = 0 ∨ ∃ q : Nat, wrap64 ((IntKind.u64.wrap kk).tmod (am.length : Int)) = (q : Int) ∧ q < am.length := by
    by_cases h : am.length = 0
    · exact .inl h
    · exact .inr (low_nat kk am.length (by omega) (by omega))
  go_enter Tryd.func7, Tryd.ntmps7
  have M0_0 := Aside0.mk (Below.refl w.heap.size w)
  go_wp2_with (first
    | ((with_reducible refine gate_dst (N := 2) rfl ?_); refine box_event ?hgX2 (N := 2) ?hdX2 (cs := #[.string a0, .int .i64 a1, .int .i64 a2, .int .i64 a3, .slice aA4 aw.length ac4, .slice aA5 am.length ac5]) (t := 25) ?hrX2 ?_; (case hdX2 => rfl); (case hgX2 => rfl); (case hrX2 => first | (go_simp; done) | (go_simp; rfl)); intro g_X hg_ w_1 hbx_ hb_; have L0_X := Aside0.mk (show w.heap.size ≤ g_X by have := M0_0.out.size; omega); have M0_1 := Aside0.mk (M0_0.out.trans (hb_.mono M0_0.out.size)); have X_1 := Aside0.mk hbx_; clear hg_ hbx_ hb_ M0_0; have zX0 := blk_cell X_1.out 0; have zX1 := blk_cell X_1.out 1; have zX2 := blk_cell X_1.out 2; have zX3 := blk_cell X_1.out 3; have zX4 := blk_cell X_1.out 4; have zX5 := blk_cell X_1.out 5; skip)
    | (go_at_call 12; refine (hHv.out w_1 M0_1.out).mono ?_; rintro e_ w_2 ⟨rfl, hb⟩; have M0_2 := Aside0.mk (M0_1.out.trans (hb.mono M0_1.out.size)); have X_2 := Aside0.mk (blk_below X_1.out hb); clear hb M0_1 X_1 zX0 zX1 zX2 zX3 zX4 zX5; have zX0 := blk_cell X_2.out 0; have zX1 := blk_cell X_2.out 1; have zX2 := blk_cell X_2.out 2; have zX3 := blk_cell X_2.out 3; have zX4 := blk_cell X_2.out 4; have zX5 := blk_cell X_2.out 5; skip)
    | (go_at_call 13; refine (hMy.out w_2 M0_2.out).mono ?_; rintro e_ w_3 ⟨rfl, hb⟩; have M0_3 := Aside0.mk (M0_2.out.trans (hb.mono M0_2.out.size)); have X_3 := Aside0.mk (blk_below X_2.out hb); clear hb M0_2 X_2 zX0 zX1 zX2 zX3 zX4 zX5; have zX0 := blk_cell X_3.out 0; have zX1 := blk_cell X_3.out 1; have zX2 := blk_cell X_3.out 2; have zX3 := blk_cell X_3.out 3; have zX4 := blk_cell X_3.out 4; have zX5 := blk_cell X_3.out 5; skip)
    | (go_at_call 17; refine (hNe.out w_3 M0_3.out).mono ?_; rintro e_ w_4 ⟨AN, cN, rfl, hcN, hN, hb⟩; have M0_4 := Aside0.mk (M0_3.out.trans (hb.mono M0_3.out.size)); have X_4 := Aside0.mk (blk_below X_3.out hb); have M4_4 := Aside0.mk (Below.refl w_4.heap.size w_4); have CN := Aside0.mk hN; have LN := Aside0.mk hcN; clear hb hN hcN M0_3 X_3 zX0 zX1 zX2 zX3 zX4 zX5; have zX0 := blk_cell X_4.out 0; have zX1 := blk_cell X_4.out 1; have zX2 := blk_cell X_4.out 2; have zX3 := blk_cell X_4.out 3; have zX4 := blk_cell X_4.out 4; have zX5 := blk_cell X_4.out 5; skip)
    | ((with_reducible refine gate_dst (N := 27) rfl ?_); refine Kd.R_lit dSp (w0 := w_4) (w_4).heap.size 49 ?hg27 (N := 27) ?hd27 (xs := [(1, 0)]) (inner := [.int .i64 1, .int .i64 0]) (ok := fun _ => True) (okp := fun _ => True) ?hr27 ?hp27 (fun _ h => h) trivial (Below.refl _ _) (Nat.le_refl _) (by simp) ?_; (case hg27 => rfl); (case hd27 => rfl); (case hr27 => first | (go_simp; done) | (go_simp; rfl)); (case hp27 => exact reps_sp _ _ _ _); intro v27 w_5 hR hb hgr _; clear hgr; obtain ⟨S27, s27, e27, hc27, hC27⟩ := Kd.R_reads hR; replace e27 : v27 = .slice S27 1 s27 := e27; subst e27; have hO := onesp_of hC27; clear hR hC27 hc27; have M0_5 := Aside0.mk (M0_4.out.trans (hb.mono M0_4.out.size)); have M4_5 := Aside0.mk (M4_4.out.trans (hb.mono M4_4.out.size)); have X_5 := Aside0.mk (blk_below X_4.out hb); have M5_5 := Aside0.mk (Below.refl w_5.heap.size w_5); have SA := Aside0.mk hO; clear hb hO M0_4 M4_4 X_4 zX0 zX1 zX2 zX3 zX4 zX5; have zX0 := blk_cell X_5.out 0; have zX1 := blk_cell X_5.out 1; have zX2 := blk_cell X_5.out 2; have zX3 := blk_cell X_5.out 3; have zX4 := blk_cell X_5.out 4; have zX5 := blk_cell X_5.out 5; skip)
    | (go_at_call 19; refine (hPa.out AN cN S27 s27 w_5 M0_5.out (Kd.C_below CN.out M4_5.out) LN.out (SA.out.below M5_5.out)).mono ?_; rintro e_ w_6 ⟨AA, cA, rfl, hA, hb⟩; have M0_6 := Aside0.mk (M0_5.out.trans (hb.mono M0_5.out.size)); have M4_6 := Aside0.mk (M4_5.out.trans (hb.mono M4_5.out.size)); have M5_6 := Aside0.mk (M5_5.out.trans (hb.mono M5_5.out.size)); have X_6 := Aside0.mk (blk_below X_5.out hb); have M6_6 := Aside0.mk (Below.refl w_6.heap.size w_6); have CA := Aside0.mk hA; clear hb hA M0_5 M4_5 M5_5 X_5 zX0 zX1 zX2 zX3 zX4 zX5; have zX0 := blk_cell X_6.out 0; have zX1 := blk_cell X_6.out 1; have zX2 := blk_cell X_6.out 2; have zX3 := blk_cell X_6.out 3; have zX4 := blk_cell X_6.out 4; have zX5 := blk_cell X_6.out 5; skip)
    | ((with_reducible refine gate_dst (N := 32) rfl ?_); refine Kd.R_lit dSp (w0 := w_6) (w_6).heap.size 49 ?hg32 (N := 32) ?hd32 (xs := [(1, 0)]) (inner := [.int .i64 1, .int .i64 0]) (ok := fun _ => True) (okp := fun _ => True) ?hr32 ?hp32 (fun _ h => h) trivial (Below.refl _ _) (Nat.le_refl _) (by simp) ?_; (case hg32 => rfl); (case hd32 => rfl); (case hr32 => first | (go_simp; done) | (go_simp; rfl)); (case hp32 => exact reps_sp _ _ _ _); intro v32 w_7 hR hb hgr _; clear hgr; obtain ⟨S32, s32, e32, hc32, hC32⟩ := Kd.R_reads hR; replace e32 : v32 = .slice S32 1 s32 := e32; subst e32; have hO := onesp_of hC32; clear hR hC32 hc32; have M0_7 := Aside0.mk (M0_6.out.trans (hb.mono M0_6.out.size)); have M4_7 := Aside0.mk (M4_6.out.trans (hb.mono M4_6.out.size)); have M5_7 := Aside0.mk (M5_6.out.trans (hb.mono M5_6.out.size)); have M6_7 := Aside0.mk (M6_6.out.trans (hb.mono M6_6.out.size)); have X_7 := Aside0.mk (blk_below X_6.out hb); have M7_7 := Aside0.mk (Below.refl w_7.heap.size w_7); have SB := Aside0.mk hO; clear hb hO M0_6 M4_6 M5_6 M6_6 X_6 zX0 zX1 zX2 zX3 zX4 zX5; have zX0 := blk_cell X_7.out 0; have zX1 := blk_cell X_7.out 1; have zX2 := blk_cell X_7.out 2; have zX3 := blk_cell X_7.out 3; have zX4 := blk_cell X_7.out 4; have zX5 := blk_cell X_7.out 5; skip)
    | (go_at_call 19; refine (hPb.out AN cN S32 s32 w_7 M0_7.out (Kd.C_below CN.out M4_7.out) LN.out (SB.out.below M7_7.out)).mono ?_; rintro e_ w_8 ⟨AB, cB, rfl, hA, hb⟩; have M0_8 := Aside0.mk (M0_7.out.trans (hb.mono M0_7.out.size)); have M4_8 := Aside0.mk (M4_7.out.trans (hb.mono M4_7.out.size)); have M5_8 := Aside0.mk (M5_7.out.trans (hb.mono M5_7.out.size)); have M6_8 := Aside0.mk (M6_7.out.trans (hb.mono M6_7.out.size)); have M7_8 := Aside0.mk (M7_7.out.trans (hb.mono M7_7.out.size)); have X_8 := Aside0.mk (blk_below X_7.out hb); have M8_8 := Aside0.mk (Below.refl w_8.heap.size w_8); have CB := Aside0.mk hA; clear hb hA M0_7 M4_7 M5_7 M6_7 M7_7 X_7 zX0 zX1 zX2 zX3 zX4 zX5; have zX0 := blk_cell X_8.out 0; have zX1 := blk_cell X_8.out 1; have zX2 := blk_cell X_8.out 2; have zX3 := blk_cell X_8.out 3; have zX4 := blk_cell X_8.out 4; have zX5 := blk_cell X_8.out 5; skip))
  have W2 := Aside0.mk M0_8.out
  have X2 := Aside0.mk X_8.out
  have V2 := Aside0.mk (Kd.C_below CN.out M4_8.out)
  have A2 := Aside0.mk (Kd.C_below CA.out M6_8.out)
  have B2 := Aside0.mk (Kd.C_below CB.out M8_8.out)
  obtain ⟨wz, hwz⟩ : ∃ wz, wz = w_8 := ⟨_, rfl⟩
  rw [← hwz] at W2 X2 V2 A2 B2
  go_loopw [57] (fun i wr => ∃ k : Nat, k ≤ am.length ∧ i = .int .i64 k ∧ Aside0 (Below wz.heap.size wz wr)) (fun i _ => am.length - (intOf i).toNat)
  case atStart => exact ⟨0, Nat.zero_le _, rfl, ⟨by rw [hwz]; exact Below.refl _ _⟩⟩
  case round =>
    clear hwz zX0 zX1 zX2 zX3 zX4 zX5
    obtain ⟨k, hk, rfl, HB⟩ := hrel
    by_cases hlt : k < am.length
    · obtain ⟨adM, A6, c6, e1, hm0, hm1, hm2, hm3, hm4, hm5, hm6, hc6, hC6⟩ := at_T34 (Kd.C_below HC5.out (W2.out.trans (HB.out.mono W2.out.size))) (k : Int) (by omega) (by omega)
      cases e1
      rw [rdm_nat am hlt] at hm0 hm1 hm2 hm3 hm4 hm5 hm6 hc6 hC6
      rw [Int.toNat_natCast] at hm0 hm1 hm2 hm3 hm4 hm5 hm6
      obtain ⟨adA, e1, ha⟩ := Kd.at_int (Kd.C_below A2.out HB.out) (k : Int) (by omega) (by omega)
      cases e1
      obtain ⟨adB, e1, hbb⟩ := Kd.at_int (Kd.C_below B2.out HB.out) (k : Int) (by omega) (by omega)
      cases e1
      rw [hrd.out k hlt, Int.toNat_natCast] at ha hbb
      have HPl := Aside0.mk (hPl.out k hlt)
      have hk7 : (k : Int) < (am.length : Int) := by omega
      have HKK : Aside0 (wrap64 ((k : Int) + 1) = (k : Int) + 1) := ⟨w64s (by omega) (by omega)⟩
      clear hC6 hc6
      generalize am[k] = m at *
      have HP1 := Aside0.mk (fun A c W h => HPl.out m rfl A c W h)
      have HV1 := Aside0.mk (Kd.C_below V2.out HB.out)
      have HA0 := Aside0.mk ha
      have HB0 := Aside0.mk hbb
      clear hlt ha hbb HPl
      have M0_0 := Aside0.mk (Below.refl wr.heap.size wr)
      go_upto_region 11 with ((with_reducible refine gate_dst (N := 9) rfl ?_); refine box_event ?hgM9 (N := 9) ?hdM9 (cs := #[.int .i64 0, .int .i64 0, .int .i64 0, .string (⟨#[]⟩ : ByteArray), .int .i64 0, .slice none 0 0, .string (⟨#[]⟩ : ByteArray)]) (t := 34) ?hrM9 ?_; (case hdM9 => rfl); (case hgM9 => rfl); (case hrM9 => first | (go_simp; done) | (go_simp; rfl)); intro g_M hg_ w_1 hbx_ hb_; have L0_M := Aside0.mk (show wr.heap.size ≤ g_M by have := M0_0.out.size; omega); have M0_1 := Aside0.mk (M0_0.out.trans (hb_.mono M0_0.out.size)); have M_1 := Aside0.mk hbx_; clear hg_ hbx_ hb_ M0_0; have zM0 := blk_cell M_1.out 0; have yM0 := blk_frozen M_1.out 0; have zM1 := blk_cell M_1.out 1; have yM1 := blk_frozen M_1.out 1; have zM2 := blk_cell M_1.out 2; have yM2 := blk_frozen M_1.out 2; have zM3 := blk_cell M_1.out 3; have yM3 := blk_frozen M_1.out 3; have zM4 := blk_cell M_1.out 4; have yM4 := blk_frozen M_1.out 4; have zM5 := blk_cell M_1.out 5; have yM5 := blk_frozen M_1.out 5; have zM6 := blk_cell M_1.out 6; have yM6 := blk_frozen M_1.out 6; skip)
      clear zM0 yM0 zM1 yM1 zM2 yM2 zM3 yM3 zM4 yM4 zM5 yM5 zM6 yM6
      obtain ⟨w_2, e_2, Be_, Oe_⟩ := sets7 M_1.out (.int .i64 m.f0) (.int .i64 m.f1) (.int .i64 m.f2) (.string m.f3) (.int .i64 m.f4) (.slice A6 m.f5.length c6) (.string m.f6)
      rw [e_2]
      clear e_2
      have M0_2 := Aside0.mk (Oe_.below M0_1.out L0_M.out)
      have M_2 := Aside0.mk Be_
      clear Be_ Oe_ M0_1 M_1
      have zM0 := blk_cell M_2.out 0
      have yM0 := blk_frozen M_2.out 0
      have zM1 := blk_cell M_2.out 1
      have yM1 := blk_frozen M_2.out 1
      have zM2 := blk_cell M_2.out 2
      have yM2 := blk_frozen M_2.out 2
      have zM3 := blk_cell M_2.out 3
      have yM3 := blk_frozen M_2.out 3
      have zM4 := blk_cell M_2.out 4
      have yM4 := blk_frozen M_2.out 4
      have zM5 := blk_cell M_2.out 5
      have yM5 := blk_frozen M_2.out 5
      have zM6 := blk_cell M_2.out 6
      have yM6 := blk_frozen M_2.out 6
      skip
      have HX := Aside0.mk M0_2.out
      have GM := Aside0.mk M_2.out
      have HA := Aside0.mk (Below.refl w_2.heap.size w_2)
      clear zM0 yM0 zM1 yM1 zM2 yM2 zM3 yM3 zM4 yM4 zM5 yM5 zM6 yM6 hm0 hm1 hm2 hm3 hm4 hm5 hm6 M0_2 M_2 L0_M
      have HV2 := Aside0.mk (Kd.C_below HV1.out HX.out)
      refine start_ (n := 25) (S := fun w' => True) (ds := []) #[false, false, false, false, false, false, false, false, false, false, false, false, false, false, false, false, false, false, false, false, false, false, false, false, false] (by kernel_rfl) rfl rfl trivial (fun hHeld => ?_)
      refine with_tabW t_mailsacklaw23_ToldPicks.tab11 t_mailsacklaw23_ToldPicks.bits11 (fun HT_ HW_ => ?_)
      have hd_ := (below_drew1 (Below.refl w_2.heap.size w_2))
      have n_HA := Aside0.mk (HA.out.drew)
      have n_GM := Aside0.mk ((show w_2.drew.heap[g_M]? = _ from GM.out))
      clear HA
      have HA := n_HA
      clear n_HA
      clear GM
      have GM := n_GM
      clear n_GM
      generalize w_2.drew = w_d at *
      clear hd_
      refine inv_at [0, 1, 2, 3, 4, 5, 6, 7, 8, 9, 10, 11, 12, 13, 14, 15, 16, 17, 18, 19, 20, 21, 22, 23, 24] (fun a0_ b a w' => a = putSel a0_ b [(0, 62, .slice (some adA) am.length cA), (1, 63, .int .i64 (k : Int)), (2, 64, .pointer (some (adA.add k))), (3, 65, .int .i64 m.f0), (4, 66, .pointer (some ⟨g_M, 0, none⟩)), (5, 67, .int .i64 m.f0), (6, 68, .bool false), (7, 69, .bool false), (8, 70, .slice (some adB) am.length cB), (9, 71, .int .i64 (k : Int)), (10, 72, .pointer (some (adB.add k))), (11, 73, .int .i64 m.f0), (12, 74, .pointer (some ⟨g_M, 0, none⟩)), (13, 75, .int .i64 m.f0), (14, 76, .bool false), (15, 77, .bool false), (16, 78, .bool false), (17, 79, .slice AN am.length cN), (18, 80, .pointer (some ⟨g_M, 0, none⟩)), (19, 81, .int .i64 m.f0), (20, 82, .int .i64 ((k : Int) + 1)), (21, 83, .int .i64 (k : Int)), (22, 84, .int .i64 ((k : Int) + 1)), (23, 85, .bool false), (24, 86, .bool false)] ∧ (Below w_2.heap.size w_2 w') ∧ (w'.heap[g_M]? = some (.cells #[.int .i64 m.f0, .int .i64 m.f1, .int .i64 m.f2, .string m.f3, .int .i64 m.f4, .slice A6 m.f5.length c6, .string m.f6] 34 (0, 0)))) HT_.out HW_.out (by kernel_rfl) (by kernel_rfl) ?_ ?_ ?_
      · exact ⟨by simp only [putSel, Bool.false_eq_true, if_false], HA.out, GM.out⟩
      · skip
        clear GM HA
        refine steps_cons ?_ ?_
        · rintro b a w' ⟨ha, Q_HA, Q_GM⟩ hb_ hon hoff
          refine ⟨_, rfl, fun K hK => ?_⟩
          have e6 : a.tmps[6]? = some (.slice (some adA) am.length cA) := by rw [ha]; exact (putSel_off rfl).trans rfl
          replace ha := Aside0.mk ha
          refine value_ (w1 := w') (v := .slice (some adA) am.length cA) (by rfl) rfl ?_ ?_
          · go_simp
            try first | rfl | assumption
          refine hK.out _ _ ⟨(by rw [ha.out]; exact putSel_upk 0 hb_ rfl rfl rfl), Q_HA, Q_GM⟩
        refine steps_cons ?_ ?_
        · rintro b a w' ⟨ha, Q_HA, Q_GM⟩ hb_ hon hoff
          refine ⟨_, rfl, fun K hK => ?_⟩
          have e8 : a.tmps[8]? = some (.int .i64 (k : Int)) := by rw [ha]; exact (putSel_off rfl).trans rfl
          replace ha := Aside0.mk ha
          refine value_ (w1 := w') (v := .int .i64 (k : Int)) (by rfl) rfl ?_ ?_
          · go_simp
            (try simp only [i64_w])
            try first | rfl | assumption
          refine hK.out _ _ ⟨(by rw [ha.out]; exact putSel_upk 1 hb_ rfl rfl rfl), Q_HA, Q_GM⟩
        refine steps_cons ?_ ?_
        · rintro b a w' ⟨ha, Q_HA, Q_GM⟩ hb_ hon hoff
          refine ⟨_, rfl, fun K hK => ?_⟩
          have e62 : a.tmps[62]? = some (.slice (some adA) am.length cA) := by rw [ha]; exact putSel_on (e := (0, 62, .slice (some adA) am.length cA)) 0 rfl rfl (hon 0 (by kernel_rfl)) rfl
          have e63 : a.tmps[63]? = some (.int .i64 (k : Int)) := by rw [ha]; exact putSel_on (e := (1, 63, .int .i64 (k : Int))) 1 rfl rfl (hon 1 (by kernel_rfl)) rfl
          replace ha := Aside0.mk ha
          refine value_ (w1 := w') (v := .pointer (some (adA.add k))) (by rfl) rfl ?_ ?_
          · go_simp
            try first | rfl | assumption
          refine hK.out _ _ ⟨(by rw [ha.out]; exact putSel_upk 2 hb_ rfl rfl rfl), Q_HA, Q_GM⟩
        refine steps_cons ?_ ?_
        · rintro b a w' ⟨ha, Q_HA, Q_GM⟩ hb_ hon hoff
          refine ⟨_, rfl, fun K hK => ?_⟩
          have e64 : a.tmps[64]? = some (.pointer (some (adA.add k))) := by rw [ha]; exact putSel_on (e := (2, 64, .pointer (some (adA.add k)))) 2 rfl rfl (hon 2 (by kernel_rfl)) rfl
          replace ha := Aside0.mk ha
          have HA := Aside0.mk Q_HA
          have hc0 := pw_cell_below (HX.out.trans (HA.out.mono HX.out.size)) HA0.out
          refine value_ (w1 := w') (v := .int .i64 m.f0) (by rfl) rfl ?_ ?_
          · go_simp
            (try simp only [i64_w])
            try first | rfl | assumption
          refine hK.out _ _ ⟨(by rw [ha.out]; exact putSel_upk 3 hb_ rfl rfl rfl), Q_HA, Q_GM⟩
        refine steps_cons ?_ ?_
        · rintro b a w' ⟨ha, Q_HA, Q_GM⟩ hb_ hon hoff
          refine ⟨_, rfl, fun K hK => ?_⟩
          have e9 : a.tmps[9]? = some (.pointer (some ⟨g_M, 0, none⟩)) := by rw [ha]; exact (putSel_off rfl).trans rfl
          replace ha := Aside0.mk ha
          refine value_ (w1 := w') (v := .pointer (some ⟨g_M, 0, none⟩)) (by rfl) rfl ?_ ?_
          · go_simp
            try first | rfl | assumption
          refine hK.out _ _ ⟨(by rw [ha.out]; exact putSel_upk 4 hb_ rfl rfl rfl), Q_HA, Q_GM⟩
        refine steps_cons ?_ ?_
        · rintro b a w' ⟨ha, Q_HA, Q_GM⟩ hb_ hon hoff
          refine ⟨_, rfl, fun K hK => ?_⟩
          have e66 : a.tmps[66]? = some (.pointer (some ⟨g_M, 0, none⟩)) := by rw [ha]; exact putSel_on (e := (4, 66, .pointer (some ⟨g_M, 0, none⟩))) 4 rfl rfl (hon 4 (by kernel_rfl)) rfl
          replace ha := Aside0.mk ha
          have GM := Aside0.mk Q_GM
          have hc0 := blk_cell GM.out 0
          refine value_ (w1 := w') (v := .int .i64 m.f0) (by rfl) rfl ?_ ?_
          · go_simp
            (try simp only [i64_w])
            try first | rfl | assumption
          refine hK.out _ _ ⟨(by rw [ha.out]; exact putSel_upk 5 hb_ rfl rfl rfl), Q_HA, Q_GM⟩
        refine steps_cons ?_ ?_
        · rintro b a w' ⟨ha, Q_HA, Q_GM⟩ hb_ hon hoff
          refine ⟨_, rfl, fun K hK => ?_⟩
          have e65 : a.tmps[65]? = some (.int .i64 m.f0) := by rw [ha]; exact putSel_on (e := (3, 65, .int .i64 m.f0)) 3 rfl rfl (hon 3 (by kernel_rfl)) rfl
          have e67 : a.tmps[67]? = some (.int .i64 m.f0) := by rw [ha]; exact putSel_on (e := (5, 67, .int .i64 m.f0)) 5 rfl rfl (hon 5 (by kernel_rfl)) rfl
          replace ha := Aside0.mk ha
          refine value_ (w1 := w') (v := .bool false) (by rfl) rfl ?_ ?_
          · go_simp
            try first | rfl | assumption
          refine hK.out _ _ ⟨(by rw [ha.out]; exact putSel_upk 6 hb_ rfl rfl rfl), Q_HA, Q_GM⟩
        refine steps_cons ?_ ?_
        · rintro b a w' ⟨ha, Q_HA, Q_GM⟩ hb_ hon hoff
          refine ⟨_, rfl, fun K hK => ?_⟩
          have e68 : a.tmps[68]? = some (.bool false) := by rw [ha]; exact putSel_on (e := (6, 68, .bool false)) 6 rfl rfl (hon 6 (by kernel_rfl)) rfl
          replace ha := Aside0.mk ha
          refine value_ (w1 := w') (v := .bool false) (by rfl) rfl ?_ ?_
          · go_simp
            try first | rfl | assumption
          refine hK.out _ _ ⟨(by rw [ha.out]; exact putSel_upk 7 hb_ rfl rfl rfl), Q_HA, Q_GM⟩
        refine steps_cons ?_ ?_
        · rintro b a w' ⟨ha, Q_HA, Q_GM⟩ hb_ hon hoff
          refine ⟨_, rfl, fun K hK => ?_⟩
          have e7 : a.tmps[7]? = some (.slice (some adB) am.length cB) := by rw [ha]; exact (putSel_off rfl).trans rfl
          have e69 : a.tmps[69]? = some (.bool false) := by rw [ha]; exact putSel_on (e := (7, 69, .bool false)) 7 rfl rfl (hon 7 (by kernel_rfl)) rfl
          replace ha := Aside0.mk ha
          refine value_ (w1 := w') (v := .slice (some adB) am.length cB) (wanted_on rfl rfl rfl (e69.trans (by first | rfl | (simp [*]; done)))) rfl ?_ ?_
          · go_simp
            try first | rfl | assumption
          refine hK.out _ _ ⟨(by rw [ha.out]; exact putSel_upk 8 hb_ rfl rfl rfl), Q_HA, Q_GM⟩
        refine steps_cons ?_ ?_
        · rintro b a w' ⟨ha, Q_HA, Q_GM⟩ hb_ hon hoff
          refine ⟨_, rfl, fun K hK => ?_⟩
          have e8 : a.tmps[8]? = some (.int .i64 (k : Int)) := by rw [ha]; exact (putSel_off rfl).trans rfl
          have e69 : a.tmps[69]? = some (.bool false) := by rw [ha]; exact putSel_on (e := (7, 69, .bool false)) 7 rfl rfl (hon 7 (by kernel_rfl)) rfl
          replace ha := Aside0.mk ha
          refine value_ (w1 := w') (v := .int .i64 (k : Int)) (wanted_on rfl rfl rfl (e69.trans (by first | rfl | (simp [*]; done)))) rfl ?_ ?_
          · go_simp
            (try simp only [i64_w])
            try first | rfl | assumption
          refine hK.out _ _ ⟨(by rw [ha.out]; exact putSel_upk 9 hb_ rfl rfl rfl), Q_HA, Q_GM⟩
        refine steps_cons ?_ ?_
        · rintro b a w' ⟨ha, Q_HA, Q_GM⟩ hb_ hon hoff
          refine ⟨_, rfl, fun K hK => ?_⟩
          have e70 : a.tmps[70]? = some (.slice (some adB) am.length cB) := by rw [ha]; exact putSel_on (e := (8, 70, .slice (some adB) am.length cB)) 8 rfl rfl (hon 8 (by kernel_rfl)) rfl
          have e71 : a.tmps[71]? = some (.int .i64 (k : Int)) := by rw [ha]; exact putSel_on (e := (9, 71, .int .i64 (k : Int))) 9 rfl rfl (hon 9 (by kernel_rfl)) rfl
          have e69 : a.tmps[69]? = some (.bool false) := by rw [ha]; exact putSel_on (e := (7, 69, .bool false)) 7 rfl rfl (hon 7 (by kernel_rfl)) rfl
          replace ha := Aside0.mk ha
          refine value_ (w1 := w') (v := .pointer (some (adB.add k))) (wanted_on rfl rfl rfl (e69.trans (by first | rfl | (simp [*]; done)))) rfl ?_ ?_
          · go_simp
            try first | rfl | assumption
          refine hK.out _ _ ⟨(by rw [ha.out]; exact putSel_upk 10 hb_ rfl rfl rfl), Q_HA, Q_GM⟩
        refine steps_cons ?_ ?_
        · rintro b a w' ⟨ha, Q_HA, Q_GM⟩ hb_ hon hoff
          refine ⟨_, rfl, fun K hK => ?_⟩
          have e72 : a.tmps[72]? = some (.pointer (some (adB.add k))) := by rw [ha]; exact putSel_on (e := (10, 72, .pointer (some (adB.add k)))) 10 rfl rfl (hon 10 (by kernel_rfl)) rfl
          have e69 : a.tmps[69]? = some (.bool false) := by rw [ha]; exact putSel_on (e := (7, 69, .bool false)) 7 rfl rfl (hon 7 (by kernel_rfl)) rfl
          replace ha := Aside0.mk ha
          have HA := Aside0.mk Q_HA
          have hc0 := pw_cell_below (HX.out.trans (HA.out.mono HX.out.size)) HB0.out
          refine value_ (w1 := w') (v := .int .i64 m.f0) (wanted_on rfl rfl rfl (e69.trans (by first | rfl | (simp [*]; done)))) rfl ?_ ?_
          · go_simp
            (try simp only [i64_w])
            try first | rfl | assumption
          refine hK.out _ _ ⟨(by rw [ha.out]; exact putSel_upk 11 hb_ rfl rfl rfl), Q_HA, Q_GM⟩
        refine steps_cons ?_ ?_
        · rintro b a w' ⟨ha, Q_HA, Q_GM⟩ hb_ hon hoff
          refine ⟨_, rfl, fun K hK => ?_⟩
          have e9 : a.tmps[9]? = some (.pointer (some ⟨g_M, 0, none⟩)) := by rw [ha]; exact (putSel_off rfl).trans rfl
          have e69 : a.tmps[69]? = some (.bool false) := by rw [ha]; exact putSel_on (e := (7, 69, .bool false)) 7 rfl rfl (hon 7 (by kernel_rfl)) rfl
          replace ha := Aside0.mk ha
          refine value_ (w1 := w') (v := .pointer (some ⟨g_M, 0, none⟩)) (wanted_on rfl rfl rfl (e69.trans (by first | rfl | (simp [*]; done)))) rfl ?_ ?_
          · go_simp
            try first | rfl | assumption
          refine hK.out _ _ ⟨(by rw [ha.out]; exact putSel_upk 12 hb_ rfl rfl rfl), Q_HA, Q_GM⟩
        refine steps_cons ?_ ?_
        · rintro b a w' ⟨ha, Q_HA, Q_GM⟩ hb_ hon hoff
          refine ⟨_, rfl, fun K hK => ?_⟩
          have e74 : a.tmps[74]? = some (.pointer (some ⟨g_M, 0, none⟩)) := by rw [ha]; exact putSel_on (e := (12, 74, .pointer (some ⟨g_M, 0, none⟩))) 12 rfl rfl (hon 12 (by kernel_rfl)) rfl
          have e69 : a.tmps[69]? = some (.bool false) := by rw [ha]; exact putSel_on (e := (7, 69, .bool false)) 7 rfl rfl (hon 7 (by kernel_rfl)) rfl
          replace ha := Aside0.mk ha
          have GM := Aside0.mk Q_GM
          have hc0 := blk_cell GM.out 0
          refine value_ (w1 := w') (v := .int .i64 m.f0) (wanted_on rfl rfl rfl (e69.trans (by first | rfl | (simp [*]; done)))) rfl ?_ ?_
          · go_simp
            (try simp only [i64_w])
            try first | rfl | assumption
          refine hK.out _ _ ⟨(by rw [ha.out]; exact putSel_upk 13 hb_ rfl rfl rfl), Q_HA, Q_GM⟩
        refine steps_cons ?_ ?_
        · rintro b a w' ⟨ha, Q_HA, Q_GM⟩ hb_ hon hoff
          refine ⟨_, rfl, fun K hK => ?_⟩
          have e73 : a.tmps[73]? = some (.int .i64 m.f0) := by rw [ha]; exact putSel_on (e := (11, 73, .int .i64 m.f0)) 11 rfl rfl (hon 11 (by kernel_rfl)) rfl
          have e75 : a.tmps[75]? = some (.int .i64 m.f0) := by rw [ha]; exact putSel_on (e := (13, 75, .int .i64 m.f0)) 13 rfl rfl (hon 13 (by kernel_rfl)) rfl
          have e69 : a.tmps[69]? = some (.bool false) := by rw [ha]; exact putSel_on (e := (7, 69, .bool false)) 7 rfl rfl (hon 7 (by kernel_rfl)) rfl
          replace ha := Aside0.mk ha
          refine value_ (w1 := w') (v := .bool false) (wanted_on rfl rfl rfl (e69.trans (by first | rfl | (simp [*]; done)))) rfl ?_ ?_
          · go_simp
            try first | rfl | assumption
          refine hK.out _ _ ⟨(by rw [ha.out]; exact putSel_upk 14 hb_ rfl rfl rfl), Q_HA, Q_GM⟩
        refine steps_cons ?_ ?_
        · rintro b a w' ⟨ha, Q_HA, Q_GM⟩ hb_ hon hoff
          refine ⟨_, rfl, fun K hK => ?_⟩
          have e69 : a.tmps[69]? = some (.bool false) := by rw [ha]; exact putSel_on (e := (7, 69, .bool false)) 7 rfl rfl (hon 7 (by kernel_rfl)) rfl
          have e76 : a.tmps[76]? = some (.bool false) := by rw [ha]; exact putSel_on (e := (14, 76, .bool false)) 14 rfl rfl (hon 14 (by kernel_rfl)) rfl
          replace ha := Aside0.mk ha
          refine value_ (w1 := w') (v := .bool false) (by rfl) rfl ?_ ?_
          · go_simp
            try first | rfl | assumption
          refine hK.out _ _ ⟨(by rw [ha.out]; exact putSel_upk 15 hb_ rfl rfl rfl), Q_HA, Q_GM⟩
        refine steps_cons ?_ ?_
        · rintro b a w' ⟨ha, Q_HA, Q_GM⟩ hb_ hon hoff
          refine ⟨_, rfl, fun K hK => ?_⟩
          have e77 : a.tmps[77]? = some (.bool false) := by rw [ha]; exact putSel_on (e := (15, 77, .bool false)) 15 rfl rfl (hon 15 (by kernel_rfl)) rfl
          replace ha := Aside0.mk ha
          refine value_ (w1 := w') (v := .bool false) (by rfl) rfl ?_ ?_
          · go_simp
            try first | rfl | assumption
          refine hK.out _ _ ⟨(by rw [ha.out]; exact putSel_upk 16 hb_ rfl rfl rfl), Q_HA, Q_GM⟩
        refine steps_cons ?_ ?_
        · rintro b a w' ⟨ha, Q_HA, Q_GM⟩ hb_ hon hoff
          refine ⟨_, rfl, fun K hK => ?_⟩
          have e5 : a.tmps[5]? = some (.slice AN am.length cN) := by rw [ha]; exact (putSel_off rfl).trans rfl
          have e78 : a.tmps[78]? = some (.bool false) := by rw [ha]; exact putSel_on (e := (16, 78, .bool false)) 16 rfl rfl (hon 16 (by kernel_rfl)) rfl
          replace ha := Aside0.mk ha
          refine value_ (w1 := w') (v := .slice AN am.length cN) (wanted_on rfl rfl rfl (e78.trans (by first | rfl | (simp [*]; done)))) rfl ?_ ?_
          · go_simp
            try first | rfl | assumption
          refine hK.out _ _ ⟨(by rw [ha.out]; exact putSel_upk 17 hb_ rfl rfl rfl), Q_HA, Q_GM⟩
        refine steps_cons ?_ ?_
        · rintro b a w' ⟨ha, Q_HA, Q_GM⟩ hb_ hon hoff
          refine ⟨_, rfl, fun K hK => ?_⟩
          have e9 : a.tmps[9]? = some (.pointer (some ⟨g_M, 0, none⟩)) := by rw [ha]; exact (putSel_off rfl).trans rfl
          have e78 : a.tmps[78]? = some (.bool false) := by rw [ha]; exact putSel_on (e := (16, 78, .bool false)) 16 rfl rfl (hon 16 (by kernel_rfl)) rfl
          replace ha := Aside0.mk ha
          refine value_ (w1 := w') (v := .pointer (some ⟨g_M, 0, none⟩)) (wanted_on rfl rfl rfl (e78.trans (by first | rfl | (simp [*]; done)))) rfl ?_ ?_
          · go_simp
            try first | rfl | assumption
          refine hK.out _ _ ⟨(by rw [ha.out]; exact putSel_upk 18 hb_ rfl rfl rfl), Q_HA, Q_GM⟩
        refine steps_cons ?_ ?_
        · rintro b a w' ⟨ha, Q_HA, Q_GM⟩ hb_ hon hoff
          refine ⟨_, rfl, fun K hK => ?_⟩
          have e80 : a.tmps[80]? = some (.pointer (some ⟨g_M, 0, none⟩)) := by rw [ha]; exact putSel_on (e := (18, 80, .pointer (some ⟨g_M, 0, none⟩))) 18 rfl rfl (hon 18 (by kernel_rfl)) rfl
          have e78 : a.tmps[78]? = some (.bool false) := by rw [ha]; exact putSel_on (e := (16, 78, .bool false)) 16 rfl rfl (hon 16 (by kernel_rfl)) rfl
          replace ha := Aside0.mk ha
          have GM := Aside0.mk Q_GM
          have hc0 := blk_cell GM.out 0
          refine value_ (w1 := w') (v := .int .i64 m.f0) (wanted_on rfl rfl rfl (e78.trans (by first | rfl | (simp [*]; done)))) rfl ?_ ?_
          · go_simp
            (try simp only [i64_w])
            try first | rfl | assumption
          refine hK.out _ _ ⟨(by rw [ha.out]; exact putSel_upk 19 hb_ rfl rfl rfl), Q_HA, Q_GM⟩
        refine steps_cons ?_ ?_
        · rintro b a w' ⟨ha, Q_HA, Q_GM⟩ hb_ hon hoff
          refine ⟨_, rfl, fun K hK => ?_⟩
          have e79 : a.tmps[79]? = some (.slice AN am.length cN) := by rw [ha]; exact putSel_on (e := (17, 79, .slice AN am.length cN)) 17 rfl rfl (hon 17 (by kernel_rfl)) rfl
          have e81 : a.tmps[81]? = some (.int .i64 m.f0) := by rw [ha]; exact putSel_on (e := (19, 81, .int .i64 m.f0)) 19 rfl rfl (hon 19 (by kernel_rfl)) rfl
          have e78 : a.tmps[78]? = some (.bool false) := by rw [ha]; exact putSel_on (e := (16, 78, .bool false)) 16 rfl rfl (hon 16 (by kernel_rfl)) rfl
          replace ha := Aside0.mk ha
          have HA := Aside0.mk Q_HA
          have GM := Aside0.mk Q_GM
          refine goes_ Tryd.func20 (by kernel_rfl) rfl #[.slice AN am.length cN, .int .i64 m.f0] (wanted_on rfl rfl rfl (e78.trans (by first | rfl | (simp [*]; done)))) rfl rfl (by first | (simp only [List.map_toArray, List.map_cons, List.map_nil, Act.eval, Array.getD_eq_getD_getElem?, Option.getD_some, e79, e81, e78]; done) | (simp only [List.map_toArray, List.map_cons, List.map_nil, Act.eval, Array.getD_eq_getD_getElem?, Option.getD_some, e79, e81, e78]; rfl)) ?_
          with_reducible refine (HP1.out AN cN w' (Kd.C_below HV2.out HA.out)).mono ?_
          rintro e wq ⟨rfl, hb⟩
          refine ⟨_, rfl, ?_⟩
          refine hK.out _ _ ⟨(by rw [ha.out]; exact putSel_upk 20 hb_ rfl rfl rfl), HA.out.trans (hb.mono HA.out.size), blk_below GM.out hb⟩
        refine steps_cons ?_ ?_
        · rintro b a w' ⟨ha, Q_HA, Q_GM⟩ hb_ hon hoff
          refine ⟨_, rfl, fun K hK => ?_⟩
          have e8 : a.tmps[8]? = some (.int .i64 (k : Int)) := by rw [ha]; exact (putSel_off rfl).trans rfl
          have e78 : a.tmps[78]? = some (.bool false) := by rw [ha]; exact putSel_on (e := (16, 78, .bool false)) 16 rfl rfl (hon 16 (by kernel_rfl)) rfl
          replace ha := Aside0.mk ha
          refine value_ (w1 := w') (v := .int .i64 (k : Int)) (wanted_on rfl rfl rfl (e78.trans (by first | rfl | (simp [*]; done)))) rfl ?_ ?_
          · go_simp
            (try simp only [i64_w])
            try first | rfl | assumption
          refine hK.out _ _ ⟨(by rw [ha.out]; exact putSel_upk 21 hb_ rfl rfl rfl), Q_HA, Q_GM⟩
        refine steps_cons ?_ ?_
        · rintro b a w' ⟨ha, Q_HA, Q_GM⟩ hb_ hon hoff
          refine ⟨_, rfl, fun K hK => ?_⟩
          have e83 : a.tmps[83]? = some (.int .i64 (k : Int)) := by rw [ha]; exact putSel_on (e := (21, 83, .int .i64 (k : Int))) 21 rfl rfl (hon 21 (by kernel_rfl)) rfl
          have e78 : a.tmps[78]? = some (.bool false) := by rw [ha]; exact putSel_on (e := (16, 78, .bool false)) 16 rfl rfl (hon 16 (by kernel_rfl)) rfl
          replace ha := Aside0.mk ha
          have hww := HKK.out
          refine value_ (w1 := w') (v := .int .i64 ((k : Int) + 1)) (wanted_on rfl rfl rfl (e78.trans (by first | rfl | (simp [*]; done)))) rfl ?_ ?_
          · go_simp
            (try simp only [i64_w])
            try first | rfl | assumption
          refine hK.out _ _ ⟨(by rw [ha.out]; exact putSel_upk 22 hb_ rfl rfl rfl), Q_HA, Q_GM⟩
        refine steps_cons ?_ ?_
        · rintro b a w' ⟨ha, Q_HA, Q_GM⟩ hb_ hon hoff
          refine ⟨_, rfl, fun K hK => ?_⟩
          have e82 : a.tmps[82]? = some (.int .i64 ((k : Int) + 1)) := by rw [ha]; exact putSel_on (e := (20, 82, .int .i64 ((k : Int) + 1))) 20 rfl rfl (hon 20 (by kernel_rfl)) rfl
          have e84 : a.tmps[84]? = some (.int .i64 ((k : Int) + 1)) := by rw [ha]; exact putSel_on (e := (22, 84, .int .i64 ((k : Int) + 1))) 22 rfl rfl (hon 22 (by kernel_rfl)) rfl
          have e78 : a.tmps[78]? = some (.bool false) := by rw [ha]; exact putSel_on (e := (16, 78, .bool false)) 16 rfl rfl (hon 16 (by kernel_rfl)) rfl
          replace ha := Aside0.mk ha
          refine value_ (w1 := w') (v := .bool false) (wanted_on rfl rfl rfl (e78.trans (by first | rfl | (simp [*]; done)))) rfl ?_ ?_
          · go_simp
            try first | rfl | assumption
          refine hK.out _ _ ⟨(by rw [ha.out]; exact putSel_upk 23 hb_ rfl rfl rfl), Q_HA, Q_GM⟩
        refine steps_cons ?_ ?_
        · rintro b a w' ⟨ha, Q_HA, Q_GM⟩ hb_ hon hoff
          refine ⟨_, rfl, fun K hK => ?_⟩
          have e78 : a.tmps[78]? = some (.bool false) := by rw [ha]; exact putSel_on (e := (16, 78, .bool false)) 16 rfl rfl (hon 16 (by kernel_rfl)) rfl
          have e85 : a.tmps[85]? = some (.bool false) := by rw [ha]; exact putSel_on (e := (23, 85, .bool false)) 23 rfl rfl (hon 23 (by kernel_rfl)) rfl
          replace ha := Aside0.mk ha
          refine value_ (w1 := w') (v := .bool false) (by rfl) rfl ?_ ?_
          · go_simp
            try first | rfl | assumption
          refine hK.out _ _ ⟨(by rw [ha.out]; exact putSel_upk 24 hb_ rfl rfl rfl), Q_HA, Q_GM⟩
        exact steps_nil
      rintro b a wy hall ⟨ha, Q_HA, Q_GM⟩
      clear GM HA
      have hb0_ := hall 0 (by kernel_rfl)
      have hb1_ := hall 1 (by kernel_rfl)
      have hb2_ := hall 2 (by kernel_rfl)
      have hb3_ := hall 3 (by kernel_rfl)
      have hb4_ := hall 4 (by kernel_rfl)
      have hb5_ := hall 5 (by kernel_rfl)
      have hb6_ := hall 6 (by kernel_rfl)
      have hb7_ := hall 7 (by kernel_rfl)
      have hb8_ := hall 8 (by kernel_rfl)
      have hb9_ := hall 9 (by kernel_rfl)
      have hb10_ := hall 10 (by kernel_rfl)
      have hb11_ := hall 11 (by kernel_rfl)
      have hb12_ := hall 12 (by kernel_rfl)
      have hb13_ := hall 13 (by kernel_rfl)
      have hb14_ := hall 14 (by kernel_rfl)
      have hb15_ := hall 15 (by kernel_rfl)
      have hb16_ := hall 16 (by kernel_rfl)
      have hb17_ := hall 17 (by kernel_rfl)
      have hb18_ := hall 18 (by kernel_rfl)
      have hb19_ := hall 19 (by kernel_rfl)
      have hb20_ := hall 20 (by kernel_rfl)
      have hb21_ := hall 21 (by kernel_rfl)
      have hb22_ := hall 22 (by kernel_rfl)
      have hb23_ := hall 23 (by kernel_rfl)
      have hb24_ := hall 24 (by kernel_rfl)
      subst ha
      simp only [putSel, hb0_, hb1_, hb2_, hb3_, hb4_, hb5_, hb6_, hb7_, hb8_, hb9_, hb10_, hb11_, hb12_, hb13_, hb14_, hb15_, hb16_, hb17_, hb18_, hb19_, hb20_, hb21_, hb22_, hb23_, hb24_, if_true, Act.put, List.setIfInBounds_toArray, List.set_cons_zero, List.set_cons_succ]
      have HA := Aside0.mk Q_HA
      clear Q_HA
      have GM := Aside0.mk Q_GM
      clear Q_GM
      clear hall hb0_ hb1_ hb2_ hb3_ hb4_ hb5_ hb6_ hb7_ hb8_ hb9_ hb10_ hb11_ hb12_ hb13_ hb14_ hb15_ hb16_ hb17_ hb18_ hb19_ hb20_ hb21_ hb22_ hb23_ hb24_
      go_wp2_with fail
      go_roundw
      case rel => exact ⟨k + 1, by omega, by go_num, ⟨HB.out.trans ((HX.out.trans (HA.out.mono HX.out.size)).mono HB.out.size)⟩⟩
      case measure => first | (simp [intOf]; done) | (simp [intOf]; omega)
    · obtain rfl : k = am.length := by omega
      have X_0 := Aside0.mk (blk_below X2.out HB.out)
      have CN := Aside0.mk (Kd.C_below V2.out HB.out)
      have BW := Aside0.mk (W2.out.trans (HB.out.mono W2.out.size))
      clear hlt hk X2 V2 W2 A2 B2 HB hPa hPb hPl hrd hHv hMy hNe
      rcases hqq with hz | ⟨q, hq, hql⟩
      · have hz1 : ((am.length : Int) == 0) = true := beq_iff_eq.2 (by omega)
        clear hz hUx hUy
        go_wp2_with (go_at_call 14; refine (hAw.out wr BW.out).mono ?_; rintro e w4 ⟨rfl, hb⟩; have HB4 := Aside0.mk hb; clear hb)
        go_ret
        exact ⟨rfl, BW.out.trans (HB4.out.mono BW.out.size)⟩
      · have hz1 : ((am.length : Int) == 0) = false := beq_eq_false_iff_ne.2 (by omega)
        have hw9 : IntKind.u64.wrap (am.length : Int) = (am.length : Int) := by
          have e : IntKind.u64.wrap (am.length : Int) = (am.length : Int) % 18446744073709551616 := by simp [IntKind.wrap, IntKind.bits, IntKind.signed]
          rw [e]
          omega
        have hz8 : ¬ ((am.length : Int) = 0) := by omega
        obtain ⟨adM, A6, c6, e1, hm0, hm1, hm2, hm3, hm4, hm5, hm6, hc6, hC6⟩ := at_T34 (Kd.C_below HC5.out BW.out) (q : Int) (by omega) (by omega)
        cases e1
        rw [Int.toNat_natCast] at hm0
        rw [rdm_nat am hql] at hm0
        have hX1 := Aside0.mk (hUx.out q hql)
        have hY1 := Aside0.mk (hUy.out q hql)
        have hq7 : (q : Int) < (am.length : Int) := by omega
        have HKK : Aside0 (wrap64 ((q : Int) + 1) = (q : Int) + 1) := ⟨w64s (by omega) (by omega)⟩
        clear hUx hUy hm1 hm2 hm3 hm4 hm5 hm6 hc6 hC6
        generalize am[q] = m at *
        clear hql
        have hx5 := blk_cell X_0.out 5
        have GX := X_0
        have HA := Aside0.mk (Below.refl wr.heap.size wr)
        go_upto_region 18 with fail
        rw [hq]
        clear hx5 hm0 hq hz1 hw9 hz8
        refine start_ (n := 18) (S := fun w' => True) (ds := []) #[false, false, false, false, false, false, false, false, false, false, false, false, false, false, false, false, false, false] (by kernel_rfl) rfl rfl trivial (fun hHeld => ?_)
        refine with_tabW t_mailsacklaw23_ToldPicks.tab18 t_mailsacklaw23_ToldPicks.bits18 (fun HT_ HW_ => ?_)
        have hd_ := (below_drew1 (Below.refl wr.heap.size wr))
        have n_HA := Aside0.mk (HA.out.drew)
        have n_GX := Aside0.mk ((show wr.drew.heap[g_X]? = _ from GX.out))
        clear HA
        have HA := n_HA
        clear n_HA
        clear GX
        have GX := n_GX
        clear n_GX
        generalize wr.drew = w_d at *
        clear hd_
        refine inv_at [0, 1, 2, 3, 4, 5, 6, 7, 8, 9, 10, 11, 12, 13, 14, 15, 16, 17] (fun a0_ b a w' => ∃ (A110 : Option Addr) (c110 : Nat) (A111 : Option Addr) (c111 : Nat) (A119 : Option Addr) (c119 : Nat) (A120 : Option Addr) (c120 : Nat) (m5_ : Value) (m6_ : Value) (m14_ : Value) (m15_ : Value) (m16_ : Value) (m17_ : Value), a = putSel a0_ b [(0, 105, .slice AN am.length cN), (1, 106, .agg #[.string a0, .int .i64 a1, .int .i64 a2, .int .i64 a3, .slice aA4 aw.length ac4, .slice (some adM) am.length ac5]), (2, 107, .int .i64 m.f0), (3, 108, .int .i64 m.f0), (4, 109, .agg #[.int .i64 m.f0, .int .i64 m.f0]), (5, 110, m5_), (6, 111, m6_), (7, 112, .slice AN am.length cN), (8, 113, .agg #[.string a0, .int .i64 a1, .int .i64 a2, .int .i64 a3, .slice aA4 aw.length ac4, .slice (some adM) am.length ac5]), (9, 114, .int .i64 (q : Int)), (10, 115, .int .i64 ((q : Int) + 1)), (11, 116, .int .i64 (q : Int)), (12, 117, .int .i64 ((q : Int) + 1)), (13, 118, .agg #[.int .i64 ((q : Int) + 1), .int .i64 ((q : Int) + 1)]), (14, 119, m14_), (15, 120, m15_), (16, 11, m16_), (17, 12, m17_)] ∧ (Below wr.heap.size wr w') ∧ (w'.heap[g_X]? = some (.cells #[.string a0, .int .i64 a1, .int .i64 a2, .int .i64 a3, .slice aA4 aw.length ac4, .slice (some adM) am.length ac5] 25 (0, 0))) ∧ (b 5 = true → OneSp w' A110 m.f0 m.f0) ∧ (b 6 = true → Kd.C (Kd.int .i64) w' A111 1 [m.f0]) ∧ (b 14 = true → OneSp w' A119 ((q : Int) + 1) ((q : Int) + 1)) ∧ (b 15 = true → Kd.C (Kd.int .i64) w' A120 1 [m.f0]) ∧ (b 5 = true → (m5_ : Value) = .slice A110 1 c110) ∧ (b 6 = true → (m6_ : Value) = .slice A111 1 c111) ∧ (b 14 = true → (m14_ : Value) = .slice A119 1 c119) ∧ (b 15 = true → (m15_ : Value) = .slice A120 1 c120) ∧ (b 16 = true → (m16_ : Value) = .slice A111 1 c111) ∧ (b 17 = true → (m17_ : Value) = .slice A120 1 c120)) HT_.out HW_.out (by kernel_rfl) (by kernel_rfl) ?_ ?_ ?_
        · exact ⟨none, 0, none, 0, none, 0, none, 0, .bool false, .bool false, .bool false, .bool false, .bool false, .bool false, by simp only [putSel, Bool.false_eq_true, if_false], HA.out, GX.out, fun h_ => absurd h_ (by decide), fun h_ => absurd h_ (by decide), fun h_ => absurd h_ (by decide), fun h_ => absurd h_ (by decide), fun h_ => absurd h_ (by decide), fun h_ => absurd h_ (by decide), fun h_ => absurd h_ (by decide), fun h_ => absurd h_ (by decide), fun h_ => absurd h_ (by decide), fun h_ => absurd h_ (by decide)⟩
        · skip
          clear GX HA
          refine steps_cons ?_ ?_
          · rintro b a w' ⟨A110, c110, A111, c111, A119, c119, A120, c120, m5_, m6_, m14_, m15_, m16_, m17_, ha, Q_HA, Q_GX, Q_S110, Q_P111, Q_S119, Q_P120, Q_X5_, Q_X6_, Q_X14_, Q_X15_, Q_X16_, Q_X17_⟩ hb_ hon hoff
            refine ⟨_, rfl, fun K hK => ?_⟩
            have e5 : a.tmps[5]? = some (.slice AN am.length cN) := by rw [ha]; exact (putSel_off rfl).trans rfl
            replace ha := Aside0.mk ha
            refine value_ (w1 := w') (v := .slice AN am.length cN) (by rfl) rfl ?_ ?_
            · go_simp
              try first | rfl | assumption
            refine hK.out _ _ ⟨A110, c110, A111, c111, A119, c119, A120, c120, m5_, m6_, m14_, m15_, m16_, m17_, (by rw [ha.out]; exact putSel_upk 0 hb_ rfl rfl rfl), Q_HA, Q_GX, Q_S110, fun h0_ => absurd ((hoff 6 (by kernel_rfl)).symm.trans h0_) (by decide), Q_S119, fun h0_ => absurd ((hoff 15 (by kernel_rfl)).symm.trans h0_) (by decide), Q_X5_, fun h0_ => absurd ((hoff 6 (by kernel_rfl)).symm.trans h0_) (by decide), Q_X14_, fun h0_ => absurd ((hoff 15 (by kernel_rfl)).symm.trans h0_) (by decide), fun h0_ => absurd ((hoff 16 (by kernel_rfl)).symm.trans h0_) (by decide), fun h0_ => absurd ((hoff 17 (by kernel_rfl)).symm.trans h0_) (by decide)⟩
          refine steps_cons ?_ ?_
          · rintro b a w' ⟨A110, c110, A111, c111, A119, c119, A120, c120, m5_, m6_, m14_, m15_, m16_, m17_, ha, Q_HA, Q_GX, Q_S110, Q_P111, Q_S119, Q_P120, Q_X5_, Q_X6_, Q_X14_, Q_X15_, Q_X16_, Q_X17_⟩ hb_ hon hoff
            refine ⟨_, rfl, fun K hK => ?_⟩
            have e2 : a.tmps[2]? = some (.pointer (some ⟨g_X, 0, none⟩)) := by rw [ha]; exact (putSel_off rfl).trans rfl
            replace ha := Aside0.mk ha
            have GX := Aside0.mk Q_GX
            have hc0 := blk_cell GX.out 0; have hc1 := blk_cell GX.out 1; have hc2 := blk_cell GX.out 2; have hc3 := blk_cell GX.out 3; have hc4 := blk_cell GX.out 4; have hc5 := blk_cell GX.out 5
            refine value_ (w1 := w') (v := .agg #[.string a0, .int .i64 a1, .int .i64 a2, .int .i64 a3, .slice aA4 aw.length ac4, .slice (some adM) am.length ac5]) (by rfl) rfl ?_ ?_
            · go_simp
              try first | rfl | assumption
            refine hK.out _ _ ⟨A110, c110, A111, c111, A119, c119, A120, c120, m5_, m6_, m14_, m15_, m16_, m17_, (by rw [ha.out]; exact putSel_upk 1 hb_ rfl rfl rfl), Q_HA, Q_GX, Q_S110, fun h0_ => absurd ((hoff 6 (by kernel_rfl)).symm.trans h0_) (by decide), Q_S119, fun h0_ => absurd ((hoff 15 (by kernel_rfl)).symm.trans h0_) (by decide), Q_X5_, fun h0_ => absurd ((hoff 6 (by kernel_rfl)).symm.trans h0_) (by decide), Q_X14_, fun h0_ => absurd ((hoff 15 (by kernel_rfl)).symm.trans h0_) (by decide), fun h0_ => absurd ((hoff 16 (by kernel_rfl)).symm.trans h0_) (by decide), fun h0_ => absurd ((hoff 17 (by kernel_rfl)).symm.trans h0_) (by decide)⟩
          refine steps_cons ?_ ?_
          · rintro b a w' ⟨A110, c110, A111, c111, A119, c119, A120, c120, m5_, m6_, m14_, m15_, m16_, m17_, ha, Q_HA, Q_GX, Q_S110, Q_P111, Q_S119, Q_P120, Q_X5_, Q_X6_, Q_X14_, Q_X15_, Q_X16_, Q_X17_⟩ hb_ hon hoff
            refine ⟨_, rfl, fun K hK => ?_⟩
            have e10 : a.tmps[10]? = some (.int .i64 m.f0) := by rw [ha]; exact (putSel_off rfl).trans rfl
            replace ha := Aside0.mk ha
            refine value_ (w1 := w') (v := .int .i64 m.f0) (by rfl) rfl ?_ ?_
            · go_simp
              (try simp only [i64_w])
              try first | rfl | assumption
            refine hK.out _ _ ⟨A110, c110, A111, c111, A119, c119, A120, c120, m5_, m6_, m14_, m15_, m16_, m17_, (by rw [ha.out]; exact putSel_upk 2 hb_ rfl rfl rfl), Q_HA, Q_GX, fun h0_ => absurd ((hoff 5 (by kernel_rfl)).symm.trans h0_) (by decide), fun h0_ => absurd ((hoff 6 (by kernel_rfl)).symm.trans h0_) (by decide), Q_S119, fun h0_ => absurd ((hoff 15 (by kernel_rfl)).symm.trans h0_) (by decide), fun h0_ => absurd ((hoff 5 (by kernel_rfl)).symm.trans h0_) (by decide), fun h0_ => absurd ((hoff 6 (by kernel_rfl)).symm.trans h0_) (by decide), Q_X14_, fun h0_ => absurd ((hoff 15 (by kernel_rfl)).symm.trans h0_) (by decide), fun h0_ => absurd ((hoff 16 (by kernel_rfl)).symm.trans h0_) (by decide), fun h0_ => absurd ((hoff 17 (by kernel_rfl)).symm.trans h0_) (by decide)⟩
          refine steps_cons ?_ ?_
          · rintro b a w' ⟨A110, c110, A111, c111, A119, c119, A120, c120, m5_, m6_, m14_, m15_, m16_, m17_, ha, Q_HA, Q_GX, Q_S110, Q_P111, Q_S119, Q_P120, Q_X5_, Q_X6_, Q_X14_, Q_X15_, Q_X16_, Q_X17_⟩ hb_ hon hoff
            refine ⟨_, rfl, fun K hK => ?_⟩
            have e10 : a.tmps[10]? = some (.int .i64 m.f0) := by rw [ha]; exact (putSel_off rfl).trans rfl
            replace ha := Aside0.mk ha
            refine value_ (w1 := w') (v := .int .i64 m.f0) (by rfl) rfl ?_ ?_
            · go_simp
              (try simp only [i64_w])
              try first | rfl | assumption
            refine hK.out _ _ ⟨A110, c110, A111, c111, A119, c119, A120, c120, m5_, m6_, m14_, m15_, m16_, m17_, (by rw [ha.out]; exact putSel_upk 3 hb_ rfl rfl rfl), Q_HA, Q_GX, fun h0_ => absurd ((hoff 5 (by kernel_rfl)).symm.trans h0_) (by decide), fun h0_ => absurd ((hoff 6 (by kernel_rfl)).symm.trans h0_) (by decide), Q_S119, fun h0_ => absurd ((hoff 15 (by kernel_rfl)).symm.trans h0_) (by decide), fun h0_ => absurd ((hoff 5 (by kernel_rfl)).symm.trans h0_) (by decide), fun h0_ => absurd ((hoff 6 (by kernel_rfl)).symm.trans h0_) (by decide), Q_X14_, fun h0_ => absurd ((hoff 15 (by kernel_rfl)).symm.trans h0_) (by decide), fun h0_ => absurd ((hoff 16 (by kernel_rfl)).symm.trans h0_) (by decide), fun h0_ => absurd ((hoff 17 (by kernel_rfl)).symm.trans h0_) (by decide)⟩
          refine steps_cons ?_ ?_
          · rintro b a w' ⟨A110, c110, A111, c111, A119, c119, A120, c120, m5_, m6_, m14_, m15_, m16_, m17_, ha, Q_HA, Q_GX, Q_S110, Q_P111, Q_S119, Q_P120, Q_X5_, Q_X6_, Q_X14_, Q_X15_, Q_X16_, Q_X17_⟩ hb_ hon hoff
            refine ⟨_, rfl, fun K hK => ?_⟩
            have e107 : a.tmps[107]? = some (.int .i64 m.f0) := by rw [ha]; exact putSel_on (e := (2, 107, .int .i64 m.f0)) 2 rfl rfl (hon 2 (by kernel_rfl)) rfl
            have e108 : a.tmps[108]? = some (.int .i64 m.f0) := by rw [ha]; exact putSel_on (e := (3, 108, .int .i64 m.f0)) 3 rfl rfl (hon 3 (by kernel_rfl)) rfl
            replace ha := Aside0.mk ha
            refine value_ (w1 := w') (v := .agg #[.int .i64 m.f0, .int .i64 m.f0]) (by rfl) rfl ?_ ?_
            · go_simp
              try first | rfl | assumption
            refine hK.out _ _ ⟨A110, c110, A111, c111, A119, c119, A120, c120, m5_, m6_, m14_, m15_, m16_, m17_, (by rw [ha.out]; exact putSel_upk 4 hb_ rfl rfl rfl), Q_HA, Q_GX, fun h0_ => absurd ((hoff 5 (by kernel_rfl)).symm.trans h0_) (by decide), fun h0_ => absurd ((hoff 6 (by kernel_rfl)).symm.trans h0_) (by decide), Q_S119, fun h0_ => absurd ((hoff 15 (by kernel_rfl)).symm.trans h0_) (by decide), fun h0_ => absurd ((hoff 5 (by kernel_rfl)).symm.trans h0_) (by decide), fun h0_ => absurd ((hoff 6 (by kernel_rfl)).symm.trans h0_) (by decide), Q_X14_, fun h0_ => absurd ((hoff 15 (by kernel_rfl)).symm.trans h0_) (by decide), fun h0_ => absurd ((hoff 16 (by kernel_rfl)).symm.trans h0_) (by decide), fun h0_ => absurd ((hoff 17 (by kernel_rfl)).symm.trans h0_) (by decide)⟩
          refine steps_cons ?_ ?_
          · rintro b a w' ⟨A110, c110, A111, c111, A119, c119, A120, c120, m5_, m6_, m14_, m15_, m16_, m17_, ha, Q_HA, Q_GX, Q_S110, Q_P111, Q_S119, Q_P120, Q_X5_, Q_X6_, Q_X14_, Q_X15_, Q_X16_, Q_X17_⟩ hb_ hon hoff
            refine ⟨_, rfl, fun K hK => ?_⟩
            have e109 : a.tmps[109]? = some (.agg #[.int .i64 m.f0, .int .i64 m.f0]) := by rw [ha]; exact putSel_on (e := (4, 109, .agg #[.int .i64 m.f0, .int .i64 m.f0])) 4 rfl rfl (hon 4 (by kernel_rfl)) rfl
            replace ha := Aside0.mk ha
            have HA := Aside0.mk Q_HA
            have GX := Aside0.mk Q_GX
            refine Kd.R_lit_step dSp (w0 := wr) (xs := [(m.f0, m.f0)]) (inner := [.int .i64 m.f0, .int .i64 m.f0]) (ok := fun _ => True) (okp := fun _ => True) wr.heap.size 49 (by rfl) rfl ?_ (reps_sp _ _ _ _) (fun _ h => h) trivial HA.out HA.out.size (by simp) ?_
            · go_simp
            intro v1 w1 ho hb hg hat
            obtain ⟨A9', c9', e9, h9, hC9⟩ := Kd.R_reads ho
            replace e9 : v1 = .slice A9' 1 c9' := e9
            subst e9
            have hn_ := below_new hg
            refine hK.out _ _ ⟨A9', c9', A111, c111, A119, c119, A120, c120, (.slice A9' 1 c9'), m6_, m14_, m15_, m16_, m17_, (by rw [ha.out]; exact putSel_upk 5 hb_ rfl rfl rfl), hb, blk_below GX.out hn_, fun _ => onesp_of hC9, fun h0_ => absurd ((hoff 6 (by kernel_rfl)).symm.trans h0_) (by decide), fun h0_ => (Q_S119 h0_).below hn_, fun h0_ => absurd ((hoff 15 (by kernel_rfl)).symm.trans h0_) (by decide), fun _ => rfl, fun h0_ => absurd ((hoff 6 (by kernel_rfl)).symm.trans h0_) (by decide), Q_X14_, fun h0_ => absurd ((hoff 15 (by kernel_rfl)).symm.trans h0_) (by decide), fun h0_ => absurd ((hoff 16 (by kernel_rfl)).symm.trans h0_) (by decide), fun h0_ => absurd ((hoff 17 (by kernel_rfl)).symm.trans h0_) (by decide)⟩
          refine steps_cons ?_ ?_
          · rintro b a w' ⟨A110, c110, A111, c111, A119, c119, A120, c120, m5_, m6_, m14_, m15_, m16_, m17_, ha, Q_HA, Q_GX, Q_S110, Q_P111, Q_S119, Q_P120, Q_X5_, Q_X6_, Q_X14_, Q_X15_, Q_X16_, Q_X17_⟩ hb_ hon hoff
            refine ⟨_, rfl, fun K hK => ?_⟩
            have e105 : a.tmps[105]? = some (.slice AN am.length cN) := by rw [ha]; exact putSel_on (e := (0, 105, .slice AN am.length cN)) 0 rfl rfl (hon 0 (by kernel_rfl)) rfl
            have e106 : a.tmps[106]? = some (.agg #[.string a0, .int .i64 a1, .int .i64 a2, .int .i64 a3, .slice aA4 aw.length ac4, .slice (some adM) am.length ac5]) := by rw [ha]; exact putSel_on (e := (1, 106, .agg #[.string a0, .int .i64 a1, .int .i64 a2, .int .i64 a3, .slice aA4 aw.length ac4, .slice (some adM) am.length ac5])) 1 rfl rfl (hon 1 (by kernel_rfl)) rfl
            have e110 : a.tmps[110]? = some (m5_) := by rw [ha]; exact putSel_on (e := (5, 110, m5_)) 5 rfl rfl (hon 5 (by kernel_rfl)) rfl
            rw [Q_X5_ (hon 5 (by kernel_rfl))] at e110
            replace ha := Aside0.mk ha
            have HA := Aside0.mk Q_HA
            have GX := Aside0.mk Q_GX
            have S110 := Aside0.mk (Q_S110 (hon 5 (by kernel_rfl)))
            refine goes_ Tryd.func19 (by kernel_rfl) rfl #[.slice AN am.length cN, .agg #[.string a0, .int .i64 a1, .int .i64 a2, .int .i64 a3, .slice aA4 aw.length ac4, .slice (some adM) am.length ac5], .slice A110 1 c110, .bool true] (by rfl) rfl rfl (by first | (simp only [List.map_toArray, List.map_cons, List.map_nil, Act.eval, Array.getD_eq_getD_getElem?, Option.getD_some, e105, e106, e110]; done) | (simp only [List.map_toArray, List.map_cons, List.map_nil, Act.eval, Array.getD_eq_getD_getElem?, Option.getD_some, e105, e106, e110]; rfl)) ?_
            with_reducible refine (hX1.out AN cN A110 c110 w' (BW.out.trans (HA.out.mono BW.out.size)) (Kd.C_below CN.out HA.out) LN.out S110.out).mono ?_
            rintro e wq ⟨A9', c9', rfl, h9, hb⟩
            refine ⟨_, rfl, ?_⟩
            refine hK.out _ _ ⟨A110, c110, A9', c9', A119, c119, A120, c120, m5_, (.slice A9' 1 c9'), m14_, m15_, m16_, m17_, (by rw [ha.out]; exact putSel_upk 6 hb_ rfl rfl rfl), HA.out.trans (hb.mono HA.out.size), blk_below GX.out hb, fun _ => S110.out.below hb, fun _ => h9, fun h0_ => (Q_S119 h0_).below hb, fun h0_ => absurd ((hoff 15 (by kernel_rfl)).symm.trans h0_) (by decide), Q_X5_, fun _ => rfl, Q_X14_, fun h0_ => absurd ((hoff 15 (by kernel_rfl)).symm.trans h0_) (by decide), fun h0_ => absurd ((hoff 16 (by kernel_rfl)).symm.trans h0_) (by decide), fun h0_ => absurd ((hoff 17 (by kernel_rfl)).symm.trans h0_) (by decide)⟩
          refine steps_cons ?_ ?_
          · rintro b a w' ⟨A110, c110, A111, c111, A119, c119, A120, c120, m5_, m6_, m14_, m15_, m16_, m17_, ha, Q_HA, Q_GX, Q_S110, Q_P111, Q_S119, Q_P120, Q_X5_, Q_X6_, Q_X14_, Q_X15_, Q_X16_, Q_X17_⟩ hb_ hon hoff
            refine ⟨_, rfl, fun K hK => ?_⟩
            have e5 : a.tmps[5]? = some (.slice AN am.length cN) := by rw [ha]; exact (putSel_off rfl).trans rfl
            replace ha := Aside0.mk ha
            refine value_ (w1 := w') (v := .slice AN am.length cN) (by rfl) rfl ?_ ?_
            · go_simp
              try first | rfl | assumption
            refine hK.out _ _ ⟨A110, c110, A111, c111, A119, c119, A120, c120, m5_, m6_, m14_, m15_, m16_, m17_, (by rw [ha.out]; exact putSel_upk 7 hb_ rfl rfl rfl), Q_HA, Q_GX, Q_S110, Q_P111, Q_S119, fun h0_ => absurd ((hoff 15 (by kernel_rfl)).symm.trans h0_) (by decide), Q_X5_, Q_X6_, Q_X14_, fun h0_ => absurd ((hoff 15 (by kernel_rfl)).symm.trans h0_) (by decide), fun h0_ => absurd ((hoff 16 (by kernel_rfl)).symm.trans h0_) (by decide), fun h0_ => absurd ((hoff 17 (by kernel_rfl)).symm.trans h0_) (by decide)⟩
          refine steps_cons ?_ ?_
          · rintro b a w' ⟨A110, c110, A111, c111, A119, c119, A120, c120, m5_, m6_, m14_, m15_, m16_, m17_, ha, Q_HA, Q_GX, Q_S110, Q_P111, Q_S119, Q_P120, Q_X5_, Q_X6_, Q_X14_, Q_X15_, Q_X16_, Q_X17_⟩ hb_ hon hoff
            refine ⟨_, rfl, fun K hK => ?_⟩
            have e2 : a.tmps[2]? = some (.pointer (some ⟨g_X, 0, none⟩)) := by rw [ha]; exact (putSel_off rfl).trans rfl
            replace ha := Aside0.mk ha
            have GX := Aside0.mk Q_GX
            have hc0 := blk_cell GX.out 0; have hc1 := blk_cell GX.out 1; have hc2 := blk_cell GX.out 2; have hc3 := blk_cell GX.out 3; have hc4 := blk_cell GX.out 4; have hc5 := blk_cell GX.out 5
            refine value_ (w1 := w') (v := .agg #[.string a0, .int .i64 a1, .int .i64 a2, .int .i64 a3, .slice aA4 aw.length ac4, .slice (some adM) am.length ac5]) (by rfl) rfl ?_ ?_
            · go_simp
              try first | rfl | assumption
            refine hK.out _ _ ⟨A110, c110, A111, c111, A119, c119, A120, c120, m5_, m6_, m14_, m15_, m16_, m17_, (by rw [ha.out]; exact putSel_upk 8 hb_ rfl rfl rfl), Q_HA, Q_GX, Q_S110, Q_P111, Q_S119, fun h0_ => absurd ((hoff 15 (by kernel_rfl)).symm.trans h0_) (by decide), Q_X5_, Q_X6_, Q_X14_, fun h0_ => absurd ((hoff 15 (by kernel_rfl)).symm.trans h0_) (by decide), fun h0_ => absurd ((hoff 16 (by kernel_rfl)).symm.trans h0_) (by decide), fun h0_ => absurd ((hoff 17 (by kernel_rfl)).symm.trans h0_) (by decide)⟩
          refine steps_cons ?_ ?_
          · rintro b a w' ⟨A110, c110, A111, c111, A119, c119, A120, c120, m5_, m6_, m14_, m15_, m16_, m17_, ha, Q_HA, Q_GX, Q_S110, Q_P111, Q_S119, Q_P120, Q_X5_, Q_X6_, Q_X14_, Q_X15_, Q_X16_, Q_X17_⟩ hb_ hon hoff
            refine ⟨_, rfl, fun K hK => ?_⟩
            have e1 : a.tmps[1]? = some (.int .i64 (q : Int)) := by rw [ha]; exact (putSel_off rfl).trans rfl
            replace ha := Aside0.mk ha
            refine value_ (w1 := w') (v := .int .i64 (q : Int)) (by rfl) rfl ?_ ?_
            · go_simp
              (try simp only [i64_w])
              try first | rfl | assumption
            refine hK.out _ _ ⟨A110, c110, A111, c111, A119, c119, A120, c120, m5_, m6_, m14_, m15_, m16_, m17_, (by rw [ha.out]; exact putSel_upk 9 hb_ rfl rfl rfl), Q_HA, Q_GX, Q_S110, Q_P111, fun h0_ => absurd ((hoff 14 (by kernel_rfl)).symm.trans h0_) (by decide), fun h0_ => absurd ((hoff 15 (by kernel_rfl)).symm.trans h0_) (by decide), Q_X5_, Q_X6_, fun h0_ => absurd ((hoff 14 (by kernel_rfl)).symm.trans h0_) (by decide), fun h0_ => absurd ((hoff 15 (by kernel_rfl)).symm.trans h0_) (by decide), fun h0_ => absurd ((hoff 16 (by kernel_rfl)).symm.trans h0_) (by decide), fun h0_ => absurd ((hoff 17 (by kernel_rfl)).symm.trans h0_) (by decide)⟩
          refine steps_cons ?_ ?_
          · rintro b a w' ⟨A110, c110, A111, c111, A119, c119, A120, c120, m5_, m6_, m14_, m15_, m16_, m17_, ha, Q_HA, Q_GX, Q_S110, Q_P111, Q_S119, Q_P120, Q_X5_, Q_X6_, Q_X14_, Q_X15_, Q_X16_, Q_X17_⟩ hb_ hon hoff
            refine ⟨_, rfl, fun K hK => ?_⟩
            have e114 : a.tmps[114]? = some (.int .i64 (q : Int)) := by rw [ha]; exact putSel_on (e := (9, 114, .int .i64 (q : Int))) 9 rfl rfl (hon 9 (by kernel_rfl)) rfl
            replace ha := Aside0.mk ha
            have hww := HKK.out
            refine value_ (w1 := w') (v := .int .i64 ((q : Int) + 1)) (by rfl) rfl ?_ ?_
            · go_simp
              (try simp only [i64_w])
              try first | rfl | assumption
            refine hK.out _ _ ⟨A110, c110, A111, c111, A119, c119, A120, c120, m5_, m6_, m14_, m15_, m16_, m17_, (by rw [ha.out]; exact putSel_upk 10 hb_ rfl rfl rfl), Q_HA, Q_GX, Q_S110, Q_P111, fun h0_ => absurd ((hoff 14 (by kernel_rfl)).symm.trans h0_) (by decide), fun h0_ => absurd ((hoff 15 (by kernel_rfl)).symm.trans h0_) (by decide), Q_X5_, Q_X6_, fun h0_ => absurd ((hoff 14 (by kernel_rfl)).symm.trans h0_) (by decide), fun h0_ => absurd ((hoff 15 (by kernel_rfl)).symm.trans h0_) (by decide), fun h0_ => absurd ((hoff 16 (by kernel_rfl)).symm.trans h0_) (by decide), fun h0_ => absurd ((hoff 17 (by kernel_rfl)).symm.trans h0_) (by decide)⟩
          refine steps_cons ?_ ?_
          · rintro b a w' ⟨A110, c110, A111, c111, A119, c119, A120, c120, m5_, m6_, m14_, m15_, m16_, m17_, ha, Q_HA, Q_GX, Q_S110, Q_P111, Q_S119, Q_P120, Q_X5_, Q_X6_, Q_X14_, Q_X15_, Q_X16_, Q_X17_⟩ hb_ hon hoff
            refine ⟨_, rfl, fun K hK => ?_⟩
            have e1 : a.tmps[1]? = some (.int .i64 (q : Int)) := by rw [ha]; exact (putSel_off rfl).trans rfl
            replace ha := Aside0.mk ha
            refine value_ (w1 := w') (v := .int .i64 (q : Int)) (by rfl) rfl ?_ ?_
            · go_simp
              (try simp only [i64_w])
              try first | rfl | assumption
            refine hK.out _ _ ⟨A110, c110, A111, c111, A119, c119, A120, c120, m5_, m6_, m14_, m15_, m16_, m17_, (by rw [ha.out]; exact putSel_upk 11 hb_ rfl rfl rfl), Q_HA, Q_GX, Q_S110, Q_P111, fun h0_ => absurd ((hoff 14 (by kernel_rfl)).symm.trans h0_) (by decide), fun h0_ => absurd ((hoff 15 (by kernel_rfl)).symm.trans h0_) (by decide), Q_X5_, Q_X6_, fun h0_ => absurd ((hoff 14 (by kernel_rfl)).symm.trans h0_) (by decide), fun h0_ => absurd ((hoff 15 (by kernel_rfl)).symm.trans h0_) (by decide), fun h0_ => absurd ((hoff 16 (by kernel_rfl)).symm.trans h0_) (by decide), fun h0_ => absurd ((hoff 17 (by kernel_rfl)).symm.trans h0_) (by decide)⟩
          refine steps_cons ?_ ?_
          · rintro b a w' ⟨A110, c110, A111, c111, A119, c119, A120, c120, m5_, m6_, m14_, m15_, m16_, m17_, ha, Q_HA, Q_GX, Q_S110, Q_P111, Q_S119, Q_P120, Q_X5_, Q_X6_, Q_X14_, Q_X15_, Q_X16_, Q_X17_⟩ hb_ hon hoff
            refine ⟨_, rfl, fun K hK => ?_⟩
            have e116 : a.tmps[116]? = some (.int .i64 (q : Int)) := by rw [ha]; exact putSel_on (e := (11, 116, .int .i64 (q : Int))) 11 rfl rfl (hon 11 (by kernel_rfl)) rfl
            replace ha := Aside0.mk ha
            have hww := HKK.out
            refine value_ (w1 := w') (v := .int .i64 ((q : Int) + 1)) (by rfl) rfl ?_ ?_
            · go_simp
              (try simp only [i64_w])
              try first | rfl | assumption
            refine hK.out _ _ ⟨A110, c110, A111, c111, A119, c119, A120, c120, m5_, m6_, m14_, m15_, m16_, m17_, (by rw [ha.out]; exact putSel_upk 12 hb_ rfl rfl rfl), Q_HA, Q_GX, Q_S110, Q_P111, fun h0_ => absurd ((hoff 14 (by kernel_rfl)).symm.trans h0_) (by decide), fun h0_ => absurd ((hoff 15 (by kernel_rfl)).symm.trans h0_) (by decide), Q_X5_, Q_X6_, fun h0_ => absurd ((hoff 14 (by kernel_rfl)).symm.trans h0_) (by decide), fun h0_ => absurd ((hoff 15 (by kernel_rfl)).symm.trans h0_) (by decide), fun h0_ => absurd ((hoff 16 (by kernel_rfl)).symm.trans h0_) (by decide), fun h0_ => absurd ((hoff 17 (by kernel_rfl)).symm.trans h0_) (by decide)⟩
          refine steps_cons ?_ ?_
          · rintro b a w' ⟨A110, c110, A111, c111, A119, c119, A120, c120, m5_, m6_, m14_, m15_, m16_, m17_, ha, Q_HA, Q_GX, Q_S110, Q_P111, Q_S119, Q_P120, Q_X5_, Q_X6_, Q_X14_, Q_X15_, Q_X16_, Q_X17_⟩ hb_ hon hoff
            refine ⟨_, rfl, fun K hK => ?_⟩
            have e115 : a.tmps[115]? = some (.int .i64 ((q : Int) + 1)) := by rw [ha]; exact putSel_on (e := (10, 115, .int .i64 ((q : Int) + 1))) 10 rfl rfl (hon 10 (by kernel_rfl)) rfl
            have e117 : a.tmps[117]? = some (.int .i64 ((q : Int) + 1)) := by rw [ha]; exact putSel_on (e := (12, 117, .int .i64 ((q : Int) + 1))) 12 rfl rfl (hon 12 (by kernel_rfl)) rfl
            replace ha := Aside0.mk ha
            refine value_ (w1 := w') (v := .agg #[.int .i64 ((q : Int) + 1), .int .i64 ((q : Int) + 1)]) (by rfl) rfl ?_ ?_
            · go_simp
              try first | rfl | assumption
            refine hK.out _ _ ⟨A110, c110, A111, c111, A119, c119, A120, c120, m5_, m6_, m14_, m15_, m16_, m17_, (by rw [ha.out]; exact putSel_upk 13 hb_ rfl rfl rfl), Q_HA, Q_GX, Q_S110, Q_P111, fun h0_ => absurd ((hoff 14 (by kernel_rfl)).symm.trans h0_) (by decide), fun h0_ => absurd ((hoff 15 (by kernel_rfl)).symm.trans h0_) (by decide), Q_X5_, Q_X6_, fun h0_ => absurd ((hoff 14 (by kernel_rfl)).symm.trans h0_) (by decide), fun h0_ => absurd ((hoff 15 (by kernel_rfl)).symm.trans h0_) (by decide), fun h0_ => absurd ((hoff 16 (by kernel_rfl)).symm.trans h0_) (by decide), fun h0_ => absurd ((hoff 17 (by kernel_rfl)).symm.trans h0_) (by decide)⟩
          refine steps_cons ?_ ?_
          · rintro b a w' ⟨A110, c110, A111, c111, A119, c119, A120, c120, m5_, m6_, m14_, m15_, m16_, m17_, ha, Q_HA, Q_GX, Q_S110, Q_P111, Q_S119, Q_P120, Q_X5_, Q_X6_, Q_X14_, Q_X15_, Q_X16_, Q_X17_⟩ hb_ hon hoff
            refine ⟨_, rfl, fun K hK => ?_⟩
            have e118 : a.tmps[118]? = some (.agg #[.int .i64 ((q : Int) + 1), .int .i64 ((q : Int) + 1)]) := by rw [ha]; exact putSel_on (e := (13, 118, .agg #[.int .i64 ((q : Int) + 1), .int .i64 ((q : Int) + 1)])) 13 rfl rfl (hon 13 (by kernel_rfl)) rfl
            replace ha := Aside0.mk ha
            have HA := Aside0.mk Q_HA
            have GX := Aside0.mk Q_GX
            refine Kd.R_lit_step dSp (w0 := wr) (xs := [((q : Int) + 1, (q : Int) + 1)]) (inner := [.int .i64 ((q : Int) + 1), .int .i64 ((q : Int) + 1)]) (ok := fun _ => True) (okp := fun _ => True) wr.heap.size 49 (by rfl) rfl ?_ (reps_sp _ _ _ _) (fun _ h => h) trivial HA.out HA.out.size (by simp) ?_
            · go_simp
            intro v1 w1 ho hb hg hat
            obtain ⟨A9', c9', e9, h9, hC9⟩ := Kd.R_reads ho
            replace e9 : v1 = .slice A9' 1 c9' := e9
            subst e9
            have hn_ := below_new hg
            refine hK.out _ _ ⟨A110, c110, A111, c111, A9', c9', A120, c120, m5_, m6_, (.slice A9' 1 c9'), m15_, m16_, m17_, (by rw [ha.out]; exact putSel_upk 14 hb_ rfl rfl rfl), hb, blk_below GX.out hn_, fun h0_ => (Q_S110 h0_).below hn_, fun h0_ => Kd.C_below (Q_P111 h0_) hn_, fun _ => onesp_of hC9, fun h0_ => absurd ((hoff 15 (by kernel_rfl)).symm.trans h0_) (by decide), Q_X5_, Q_X6_, fun _ => rfl, fun h0_ => absurd ((hoff 15 (by kernel_rfl)).symm.trans h0_) (by decide), fun h0_ => absurd ((hoff 16 (by kernel_rfl)).symm.trans h0_) (by decide), fun h0_ => absurd ((hoff 17 (by kernel_rfl)).symm.trans h0_) (by decide)⟩
          refine steps_cons ?_ ?_
          · rintro b a w' ⟨A110, c110, A111, c111, A119, c119, A120, c120, m5_, m6_, m14_, m15_, m16_, m17_, ha, Q_HA, Q_GX, Q_S110, Q_P111, Q_S119, Q_P120, Q_X5_, Q_X6_, Q_X14_, Q_X15_, Q_X16_, Q_X17_⟩ hb_ hon hoff
            refine ⟨_, rfl, fun K hK => ?_⟩
            have e112 : a.tmps[112]? = some (.slice AN am.length cN) := by rw [ha]; exact putSel_on (e := (7, 112, .slice AN am.length cN)) 7 rfl rfl (hon 7 (by kernel_rfl)) rfl
            have e113 : a.tmps[113]? = some (.agg #[.string a0, .int .i64 a1, .int .i64 a2, .int .i64 a3, .slice aA4 aw.length ac4, .slice (some adM) am.length ac5]) := by rw [ha]; exact putSel_on (e := (8, 113, .agg #[.string a0, .int .i64 a1, .int .i64 a2, .int .i64 a3, .slice aA4 aw.length ac4, .slice (some adM) am.length ac5])) 8 rfl rfl (hon 8 (by kernel_rfl)) rfl
            have e119 : a.tmps[119]? = some (m14_) := by rw [ha]; exact putSel_on (e := (14, 119, m14_)) 14 rfl rfl (hon 14 (by kernel_rfl)) rfl
            rw [Q_X14_ (hon 14 (by kernel_rfl))] at e119
            replace ha := Aside0.mk ha
            have HA := Aside0.mk Q_HA
            have GX := Aside0.mk Q_GX
            have S110 := Aside0.mk (Q_S110 (hon 5 (by kernel_rfl)))
            have P111 := Aside0.mk (Q_P111 (hon 6 (by kernel_rfl)))
            have S119 := Aside0.mk (Q_S119 (hon 14 (by kernel_rfl)))
            refine goes_ Tryd.func19 (by kernel_rfl) rfl #[.slice AN am.length cN, .agg #[.string a0, .int .i64 a1, .int .i64 a2, .int .i64 a3, .slice aA4 aw.length ac4, .slice (some adM) am.length ac5], .slice A119 1 c119, .bool false] (by rfl) rfl rfl (by first | (simp only [List.map_toArray, List.map_cons, List.map_nil, Act.eval, Array.getD_eq_getD_getElem?, Option.getD_some, e112, e113, e119]; done) | (simp only [List.map_toArray, List.map_cons, List.map_nil, Act.eval, Array.getD_eq_getD_getElem?, Option.getD_some, e112, e113, e119]; rfl)) ?_
            with_reducible refine (hY1.out AN cN A119 c119 w' (BW.out.trans (HA.out.mono BW.out.size)) (Kd.C_below CN.out HA.out) LN.out S119.out).mono ?_
            rintro e wq ⟨A9', c9', rfl, h9, hb⟩
            refine ⟨_, rfl, ?_⟩
            refine hK.out _ _ ⟨A110, c110, A111, c111, A119, c119, A9', c9', m5_, m6_, m14_, (.slice A9' 1 c9'), m16_, m17_, (by rw [ha.out]; exact putSel_upk 15 hb_ rfl rfl rfl), HA.out.trans (hb.mono HA.out.size), blk_below GX.out hb, fun _ => S110.out.below hb, fun _ => Kd.C_below P111.out hb, fun _ => S119.out.below hb, fun _ => h9, Q_X5_, Q_X6_, Q_X14_, fun _ => rfl, fun h0_ => absurd ((hoff 16 (by kernel_rfl)).symm.trans h0_) (by decide), fun h0_ => absurd ((hoff 17 (by kernel_rfl)).symm.trans h0_) (by decide)⟩
          refine steps_cons ?_ ?_
          · rintro b a w' ⟨A110, c110, A111, c111, A119, c119, A120, c120, m5_, m6_, m14_, m15_, m16_, m17_, ha, Q_HA, Q_GX, Q_S110, Q_P111, Q_S119, Q_P120, Q_X5_, Q_X6_, Q_X14_, Q_X15_, Q_X16_, Q_X17_⟩ hb_ hon hoff
            refine ⟨_, rfl, fun K hK => ?_⟩
            have e111 : a.tmps[111]? = some (m6_) := by rw [ha]; exact putSel_on (e := (6, 111, m6_)) 6 rfl rfl (hon 6 (by kernel_rfl)) rfl
            rw [Q_X6_ (hon 6 (by kernel_rfl))] at e111
            replace ha := Aside0.mk ha
            refine value_ (w1 := w') (v := .slice A111 1 c111) (by rfl) rfl ?_ ?_
            · go_simp
              try first | rfl | assumption
            refine hK.out _ _ ⟨A110, c110, A111, c111, A119, c119, A120, c120, m5_, m6_, m14_, m15_, (.slice A111 1 c111), m17_, (by rw [ha.out]; exact putSel_upk 16 hb_ rfl rfl rfl), Q_HA, Q_GX, Q_S110, Q_P111, Q_S119, Q_P120, Q_X5_, Q_X6_, Q_X14_, Q_X15_, fun _ => rfl, fun h0_ => absurd ((hoff 17 (by kernel_rfl)).symm.trans h0_) (by decide)⟩
          refine steps_cons ?_ ?_
          · rintro b a w' ⟨A110, c110, A111, c111, A119, c119, A120, c120, m5_, m6_, m14_, m15_, m16_, m17_, ha, Q_HA, Q_GX, Q_S110, Q_P111, Q_S119, Q_P120, Q_X5_, Q_X6_, Q_X14_, Q_X15_, Q_X16_, Q_X17_⟩ hb_ hon hoff
            refine ⟨_, rfl, fun K hK => ?_⟩
            have e120 : a.tmps[120]? = some (m15_) := by rw [ha]; exact putSel_on (e := (15, 120, m15_)) 15 rfl rfl (hon 15 (by kernel_rfl)) rfl
            rw [Q_X15_ (hon 15 (by kernel_rfl))] at e120
            replace ha := Aside0.mk ha
            refine value_ (w1 := w') (v := .slice A120 1 c120) (by rfl) rfl ?_ ?_
            · go_simp
              try first | rfl | assumption
            refine hK.out _ _ ⟨A110, c110, A111, c111, A119, c119, A120, c120, m5_, m6_, m14_, m15_, m16_, (.slice A120 1 c120), (by rw [ha.out]; exact putSel_upk 17 hb_ rfl rfl rfl), Q_HA, Q_GX, Q_S110, Q_P111, Q_S119, Q_P120, Q_X5_, Q_X6_, Q_X14_, Q_X15_, Q_X16_, fun _ => rfl⟩
          exact steps_nil
        rintro b a wy hall ⟨A110, c110, A111, c111, A119, c119, A120, c120, m5_, m6_, m14_, m15_, m16_, m17_, ha, Q_HA, Q_GX, Q_S110, Q_P111, Q_S119, Q_P120, Q_X5_, Q_X6_, Q_X14_, Q_X15_, Q_X16_, Q_X17_⟩
        clear GX HA
        have hb0_ := hall 0 (by kernel_rfl)
        have hb1_ := hall 1 (by kernel_rfl)
        have hb2_ := hall 2 (by kernel_rfl)
        have hb3_ := hall 3 (by kernel_rfl)
        have hb4_ := hall 4 (by kernel_rfl)
        have hb5_ := hall 5 (by kernel_rfl)
        have hb6_ := hall 6 (by kernel_rfl)
        have hb7_ := hall 7 (by kernel_rfl)
        have hb8_ := hall 8 (by kernel_rfl)
        have hb9_ := hall 9 (by kernel_rfl)
        have hb10_ := hall 10 (by kernel_rfl)
        have hb11_ := hall 11 (by kernel_rfl)
        have hb12_ := hall 12 (by kernel_rfl)
        have hb13_ := hall 13 (by kernel_rfl)
        have hb14_ := hall 14 (by kernel_rfl)
        have hb15_ := hall 15 (by kernel_rfl)
        have hb16_ := hall 16 (by kernel_rfl)
        have hb17_ := hall 17 (by kernel_rfl)
        subst ha
        obtain rfl := Q_X5_ hb5_
        obtain rfl := Q_X6_ hb6_
        obtain rfl := Q_X14_ hb14_
        obtain rfl := Q_X15_ hb15_
        obtain rfl := Q_X16_ hb16_
        obtain rfl := Q_X17_ hb17_
        simp only [putSel, hb0_, hb1_, hb2_, hb3_, hb4_, hb5_, hb6_, hb7_, hb8_, hb9_, hb10_, hb11_, hb12_, hb13_, hb14_, hb15_, hb16_, hb17_, if_true, Act.put, List.setIfInBounds_toArray, List.set_cons_zero, List.set_cons_succ]
        have HA := Aside0.mk Q_HA
        clear Q_HA
        have GX := Aside0.mk Q_GX
        clear Q_GX
        have S110 := Aside0.mk (Q_S110 hb5_)
        clear Q_S110
        have P111 := Aside0.mk (Q_P111 hb6_)
        clear Q_P111
        have S119 := Aside0.mk (Q_S119 hb14_)
        clear Q_S119
        have P120 := Aside0.mk (Q_P120 hb15_)
        clear Q_P120
        clear hall hb0_ hb1_ hb2_ hb3_ hb4_ hb5_ hb6_ hb7_ hb8_ hb9_ hb10_ hb11_ hb12_ hb13_ hb14_ hb15_ hb16_ hb17_
        obtain ⟨ad1, e1, hx1⟩ := int0 P111.out
        obtain ⟨ad2, e2, hx2⟩ := int0 P120.out
        subst e1 e2
        go_wp2_with (go_at_call 14; refine (hAw.out wy (BW.out.trans (HA.out.mono BW.out.size))).mono ?_; rintro e w4 ⟨rfl, hb⟩; have HB4 := Aside0.mk hb; clear hb)
        go_ret
        exact ⟨rfl, BW.out.trans ((HA.out.trans (HB4.out.mono HA.out.size)).mono BW.out.size)⟩
theorem toldPicks_open (x : BoxT) (cs : Array Value) (kk : Int) (w : World) (ht : Tab w) (hK : boxD.K w x cs.toList) (hok : okB x) :
    Calls Tryd.prog 7 #[.agg cs, .int .i64 kk] w fun e w' => e = .returned (.bool true) ∧ Below w.heap.size w w' := by
  obtain ⟨A4, c4, A5, c5, rfl, C4, h4, C5, h5⟩ := box_open hK
  exact toldPicks_calls x.1 x.2.1 x.2.2.1 x.2.2.2.1 A4 c4 _ A5 c5 _ kk w ht (BoxIn.of hok C4 h4 C5 h5)
end Go.Proofs.YtplfpbfmnogckaaDoor.TdV
