-- Printed by prune.py: the used part of a text.
import Derived.Test.YtplfpbfmnogckaaDoorZTdH
import Derived.Test.YtplfpbfmnogckaaDoorZTdZ
namespace Go.Proofs.YtplfpbfmnogckaaDoor.TdX
open Go.RowKit Go.Proofs.YtplfpbfmnogckaaDoorW.PrintWords Go.Proofs.YtplfpbfmnogckaaDoorW.PrintLast Go.Proofs.YtplfpbfmnogckaaDoorW.PrintMore Go.Proofs.YtplfpbfmnogckaaDoor.TdG Go.Proofs.YtplfpbfmnogckaaDoor.TdM Go.Proofs.YtplfpbfmnogckaaDoor.TdP Go.Proofs.YtplfpbfmnogckaaDoor.TdD Go.Proofs.YtplfpbfmnogckaaDoor.ItT Go.Proofs.YtplfpbfmnogckaaDoor.ItO Go.Proofs.YtplfpbfmnogckaaDoor.TdF Go.Proofs.YtplfpbfmnogckaaDoor.TdS Go.Proofs.YtplfpbfmnogckaaDoor.TdA Go.Proofs.YtplfpbfmnogckaaDoor.TdW Go.Proofs.YtplfpbfmnogckaaDoor.TdR Go.Proofs.YtplfpbfmnogckaaDoor.TdN Go.Proofs.YtplfpbfmnogckaaDoor.MpI Go.Proofs.YtplfpbfmnogckaaDoor.TdO Go.Proofs.YtplfpbfmnogckaaDoor.Rw Go.Proofs.YtplfpbfmnogckaaDoor.TdH Go.Proofs.YtplfpbfmnogckaaDoor.TdZ
set_option linter.unusedVariables false
set_option linter.unusedSimpArgs false
theorem to_msg2 (A : Option Addr) (n c : Nat) (l : List S34) (j : Nat) (hn : n = l.length) (hc : n ≤ c) (hm : j ≤ n) :
    ∀ W : World, (Instr.slice 23 (.slice A n c) none (some (.int .i64 (j : Int))) none).run Tryd.prog W = .ok (.slice A j c) W := by
  subst hn
  obtain ⟨i0, hi, hzz⟩ := Option.map_eq_some_iff.1 info_msgs
  have := cut_to 23 34 .i64 Tryd.underlying23 hi A l.length c (j : Int) (by omega) (by omega) hc
  simpa using this
section
variable {ops : Array Oper} {rest : List Oper} {o : Oper} {a : Act} {Q : Exit → Act → World → Prop}
theorem get_event2 {w : World} (hg : o.guard = none ∨ True) (m x : Operand) (hop : o.op = Op.lookup 32 m x false) (b n : Nat) (f : Int → Int) (key y : Int)
    (hm : a.eval m = .map (some b)) (hI : MI w b n f) (hx : a.eval x = .int .i64 key) (hk : (Lit.int .i64 key).wf = true) (hy : f key = y) (hg2 : o.guard = none)
    (hK : wpList Tryd.prog ops Q rest (a.put o.dst (.int .i64 y)) w) : wpList Tryd.prog ops Q (o :: rest) a w := by
  subst hy
  exact get_event hg2 m x hop b n f key hm hI hx hk hK
end
set_option maxRecDepth 100000 in
theorem _root_.Go.Proofs.YtplfpbfmnogckaaDoor.MpI.MI.run_get {w : World} {b n : Nat} {f : Int → Int} (hI : MI w b n f) {key : Int} (hk : (Lit.int .i64 key).wf = true) :
    (Instr.lookup 32 (.map (some b)) (.int .i64 key) false).run Tryd.prog w = .ok (.int .i64 (f key)) w := by
  obtain ⟨D, h1, h2, h3⟩ := hI
  obtain ⟨c, hr, hc, _⟩ := h1.lookup_int (Maps.int_keyed Tryd.underlying3) Tryd.underlying32 Tryd.underlying3 (zero_int w) (Maps.keyOf_int_mk Tryd.underlying3 hk)
  rw [h3 key] at hc
  injection hc with hc
  injection hc with _ hc
  rw [hc]
  exact hr
theorem last_of {ms : List S34} (hp : ms.Pairwise (fun a b => a.f0 < b.f0)) (h1 : ∀ m ∈ ms, 1 ≤ m.f0) {K : Nat} (hK : K ≤ ms.length) :
    ∃ L : Nat, (∀ j (hj : j < ms.length), j < K → ms[j].f0 ≤ (L : Int)) ∧ (∀ j (hj : j < ms.length), K ≤ j → (L : Int) < ms[j].f0) ∧ ((K = 0 ∧ L = 0) ∨ ∃ j, ∃ hj : j < ms.length, K = j + 1 ∧ ms[j].f0 = (L : Int)) := by
  cases K with
  | zero => exact ⟨0, fun j _ h => absurd h (Nat.not_lt_zero j), fun j hj _ => by have := h1 _ (List.getElem_mem hj); omega, .inl ⟨rfl, rfl⟩⟩
  | succ i =>
    have hi : i < ms.length := by omega
    have h0 := h1 _ (List.getElem_mem hi)
    have hpw := List.pairwise_iff_getElem.1 hp
    refine ⟨ms[i].f0.toNat, fun j hj hlt => ?_, fun j hj hle => ?_, .inr ⟨i, hi, rfl, by omega⟩⟩
    · by_cases e : j = i
      · subst e; omega
      · have := hpw j i hj hi (by omega); omega
    · have := hpw i j hi hj (by omega); omega
set_option maxRecDepth 100000 in
set_option maxHeartbeats 8000000 in
theorem toldNew_calls (a0 : ByteArray) (a1 a2 a3 : Int) (aA4 : Option Addr) (ac4 : Nat) (aw : List ByteArray) (aA5 : Option Addr) (ac5 : Nat) (am : List S34) (AG : Option Addr) (cG : Nat) (gone : List Int) (kk : Int) (w : World) (ht : Tab w) (hB : BoxIn w a0 aA4 ac4 aw aA5 ac5 am) (hG : Kd.C (Kd.int .i64) w AG gone.length gone) (hGc : gone.length ≤ cG) (hGi : ∀ u ∈ gone, (Lit.int .i64 u).wf = true) :
    Calls Tryd.prog 3 #[.agg #[.string a0, .int .i64 a1, .int .i64 a2, .int .i64 a3, .slice aA4 aw.length ac4, .slice aA5 am.length ac5], .slice AG gone.length cG, .int .i64 kk] w fun e w' => e = .returned (.bool true) ∧ Below w.heap.size w w' := by
  have hu25 := Tryd.underlying25
  have hu34 := Tryd.underlying34
  have hAw := Aside0.mk (fun W (hW : Below w.heap.size w W) => awake_calls W (ht.below hW))
  have hHv := Aside0.mk (fun W hW => hB.heavy a1 a2 a3 W hW)
  rcases heavy_01 (bulk a0 aw am) aw.length am.length with hh | hh
  case inr =>
    rw [hh] at hHv
    clear hB ht hh hG hGc hGi
    go_enter Tryd.func3, Tryd.ntmps3
    have M0_0 := Aside0.mk (Below.refl w.heap.size w)
    go_wp2_with (first
      | ((with_reducible refine gate_dst (N := 3) rfl ?_); refine box_event ?hgX3 (N := 3) ?hdX3 (cs := #[.string a0, .int .i64 a1, .int .i64 a2, .int .i64 a3, .slice aA4 aw.length ac4, .slice aA5 am.length ac5]) (t := 25) ?hrX3 ?_; (case hdX3 => rfl); (case hgX3 => rfl); (case hrX3 => first | (go_simp; done) | (go_simp; rfl)); intro g_X hg_ w_1 hbx_ hb_; have L0_X := Aside0.mk (show w.heap.size ≤ g_X by have := M0_0.out.size; omega); have M0_1 := Aside0.mk (M0_0.out.trans (hb_.mono M0_0.out.size)); have X_1 := Aside0.mk hbx_; clear hg_ hbx_ hb_ M0_0; have zX0 := blk_cell X_1.out 0; have zX1 := blk_cell X_1.out 1; have zX2 := blk_cell X_1.out 2; have zX3 := blk_cell X_1.out 3; have zX4 := blk_cell X_1.out 4; have zX5 := blk_cell X_1.out 5; skip)
      | (go_at_call 12; refine (hHv.out w_1 M0_1.out).mono ?_; rintro e_ w_2 ⟨rfl, hb⟩; have M0_2 := Aside0.mk (M0_1.out.trans (hb.mono M0_1.out.size)); have X_2 := Aside0.mk (blk_below X_1.out hb); clear hb M0_1 X_1 zX0 zX1 zX2 zX3 zX4 zX5; have zX0 := blk_cell X_2.out 0; have zX1 := blk_cell X_2.out 1; have zX2 := blk_cell X_2.out 2; have zX3 := blk_cell X_2.out 3; have zX4 := blk_cell X_2.out 4; have zX5 := blk_cell X_2.out 5; skip)
      | (go_at_call 14; refine (hAw.out w_2 M0_2.out).mono ?_; rintro e_ w_3 ⟨rfl, hb⟩; have M0_3 := Aside0.mk (M0_2.out.trans (hb.mono M0_2.out.size)); have X_3 := Aside0.mk (blk_below X_2.out hb); clear hb M0_2 X_2 zX0 zX1 zX2 zX3 zX4 zX5; have zX0 := blk_cell X_3.out 0; have zX1 := blk_cell X_3.out 1; have zX2 := blk_cell X_3.out 2; have zX3 := blk_cell X_3.out 3; have zX4 := blk_cell X_3.out 4; have zX5 := blk_cell X_3.out 5; skip))
    go_ret
    exact ⟨rfl, M0_3.out⟩
  rw [hh] at hHv
  have hL := hB.light hh
  have hMy := Aside0.mk (fun W hW => hB.may hL a1 a2 a3 W hW)
  clear hh
  by_cases hP : boxP a0 a1 a2 a3 aw am = 0
  case neg =>
    have HPN : ((boxP a0 a1 a2 a3 aw am) != 0) = true := bne_iff_ne.mpr hP
    generalize boxP a0 a1 a2 a3 aw am = p at *
    clear hP hB hL ht hG hGc hGi
    go_enter Tryd.func3, Tryd.ntmps3
    have M0_0 := Aside0.mk (Below.refl w.heap.size w)
    go_wp2_with (first
      | ((with_reducible refine gate_dst (N := 3) rfl ?_); refine box_event ?hgX3 (N := 3) ?hdX3 (cs := #[.string a0, .int .i64 a1, .int .i64 a2, .int .i64 a3, .slice aA4 aw.length ac4, .slice aA5 am.length ac5]) (t := 25) ?hrX3 ?_; (case hdX3 => rfl); (case hgX3 => rfl); (case hrX3 => first | (go_simp; done) | (go_simp; rfl)); intro g_X hg_ w_1 hbx_ hb_; have L0_X := Aside0.mk (show w.heap.size ≤ g_X by have := M0_0.out.size; omega); have M0_1 := Aside0.mk (M0_0.out.trans (hb_.mono M0_0.out.size)); have X_1 := Aside0.mk hbx_; clear hg_ hbx_ hb_ M0_0; have zX0 := blk_cell X_1.out 0; have zX1 := blk_cell X_1.out 1; have zX2 := blk_cell X_1.out 2; have zX3 := blk_cell X_1.out 3; have zX4 := blk_cell X_1.out 4; have zX5 := blk_cell X_1.out 5; skip)
      | (go_at_call 12; refine (hHv.out w_1 M0_1.out).mono ?_; rintro e_ w_2 ⟨rfl, hb⟩; have M0_2 := Aside0.mk (M0_1.out.trans (hb.mono M0_1.out.size)); have X_2 := Aside0.mk (blk_below X_1.out hb); clear hb M0_1 X_1 zX0 zX1 zX2 zX3 zX4 zX5; have zX0 := blk_cell X_2.out 0; have zX1 := blk_cell X_2.out 1; have zX2 := blk_cell X_2.out 2; have zX3 := blk_cell X_2.out 3; have zX4 := blk_cell X_2.out 4; have zX5 := blk_cell X_2.out 5; skip)
      | (go_at_call 13; refine (hMy.out w_2 M0_2.out).mono ?_; rintro e_ w_3 ⟨rfl, hb⟩; have M0_3 := Aside0.mk (M0_2.out.trans (hb.mono M0_2.out.size)); have X_3 := Aside0.mk (blk_below X_2.out hb); clear hb M0_2 X_2 zX0 zX1 zX2 zX3 zX4 zX5; have zX0 := blk_cell X_3.out 0; have zX1 := blk_cell X_3.out 1; have zX2 := blk_cell X_3.out 2; have zX3 := blk_cell X_3.out 3; have zX4 := blk_cell X_3.out 4; have zX5 := blk_cell X_3.out 5; skip)
      | (go_at_call 14; refine (hAw.out w_3 M0_3.out).mono ?_; rintro e_ w_4 ⟨rfl, hb⟩; have M0_4 := Aside0.mk (M0_3.out.trans (hb.mono M0_3.out.size)); have X_4 := Aside0.mk (blk_below X_3.out hb); clear hb M0_3 X_3 zX0 zX1 zX2 zX3 zX4 zX5; have zX0 := blk_cell X_4.out 0; have zX1 := blk_cell X_4.out 1; have zX2 := blk_cell X_4.out 2; have zX3 := blk_cell X_4.out 3; have zX4 := blk_cell X_4.out 4; have zX5 := blk_cell X_4.out 5; skip))
    go_ret
    exact ⟨rfl, M0_4.out⟩
  rw [hP] at hMy
  by_cases h60 : 60 < gone.length
  case pos =>
    have hd : decide ((60 : Int) < (gone.length : Int)) = true := decide_eq_true (by omega)
    clear hP hB hL ht hG hGc hGi h60
    go_enter Tryd.func3, Tryd.ntmps3
    have M0_0 := Aside0.mk (Below.refl w.heap.size w)
    go_wp2_with (first
      | ((with_reducible refine gate_dst (N := 3) rfl ?_); refine box_event ?hgX3 (N := 3) ?hdX3 (cs := #[.string a0, .int .i64 a1, .int .i64 a2, .int .i64 a3, .slice aA4 aw.length ac4, .slice aA5 am.length ac5]) (t := 25) ?hrX3 ?_; (case hdX3 => rfl); (case hgX3 => rfl); (case hrX3 => first | (go_simp; done) | (go_simp; rfl)); intro g_X hg_ w_1 hbx_ hb_; have L0_X := Aside0.mk (show w.heap.size ≤ g_X by have := M0_0.out.size; omega); have M0_1 := Aside0.mk (M0_0.out.trans (hb_.mono M0_0.out.size)); have X_1 := Aside0.mk hbx_; clear hg_ hbx_ hb_ M0_0; have zX0 := blk_cell X_1.out 0; have zX1 := blk_cell X_1.out 1; have zX2 := blk_cell X_1.out 2; have zX3 := blk_cell X_1.out 3; have zX4 := blk_cell X_1.out 4; have zX5 := blk_cell X_1.out 5; skip)
      | (go_at_call 12; refine (hHv.out w_1 M0_1.out).mono ?_; rintro e_ w_2 ⟨rfl, hb⟩; have M0_2 := Aside0.mk (M0_1.out.trans (hb.mono M0_1.out.size)); have X_2 := Aside0.mk (blk_below X_1.out hb); clear hb M0_1 X_1 zX0 zX1 zX2 zX3 zX4 zX5; have zX0 := blk_cell X_2.out 0; have zX1 := blk_cell X_2.out 1; have zX2 := blk_cell X_2.out 2; have zX3 := blk_cell X_2.out 3; have zX4 := blk_cell X_2.out 4; have zX5 := blk_cell X_2.out 5; skip)
      | (go_at_call 13; refine (hMy.out w_2 M0_2.out).mono ?_; rintro e_ w_3 ⟨rfl, hb⟩; have M0_3 := Aside0.mk (M0_2.out.trans (hb.mono M0_2.out.size)); have X_3 := Aside0.mk (blk_below X_2.out hb); clear hb M0_2 X_2 zX0 zX1 zX2 zX3 zX4 zX5; have zX0 := blk_cell X_3.out 0; have zX1 := blk_cell X_3.out 1; have zX2 := blk_cell X_3.out 2; have zX3 := blk_cell X_3.out 3; have zX4 := blk_cell X_3.out 4; have zX5 := blk_cell X_3.out 5; skip)
      | (go_at_call 14; refine (hAw.out w_3 M0_3.out).mono ?_; rintro e_ w_4 ⟨rfl, hb⟩; have M0_4 := Aside0.mk (M0_3.out.trans (hb.mono M0_3.out.size)); have X_4 := Aside0.mk (blk_below X_3.out hb); clear hb M0_3 X_3 zX0 zX1 zX2 zX3 zX4 zX5; have zX0 := blk_cell X_4.out 0; have zX1 := blk_cell X_4.out 1; have zX2 := blk_cell X_4.out 2; have zX3 := blk_cell X_4.out 3; have zX4 := blk_cell X_4.out 4; have zX5 := blk_cell X_4.out 5; skip))
    go_ret
    exact ⟨rfl, M0_4.out⟩
  have hd : decide ((60 : Int) < (gone.length : Int)) = false := decide_eq_false (by omega)
  obtain ⟨hmp1, hp⟩ := (msgsOk_iff _ _ _ _ _).1 (may_parts hP).2.2.2.2
  have hhead := (may_parts hP).1
  have hm60 := (may_parts hP).2.2.1
  have ha2 : a2 ≤ 1000000 := by
    unfold headOk at hhead
    rw [Bool.and_eq_true, decide_eq_true_iff] at hhead
    omega
  have hge : ∀ m ∈ am, 1 ≤ m.f0 := fun m hm => by have := hmp1 m hm; omega
  have hle : ∀ m ∈ am, m.f0 ≤ 1000000 := fun m hm => by have := hmp1 m hm; omega
  obtain ⟨K, hq, hKl⟩ := low_nat kk (am.length + 1) (by omega) (by omega)
  have hcast : ((am.length + 1 : Nat) : Int) = (am.length : Int) + 1 := by omega
  rw [hcast] at hq
  have hKl : K ≤ am.length := by omega
  obtain ⟨L, hL1, hL2, hLc⟩ := last_of hp hge hKl
  have hL6 : (L : Int) ≤ 1000000 := by
    rcases hLc with ⟨_, e⟩ | ⟨j, hj, _, e⟩
    · omega
    · have := hle _ (List.getElem_mem hj); omega
  have HLc := Aside0.mk hLc
  have HPL := Aside0.mk (fun g (hg : GoodI am K g) => new_plain hp hge aw hKl hg L hL1 hL2)
  have HPw := Aside0.mk hp
  have hn5 := hL.n5
  have hlm : (am.map seenM).length = am.length := List.length_map _
  have hNe := Aside0.mk (fun W (hW : Below w.heap.size w W) => new_calls a0 a1 a2 a3 aA4 ac4 aw aA5 ac5 am W (Kd.C_below hB.C4 hW) hB.c4 (Kd.C_below hB.C5 hW) hB.c5 (by omega))
  have hSy := Aside0.mk (fun (V : List S37) (A : Option Addr) (n c : Nat) (W : World) (hW : Below w.heap.size w W) (hn : n = V.length) (h9 : Kd.C k37 W A n V) (hc : n ≤ c) (hl : n ≤ 10000) =>
    sync_n true a0 a1 a2 a3 aA4 ac4 aw aA5 ac5 am A n c V W w hW ht hB hL hn h9 hc hl)
  have hSa := Aside0.mk (fun A0 c0 A1 c1 W h0 hc0 h1 hc1 => same_calls A0 c0 A1 c1 (am.map seenM) W h0 hc0 h1 hc1 (by omega))
  rw [hlm] at hSa
  have HC5 := Aside0.mk hB.C5
  have HI5 := Aside0.mk (fun m hm => (hB.hi m hm).1)
  have HGC := Aside0.mk hG
  have HGI := Aside0.mk hGi
  have hto := to_msg2 aA5 am.length ac5 am K rfl hB.c5 hKl
  have hg9 : (gone.length : Int) ≤ 60 := by omega
  have hn9 : (am.length : Int) ≤ 60 := by omega
  have hw9 : IntKind.u64.wrap ((am.length : Int) + 1) = (am.length : Int) + 1 := by
    have e : IntKind.u64.wrap ((am.length : Int) + 1) = ((am.length : Int) + 1) % 18446744073709551616 := by simp [IntKind.wrap, IntKind.bits, IntKind.signed]
    rw [e]
    omega
  have hz8 : ¬ ((am.length : Int) + 1 = 0) := by omega
  have hK9 : (K : Int) ≤ 60 := by omega
  clear hlm hcast hP hB hL ht hG hGc hGi h60 hn5 hp hmp1 hhead hm60 ha2 hge hle hLc hL1 hL2
  go_enter Tryd.func3, Tryd.ntmps3
  have M0_0 := Aside0.mk (Below.refl w.heap.size w)
  go_wp2_with (first
    | ((with_reducible refine gate_dst (N := 3) rfl ?_); refine box_event ?hgX3 (N := 3) ?hdX3 (cs := #[.string a0, .int .i64 a1, .int .i64 a2, .int .i64 a3, .slice aA4 aw.length ac4, .slice aA5 am.length ac5]) (t := 25) ?hrX3 ?_; (case hdX3 => rfl); (case hgX3 => rfl); (case hrX3 => first | (go_simp; done) | (go_simp; rfl)); intro g_X hg_ w_1 hbx_ hb_; have L0_X := Aside0.mk (show w.heap.size ≤ g_X by have := M0_0.out.size; omega); have M0_1 := Aside0.mk (M0_0.out.trans (hb_.mono M0_0.out.size)); have X_1 := Aside0.mk hbx_; clear hg_ hbx_ hb_ M0_0; have zX0 := blk_cell X_1.out 0; have zX1 := blk_cell X_1.out 1; have zX2 := blk_cell X_1.out 2; have zX3 := blk_cell X_1.out 3; have zX4 := blk_cell X_1.out 4; have zX5 := blk_cell X_1.out 5; skip)
    | (go_at_call 12; refine (hHv.out w_1 M0_1.out).mono ?_; rintro e_ w_2 ⟨rfl, hb⟩; have M0_2 := Aside0.mk (M0_1.out.trans (hb.mono M0_1.out.size)); have X_2 := Aside0.mk (blk_below X_1.out hb); clear hb M0_1 X_1 zX0 zX1 zX2 zX3 zX4 zX5; have zX0 := blk_cell X_2.out 0; have zX1 := blk_cell X_2.out 1; have zX2 := blk_cell X_2.out 2; have zX3 := blk_cell X_2.out 3; have zX4 := blk_cell X_2.out 4; have zX5 := blk_cell X_2.out 5; skip)
    | (go_at_call 13; refine (hMy.out w_2 M0_2.out).mono ?_; rintro e_ w_3 ⟨rfl, hb⟩; have M0_3 := Aside0.mk (M0_2.out.trans (hb.mono M0_2.out.size)); have X_3 := Aside0.mk (blk_below X_2.out hb); clear hb M0_2 X_2 zX0 zX1 zX2 zX3 zX4 zX5; have zX0 := blk_cell X_3.out 0; have zX1 := blk_cell X_3.out 1; have zX2 := blk_cell X_3.out 2; have zX3 := blk_cell X_3.out 3; have zX4 := blk_cell X_3.out 4; have zX5 := blk_cell X_3.out 5; skip)
    | ((with_reducible refine gate_dst (N := 44) rfl ?_); refine made_event rfl _ rfl ?_; intro bM w_4 hbM hI hb; have hbM0 := Nat.le_trans M0_3.out.size hbM; have M0_4 := Aside0.mk (M0_3.out.trans (hb.mono M0_3.out.size)); have X_4 := Aside0.mk (blk_below X_3.out hb); have M4_4 := Aside0.mk (Below.refl w_4.heap.size w_4); have MP := Aside0.mk hI; have Lb0 := Aside0.mk hbM0; clear hb hI hbM0 M0_3 X_3 zX0 zX1 zX2 zX3 zX4 zX5; have zX0 := blk_cell X_4.out 0; have zX1 := blk_cell X_4.out 1; have zX2 := blk_cell X_4.out 2; have zX3 := blk_cell X_4.out 3; have zX4 := blk_cell X_4.out 4; have zX5 := blk_cell X_4.out 5; skip))
  have MP0 := Aside0.mk (MP.out.below M4_4.out)
  have GX0 := Aside0.mk X_4.out
  have HX0 := Aside0.mk M0_4.out
  clear zX0 zX1 zX2 zX3 zX4 zX5 MP hw9 hz8 hq hHv hMy
  go_loopw [50] (fun i wr => ∃ (k : Nat) (f : Int → Int), k ≤ K ∧ i = .int .i64 k ∧ Aside0 (wr.heap[g_X]? = some (.cells #[.string a0, .int .i64 a1, .int .i64 a2, .int .i64 a3, .slice aA4 aw.length ac4, .slice aA5 am.length ac5] 25 (0, 0))) ∧ Aside0 (MI wr bM k f) ∧ Aside0 (GoodZ am k f) ∧ Aside0 (Below w.heap.size w wr)) (fun i _ => K - (intOf i).toNat)
  case atStart => exact ⟨0, _, Nat.zero_le _, rfl, GX0, MP0, ⟨goodZ_zero am⟩, HX0⟩
  case round =>
    clear GX0 MP0 HX0
    obtain ⟨k, f, hk, rfl, GX, MP, HZ, HX⟩ := hrel
    by_cases hlt : k < K
    · have hla : k < am.length := by omega
      obtain ⟨adM, A6, c6, e1, hx0, hx1, hx2, hx3, hx4, hx5, hx6, hc6, hC6⟩ := at_T34 (Kd.C_below HC5.out HX.out) (k : Int) (by omega) (by omega)
      cases e1
      rw [Int.toNat_natCast] at hx0 hx1 hx2 hx3 hx4 hx5 hx6
      rw [rdm_nat am hla] at hx0 hx1 hx2 hx3 hx4 hx5 hx6
      have hgz := goodZ_put HPw.out HZ.out hla
      have hmi := HI5.out _ (List.getElem_mem hla)
      rw [Int.add_comm] at hgz
      have HGz := Aside0.mk hgz
      generalize am[k] = m at *
      have HWf := Aside0.mk (wf64 hmi.1 hmi.2)
      have HWv := Aside0.mk (wf64 (n := 1 + (k : Int)) (by omega) (by omega))
      have X_0 := GX
      clear hC6 hc6 hgz hmi
      have M0_0 := Aside0.mk (Below.refl wr.heap.size wr)
      have tok1 := Aside0.mk True.intro
      go_wp2_with (first
        | ((with_reducible refine gate_dst (N := 9) rfl ?_); refine box_event ?hgM9 (N := 9) ?hdM9 (cs := #[.int .i64 0, .int .i64 0, .int .i64 0, .string (⟨#[]⟩ : ByteArray), .int .i64 0, .slice none 0 0, .string (⟨#[]⟩ : ByteArray)]) (t := 34) ?hrM9 ?_; (case hdM9 => rfl); (case hgM9 => rfl); (case hrM9 => first | (go_simp; done) | (go_simp; rfl)); intro g_M hg_ w_1 hbx_ hb_; have L0_M := Aside0.mk (show wr.heap.size ≤ g_M by have := M0_0.out.size; omega); have N_X_M := Aside0.mk (show g_X ≠ g_M by have := blk_lt X_0.out; omega); have M0_1 := Aside0.mk (M0_0.out.trans (hb_.mono M0_0.out.size)); have X_1 := Aside0.mk (blk_below X_0.out hb_); have M_1 := Aside0.mk hbx_; clear hg_ hbx_ hb_ M0_0 X_0; have zM0 := blk_cell M_1.out 0; have yM0 := blk_frozen M_1.out 0; have zM1 := blk_cell M_1.out 1; have yM1 := blk_frozen M_1.out 1; have zM2 := blk_cell M_1.out 2; have yM2 := blk_frozen M_1.out 2; have zM3 := blk_cell M_1.out 3; have yM3 := blk_frozen M_1.out 3; have zM4 := blk_cell M_1.out 4; have yM4 := blk_frozen M_1.out 4; have zM5 := blk_cell M_1.out 5; have yM5 := blk_frozen M_1.out 5; have zM6 := blk_cell M_1.out 6; have yM6 := blk_frozen M_1.out 6; skip)
        | ((with_reducible refine gate_dst (N := 56) rfl ?_); clear tok1; clear zM0 yM0 zM1 yM1 zM2 yM2 zM3 yM3 zM4 yM4 zM5 yM5 zM6 yM6; obtain ⟨w_2, e_2, Be_, Oe_⟩ := sets7 M_1.out (.int .i64 m.f0) (.int .i64 m.f1) (.int .i64 m.f2) (.string m.f3) (.int .i64 m.f4) (.slice A6 m.f5.length c6) (.string m.f6); rw [e_2]; clear e_2; have M0_2 := Aside0.mk (Oe_.below M0_1.out L0_M.out); have X_2 := Aside0.mk ((Oe_.keep g_X N_X_M.out).trans X_1.out); have M_2 := Aside0.mk Be_; clear Be_ Oe_ M0_1 X_1 M_1; have zM0 := blk_cell M_2.out 0; have yM0 := blk_frozen M_2.out 0; skip)
        | (at_mapUpdate; have MPq := MP.out.below M0_2.out; have HBq := Aside0.mk (HX.out.trans ((M0_2.out).mono HX.out.size)); have GXq := Aside0.mk X_2.out; refine put_event rfl _ _ _ rfl bM k f m.f0 (1 + (k : Int)) rfl MPq (by omega) rfl rfl HWf.out HWv.out ?_; intro wm hI hg; have MP2 := Aside0.mk hI; have GX2 := Aside0.mk (grown_blk GXq.out hg (MI.ne MPq GXq.out).symm); have HX2 := Aside0.mk (grown_only HBq.out hg HBq.out.size Lb0.out); clear hI hg MPq HBq GXq; skip))
      go_roundw
      case rel => exact ⟨k + 1, _, by omega, by go_num, GX2, MP2, HGz, HX2⟩
      case measure => first | (simp [intOf]; done) | (simp [intOf]; omega)
    · obtain rfl : k = K := by omega
      have HG := Aside0.mk (goodI_of HZ.out)
      clear HZ hlt hk hto
      obtain ⟨kz, hkz⟩ : ∃ z : Int, (k : Int) = z := ⟨_, rfl⟩
      rw [hkz]
      have HKz := Aside0.mk hkz
      have hkz9 : kz ≤ 60 := by omega
      clear hkz hK9
      obtain ⟨lz, hlz⟩ : ∃ z : Int, (L : Int) = z := ⟨_, rfl⟩
      have HLz := Aside0.mk hlz
      have hlz9 : lz ≤ 1000000 := by omega
      clear hlz
      rcases HLc.out with ⟨e1, e2⟩ | ⟨j, hj, e1, e2⟩
      case' inl =>
        have hk1 : decide ((0 : Int) < kz) = false := decide_eq_false (by have := HKz.out; omega)
        have HL0 := Aside0.mk e2
        clear e1 e2
        go_upto_region 13 with fail
        clear hk1
      case' inr =>
        obtain ⟨adM, A6, c6, e3, hx0, hx1, hx2, hx3, hx4, hx5, hx6, hc6, hC6⟩ := at_T34 (Kd.C_below HC5.out HX.out) (kz - 1) (by have := HKz.out; omega) (by have := HKz.out; omega)
        cases e3
        have e4 : kz - 1 = (j : Int) := by have := HKz.out; omega
        rw [show rd_T34 am (kz - 1) = am[j] by rw [e4, rdm_nat am hj], e2, HLz.out] at hx0
        have hk1 : decide ((0 : Int) < kz) = true := decide_eq_true (by have := HKz.out; omega)
        have hk2 : 1 ≤ kz := by have := HKz.out; omega
        have hk3 : kz - 1 < (am.length : Int) := by have := HKz.out; omega
        have hk4 : 0 ≤ kz - 1 := by omega
        rw [show (kz - 1).toNat = kz.toNat - 1 by omega] at hx0
        have zX5 := blk_cell GX.out 5
        clear hC6 hc6 hx1 hx2 hx3 hx4 hx5 hx6 e4 e1 e2
        go_upto_region 13 with fail
        clear hk1 hk2 hk3 hk4 hx0 zX5
        generalize (some adM) = aA5 at *
      all_goals
        have HLc9 := HLc
        clear HLc
        go_cut [10, 70, 71, 72] (fun u v1 v2 v3 wx => u = .int .i64 lz ∧ v1 = .slice AG gone.length cG ∧ v2 = .int .i64 (gone.length : Int) ∧ v3 = .int .i64 0 ∧ Aside0 (wx.heap[g_X]? = some (.cells #[.string a0, .int .i64 a1, .int .i64 a2, .int .i64 a3, .slice aA4 aw.length ac4, .slice aA5 am.length ac5] 25 (0, 0))) ∧ Aside0 (MI wx bM k f) ∧ Aside0 (Below w.heap.size w wx))
        case first =>
          go_wp2_with fail
          go_meet
          exact ⟨by first | rfl | (rw [← HLz.out, HL0.out]; rfl), rfl, rfl, rfl, GX, MP, HX⟩
        case rest =>
          clear GX MP HX
          obtain ⟨rfl, rfl, rfl, rfl, GX1, MP1, HX1⟩ := hcut
          have hk60 : k ≤ 60 := by have := HKz.out; omega
          go_wp2_with fail
          go_loopw [72] (fun i wr => ∃ (k2 : Nat) (g : Int → Int), k2 ≤ gone.length ∧ i = .int .i64 k2 ∧ Aside0 (wr.heap[g_X]? = some (.cells #[.string a0, .int .i64 a1, .int .i64 a2, .int .i64 a3, .slice aA4 aw.length ac4, .slice aA5 am.length ac5] 25 (0, 0))) ∧ Aside0 (MI wr bM (k + k2) g) ∧ Aside0 (GoodI am k g) ∧ Aside0 (Below w.heap.size w wr)) (fun i _ => gone.length - (intOf i).toNat)
          case atStart => exact ⟨0, f, Nat.zero_le _, rfl, GX1, MP1, HG, HX1⟩
          case round =>
            clear GX1 MP1 HX1 HG
            obtain ⟨k2, g, hk2, rfl, GX, MP, HG, HX⟩ := hrel
            by_cases hlt : k2 < gone.length
            · obtain ⟨ad, e1, hx⟩ := Kd.at_int (Kd.C_below HGC.out HX.out) (k2 : Int) (by omega) (by omega)
              cases e1
              rw [Go.Proofs.YtplfpbfmnogckaaDoor.TdZ.rd_nat gone hlt, Int.toNat_natCast] at hx
              have HWu := Aside0.mk (HGI.out _ (List.getElem_mem hlt))
              generalize gone[k2] = u at *
              by_cases h1 : 0 < u
              · have hd1 : decide ((0 : Int) < u) = true := decide_eq_true h1
                by_cases h2 : u ≤ lz
                · have hd2 : decide (u ≤ lz) = true := decide_eq_true h2
                  obtain ⟨y, hy⟩ : ∃ y, g u = y := ⟨_, rfl⟩
                  have hgl := MP.out.run_get HWu.out
                  rw [hy] at hgl
                  by_cases h3 : y = 0
                  · have hgp := goodI_put HG.out u (by rw [hy, h3])
                    have HGp := Aside0.mk hgp
                    have hd3 : (y == 0) = true := by rw [h3]; rfl
                    clear h1 h2 h3 hy hgp
                    go_wp2_with ((at_mapUpdate; refine put_event rfl _ _ _ rfl bM (k + k2) g u (-1) rfl MP.out (by omega) rfl rfl HWu.out (by decide) ?_; intro wm hI hg; have MP2 := Aside0.mk hI; have GX2 := Aside0.mk (grown_blk GX.out hg (MI.ne MP.out GX.out).symm); have HX2 := Aside0.mk (grown_only HX.out hg HX.out.size Lb0.out); clear hI hg hx hgl MP GX HX; skip))
                    go_roundw
                    case rel => exact ⟨k2 + 1, _, by omega, by go_num, GX2, MP2, HGp, HX2⟩
                    case measure => first | (simp [intOf]; done) | (simp [intOf]; omega)
                  · have hd3 : (y == 0) = false := beq_eq_false_iff_ne.2 h3
                    clear h1 h2 h3 hy
                    go_wp2_with fail
                    go_roundw
                    case rel => exact ⟨k2 + 1, _, by omega, by go_num, GX, ⟨MP.out.cast (by omega) rfl⟩, HG, HX⟩
                    case measure => first | (simp [intOf]; done) | (simp [intOf]; omega)
                · have hd2 : decide (u ≤ lz) = false := decide_eq_false h2
                  clear h1 h2
                  go_wp2_with fail
                  go_roundw
                  case rel => exact ⟨k2 + 1, _, by omega, by go_num, GX, ⟨MP.out.cast (by omega) rfl⟩, HG, HX⟩
                  case measure => first | (simp [intOf]; done) | (simp [intOf]; omega)
              · have hd1 : decide ((0 : Int) < u) = false := decide_eq_false h1
                clear h1
                go_wp2_with fail
                go_roundw
                case rel => exact ⟨k2 + 1, _, by omega, by go_num, GX, ⟨MP.out.cast (by omega) rfl⟩, HG, HX⟩
                case measure => first | (simp [intOf]; done) | (simp [intOf]; omega)
            · obtain rfl : k2 = gone.length := by omega
              clear hlt hk2
              go_wp2_with fail
              go_loopw [13, 14, 15] (fun v lo u wr => ∃ (q : Nat) (vv : Value), v = vv ∧ lo = .int .i64 ((lostN g q : Nat) : Int) ∧ u = .int .i64 ((q : Int) + 1) ∧ q ≤ L ∧ q ≤ 4999 ∧ Aside0 (Kd.R k37 37 wr w.heap.size (fun _ => True) vv (viewN am g q)) ∧ Aside0 (wr.heap[g_X]? = some (.cells #[.string a0, .int .i64 a1, .int .i64 a2, .int .i64 a3, .slice aA4 aw.length ac4, .slice aA5 am.length ac5] 25 (0, 0))) ∧ Aside0 (MI wr bM (k + gone.length) g) ∧ Aside0 (Below w.heap.size w wr)) (fun _ _ u _ => 5000 - (intOf u).toNat)
              case atStart => exact ⟨0, _, rfl, rfl, rfl, Nat.zero_le _, by omega, ⟨Kd.R_nil _ _ _ _ _⟩, GX, MP, HX⟩
              case round =>
                clear GX MP HX
                obtain ⟨q, vv, rfl, rfl, rfl, hqL, hq5, RV, GX, MP, HX⟩ := hrel
                obtain ⟨A7, n7, c7, rfl⟩ := slc RV.out
                obtain ⟨u, hu⟩ : ∃ u : Int, (q : Int) + 1 = u := ⟨_, rfl⟩
                rw [hu]
                have HU := Aside0.mk hu
                have hu9 : u ≤ 5000 := by omega
                have hu1 : 1 ≤ u := by omega
                clear hu
                by_cases c1 : q + 1 ≤ L
                · have hd1 : decide (u ≤ lz) = true := decide_eq_true (by have := HU.out; have := HLz.out; omega)
                  by_cases c2 : q + 1 < 5000
                  · have hd2 : decide (u < 5000) = true := decide_eq_true (by have := HU.out; omega)
                    have HC12 := Aside0.mk (And.intro c1 c2)
                    have HWu : Aside0 ((Lit.int .i64 u).wf = true) := ⟨wf64 (by omega) (by omega)⟩
                    have HLn : Aside0 ((viewN am g q).length ≤ 5000) := ⟨by have := viewN_len am g q; omega⟩
                    have hlo := lostN_le g q
                    have hVs : viewN am g (q + 1) = viewN am g q ++ (if g u < 0 then [⟨u, 1⟩] else if 0 < g u then [⟨u, (rd_T34 am (g u - 1)).f1⟩] else []) := by rw [← HU.out]; rfl
                    have hLs : lostN g (q + 1) = lostN g q + (if g u < 0 then 1 else 0) := by rw [← HU.out]; rfl
                    have hc := goodI_cases HG.out u
                    obtain ⟨y, hy⟩ : ∃ y, g u = y := ⟨_, rfl⟩
                    rw [hy] at hVs hLs hc
                    have HY := Aside0.mk hy
                    clear hy
                    generalize lostN g q = lo at *
                    have hlo9 : (lo : Int) ≤ 5000 := by omega
                    clear hlo
                    rcases hc with ⟨j, hj, hjk, e1, e2⟩ | ⟨_, e2 | e2⟩
                    · obtain ⟨adM, A6, c6, e3, hx0, hx1, hx2, hx3, hx4, hx5, hx6, hc6, hC6⟩ := at_T34 (Kd.C_below HC5.out HX.out) (y - 1) (by omega) (by omega)
                      cases e3
                      have hrd : rd_T34 am (y - 1) = am[j] := by rw [show y - 1 = (j : Int) by omega, rdm_nat am hj]
                      rw [if_neg (by omega), if_pos (by omega), hrd] at hVs
                      rw [if_neg (by omega), Nat.add_zero] at hLs
                      rw [show (y - 1).toNat = y.toNat - 1 by omega, hrd] at hx1
                      have hd3 : decide (y < 0) = false := decide_eq_false (by omega)
                      have hd4 : decide ((0 : Int) < y) = true := decide_eq_true (by omega)
                      have hy1 : y - 1 < (am.length : Int) := by omega
                      have hy2 : 0 ≤ y - 1 := by omega
                      have hy3 : 1 ≤ y := by omega
                      have hy4 : y ≤ 100 := by omega
                      have HVs := Aside0.mk hVs
                      have HLs := Aside0.mk hLs
                      have zX5 := blk_cell GX.out 5
                      clear hVs hLs hrd hx0 hx2 hx3 hx4 hx5 hx6 hc6 hC6 e1 e2 hjk c1 c2
                      generalize am[j] = m at *
                      clear hj
                      go_wp2_with (first
                        | ((with_reducible refine gate_dst (N := 103) rfl ?_); refine get_event2 (.inr trivial) _ _ rfl bM (k + gone.length) g u y rfl MP.out rfl HWu.out HY.out rfl ?_; skip)
                        | ((with_reducible refine gate_dst (N := 114) rfl ?_); refine get_event2 (.inr trivial) _ _ rfl bM (k + gone.length) g u y rfl MP.out rfl HWu.out HY.out rfl ?_; skip)
                        | ((with_reducible refine gate_dst (N := 122) rfl ?_); refine get_event2 (.inr trivial) _ _ rfl bM (k + gone.length) g u y rfl MP.out rfl HWu.out HY.out rfl ?_; skip)
                        | ((with_reducible refine gate_builtin (b := .append) (xs := #[.tmp 116, .tmp 128]) rfl ?_); at_builtin; refine Kd.R_append k37 (w0 := w) w.heap.size rfl (.tmp 116) (.tmp 128) 35 37 (.agg #[.int .i64 0, .int .i64 0]) 16 rfl Tryd.underlying35 info37 rfl (by decide) (by omega) (.slice A7 n7 c7) (viewN am g q) ⟨u, m.f1⟩ [.int .i64 u, .int .i64 m.f1] (fun _ => True) (fun _ => False) rfl rfl ?aP (fun _ hk => hk.elim) ?aF ?aO ?aB ?aS ?aL ?_; (case aP => exact k37_mkM _ _ _ ⟨u, m.f1⟩); (case aF => exact (fun _ _ => trivial)); (case aO => exact RV.out); (case aB => exact HX.out); (case aS => exact HX.out.size); (case aL => have := HLn.out; omega); intro v8 w8 ho hb8 hg hat; rw [← HVs.out] at ho; have RV8 := Aside0.mk ho; have GX8 := Aside0.mk (blk_grown GX.out hg (row_ne RV.out GX.out (by decide))); have MP8 := Aside0.mk (MP.out.grown RV.out hg); have HX8 := Aside0.mk hb8; clear ho hb8 hg hat RV GX MP HX; skip))
                      go_roundw
                      case rel => exact ⟨q + 1, _, rfl, by rw [HLs.out]; rfl, by have := HU.out; go_num, by have := HC12.out; omega, by have := HC12.out; omega, RV8, GX8, MP8, HX8⟩
                      case measure => first | (simp [intOf]; done) | (simp [intOf]; have := HU.out; have := HC12.out; omega)
                    · rw [if_neg (by omega), if_neg (by omega), List.append_nil] at hVs
                      rw [if_neg (by omega), Nat.add_zero] at hLs
                      have hd3 : decide (y < 0) = false := decide_eq_false (by omega)
                      have hd4 : decide ((0 : Int) < y) = false := decide_eq_false (by omega)
                      have HVs := Aside0.mk hVs
                      have HLs := Aside0.mk hLs
                      clear hVs hLs e2 c1 c2
                      go_wp2_with (first
                        | ((with_reducible refine gate_dst (N := 103) rfl ?_); refine get_event2 (.inr trivial) _ _ rfl bM (k + gone.length) g u y rfl MP.out rfl HWu.out HY.out rfl ?_; skip)
                        | ((with_reducible refine gate_dst (N := 114) rfl ?_); refine get_event2 (.inr trivial) _ _ rfl bM (k + gone.length) g u y rfl MP.out rfl HWu.out HY.out rfl ?_; skip))
                      go_roundw
                      case rel => exact ⟨q + 1, _, rfl, by rw [HLs.out]; rfl, by have := HU.out; go_num, by have := HC12.out; omega, by have := HC12.out; omega, ⟨by rw [HVs.out]; exact RV.out⟩, GX, MP, HX⟩
                      case measure => first | (simp [intOf]; done) | (simp [intOf]; have := HU.out; have := HC12.out; omega)
                    · rw [if_pos (by omega)] at hVs
                      rw [if_pos (by omega)] at hLs
                      have hd3 : decide (y < 0) = true := decide_eq_true (by omega)
                      have hd4 : decide ((0 : Int) < y) = false := decide_eq_false (by omega)
                      have HVs := Aside0.mk hVs
                      have HLs := Aside0.mk hLs
                      clear hVs hLs e2 c1 c2
                      go_wp2_with (first
                        | ((with_reducible refine gate_dst (N := 103) rfl ?_); refine get_event2 (.inr trivial) _ _ rfl bM (k + gone.length) g u y rfl MP.out rfl HWu.out HY.out rfl ?_; skip)
                        | ((with_reducible refine gate_builtin (b := .append) (xs := #[.tmp 107, .tmp 110]) rfl ?_); at_builtin; refine Kd.R_append k37 (w0 := w) w.heap.size rfl (.tmp 107) (.tmp 110) 35 37 (.agg #[.int .i64 0, .int .i64 0]) 16 rfl Tryd.underlying35 info37 rfl (by decide) (by omega) (.slice A7 n7 c7) (viewN am g q) ⟨u, 1⟩ [.int .i64 u, .int .i64 1] (fun _ => True) (fun _ => False) rfl rfl ?aP (fun _ hk => hk.elim) ?aF ?aO ?aB ?aS ?aL ?_; (case aP => exact k37_mkM _ _ _ ⟨u, 1⟩); (case aF => exact (fun _ _ => trivial)); (case aO => exact RV.out); (case aB => exact HX.out); (case aS => exact HX.out.size); (case aL => have := HLn.out; omega); intro v8 w8 ho hb8 hg hat; rw [← HVs.out] at ho; have RV8 := Aside0.mk ho; have GX8 := Aside0.mk (blk_grown GX.out hg (row_ne RV.out GX.out (by decide))); have MP8 := Aside0.mk (MP.out.grown RV.out hg); have HX8 := Aside0.mk hb8; clear ho hb8 hg hat RV GX MP HX; skip)
                        | ((with_reducible refine gate_dst (N := 114) rfl ?_); refine get_event2 (.inr trivial) _ _ rfl bM (k + gone.length) g u y rfl MP8.out rfl HWu.out HY.out rfl ?_; skip))
                      go_roundw
                      case rel => exact ⟨q + 1, _, rfl, by rw [HLs.out]; go_num, by have := HU.out; go_num, by have := HC12.out; omega, by have := HC12.out; omega, RV8, GX8, MP8, HX8⟩
                      case measure => first | (simp [intOf]; done) | (simp [intOf]; have := HU.out; have := HC12.out; omega)
                  · have hd2 : decide (u < 5000) = false := decide_eq_false (by have := HU.out; omega)
                    have hd5 : decide ((5000 : Int) ≤ lz) = true := decide_eq_true (by have := HLz.out; omega)
                    have HA9 := Aside0.mk (hAw.out wr HX.out)
                    clear c1 c2
                    go_wp2_with (go_at_call 14; refine HA9.out.mono ?_; rintro e w4 ⟨rfl, hb⟩; have HB4 := Aside0.mk hb; clear hb)
                    go_ret
                    exact ⟨rfl, HX.out.trans (HB4.out.mono HX.out.size)⟩
                · have hd1 : decide (u ≤ lz) = false := decide_eq_false (by have := HU.out; have := HLz.out; omega)
                  have hd5 : decide ((5000 : Int) ≤ lz) = false := decide_eq_false (by have := HU.out; have := HLz.out; omega)
                  have hqe : q = L := by omega
                  have hL5 : L ≤ 4999 := by omega
                  rw [hqe] at RV
                  rw [hqe]
                  obtain ⟨o1, o2, o3, o4⟩ := HPL.out g HG.out
                  obtain ⟨hq1, hq2, hq3⟩ := Kd.R_reads' RV.out
                  obtain rfl := hq1
                  have hvl := viewN_len am g L
                  have hlm : (am.map seenM).length = am.length := List.length_map _
                  have HT1 := Aside0.mk (fun W (hW : Below wr.heap.size wr W) => hSy.out (viewN am g L) A7 _ c7 W (HX.out.trans (hW.mono HX.out.size)) rfl (Kd.C_below hq3 hW) hq2 (by omega))
                  rw [o1, o2, hlm] at HT1
                  have HT2 := Aside0.mk (fun A W (hW : Below wr.heap.size wr W) (h : Kd.C k37 W A am.length (am.map seenM)) => hSy.out (am.map seenM) A am.length am.length W (HX.out.trans (hW.mono HX.out.size)) hlm.symm h (Nat.le_refl _) (by omega))
                  rw [o3, o4, hlm] at HT2
                  have HN9 := Aside0.mk (fun W (hW : Below wr.heap.size wr W) => hNe.out W (HX.out.trans (hW.mono HX.out.size)))
                  have HA9 := Aside0.mk (fun W (hW : Below wr.heap.size wr W) => hAw.out W (HX.out.trans (hW.mono HX.out.size)))
                  have hlo := lostN_le g L
                  clear hqe o1 o2 o3 o4 hq2 hq3 hvl hlm hSy hNe hAw RV MP HG HPL HPw HC5 HI5 HGC HGI c1
                  generalize lostN g L = lo at *
                  generalize (viewN am g L).length = n7 at *
                  have hlo9 : (lo : Int) ≤ 5000 := by omega
                  have X_0 := GX
                  have HXF := HX
                  clear hlo hqL hq5 GX HX
                  have zX0 := blk_cell X_0.out 0
                  have zX1 := blk_cell X_0.out 1
                  have zX2 := blk_cell X_0.out 2
                  have zX3 := blk_cell X_0.out 3
                  have zX4 := blk_cell X_0.out 4
                  have zX5 := blk_cell X_0.out 5
                  by_cases hKl2 : k < am.length
                  · rw [if_pos hKl2] at HT1
                    have hd7 : decide (kz < (am.length : Int)) = true := decide_eq_true (by have := HKz.out; omega)
                    clear hKl2
                    have M0_0 := Aside0.mk (Below.refl wr.heap.size wr)
                    go_wp2_with (first
                      | (go_at_call 15; refine (HT1.out wr M0_0.out).mono ?_; rintro e_ w_1 ⟨A1, A2, c2, rfl, h1, hb⟩; have M0_1 := Aside0.mk (M0_0.out.trans (hb.mono M0_0.out.size)); have X_1 := Aside0.mk (blk_below X_0.out hb); have M1_1 := Aside0.mk (Below.refl w_1.heap.size w_1); have O1 := Aside0.mk h1; clear hb h1 M0_0 X_0; have zX0 := blk_cell X_1.out 0; have zX1 := blk_cell X_1.out 1; have zX2 := blk_cell X_1.out 2; have zX3 := blk_cell X_1.out 3; have zX4 := blk_cell X_1.out 4; have zX5 := blk_cell X_1.out 5; skip)
                      | (go_at_call 15; refine (HT2.out A1 w_1 M0_1.out (Kd.C_below O1.out M1_1.out)).mono ?_; rintro e_ w_2 ⟨A3, A4, c4, rfl, h3, hb⟩; have M0_2 := Aside0.mk (M0_1.out.trans (hb.mono M0_1.out.size)); have M1_2 := Aside0.mk (M1_1.out.trans (hb.mono M1_1.out.size)); have X_2 := Aside0.mk (blk_below X_1.out hb); have M2_2 := Aside0.mk (Below.refl w_2.heap.size w_2); have O3 := Aside0.mk h3; clear hb h3 M0_1 M1_1 X_1 zX0 zX1 zX2 zX3 zX4 zX5; have zX0 := blk_cell X_2.out 0; have zX1 := blk_cell X_2.out 1; have zX2 := blk_cell X_2.out 2; have zX3 := blk_cell X_2.out 3; have zX4 := blk_cell X_2.out 4; have zX5 := blk_cell X_2.out 5; skip)
                      | (go_at_call 17; refine (HN9.out w_2 M0_2.out).mono ?_; rintro e_ w_3 ⟨AN, cN, rfl, hcN, hN, hb⟩; have M0_3 := Aside0.mk (M0_2.out.trans (hb.mono M0_2.out.size)); have M1_3 := Aside0.mk (M1_2.out.trans (hb.mono M1_2.out.size)); have M2_3 := Aside0.mk (M2_2.out.trans (hb.mono M2_2.out.size)); have X_3 := Aside0.mk (blk_below X_2.out hb); have M3_3 := Aside0.mk (Below.refl w_3.heap.size w_3); have CN := Aside0.mk hN; have LN := Aside0.mk hcN; clear hb hN hcN M0_2 M1_2 M2_2 X_2 zX0 zX1 zX2 zX3 zX4 zX5; have zX0 := blk_cell X_3.out 0; have zX1 := blk_cell X_3.out 1; have zX2 := blk_cell X_3.out 2; have zX3 := blk_cell X_3.out 3; have zX4 := blk_cell X_3.out 4; have zX5 := blk_cell X_3.out 5; skip)
                      | (go_at_call 16; refine (hSa.out A1 am.length AN cN w_3 (Kd.C_below O1.out M1_3.out) (Nat.le_refl _) (Kd.C_below CN.out M3_3.out) LN.out).mono ?_; rintro e_ w_4 ⟨rfl, hb⟩; have M0_4 := Aside0.mk (M0_3.out.trans (hb.mono M0_3.out.size)); have M1_4 := Aside0.mk (M1_3.out.trans (hb.mono M1_3.out.size)); have M2_4 := Aside0.mk (M2_3.out.trans (hb.mono M2_3.out.size)); have M3_4 := Aside0.mk (M3_3.out.trans (hb.mono M3_3.out.size)); have X_4 := Aside0.mk (blk_below X_3.out hb); clear hb M0_3 M1_3 M2_3 M3_3 X_3 zX0 zX1 zX2 zX3 zX4 zX5; have zX0 := blk_cell X_4.out 0; have zX1 := blk_cell X_4.out 1; have zX2 := blk_cell X_4.out 2; have zX3 := blk_cell X_4.out 3; have zX4 := blk_cell X_4.out 4; have zX5 := blk_cell X_4.out 5; skip)
                      | (go_at_call 16; refine (hSa.out A3 am.length A1 am.length w_4 (Kd.C_below O3.out M2_4.out) (Nat.le_refl _) (Kd.C_below O1.out M1_4.out) (Nat.le_refl _)).mono ?_; rintro e_ w_5 ⟨rfl, hb⟩; have M0_5 := Aside0.mk (M0_4.out.trans (hb.mono M0_4.out.size)); have M1_5 := Aside0.mk (M1_4.out.trans (hb.mono M1_4.out.size)); have M2_5 := Aside0.mk (M2_4.out.trans (hb.mono M2_4.out.size)); have M3_5 := Aside0.mk (M3_4.out.trans (hb.mono M3_4.out.size)); have X_5 := Aside0.mk (blk_below X_4.out hb); clear hb M0_4 M1_4 M2_4 M3_4 X_4 zX0 zX1 zX2 zX3 zX4 zX5; have zX0 := blk_cell X_5.out 0; have zX1 := blk_cell X_5.out 1; have zX2 := blk_cell X_5.out 2; have zX3 := blk_cell X_5.out 3; have zX4 := blk_cell X_5.out 4; have zX5 := blk_cell X_5.out 5; skip)
                      | (go_at_call 14; refine (HA9.out w_5 M0_5.out).mono ?_; rintro e_ w_6 ⟨rfl, hb⟩; have M0_6 := Aside0.mk (M0_5.out.trans (hb.mono M0_5.out.size)); have M1_6 := Aside0.mk (M1_5.out.trans (hb.mono M1_5.out.size)); have M2_6 := Aside0.mk (M2_5.out.trans (hb.mono M2_5.out.size)); have M3_6 := Aside0.mk (M3_5.out.trans (hb.mono M3_5.out.size)); have X_6 := Aside0.mk (blk_below X_5.out hb); clear hb M0_5 M1_5 M2_5 M3_5 X_5 zX0 zX1 zX2 zX3 zX4 zX5; have zX0 := blk_cell X_6.out 0; have zX1 := blk_cell X_6.out 1; have zX2 := blk_cell X_6.out 2; have zX3 := blk_cell X_6.out 3; have zX4 := blk_cell X_6.out 4; have zX5 := blk_cell X_6.out 5; skip))
                    go_ret
                    exact ⟨rfl, HXF.out.trans ((M0_6.out).mono HXF.out.size)⟩
                  · rw [if_neg hKl2, Nat.add_zero] at HT1
                    have hd7 : decide (kz < (am.length : Int)) = false := decide_eq_false (by have := HKz.out; omega)
                    clear hKl2
                    have M0_0 := Aside0.mk (Below.refl wr.heap.size wr)
                    go_wp2_with (first
                      | (go_at_call 15; refine (HT1.out wr M0_0.out).mono ?_; rintro e_ w_1 ⟨A1, A2, c2, rfl, h1, hb⟩; have M0_1 := Aside0.mk (M0_0.out.trans (hb.mono M0_0.out.size)); have X_1 := Aside0.mk (blk_below X_0.out hb); have M1_1 := Aside0.mk (Below.refl w_1.heap.size w_1); have O1 := Aside0.mk h1; clear hb h1 M0_0 X_0; have zX0 := blk_cell X_1.out 0; have zX1 := blk_cell X_1.out 1; have zX2 := blk_cell X_1.out 2; have zX3 := blk_cell X_1.out 3; have zX4 := blk_cell X_1.out 4; have zX5 := blk_cell X_1.out 5; skip)
                      | (go_at_call 15; refine (HT2.out A1 w_1 M0_1.out (Kd.C_below O1.out M1_1.out)).mono ?_; rintro e_ w_2 ⟨A3, A4, c4, rfl, h3, hb⟩; have M0_2 := Aside0.mk (M0_1.out.trans (hb.mono M0_1.out.size)); have M1_2 := Aside0.mk (M1_1.out.trans (hb.mono M1_1.out.size)); have X_2 := Aside0.mk (blk_below X_1.out hb); have M2_2 := Aside0.mk (Below.refl w_2.heap.size w_2); have O3 := Aside0.mk h3; clear hb h3 M0_1 M1_1 X_1 zX0 zX1 zX2 zX3 zX4 zX5; have zX0 := blk_cell X_2.out 0; have zX1 := blk_cell X_2.out 1; have zX2 := blk_cell X_2.out 2; have zX3 := blk_cell X_2.out 3; have zX4 := blk_cell X_2.out 4; have zX5 := blk_cell X_2.out 5; skip)
                      | (go_at_call 17; refine (HN9.out w_2 M0_2.out).mono ?_; rintro e_ w_3 ⟨AN, cN, rfl, hcN, hN, hb⟩; have M0_3 := Aside0.mk (M0_2.out.trans (hb.mono M0_2.out.size)); have M1_3 := Aside0.mk (M1_2.out.trans (hb.mono M1_2.out.size)); have M2_3 := Aside0.mk (M2_2.out.trans (hb.mono M2_2.out.size)); have X_3 := Aside0.mk (blk_below X_2.out hb); have M3_3 := Aside0.mk (Below.refl w_3.heap.size w_3); have CN := Aside0.mk hN; have LN := Aside0.mk hcN; clear hb hN hcN M0_2 M1_2 M2_2 X_2 zX0 zX1 zX2 zX3 zX4 zX5; have zX0 := blk_cell X_3.out 0; have zX1 := blk_cell X_3.out 1; have zX2 := blk_cell X_3.out 2; have zX3 := blk_cell X_3.out 3; have zX4 := blk_cell X_3.out 4; have zX5 := blk_cell X_3.out 5; skip)
                      | (go_at_call 16; refine (hSa.out A1 am.length AN cN w_3 (Kd.C_below O1.out M1_3.out) (Nat.le_refl _) (Kd.C_below CN.out M3_3.out) LN.out).mono ?_; rintro e_ w_4 ⟨rfl, hb⟩; have M0_4 := Aside0.mk (M0_3.out.trans (hb.mono M0_3.out.size)); have M1_4 := Aside0.mk (M1_3.out.trans (hb.mono M1_3.out.size)); have M2_4 := Aside0.mk (M2_3.out.trans (hb.mono M2_3.out.size)); have M3_4 := Aside0.mk (M3_3.out.trans (hb.mono M3_3.out.size)); have X_4 := Aside0.mk (blk_below X_3.out hb); clear hb M0_3 M1_3 M2_3 M3_3 X_3 zX0 zX1 zX2 zX3 zX4 zX5; have zX0 := blk_cell X_4.out 0; have zX1 := blk_cell X_4.out 1; have zX2 := blk_cell X_4.out 2; have zX3 := blk_cell X_4.out 3; have zX4 := blk_cell X_4.out 4; have zX5 := blk_cell X_4.out 5; skip)
                      | (go_at_call 16; refine (hSa.out A3 am.length A1 am.length w_4 (Kd.C_below O3.out M2_4.out) (Nat.le_refl _) (Kd.C_below O1.out M1_4.out) (Nat.le_refl _)).mono ?_; rintro e_ w_5 ⟨rfl, hb⟩; have M0_5 := Aside0.mk (M0_4.out.trans (hb.mono M0_4.out.size)); have M1_5 := Aside0.mk (M1_4.out.trans (hb.mono M1_4.out.size)); have M2_5 := Aside0.mk (M2_4.out.trans (hb.mono M2_4.out.size)); have M3_5 := Aside0.mk (M3_4.out.trans (hb.mono M3_4.out.size)); have X_5 := Aside0.mk (blk_below X_4.out hb); clear hb M0_4 M1_4 M2_4 M3_4 X_4 zX0 zX1 zX2 zX3 zX4 zX5; have zX0 := blk_cell X_5.out 0; have zX1 := blk_cell X_5.out 1; have zX2 := blk_cell X_5.out 2; have zX3 := blk_cell X_5.out 3; have zX4 := blk_cell X_5.out 4; have zX5 := blk_cell X_5.out 5; skip)
                      | (go_at_call 14; refine (HA9.out w_5 M0_5.out).mono ?_; rintro e_ w_6 ⟨rfl, hb⟩; have M0_6 := Aside0.mk (M0_5.out.trans (hb.mono M0_5.out.size)); have M1_6 := Aside0.mk (M1_5.out.trans (hb.mono M1_5.out.size)); have M2_6 := Aside0.mk (M2_5.out.trans (hb.mono M2_5.out.size)); have M3_6 := Aside0.mk (M3_5.out.trans (hb.mono M3_5.out.size)); have X_6 := Aside0.mk (blk_below X_5.out hb); clear hb M0_5 M1_5 M2_5 M3_5 X_5 zX0 zX1 zX2 zX3 zX4 zX5; have zX0 := blk_cell X_6.out 0; have zX1 := blk_cell X_6.out 1; have zX2 := blk_cell X_6.out 2; have zX3 := blk_cell X_6.out 3; have zX4 := blk_cell X_6.out 4; have zX5 := blk_cell X_6.out 5; skip))
                    go_ret
                    exact ⟨rfl, HXF.out.trans ((M0_6.out).mono HXF.out.size)⟩
theorem toldNew_open (x : BoxT) (cs : Array Value) (AG : Option Addr) (cG : Nat) (gone : List Int) (kk : Int) (w : World) (ht : Tab w) (hK : boxD.K w x cs.toList) (hok : okB x) (hl : gone.length ≤ cG) (hC : Kd.C (Kd.int .i64) w AG gone.length gone) (hg : ∀ u ∈ gone, (Lit.int .i64 u).wf = true) :
    Calls Tryd.prog 3 #[.agg cs, .slice AG gone.length cG, .int .i64 kk] w fun e w' => e = .returned (.bool true) ∧ Below w.heap.size w w' := by
  obtain ⟨A4, c4, A5, c5, rfl, C4, h4, C5, h5⟩ := box_open hK
  exact toldNew_calls x.1 x.2.1 x.2.2.1 x.2.2.2.1 A4 c4 _ A5 c5 _ AG cG gone kk w ht (BoxIn.of hok C4 h4 C5 h5) hC hl hg
end Go.Proofs.YtplfpbfmnogckaaDoor.TdX
