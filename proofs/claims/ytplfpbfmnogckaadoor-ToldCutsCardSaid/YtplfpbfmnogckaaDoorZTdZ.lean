-- Printed by prune.py: the used part of a text.
import Derived.Test.YtplfpbfmnogckaaDoorZMpI
import Derived.Test.YtplfpbfmnogckaaDoorZTdO
import Derived.Test.YtplfpbfmnogckaaDoorZTg
namespace Go.Proofs.YtplfpbfmnogckaaDoor.TdZ
open Go.RowKit Go.Proofs.YtplfpbfmnogckaaDoorW.PrintWords Go.Proofs.YtplfpbfmnogckaaDoorW.PrintLast Go.Proofs.YtplfpbfmnogckaaDoorW.PrintMore Go.Proofs.YtplfpbfmnogckaaDoor.TdG Go.Proofs.YtplfpbfmnogckaaDoor.TdM Go.Proofs.YtplfpbfmnogckaaDoor.TdP Go.Proofs.YtplfpbfmnogckaaDoor.TdD Go.Proofs.YtplfpbfmnogckaaDoor.ItT Go.Proofs.YtplfpbfmnogckaaDoor.ItO Go.Proofs.YtplfpbfmnogckaaDoor.TdF Go.Proofs.YtplfpbfmnogckaaDoor.TdS Go.Proofs.YtplfpbfmnogckaaDoor.TdA Go.Proofs.YtplfpbfmnogckaaDoor.TdW Go.Proofs.YtplfpbfmnogckaaDoor.TdR Go.Proofs.YtplfpbfmnogckaaDoor.TdN Go.Proofs.YtplfpbfmnogckaaDoor.MpI Go.Proofs.YtplfpbfmnogckaaDoor.TdO Go.Proofs.YtplfpbfmnogckaaDoor.Rw
set_option linter.unusedVariables false
set_option linter.unusedSimpArgs false
def kV (w0 : World) : Kd S34 where
  sz := 7
  E := []
  K := fun _ x cs => k34.K w0 x cs
  M := fun _ _ _ x cs => k34.K w0 x cs
  K_len := fun h => k34.K_len h
  K_one := fun h => k34.K_one h
  K_below := fun _ h => h
  K_of_M := fun h => h
  M_mono := fun _ h => h
  M_bound := fun h => h
  M_move := fun _ h => h
  M_lower := fun _ h => h
theorem kV_out {w0 w : World} (hb : Below w0.heap.size w0 w) {A : Option Addr} {n : Nat} {l : List S34} (h : Kd.C (kV w0) w A n l) : Kd.C k34 w A n l :=
  ⟨h.1, h.2.1, fun hn => by
    obtain ⟨ad, e, hc⟩ := h.2.2 hn
    exact ⟨ad, e, fun j p hj => by
      obtain ⟨c, hl, hK, hr⟩ := hc j p hj
      exact ⟨c, hl, k34.K_below hb hK, hr⟩⟩⟩
theorem kV_types (w : World) : ∀ q, q ∈ 34 :: (kV w).E → q ≠ 25 := by
  intro q hq
  have h : q = 34 := by simpa [kV] using hq
  subst h
  decide
theorem sets1 {w : World} {g : Nat} {t : TypeId} {cs cs' : Array Value} (h : w.heap[g]? = some (.cells cs t (0, 0))) (i : Nat) (u : Value) (hc : cs.setIfInBounds i u = cs') :
    ∃ w1, w.setCell ⟨g, i, none⟩ u = w1 ∧ w1.heap[g]? = some (.cells cs' t (0, 0)) ∧ Only g w w1 :=
  ⟨_, rfl, hc ▸ blk_set h i u, (Only.refl g w).put i u⟩
theorem info_msgs : (Tryd.prog.info? 34).map (fun i => (i.zero, i.size, i.bytes)) = some (some (.agg #[.int .i64 0, .int .i64 0, .int .i64 0, .string ⟨#[]⟩, .int .i64 0, .slice none 0 0, .string ⟨#[]⟩]), 7, 88) := by kernel_rfl
theorem wf64 {n : Int} (h0 : -9223372036854775808 ≤ n) (h1 : n ≤ 9223372036854775807) : (Lit.int .i64 n).wf = true := by
  have h2 : IntKind.i64.min = -9223372036854775808 := rfl
  have h3 : IntKind.i64.max = 9223372036854775807 := rfl
  simp [Lit.wf, h2, h3]
  omega
def inF (gone : List Int) : Int → Int := fun u => if u ∈ gone then 1 else 0
def keepB (gone : List Int) : Int → Bool := fun u => !decide (u ∈ gone)
def keepL (gone : List Int) (l : List S34) : List S34 := l.filter (fun m => keepB gone m.f0)
def cutN (gone : List Int) (l : List S34) : Nat := (l.filter (fun m => !keepB gone m.f0)).length
theorem inF_nil : inF [] = fun _ => 0 := by funext u; simp [inF]
theorem inF_snoc (l : List Int) (u : Int) : putI (inF l) u 1 = inF (l ++ [u]) := by
  funext x
  unfold putI inF
  by_cases h : x = u
  · simp [h]
  · simp [h]
theorem keepL_at (gone) (am : List S34) (k : Nat) (hk : k < am.length) : keepL gone (am.take (k + 1)) = keepL gone (am.take k) ++ (if am[k].f0 ∈ gone then [] else [am[k]]) := by
  unfold keepL
  rw [List.take_succ_eq_append_getElem hk, List.filter_append]
  congr 1
  by_cases h : am[k].f0 ∈ gone
  · simp [keepB, h]
  · simp [keepB, h]
theorem cutN_at (gone) (am : List S34) (k : Nat) (hk : k < am.length) : cutN gone (am.take (k + 1)) = cutN gone (am.take k) + (if am[k].f0 ∈ gone then 1 else 0) := by
  unfold cutN
  rw [List.take_succ_eq_append_getElem hk, List.filter_append, List.length_append]
  congr 1
  by_cases h : am[k].f0 ∈ gone
  · simp [keepB, h]
  · simp [keepB, h]
theorem keepL_len (gone) (l : List S34) : (keepL gone l).length ≤ l.length := List.length_filter_le _ _
theorem cutN_len (gone) (l : List S34) : cutN gone l ≤ l.length := List.length_filter_le _ _
theorem keep_sub (gone) (l : List S34) : ∀ m ∈ keepL gone l, m ∈ l := fun m hm => (List.mem_filter.1 hm).1
theorem rd_nat (l : List Int) {k : Nat} (hk : k < l.length) : Go.Proofs.YtplfpbfmnogckaaDoorW.PrintWords.rd l (k : Int) = l[k] := by
  unfold Go.Proofs.YtplfpbfmnogckaaDoorW.PrintWords.rd
  rw [Int.toNat_natCast, List.getD_eq_getElem?_getD, List.getElem?_eq_getElem hk]
  rfl
set_option maxRecDepth 100000 in
set_option maxHeartbeats 8000000 in
theorem toldCuts_calls (a0 : ByteArray) (a1 a2 a3 : Int) (aA4 : Option Addr) (ac4 : Nat) (aw : List ByteArray) (aA5 : Option Addr) (ac5 : Nat) (am : List S34) (AG : Option Addr) (cG : Nat) (gone : List Int) (w : World) (ht : Tab w) (hB : BoxIn w a0 aA4 ac4 aw aA5 ac5 am) (hG : Kd.C (Kd.int .i64) w AG gone.length gone) (hGc : gone.length ≤ cG) (hGi : ∀ u ∈ gone, (Lit.int .i64 u).wf = true) :
    Calls Tryd.prog 5 #[.agg #[.string a0, .int .i64 a1, .int .i64 a2, .int .i64 a3, .slice aA4 aw.length ac4, .slice aA5 am.length ac5], .slice AG gone.length cG] w fun e w' => e = .returned (.bool true) ∧ Below w.heap.size w w' := by
  have hu25 := Tryd.underlying25
  have hu34 := Tryd.underlying34
  have hAw := Aside0.mk (fun W (hW : Below w.heap.size w W) => awake_calls W (ht.below hW))
  have hHv := Aside0.mk (fun W hW => hB.heavy a1 a2 a3 W hW)
  rcases heavy_01 (bulk a0 aw am) aw.length am.length with hh | hh
  case inr =>
    rw [hh] at hHv
    clear hB ht hh hG hGc hGi
    go_enter Tryd.func5, Tryd.ntmps5
    have M0_0 := Aside0.mk (Below.refl w.heap.size w)
    go_wp2_with (first
      | ((with_reducible refine gate_dst (N := 2) rfl ?_); refine box_event ?hgX2 (N := 2) ?hdX2 (cs := #[.string a0, .int .i64 a1, .int .i64 a2, .int .i64 a3, .slice aA4 aw.length ac4, .slice aA5 am.length ac5]) (t := 25) ?hrX2 ?_; (case hdX2 => rfl); (case hgX2 => rfl); (case hrX2 => first | (go_simp; done) | (go_simp; rfl)); intro g_X hg_ w_1 hbx_ hb_; have L0_X := Aside0.mk (show w.heap.size ≤ g_X by have := M0_0.out.size; omega); have M0_1 := Aside0.mk (M0_0.out.trans (hb_.mono M0_0.out.size)); have X_1 := Aside0.mk hbx_; clear hg_ hbx_ hb_ M0_0; have zX0 := blk_cell X_1.out 0; have zX1 := blk_cell X_1.out 1; have zX2 := blk_cell X_1.out 2; have zX3 := blk_cell X_1.out 3; have zX4 := blk_cell X_1.out 4; have zX5 := blk_cell X_1.out 5; skip)
      | (go_at_call 12; refine (hHv.out w_1 M0_1.out).mono ?_; rintro e_ w_2 ⟨rfl, hb⟩; have M0_2 := Aside0.mk (M0_1.out.trans (hb.mono M0_1.out.size)); have X_2 := Aside0.mk (blk_below X_1.out hb); clear hb M0_1 X_1 zX0 zX1 zX2 zX3 zX4 zX5; have zX0 := blk_cell X_2.out 0; have zX1 := blk_cell X_2.out 1; have zX2 := blk_cell X_2.out 2; have zX3 := blk_cell X_2.out 3; have zX4 := blk_cell X_2.out 4; have zX5 := blk_cell X_2.out 5; skip)
      | (go_at_call 14; refine (hAw.out w_2 M0_2.out).mono ?_; rintro e_ w_3 ⟨rfl, hb⟩; have M0_3 := Aside0.mk (M0_2.out.trans (hb.mono M0_2.out.size)); have X_3 := Aside0.mk (blk_below X_2.out hb); clear hb M0_2 X_2 zX0 zX1 zX2 zX3 zX4 zX5; have zX0 := blk_cell X_3.out 0; have zX1 := blk_cell X_3.out 1; have zX2 := blk_cell X_3.out 2; have zX3 := blk_cell X_3.out 3; have zX4 := blk_cell X_3.out 4; have zX5 := blk_cell X_3.out 5; skip))
    go_ret
    exact ⟨rfl, M0_3.out⟩
  rw [hh] at hHv
  have hL := hB.light hh
  have hMy := Aside0.mk (fun W hW => hB.may hL a1 a2 a3 W hW)
  clear hh
  by_cases hP : boxP a0 a1 a2 a3 aw am = 0
  case neg =>
    have HPN : ((boxP a0 a1 a2 a3 aw am) != 0) = true := bne_iff_ne.mpr hP
    generalize boxP a0 a1 a2 a3 aw am = p at *
    clear hP hB hL ht hG hGc hGi
    go_enter Tryd.func5, Tryd.ntmps5
    have M0_0 := Aside0.mk (Below.refl w.heap.size w)
    go_wp2_with (first
      | ((with_reducible refine gate_dst (N := 2) rfl ?_); refine box_event ?hgX2 (N := 2) ?hdX2 (cs := #[.string a0, .int .i64 a1, .int .i64 a2, .int .i64 a3, .slice aA4 aw.length ac4, .slice aA5 am.length ac5]) (t := 25) ?hrX2 ?_; (case hdX2 => rfl); (case hgX2 => rfl); (case hrX2 => first | (go_simp; done) | (go_simp; rfl)); intro g_X hg_ w_1 hbx_ hb_; have L0_X := Aside0.mk (show w.heap.size ≤ g_X by have := M0_0.out.size; omega); have M0_1 := Aside0.mk (M0_0.out.trans (hb_.mono M0_0.out.size)); have X_1 := Aside0.mk hbx_; clear hg_ hbx_ hb_ M0_0; have zX0 := blk_cell X_1.out 0; have zX1 := blk_cell X_1.out 1; have zX2 := blk_cell X_1.out 2; have zX3 := blk_cell X_1.out 3; have zX4 := blk_cell X_1.out 4; have zX5 := blk_cell X_1.out 5; skip)
      | (go_at_call 12; refine (hHv.out w_1 M0_1.out).mono ?_; rintro e_ w_2 ⟨rfl, hb⟩; have M0_2 := Aside0.mk (M0_1.out.trans (hb.mono M0_1.out.size)); have X_2 := Aside0.mk (blk_below X_1.out hb); clear hb M0_1 X_1 zX0 zX1 zX2 zX3 zX4 zX5; have zX0 := blk_cell X_2.out 0; have zX1 := blk_cell X_2.out 1; have zX2 := blk_cell X_2.out 2; have zX3 := blk_cell X_2.out 3; have zX4 := blk_cell X_2.out 4; have zX5 := blk_cell X_2.out 5; skip)
      | (go_at_call 13; refine (hMy.out w_2 M0_2.out).mono ?_; rintro e_ w_3 ⟨rfl, hb⟩; have M0_3 := Aside0.mk (M0_2.out.trans (hb.mono M0_2.out.size)); have X_3 := Aside0.mk (blk_below X_2.out hb); clear hb M0_2 X_2 zX0 zX1 zX2 zX3 zX4 zX5; have zX0 := blk_cell X_3.out 0; have zX1 := blk_cell X_3.out 1; have zX2 := blk_cell X_3.out 2; have zX3 := blk_cell X_3.out 3; have zX4 := blk_cell X_3.out 4; have zX5 := blk_cell X_3.out 5; skip)
      | (go_at_call 14; refine (hAw.out w_3 M0_3.out).mono ?_; rintro e_ w_4 ⟨rfl, hb⟩; have M0_4 := Aside0.mk (M0_3.out.trans (hb.mono M0_3.out.size)); have X_4 := Aside0.mk (blk_below X_3.out hb); clear hb M0_3 X_3 zX0 zX1 zX2 zX3 zX4 zX5; have zX0 := blk_cell X_4.out 0; have zX1 := blk_cell X_4.out 1; have zX2 := blk_cell X_4.out 2; have zX3 := blk_cell X_4.out 3; have zX4 := blk_cell X_4.out 4; have zX5 := blk_cell X_4.out 5; skip))
    go_ret
    exact ⟨rfl, M0_4.out⟩
  rw [hP] at hMy
  by_cases h60 : 60 < gone.length
  case pos =>
    have hd : decide ((60 : Int) < (gone.length : Int)) = true := decide_eq_true (by omega)
    clear hP hB hL ht hG hGc hGi h60
    go_enter Tryd.func5, Tryd.ntmps5
    have M0_0 := Aside0.mk (Below.refl w.heap.size w)
    go_wp2_with (first
      | ((with_reducible refine gate_dst (N := 2) rfl ?_); refine box_event ?hgX2 (N := 2) ?hdX2 (cs := #[.string a0, .int .i64 a1, .int .i64 a2, .int .i64 a3, .slice aA4 aw.length ac4, .slice aA5 am.length ac5]) (t := 25) ?hrX2 ?_; (case hdX2 => rfl); (case hgX2 => rfl); (case hrX2 => first | (go_simp; done) | (go_simp; rfl)); intro g_X hg_ w_1 hbx_ hb_; have L0_X := Aside0.mk (show w.heap.size ≤ g_X by have := M0_0.out.size; omega); have M0_1 := Aside0.mk (M0_0.out.trans (hb_.mono M0_0.out.size)); have X_1 := Aside0.mk hbx_; clear hg_ hbx_ hb_ M0_0; have zX0 := blk_cell X_1.out 0; have zX1 := blk_cell X_1.out 1; have zX2 := blk_cell X_1.out 2; have zX3 := blk_cell X_1.out 3; have zX4 := blk_cell X_1.out 4; have zX5 := blk_cell X_1.out 5; skip)
      | (go_at_call 12; refine (hHv.out w_1 M0_1.out).mono ?_; rintro e_ w_2 ⟨rfl, hb⟩; have M0_2 := Aside0.mk (M0_1.out.trans (hb.mono M0_1.out.size)); have X_2 := Aside0.mk (blk_below X_1.out hb); clear hb M0_1 X_1 zX0 zX1 zX2 zX3 zX4 zX5; have zX0 := blk_cell X_2.out 0; have zX1 := blk_cell X_2.out 1; have zX2 := blk_cell X_2.out 2; have zX3 := blk_cell X_2.out 3; have zX4 := blk_cell X_2.out 4; have zX5 := blk_cell X_2.out 5; skip)
      | (go_at_call 13; refine (hMy.out w_2 M0_2.out).mono ?_; rintro e_ w_3 ⟨rfl, hb⟩; have M0_3 := Aside0.mk (M0_2.out.trans (hb.mono M0_2.out.size)); have X_3 := Aside0.mk (blk_below X_2.out hb); clear hb M0_2 X_2 zX0 zX1 zX2 zX3 zX4 zX5; have zX0 := blk_cell X_3.out 0; have zX1 := blk_cell X_3.out 1; have zX2 := blk_cell X_3.out 2; have zX3 := blk_cell X_3.out 3; have zX4 := blk_cell X_3.out 4; have zX5 := blk_cell X_3.out 5; skip)
      | (go_at_call 14; refine (hAw.out w_3 M0_3.out).mono ?_; rintro e_ w_4 ⟨rfl, hb⟩; have M0_4 := Aside0.mk (M0_3.out.trans (hb.mono M0_3.out.size)); have X_4 := Aside0.mk (blk_below X_3.out hb); clear hb M0_3 X_3 zX0 zX1 zX2 zX3 zX4 zX5; have zX0 := blk_cell X_4.out 0; have zX1 := blk_cell X_4.out 1; have zX2 := blk_cell X_4.out 2; have zX3 := blk_cell X_4.out 3; have zX4 := blk_cell X_4.out 4; have zX5 := blk_cell X_4.out 5; skip))
    go_ret
    exact ⟨rfl, M0_4.out⟩
  have hd : decide ((60 : Int) < (gone.length : Int)) = false := decide_eq_false (by omega)
  have hp := ((msgsOk_iff _ _ _ _ _).1 (may_parts hP).2.2.2.2).2
  have n5 := hL.n5
  have hNe := Aside0.mk (fun W (hW : Below w.heap.size w W) => new_calls a0 a1 a2 a3 aA4 ac4 aw aA5 ac5 am W (Kd.C_below hB.C4 hW) hB.c4 (Kd.C_below hB.C5 hW) hB.c5 (by omega))
  obtain ⟨f1, f2, f3, f4⟩ := cuts_plain hp aw (keepB gone) (keepL gone am) rfl
  change _ = cutN gone am at f2
  have hlm : (am.map seenM).length = am.length := List.length_map _
  have hSy := Aside0.mk (fun (cut : Bool) (A7 : Option Addr) (c7 : Nat) (W0 : World) (hW0 : Below w.heap.size w W0) (hC7 : Kd.C k34 W0 A7 (keepL gone am).length (keepL gone am)) (hc7 : (keepL gone am).length ≤ c7) (A : Option Addr) (c : Nat) (W : World) (hW : Below W0.heap.size W0 W) (h9 : Kd.C k37 W A am.length (am.map seenM)) (hc : am.length ≤ c) =>
    sync_n cut a0 a1 a2 a3 aA4 ac4 aw A7 c7 (keepL gone am) A am.length c (am.map seenM) W W0 hW (ht.below hW0) ⟨Kd.C_below hB.C4 hW0, hB.c4, hC7, hc7, hB.h0, hB.hs, fun m hm => hB.hw m (keep_sub _ _ m hm), fun m hm => hB.hi m (keep_sub _ _ m hm), hB.l4, by have := keepL_len gone am; omega⟩
      ⟨hL.n4, by have := keepL_len gone am; omega, fun m hm => hL.ms m (keep_sub _ _ m hm), fun m hm => hL.w6 m (keep_sub _ _ m hm), hL.s6⟩ hlm.symm h9 hc (by omega))
  have hS1 := Aside0.mk (hSy.out true)
  have hS2 := Aside0.mk (hSy.out false)
  rw [f1, f2] at hS1
  rw [f3, f4] at hS2
  have HC5 := Aside0.mk hB.C5
  have HI5 := Aside0.mk (fun m hm => (hB.hi m hm).1)
  have HGC := Aside0.mk hG
  have HGI := Aside0.mk hGi
  have hg9 : (gone.length : Int) ≤ 60 := by omega
  have hn9 : (am.length : Int) ≤ 100 := by omega
  clear hlm f1 f2 f3 f4 hSy hp hP hB hL ht hG hGc hGi h60 n5
  go_enter Tryd.func5, Tryd.ntmps5
  have M0_0 := Aside0.mk (Below.refl w.heap.size w)
  go_wp2_with (first
    | ((with_reducible refine gate_dst (N := 2) rfl ?_); refine box_event ?hgX2 (N := 2) ?hdX2 (cs := #[.string a0, .int .i64 a1, .int .i64 a2, .int .i64 a3, .slice aA4 aw.length ac4, .slice aA5 am.length ac5]) (t := 25) ?hrX2 ?_; (case hdX2 => rfl); (case hgX2 => rfl); (case hrX2 => first | (go_simp; done) | (go_simp; rfl)); intro g_X hg_ w_1 hbx_ hb_; have L0_X := Aside0.mk (show w.heap.size ≤ g_X by have := M0_0.out.size; omega); have M0_1 := Aside0.mk (M0_0.out.trans (hb_.mono M0_0.out.size)); have X_1 := Aside0.mk hbx_; clear hg_ hbx_ hb_ M0_0; have zX0 := blk_cell X_1.out 0; have zX1 := blk_cell X_1.out 1; have zX2 := blk_cell X_1.out 2; have zX3 := blk_cell X_1.out 3; have zX4 := blk_cell X_1.out 4; have zX5 := blk_cell X_1.out 5; skip)
    | (go_at_call 12; refine (hHv.out w_1 M0_1.out).mono ?_; rintro e_ w_2 ⟨rfl, hb⟩; have M0_2 := Aside0.mk (M0_1.out.trans (hb.mono M0_1.out.size)); have X_2 := Aside0.mk (blk_below X_1.out hb); clear hb M0_1 X_1 zX0 zX1 zX2 zX3 zX4 zX5; have zX0 := blk_cell X_2.out 0; have zX1 := blk_cell X_2.out 1; have zX2 := blk_cell X_2.out 2; have zX3 := blk_cell X_2.out 3; have zX4 := blk_cell X_2.out 4; have zX5 := blk_cell X_2.out 5; skip)
    | (go_at_call 13; refine (hMy.out w_2 M0_2.out).mono ?_; rintro e_ w_3 ⟨rfl, hb⟩; have M0_3 := Aside0.mk (M0_2.out.trans (hb.mono M0_2.out.size)); have X_3 := Aside0.mk (blk_below X_2.out hb); clear hb M0_2 X_2 zX0 zX1 zX2 zX3 zX4 zX5; have zX0 := blk_cell X_3.out 0; have zX1 := blk_cell X_3.out 1; have zX2 := blk_cell X_3.out 2; have zX3 := blk_cell X_3.out 3; have zX4 := blk_cell X_3.out 4; have zX5 := blk_cell X_3.out 5; skip)
    | (go_at_call 17; refine (hNe.out w_3 M0_3.out).mono ?_; rintro e_ w_4 ⟨AN, cN, rfl, hcN, hN, hb⟩; have M0_4 := Aside0.mk (M0_3.out.trans (hb.mono M0_3.out.size)); have X_4 := Aside0.mk (blk_below X_3.out hb); have M4_4 := Aside0.mk (Below.refl w_4.heap.size w_4); have CN := Aside0.mk hN; have LN := Aside0.mk hcN; clear hb hN hcN M0_3 X_3 zX0 zX1 zX2 zX3 zX4 zX5; have zX0 := blk_cell X_4.out 0; have zX1 := blk_cell X_4.out 1; have zX2 := blk_cell X_4.out 2; have zX3 := blk_cell X_4.out 3; have zX4 := blk_cell X_4.out 4; have zX5 := blk_cell X_4.out 5; skip)
    | ((with_reducible refine gate_dst (N := 33) rfl ?_); refine made_event rfl _ rfl ?_; intro bM w_5 hbM hI hb; have H0N4 := Aside0.mk M0_4.out; have M0_5 := Aside0.mk (M0_4.out.trans (hb.mono M0_4.out.size)); have M4_5 := Aside0.mk (M4_4.out.trans (hb.mono M4_4.out.size)); have X_5 := Aside0.mk (blk_below X_4.out hb); have M5_5 := Aside0.mk (Below.refl w_5.heap.size w_5); have MP := Aside0.mk hI; have LbN := Aside0.mk hbM; clear hb hI hbM M0_4 M4_4 X_4 zX0 zX1 zX2 zX3 zX4 zX5; have zX0 := blk_cell X_5.out 0; have zX1 := blk_cell X_5.out 1; have zX2 := blk_cell X_5.out 2; have zX3 := blk_cell X_5.out 3; have zX4 := blk_cell X_5.out 4; have zX5 := blk_cell X_5.out 5; skip))
  have MP0 := Aside0.mk (MI.cast (MP.out.below M5_5.out) (Nat.le_refl 0) inF_nil.symm)
  have GX0 := Aside0.mk X_5.out
  have H0N := H0N4
  have HN0 := Aside0.mk M4_5.out
  clear zX0 zX1 zX2 zX3 zX4 zX5 MP
  generalize w_4 = wN at *
  go_loopw [36] (fun i wr => ∃ k : Nat, k ≤ gone.length ∧ i = .int .i64 k ∧ Aside0 (wr.heap[g_X]? = some (.cells #[.string a0, .int .i64 a1, .int .i64 a2, .int .i64 a3, .slice aA4 aw.length ac4, .slice aA5 am.length ac5] 25 (0, 0))) ∧ Aside0 (MI wr bM k (inF (gone.take k))) ∧ Aside0 (Below wN.heap.size wN wr)) (fun i _ => gone.length - (intOf i).toNat)
  case atStart => exact ⟨0, Nat.zero_le _, rfl, GX0, MP0, HN0⟩
  case round =>
    clear GX0 MP0 HN0
    obtain ⟨k, hk, rfl, GX, MP, HN⟩ := hrel
    by_cases hlt : k < gone.length
    · obtain ⟨ad, e1, hx⟩ := Kd.at_int (Kd.C_below HGC.out (H0N.out.trans (HN.out.mono H0N.out.size))) (k : Int) (by omega) (by omega)
      cases e1
      rw [rd_nat gone hlt, Int.toNat_natCast] at hx
      have hsn := inF_snoc (gone.take k) gone[k]
      rw [← List.take_succ_eq_append_getElem hlt] at hsn
      have HSn := Aside0.mk hsn
      have HWf := Aside0.mk (HGI.out _ (List.getElem_mem hlt))
      clear hsn
      generalize gone[k] = u at *
      go_wp2_with (at_mapUpdate; refine put_event rfl _ _ _ rfl bM k (inF (gone.take k)) u 1 rfl MP.out (by omega) rfl rfl HWf.out (by decide) ?_; intro wm hI hg; have MP2 := Aside0.mk (MI.cast hI (Nat.le_refl _) HSn.out); have GX2 := Aside0.mk (grown_blk GX.out hg (MI.ne MP.out GX.out).symm); have HN2 := Aside0.mk (grown_only HN.out hg HN.out.size LbN.out); clear hI hg hx MP GX HN; skip)
      go_roundw
      case rel => exact ⟨k + 1, by omega, by go_num, GX2, MP2, HN2⟩
      case measure => first | (simp [intOf]; done) | (simp [intOf]; omega)
    · obtain rfl : k = gone.length := by omega
      rw [List.take_length] at MP
      have X_0 := GX
      have HBx := Aside0.mk (Nat.le_trans H0N.out.size HN.out.size)
      clear GX hk hlt
      have zX0 := blk_cell X_0.out 0
      have zX1 := blk_cell X_0.out 1
      have zX2 := blk_cell X_0.out 2
      have zX3 := blk_cell X_0.out 3
      have zX4 := blk_cell X_0.out 4
      have zX5 := blk_cell X_0.out 5
      have M0_0 := Aside0.mk (Below.refl wr.heap.size wr)
      have tok1 := Aside0.mk True.intro
      have tok2 := Aside0.mk True.intro
      go_wp2_with (first
        | ((with_reducible refine gate_dst (N := 9) rfl ?_); refine box_event ?hgL9 (N := 9) ?hdL9 (cs := #[.string (⟨#[]⟩ : ByteArray), .int .i64 0, .int .i64 0, .int .i64 0, .slice none 0 0, .slice none 0 0]) (t := 25) ?hrL9 ?_; (case hdL9 => rfl); (case hgL9 => rfl); (case hrL9 => first | (go_simp; done) | (go_simp; rfl)); intro g_L hg_ w_1 hbx_ hb_; have L0_L := Aside0.mk (show wr.heap.size ≤ g_L by have := M0_0.out.size; omega); have N_X_L := Aside0.mk (show g_X ≠ g_L by have := blk_lt X_0.out; omega); have M0_1 := Aside0.mk (M0_0.out.trans (hb_.mono M0_0.out.size)); have X_1 := Aside0.mk (blk_below X_0.out hb_); have L_1 := Aside0.mk hbx_; clear hg_ hbx_ hb_ M0_0 X_0; have zX0 := blk_cell X_1.out 0; have zX1 := blk_cell X_1.out 1; have zX2 := blk_cell X_1.out 2; have zX3 := blk_cell X_1.out 3; have zX4 := blk_cell X_1.out 4; have zX5 := blk_cell X_1.out 5; have zL0 := blk_cell L_1.out 0; have yL0 := blk_frozen L_1.out 0; have zL1 := blk_cell L_1.out 1; have yL1 := blk_frozen L_1.out 1; have zL2 := blk_cell L_1.out 2; have yL2 := blk_frozen L_1.out 2; have zL3 := blk_cell L_1.out 3; have yL3 := blk_frozen L_1.out 3; have zL4 := blk_cell L_1.out 4; have yL4 := blk_frozen L_1.out 4; have zL5 := blk_cell L_1.out 5; have yL5 := blk_frozen L_1.out 5; skip)
        | ((with_reducible refine gate_dst (N := 44) rfl ?_); clear tok1; clear zX0 zX1 zX2 zX3 zX4 zX5 zL0 yL0 zL1 yL1 zL2 yL2 zL3 yL3 zL4 yL4 zL5 yL5; obtain ⟨w_2, e_2, Be_, Oe_⟩ := sets6 L_1.out (.string a0) (.int .i64 a1) (.int .i64 a2) (.int .i64 a3) (.slice aA4 aw.length ac4) (.slice aA5 am.length ac5); rw [e_2]; clear e_2; have M0_2 := Aside0.mk (Oe_.below M0_1.out L0_L.out); have X_2 := Aside0.mk ((Oe_.keep g_X N_X_L.out).trans X_1.out); have L_2 := Aside0.mk Be_; clear Be_ Oe_ M0_1 X_1 L_1; have zX0 := blk_cell X_2.out 0; have zX1 := blk_cell X_2.out 1; have zX2 := blk_cell X_2.out 2; have zX3 := blk_cell X_2.out 3; have zX4 := blk_cell X_2.out 4; have zX5 := blk_cell X_2.out 5; have zL0 := blk_cell L_2.out 0; have yL0 := blk_frozen L_2.out 0; have zL1 := blk_cell L_2.out 1; have yL1 := blk_frozen L_2.out 1; have zL2 := blk_cell L_2.out 2; have yL2 := blk_frozen L_2.out 2; have zL3 := blk_cell L_2.out 3; have yL3 := blk_frozen L_2.out 3; have zL4 := blk_cell L_2.out 4; have yL4 := blk_frozen L_2.out 4; have zL5 := blk_cell L_2.out 5; have yL5 := blk_frozen L_2.out 5; skip)
        | ((with_reducible refine gate_dst (N := 45) rfl ?_); clear tok2; clear zX0 zX1 zX2 zX3 zX4 zX5 zL0 yL0 zL1 yL1 zL2 yL2 zL3 yL3 zL4 yL4 zL5 yL5; obtain ⟨w_3, e_3, Be_, Oe_⟩ := sets1 (cs' := #[.string a0, .int .i64 a1, .int .i64 a2, .int .i64 a3, .slice aA4 aw.length ac4, .slice none 0 0]) L_2.out 5 (.slice none 0 0) rfl; rw [e_3]; clear e_3; have M0_3 := Aside0.mk (Oe_.below M0_2.out L0_L.out); have X_3 := Aside0.mk ((Oe_.keep g_X N_X_L.out).trans X_2.out); have L_3 := Aside0.mk Be_; clear Be_ Oe_ M0_2 X_2 L_2; have zX5 := blk_cell X_3.out 5; have zL5 := blk_cell L_3.out 5; have yL5 := blk_frozen L_3.out 5; skip))
      have GX1 := Aside0.mk X_3.out
      have GL1 := Aside0.mk L_3.out
      have MP1 := Aside0.mk (MP.out.below M0_3.out)
      have HN1 := Aside0.mk (HN.out.trans ((M0_3.out).mono HN.out.size))
      have HLb : Aside0 (wN.heap.size ≤ g_L) := ⟨by have := HN.out.size; have := L0_L.out; omega⟩
      have HLx : Aside0 (g_X ≠ g_L) := ⟨by have := N_X_L.out; omega⟩
      have HLm : Aside0 (bM ≠ g_L) := ⟨by have := MP.out.lt; have := L0_L.out; omega⟩
      clear MP HN zX5 zL5 yL5
      go_loopw [48, 10] (fun i nn wr => ∃ (k : Nat) (A7 : Option Addr) (n7 c7 : Nat), k ≤ am.length ∧ i = .int .i64 k ∧ nn = .int .i64 ((cutN gone (am.take k) : Nat) : Int) ∧ Aside0 (wr.heap[g_X]? = some (.cells #[.string a0, .int .i64 a1, .int .i64 a2, .int .i64 a3, .slice aA4 aw.length ac4, .slice aA5 am.length ac5] 25 (0, 0))) ∧ Aside0 (wr.heap[g_L]? = some (.cells #[.string a0, .int .i64 a1, .int .i64 a2, .int .i64 a3, .slice aA4 aw.length ac4, .slice A7 n7 c7] 25 (0, 0)))
          ∧ Aside0 (Kd.R (kV w) 34 wr wN.heap.size (fun _ => True) (.slice A7 n7 c7) (keepL gone (am.take k))) ∧ Aside0 (MI wr bM gone.length (inF gone)) ∧ Aside0 (Below wN.heap.size wN wr)) (fun i _ _ => am.length - (intOf i).toNat)
      case atStart => exact ⟨0, none, 0, 0, Nat.zero_le _, rfl, rfl, GX1, GL1, ⟨Kd.R_nil _ _ _ _ _⟩, MP1, HN1⟩
      case round =>
        clear GX1 GL1 MP1 HN1
        obtain ⟨k, A7, n7, c7, hk, rfl, rfl, GX, GL, RV, MP, HN⟩ := hrel
        by_cases hlt : k < am.length
        · obtain ⟨adM, A6, c6, e1, hx0, hx1, hx2, hx3, hx4, hx5, hx6, hc6, hC6⟩ := at_T34 HC5.out (k : Int) (by omega) (by omega)
          cases e1
          rw [Int.toNat_natCast] at hx0 hx1 hx2 hx3 hx4 hx5 hx6
          rw [rdm_nat am hlt] at hx0 hx1 hx2 hx3 hx4 hx5 hx6 hc6 hC6
          have HBw := Aside0.mk (H0N.out.trans (HN.out.mono H0N.out.size))
          have hx0 := pw_cell_below HBw.out hx0; have hx1 := pw_cell_below HBw.out hx1; have hx2 := pw_cell_below HBw.out hx2; have hx3 := pw_cell_below HBw.out hx3; have hx4 := pw_cell_below HBw.out hx4; have hx5 := pw_cell_below HBw.out hx5; have hx6 := pw_cell_below HBw.out hx6
          have hko := keepL_at gone am k hlt
          have hcu := cutN_at gone am k hlt
          have hmi := HI5.out _ (List.getElem_mem hlt)
          have HLn : Aside0 ((keepL gone (am.take k)).length ≤ 100) := ⟨by have h1 := keepL_len gone (am.take k); rw [List.length_take] at h1; omega⟩
          have hqb : cutN gone (am.take k) ≤ 100 := by have h1 := cutN_len gone (am.take k); rw [List.length_take] at h1; omega
          have HKm := Aside0.mk (k34_mk w am[k] hc6 hC6)
          generalize am[k] = m at *
          have HWf := Aside0.mk (wf64 hmi.1 hmi.2)
          clear hC6 hc6 hmi
          by_cases hin : m.f0 ∈ gone
          · rw [if_pos hin, List.append_nil] at hko
            rw [if_pos hin] at hcu
            have hd2 : (inF gone m.f0 == 1) = true := by unfold inF; rw [if_pos hin]; rfl
            clear hin
            generalize cutN gone (am.take k) = q at *
            have hq9 : (q : Int) ≤ 100 := by omega
            have HCu := Aside0.mk hcu
            have HKo := Aside0.mk hko
            clear hcu hqb hko
            go_wp2_with (first
              | ((with_reducible refine gate_dst (N := 12) rfl ?_); refine box_event ?hg12 (N := 12) ?hd12 (cs := #[.int .i64 0, .int .i64 0, .int .i64 0, .string (⟨#[]⟩ : ByteArray), .int .i64 0, .slice none 0 0, .string (⟨#[]⟩ : ByteArray)]) (t := 34) ?hr12 ?_; (case hd12 => rfl); (case hg12 => rfl); (case hr12 => first | (go_simp; done) | (go_simp; rfl)); intro gM hg_ w5 hbx hb5; have GM5 := Aside0.mk hbx; have RV5 := Aside0.mk (Kd.R_below (Kd.R_elderB RV.out gM (by omega)) hb5); have GX5 := Aside0.mk (blk_below GX.out hb5); have GL5 := Aside0.mk (blk_below GL.out hb5); have MP5 := Aside0.mk (MP.out.below hb5); have HN5 := Aside0.mk (HN.out.trans (hb5.mono HN.out.size)); have HgN : Aside0 (wN.heap.size ≤ gM) := ⟨by have := HN.out.size; omega⟩; have NX : Aside0 (g_X ≠ gM) := ⟨by have := blk_lt GX.out; omega⟩; have NL : Aside0 (g_L ≠ gM) := ⟨by have := blk_lt GL.out; omega⟩; have NP : Aside0 (bM ≠ gM) := ⟨by have := MP.out.lt; omega⟩; clear hg_ hbx hb5 hx0 hx1 hx2 hx3 hx4 hx5 hx6 RV GX GL MP HN; have zm0 := blk_cell GM5.out 0; have zf0 := blk_frozen GM5.out 0; have zm1 := blk_cell GM5.out 1; have zf1 := blk_frozen GM5.out 1; have zm2 := blk_cell GM5.out 2; have zf2 := blk_frozen GM5.out 2; have zm3 := blk_cell GM5.out 3; have zf3 := blk_frozen GM5.out 3; have zm4 := blk_cell GM5.out 4; have zf4 := blk_frozen GM5.out 4; have zm5 := blk_cell GM5.out 5; have zf5 := blk_frozen GM5.out 5; have zm6 := blk_cell GM5.out 6; have zf6 := blk_frozen GM5.out 6; skip)
              | ((with_reducible refine gate_dst (N := 53) rfl ?_); clear zm0 zf0 zm1 zf1 zm2 zf2 zm3 zf3 zm4 zf4 zm5 zf5 zm6 zf6; obtain ⟨w6, e6, Be6, Oe6⟩ := sets7 GM5.out (.int .i64 m.f0) (.int .i64 m.f1) (.int .i64 m.f2) (.string m.f3) (.int .i64 m.f4) (.slice A6 m.f5.length c6) (.string m.f6); rw [e6]; clear e6; have RV6 := Aside0.mk (Kd.R_step RV5.out (fun k ho _ => Oe6.keep k ho.2)); have GX6 := Aside0.mk ((Oe6.keep g_X NX.out).trans GX5.out); have GL6 := Aside0.mk ((Oe6.keep g_L NL.out).trans GL5.out); have MP6 := Aside0.mk (MP5.out.only Oe6 NP.out); have HN6 := Aside0.mk (Oe6.below HN5.out HgN.out); have HgL6 : Aside0 (gM < w6.heap.size) := ⟨blk_lt Be6⟩; have zm0 := blk_cell Be6 0; have zm1 := blk_cell Be6 1; have zm2 := blk_cell Be6 2; have zm3 := blk_cell Be6 3; have zm4 := blk_cell Be6 4; have zm5 := blk_cell Be6 5; have zm6 := blk_cell Be6 6; clear Be6 Oe6 RV5 GX5 GL5 MP5 HN5 GM5; skip)
              | ((with_reducible refine gate_dst (N := 55) rfl ?_); refine get_event rfl _ _ rfl bM gone.length (inF gone) m.f0 rfl MP6.out rfl HWf.out ?_; have MP7 := MP6; clear MP6; have zl5 := blk_cell GL6.out 5; skip))
            go_roundw
            case rel => exact ⟨k + 1, A7, n7, c7, by omega, by go_num, by rw [HCu.out]; go_num, GX6, GL6, ⟨by rw [HKo.out]; exact Kd.R_mono RV6.out (fun _ _ => trivial)⟩, MP7, HN6⟩
            case measure => first | (simp [intOf]; done) | (simp [intOf]; omega)
          · rw [if_neg hin] at hko
            rw [if_neg hin, Nat.add_zero] at hcu
            have hd2 : (inF gone m.f0 == 1) = false := by unfold inF; rw [if_neg hin]; rfl
            have HKe := Aside0.mk hko
            have HCu := Aside0.mk hcu
            clear hin hko hcu hqb
            go_wp2_with (first
              | ((with_reducible refine gate_dst (N := 12) rfl ?_); refine box_event ?hg12 (N := 12) ?hd12 (cs := #[.int .i64 0, .int .i64 0, .int .i64 0, .string (⟨#[]⟩ : ByteArray), .int .i64 0, .slice none 0 0, .string (⟨#[]⟩ : ByteArray)]) (t := 34) ?hr12 ?_; (case hd12 => rfl); (case hg12 => rfl); (case hr12 => first | (go_simp; done) | (go_simp; rfl)); intro gM hg_ w5 hbx hb5; have GM5 := Aside0.mk hbx; have RV5 := Aside0.mk (Kd.R_below (Kd.R_elderB RV.out gM (by omega)) hb5); have GX5 := Aside0.mk (blk_below GX.out hb5); have GL5 := Aside0.mk (blk_below GL.out hb5); have MP5 := Aside0.mk (MP.out.below hb5); have HN5 := Aside0.mk (HN.out.trans (hb5.mono HN.out.size)); have HgN : Aside0 (wN.heap.size ≤ gM) := ⟨by have := HN.out.size; omega⟩; have NX : Aside0 (g_X ≠ gM) := ⟨by have := blk_lt GX.out; omega⟩; have NL : Aside0 (g_L ≠ gM) := ⟨by have := blk_lt GL.out; omega⟩; have NP : Aside0 (bM ≠ gM) := ⟨by have := MP.out.lt; omega⟩; clear hg_ hbx hb5 hx0 hx1 hx2 hx3 hx4 hx5 hx6 RV GX GL MP HN; have zm0 := blk_cell GM5.out 0; have zf0 := blk_frozen GM5.out 0; have zm1 := blk_cell GM5.out 1; have zf1 := blk_frozen GM5.out 1; have zm2 := blk_cell GM5.out 2; have zf2 := blk_frozen GM5.out 2; have zm3 := blk_cell GM5.out 3; have zf3 := blk_frozen GM5.out 3; have zm4 := blk_cell GM5.out 4; have zf4 := blk_frozen GM5.out 4; have zm5 := blk_cell GM5.out 5; have zf5 := blk_frozen GM5.out 5; have zm6 := blk_cell GM5.out 6; have zf6 := blk_frozen GM5.out 6; skip)
              | ((with_reducible refine gate_dst (N := 53) rfl ?_); clear zm0 zf0 zm1 zf1 zm2 zf2 zm3 zf3 zm4 zf4 zm5 zf5 zm6 zf6; obtain ⟨w6, e6, Be6, Oe6⟩ := sets7 GM5.out (.int .i64 m.f0) (.int .i64 m.f1) (.int .i64 m.f2) (.string m.f3) (.int .i64 m.f4) (.slice A6 m.f5.length c6) (.string m.f6); rw [e6]; clear e6; have RV6 := Aside0.mk (Kd.R_step RV5.out (fun k ho _ => Oe6.keep k ho.2)); have GX6 := Aside0.mk ((Oe6.keep g_X NX.out).trans GX5.out); have GL6 := Aside0.mk ((Oe6.keep g_L NL.out).trans GL5.out); have MP6 := Aside0.mk (MP5.out.only Oe6 NP.out); have HN6 := Aside0.mk (Oe6.below HN5.out HgN.out); have HgL6 : Aside0 (gM < w6.heap.size) := ⟨blk_lt Be6⟩; have zm0 := blk_cell Be6 0; have zm1 := blk_cell Be6 1; have zm2 := blk_cell Be6 2; have zm3 := blk_cell Be6 3; have zm4 := blk_cell Be6 4; have zm5 := blk_cell Be6 5; have zm6 := blk_cell Be6 6; clear Be6 Oe6 RV5 GX5 GL5 MP5 HN5 GM5; skip)
              | ((with_reducible refine gate_dst (N := 55) rfl ?_); refine get_event rfl _ _ rfl bM gone.length (inF gone) m.f0 rfl MP6.out rfl HWf.out ?_; have MP7 := MP6; clear MP6; have zl5 := blk_cell GL6.out 5; skip)
              | ((with_reducible refine gate_builtin (b := .append) (xs := #[.tmp 60, .tmp 62]) rfl ?_); at_builtin; refine Kd.R_append (kV w) (w0 := wN) wN.heap.size rfl (.tmp 60) (.tmp 62) 23 34 (.agg #[.int .i64 0, .int .i64 0, .int .i64 0, .string ⟨#[]⟩, .int .i64 0, .slice none 0 0, .string ⟨#[]⟩]) 88 rfl Tryd.underlying23 info_msgs rfl (Nat.succ_pos 6) (by omega) (.slice A7 n7 c7) (keepL gone (am.take k)) m [.int .i64 m.f0, .int .i64 m.f1, .int .i64 m.f2, .string m.f3, .int .i64 m.f4, .slice A6 m.f5.length c6, .string m.f6] (fun k => True ∧ k ≠ gM) (fun _ => False) rfl rfl ?aP (fun _ hk => hk.elim) ?aF ?aO ?aB ?aS ?aL ?_; (case aP => exact HKm.out); (case aF => exact (fun k hk => ⟨trivial, by have := HgL6.out; omega⟩)); (case aO => exact RV6.out); (case aB => exact HN6.out); (case aS => exact HN6.out.size); (case aL => have := HLn.out; omega); intro v8 w8 ho hb8 hg hat; rw [← HKe.out] at ho; obtain ⟨A9, n9, c9, rfl⟩ := slc ho; have RV8 := Aside0.mk ho; have GX8 := Aside0.mk (blk_grown GX6.out hg (row_ne RV6.out GX6.out (by decide))); have GL8 := Aside0.mk (blk_grown GL6.out hg (row_ne RV6.out GL6.out (by decide))); have MP8 := Aside0.mk (MP7.out.grown RV6.out hg); have HN8 := Aside0.mk hb8; clear ho hb8 hg hat RV6 GX6 GL6 MP7 HN6 zl5; have zl5 := blk_cell GL8.out 5; have zf5 := blk_frozen GL8.out 5; skip))
            go_roundw
            case rel => exact ⟨k + 1, A9, n9, c9, by omega, by go_num, by rw [HCu.out]; rfl, ⟨(Below.heap_setCell _ _ _ _ HLx.out).trans GX8.out⟩, ⟨blk_put GL8.out 5 _ rfl⟩, ⟨Kd.R_mono (Kd.R_set RV8.out GL8.out (kV_types w) 5 _) (fun _ _ => trivial)⟩, ⟨MP8.out.only ((Only.refl g_L w8).put 5 _) HLm.out⟩, ⟨HN8.out.setCell HLb.out _⟩⟩
            case measure => first | (simp [intOf]; done) | (simp [intOf]; omega)
        · obtain rfl : k = am.length := by omega
          rw [List.take_length] at RV
          rw [List.take_length]
          obtain ⟨hq1, hq2, hq3⟩ := Kd.R_reads' RV.out
          obtain rfl := hq1
          have HB9 := H0N.out.trans (HN.out.mono H0N.out.size)
          have HT1 := Aside0.mk (fun W (hW : Below wr.heap.size wr W) => hS1.out A7 c7 wr HB9 (kV_out HB9 hq3) hq2 AN cN W hW (Kd.C_below CN.out (HN.out.trans (hW.mono HN.out.size))) LN.out)
          have HT2 := Aside0.mk (fun W (hW : Below wr.heap.size wr W) => hS2.out A7 c7 wr HB9 (kV_out HB9 hq3) hq2 AN cN W hW (Kd.C_below CN.out (HN.out.trans (hW.mono HN.out.size))) LN.out)
          have HA9 := Aside0.mk (fun W (hW : Below wr.heap.size wr W) => hAw.out W (HB9.trans (hW.mono HB9.size)))
          have HBF := Aside0.mk HB9
          generalize keepL gone am = lm at *
          generalize cutN gone am = q at *
          have L_0 := GL
          clear hS1 hS2 hAw hHv hMy hNe RV MP HN GX GL hq2 hq3 HB9 hk hlt CN LN H0N HC5 HI5 HGC HGI HBx HLb HLx HLm LbN
          have zL0 := blk_cell L_0.out 0
          have zL1 := blk_cell L_0.out 1
          have zL2 := blk_cell L_0.out 2
          have zL3 := blk_cell L_0.out 3
          have zL4 := blk_cell L_0.out 4
          have zL5 := blk_cell L_0.out 5
          have M0_0 := Aside0.mk (Below.refl wr.heap.size wr)
          go_wp2_with (first
            | (go_at_call 15; refine (HT1.out wr M0_0.out).mono ?_; rintro e_ w_1 ⟨A1, A2, c2, rfl, h1, hb⟩; have M0_1 := Aside0.mk (M0_0.out.trans (hb.mono M0_0.out.size)); have L_1 := Aside0.mk (blk_below L_0.out hb); clear hb M0_0 L_0; have zL0 := blk_cell L_1.out 0; have zL1 := blk_cell L_1.out 1; have zL2 := blk_cell L_1.out 2; have zL3 := blk_cell L_1.out 3; have zL4 := blk_cell L_1.out 4; have zL5 := blk_cell L_1.out 5; skip)
            | (go_at_call 15; refine (HT2.out w_1 M0_1.out).mono ?_; rintro e_ w_2 ⟨A3, A4, c4, rfl, h1, hb⟩; have M0_2 := Aside0.mk (M0_1.out.trans (hb.mono M0_1.out.size)); have L_2 := Aside0.mk (blk_below L_1.out hb); clear hb M0_1 L_1 zL0 zL1 zL2 zL3 zL4 zL5; have zL0 := blk_cell L_2.out 0; have zL1 := blk_cell L_2.out 1; have zL2 := blk_cell L_2.out 2; have zL3 := blk_cell L_2.out 3; have zL4 := blk_cell L_2.out 4; have zL5 := blk_cell L_2.out 5; skip)
            | (go_at_call 14; refine (HA9.out w_2 M0_2.out).mono ?_; rintro e_ w_3 ⟨rfl, hb⟩; have M0_3 := Aside0.mk (M0_2.out.trans (hb.mono M0_2.out.size)); have L_3 := Aside0.mk (blk_below L_2.out hb); clear hb M0_2 L_2 zL0 zL1 zL2 zL3 zL4 zL5; have zL0 := blk_cell L_3.out 0; have zL1 := blk_cell L_3.out 1; have zL2 := blk_cell L_3.out 2; have zL3 := blk_cell L_3.out 3; have zL4 := blk_cell L_3.out 4; have zL5 := blk_cell L_3.out 5; skip))
          go_ret
          exact ⟨rfl, HBF.out.trans ((M0_3.out).mono HBF.out.size)⟩
theorem toldCuts_open (x : BoxT) (cs : Array Value) (AG : Option Addr) (cG : Nat) (gone : List Int) (w : World) (ht : Tab w) (hK : boxD.K w x cs.toList) (hok : okB x) (hl : gone.length ≤ cG) (hC : Kd.C (Kd.int .i64) w AG gone.length gone) (hg : ∀ u ∈ gone, (Lit.int .i64 u).wf = true) :
    Calls Tryd.prog 5 #[.agg cs, .slice AG gone.length cG] w fun e w' => e = .returned (.bool true) ∧ Below w.heap.size w w' := by
  obtain ⟨A4, c4, A5, c5, rfl, C4, h4, C5, h5⟩ := box_open hK
  exact toldCuts_calls x.1 x.2.1 x.2.2.1 x.2.2.2.1 A4 c4 _ A5 c5 _ AG cG gone w ht (BoxIn.of hok C4 h4 C5 h5) hC hl hg
end Go.Proofs.YtplfpbfmnogckaaDoor.TdZ
