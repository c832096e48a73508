-- Printed by prune.py: the used part of a text.
import Derived.Test.YtplfpbfmnogckaaDoorZTdA
import Derived.Test.YtplfpbfmnogckaaDoorZTdT
import Derived.Test.YtplfpbfmnogckaaDoorZTdU
namespace Go.Proofs.YtplfpbfmnogckaaDoor.TdW
open Go.RowKit Go.Proofs.YtplfpbfmnogckaaDoorW.PrintWords Go.Proofs.YtplfpbfmnogckaaDoorW.PrintLast Go.Proofs.YtplfpbfmnogckaaDoorW.PrintMore Go.Proofs.YtplfpbfmnogckaaDoor.TdG Go.Proofs.YtplfpbfmnogckaaDoor.TdM Go.Proofs.YtplfpbfmnogckaaDoor.TdP Go.Proofs.YtplfpbfmnogckaaDoor.TdD Go.Proofs.YtplfpbfmnogckaaDoor.ItT Go.Proofs.YtplfpbfmnogckaaDoor.ItO Go.Proofs.YtplfpbfmnogckaaDoor.TdF Go.Proofs.YtplfpbfmnogckaaDoor.TdS Go.Proofs.YtplfpbfmnogckaaDoor.TdT Go.Proofs.YtplfpbfmnogckaaDoor.TdU Go.Proofs.YtplfpbfmnogckaaDoor.TdA
set_option linter.unusedVariables false
set_option linter.unusedSimpArgs false
theorem sets6 {w : World} {g : Nat} {t : TypeId} {c0 c1 c2 c3 c4 c5 : Value} (h : w.heap[g]? = some (.cells #[c0, c1, c2, c3, c4, c5] t (0, 0))) (v0 v1 v2 v3 v4 v5 : Value) :
    ∃ w8, (((((w.setCell ⟨g, 0, none⟩ v0).setCell ⟨g, 1, none⟩ v1).setCell ⟨g, 2, none⟩ v2).setCell ⟨g, 3, none⟩ v3).setCell ⟨g, 4, none⟩ v4).setCell ⟨g, 5, none⟩ v5 = w8 ∧ w8.heap[g]? = some (.cells #[v0, v1, v2, v3, v4, v5] t (0, 0)) ∧ Only g w w8 := by
  have h0 := blk_put (cs' := #[v0, c1, c2, c3, c4, c5]) h 0 v0 rfl
  have h1 := blk_put (cs' := #[v0, v1, c2, c3, c4, c5]) h0 1 v1 rfl
  have h2 := blk_put (cs' := #[v0, v1, v2, c3, c4, c5]) h1 2 v2 rfl
  have h3 := blk_put (cs' := #[v0, v1, v2, v3, c4, c5]) h2 3 v3 rfl
  have h4 := blk_put (cs' := #[v0, v1, v2, v3, v4, c5]) h3 4 v4 rfl
  have h5 := blk_put (cs' := #[v0, v1, v2, v3, v4, v5]) h4 5 v5 rfl
  have o0 := (Only.refl g w).put 0 v0
  have o1 := o0.put 1 v1
  have o2 := o1.put 2 v2
  have o3 := o2.put 3 v3
  have o4 := o3.put 4 v4
  exact ⟨_, rfl, h5, o4.put 5 v5⟩
theorem sync_calls (cut : Bool) (a0 : ByteArray) (a1 a2 a3 : Int) (aA4 : Option Addr) (ac4 : Nat) (aw : List ByteArray) (aA5 : Option Addr) (ac5 : Nat) (am : List S34) (A : Option Addr) (c : Nat) (l : List S37) (w : World) (ht : Tab w) (hC4 : Kd.C Kd.string w aA4 aw.length aw) (hc4 : aw.length ≤ ac4) (hC5 : Kd.C k34 w aA5 am.length am) (hc5 : am.length ≤ ac5) (hCl : Kd.C k37 w A l.length l) (hcl : l.length ≤ c) (hM : ∀ m ∈ am, MsgOk aw m) (hn : am.length ≤ 100) (hl : l.length ≤ 10000) :
    Calls Tryd.prog 15 #[.slice A l.length c, .agg #[.string a0, .int .i64 a1, .int .i64 a2, .int .i64 a3, .slice aA4 aw.length ac4, .slice aA5 am.length ac5], .bool cut] w fun e w' => ∃ A1 A2 c2, e = .returned (.tuple #[.slice A1 (outS cut am l).length (outS cut am l).length, .slice A2 (linesS cut aw am l).length c2]) ∧ Kd.C k37 w' A1 (outS cut am l).length (outS cut am l) ∧ (linesS cut aw am l).length ≤ c2 ∧ Kd.C Kd.string w' A2 (linesS cut aw am l).length (linesS cut aw am l) ∧ Below w.heap.size w w' := by
  cases cut with
  | true =>
    refine (sync_true a0 a1 a2 a3 aA4 ac4 aw aA5 ac5 am A c l w ht hC4 hc4 hC5 hc5 hCl hcl hM hn hl).mono ?_
    rintro e w' ⟨A1, n1, A2, n2, c2, rfl, rfl, h1, rfl, h2, h3, hb⟩
    exact ⟨_, _, _, rfl, h1, h2, h3, hb⟩
  | false =>
    refine (sync_false a0 a1 a2 a3 aA4 ac4 aw aA5 ac5 am A c l w ht hC4 hc4 hC5 hc5 hCl hcl hM hn hl).mono ?_
    rintro e w' ⟨A1, n1, A2, n2, c2, rfl, rfl, h1, rfl, h2, h3, hb⟩
    exact ⟨_, _, _, rfl, h1, h2, h3, hb⟩
def w2m : S34 := ⟨2, 1, 0, ⟨#[120]⟩, 0, [], ⟨#[]⟩⟩
theorem w2_ok : ∀ m ∈ [w2m], MsgOk [] m := by
  intro m hm
  rw [List.mem_singleton.1 hm]
  exact ⟨by decide, by decide, by decide, by decide, by decide, by decide, by decide⟩
theorem w_out : outS true [w2m] [⟨1, 1⟩] = [(⟨2, 1⟩ : S37)] := by kernel_rfl
theorem w_lines : linesS true [] [w2m] [⟨1, 1⟩] = [(⟨#[42, 32, 49, 32, 69, 88, 80, 85, 78, 71, 69]⟩ : ByteArray), ⟨#[42, 32, 49, 32, 69, 88, 73, 83, 84, 83]⟩] := by decide +kernel
theorem w_place : 1 + findS 2 0 [(⟨2, 1⟩ : S37)] = 1 := by decide +kernel
theorem reps_w2 (w : World) (base : Nat) : Reps (k34.M w base fun _ => True) k34.sz [w2m] [.int .i64 2, .int .i64 1, .int .i64 0, .string (⟨#[120]⟩ : ByteArray), .int .i64 0, .slice none 0 0, .string (⟨#[]⟩ : ByteArray)] := by
  refine ⟨rfl, fun j p h => ?_⟩
  cases j with
  | zero =>
    have e : w2m = p := by simpa using h
    subst e
    exact k34_mkM w base _ w2m (Kd.R_nil _ _ _ _ _)
  | succ j => simp at h
theorem reps_s1 (w : World) (base : Nat) : Reps (k37.M w base fun _ => True) (Kd.sz k37) [(⟨1, 1⟩ : S37)] [.int .i64 1, .int .i64 1] := sC_reps (ok := fun _ => True) [(⟨1, 1⟩ : S37)]
theorem sync_awake (A5 : Option Addr) (c5 : Nat) (A : Option Addr) (c : Nat) (w : World) (ht : Tab w) (h5 : Kd.C k34 w A5 1 [w2m]) (hc5 : 1 ≤ c5) (hl : Kd.C k37 w A 1 [⟨1, 1⟩]) (hc : 1 ≤ c) :
    Calls Tryd.prog 15 #[.slice A 1 c, .agg #[.string (⟨#[98, 49]⟩ : ByteArray), .int .i64 1, .int .i64 3, .int .i64 1, .slice none 0 0, .slice A5 1 c5], .bool true] w fun e w' => ∃ ad1 ad2 c2, e = .returned (.tuple #[.slice (some ad1) 1 1, .slice (some ad2) 2 c2]) ∧ w'.cell? ad1 = some (.int .i64 2) ∧ w'.cell? ad2 = some (.string ⟨#[42, 32, 49, 32, 69, 88, 80, 85, 78, 71, 69]⟩) ∧ w'.cell? ⟨ad2.block, ad2.off + 1, none⟩ = some (.string ⟨#[42, 32, 49, 32, 69, 88, 73, 83, 84, 83]⟩) ∧ Kd.C k37 w' (some ad1) 1 [⟨2, 1⟩] ∧ Below w.heap.size w w' := by
  have h := sync_calls true (⟨#[98, 49]⟩ : ByteArray) 1 3 1 none 0 [] A5 c5 [w2m] A c [⟨1, 1⟩] w ht ⟨rfl, by decide, fun h => absurd h (by decide)⟩ (by decide) h5 hc5 hl hc w2_ok (by decide) (by decide)
  rw [w_out, w_lines] at h
  refine h.mono ?_
  rintro e w' ⟨A1, A2, c2, rfl, h1, h2, h3, hb⟩
  obtain ⟨ad1, e1, hx0, hx1⟩ := at_T37 h1 0 (by decide) (by decide)
  subst e1
  obtain ⟨ad2, e2, hy0⟩ := Kd.at_string h3 0 (by decide) (by decide)
  subst e2
  obtain ⟨ad3, e3, hy1⟩ := Kd.at_string h3 1 (by decide) (by decide)
  cases e3
  exact ⟨ad1, ad2, c2, rfl, hx0, hy0, (show w'.cell? (ad2.add 1) = some (.string ⟨#[42, 32, 49, 32, 69, 88, 73, 83, 84, 83]⟩) from hy1), h1, hb⟩
set_option maxRecDepth 100000 in
set_option maxHeartbeats 4000000 in
theorem awake_calls (w : World) (ht : Tab w) : Calls Tryd.prog 14 #[] w fun e w' => e = .returned (.bool true) ∧ Below w.heap.size w w' := by
  have hu25 := Tryd.underlying25
  have hu34 := Tryd.underlying34
  have hu37 := Tryd.underlying37
  have HS := Aside0.mk (fun A5 c5 A c W (hW : Below w.heap.size w W) h5 hc5 hl hc => sync_awake A5 c5 A c W (ht.below hW) h5 hc5 hl hc)
  have HN := Aside0.mk (fun A5 c5 W h5 (hc5 : 1 ≤ c5) => new_calls (⟨#[98, 49]⟩ : ByteArray) 1 3 1 none 0 [] A5 c5 [w2m] W ⟨rfl, by decide, fun h => absurd h (by decide)⟩ (by decide) h5 hc5 (by decide))
  have HP := Aside0.mk (fun A c W (h : Kd.C k37 W A 1 [⟨2, 1⟩]) => place_calls A 1 c [⟨2, 1⟩] 2 W rfl h (by decide))
  rw [w_place] at HP
  clear ht
  go_enter Tryd.func14, Tryd.ntmps14
  have M0_0 := Aside0.mk (Below.refl w.heap.size w)
  have tok1 := Aside0.mk True.intro
  go_wp2_with (first
    | ((with_reducible refine gate_dst (N := 5) rfl ?_); refine Kd.R_lit k34 (w0 := w) (w).heap.size 34 ?hg5 (N := 5) ?hd5 (xs := [w2m]) (inner := [.int .i64 2, .int .i64 1, .int .i64 0, .string (⟨#[120]⟩ : ByteArray), .int .i64 0, .slice none 0 0, .string (⟨#[]⟩ : ByteArray)]) (ok := fun _ => True) (okp := fun _ => True) ?hr5 ?hp5 (fun _ h => h) trivial (Below.refl _ _) (Nat.le_refl _) (by decide) ?_; (case hg5 => rfl); (case hd5 => rfl); (case hr5 => first | (go_simp; done) | (go_simp; rfl)); (case hp5 => exact reps_w2 _ _); intro v5 w_1 hR hb hgr _; clear hgr; obtain ⟨A5, c5, e5, hc5, hC5⟩ := Kd.R_reads hR; replace e5 : v5 = .slice A5 1 c5 := e5; subst e5; clear hR; have M0_1 := Aside0.mk (M0_0.out.trans (hb.mono M0_0.out.size)); have M1_1 := Aside0.mk (Below.refl w_1.heap.size w_1); have CM := Aside0.mk hC5; have LM := Aside0.mk hc5; clear hb hC5 hc5 M0_0; skip)
    | ((with_reducible refine gate_dst (N := 1) rfl ?_); refine box_event ?hgX1 (N := 1) ?hdX1 (cs := #[.string (⟨#[]⟩ : ByteArray), .int .i64 0, .int .i64 0, .int .i64 0, .slice none 0 0, .slice none 0 0]) (t := 25) ?hrX1 ?_; (case hdX1 => rfl); (case hgX1 => rfl); (case hrX1 => first | (go_simp; done) | (go_simp; rfl)); intro g_X hg_ w_2 hbx_ hb_; have L0_X := Aside0.mk (show w.heap.size ≤ g_X by have := M0_1.out.size; omega); have L1_X := Aside0.mk (show w_1.heap.size ≤ g_X by have := M1_1.out.size; omega); have M0_2 := Aside0.mk (M0_1.out.trans (hb_.mono M0_1.out.size)); have M1_2 := Aside0.mk (M1_1.out.trans (hb_.mono M1_1.out.size)); have X_2 := Aside0.mk hbx_; clear hg_ hbx_ hb_ M0_1 M1_1; have zX0 := blk_cell X_2.out 0; have yX0 := blk_frozen X_2.out 0; have zX1 := blk_cell X_2.out 1; have yX1 := blk_frozen X_2.out 1; have zX2 := blk_cell X_2.out 2; have yX2 := blk_frozen X_2.out 2; have zX3 := blk_cell X_2.out 3; have yX3 := blk_frozen X_2.out 3; have zX4 := blk_cell X_2.out 4; have yX4 := blk_frozen X_2.out 4; have zX5 := blk_cell X_2.out 5; have yX5 := blk_frozen X_2.out 5; skip)
    | ((with_reducible refine gate_dst (N := 9) rfl ?_); clear tok1; clear zX0 yX0 zX1 yX1 zX2 yX2 zX3 yX3 zX4 yX4 zX5 yX5; obtain ⟨w_3, e_3, Be_, Oe_⟩ := sets6 X_2.out (.string (⟨#[98, 49]⟩ : ByteArray)) (.int .i64 1) (.int .i64 3) (.int .i64 1) (.slice none 0 0) (.slice A5 1 c5); rw [e_3]; clear e_3; have M0_3 := Aside0.mk (Oe_.below M0_2.out L0_X.out); have M1_3 := Aside0.mk (Oe_.below M1_2.out L1_X.out); have X_3 := Aside0.mk Be_; clear Be_ Oe_ M0_2 M1_2 X_2; have zX0 := blk_cell X_3.out 0; have yX0 := blk_frozen X_3.out 0; have zX1 := blk_cell X_3.out 1; have yX1 := blk_frozen X_3.out 1; have zX2 := blk_cell X_3.out 2; have yX2 := blk_frozen X_3.out 2; have zX3 := blk_cell X_3.out 3; have yX3 := blk_frozen X_3.out 3; have zX4 := blk_cell X_3.out 4; have yX4 := blk_frozen X_3.out 4; have zX5 := blk_cell X_3.out 5; have yX5 := blk_frozen X_3.out 5; skip)
    | ((with_reducible refine gate_dst (N := 9) rfl ?_); refine Kd.R_lit k37 (w0 := w_3) (w_3).heap.size 37 ?hg9 (N := 9) ?hd9 (xs := [⟨1, 1⟩]) (inner := [.int .i64 1, .int .i64 1]) (ok := fun _ => True) (okp := fun _ => True) ?hr9 ?hp9 (fun _ h => h) trivial (Below.refl _ _) (Nat.le_refl _) (by decide) ?_; (case hg9 => rfl); (case hd9 => rfl); (case hr9 => first | (go_simp; done) | (go_simp; rfl)); (case hp9 => exact reps_s1 _ _); intro v9 w_4 hR hb hgr _; clear hgr; obtain ⟨A9, c9, e9, hc9, hC9⟩ := Kd.R_reads hR; replace e9 : v9 = .slice A9 1 c9 := e9; subst e9; clear hR; have M0_4 := Aside0.mk (M0_3.out.trans (hb.mono M0_3.out.size)); have M1_4 := Aside0.mk (M1_3.out.trans (hb.mono M1_3.out.size)); have X_4 := Aside0.mk (blk_below X_3.out hb); have M4_4 := Aside0.mk (Below.refl w_4.heap.size w_4); have CS := Aside0.mk hC9; have LS := Aside0.mk hc9; clear hb hC9 hc9 M0_3 M1_3 X_3 zX0 yX0 zX1 yX1 zX2 yX2 zX3 yX3 zX4 yX4 zX5 yX5; have zX0 := blk_cell X_4.out 0; have zX1 := blk_cell X_4.out 1; have zX2 := blk_cell X_4.out 2; have zX3 := blk_cell X_4.out 3; have zX4 := blk_cell X_4.out 4; have zX5 := blk_cell X_4.out 5; skip)
    | (go_at_call 15; refine (HS.out A5 c5 A9 c9 w_4 M0_4.out (Kd.C_below CM.out M1_4.out) LM.out (Kd.C_below CS.out M4_4.out) LS.out).mono ?_; rintro e_ w_5 ⟨ad1, ad2, c2, rfl, hv0, hl0, hl1, hV, hb⟩; have M0_5 := Aside0.mk (M0_4.out.trans (hb.mono M0_4.out.size)); have M1_5 := Aside0.mk (M1_4.out.trans (hb.mono M1_4.out.size)); have M4_5 := Aside0.mk (M4_4.out.trans (hb.mono M4_4.out.size)); have X_5 := Aside0.mk (blk_below X_4.out hb); have M5_5 := Aside0.mk (Below.refl w_5.heap.size w_5); have CV := Aside0.mk hV; clear hb hV M0_4 M1_4 M4_4 X_4 zX0 zX1 zX2 zX3 zX4 zX5; have zX0 := blk_cell X_5.out 0; have zX1 := blk_cell X_5.out 1; have zX2 := blk_cell X_5.out 2; have zX3 := blk_cell X_5.out 3; have zX4 := blk_cell X_5.out 4; have zX5 := blk_cell X_5.out 5; skip)
    | (go_at_call 17; refine (HN.out A5 c5 w_5 (Kd.C_below CM.out M1_5.out) LM.out).mono ?_; rintro e_ w_6 ⟨AN, cN, rfl, hcN, hN, hb⟩; have M0_6 := Aside0.mk (M0_5.out.trans (hb.mono M0_5.out.size)); have M1_6 := Aside0.mk (M1_5.out.trans (hb.mono M1_5.out.size)); have M4_6 := Aside0.mk (M4_5.out.trans (hb.mono M4_5.out.size)); have M5_6 := Aside0.mk (M5_5.out.trans (hb.mono M5_5.out.size)); have X_6 := Aside0.mk (blk_below X_5.out hb); clear hb M0_5 M1_5 M4_5 M5_5 X_5 zX0 zX1 zX2 zX3 zX4 zX5; have zX0 := blk_cell X_6.out 0; have zX1 := blk_cell X_6.out 1; have zX2 := blk_cell X_6.out 2; have zX3 := blk_cell X_6.out 3; have zX4 := blk_cell X_6.out 4; have zX5 := blk_cell X_6.out 5; skip)
    | (go_at_call 20; refine (HP.out (some ad1) 1 w_6 (Kd.C_below CV.out M5_6.out)).mono ?_; rintro e_ w_7 ⟨rfl, hb⟩; have M0_7 := Aside0.mk (M0_6.out.trans (hb.mono M0_6.out.size)); have M1_7 := Aside0.mk (M1_6.out.trans (hb.mono M1_6.out.size)); have M4_7 := Aside0.mk (M4_6.out.trans (hb.mono M4_6.out.size)); have M5_7 := Aside0.mk (M5_6.out.trans (hb.mono M5_6.out.size)); have X_7 := Aside0.mk (blk_below X_6.out hb); clear hb M0_6 M1_6 M4_6 M5_6 X_6 zX0 zX1 zX2 zX3 zX4 zX5; have zX0 := blk_cell X_7.out 0; have zX1 := blk_cell X_7.out 1; have zX2 := blk_cell X_7.out 2; have zX3 := blk_cell X_7.out 3; have zX4 := blk_cell X_7.out 4; have zX5 := blk_cell X_7.out 5; skip))
  go_ret
  exact ⟨rfl, M0_7.out⟩
end Go.Proofs.YtplfpbfmnogckaaDoor.TdW
