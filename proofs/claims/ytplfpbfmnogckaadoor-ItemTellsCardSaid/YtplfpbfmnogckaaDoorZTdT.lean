-- Printed by prune.py: the used part of a text.
import Derived.Test.YtplfpbfmnogckaaDoorZTdS
namespace Go.Proofs.YtplfpbfmnogckaaDoor.TdT
open Go.RowKit Go.Proofs.YtplfpbfmnogckaaDoorW.PrintWords Go.Proofs.YtplfpbfmnogckaaDoorW.PrintLast Go.Proofs.YtplfpbfmnogckaaDoorW.PrintMore Go.Proofs.YtplfpbfmnogckaaDoor.TdG Go.Proofs.YtplfpbfmnogckaaDoor.TdM Go.Proofs.YtplfpbfmnogckaaDoor.TdP Go.Proofs.YtplfpbfmnogckaaDoor.TdD Go.Proofs.YtplfpbfmnogckaaDoor.ItT Go.Proofs.YtplfpbfmnogckaaDoor.ItO Go.Proofs.YtplfpbfmnogckaaDoor.TdF Go.Proofs.YtplfpbfmnogckaaDoor.TdS
set_option linter.unusedVariables false
set_option linter.unusedSimpArgs false
def t_told_Sync.T18 : Bool × List (List Nat × List Nat) := (true, [([], []), ([0], [0]), ([1], [1]), ([2], [2]), ([3, 2], [2, 3]), ([2], [2]), ([4, 5, 2], [2, 4, 5]), ([6, 2], [2, 6]), ([7, 2], [2, 7]), ([2], [2]), ([9, 2], [2, 9]), ([8, 10, 2], [2, 8, 10]), ([2, 11], [2, 11])])
def t_told_Sync.B18 : List Nat := [0, 1, 3, 7, 15, 7, 63, 127, 255, 7, 519, 2047, 4095]
theorem t_told_Sync.tab18 : rtab .any (opsOf Tryd.f15 18) = t_told_Sync.T18 := by kernel_rfl
theorem t_told_Sync.bits18 : waitsOk t_told_Sync.T18.2 t_told_Sync.B18 = true := by kernel_rfl
def t_told_Sync.T20 : Bool × List (List Nat × List Nat) := (true, [([], []), ([], []), ([1], [1]), ([], []), ([], []), ([4], [4]), ([], []), ([5, 6], [5, 6]), ([7], [7]), ([3, 8], [3, 8]), ([9], [9]), ([2, 10, 9], [2, 10]), ([11], [11]), ([0, 12, 11], [0, 12]), ([13, 13, 0, 1, 2, 3, 4, 5, 6, 7, 8, 9, 10, 11, 12, 13], [0, 13])])
def t_told_Sync.B20 : List Nat := [0, 0, 2, 0, 0, 16, 0, 112, 240, 504, 1016, 2046, 4094, 8191, 16383]
theorem t_told_Sync.tab20 : rtab .any (opsOf Tryd.f15 20) = t_told_Sync.T20 := by kernel_rfl
theorem t_told_Sync.bits20 : waitsOk t_told_Sync.T20.2 t_told_Sync.B20 = true := by kernel_rfl
set_option maxRecDepth 100000 in
set_option maxHeartbeats 8000000 in
theorem sync_true (a0 : ByteArray) (a1 a2 a3 : Int) (aA4 : Option Addr) (ac4 : Nat) (aw : List ByteArray) (aA5 : Option Addr) (ac5 : Nat) (am : List S34) (A : Option Addr) (c : Nat) (l : List S37) (w : World) (ht : Tab w) (hC4 : Kd.C Kd.string w aA4 aw.length aw) (hc4 : aw.length ≤ ac4) (hC5 : Kd.C k34 w aA5 am.length am) (hc5 : am.length ≤ ac5) (hCl : Kd.C k37 w A l.length l) (hcl : l.length ≤ c) (hM : ∀ m ∈ am, MsgOk aw m) (hn : am.length ≤ 100) (hl : l.length ≤ 10000) :
    Calls Tryd.prog 15 #[.slice A l.length c, .agg #[.string a0, .int .i64 a1, .int .i64 a2, .int .i64 a3, .slice aA4 aw.length ac4, .slice aA5 am.length ac5], .bool true] w fun e w' => ∃ A1 n1 A2 n2 c2, e = .returned (.tuple #[.slice A1 n1 n1, .slice A2 n2 c2]) ∧ n1 = (outS true am l).length ∧ Kd.C k37 w' A1 n1 (outS true am l) ∧ n2 = (linesS true aw am l).length ∧ n2 ≤ c2 ∧ Kd.C Kd.string w' A2 n2 (linesS true aw am l) ∧ Below w.heap.size w w' := by
  have hu25 := Tryd.underlying25
  have hu34 := Tryd.underlying34
  have hu37 := Tryd.underlying37
  have HFi := Aside0.mk (fun (x : Int) (W : World) (hW : Below w.heap.size w W) => find_calls a0 a1 a2 a3 (.slice aA4 aw.length ac4) aA5 ac5 am x W (Kd.C_below hC5 hW) (by omega))
  have HLi := Aside0.mk (fun (k : Int) (what : ByteArray) (W : World) (hW : Below w.heap.size w W) (h0 : -9223372036854775808 ≤ k) (h1 : k ≤ 9223372036854775807) (h2 : what.size ≤ 140737488355328) => line_calls k what W (ht.below hW) h0 h1 h2)
  have HTx := Aside0.mk (fun (m : S34) (A6 : Option Addr) (c6 : Nat) (W : World) (hW : Below w.heap.size w W) (h6 : Kd.C (Kd.int .i64) W A6 m.f5.length m.f5) (hc6 : m.f5.length ≤ c6) (hm : MsgOk aw m) => text_calls a0 a1 a2 a3 aA4 ac4 aw aA5 ac5 am m A6 c6 7 W (ht.below hW) (Kd.C_below hC4 hW) hc4 (Kd.C_below hC5 hW) hc5 h6 hc6 hm)
  have HCl := Aside0.mk (fun (W : World) (hW : Below w.heap.size w W) => api_Seen.calls A c l l W (Kd.C_below hCl hW) hcl (clone_f l (by omega)))
  have HLa := Aside0.mk (fun (W : World) (q : List S37) (A9 : Option Addr) (c9 : Nat) (h : Kd.C k37 W A9 q.length q) (hc : q.length ≤ c9) (hq : q.length ≤ 10000000) => told_last.calls A9 c9 q _ W h hc (last_f q hq))
  have HGo := Aside0.mk (fun (v : Value) (W : World) (hW : Below w.heap.size w W) (h : Kd.R k37 37 W w.heap.size (fun _ => True) v l) => gone_calls a0 a1 a2 a3 aA4 ac4 aw aA5 ac5 am v l w W hW ht hC5 (by omega) h (by omega))
  have HC5 := Aside0.mk hC5
  have HMs := Aside0.mk hM
  have HN := Aside0.mk (show am.length ≤ 100 ∧ l.length ≤ 10000 from ⟨hn, hl⟩)
  obtain ⟨V, hV⟩ : ∃ V, baseS true am l = V := ⟨_, rfl⟩
  obtain ⟨L1, hL1⟩ : ∃ L1, goneS true am l = L1 := ⟨_, rfl⟩
  have HVl : Aside0 (V.length ≤ 10000 ∧ L1.length ≤ 10000) := ⟨by rw [← hV, ← hL1]; unfold baseS goneS; rw [if_pos rfl, if_pos rfl]; exact ⟨Nat.le_trans (List.length_filter_le _ _) hl, Nat.le_trans (lineG_len _ _ _) hl⟩⟩
  have HV := Aside0.mk hV
  have HL1 := Aside0.mk hL1
  have hn9 : (am.length : Int) ≤ 100 := by omega
  clear ht hC4 hC5 hCl hc4 hc5 hcl hM hn hl hV hL1
  go_enter Tryd.func15, Tryd.ntmps15
  have M0_0 := Aside0.mk (Below.refl w.heap.size w)
  go_wp2_with ((with_reducible refine gate_dst (N := 4) rfl ?_); refine box_event ?hgX4 (N := 4) ?hdX4 (cs := #[.string a0, .int .i64 a1, .int .i64 a2, .int .i64 a3, .slice aA4 aw.length ac4, .slice aA5 am.length ac5]) (t := 25) ?hrX4 ?_; (case hdX4 => rfl); (case hgX4 => rfl); (case hrX4 => first | (go_simp; done) | (go_simp; rfl)); intro g_X hg_ w_1 hbx_ hb_; have L0_X := Aside0.mk (show w.heap.size ≤ g_X by have := M0_0.out.size; omega); have M0_1 := Aside0.mk (M0_0.out.trans (hb_.mono M0_0.out.size)); have X_1 := Aside0.mk hbx_; clear hg_ hbx_ hb_ M0_0; skip)
  have GX1 := Aside0.mk X_1.out
  have HX1 := Aside0.mk M0_1.out
  clear M0_1 X_1 L0_X
  go_wp2_with (first
    | (go_at_call 29; refine (HCl.out w_1 HX1.out).mono ?_; rintro e w2 ⟨v2, rfl, hR, hb⟩; have RV2 := Aside0.mk (Kd.R_lower hR HX1.out.size); have GX2 := Aside0.mk (blk_below GX1.out hb); have HX2 := Aside0.mk (HX1.out.trans (hb.mono HX1.out.size)); obtain ⟨A2, n2, c2, rfl⟩ := slc hR; clear hR hb GX1 HX1; have hc0 := blk_cell GX2.out 0; have hc1 := blk_cell GX2.out 1; have hc2 := blk_cell GX2.out 2; have hc3 := blk_cell GX2.out 3; have hc4 := blk_cell GX2.out 4; have hc5 := blk_cell GX2.out 5; skip)
    | (go_at_call 30; refine (HGo.out _ w2 HX2.out RV2.out).mono ?_; rintro e w3 ⟨v3, u3, rfl, hR, hU, hg, hb⟩; have GX3 := Aside0.mk (blk_grown GX2.out hg (row_ne RV2.out GX2.out (by decide))); have HX3 := Aside0.mk (below_grown2 HX2.out hg (rbase RV2.out)); have RV3 := Aside0.mk hR; have RU3 := Aside0.mk (Kd.R_lower hU HX2.out.size); obtain ⟨A3, n3, c3, rfl⟩ := slc hR; obtain ⟨A4, n4, c4, rfl⟩ := slc hU; clear hR hU hg hb GX2 HX2 RV2 hc0 hc1 hc2 hc3 hc4 hc5; skip))
  have RV : Aside0 (Kd.R k37 37 w3 w.heap.size (fun _ => True) (.slice A3 n3 c3) V) := ⟨by have h := HV.out; unfold baseS at h; rw [if_pos rfl] at h; rw [← h]; exact RV3.out⟩
  have RU : Aside0 (Kd.R Kd.string 9 w3 w.heap.size (fun _ => True) (.slice A4 n4 c4) L1) := ⟨by have h := HL1.out; unfold goneS at h; rw [if_pos rfl] at h; rw [← h]; exact RU3.out⟩
  clear RV3 RU3
  obtain ⟨hq1, hq2, hq3⟩ := Kd.R_reads' RV.out
  obtain rfl := hq1
  have HLa3 := Aside0.mk (HLa.out w3 V A3 c3 hq3 hq2 (by have := HVl.out; omega))
  clear hq2 hq3
  obtain ⟨was, hwas⟩ : ∃ was, lastU V = was := ⟨_, rfl⟩
  rw [hwas] at HLa3
  have HWas := Aside0.mk hwas
  clear hwas
  go_wp2_with (go_at_call 31; refine HLa3.out.mono ?_; rintro e w4 ⟨rfl, hd⟩; have hb := hd.below; have RV4 := Aside0.mk (Kd.R_below RV.out hb); have RU4 := Aside0.mk (Kd.R_below RU.out hb); have GX4 := Aside0.mk (blk_below GX3.out hb); have HX4 := Aside0.mk (HX3.out.trans (hb.mono HX3.out.size)); have hz5 := blk_cell GX4.out 5; clear hd hb RV RU GX3 HX3 HLa3; skip)
  go_loopw [8, 33] (fun v i wr => ∃ (k : Nat) (vv : Value), k ≤ am.length ∧ v = vv ∧ i = .int .i64 k ∧ Aside0 (Kd.R k37 37 wr w.heap.size (fun _ => True) vv (V ++ newsS was (am.take k))) ∧ Aside0 (Kd.R Kd.string 9 wr w.heap.size (fun _ => True) (.slice A4 n4 c4) L1)
    ∧ Aside0 (wr.heap[g_X]? = some (.cells #[.string a0, .int .i64 a1, .int .i64 a2, .int .i64 a3, .slice aA4 aw.length ac4, .slice aA5 am.length ac5] 25 (0, 0))) ∧ Aside0 (Below w.heap.size w wr)) (fun _ i _ => am.length - (intOf i).toNat)
  case atStart => exact ⟨0, _, Nat.zero_le _, rfl, rfl, ⟨by rw [List.take_zero]; show Kd.R _ _ _ _ _ _ (V ++ []); rw [List.append_nil]; exact RV4.out⟩, RU4, GX4, HX4⟩
  case round =>
    clear RV4 RU4 GX4 HX4 hz5
    obtain ⟨k, vv, hk, rfl, rfl, RV, RU, GX, HX⟩ := hrel
    obtain ⟨A7, n7, c7, rfl⟩ := slc RV.out
    by_cases hlt : k < am.length
    · obtain ⟨adM, A6, c6, e1, hx0, hx1, hx2, hx3, hx4, hx5, hx6, hc6, hC6⟩ := at_T34 (Kd.C_below HC5.out HX.out) (k : Int) (by omega) (by omega)
      cases e1
      rw [Int.toNat_natCast] at hx0 hx1 hx2 hx3 hx4 hx5 hx6
      rw [rdm_nat am hlt] at hx0 hx1 hx2 hx3 hx4 hx5 hx6 hc6 hC6
      have hnew := newsS_at was am k hlt
      have HLn : Aside0 ((V ++ newsS was (am.take k)).length ≤ 10100) := ⟨by have h1 := newsS_len was (am.take k); have h2 := HVl.out; rw [List.length_take] at h1; rw [List.length_append]; omega⟩
      generalize am[k] = m at *
      clear hC6 hc6
      by_cases hnw : was < m.f0
      · rw [if_pos hnw] at hnew
        have HNew := Aside0.mk hnew
        have hd : decide (was < m.f0) = true := decide_eq_true hnw
        clear hnew hnw
        go_wp2_with (first
          | ((with_reducible refine gate_dst (N := 13) rfl ?_); refine box_event ?hg13 (N := 13) ?hd13 (cs := #[.int .i64 0, .int .i64 0, .int .i64 0, .string (⟨#[]⟩ : ByteArray), .int .i64 0, .slice none 0 0, .string (⟨#[]⟩ : ByteArray)]) (t := 34) ?hr13 ?_; (case hd13 => rfl); (case hg13 => rfl); (case hr13 => first | (go_simp; done) | (go_simp; rfl)); intro gM hg_ w5 hbx hb5; have GM5 := Aside0.mk hbx; have RV5 := Aside0.mk (Kd.R_below RV.out hb5); have RU5 := Aside0.mk (Kd.R_below RU.out hb5); have GX5 := Aside0.mk (blk_below GX.out hb5); have HX5 := Aside0.mk (HX.out.trans (hb5.mono HX.out.size)); have HgM : Aside0 (w.heap.size ≤ gM) := ⟨by have := HX.out.size; omega⟩; clear hg_ hbx hb5 hx0 hx1 hx2 hx3 hx4 hx5 hx6 RV RU GX; have zz0 := blk_cell GM5.out 0; have zf0 := blk_frozen GM5.out 0; have zz1 := blk_cell GM5.out 1; have zf1 := blk_frozen GM5.out 1; have zz2 := blk_cell GM5.out 2; have zf2 := blk_frozen GM5.out 2; have zz3 := blk_cell GM5.out 3; have zf3 := blk_frozen GM5.out 3; have zz4 := blk_cell GM5.out 4; have zf4 := blk_frozen GM5.out 4; have zz5 := blk_cell GM5.out 5; have zf5 := blk_frozen GM5.out 5; have zz6 := blk_cell GM5.out 6; have zf6 := blk_frozen GM5.out 6; skip)
          | ((with_reducible refine gate_dst (N := 38) rfl ?_); clear zz0 zf0 zz1 zf1 zz2 zf2 zz3 zf3 zz4 zf4 zz5 zf5 zz6 zf6; obtain ⟨w6, e6, Be6, Oe6⟩ := sets7 GM5.out (.int .i64 m.f0) (.int .i64 m.f1) (.int .i64 m.f2) (.string m.f3) (.int .i64 m.f4) (.slice A6 m.f5.length c6) (.string m.f6); rw [e6]; clear e6; have RV6 := Aside0.mk (R_only RV5.out GM5.out (by decide) Oe6); have RU6 := Aside0.mk (R_only RU5.out GM5.out (by decide) Oe6); have GX6 := Aside0.mk ((Oe6.keep g_X (blk_ne GX5.out GM5.out (by decide))).trans GX5.out); have HX6 := Aside0.mk (Oe6.below HX5.out HgM.out); have zm0 := blk_cell Be6 0; have zm1 := blk_cell Be6 1; clear Be6 Oe6 RV5 RU5 GX5 HX5 GM5; skip)
          | ((with_reducible refine gate_builtin (b := .append) (xs := #[.tmp 41, .tmp 47]) rfl ?_); at_builtin; refine Kd.R_append k37 (w0 := w) w.heap.size rfl (.tmp 41) (.tmp 47) 35 37 (.agg #[.int .i64 0, .int .i64 0]) 16 rfl Tryd.underlying35 info37 rfl (by decide) (by omega) (.slice A7 n7 c7) (V ++ newsS was (am.take k)) (seenM m) [.int .i64 m.f0, .int .i64 m.f1] (fun _ => True) (fun _ => False) rfl rfl ?aP (fun _ hk => hk.elim) ?aF ?aO ?aB ?aS ?aL ?_; (case aP => exact k37_mkM _ _ _ (seenM m)); (case aF => exact (fun _ _ => trivial)); (case aO => exact RV6.out); (case aB => exact HX6.out); (case aS => exact HX6.out.size); (case aL => have := HLn.out; omega); intro v8 w8 ho hb8 hg hat; rw [List.append_assoc, ← HNew.out] at ho; have RV8 := Aside0.mk ho; have RU8 := Aside0.mk (Kd.R_over RU6.out RV6.out (by decide) hg); have GX8 := Aside0.mk (blk_grown GX6.out hg (row_ne RV6.out GX6.out (by decide))); have HX8 := Aside0.mk hb8; clear ho hb8 hg hat RV6 RU6 GX6 HX6; skip))
        go_roundw
        case rel => exact ⟨k + 1, _, by omega, rfl, by go_num, RV8, RU8, GX8, HX8⟩
        case measure => first | (simp [intOf]; done) | (simp [intOf]; omega)
      · rw [if_neg hnw, List.append_nil] at hnew
        have RV2 : Aside0 (Kd.R k37 37 wr w.heap.size (fun _ => True) (.slice A7 n7 c7) (V ++ newsS was (am.take (k + 1)))) := ⟨by rw [hnew]; exact RV.out⟩
        have hd : decide (was < m.f0) = false := decide_eq_false hnw
        clear hnew hnw RV
        have RV := RV2
        clear RV2
        go_wp2_with (first
          | ((with_reducible refine gate_dst (N := 13) rfl ?_); refine box_event ?hg13 (N := 13) ?hd13 (cs := #[.int .i64 0, .int .i64 0, .int .i64 0, .string (⟨#[]⟩ : ByteArray), .int .i64 0, .slice none 0 0, .string (⟨#[]⟩ : ByteArray)]) (t := 34) ?hr13 ?_; (case hd13 => rfl); (case hg13 => rfl); (case hr13 => first | (go_simp; done) | (go_simp; rfl)); intro gM hg_ w5 hbx hb5; have GM5 := Aside0.mk hbx; have RV5 := Aside0.mk (Kd.R_below RV.out hb5); have RU5 := Aside0.mk (Kd.R_below RU.out hb5); have GX5 := Aside0.mk (blk_below GX.out hb5); have HX5 := Aside0.mk (HX.out.trans (hb5.mono HX.out.size)); have HgM : Aside0 (w.heap.size ≤ gM) := ⟨by have := HX.out.size; omega⟩; clear hg_ hbx hb5 hx0 hx1 hx2 hx3 hx4 hx5 hx6 RV RU GX; have zz0 := blk_cell GM5.out 0; have zf0 := blk_frozen GM5.out 0; have zz1 := blk_cell GM5.out 1; have zf1 := blk_frozen GM5.out 1; have zz2 := blk_cell GM5.out 2; have zf2 := blk_frozen GM5.out 2; have zz3 := blk_cell GM5.out 3; have zf3 := blk_frozen GM5.out 3; have zz4 := blk_cell GM5.out 4; have zf4 := blk_frozen GM5.out 4; have zz5 := blk_cell GM5.out 5; have zf5 := blk_frozen GM5.out 5; have zz6 := blk_cell GM5.out 6; have zf6 := blk_frozen GM5.out 6; skip)
          | ((with_reducible refine gate_dst (N := 38) rfl ?_); clear zz0 zf0 zz1 zf1 zz2 zf2 zz3 zf3 zz4 zf4 zz5 zf5 zz6 zf6; obtain ⟨w6, e6, Be6, Oe6⟩ := sets7 GM5.out (.int .i64 m.f0) (.int .i64 m.f1) (.int .i64 m.f2) (.string m.f3) (.int .i64 m.f4) (.slice A6 m.f5.length c6) (.string m.f6); rw [e6]; clear e6; have RV6 := Aside0.mk (R_only RV5.out GM5.out (by decide) Oe6); have RU6 := Aside0.mk (R_only RU5.out GM5.out (by decide) Oe6); have GX6 := Aside0.mk ((Oe6.keep g_X (blk_ne GX5.out GM5.out (by decide))).trans GX5.out); have HX6 := Aside0.mk (Oe6.below HX5.out HgM.out); have zm0 := blk_cell Be6 0; have zm1 := blk_cell Be6 1; clear Be6 Oe6 RV5 RU5 GX5 HX5 GM5; skip))
        go_roundw
        case rel => exact ⟨k + 1, _, by omega, rfl, by go_num, RV6, RU6, GX6, HX6⟩
        case measure => first | (simp [intOf]; done) | (simp [intOf]; omega)
    · obtain rfl : k = am.length := by omega
      clear hlt hk
      rw [List.take_length] at RV
      obtain ⟨O, hO⟩ : ∃ O, V ++ newsS was am = O := ⟨_, rfl⟩
      rw [hO] at RV
      have hOl : O.length = V.length + (newsS was am).length := by rw [← hO, List.length_append]
      have HFull : Aside0 (fullS true am l = O) := ⟨by unfold fullS; rw [HV.out, HWas.out]; exact hO⟩
      have HOl : Aside0 (O.length ≤ 10100) := ⟨by have h1 := newsS_len was am; have h2 := HVl.out; have h3 := HN.out; omega⟩
      obtain ⟨hq1, hq2, hq3⟩ := Kd.R_reads' RV.out
      obtain rfl := hq1
      clear hq2 hq3
      obtain ⟨L2, hL2⟩ : ∃ L2, L1 ++ existS true am l = L2 := ⟨_, rfl⟩
      have HL2 := Aside0.mk hL2
      have hO9 : (O.length : Int) ≤ 10100 := by have := HOl.out; omega
      have HL2l : Aside0 (L2.length ≤ 10001) := ⟨by have h2 := HVl.out; rw [← hL2, List.length_append]; have : (existS true am l).length ≤ 1 := (by unfold existS; split <;> simp); omega⟩
      unfold existS at hL2
      rw [HV.out, HWas.out, HFull.out] at hL2
      by_cases hnew : newsS was am = []
      · rw [if_pos hnew, List.append_nil] at hL2
        rw [hL2] at RU
        have hd : decide (V.length < O.length) = false := by rw [hOl, hnew]; simp
        clear hnew hOl hO hL2
        go_wp2_with fail
        go_loopw [9, 62] (fun u i wr => ∃ (k : Nat) (uu : Value), k ≤ O.length ∧ u = uu ∧ i = .int .i64 k ∧ Aside0 (Kd.R k37 37 wr w.heap.size (fun _ => True) (.slice A7 O.length c7) (mixS am O k)) ∧ Aside0 (Kd.R Kd.string 9 wr w.heap.size (fun _ => True) uu (L2 ++ fetchL aw am O k))
          ∧ Aside0 (wr.heap[g_X]? = some (.cells #[.string a0, .int .i64 a1, .int .i64 a2, .int .i64 a3, .slice aA4 aw.length ac4, .slice aA5 am.length ac5] 25 (0, 0))) ∧ Aside0 (Below w.heap.size w wr)) (fun _ i _ => O.length - (intOf i).toNat)
        case atStart => exact ⟨0, _, Nat.zero_le _, rfl, rfl, ⟨by rw [mixS_zero]; exact RV.out⟩, ⟨by show Kd.R _ _ _ _ _ _ (L2 ++ []); rw [List.append_nil]; exact RU.out⟩, GX, HX⟩
        case round =>
          clear RV RU GX HX hd
          obtain ⟨k, uu, hk, rfl, rfl, RV, RU, GX, HX⟩ := hrel
          obtain ⟨A9, n9, c9, rfl⟩ := slc RU.out
          by_cases hlt : k < O.length
          ·
            rcases row_form RV.out with ⟨_, hz, _⟩ | ⟨g8, rfl⟩
            · omega
            have hxr := mixS_at am O k hlt
            obtain ⟨hq1, hq2, hq3⟩ := Kd.R_reads' RV.out
            obtain ⟨ad, e1, hx0, hx1⟩ := at_T37 hq3 (k : Int) (by omega) (by rw [mixS_len]; omega)
            cases e1
            rw [Int.toNat_natCast, hxr] at hx0 hx1
            rw [add_plain] at hx0 hx1
            have hk8 : (k : Int) < (O.length : Int) := by omega
            have hset := mixS_set am O k hlt
            have hsame := mixS_same am O k hlt
            have hfet := fetch_at aw am O k hlt
            have HFl := Aside0.mk (fetchL_len aw am O k)
            have hup : updS am O[k] = if 0 ≤ findP O[k].f0 0 am then ⟨O[k].f0, (rd_T34 am (findP O[k].f0 0 am)).f1⟩ else O[k] := rfl
            have hch : chgB am O[k] = (decide (0 ≤ findP O[k].f0 0 am) && !((rd_T34 am (findP O[k].f0 0 am)).f1 == O[k].f1)) := rfl
            have hfb : fetchB aw am k O[k] = lineB ((k : Int) + 1) (FETCH ++ ofP 7 (textF aw (rd_T34 am (findP O[k].f0 0 am)))) := rfl
            have hrng := findP_rng O[k].f0 am 0
            have HF2 := Aside0.mk (HFi.out O[k].f0)
            have HXk := Aside0.mk hxr
            clear hxr hq1 hq2 hq3
            generalize O[k] = x at *
            generalize findP x.f0 0 am = at_ at *
            clear hlt
            have HSet := Aside0.mk hset
            have HSame := Aside0.mk hsame
            have HFet := Aside0.mk hfet
            have HUp := Aside0.mk hup
            have HCh := Aside0.mk hch
            have HFb := Aside0.mk hfb
            have HRng := Aside0.mk hrng
            clear hset hsame hfet hup hch hfb hrng
            go_upto_region 18 with (first
              | ((with_reducible refine gate_dst (N := 15) rfl ?_); refine box_event ?hg15 (N := 15) ?hd15 (cs := #[.int .i64 0, .int .i64 0]) (t := 37) ?hr15 ?_; (case hd15 => rfl); (case hg15 => rfl); (case hr15 => first | (go_simp; done) | (go_simp; rfl)); intro gY hg_ w5 hbx hb5; have GY5 := Aside0.mk hbx; have RV5 := Aside0.mk (Kd.R_below RV.out hb5); have RU5 := Aside0.mk (Kd.R_below RU.out hb5); have GX5 := Aside0.mk (blk_below GX.out hb5); have HX5 := Aside0.mk (HX.out.trans (hb5.mono HX.out.size)); have HgY : Aside0 (w.heap.size ≤ gY) := ⟨by have := HX.out.size; omega⟩; have HNe : Aside0 (g8 ≠ gY) := ⟨by have h1 := World.block_lt_of_cell? _ _ hx0; have h2 : (⟨g8, k * 2, none⟩ : Addr).block = g8 := rfl; omega⟩; clear hg_ hbx hb5 hx0 hx1 RV RU GX HX; have zz0 := blk_cell GY5.out 0; have zz1 := blk_cell GY5.out 1; have zf0 := blk_frozen GY5.out 0; have zf1 := blk_frozen GY5.out 1; skip)
              | ((with_reducible refine gate_dst (N := 67) rfl ?_); clear zz0 zz1 zf0 zf1; obtain ⟨w6, e6, Be6, Oe6⟩ := sets2 (cs' := #[.int .i64 x.f0, .int .i64 x.f1]) GY5.out 0 1 (.int .i64 x.f0) (.int .i64 x.f1) rfl; rw [e6]; clear e6; have RV6 : Aside0 (Kd.R k37 37 w6 w.heap.size (fun _ => True) (.slice (some ⟨g8, 0, none⟩) O.length c7) (mixS am O k)) := ⟨Kd.R_mono (Kd.R_step (Kd.R_tight rfl RV5.out) (fun q hq _ => Oe6.keep q (by intro e9; apply HNe.out; rw [e9] at hq; injection hq with hq; exact hq.symm))) (fun _ _ => trivial)⟩; have RU6 := Aside0.mk (R_only RU5.out GY5.out (by decide) Oe6); have GX6 := Aside0.mk ((Oe6.keep g_X (blk_ne GX5.out GY5.out (by decide))).trans GX5.out); have HX6 := Aside0.mk (Oe6.below HX5.out HgY.out); have GY6 := Aside0.mk Be6; clear Be6 Oe6 RV5 RU5 GX5 HX5 GY5; have hc0 := blk_cell GX6.out 0; have hc1 := blk_cell GX6.out 1; have hc2 := blk_cell GX6.out 2; have hc3 := blk_cell GX6.out 3; have hc4 := blk_cell GX6.out 4; have hc5 := blk_cell GX6.out 5; have yc0 := blk_cell GY6.out 0; skip)
              | (go_at_call 33; refine (HF2.out w6 HX6.out).mono ?_; rintro e w7 ⟨rfl, hb7⟩; have RV7 := Aside0.mk (Kd.R_below RV6.out hb7); have RU7 := Aside0.mk (Kd.R_below RU6.out hb7); have GX7 := Aside0.mk (blk_below GX6.out hb7); have GY7 := Aside0.mk (blk_below GY6.out hb7); have HX7 := Aside0.mk (HX6.out.trans (hb7.mono HX6.out.size)); clear hb7 RV6 RU6 GX6 GY6 HX6 hc0 hc1 hc2 hc3 hc4 hc5 yc0; skip))
            have HA := Aside0.mk (Below.refl w7.heap.size w7)
            have GX := GX7
            have GY := GY7
            clear GX7 GY7
            rcases HRng.out with hat | ⟨ha0, ha1⟩
            · subst hat
              have hup := HUp.out
              rw [if_neg (by decide)] at hup
              have hch := HCh.out
              rw [show decide ((0 : Int) ≤ -1) = false from rfl, Bool.false_and] at hch
              have hfe := HFet.out
              rw [hch, if_neg (by decide), List.append_nil] at hfe
              have hsm := HSame.out hup
              clear HUp HCh HFet HSame HSet HFb HRng hup hch
              have HFe := Aside0.mk hfe
              have HSm := Aside0.mk hsm
              clear hfe hsm
              refine start_ (n := 13) (S := fun w' => True) (ds := []) #[false, false, false, false, false, false, false, false, false, false, false, false, false] (by kernel_rfl) rfl rfl trivial (fun hHeld => ?_)
              refine with_tabW t_told_Sync.tab18 t_told_Sync.bits18 (fun HT_ HW_ => ?_)
              have hd_ := (below_drew1 (Below.refl w7.heap.size w7))
              have n_HA := Aside0.mk (HA.out.drew)
              have n_GX := Aside0.mk ((show w7.drew.heap[g_X]? = _ from GX.out))
              have n_GY := Aside0.mk ((show w7.drew.heap[gY]? = _ from GY.out))
              clear HA
              have HA := n_HA
              clear n_HA
              clear GX
              have GX := n_GX
              clear n_GX
              clear GY
              have GY := n_GY
              clear n_GY
              generalize w7.drew = w_d at *
              clear hd_
              refine inv_at [0, 1, 2, 3, 4, 5, 6, 7, 8, 9, 10, 11, 12] (fun a0_ b a w' => a = putSel a0_ b [(0, 71, .int .i64 (-1)), (1, 72, .bool true), (2, 73, .bool true), (3, 74, undef), (4, 75, undef), (5, 76, undef), (6, 77, undef), (7, 78, undef), (8, 79, undef), (9, 80, undef), (10, 81, undef), (11, 82, undef), (12, 83, .bool true)] ∧ (Below w7.heap.size w7 w') ∧ (w'.heap[g_X]? = some (.cells #[.string a0, .int .i64 a1, .int .i64 a2, .int .i64 a3, .slice aA4 aw.length ac4, .slice aA5 am.length ac5] 25 (0, 0))) ∧ (w'.heap[gY]? = some (.cells #[.int .i64 x.f0, .int .i64 x.f1] 37 (0, 0)))) HT_.out HW_.out (by kernel_rfl) (by kernel_rfl) ?_ ?_ ?_
              · exact ⟨by simp only [putSel, Bool.false_eq_true, if_false], HA.out, GX.out, GY.out⟩
              · skip
                clear GX GY HA
                refine steps_cons ?_ ?_
                · rintro b a w' ⟨ha, Q_HA, Q_GX, Q_GY⟩ hb_ hon hoff
                  refine ⟨_, rfl, fun K hK => ?_⟩
                  have e16 : a.tmps[16]? = some (.int .i64 (-1)) := by rw [ha]; exact (putSel_off rfl).trans rfl
                  replace ha := Aside0.mk ha
                  refine value_ (w1 := w') (v := .int .i64 (-1)) (by rfl) rfl ?_ ?_
                  · go_simp
                    (try simp only [i64_w])
                    try first | rfl | assumption
                  refine hK.out _ _ ⟨(by rw [ha.out]; exact putSel_upk 0 hb_ rfl rfl rfl), Q_HA, Q_GX, Q_GY⟩
                refine steps_cons ?_ ?_
                · rintro b a w' ⟨ha, Q_HA, Q_GX, Q_GY⟩ hb_ hon hoff
                  refine ⟨_, rfl, fun K hK => ?_⟩
                  have e71 : a.tmps[71]? = some (.int .i64 (-1)) := by rw [ha]; exact putSel_on (e := (0, 71, .int .i64 (-1))) 0 rfl rfl (hon 0 (by kernel_rfl)) rfl
                  replace ha := Aside0.mk ha
                  refine value_ (w1 := w') (v := .bool true) (by rfl) rfl ?_ ?_
                  · go_simp
                    try first | rfl | assumption
                  refine hK.out _ _ ⟨(by rw [ha.out]; exact putSel_upk 1 hb_ rfl rfl rfl), Q_HA, Q_GX, Q_GY⟩
                refine steps_cons ?_ ?_
                · rintro b a w' ⟨ha, Q_HA, Q_GX, Q_GY⟩ hb_ hon hoff
                  refine ⟨_, rfl, fun K hK => ?_⟩
                  have e72 : a.tmps[72]? = some (.bool true) := by rw [ha]; exact putSel_on (e := (1, 72, .bool true)) 1 rfl rfl (hon 1 (by kernel_rfl)) rfl
                  replace ha := Aside0.mk ha
                  refine value_ (w1 := w') (v := .bool true) (by rfl) rfl ?_ ?_
                  · go_simp
                    try first | rfl | assumption
                  refine hK.out _ _ ⟨(by rw [ha.out]; exact putSel_upk 2 hb_ rfl rfl rfl), Q_HA, Q_GX, Q_GY⟩
                refine steps_cons ?_ ?_
                · rintro b a w' ⟨ha, Q_HA, Q_GX, Q_GY⟩ hb_ hon hoff
                  refine ⟨_, rfl, fun K hK => ?_⟩
                  have e73 : a.tmps[73]? = some (.bool true) := by rw [ha]; exact putSel_on (e := (2, 73, .bool true)) 2 rfl rfl (hon 2 (by kernel_rfl)) rfl
                  replace ha := Aside0.mk ha
                  refine off_ (wanted_off rfl rfl rfl (e73.trans (by first | rfl | (simp [*]; done)))) ?_
                  refine hK.out _ _ ⟨(by rw [ha.out]; exact putSel_upk 3 hb_ rfl rfl rfl), Q_HA, Q_GX, Q_GY⟩
                refine steps_cons ?_ ?_
                · rintro b a w' ⟨ha, Q_HA, Q_GX, Q_GY⟩ hb_ hon hoff
                  refine ⟨_, rfl, fun K hK => ?_⟩
                  have e73 : a.tmps[73]? = some (.bool true) := by rw [ha]; exact putSel_on (e := (2, 73, .bool true)) 2 rfl rfl (hon 2 (by kernel_rfl)) rfl
                  replace ha := Aside0.mk ha
                  refine off_ (wanted_off rfl rfl rfl (e73.trans (by first | rfl | (simp [*]; done)))) ?_
                  refine hK.out _ _ ⟨(by rw [ha.out]; exact putSel_upk 4 hb_ rfl rfl rfl), Q_HA, Q_GX, Q_GY⟩
                refine steps_cons ?_ ?_
                · rintro b a w' ⟨ha, Q_HA, Q_GX, Q_GY⟩ hb_ hon hoff
                  refine ⟨_, rfl, fun K hK => ?_⟩
                  have e73 : a.tmps[73]? = some (.bool true) := by rw [ha]; exact putSel_on (e := (2, 73, .bool true)) 2 rfl rfl (hon 2 (by kernel_rfl)) rfl
                  replace ha := Aside0.mk ha
                  refine off_ (wanted_off rfl rfl rfl (e73.trans (by first | rfl | (simp [*]; done)))) ?_
                  refine hK.out _ _ ⟨(by rw [ha.out]; exact putSel_upk 5 hb_ rfl rfl rfl), Q_HA, Q_GX, Q_GY⟩
                refine steps_cons ?_ ?_
                · rintro b a w' ⟨ha, Q_HA, Q_GX, Q_GY⟩ hb_ hon hoff
                  refine ⟨_, rfl, fun K hK => ?_⟩
                  have e73 : a.tmps[73]? = some (.bool true) := by rw [ha]; exact putSel_on (e := (2, 73, .bool true)) 2 rfl rfl (hon 2 (by kernel_rfl)) rfl
                  replace ha := Aside0.mk ha
                  refine off_ (wanted_off rfl rfl rfl (e73.trans (by first | rfl | (simp [*]; done)))) ?_
                  refine hK.out _ _ ⟨(by rw [ha.out]; exact putSel_upk 6 hb_ rfl rfl rfl), Q_HA, Q_GX, Q_GY⟩
                refine steps_cons ?_ ?_
                · rintro b a w' ⟨ha, Q_HA, Q_GX, Q_GY⟩ hb_ hon hoff
                  refine ⟨_, rfl, fun K hK => ?_⟩
                  have e73 : a.tmps[73]? = some (.bool true) := by rw [ha]; exact putSel_on (e := (2, 73, .bool true)) 2 rfl rfl (hon 2 (by kernel_rfl)) rfl
                  replace ha := Aside0.mk ha
                  refine off_ (wanted_off rfl rfl rfl (e73.trans (by first | rfl | (simp [*]; done)))) ?_
                  refine hK.out _ _ ⟨(by rw [ha.out]; exact putSel_upk 7 hb_ rfl rfl rfl), Q_HA, Q_GX, Q_GY⟩
                refine steps_cons ?_ ?_
                · rintro b a w' ⟨ha, Q_HA, Q_GX, Q_GY⟩ hb_ hon hoff
                  refine ⟨_, rfl, fun K hK => ?_⟩
                  have e73 : a.tmps[73]? = some (.bool true) := by rw [ha]; exact putSel_on (e := (2, 73, .bool true)) 2 rfl rfl (hon 2 (by kernel_rfl)) rfl
                  replace ha := Aside0.mk ha
                  refine off_ (wanted_off rfl rfl rfl (e73.trans (by first | rfl | (simp [*]; done)))) ?_
                  refine hK.out _ _ ⟨(by rw [ha.out]; exact putSel_upk 8 hb_ rfl rfl rfl), Q_HA, Q_GX, Q_GY⟩
                refine steps_cons ?_ ?_
                · rintro b a w' ⟨ha, Q_HA, Q_GX, Q_GY⟩ hb_ hon hoff
                  refine ⟨_, rfl, fun K hK => ?_⟩
                  have e73 : a.tmps[73]? = some (.bool true) := by rw [ha]; exact putSel_on (e := (2, 73, .bool true)) 2 rfl rfl (hon 2 (by kernel_rfl)) rfl
                  replace ha := Aside0.mk ha
                  refine off_ (wanted_off rfl rfl rfl (e73.trans (by first | rfl | (simp [*]; done)))) ?_
                  refine hK.out _ _ ⟨(by rw [ha.out]; exact putSel_upk 9 hb_ rfl rfl rfl), Q_HA, Q_GX, Q_GY⟩
                refine steps_cons ?_ ?_
                · rintro b a w' ⟨ha, Q_HA, Q_GX, Q_GY⟩ hb_ hon hoff
                  refine ⟨_, rfl, fun K hK => ?_⟩
                  have e73 : a.tmps[73]? = some (.bool true) := by rw [ha]; exact putSel_on (e := (2, 73, .bool true)) 2 rfl rfl (hon 2 (by kernel_rfl)) rfl
                  replace ha := Aside0.mk ha
                  refine off_ (wanted_off rfl rfl rfl (e73.trans (by first | rfl | (simp [*]; done)))) ?_
                  refine hK.out _ _ ⟨(by rw [ha.out]; exact putSel_upk 10 hb_ rfl rfl rfl), Q_HA, Q_GX, Q_GY⟩
                refine steps_cons ?_ ?_
                · rintro b a w' ⟨ha, Q_HA, Q_GX, Q_GY⟩ hb_ hon hoff
                  refine ⟨_, rfl, fun K hK => ?_⟩
                  have e73 : a.tmps[73]? = some (.bool true) := by rw [ha]; exact putSel_on (e := (2, 73, .bool true)) 2 rfl rfl (hon 2 (by kernel_rfl)) rfl
                  replace ha := Aside0.mk ha
                  refine off_ (wanted_off rfl rfl rfl (e73.trans (by first | rfl | (simp [*]; done)))) ?_
                  refine hK.out _ _ ⟨(by rw [ha.out]; exact putSel_upk 11 hb_ rfl rfl rfl), Q_HA, Q_GX, Q_GY⟩
                refine steps_cons ?_ ?_
                · rintro b a w' ⟨ha, Q_HA, Q_GX, Q_GY⟩ hb_ hon hoff
                  refine ⟨_, rfl, fun K hK => ?_⟩
                  have e73 : a.tmps[73]? = some (.bool true) := by rw [ha]; exact putSel_on (e := (2, 73, .bool true)) 2 rfl rfl (hon 2 (by kernel_rfl)) rfl
                  have e82 : a.tmps[82]? = some (undef) := by rw [ha]; exact putSel_on (e := (11, 82, undef)) 11 rfl rfl (hon 11 (by kernel_rfl)) rfl
                  replace ha := Aside0.mk ha
                  refine value_ (w1 := w') (v := .bool true) (by rfl) rfl ?_ ?_
                  · go_simp
                    try first | rfl | assumption
                  refine hK.out _ _ ⟨(by rw [ha.out]; exact putSel_upk 12 hb_ rfl rfl rfl), Q_HA, Q_GX, Q_GY⟩
                exact steps_nil
              rintro b a wy hall ⟨ha, Q_HA, Q_GX, Q_GY⟩
              clear GX GY HA
              have hb0_ := hall 0 (by kernel_rfl)
              have hb1_ := hall 1 (by kernel_rfl)
              have hb2_ := hall 2 (by kernel_rfl)
              have hb3_ := hall 3 (by kernel_rfl)
              have hb4_ := hall 4 (by kernel_rfl)
              have hb5_ := hall 5 (by kernel_rfl)
              have hb6_ := hall 6 (by kernel_rfl)
              have hb7_ := hall 7 (by kernel_rfl)
              have hb8_ := hall 8 (by kernel_rfl)
              have hb9_ := hall 9 (by kernel_rfl)
              have hb10_ := hall 10 (by kernel_rfl)
              have hb11_ := hall 11 (by kernel_rfl)
              have hb12_ := hall 12 (by kernel_rfl)
              subst ha
              simp only [putSel, hb0_, hb1_, hb2_, hb3_, hb4_, hb5_, hb6_, hb7_, hb8_, hb9_, hb10_, hb11_, hb12_, if_true, Act.put, List.setIfInBounds_toArray, List.set_cons_zero, List.set_cons_succ]
              have HA := Aside0.mk Q_HA
              clear Q_HA
              have GX := Aside0.mk Q_GX
              clear Q_GX
              have GY := Aside0.mk Q_GY
              clear Q_GY
              clear hall hb0_ hb1_ hb2_ hb3_ hb4_ hb5_ hb6_ hb7_ hb8_ hb9_ hb10_ hb11_ hb12_
              have RV8 : Aside0 (Kd.R k37 37 wy w.heap.size (fun _ => True) (.slice (some ⟨g8, 0, none⟩) O.length c7) (mixS am O (k + 1))) := ⟨by rw [← HSm.out]; exact Kd.R_below RV7.out HA.out⟩
              have RU8 : Aside0 (Kd.R Kd.string 9 wy w.heap.size (fun _ => True) (.slice A9 n9 c9) (L2 ++ fetchL aw am O (k + 1))) := ⟨by rw [HFe.out]; exact Kd.R_below RU7.out HA.out⟩
              have HX8 := Aside0.mk (HX7.out.trans (HA.out.mono HX7.out.size))
              clear RV7 RU7 HX7 HSm HFe
              go_wp2_with fail
              go_roundw
              case rel => exact ⟨k + 1, _, by omega, rfl, by go_num, RV8, RU8, GX, HX8⟩
              case measure => first | (simp [intOf]; done) | (simp [intOf]; omega)
            · obtain ⟨j, rfl⟩ := Int.eq_ofNat_of_zero_le (by omega : 0 ≤ at_)
              have hjl : j < am.length := by omega
              have hj8 : (j : Int) < (am.length : Int) := by omega
              obtain ⟨adM, A6, c6, e1, hm0, hm1, hm2, hm3, hm4, hm5, hm6, hc6, hC6⟩ := at_T34 HC5.out (j : Int) (by omega) (by omega)
              cases e1
              rw [Int.toNat_natCast] at hm0 hm1 hm2 hm3 hm4 hm5 hm6
              have hmok := HMs.out _ (List.getElem_mem hjl)
              rw [← rdm_nat am hjl] at hmok
              have HUp2 := Aside0.mk (HUp.out.trans (if_pos (by omega)))
              have HCh2 : Aside0 (chgB am x = !((rd_T34 am (j : Int)).f1 == x.f1)) := ⟨HCh.out.trans (by rw [decide_eq_true (by omega : (0 : Int) ≤ (j : Int)), Bool.true_and])⟩
              clear HUp HCh HRng ha0 ha1 hjl
              generalize rd_T34 am (j : Int) = m at *
              have HMc := Aside0.mk (fun W (hW : Below w.heap.size w W) => (⟨pw_cell_below hW hm0, pw_cell_below hW hm1, pw_cell_below hW hm2, pw_cell_below hW hm3, pw_cell_below hW hm4, pw_cell_below hW hm5, pw_cell_below hW hm6⟩ : _ ∧ _ ∧ _ ∧ _ ∧ _ ∧ _ ∧ _))
              have HC6 := Aside0.mk hC6
              have Hc6 := Aside0.mk hc6
              have HMk := Aside0.mk hmok
              clear hm0 hm1 hm2 hm3 hm4 hm5 hm6 hC6 hc6 hmok
              by_cases heq : m.f1 = x.f1
              · have hup := HUp2.out
                rw [heq] at hup
                have hch := HCh2.out
                rw [show (m.f1 == x.f1) = true from beq_iff_eq.2 heq] at hch
                have hfe := HFet.out
                rw [hch, if_neg (by decide), List.append_nil] at hfe
                have hsm := HSame.out hup
                have HE : Aside0 ((m.f1 == x.f1) = true) := ⟨beq_iff_eq.2 heq⟩
                clear HUp2 HCh2 HFet HSame HSet HFb hup hch heq
                have HFe := Aside0.mk hfe
                have HSm := Aside0.mk hsm
                clear hfe hsm
                refine start_ (n := 13) (S := fun w' => True) (ds := []) #[false, false, false, false, false, false, false, false, false, false, false, false, false] (by kernel_rfl) rfl rfl trivial (fun hHeld => ?_)
                refine with_tabW t_told_Sync.tab18 t_told_Sync.bits18 (fun HT_ HW_ => ?_)
                have hd_ := (below_drew1 (Below.refl w7.heap.size w7))
                have n_HA := Aside0.mk (HA.out.drew)
                have n_GX := Aside0.mk ((show w7.drew.heap[g_X]? = _ from GX.out))
                have n_GY := Aside0.mk ((show w7.drew.heap[gY]? = _ from GY.out))
                clear HA
                have HA := n_HA
                clear n_HA
                clear GX
                have GX := n_GX
                clear n_GX
                clear GY
                have GY := n_GY
                clear n_GY
                generalize w7.drew = w_d at *
                clear hd_
                refine inv_at [0, 1, 2, 3, 4, 5, 6, 7, 8, 9, 10, 11, 12] (fun a0_ b a w' => a = putSel a0_ b [(0, 71, .int .i64 (j : Int)), (1, 72, .bool false), (2, 73, .bool false), (3, 74, .pointer (some ⟨g_X, 5, none⟩)), (4, 75, .slice (some adM) am.length ac5), (5, 76, .int .i64 (j : Int)), (6, 77, .pointer (some (adM.add (j * 7)))), (7, 78, .pointer (some ⟨(adM.add (j * 7)).block, (adM.add (j * 7)).off + 1, none⟩)), (8, 79, .int .i64 m.f1), (9, 80, .pointer (some ⟨gY, 1, none⟩)), (10, 81, .int .i64 x.f1), (11, 82, .bool true), (12, 83, .bool true)] ∧ (Below w7.heap.size w7 w') ∧ (w'.heap[g_X]? = some (.cells #[.string a0, .int .i64 a1, .int .i64 a2, .int .i64 a3, .slice aA4 aw.length ac4, .slice (some adM) am.length ac5] 25 (0, 0))) ∧ (w'.heap[gY]? = some (.cells #[.int .i64 x.f0, .int .i64 x.f1] 37 (0, 0)))) HT_.out HW_.out (by kernel_rfl) (by kernel_rfl) ?_ ?_ ?_
                · exact ⟨by simp only [putSel, Bool.false_eq_true, if_false], HA.out, GX.out, GY.out⟩
                · skip
                  clear GX GY HA
                  refine steps_cons ?_ ?_
                  · rintro b a w' ⟨ha, Q_HA, Q_GX, Q_GY⟩ hb_ hon hoff
                    refine ⟨_, rfl, fun K hK => ?_⟩
                    have e16 : a.tmps[16]? = some (.int .i64 (j : Int)) := by rw [ha]; exact (putSel_off rfl).trans rfl
                    replace ha := Aside0.mk ha
                    refine value_ (w1 := w') (v := .int .i64 (j : Int)) (by rfl) rfl ?_ ?_
                    · go_simp
                      (try simp only [i64_w])
                      try first | rfl | assumption
                    refine hK.out _ _ ⟨(by rw [ha.out]; exact putSel_upk 0 hb_ rfl rfl rfl), Q_HA, Q_GX, Q_GY⟩
                  refine steps_cons ?_ ?_
                  · rintro b a w' ⟨ha, Q_HA, Q_GX, Q_GY⟩ hb_ hon hoff
                    refine ⟨_, rfl, fun K hK => ?_⟩
                    have e71 : a.tmps[71]? = some (.int .i64 (j : Int)) := by rw [ha]; exact putSel_on (e := (0, 71, .int .i64 (j : Int))) 0 rfl rfl (hon 0 (by kernel_rfl)) rfl
                    replace ha := Aside0.mk ha
                    refine value_ (w1 := w') (v := .bool false) (by rfl) rfl ?_ ?_
                    · go_simp
                      try first | rfl | assumption
                    refine hK.out _ _ ⟨(by rw [ha.out]; exact putSel_upk 1 hb_ rfl rfl rfl), Q_HA, Q_GX, Q_GY⟩
                  refine steps_cons ?_ ?_
                  · rintro b a w' ⟨ha, Q_HA, Q_GX, Q_GY⟩ hb_ hon hoff
                    refine ⟨_, rfl, fun K hK => ?_⟩
                    have e72 : a.tmps[72]? = some (.bool false) := by rw [ha]; exact putSel_on (e := (1, 72, .bool false)) 1 rfl rfl (hon 1 (by kernel_rfl)) rfl
                    replace ha := Aside0.mk ha
                    refine value_ (w1 := w') (v := .bool false) (by rfl) rfl ?_ ?_
                    · go_simp
                      try first | rfl | assumption
                    refine hK.out _ _ ⟨(by rw [ha.out]; exact putSel_upk 2 hb_ rfl rfl rfl), Q_HA, Q_GX, Q_GY⟩
                  refine steps_cons ?_ ?_
                  · rintro b a w' ⟨ha, Q_HA, Q_GX, Q_GY⟩ hb_ hon hoff
                    refine ⟨_, rfl, fun K hK => ?_⟩
                    have e4 : a.tmps[4]? = some (.pointer (some ⟨g_X, 0, none⟩)) := by rw [ha]; exact (putSel_off rfl).trans rfl
                    have e73 : a.tmps[73]? = some (.bool false) := by rw [ha]; exact putSel_on (e := (2, 73, .bool false)) 2 rfl rfl (hon 2 (by kernel_rfl)) rfl
                    replace ha := Aside0.mk ha
                    refine value_ (w1 := w') (v := .pointer (some ⟨g_X, 5, none⟩)) (wanted_on rfl rfl rfl (e73.trans (by first | rfl | (simp [*]; done)))) rfl ?_ ?_
                    · go_simp
                      try first | rfl | assumption
                    refine hK.out _ _ ⟨(by rw [ha.out]; exact putSel_upk 3 hb_ rfl rfl rfl), Q_HA, Q_GX, Q_GY⟩
                  refine steps_cons ?_ ?_
                  · rintro b a w' ⟨ha, Q_HA, Q_GX, Q_GY⟩ hb_ hon hoff
                    refine ⟨_, rfl, fun K hK => ?_⟩
                    have e74 : a.tmps[74]? = some (.pointer (some ⟨g_X, 5, none⟩)) := by rw [ha]; exact putSel_on (e := (3, 74, .pointer (some ⟨g_X, 5, none⟩))) 3 rfl rfl (hon 3 (by kernel_rfl)) rfl
                    have e73 : a.tmps[73]? = some (.bool false) := by rw [ha]; exact putSel_on (e := (2, 73, .bool false)) 2 rfl rfl (hon 2 (by kernel_rfl)) rfl
                    replace ha := Aside0.mk ha
                    have GX := Aside0.mk Q_GX
                    have hc5 := blk_cell GX.out 5
                    refine value_ (w1 := w') (v := .slice (some adM) am.length ac5) (wanted_on rfl rfl rfl (e73.trans (by first | rfl | (simp [*]; done)))) rfl ?_ ?_
                    · go_simp
                      try first | rfl | assumption
                    refine hK.out _ _ ⟨(by rw [ha.out]; exact putSel_upk 4 hb_ rfl rfl rfl), Q_HA, Q_GX, Q_GY⟩
                  refine steps_cons ?_ ?_
                  · rintro b a w' ⟨ha, Q_HA, Q_GX, Q_GY⟩ hb_ hon hoff
                    refine ⟨_, rfl, fun K hK => ?_⟩
                    have e16 : a.tmps[16]? = some (.int .i64 (j : Int)) := by rw [ha]; exact (putSel_off rfl).trans rfl
                    have e73 : a.tmps[73]? = some (.bool false) := by rw [ha]; exact putSel_on (e := (2, 73, .bool false)) 2 rfl rfl (hon 2 (by kernel_rfl)) rfl
                    replace ha := Aside0.mk ha
                    refine value_ (w1 := w') (v := .int .i64 (j : Int)) (wanted_on rfl rfl rfl (e73.trans (by first | rfl | (simp [*]; done)))) rfl ?_ ?_
                    · go_simp
                      (try simp only [i64_w])
                      try first | rfl | assumption
                    refine hK.out _ _ ⟨(by rw [ha.out]; exact putSel_upk 5 hb_ rfl rfl rfl), Q_HA, Q_GX, Q_GY⟩
                  refine steps_cons ?_ ?_
                  · rintro b a w' ⟨ha, Q_HA, Q_GX, Q_GY⟩ hb_ hon hoff
                    refine ⟨_, rfl, fun K hK => ?_⟩
                    have e75 : a.tmps[75]? = some (.slice (some adM) am.length ac5) := by rw [ha]; exact putSel_on (e := (4, 75, .slice (some adM) am.length ac5)) 4 rfl rfl (hon 4 (by kernel_rfl)) rfl
                    have e76 : a.tmps[76]? = some (.int .i64 (j : Int)) := by rw [ha]; exact putSel_on (e := (5, 76, .int .i64 (j : Int))) 5 rfl rfl (hon 5 (by kernel_rfl)) rfl
                    have e73 : a.tmps[73]? = some (.bool false) := by rw [ha]; exact putSel_on (e := (2, 73, .bool false)) 2 rfl rfl (hon 2 (by kernel_rfl)) rfl
                    replace ha := Aside0.mk ha
                    refine value_ (w1 := w') (v := .pointer (some (adM.add (j * 7)))) (wanted_on rfl rfl rfl (e73.trans (by first | rfl | (simp [*]; done)))) rfl ?_ ?_
                    · go_simp
                      try first | rfl | assumption
                    refine hK.out _ _ ⟨(by rw [ha.out]; exact putSel_upk 6 hb_ rfl rfl rfl), Q_HA, Q_GX, Q_GY⟩
                  refine steps_cons ?_ ?_
                  · rintro b a w' ⟨ha, Q_HA, Q_GX, Q_GY⟩ hb_ hon hoff
                    refine ⟨_, rfl, fun K hK => ?_⟩
                    have e77 : a.tmps[77]? = some (.pointer (some (adM.add (j * 7)))) := by rw [ha]; exact putSel_on (e := (6, 77, .pointer (some (adM.add (j * 7))))) 6 rfl rfl (hon 6 (by kernel_rfl)) rfl
                    have e73 : a.tmps[73]? = some (.bool false) := by rw [ha]; exact putSel_on (e := (2, 73, .bool false)) 2 rfl rfl (hon 2 (by kernel_rfl)) rfl
                    replace ha := Aside0.mk ha
                    refine value_ (w1 := w') (v := .pointer (some ⟨(adM.add (j * 7)).block, (adM.add (j * 7)).off + 1, none⟩)) (wanted_on rfl rfl rfl (e73.trans (by first | rfl | (simp [*]; done)))) rfl ?_ ?_
                    · go_simp
                      try first | rfl | assumption
                    refine hK.out _ _ ⟨(by rw [ha.out]; exact putSel_upk 7 hb_ rfl rfl rfl), Q_HA, Q_GX, Q_GY⟩
                  refine steps_cons ?_ ?_
                  · rintro b a w' ⟨ha, Q_HA, Q_GX, Q_GY⟩ hb_ hon hoff
                    refine ⟨_, rfl, fun K hK => ?_⟩
                    have e78 : a.tmps[78]? = some (.pointer (some ⟨(adM.add (j * 7)).block, (adM.add (j * 7)).off + 1, none⟩)) := by rw [ha]; exact putSel_on (e := (7, 78, .pointer (some ⟨(adM.add (j * 7)).block, (adM.add (j * 7)).off + 1, none⟩))) 7 rfl rfl (hon 7 (by kernel_rfl)) rfl
                    have e73 : a.tmps[73]? = some (.bool false) := by rw [ha]; exact putSel_on (e := (2, 73, .bool false)) 2 rfl rfl (hon 2 (by kernel_rfl)) rfl
                    replace ha := Aside0.mk ha
                    have HA := Aside0.mk Q_HA
                    have hc1 := (HMc.out w' (HX7.out.trans (HA.out.mono HX7.out.size))).2.1
                    refine value_ (w1 := w') (v := .int .i64 m.f1) (wanted_on rfl rfl rfl (e73.trans (by first | rfl | (simp [*]; done)))) rfl ?_ ?_
                    · go_simp
                      (try simp only [i64_w])
                      try first | rfl | assumption
                    refine hK.out _ _ ⟨(by rw [ha.out]; exact putSel_upk 8 hb_ rfl rfl rfl), Q_HA, Q_GX, Q_GY⟩
                  refine steps_cons ?_ ?_
                  · rintro b a w' ⟨ha, Q_HA, Q_GX, Q_GY⟩ hb_ hon hoff
                    refine ⟨_, rfl, fun K hK => ?_⟩
                    have e15 : a.tmps[15]? = some (.pointer (some ⟨gY, 0, none⟩)) := by rw [ha]; exact (putSel_off rfl).trans rfl
                    have e73 : a.tmps[73]? = some (.bool false) := by rw [ha]; exact putSel_on (e := (2, 73, .bool false)) 2 rfl rfl (hon 2 (by kernel_rfl)) rfl
                    replace ha := Aside0.mk ha
                    refine value_ (w1 := w') (v := .pointer (some ⟨gY, 1, none⟩)) (wanted_on rfl rfl rfl (e73.trans (by first | rfl | (simp [*]; done)))) rfl ?_ ?_
                    · go_simp
                      try first | rfl | assumption
                    refine hK.out _ _ ⟨(by rw [ha.out]; exact putSel_upk 9 hb_ rfl rfl rfl), Q_HA, Q_GX, Q_GY⟩
                  refine steps_cons ?_ ?_
                  · rintro b a w' ⟨ha, Q_HA, Q_GX, Q_GY⟩ hb_ hon hoff
                    refine ⟨_, rfl, fun K hK => ?_⟩
                    have e80 : a.tmps[80]? = some (.pointer (some ⟨gY, 1, none⟩)) := by rw [ha]; exact putSel_on (e := (9, 80, .pointer (some ⟨gY, 1, none⟩))) 9 rfl rfl (hon 9 (by kernel_rfl)) rfl
                    have e73 : a.tmps[73]? = some (.bool false) := by rw [ha]; exact putSel_on (e := (2, 73, .bool false)) 2 rfl rfl (hon 2 (by kernel_rfl)) rfl
                    replace ha := Aside0.mk ha
                    have GY := Aside0.mk Q_GY
                    have hc1 := blk_cell GY.out 1
                    refine value_ (w1 := w') (v := .int .i64 x.f1) (wanted_on rfl rfl rfl (e73.trans (by first | rfl | (simp [*]; done)))) rfl ?_ ?_
                    · go_simp
                      (try simp only [i64_w])
                      try first | rfl | assumption
                    refine hK.out _ _ ⟨(by rw [ha.out]; exact putSel_upk 10 hb_ rfl rfl rfl), Q_HA, Q_GX, Q_GY⟩
                  refine steps_cons ?_ ?_
                  · rintro b a w' ⟨ha, Q_HA, Q_GX, Q_GY⟩ hb_ hon hoff
                    refine ⟨_, rfl, fun K hK => ?_⟩
                    have e79 : a.tmps[79]? = some (.int .i64 m.f1) := by rw [ha]; exact putSel_on (e := (8, 79, .int .i64 m.f1)) 8 rfl rfl (hon 8 (by kernel_rfl)) rfl
                    have e81 : a.tmps[81]? = some (.int .i64 x.f1) := by rw [ha]; exact putSel_on (e := (10, 81, .int .i64 x.f1)) 10 rfl rfl (hon 10 (by kernel_rfl)) rfl
                    have e73 : a.tmps[73]? = some (.bool false) := by rw [ha]; exact putSel_on (e := (2, 73, .bool false)) 2 rfl rfl (hon 2 (by kernel_rfl)) rfl
                    replace ha := Aside0.mk ha
                    have he_ := HE.out
                    refine value_ (w1 := w') (v := .bool true) (wanted_on rfl rfl rfl (e73.trans (by first | rfl | (simp [*]; done)))) rfl ?_ ?_
                    · go_simp
                      try first | rfl | assumption
                    refine hK.out _ _ ⟨(by rw [ha.out]; exact putSel_upk 11 hb_ rfl rfl rfl), Q_HA, Q_GX, Q_GY⟩
                  refine steps_cons ?_ ?_
                  · rintro b a w' ⟨ha, Q_HA, Q_GX, Q_GY⟩ hb_ hon hoff
                    refine ⟨_, rfl, fun K hK => ?_⟩
                    have e73 : a.tmps[73]? = some (.bool false) := by rw [ha]; exact putSel_on (e := (2, 73, .bool false)) 2 rfl rfl (hon 2 (by kernel_rfl)) rfl
                    have e82 : a.tmps[82]? = some (.bool true) := by rw [ha]; exact putSel_on (e := (11, 82, .bool true)) 11 rfl rfl (hon 11 (by kernel_rfl)) rfl
                    replace ha := Aside0.mk ha
                    refine value_ (w1 := w') (v := .bool true) (by rfl) rfl ?_ ?_
                    · go_simp
                      try first | rfl | assumption
                    refine hK.out _ _ ⟨(by rw [ha.out]; exact putSel_upk 12 hb_ rfl rfl rfl), Q_HA, Q_GX, Q_GY⟩
                  exact steps_nil
                rintro b a wy hall ⟨ha, Q_HA, Q_GX, Q_GY⟩
                clear GX GY HA
                have hb0_ := hall 0 (by kernel_rfl)
                have hb1_ := hall 1 (by kernel_rfl)
                have hb2_ := hall 2 (by kernel_rfl)
                have hb3_ := hall 3 (by kernel_rfl)
                have hb4_ := hall 4 (by kernel_rfl)
                have hb5_ := hall 5 (by kernel_rfl)
                have hb6_ := hall 6 (by kernel_rfl)
                have hb7_ := hall 7 (by kernel_rfl)
                have hb8_ := hall 8 (by kernel_rfl)
                have hb9_ := hall 9 (by kernel_rfl)
                have hb10_ := hall 10 (by kernel_rfl)
                have hb11_ := hall 11 (by kernel_rfl)
                have hb12_ := hall 12 (by kernel_rfl)
                subst ha
                simp only [putSel, hb0_, hb1_, hb2_, hb3_, hb4_, hb5_, hb6_, hb7_, hb8_, hb9_, hb10_, hb11_, hb12_, if_true, Act.put, List.setIfInBounds_toArray, List.set_cons_zero, List.set_cons_succ]
                have HA := Aside0.mk Q_HA
                clear Q_HA
                have GX := Aside0.mk Q_GX
                clear Q_GX
                have GY := Aside0.mk Q_GY
                clear Q_GY
                clear hall hb0_ hb1_ hb2_ hb3_ hb4_ hb5_ hb6_ hb7_ hb8_ hb9_ hb10_ hb11_ hb12_
                have RV8 : Aside0 (Kd.R k37 37 wy w.heap.size (fun _ => True) (.slice (some ⟨g8, 0, none⟩) O.length c7) (mixS am O (k + 1))) := ⟨by rw [← HSm.out]; exact Kd.R_below RV7.out HA.out⟩
                have RU8 : Aside0 (Kd.R Kd.string 9 wy w.heap.size (fun _ => True) (.slice A9 n9 c9) (L2 ++ fetchL aw am O (k + 1))) := ⟨by rw [HFe.out]; exact Kd.R_below RU7.out HA.out⟩
                have HX8 := Aside0.mk (HX7.out.trans (HA.out.mono HX7.out.size))
                clear RV7 RU7 HX7 HSm HFe
                go_wp2_with fail
                go_roundw
                case rel => exact ⟨k + 1, _, by omega, rfl, by go_num, RV8, RU8, GX, HX8⟩
                case measure => first | (simp [intOf]; done) | (simp [intOf]; omega)
              · have hch := HCh2.out
                rw [show (m.f1 == x.f1) = false from beq_eq_false_iff_ne.2 heq] at hch
                have hfe := HFet.out
                rw [hch, if_pos (by decide)] at hfe
                rw [HFb.out] at hfe
                have hst := HSet.out
                rw [HUp2.out] at hst
                have HE : Aside0 ((m.f1 == x.f1) = false) := ⟨beq_eq_false_iff_ne.2 heq⟩
                clear HUp2 HCh2 HFet HSame HSet HFb hch heq
                have HFe := Aside0.mk hfe
                have HSt := Aside0.mk hst
                clear hfe hst
                refine start_ (n := 13) (S := fun w' => True) (ds := []) #[false, false, false, false, false, false, false, false, false, false, false, false, false] (by kernel_rfl) rfl rfl trivial (fun hHeld => ?_)
                refine with_tabW t_told_Sync.tab18 t_told_Sync.bits18 (fun HT_ HW_ => ?_)
                have hd_ := (below_drew1 (Below.refl w7.heap.size w7))
                have n_HA := Aside0.mk (HA.out.drew)
                have n_GX := Aside0.mk ((show w7.drew.heap[g_X]? = _ from GX.out))
                have n_GY := Aside0.mk ((show w7.drew.heap[gY]? = _ from GY.out))
                clear HA
                have HA := n_HA
                clear n_HA
                clear GX
                have GX := n_GX
                clear n_GX
                clear GY
                have GY := n_GY
                clear n_GY
                generalize w7.drew = w_d at *
                clear hd_
                refine inv_at [0, 1, 2, 3, 4, 5, 6, 7, 8, 9, 10, 11, 12] (fun a0_ b a w' => a = putSel a0_ b [(0, 71, .int .i64 (j : Int)), (1, 72, .bool false), (2, 73, .bool false), (3, 74, .pointer (some ⟨g_X, 5, none⟩)), (4, 75, .slice (some adM) am.length ac5), (5, 76, .int .i64 (j : Int)), (6, 77, .pointer (some (adM.add (j * 7)))), (7, 78, .pointer (some ⟨(adM.add (j * 7)).block, (adM.add (j * 7)).off + 1, none⟩)), (8, 79, .int .i64 m.f1), (9, 80, .pointer (some ⟨gY, 1, none⟩)), (10, 81, .int .i64 x.f1), (11, 82, .bool false), (12, 83, .bool false)] ∧ (Below w7.heap.size w7 w') ∧ (w'.heap[g_X]? = some (.cells #[.string a0, .int .i64 a1, .int .i64 a2, .int .i64 a3, .slice aA4 aw.length ac4, .slice (some adM) am.length ac5] 25 (0, 0))) ∧ (w'.heap[gY]? = some (.cells #[.int .i64 x.f0, .int .i64 x.f1] 37 (0, 0)))) HT_.out HW_.out (by kernel_rfl) (by kernel_rfl) ?_ ?_ ?_
                · exact ⟨by simp only [putSel, Bool.false_eq_true, if_false], HA.out, GX.out, GY.out⟩
                · skip
                  clear GX GY HA
                  refine steps_cons ?_ ?_
                  · rintro b a w' ⟨ha, Q_HA, Q_GX, Q_GY⟩ hb_ hon hoff
                    refine ⟨_, rfl, fun K hK => ?_⟩
                    have e16 : a.tmps[16]? = some (.int .i64 (j : Int)) := by rw [ha]; exact (putSel_off rfl).trans rfl
                    replace ha := Aside0.mk ha
                    refine value_ (w1 := w') (v := .int .i64 (j : Int)) (by rfl) rfl ?_ ?_
                    · go_simp
                      (try simp only [i64_w])
                      try first | rfl | assumption
                    refine hK.out _ _ ⟨(by rw [ha.out]; exact putSel_upk 0 hb_ rfl rfl rfl), Q_HA, Q_GX, Q_GY⟩
                  refine steps_cons ?_ ?_
                  · rintro b a w' ⟨ha, Q_HA, Q_GX, Q_GY⟩ hb_ hon hoff
                    refine ⟨_, rfl, fun K hK => ?_⟩
                    have e71 : a.tmps[71]? = some (.int .i64 (j : Int)) := by rw [ha]; exact putSel_on (e := (0, 71, .int .i64 (j : Int))) 0 rfl rfl (hon 0 (by kernel_rfl)) rfl
                    replace ha := Aside0.mk ha
                    refine value_ (w1 := w') (v := .bool false) (by rfl) rfl ?_ ?_
                    · go_simp
                      try first | rfl | assumption
                    refine hK.out _ _ ⟨(by rw [ha.out]; exact putSel_upk 1 hb_ rfl rfl rfl), Q_HA, Q_GX, Q_GY⟩
                  refine steps_cons ?_ ?_
                  · rintro b a w' ⟨ha, Q_HA, Q_GX, Q_GY⟩ hb_ hon hoff
                    refine ⟨_, rfl, fun K hK => ?_⟩
                    have e72 : a.tmps[72]? = some (.bool false) := by rw [ha]; exact putSel_on (e := (1, 72, .bool false)) 1 rfl rfl (hon 1 (by kernel_rfl)) rfl
                    replace ha := Aside0.mk ha
                    refine value_ (w1 := w') (v := .bool false) (by rfl) rfl ?_ ?_
                    · go_simp
                      try first | rfl | assumption
                    refine hK.out _ _ ⟨(by rw [ha.out]; exact putSel_upk 2 hb_ rfl rfl rfl), Q_HA, Q_GX, Q_GY⟩
                  refine steps_cons ?_ ?_
                  · rintro b a w' ⟨ha, Q_HA, Q_GX, Q_GY⟩ hb_ hon hoff
                    refine ⟨_, rfl, fun K hK => ?_⟩
                    have e4 : a.tmps[4]? = some (.pointer (some ⟨g_X, 0, none⟩)) := by rw [ha]; exact (putSel_off rfl).trans rfl
                    have e73 : a.tmps[73]? = some (.bool false) := by rw [ha]; exact putSel_on (e := (2, 73, .bool false)) 2 rfl rfl (hon 2 (by kernel_rfl)) rfl
                    replace ha := Aside0.mk ha
                    refine value_ (w1 := w') (v := .pointer (some ⟨g_X, 5, none⟩)) (wanted_on rfl rfl rfl (e73.trans (by first | rfl | (simp [*]; done)))) rfl ?_ ?_
                    · go_simp
                      try first | rfl | assumption
                    refine hK.out _ _ ⟨(by rw [ha.out]; exact putSel_upk 3 hb_ rfl rfl rfl), Q_HA, Q_GX, Q_GY⟩
                  refine steps_cons ?_ ?_
                  · rintro b a w' ⟨ha, Q_HA, Q_GX, Q_GY⟩ hb_ hon hoff
                    refine ⟨_, rfl, fun K hK => ?_⟩
                    have e74 : a.tmps[74]? = some (.pointer (some ⟨g_X, 5, none⟩)) := by rw [ha]; exact putSel_on (e := (3, 74, .pointer (some ⟨g_X, 5, none⟩))) 3 rfl rfl (hon 3 (by kernel_rfl)) rfl
                    have e73 : a.tmps[73]? = some (.bool false) := by rw [ha]; exact putSel_on (e := (2, 73, .bool false)) 2 rfl rfl (hon 2 (by kernel_rfl)) rfl
                    replace ha := Aside0.mk ha
                    have GX := Aside0.mk Q_GX
                    have hc5 := blk_cell GX.out 5
                    refine value_ (w1 := w') (v := .slice (some adM) am.length ac5) (wanted_on rfl rfl rfl (e73.trans (by first | rfl | (simp [*]; done)))) rfl ?_ ?_
                    · go_simp
                      try first | rfl | assumption
                    refine hK.out _ _ ⟨(by rw [ha.out]; exact putSel_upk 4 hb_ rfl rfl rfl), Q_HA, Q_GX, Q_GY⟩
                  refine steps_cons ?_ ?_
                  · rintro b a w' ⟨ha, Q_HA, Q_GX, Q_GY⟩ hb_ hon hoff
                    refine ⟨_, rfl, fun K hK => ?_⟩
                    have e16 : a.tmps[16]? = some (.int .i64 (j : Int)) := by rw [ha]; exact (putSel_off rfl).trans rfl
                    have e73 : a.tmps[73]? = some (.bool false) := by rw [ha]; exact putSel_on (e := (2, 73, .bool false)) 2 rfl rfl (hon 2 (by kernel_rfl)) rfl
                    replace ha := Aside0.mk ha
                    refine value_ (w1 := w') (v := .int .i64 (j : Int)) (wanted_on rfl rfl rfl (e73.trans (by first | rfl | (simp [*]; done)))) rfl ?_ ?_
                    · go_simp
                      (try simp only [i64_w])
                      try first | rfl | assumption
                    refine hK.out _ _ ⟨(by rw [ha.out]; exact putSel_upk 5 hb_ rfl rfl rfl), Q_HA, Q_GX, Q_GY⟩
                  refine steps_cons ?_ ?_
                  · rintro b a w' ⟨ha, Q_HA, Q_GX, Q_GY⟩ hb_ hon hoff
                    refine ⟨_, rfl, fun K hK => ?_⟩
                    have e75 : a.tmps[75]? = some (.slice (some adM) am.length ac5) := by rw [ha]; exact putSel_on (e := (4, 75, .slice (some adM) am.length ac5)) 4 rfl rfl (hon 4 (by kernel_rfl)) rfl
                    have e76 : a.tmps[76]? = some (.int .i64 (j : Int)) := by rw [ha]; exact putSel_on (e := (5, 76, .int .i64 (j : Int))) 5 rfl rfl (hon 5 (by kernel_rfl)) rfl
                    have e73 : a.tmps[73]? = some (.bool false) := by rw [ha]; exact putSel_on (e := (2, 73, .bool false)) 2 rfl rfl (hon 2 (by kernel_rfl)) rfl
                    replace ha := Aside0.mk ha
                    refine value_ (w1 := w') (v := .pointer (some (adM.add (j * 7)))) (wanted_on rfl rfl rfl (e73.trans (by first | rfl | (simp [*]; done)))) rfl ?_ ?_
                    · go_simp
                      try first | rfl | assumption
                    refine hK.out _ _ ⟨(by rw [ha.out]; exact putSel_upk 6 hb_ rfl rfl rfl), Q_HA, Q_GX, Q_GY⟩
                  refine steps_cons ?_ ?_
                  · rintro b a w' ⟨ha, Q_HA, Q_GX, Q_GY⟩ hb_ hon hoff
                    refine ⟨_, rfl, fun K hK => ?_⟩
                    have e77 : a.tmps[77]? = some (.pointer (some (adM.add (j * 7)))) := by rw [ha]; exact putSel_on (e := (6, 77, .pointer (some (adM.add (j * 7))))) 6 rfl rfl (hon 6 (by kernel_rfl)) rfl
                    have e73 : a.tmps[73]? = some (.bool false) := by rw [ha]; exact putSel_on (e := (2, 73, .bool false)) 2 rfl rfl (hon 2 (by kernel_rfl)) rfl
                    replace ha := Aside0.mk ha
                    refine value_ (w1 := w') (v := .pointer (some ⟨(adM.add (j * 7)).block, (adM.add (j * 7)).off + 1, none⟩)) (wanted_on rfl rfl rfl (e73.trans (by first | rfl | (simp [*]; done)))) rfl ?_ ?_
                    · go_simp
                      try first | rfl | assumption
                    refine hK.out _ _ ⟨(by rw [ha.out]; exact putSel_upk 7 hb_ rfl rfl rfl), Q_HA, Q_GX, Q_GY⟩
                  refine steps_cons ?_ ?_
                  · rintro b a w' ⟨ha, Q_HA, Q_GX, Q_GY⟩ hb_ hon hoff
                    refine ⟨_, rfl, fun K hK => ?_⟩
                    have e78 : a.tmps[78]? = some (.pointer (some ⟨(adM.add (j * 7)).block, (adM.add (j * 7)).off + 1, none⟩)) := by rw [ha]; exact putSel_on (e := (7, 78, .pointer (some ⟨(adM.add (j * 7)).block, (adM.add (j * 7)).off + 1, none⟩))) 7 rfl rfl (hon 7 (by kernel_rfl)) rfl
                    have e73 : a.tmps[73]? = some (.bool false) := by rw [ha]; exact putSel_on (e := (2, 73, .bool false)) 2 rfl rfl (hon 2 (by kernel_rfl)) rfl
                    replace ha := Aside0.mk ha
                    have HA := Aside0.mk Q_HA
                    have hc1 := (HMc.out w' (HX7.out.trans (HA.out.mono HX7.out.size))).2.1
                    refine value_ (w1 := w') (v := .int .i64 m.f1) (wanted_on rfl rfl rfl (e73.trans (by first | rfl | (simp [*]; done)))) rfl ?_ ?_
                    · go_simp
                      (try simp only [i64_w])
                      try first | rfl | assumption
                    refine hK.out _ _ ⟨(by rw [ha.out]; exact putSel_upk 8 hb_ rfl rfl rfl), Q_HA, Q_GX, Q_GY⟩
                  refine steps_cons ?_ ?_
                  · rintro b a w' ⟨ha, Q_HA, Q_GX, Q_GY⟩ hb_ hon hoff
                    refine ⟨_, rfl, fun K hK => ?_⟩
                    have e15 : a.tmps[15]? = some (.pointer (some ⟨gY, 0, none⟩)) := by rw [ha]; exact (putSel_off rfl).trans rfl
                    have e73 : a.tmps[73]? = some (.bool false) := by rw [ha]; exact putSel_on (e := (2, 73, .bool false)) 2 rfl rfl (hon 2 (by kernel_rfl)) rfl
                    replace ha := Aside0.mk ha
                    refine value_ (w1 := w') (v := .pointer (some ⟨gY, 1, none⟩)) (wanted_on rfl rfl rfl (e73.trans (by first | rfl | (simp [*]; done)))) rfl ?_ ?_
                    · go_simp
                      try first | rfl | assumption
                    refine hK.out _ _ ⟨(by rw [ha.out]; exact putSel_upk 9 hb_ rfl rfl rfl), Q_HA, Q_GX, Q_GY⟩
                  refine steps_cons ?_ ?_
                  · rintro b a w' ⟨ha, Q_HA, Q_GX, Q_GY⟩ hb_ hon hoff
                    refine ⟨_, rfl, fun K hK => ?_⟩
                    have e80 : a.tmps[80]? = some (.pointer (some ⟨gY, 1, none⟩)) := by rw [ha]; exact putSel_on (e := (9, 80, .pointer (some ⟨gY, 1, none⟩))) 9 rfl rfl (hon 9 (by kernel_rfl)) rfl
                    have e73 : a.tmps[73]? = some (.bool false) := by rw [ha]; exact putSel_on (e := (2, 73, .bool false)) 2 rfl rfl (hon 2 (by kernel_rfl)) rfl
                    replace ha := Aside0.mk ha
                    have GY := Aside0.mk Q_GY
                    have hc1 := blk_cell GY.out 1
                    refine value_ (w1 := w') (v := .int .i64 x.f1) (wanted_on rfl rfl rfl (e73.trans (by first | rfl | (simp [*]; done)))) rfl ?_ ?_
                    · go_simp
                      (try simp only [i64_w])
                      try first | rfl | assumption
                    refine hK.out _ _ ⟨(by rw [ha.out]; exact putSel_upk 10 hb_ rfl rfl rfl), Q_HA, Q_GX, Q_GY⟩
                  refine steps_cons ?_ ?_
                  · rintro b a w' ⟨ha, Q_HA, Q_GX, Q_GY⟩ hb_ hon hoff
                    refine ⟨_, rfl, fun K hK => ?_⟩
                    have e79 : a.tmps[79]? = some (.int .i64 m.f1) := by rw [ha]; exact putSel_on (e := (8, 79, .int .i64 m.f1)) 8 rfl rfl (hon 8 (by kernel_rfl)) rfl
                    have e81 : a.tmps[81]? = some (.int .i64 x.f1) := by rw [ha]; exact putSel_on (e := (10, 81, .int .i64 x.f1)) 10 rfl rfl (hon 10 (by kernel_rfl)) rfl
                    have e73 : a.tmps[73]? = some (.bool false) := by rw [ha]; exact putSel_on (e := (2, 73, .bool false)) 2 rfl rfl (hon 2 (by kernel_rfl)) rfl
                    replace ha := Aside0.mk ha
                    have he_ := HE.out
                    refine value_ (w1 := w') (v := .bool false) (wanted_on rfl rfl rfl (e73.trans (by first | rfl | (simp [*]; done)))) rfl ?_ ?_
                    · go_simp
                      try first | rfl | assumption
                    refine hK.out _ _ ⟨(by rw [ha.out]; exact putSel_upk 11 hb_ rfl rfl rfl), Q_HA, Q_GX, Q_GY⟩
                  refine steps_cons ?_ ?_
                  · rintro b a w' ⟨ha, Q_HA, Q_GX, Q_GY⟩ hb_ hon hoff
                    refine ⟨_, rfl, fun K hK => ?_⟩
                    have e73 : a.tmps[73]? = some (.bool false) := by rw [ha]; exact putSel_on (e := (2, 73, .bool false)) 2 rfl rfl (hon 2 (by kernel_rfl)) rfl
                    have e82 : a.tmps[82]? = some (.bool false) := by rw [ha]; exact putSel_on (e := (11, 82, .bool false)) 11 rfl rfl (hon 11 (by kernel_rfl)) rfl
                    replace ha := Aside0.mk ha
                    refine value_ (w1 := w') (v := .bool false) (by rfl) rfl ?_ ?_
                    · go_simp
                      try first | rfl | assumption
                    refine hK.out _ _ ⟨(by rw [ha.out]; exact putSel_upk 12 hb_ rfl rfl rfl), Q_HA, Q_GX, Q_GY⟩
                  exact steps_nil
                rintro b a wy hall ⟨ha, Q_HA, Q_GX, Q_GY⟩
                clear GX GY HA
                have hb0_ := hall 0 (by kernel_rfl)
                have hb1_ := hall 1 (by kernel_rfl)
                have hb2_ := hall 2 (by kernel_rfl)
                have hb3_ := hall 3 (by kernel_rfl)
                have hb4_ := hall 4 (by kernel_rfl)
                have hb5_ := hall 5 (by kernel_rfl)
                have hb6_ := hall 6 (by kernel_rfl)
                have hb7_ := hall 7 (by kernel_rfl)
                have hb8_ := hall 8 (by kernel_rfl)
                have hb9_ := hall 9 (by kernel_rfl)
                have hb10_ := hall 10 (by kernel_rfl)
                have hb11_ := hall 11 (by kernel_rfl)
                have hb12_ := hall 12 (by kernel_rfl)
                subst ha
                simp only [putSel, hb0_, hb1_, hb2_, hb3_, hb4_, hb5_, hb6_, hb7_, hb8_, hb9_, hb10_, hb11_, hb12_, if_true, Act.put, List.setIfInBounds_toArray, List.set_cons_zero, List.set_cons_succ]
                have HA := Aside0.mk Q_HA
                clear Q_HA
                have GX := Aside0.mk Q_GX
                clear Q_GX
                have GY := Aside0.mk Q_GY
                clear Q_GY
                clear hall hb0_ hb1_ hb2_ hb3_ hb4_ hb5_ hb6_ hb7_ hb8_ hb9_ hb10_ hb11_ hb12_
                have hx5_ := blk_cell GX.out 5
                obtain ⟨hmc0, hmc1, hmc2, hmc3, hmc4, hmc5, hmc6⟩ := HMc.out wy (HX7.out.trans (HA.out.mono HX7.out.size))
                clear hmc0 hmc2 hmc3 hmc4 hmc5 hmc6
                have RV8 := Aside0.mk (Kd.R_below RV7.out HA.out)
                have RU8 := Aside0.mk (Kd.R_below RU7.out HA.out)
                have HX8 := Aside0.mk (HX7.out.trans (HA.out.mono HX7.out.size))
                have HSc := Aside0.mk (seen_cells RV8.out (x := x) (k := k) HXk.out (by rw [mixS_len]; omega))
                clear RV7 RU7
                go_upto_region 20 with ((with_reducible refine gate_ (.store 3 (.tmp 93) (.tmp 91)) rfl ?_); clear hx5_ hmc1; refine Kd.R_store k37 (w0 := w) w.heap.size rfl rfl 3 (.tmp 93) (.tmp 91) rfl 37 (g := g8) (n := O.length) (cap := c7) (o' := k * 2 + 1) (k : Int) 1 (mixS am O k) ⟨x.f0, m.f1⟩ (.int .i64 m.f1) [.int .i64 m.f1] [.int .i64 x.f0, .int .i64 x.f1] (fun _ => True) (fun _ => False) ?sA ?sO rfl rfl info_int ?s1 RV8.out (by omega) hk8 rfl ?sC (Nat.le_refl 2) (k37_mkM _ _ _ ⟨x.f0, m.f1⟩) (fun _ h => h.elim) HX8.out ?_; (case sA => rfl); (case sO => rw [Int.toNat_natCast]; rfl); (case s1 => intro q hq; rw [List.mem_singleton.1 hq]; rfl); (case sC => exact HSc.out); intro w10 hR hb hg; rw [Int.toNat_natCast, HSt.out] at hR; have RV9 := Aside0.mk hR; have RU9 := Aside0.mk (Kd.R_over RU8.out RV8.out (by decide) (show wy.grownBy w10 (Value.slice (some ⟨g8, 0, none⟩) O.length c7).ownBlock from hg)); have GX9 := Aside0.mk (blk_grown GX.out hg (row_ne RV8.out GX.out (by decide))); have HX9 := Aside0.mk hb; clear hR hb hg RV8 RU8 GX HX8; skip)
                have HWk : Aside0 (wrap64 ((k : Int) + 1) = (k : Int) + 1) := ⟨w64s (by omega) (by omega)⟩
                have hsz := ofP_size 7 (textF aw m) (textF_size HMk.out)
                have HT2 := Aside0.mk (fun W (hW : Below w.heap.size w W) => HTx.out m A6 c6 W hW (Kd.C_below HC6.out hW) Hc6.out HMk.out)
                have hfe := HFe.out
                rw [show FETCH = (⟨#[70, 69, 84, 67, 72, 32]⟩ : ByteArray) from rfl] at hfe
                generalize ofP 7 (textF aw m) = tx at *
                have hsq : ¬ 9223372036854775807 < 6 + tx.size := by omega
                have hs3 : ((⟨#[70, 69, 84, 67, 72, 32]⟩ : ByteArray) ++ tx).size ≤ 140737488355328 := by rw [ByteArray.size_append]; show 6 + _ ≤ _; omega
                have HL3 := Aside0.mk (fun W (hW : Below w.heap.size w W) => HLi.out ((k : Int) + 1) ((⟨#[70, 69, 84, 67, 72, 32]⟩ : ByteArray) ++ tx) W hW (by omega) (by omega) hs3)
                clear hs3 hsz HFe
                generalize lineB ((k : Int) + 1) ((⟨#[70, 69, 84, 67, 72, 32]⟩ : ByteArray) ++ tx) = ln at *
                have HFe : Aside0 ((L2 ++ fetchL aw am O k) ++ [ln] = L2 ++ fetchL aw am O (k + 1)) := ⟨by rw [hfe, List.append_assoc]⟩
                have HLl : Aside0 ((L2 ++ fetchL aw am O k).length ≤ 30000) := ⟨by have h1 := HL2l.out; have h2 := HFl.out; rw [List.length_append]; omega⟩
                clear hfe
                have HX := HX9
                have GX := GX9
                have RV := RV9
                have RU := RU9
                clear HX9 GX9 RV9 RU9 GY
                refine start_ (n := 15) (S := fun w' => True) (ds := []) #[false, false, false, false, false, false, false, false, false, false, false, false, false, false, false] (by kernel_rfl) rfl rfl trivial (fun hHeld => ?_)
                refine with_tabW t_told_Sync.tab20 t_told_Sync.bits20 (fun HT_ HW_ => ?_)
                have hd_ := (below_drew1 (Below.refl w10.heap.size w10))
                have n_HX := Aside0.mk (HX.out.drew)
                have n_GX := Aside0.mk ((show w10.drew.heap[g_X]? = _ from GX.out))
                have n_RV := Aside0.mk (Kd.R_below RV.out hd_)
                have n_RU := Aside0.mk (Kd.R_below RU.out hd_)
                clear HX
                have HX := n_HX
                clear n_HX
                clear GX
                have GX := n_GX
                clear n_GX
                clear RV
                have RV := n_RV
                clear n_RV
                clear RU
                have RU := n_RU
                clear n_RU
                generalize w10.drew = w_d at *
                clear hd_
                refine inv_at [0, 1, 2, 3, 4, 5, 6, 7, 8, 9, 10, 11, 12, 13, 14] (fun a0_ b a w' => ∃ (A106 : Option Addr) (n106 : Nat) (c106 : Nat) (v107 : Value) (m12_ : Value) (m14_ : Value), a = putSel a0_ b [(0, 94, .slice A9 n9 c9), (1, 95, .int .i64 (k : Int)), (2, 96, .int .i64 ((k : Int) + 1)), (3, 97, .agg #[.string a0, .int .i64 a1, .int .i64 a2, .int .i64 a3, .slice aA4 aw.length ac4, .slice (some adM) am.length ac5]), (4, 98, .pointer (some ⟨g_X, 5, none⟩)), (5, 99, .slice (some adM) am.length ac5), (6, 100, .int .i64 (j : Int)), (7, 101, .pointer (some (adM.add (j * 7)))), (8, 102, .agg #[.int .i64 m.f0, .int .i64 m.f1, .int .i64 m.f2, .string m.f3, .int .i64 m.f4, .slice A6 m.f5.length c6, .string m.f6]), (9, 103, .string tx), (10, 104, .string ((⟨#[70, 69, 84, 67, 72, 32]⟩ : ByteArray) ++ tx)), (11, 105, .string ln), (12, 106, m12_), (13, 107, v107), (14, 9, m14_)] ∧ (Below w.heap.size w w') ∧ (w'.heap[g_X]? = some (.cells #[.string a0, .int .i64 a1, .int .i64 a2, .int .i64 a3, .slice aA4 aw.length ac4, .slice (some adM) am.length ac5] 25 (0, 0))) ∧ (Kd.R k37 37 w' w.heap.size (fun _ => True) (.slice (some ⟨g8, 0, none⟩) O.length c7) (mixS am O (k + 1))) ∧ (b 13 = false → Kd.R Kd.string 9 w' w.heap.size (fun _ => True) (.slice A9 n9 c9) (L2 ++ fetchL aw am O k)) ∧ (b 12 = true → b 13 = false → Kd.R Kd.string 9 w' w.heap.size (fun _ => True) (.slice A106 n106 c106) [ln]) ∧ (b 13 = true → Kd.R Kd.string 9 w' w.heap.size (fun _ => True) v107 (L2 ++ fetchL aw am O (k + 1))) ∧ (b 12 = true → (m12_ : Value) = .slice A106 n106 c106) ∧ (b 14 = true → (m14_ : Value) = v107)) HT_.out HW_.out (by kernel_rfl) (by kernel_rfl) ?_ ?_ ?_
                · exact ⟨none, 0, 0, .slice none 0 0, .bool false, .bool false, by simp only [putSel, Bool.false_eq_true, if_false], HX.out, GX.out, RV.out, fun _ => RU.out, fun h_ => absurd h_ (by decide), fun h_ => absurd h_ (by decide), fun h_ => absurd h_ (by decide), fun h_ => absurd h_ (by decide)⟩
                · skip
                  clear GX HX RU RV
                  refine steps_cons ?_ ?_
                  · rintro b a w' ⟨A106, n106, c106, v107, m12_, m14_, ha, Q_HX, Q_GX, Q_RV, Q_RU, Q_R106, Q_R107, Q_X12_, Q_X14_⟩ hb_ hon hoff
                    refine ⟨_, rfl, fun K hK => ?_⟩
                    have e9 : a.tmps[9]? = some (.slice A9 n9 c9) := by rw [ha]; exact (putSel_not (hoff 14 (by kernel_rfl)) rfl).trans rfl
                    replace ha := Aside0.mk ha
                    refine value_ (w1 := w') (v := .slice A9 n9 c9) (by rfl) rfl ?_ ?_
                    · go_simp
                      try first | rfl | assumption
                    refine hK.out _ _ ⟨A106, n106, c106, v107, m12_, m14_, (by rw [ha.out]; exact putSel_upk 0 hb_ rfl rfl rfl), Q_HX, Q_GX, Q_RV, Q_RU, Q_R106, fun h0_ => absurd ((hoff 13 (by kernel_rfl)).symm.trans h0_) (by decide), Q_X12_, fun h0_ => absurd ((hoff 14 (by kernel_rfl)).symm.trans h0_) (by decide)⟩
                  refine steps_cons ?_ ?_
                  · rintro b a w' ⟨A106, n106, c106, v107, m12_, m14_, ha, Q_HX, Q_GX, Q_RV, Q_RU, Q_R106, Q_R107, Q_X12_, Q_X14_⟩ hb_ hon hoff
                    refine ⟨_, rfl, fun K hK => ?_⟩
                    have e14 : a.tmps[14]? = some (.int .i64 (k : Int)) := by rw [ha]; exact (putSel_off rfl).trans rfl
                    replace ha := Aside0.mk ha
                    refine value_ (w1 := w') (v := .int .i64 (k : Int)) (by rfl) rfl ?_ ?_
                    · go_simp
                      (try simp only [i64_w])
                      try first | rfl | assumption
                    refine hK.out _ _ ⟨A106, n106, c106, v107, m12_, m14_, (by rw [ha.out]; exact putSel_upk 1 hb_ rfl rfl rfl), Q_HX, Q_GX, Q_RV, Q_RU, fun h0_ _ => absurd ((hoff 12 (by kernel_rfl)).symm.trans h0_) (by decide), fun h0_ => absurd ((hoff 13 (by kernel_rfl)).symm.trans h0_) (by decide), fun h0_ => absurd ((hoff 12 (by kernel_rfl)).symm.trans h0_) (by decide), fun h0_ => absurd ((hoff 14 (by kernel_rfl)).symm.trans h0_) (by decide)⟩
                  refine steps_cons ?_ ?_
                  · rintro b a w' ⟨A106, n106, c106, v107, m12_, m14_, ha, Q_HX, Q_GX, Q_RV, Q_RU, Q_R106, Q_R107, Q_X12_, Q_X14_⟩ hb_ hon hoff
                    refine ⟨_, rfl, fun K hK => ?_⟩
                    have e95 : a.tmps[95]? = some (.int .i64 (k : Int)) := by rw [ha]; exact putSel_on (e := (1, 95, .int .i64 (k : Int))) 1 rfl rfl (hon 1 (by kernel_rfl)) rfl
                    replace ha := Aside0.mk ha
                    have hww := HWk.out
                    refine value_ (w1 := w') (v := .int .i64 ((k : Int) + 1)) (by rfl) rfl ?_ ?_
                    · go_simp
                      (try simp only [i64_w])
                      try first | rfl | assumption
                    refine hK.out _ _ ⟨A106, n106, c106, v107, m12_, m14_, (by rw [ha.out]; exact putSel_upk 2 hb_ rfl rfl rfl), Q_HX, Q_GX, Q_RV, Q_RU, fun h0_ _ => absurd ((hoff 12 (by kernel_rfl)).symm.trans h0_) (by decide), fun h0_ => absurd ((hoff 13 (by kernel_rfl)).symm.trans h0_) (by decide), fun h0_ => absurd ((hoff 12 (by kernel_rfl)).symm.trans h0_) (by decide), fun h0_ => absurd ((hoff 14 (by kernel_rfl)).symm.trans h0_) (by decide)⟩
                  refine steps_cons ?_ ?_
                  · rintro b a w' ⟨A106, n106, c106, v107, m12_, m14_, ha, Q_HX, Q_GX, Q_RV, Q_RU, Q_R106, Q_R107, Q_X12_, Q_X14_⟩ hb_ hon hoff
                    refine ⟨_, rfl, fun K hK => ?_⟩
                    have e4 : a.tmps[4]? = some (.pointer (some ⟨g_X, 0, none⟩)) := by rw [ha]; exact (putSel_off rfl).trans rfl
                    replace ha := Aside0.mk ha
                    have GX := Aside0.mk Q_GX
                    have hc0 := blk_cell GX.out 0; have hc1 := blk_cell GX.out 1; have hc2 := blk_cell GX.out 2; have hc3 := blk_cell GX.out 3; have hc4 := blk_cell GX.out 4; have hc5 := blk_cell GX.out 5
                    refine value_ (w1 := w') (v := .agg #[.string a0, .int .i64 a1, .int .i64 a2, .int .i64 a3, .slice aA4 aw.length ac4, .slice (some adM) am.length ac5]) (by rfl) rfl ?_ ?_
                    · go_simp
                      try first | rfl | assumption
                    refine hK.out _ _ ⟨A106, n106, c106, v107, m12_, m14_, (by rw [ha.out]; exact putSel_upk 3 hb_ rfl rfl rfl), Q_HX, Q_GX, Q_RV, Q_RU, fun h0_ _ => absurd ((hoff 12 (by kernel_rfl)).symm.trans h0_) (by decide), fun h0_ => absurd ((hoff 13 (by kernel_rfl)).symm.trans h0_) (by decide), fun h0_ => absurd ((hoff 12 (by kernel_rfl)).symm.trans h0_) (by decide), fun h0_ => absurd ((hoff 14 (by kernel_rfl)).symm.trans h0_) (by decide)⟩
                  refine steps_cons ?_ ?_
                  · rintro b a w' ⟨A106, n106, c106, v107, m12_, m14_, ha, Q_HX, Q_GX, Q_RV, Q_RU, Q_R106, Q_R107, Q_X12_, Q_X14_⟩ hb_ hon hoff
                    refine ⟨_, rfl, fun K hK => ?_⟩
                    have e4 : a.tmps[4]? = some (.pointer (some ⟨g_X, 0, none⟩)) := by rw [ha]; exact (putSel_off rfl).trans rfl
                    replace ha := Aside0.mk ha
                    refine value_ (w1 := w') (v := .pointer (some ⟨g_X, 5, none⟩)) (by rfl) rfl ?_ ?_
                    · go_simp
                      try first | rfl | assumption
                    refine hK.out _ _ ⟨A106, n106, c106, v107, m12_, m14_, (by rw [ha.out]; exact putSel_upk 4 hb_ rfl rfl rfl), Q_HX, Q_GX, Q_RV, Q_RU, fun h0_ _ => absurd ((hoff 12 (by kernel_rfl)).symm.trans h0_) (by decide), fun h0_ => absurd ((hoff 13 (by kernel_rfl)).symm.trans h0_) (by decide), fun h0_ => absurd ((hoff 12 (by kernel_rfl)).symm.trans h0_) (by decide), fun h0_ => absurd ((hoff 14 (by kernel_rfl)).symm.trans h0_) (by decide)⟩
                  refine steps_cons ?_ ?_
                  · rintro b a w' ⟨A106, n106, c106, v107, m12_, m14_, ha, Q_HX, Q_GX, Q_RV, Q_RU, Q_R106, Q_R107, Q_X12_, Q_X14_⟩ hb_ hon hoff
                    refine ⟨_, rfl, fun K hK => ?_⟩
                    have e98 : a.tmps[98]? = some (.pointer (some ⟨g_X, 5, none⟩)) := by rw [ha]; exact putSel_on (e := (4, 98, .pointer (some ⟨g_X, 5, none⟩))) 4 rfl rfl (hon 4 (by kernel_rfl)) rfl
                    replace ha := Aside0.mk ha
                    have GX := Aside0.mk Q_GX
                    have hc5 := blk_cell GX.out 5
                    refine value_ (w1 := w') (v := .slice (some adM) am.length ac5) (by rfl) rfl ?_ ?_
                    · go_simp
                      try first | rfl | assumption
                    refine hK.out _ _ ⟨A106, n106, c106, v107, m12_, m14_, (by rw [ha.out]; exact putSel_upk 5 hb_ rfl rfl rfl), Q_HX, Q_GX, Q_RV, Q_RU, fun h0_ _ => absurd ((hoff 12 (by kernel_rfl)).symm.trans h0_) (by decide), fun h0_ => absurd ((hoff 13 (by kernel_rfl)).symm.trans h0_) (by decide), fun h0_ => absurd ((hoff 12 (by kernel_rfl)).symm.trans h0_) (by decide), fun h0_ => absurd ((hoff 14 (by kernel_rfl)).symm.trans h0_) (by decide)⟩
                  refine steps_cons ?_ ?_
                  · rintro b a w' ⟨A106, n106, c106, v107, m12_, m14_, ha, Q_HX, Q_GX, Q_RV, Q_RU, Q_R106, Q_R107, Q_X12_, Q_X14_⟩ hb_ hon hoff
                    refine ⟨_, rfl, fun K hK => ?_⟩
                    have e16 : a.tmps[16]? = some (.int .i64 (j : Int)) := by rw [ha]; exact (putSel_off rfl).trans rfl
                    replace ha := Aside0.mk ha
                    refine value_ (w1 := w') (v := .int .i64 (j : Int)) (by rfl) rfl ?_ ?_
                    · go_simp
                      (try simp only [i64_w])
                      try first | rfl | assumption
                    refine hK.out _ _ ⟨A106, n106, c106, v107, m12_, m14_, (by rw [ha.out]; exact putSel_upk 6 hb_ rfl rfl rfl), Q_HX, Q_GX, Q_RV, Q_RU, fun h0_ _ => absurd ((hoff 12 (by kernel_rfl)).symm.trans h0_) (by decide), fun h0_ => absurd ((hoff 13 (by kernel_rfl)).symm.trans h0_) (by decide), fun h0_ => absurd ((hoff 12 (by kernel_rfl)).symm.trans h0_) (by decide), fun h0_ => absurd ((hoff 14 (by kernel_rfl)).symm.trans h0_) (by decide)⟩
                  refine steps_cons ?_ ?_
                  · rintro b a w' ⟨A106, n106, c106, v107, m12_, m14_, ha, Q_HX, Q_GX, Q_RV, Q_RU, Q_R106, Q_R107, Q_X12_, Q_X14_⟩ hb_ hon hoff
                    refine ⟨_, rfl, fun K hK => ?_⟩
                    have e99 : a.tmps[99]? = some (.slice (some adM) am.length ac5) := by rw [ha]; exact putSel_on (e := (5, 99, .slice (some adM) am.length ac5)) 5 rfl rfl (hon 5 (by kernel_rfl)) rfl
                    have e100 : a.tmps[100]? = some (.int .i64 (j : Int)) := by rw [ha]; exact putSel_on (e := (6, 100, .int .i64 (j : Int))) 6 rfl rfl (hon 6 (by kernel_rfl)) rfl
                    replace ha := Aside0.mk ha
                    refine value_ (w1 := w') (v := .pointer (some (adM.add (j * 7)))) (by rfl) rfl ?_ ?_
                    · go_simp
                      try first | rfl | assumption
                    refine hK.out _ _ ⟨A106, n106, c106, v107, m12_, m14_, (by rw [ha.out]; exact putSel_upk 7 hb_ rfl rfl rfl), Q_HX, Q_GX, Q_RV, Q_RU, fun h0_ _ => absurd ((hoff 12 (by kernel_rfl)).symm.trans h0_) (by decide), fun h0_ => absurd ((hoff 13 (by kernel_rfl)).symm.trans h0_) (by decide), fun h0_ => absurd ((hoff 12 (by kernel_rfl)).symm.trans h0_) (by decide), fun h0_ => absurd ((hoff 14 (by kernel_rfl)).symm.trans h0_) (by decide)⟩
                  refine steps_cons ?_ ?_
                  · rintro b a w' ⟨A106, n106, c106, v107, m12_, m14_, ha, Q_HX, Q_GX, Q_RV, Q_RU, Q_R106, Q_R107, Q_X12_, Q_X14_⟩ hb_ hon hoff
                    refine ⟨_, rfl, fun K hK => ?_⟩
                    have e101 : a.tmps[101]? = some (.pointer (some (adM.add (j * 7)))) := by rw [ha]; exact putSel_on (e := (7, 101, .pointer (some (adM.add (j * 7))))) 7 rfl rfl (hon 7 (by kernel_rfl)) rfl
                    replace ha := Aside0.mk ha
                    have HX := Aside0.mk Q_HX
                    obtain ⟨hm0, hm1, hm2, hm3, hm4, hm5, hm6⟩ := HMc.out w' HX.out
                    refine value_ (w1 := w') (v := .agg #[.int .i64 m.f0, .int .i64 m.f1, .int .i64 m.f2, .string m.f3, .int .i64 m.f4, .slice A6 m.f5.length c6, .string m.f6]) (by rfl) rfl ?_ ?_
                    · go_simp
                      try first | rfl | assumption
                    refine hK.out _ _ ⟨A106, n106, c106, v107, m12_, m14_, (by rw [ha.out]; exact putSel_upk 8 hb_ rfl rfl rfl), Q_HX, Q_GX, Q_RV, Q_RU, fun h0_ _ => absurd ((hoff 12 (by kernel_rfl)).symm.trans h0_) (by decide), fun h0_ => absurd ((hoff 13 (by kernel_rfl)).symm.trans h0_) (by decide), fun h0_ => absurd ((hoff 12 (by kernel_rfl)).symm.trans h0_) (by decide), fun h0_ => absurd ((hoff 14 (by kernel_rfl)).symm.trans h0_) (by decide)⟩
                  refine steps_cons ?_ ?_
                  · rintro b a w' ⟨A106, n106, c106, v107, m12_, m14_, ha, Q_HX, Q_GX, Q_RV, Q_RU, Q_R106, Q_R107, Q_X12_, Q_X14_⟩ hb_ hon hoff
                    refine ⟨_, rfl, fun K hK => ?_⟩
                    have e97 : a.tmps[97]? = some (.agg #[.string a0, .int .i64 a1, .int .i64 a2, .int .i64 a3, .slice aA4 aw.length ac4, .slice (some adM) am.length ac5]) := by rw [ha]; exact putSel_on (e := (3, 97, .agg #[.string a0, .int .i64 a1, .int .i64 a2, .int .i64 a3, .slice aA4 aw.length ac4, .slice (some adM) am.length ac5])) 3 rfl rfl (hon 3 (by kernel_rfl)) rfl
                    have e102 : a.tmps[102]? = some (.agg #[.int .i64 m.f0, .int .i64 m.f1, .int .i64 m.f2, .string m.f3, .int .i64 m.f4, .slice A6 m.f5.length c6, .string m.f6]) := by rw [ha]; exact putSel_on (e := (8, 102, .agg #[.int .i64 m.f0, .int .i64 m.f1, .int .i64 m.f2, .string m.f3, .int .i64 m.f4, .slice A6 m.f5.length c6, .string m.f6])) 8 rfl rfl (hon 8 (by kernel_rfl)) rfl
                    replace ha := Aside0.mk ha
                    have HX := Aside0.mk Q_HX
                    have GX := Aside0.mk Q_GX
                    have RV := Aside0.mk Q_RV
                    have RU := Aside0.mk (Q_RU (hoff 13 (by kernel_rfl)))
                    refine goes_ Tryd.func25 (by kernel_rfl) rfl #[.agg #[.string a0, .int .i64 a1, .int .i64 a2, .int .i64 a3, .slice aA4 aw.length ac4, .slice (some adM) am.length ac5], .agg #[.int .i64 m.f0, .int .i64 m.f1, .int .i64 m.f2, .string m.f3, .int .i64 m.f4, .slice A6 m.f5.length c6, .string m.f6], .int .i64 7] (by rfl) rfl rfl (by first | (simp only [List.map_toArray, List.map_cons, List.map_nil, Act.eval, Array.getD_eq_getD_getElem?, Option.getD_some, e97, e102]; done) | (simp only [List.map_toArray, List.map_cons, List.map_nil, Act.eval, Array.getD_eq_getD_getElem?, Option.getD_some, e97, e102]; rfl)) ?_
                    with_reducible refine (HT2.out w' HX.out).mono ?_
                    rintro e wq ⟨rfl, hb⟩
                    refine ⟨_, rfl, ?_⟩
                    refine hK.out _ _ ⟨A106, n106, c106, v107, m12_, m14_, (by rw [ha.out]; exact putSel_upk 9 hb_ rfl rfl rfl), HX.out.trans (hb.mono HX.out.size), blk_below GX.out hb, Kd.R_below RV.out hb, fun _ => Kd.R_below RU.out hb, fun h0_ _ => absurd ((hoff 12 (by kernel_rfl)).symm.trans h0_) (by decide), fun h0_ => absurd ((hoff 13 (by kernel_rfl)).symm.trans h0_) (by decide), fun h0_ => absurd ((hoff 12 (by kernel_rfl)).symm.trans h0_) (by decide), fun h0_ => absurd ((hoff 14 (by kernel_rfl)).symm.trans h0_) (by decide)⟩
                  refine steps_cons ?_ ?_
                  · rintro b a w' ⟨A106, n106, c106, v107, m12_, m14_, ha, Q_HX, Q_GX, Q_RV, Q_RU, Q_R106, Q_R107, Q_X12_, Q_X14_⟩ hb_ hon hoff
                    refine ⟨_, rfl, fun K hK => ?_⟩
                    have e103 : a.tmps[103]? = some (.string tx) := by rw [ha]; exact putSel_on (e := (9, 103, .string tx)) 9 rfl rfl (hon 9 (by kernel_rfl)) rfl
                    replace ha := Aside0.mk ha
                    refine value_ (w1 := w') (v := .string ((⟨#[70, 69, 84, 67, 72, 32]⟩ : ByteArray) ++ tx)) (by rfl) rfl ?_ ?_
                    · go_simp
                      try first | rfl | assumption
                    refine hK.out _ _ ⟨A106, n106, c106, v107, m12_, m14_, (by rw [ha.out]; exact putSel_upk 10 hb_ rfl rfl rfl), Q_HX, Q_GX, Q_RV, Q_RU, fun h0_ _ => absurd ((hoff 12 (by kernel_rfl)).symm.trans h0_) (by decide), fun h0_ => absurd ((hoff 13 (by kernel_rfl)).symm.trans h0_) (by decide), fun h0_ => absurd ((hoff 12 (by kernel_rfl)).symm.trans h0_) (by decide), fun h0_ => absurd ((hoff 14 (by kernel_rfl)).symm.trans h0_) (by decide)⟩
                  refine steps_cons ?_ ?_
                  · rintro b a w' ⟨A106, n106, c106, v107, m12_, m14_, ha, Q_HX, Q_GX, Q_RV, Q_RU, Q_R106, Q_R107, Q_X12_, Q_X14_⟩ hb_ hon hoff
                    refine ⟨_, rfl, fun K hK => ?_⟩
                    have e96 : a.tmps[96]? = some (.int .i64 ((k : Int) + 1)) := by rw [ha]; exact putSel_on (e := (2, 96, .int .i64 ((k : Int) + 1))) 2 rfl rfl (hon 2 (by kernel_rfl)) rfl
                    have e104 : a.tmps[104]? = some (.string ((⟨#[70, 69, 84, 67, 72, 32]⟩ : ByteArray) ++ tx)) := by rw [ha]; exact putSel_on (e := (10, 104, .string ((⟨#[70, 69, 84, 67, 72, 32]⟩ : ByteArray) ++ tx))) 10 rfl rfl (hon 10 (by kernel_rfl)) rfl
                    replace ha := Aside0.mk ha
                    have HX := Aside0.mk Q_HX
                    have GX := Aside0.mk Q_GX
                    have RV := Aside0.mk Q_RV
                    have RU := Aside0.mk (Q_RU (hoff 13 (by kernel_rfl)))
                    refine goes_ Tryd.func32 (by kernel_rfl) rfl #[.int .i64 ((k : Int) + 1), .string ((⟨#[70, 69, 84, 67, 72, 32]⟩ : ByteArray) ++ tx)] (by rfl) rfl rfl (by first | (simp only [List.map_toArray, List.map_cons, List.map_nil, Act.eval, Array.getD_eq_getD_getElem?, Option.getD_some, e96, e104]; done) | (simp only [List.map_toArray, List.map_cons, List.map_nil, Act.eval, Array.getD_eq_getD_getElem?, Option.getD_some, e96, e104]; rfl)) ?_
                    with_reducible refine (HL3.out w' HX.out).mono ?_
                    rintro e wq ⟨rfl, hb⟩
                    refine ⟨_, rfl, ?_⟩
                    refine hK.out _ _ ⟨A106, n106, c106, v107, m12_, m14_, (by rw [ha.out]; exact putSel_upk 11 hb_ rfl rfl rfl), HX.out.trans (hb.mono HX.out.size), blk_below GX.out hb, Kd.R_below RV.out hb, fun _ => Kd.R_below RU.out hb, fun h0_ _ => absurd ((hoff 12 (by kernel_rfl)).symm.trans h0_) (by decide), fun h0_ => absurd ((hoff 13 (by kernel_rfl)).symm.trans h0_) (by decide), fun h0_ => absurd ((hoff 12 (by kernel_rfl)).symm.trans h0_) (by decide), fun h0_ => absurd ((hoff 14 (by kernel_rfl)).symm.trans h0_) (by decide)⟩
                  refine steps_cons ?_ ?_
                  · rintro b a w' ⟨A106, n106, c106, v107, m12_, m14_, ha, Q_HX, Q_GX, Q_RV, Q_RU, Q_R106, Q_R107, Q_X12_, Q_X14_⟩ hb_ hon hoff
                    refine ⟨_, rfl, fun K hK => ?_⟩
                    have e105 : a.tmps[105]? = some (.string ln) := by rw [ha]; exact putSel_on (e := (11, 105, .string ln)) 11 rfl rfl (hon 11 (by kernel_rfl)) rfl
                    replace ha := Aside0.mk ha
                    have HX := Aside0.mk Q_HX
                    have GX := Aside0.mk Q_GX
                    have RV := Aside0.mk Q_RV
                    have RU := Aside0.mk (Q_RU (hoff 13 (by kernel_rfl)))
                    refine Kd.R_lit_step Kd.string (w0 := w) (xs := [ln]) (inner := [.string ln]) (ok := fun _ => True) (okp := fun _ => False) w.heap.size 9 (by rfl) rfl ?_ (Kd.reps_scalar [ln]) (fun _ h => h.elim) trivial HX.out HX.out.size (by simp) ?_
                    · go_simp
                    intro v1 w1 ho hb hg hat
                    obtain ⟨A9', n9', c9', rfl⟩ := slc ho
                    refine hK.out _ _ ⟨A9', n9', c9', v107, (.slice A9' n9' c9'), m14_, (by rw [ha.out]; exact putSel_upk 12 hb_ rfl rfl rfl), hb, blk_grown GX.out hg (by simp), Kd.R_grown RV.out hg (fun _ _ => by simp), fun _ => Kd.R_grown RU.out hg (fun _ _ => by simp), fun _ _ => ho, fun h0_ => absurd ((hoff 13 (by kernel_rfl)).symm.trans h0_) (by decide), fun _ => rfl, fun h0_ => absurd ((hoff 14 (by kernel_rfl)).symm.trans h0_) (by decide)⟩
                  refine steps_cons ?_ ?_
                  · rintro b a w' ⟨A106, n106, c106, v107, m12_, m14_, ha, Q_HX, Q_GX, Q_RV, Q_RU, Q_R106, Q_R107, Q_X12_, Q_X14_⟩ hb_ hon hoff
                    refine ⟨_, rfl, fun K hK => ?_⟩
                    have e94 : a.tmps[94]? = some (.slice A9 n9 c9) := by rw [ha]; exact putSel_on (e := (0, 94, .slice A9 n9 c9)) 0 rfl rfl (hon 0 (by kernel_rfl)) rfl
                    have e106 : a.tmps[106]? = some (m12_) := by rw [ha]; exact putSel_on (e := (12, 106, m12_)) 12 rfl rfl (hon 12 (by kernel_rfl)) rfl
                    rw [Q_X12_ (hon 12 (by kernel_rfl))] at e106
                    replace ha := Aside0.mk ha
                    have HX := Aside0.mk Q_HX
                    have GX := Aside0.mk Q_GX
                    have RV := Aside0.mk Q_RV
                    have RU := Aside0.mk (Q_RU hb_)
                    have R106 := Aside0.mk (Q_R106 (hon 12 (by kernel_rfl)) hb_)
                    refine Kd.R_append_rows_step Kd.string (w0 := w) w.heap.size (by rfl) (.tmp 94) (.tmp 106) 22 9 (.string ⟨#[]⟩) 16 rfl Tryd.underlying22 info9 rfl (by decide) (by omega) (.slice A9 n9 c9) (L2 ++ fetchL aw am O k) [ln] A106 n106 c106 (fun _ => True) (fun _ => False) (eval_of e94) (eval_of e106) RU.out (row_C R106.out) (fun _ _ h => h) (fun _ h => h.elim) (fun _ _ => trivial) HX.out HX.out.size (by have := HLl.out; have h1_ := (Kd.R_reads' R106.out).1; rw [List.length_singleton] at h1_; omega) ?_
                    intro v1 w1 ho hb hg hat
                    rw [HFe.out] at ho
                    refine hK.out _ _ ⟨A106, n106, c106, v1, m12_, m14_, (by rw [ha.out]; exact putSel_upk 13 hb_ rfl rfl rfl), hb, blk_grown GX.out hg (row_ne RU.out GX.out (by decide)), Kd.R_over RV.out RU.out (by decide) hg, fun h0_ => absurd ((up_self b 13).symm.trans h0_) (by decide), fun _ h1_ => absurd ((up_self b 13).symm.trans h1_) (by decide), fun _ => ho, Q_X12_, fun h0_ => absurd ((hoff 14 (by kernel_rfl)).symm.trans h0_) (by decide)⟩
                  refine steps_cons ?_ ?_
                  · rintro b a w' ⟨A106, n106, c106, v107, m12_, m14_, ha, Q_HX, Q_GX, Q_RV, Q_RU, Q_R106, Q_R107, Q_X12_, Q_X14_⟩ hb_ hon hoff
                    refine ⟨_, rfl, fun K hK => ?_⟩
                    have e107 : a.tmps[107]? = some (v107) := by rw [ha]; exact putSel_on (e := (13, 107, v107)) 13 rfl rfl (hon 13 (by kernel_rfl)) rfl
                    replace ha := Aside0.mk ha
                    refine value_ (w1 := w') (v := v107) (by rfl) rfl ?_ ?_
                    · go_simp
                      try first | rfl | assumption
                    refine hK.out _ _ ⟨A106, n106, c106, v107, m12_, (v107), (by rw [ha.out]; exact putSel_upk 14 hb_ rfl rfl rfl), Q_HX, Q_GX, Q_RV, fun h0_ => absurd ((hon 13 (by kernel_rfl)).symm.trans h0_) (by decide), fun _ h1_ => absurd ((hon 13 (by kernel_rfl)).symm.trans h1_) (by decide), Q_R107, Q_X12_, fun _ => rfl⟩
                  exact steps_nil
                rintro b a wz hall ⟨A106, n106, c106, v107, m12_, m14_, ha, Q_HX, Q_GX, Q_RV, Q_RU, Q_R106, Q_R107, Q_X12_, Q_X14_⟩
                clear GX HX RU RV
                have hb0_ := hall 0 (by kernel_rfl)
                have hb1_ := hall 1 (by kernel_rfl)
                have hb2_ := hall 2 (by kernel_rfl)
                have hb3_ := hall 3 (by kernel_rfl)
                have hb4_ := hall 4 (by kernel_rfl)
                have hb5_ := hall 5 (by kernel_rfl)
                have hb6_ := hall 6 (by kernel_rfl)
                have hb7_ := hall 7 (by kernel_rfl)
                have hb8_ := hall 8 (by kernel_rfl)
                have hb9_ := hall 9 (by kernel_rfl)
                have hb10_ := hall 10 (by kernel_rfl)
                have hb11_ := hall 11 (by kernel_rfl)
                have hb12_ := hall 12 (by kernel_rfl)
                have hb13_ := hall 13 (by kernel_rfl)
                have hb14_ := hall 14 (by kernel_rfl)
                subst ha
                obtain rfl := Q_X12_ hb12_
                obtain rfl := Q_X14_ hb14_
                simp only [putSel, hb0_, hb1_, hb2_, hb3_, hb4_, hb5_, hb6_, hb7_, hb8_, hb9_, hb10_, hb11_, hb12_, hb13_, hb14_, if_true, Act.put, List.setIfInBounds_toArray, List.set_cons_zero, List.set_cons_succ]
                have HX := Aside0.mk Q_HX
                clear Q_HX
                have GX := Aside0.mk Q_GX
                clear Q_GX
                have RV := Aside0.mk Q_RV
                clear Q_RV
                clear Q_RU
                clear Q_R106
                have R107 := Aside0.mk (Q_R107 hb13_)
                clear Q_R107
                clear hall hb0_ hb1_ hb2_ hb3_ hb4_ hb5_ hb6_ hb7_ hb8_ hb9_ hb10_ hb11_ hb12_ hb13_ hb14_
                go_wp2_with fail
                go_roundw
                case rel => exact ⟨k + 1, _, by omega, rfl, by go_num, RV, R107, GX, HX⟩
                case measure => first | (simp [intOf]; done) | (simp [intOf]; omega)
          · obtain rfl : k = O.length := by omega
            clear hlt hk
            rw [mixS_all] at RV
            obtain ⟨q1, q2, q3⟩ := Kd.R_reads' RV.out
            obtain ⟨u1, u2, u3⟩ := Kd.R_reads' RU.out
            have HQ : Aside0 (Kd.C k37 wr A7 O.length (O.map (updS am)) ∧ O.length = (O.map (updS am)).length ∧ O.length ≤ c7) := ⟨by have h := q3; rw [List.length_map] at h; exact h, q1, q2⟩
            have HU : Aside0 (n9 = (L2 ++ fetchL aw am O O.length).length ∧ n9 ≤ c9 ∧ Kd.C Kd.string wr A9 n9 (L2 ++ fetchL aw am O O.length)) := ⟨u1, u2, by rw [u1]; exact u3⟩
            clear q1 q2 q3 u1 u2 u3
            have hq2 : O.length ≤ c7 := HQ.out.2.2
            go_wp2_with (go_at_call 34; refine (clip_calls A7 O.length c7 wr hq2).mono ?_; rintro e w9 ⟨rfl, rfl⟩)
            go_ret2
            exact ⟨_, _, _, _, _, rfl, by unfold outS; rw [HFull.out]; exact HQ.out.2.1, by unfold outS; rw [HFull.out]; exact HQ.out.1, by unfold linesS; rw [HFull.out, HL1.out, HL2.out]; exact HU.out.1, HU.out.2.1, by unfold linesS; rw [HFull.out, HL1.out, HL2.out]; exact HU.out.2.2, HX.out⟩
      · rw [if_neg hnew] at hL2
        have hd : decide (V.length < O.length) = true := decide_eq_true (by have := List.length_pos_iff.2 hnew; omega)
        have HL3 := Aside0.mk hL2
        clear hnew hOl hO hL2
        go_wp2_with (first
          | (go_at_call 32; refine (HLi.out (O.length : Int) EXISTS wr HX.out (by omega) (by omega) (by decide)).mono ?_; rintro e w5 ⟨rfl, hb5⟩; have RV5 := Aside0.mk (Kd.R_below RV.out hb5); have RU5 := Aside0.mk (Kd.R_below RU.out hb5); have GX5 := Aside0.mk (blk_below GX.out hb5); have HX5 := Aside0.mk (HX.out.trans (hb5.mono HX.out.size)); clear hb5 RV RU GX HX; skip)
          | ((with_reducible refine gate_builtin (b := .append) (xs := #[.tmp 54, .tmp 58]) rfl ?_); at_builtin; refine Kd.R_append Kd.string (w0 := w) w.heap.size rfl (.tmp 54) (.tmp 58) 22 9 (.string ⟨#[]⟩) 16 rfl Tryd.underlying22 info9 rfl (by decide) (by omega) (.slice A4 n4 c4) L1 (lineB (O.length : Int) EXISTS) [.string (lineB (O.length : Int) EXISTS)] (fun _ => True) (fun _ => False) rfl rfl ?aP (fun _ hk => hk.elim) ?aF ?aO ?aB ?aS ?aL ?_; (case aP => exact rfl); (case aF => exact (fun _ _ => trivial)); (case aO => exact RU5.out); (case aB => exact HX5.out); (case aS => exact HX5.out.size); (case aL => have := HVl.out; omega); intro v8 w8 ho hb8 hg hat; rw [HL3.out] at ho; have RU8 := Aside0.mk ho; have RV8 := Aside0.mk (Kd.R_over RV5.out RU5.out (by decide) hg); have GX8 := Aside0.mk (blk_grown GX5.out hg (row_ne RU5.out GX5.out (by decide))); have HX8 := Aside0.mk hb8; clear ho hb8 hg hat RV5 RU5 GX5 HX5; skip))
        have RV := RV8
        have RU := RU8
        have GX := GX8
        have HX := HX8
        clear RV8 RU8 GX8 HX8
        go_loopw [9, 62] (fun u i wr => ∃ (k : Nat) (uu : Value), k ≤ O.length ∧ u = uu ∧ i = .int .i64 k ∧ Aside0 (Kd.R k37 37 wr w.heap.size (fun _ => True) (.slice A7 O.length c7) (mixS am O k)) ∧ Aside0 (Kd.R Kd.string 9 wr w.heap.size (fun _ => True) uu (L2 ++ fetchL aw am O k))
          ∧ Aside0 (wr.heap[g_X]? = some (.cells #[.string a0, .int .i64 a1, .int .i64 a2, .int .i64 a3, .slice aA4 aw.length ac4, .slice aA5 am.length ac5] 25 (0, 0))) ∧ Aside0 (Below w.heap.size w wr)) (fun _ i _ => O.length - (intOf i).toNat)
        case atStart => exact ⟨0, _, Nat.zero_le _, rfl, rfl, ⟨by rw [mixS_zero]; exact RV.out⟩, ⟨by show Kd.R _ _ _ _ _ _ (L2 ++ []); rw [List.append_nil]; exact RU.out⟩, GX, HX⟩
        case round =>
          clear RV RU GX HX hd
          obtain ⟨k, uu, hk, rfl, rfl, RV, RU, GX, HX⟩ := hrel
          obtain ⟨A9, n9, c9, rfl⟩ := slc RU.out
          by_cases hlt : k < O.length
          ·
            rcases row_form RV.out with ⟨_, hz, _⟩ | ⟨g8, rfl⟩
            · omega
            have hxr := mixS_at am O k hlt
            obtain ⟨hq1, hq2, hq3⟩ := Kd.R_reads' RV.out
            obtain ⟨ad, e1, hx0, hx1⟩ := at_T37 hq3 (k : Int) (by omega) (by rw [mixS_len]; omega)
            cases e1
            rw [Int.toNat_natCast, hxr] at hx0 hx1
            rw [add_plain] at hx0 hx1
            have hk8 : (k : Int) < (O.length : Int) := by omega
            have hset := mixS_set am O k hlt
            have hsame := mixS_same am O k hlt
            have hfet := fetch_at aw am O k hlt
            have HFl := Aside0.mk (fetchL_len aw am O k)
            have hup : updS am O[k] = if 0 ≤ findP O[k].f0 0 am then ⟨O[k].f0, (rd_T34 am (findP O[k].f0 0 am)).f1⟩ else O[k] := rfl
            have hch : chgB am O[k] = (decide (0 ≤ findP O[k].f0 0 am) && !((rd_T34 am (findP O[k].f0 0 am)).f1 == O[k].f1)) := rfl
            have hfb : fetchB aw am k O[k] = lineB ((k : Int) + 1) (FETCH ++ ofP 7 (textF aw (rd_T34 am (findP O[k].f0 0 am)))) := rfl
            have hrng := findP_rng O[k].f0 am 0
            have HF2 := Aside0.mk (HFi.out O[k].f0)
            have HXk := Aside0.mk hxr
            clear hxr hq1 hq2 hq3
            generalize O[k] = x at *
            generalize findP x.f0 0 am = at_ at *
            clear hlt
            have HSet := Aside0.mk hset
            have HSame := Aside0.mk hsame
            have HFet := Aside0.mk hfet
            have HUp := Aside0.mk hup
            have HCh := Aside0.mk hch
            have HFb := Aside0.mk hfb
            have HRng := Aside0.mk hrng
            clear hset hsame hfet hup hch hfb hrng
            go_upto_region 18 with (first
              | ((with_reducible refine gate_dst (N := 15) rfl ?_); refine box_event ?hg15 (N := 15) ?hd15 (cs := #[.int .i64 0, .int .i64 0]) (t := 37) ?hr15 ?_; (case hd15 => rfl); (case hg15 => rfl); (case hr15 => first | (go_simp; done) | (go_simp; rfl)); intro gY hg_ w5 hbx hb5; have GY5 := Aside0.mk hbx; have RV5 := Aside0.mk (Kd.R_below RV.out hb5); have RU5 := Aside0.mk (Kd.R_below RU.out hb5); have GX5 := Aside0.mk (blk_below GX.out hb5); have HX5 := Aside0.mk (HX.out.trans (hb5.mono HX.out.size)); have HgY : Aside0 (w.heap.size ≤ gY) := ⟨by have := HX.out.size; omega⟩; have HNe : Aside0 (g8 ≠ gY) := ⟨by have h1 := World.block_lt_of_cell? _ _ hx0; have h2 : (⟨g8, k * 2, none⟩ : Addr).block = g8 := rfl; omega⟩; clear hg_ hbx hb5 hx0 hx1 RV RU GX HX; have zz0 := blk_cell GY5.out 0; have zz1 := blk_cell GY5.out 1; have zf0 := blk_frozen GY5.out 0; have zf1 := blk_frozen GY5.out 1; skip)
              | ((with_reducible refine gate_dst (N := 67) rfl ?_); clear zz0 zz1 zf0 zf1; obtain ⟨w6, e6, Be6, Oe6⟩ := sets2 (cs' := #[.int .i64 x.f0, .int .i64 x.f1]) GY5.out 0 1 (.int .i64 x.f0) (.int .i64 x.f1) rfl; rw [e6]; clear e6; have RV6 : Aside0 (Kd.R k37 37 w6 w.heap.size (fun _ => True) (.slice (some ⟨g8, 0, none⟩) O.length c7) (mixS am O k)) := ⟨Kd.R_mono (Kd.R_step (Kd.R_tight rfl RV5.out) (fun q hq _ => Oe6.keep q (by intro e9; apply HNe.out; rw [e9] at hq; injection hq with hq; exact hq.symm))) (fun _ _ => trivial)⟩; have RU6 := Aside0.mk (R_only RU5.out GY5.out (by decide) Oe6); have GX6 := Aside0.mk ((Oe6.keep g_X (blk_ne GX5.out GY5.out (by decide))).trans GX5.out); have HX6 := Aside0.mk (Oe6.below HX5.out HgY.out); have GY6 := Aside0.mk Be6; clear Be6 Oe6 RV5 RU5 GX5 HX5 GY5; have hc0 := blk_cell GX6.out 0; have hc1 := blk_cell GX6.out 1; have hc2 := blk_cell GX6.out 2; have hc3 := blk_cell GX6.out 3; have hc4 := blk_cell GX6.out 4; have hc5 := blk_cell GX6.out 5; have yc0 := blk_cell GY6.out 0; skip)
              | (go_at_call 33; refine (HF2.out w6 HX6.out).mono ?_; rintro e w7 ⟨rfl, hb7⟩; have RV7 := Aside0.mk (Kd.R_below RV6.out hb7); have RU7 := Aside0.mk (Kd.R_below RU6.out hb7); have GX7 := Aside0.mk (blk_below GX6.out hb7); have GY7 := Aside0.mk (blk_below GY6.out hb7); have HX7 := Aside0.mk (HX6.out.trans (hb7.mono HX6.out.size)); clear hb7 RV6 RU6 GX6 GY6 HX6 hc0 hc1 hc2 hc3 hc4 hc5 yc0; skip))
            have HA := Aside0.mk (Below.refl w7.heap.size w7)
            have GX := GX7
            have GY := GY7
            clear GX7 GY7
            rcases HRng.out with hat | ⟨ha0, ha1⟩
            · subst hat
              have hup := HUp.out
              rw [if_neg (by decide)] at hup
              have hch := HCh.out
              rw [show decide ((0 : Int) ≤ -1) = false from rfl, Bool.false_and] at hch
              have hfe := HFet.out
              rw [hch, if_neg (by decide), List.append_nil] at hfe
              have hsm := HSame.out hup
              clear HUp HCh HFet HSame HSet HFb HRng hup hch
              have HFe := Aside0.mk hfe
              have HSm := Aside0.mk hsm
              clear hfe hsm
              refine start_ (n := 13) (S := fun w' => True) (ds := []) #[false, false, false, false, false, false, false, false, false, false, false, false, false] (by kernel_rfl) rfl rfl trivial (fun hHeld => ?_)
              refine with_tabW t_told_Sync.tab18 t_told_Sync.bits18 (fun HT_ HW_ => ?_)
              have hd_ := (below_drew1 (Below.refl w7.heap.size w7))
              have n_HA := Aside0.mk (HA.out.drew)
              have n_GX := Aside0.mk ((show w7.drew.heap[g_X]? = _ from GX.out))
              have n_GY := Aside0.mk ((show w7.drew.heap[gY]? = _ from GY.out))
              clear HA
              have HA := n_HA
              clear n_HA
              clear GX
              have GX := n_GX
              clear n_GX
              clear GY
              have GY := n_GY
              clear n_GY
              generalize w7.drew = w_d at *
              clear hd_
              refine inv_at [0, 1, 2, 3, 4, 5, 6, 7, 8, 9, 10, 11, 12] (fun a0_ b a w' => a = putSel a0_ b [(0, 71, .int .i64 (-1)), (1, 72, .bool true), (2, 73, .bool true), (3, 74, undef), (4, 75, undef), (5, 76, undef), (6, 77, undef), (7, 78, undef), (8, 79, undef), (9, 80, undef), (10, 81, undef), (11, 82, undef), (12, 83, .bool true)] ∧ (Below w7.heap.size w7 w') ∧ (w'.heap[g_X]? = some (.cells #[.string a0, .int .i64 a1, .int .i64 a2, .int .i64 a3, .slice aA4 aw.length ac4, .slice aA5 am.length ac5] 25 (0, 0))) ∧ (w'.heap[gY]? = some (.cells #[.int .i64 x.f0, .int .i64 x.f1] 37 (0, 0)))) HT_.out HW_.out (by kernel_rfl) (by kernel_rfl) ?_ ?_ ?_
              · exact ⟨by simp only [putSel, Bool.false_eq_true, if_false], HA.out, GX.out, GY.out⟩
              · skip
                clear GX GY HA
                refine steps_cons ?_ ?_
                · rintro b a w' ⟨ha, Q_HA, Q_GX, Q_GY⟩ hb_ hon hoff
                  refine ⟨_, rfl, fun K hK => ?_⟩
                  have e16 : a.tmps[16]? = some (.int .i64 (-1)) := by rw [ha]; exact (putSel_off rfl).trans rfl
                  replace ha := Aside0.mk ha
                  refine value_ (w1 := w') (v := .int .i64 (-1)) (by rfl) rfl ?_ ?_
                  · go_simp
                    (try simp only [i64_w])
                    try first | rfl | assumption
                  refine hK.out _ _ ⟨(by rw [ha.out]; exact putSel_upk 0 hb_ rfl rfl rfl), Q_HA, Q_GX, Q_GY⟩
                refine steps_cons ?_ ?_
                · rintro b a w' ⟨ha, Q_HA, Q_GX, Q_GY⟩ hb_ hon hoff
                  refine ⟨_, rfl, fun K hK => ?_⟩
                  have e71 : a.tmps[71]? = some (.int .i64 (-1)) := by rw [ha]; exact putSel_on (e := (0, 71, .int .i64 (-1))) 0 rfl rfl (hon 0 (by kernel_rfl)) rfl
                  replace ha := Aside0.mk ha
                  refine value_ (w1 := w') (v := .bool true) (by rfl) rfl ?_ ?_
                  · go_simp
                    try first | rfl | assumption
                  refine hK.out _ _ ⟨(by rw [ha.out]; exact putSel_upk 1 hb_ rfl rfl rfl), Q_HA, Q_GX, Q_GY⟩
                refine steps_cons ?_ ?_
                · rintro b a w' ⟨ha, Q_HA, Q_GX, Q_GY⟩ hb_ hon hoff
                  refine ⟨_, rfl, fun K hK => ?_⟩
                  have e72 : a.tmps[72]? = some (.bool true) := by rw [ha]; exact putSel_on (e := (1, 72, .bool true)) 1 rfl rfl (hon 1 (by kernel_rfl)) rfl
                  replace ha := Aside0.mk ha
                  refine value_ (w1 := w') (v := .bool true) (by rfl) rfl ?_ ?_
                  · go_simp
                    try first | rfl | assumption
                  refine hK.out _ _ ⟨(by rw [ha.out]; exact putSel_upk 2 hb_ rfl rfl rfl), Q_HA, Q_GX, Q_GY⟩
                refine steps_cons ?_ ?_
                · rintro b a w' ⟨ha, Q_HA, Q_GX, Q_GY⟩ hb_ hon hoff
                  refine ⟨_, rfl, fun K hK => ?_⟩
                  have e73 : a.tmps[73]? = some (.bool true) := by rw [ha]; exact putSel_on (e := (2, 73, .bool true)) 2 rfl rfl (hon 2 (by kernel_rfl)) rfl
                  replace ha := Aside0.mk ha
                  refine off_ (wanted_off rfl rfl rfl (e73.trans (by first | rfl | (simp [*]; done)))) ?_
                  refine hK.out _ _ ⟨(by rw [ha.out]; exact putSel_upk 3 hb_ rfl rfl rfl), Q_HA, Q_GX, Q_GY⟩
                refine steps_cons ?_ ?_
                · rintro b a w' ⟨ha, Q_HA, Q_GX, Q_GY⟩ hb_ hon hoff
                  refine ⟨_, rfl, fun K hK => ?_⟩
                  have e73 : a.tmps[73]? = some (.bool true) := by rw [ha]; exact putSel_on (e := (2, 73, .bool true)) 2 rfl rfl (hon 2 (by kernel_rfl)) rfl
                  replace ha := Aside0.mk ha
                  refine off_ (wanted_off rfl rfl rfl (e73.trans (by first | rfl | (simp [*]; done)))) ?_
                  refine hK.out _ _ ⟨(by rw [ha.out]; exact putSel_upk 4 hb_ rfl rfl rfl), Q_HA, Q_GX, Q_GY⟩
                refine steps_cons ?_ ?_
                · rintro b a w' ⟨ha, Q_HA, Q_GX, Q_GY⟩ hb_ hon hoff
                  refine ⟨_, rfl, fun K hK => ?_⟩
                  have e73 : a.tmps[73]? = some (.bool true) := by rw [ha]; exact putSel_on (e := (2, 73, .bool true)) 2 rfl rfl (hon 2 (by kernel_rfl)) rfl
                  replace ha := Aside0.mk ha
                  refine off_ (wanted_off rfl rfl rfl (e73.trans (by first | rfl | (simp [*]; done)))) ?_
                  refine hK.out _ _ ⟨(by rw [ha.out]; exact putSel_upk 5 hb_ rfl rfl rfl), Q_HA, Q_GX, Q_GY⟩
                refine steps_cons ?_ ?_
                · rintro b a w' ⟨ha, Q_HA, Q_GX, Q_GY⟩ hb_ hon hoff
                  refine ⟨_, rfl, fun K hK => ?_⟩
                  have e73 : a.tmps[73]? = some (.bool true) := by rw [ha]; exact putSel_on (e := (2, 73, .bool true)) 2 rfl rfl (hon 2 (by kernel_rfl)) rfl
                  replace ha := Aside0.mk ha
                  refine off_ (wanted_off rfl rfl rfl (e73.trans (by first | rfl | (simp [*]; done)))) ?_
                  refine hK.out _ _ ⟨(by rw [ha.out]; exact putSel_upk 6 hb_ rfl rfl rfl), Q_HA, Q_GX, Q_GY⟩
                refine steps_cons ?_ ?_
                · rintro b a w' ⟨ha, Q_HA, Q_GX, Q_GY⟩ hb_ hon hoff
                  refine ⟨_, rfl, fun K hK => ?_⟩
                  have e73 : a.tmps[73]? = some (.bool true) := by rw [ha]; exact putSel_on (e := (2, 73, .bool true)) 2 rfl rfl (hon 2 (by kernel_rfl)) rfl
                  replace ha := Aside0.mk ha
                  refine off_ (wanted_off rfl rfl rfl (e73.trans (by first | rfl | (simp [*]; done)))) ?_
                  refine hK.out _ _ ⟨(by rw [ha.out]; exact putSel_upk 7 hb_ rfl rfl rfl), Q_HA, Q_GX, Q_GY⟩
                refine steps_cons ?_ ?_
                · rintro b a w' ⟨ha, Q_HA, Q_GX, Q_GY⟩ hb_ hon hoff
                  refine ⟨_, rfl, fun K hK => ?_⟩
                  have e73 : a.tmps[73]? = some (.bool true) := by rw [ha]; exact putSel_on (e := (2, 73, .bool true)) 2 rfl rfl (hon 2 (by kernel_rfl)) rfl
                  replace ha := Aside0.mk ha
                  refine off_ (wanted_off rfl rfl rfl (e73.trans (by first | rfl | (simp [*]; done)))) ?_
                  refine hK.out _ _ ⟨(by rw [ha.out]; exact putSel_upk 8 hb_ rfl rfl rfl), Q_HA, Q_GX, Q_GY⟩
                refine steps_cons ?_ ?_
                · rintro b a w' ⟨ha, Q_HA, Q_GX, Q_GY⟩ hb_ hon hoff
                  refine ⟨_, rfl, fun K hK => ?_⟩
                  have e73 : a.tmps[73]? = some (.bool true) := by rw [ha]; exact putSel_on (e := (2, 73, .bool true)) 2 rfl rfl (hon 2 (by kernel_rfl)) rfl
                  replace ha := Aside0.mk ha
                  refine off_ (wanted_off rfl rfl rfl (e73.trans (by first | rfl | (simp [*]; done)))) ?_
                  refine hK.out _ _ ⟨(by rw [ha.out]; exact putSel_upk 9 hb_ rfl rfl rfl), Q_HA, Q_GX, Q_GY⟩
                refine steps_cons ?_ ?_
                · rintro b a w' ⟨ha, Q_HA, Q_GX, Q_GY⟩ hb_ hon hoff
                  refine ⟨_, rfl, fun K hK => ?_⟩
                  have e73 : a.tmps[73]? = some (.bool true) := by rw [ha]; exact putSel_on (e := (2, 73, .bool true)) 2 rfl rfl (hon 2 (by kernel_rfl)) rfl
                  replace ha := Aside0.mk ha
                  refine off_ (wanted_off rfl rfl rfl (e73.trans (by first | rfl | (simp [*]; done)))) ?_
                  refine hK.out _ _ ⟨(by rw [ha.out]; exact putSel_upk 10 hb_ rfl rfl rfl), Q_HA, Q_GX, Q_GY⟩
                refine steps_cons ?_ ?_
                · rintro b a w' ⟨ha, Q_HA, Q_GX, Q_GY⟩ hb_ hon hoff
                  refine ⟨_, rfl, fun K hK => ?_⟩
                  have e73 : a.tmps[73]? = some (.bool true) := by rw [ha]; exact putSel_on (e := (2, 73, .bool true)) 2 rfl rfl (hon 2 (by kernel_rfl)) rfl
                  replace ha := Aside0.mk ha
                  refine off_ (wanted_off rfl rfl rfl (e73.trans (by first | rfl | (simp [*]; done)))) ?_
                  refine hK.out _ _ ⟨(by rw [ha.out]; exact putSel_upk 11 hb_ rfl rfl rfl), Q_HA, Q_GX, Q_GY⟩
                refine steps_cons ?_ ?_
                · rintro b a w' ⟨ha, Q_HA, Q_GX, Q_GY⟩ hb_ hon hoff
                  refine ⟨_, rfl, fun K hK => ?_⟩
                  have e73 : a.tmps[73]? = some (.bool true) := by rw [ha]; exact putSel_on (e := (2, 73, .bool true)) 2 rfl rfl (hon 2 (by kernel_rfl)) rfl
                  have e82 : a.tmps[82]? = some (undef) := by rw [ha]; exact putSel_on (e := (11, 82, undef)) 11 rfl rfl (hon 11 (by kernel_rfl)) rfl
                  replace ha := Aside0.mk ha
                  refine value_ (w1 := w') (v := .bool true) (by rfl) rfl ?_ ?_
                  · go_simp
                    try first | rfl | assumption
                  refine hK.out _ _ ⟨(by rw [ha.out]; exact putSel_upk 12 hb_ rfl rfl rfl), Q_HA, Q_GX, Q_GY⟩
                exact steps_nil
              rintro b a wy hall ⟨ha, Q_HA, Q_GX, Q_GY⟩
              clear GX GY HA
              have hb0_ := hall 0 (by kernel_rfl)
              have hb1_ := hall 1 (by kernel_rfl)
              have hb2_ := hall 2 (by kernel_rfl)
              have hb3_ := hall 3 (by kernel_rfl)
              have hb4_ := hall 4 (by kernel_rfl)
              have hb5_ := hall 5 (by kernel_rfl)
              have hb6_ := hall 6 (by kernel_rfl)
              have hb7_ := hall 7 (by kernel_rfl)
              have hb8_ := hall 8 (by kernel_rfl)
              have hb9_ := hall 9 (by kernel_rfl)
              have hb10_ := hall 10 (by kernel_rfl)
              have hb11_ := hall 11 (by kernel_rfl)
              have hb12_ := hall 12 (by kernel_rfl)
              subst ha
              simp only [putSel, hb0_, hb1_, hb2_, hb3_, hb4_, hb5_, hb6_, hb7_, hb8_, hb9_, hb10_, hb11_, hb12_, if_true, Act.put, List.setIfInBounds_toArray, List.set_cons_zero, List.set_cons_succ]
              have HA := Aside0.mk Q_HA
              clear Q_HA
              have GX := Aside0.mk Q_GX
              clear Q_GX
              have GY := Aside0.mk Q_GY
              clear Q_GY
              clear hall hb0_ hb1_ hb2_ hb3_ hb4_ hb5_ hb6_ hb7_ hb8_ hb9_ hb10_ hb11_ hb12_
              have RV8 : Aside0 (Kd.R k37 37 wy w.heap.size (fun _ => True) (.slice (some ⟨g8, 0, none⟩) O.length c7) (mixS am O (k + 1))) := ⟨by rw [← HSm.out]; exact Kd.R_below RV7.out HA.out⟩
              have RU8 : Aside0 (Kd.R Kd.string 9 wy w.heap.size (fun _ => True) (.slice A9 n9 c9) (L2 ++ fetchL aw am O (k + 1))) := ⟨by rw [HFe.out]; exact Kd.R_below RU7.out HA.out⟩
              have HX8 := Aside0.mk (HX7.out.trans (HA.out.mono HX7.out.size))
              clear RV7 RU7 HX7 HSm HFe
              go_wp2_with fail
              go_roundw
              case rel => exact ⟨k + 1, _, by omega, rfl, by go_num, RV8, RU8, GX, HX8⟩
              case measure => first | (simp [intOf]; done) | (simp [intOf]; omega)
            · obtain ⟨j, rfl⟩ := Int.eq_ofNat_of_zero_le (by omega : 0 ≤ at_)
              have hjl : j < am.length := by omega
              have hj8 : (j : Int) < (am.length : Int) := by omega
              obtain ⟨adM, A6, c6, e1, hm0, hm1, hm2, hm3, hm4, hm5, hm6, hc6, hC6⟩ := at_T34 HC5.out (j : Int) (by omega) (by omega)
              cases e1
              rw [Int.toNat_natCast] at hm0 hm1 hm2 hm3 hm4 hm5 hm6
              have hmok := HMs.out _ (List.getElem_mem hjl)
              rw [← rdm_nat am hjl] at hmok
              have HUp2 := Aside0.mk (HUp.out.trans (if_pos (by omega)))
              have HCh2 : Aside0 (chgB am x = !((rd_T34 am (j : Int)).f1 == x.f1)) := ⟨HCh.out.trans (by rw [decide_eq_true (by omega : (0 : Int) ≤ (j : Int)), Bool.true_and])⟩
              clear HUp HCh HRng ha0 ha1 hjl
              generalize rd_T34 am (j : Int) = m at *
              have HMc := Aside0.mk (fun W (hW : Below w.heap.size w W) => (⟨pw_cell_below hW hm0, pw_cell_below hW hm1, pw_cell_below hW hm2, pw_cell_below hW hm3, pw_cell_below hW hm4, pw_cell_below hW hm5, pw_cell_below hW hm6⟩ : _ ∧ _ ∧ _ ∧ _ ∧ _ ∧ _ ∧ _))
              have HC6 := Aside0.mk hC6
              have Hc6 := Aside0.mk hc6
              have HMk := Aside0.mk hmok
              clear hm0 hm1 hm2 hm3 hm4 hm5 hm6 hC6 hc6 hmok
              by_cases heq : m.f1 = x.f1
              · have hup := HUp2.out
                rw [heq] at hup
                have hch := HCh2.out
                rw [show (m.f1 == x.f1) = true from beq_iff_eq.2 heq] at hch
                have hfe := HFet.out
                rw [hch, if_neg (by decide), List.append_nil] at hfe
                have hsm := HSame.out hup
                have HE : Aside0 ((m.f1 == x.f1) = true) := ⟨beq_iff_eq.2 heq⟩
                clear HUp2 HCh2 HFet HSame HSet HFb hup hch heq
                have HFe := Aside0.mk hfe
                have HSm := Aside0.mk hsm
                clear hfe hsm
                refine start_ (n := 13) (S := fun w' => True) (ds := []) #[false, false, false, false, false, false, false, false, false, false, false, false, false] (by kernel_rfl) rfl rfl trivial (fun hHeld => ?_)
                refine with_tabW t_told_Sync.tab18 t_told_Sync.bits18 (fun HT_ HW_ => ?_)
                have hd_ := (below_drew1 (Below.refl w7.heap.size w7))
                have n_HA := Aside0.mk (HA.out.drew)
                have n_GX := Aside0.mk ((show w7.drew.heap[g_X]? = _ from GX.out))
                have n_GY := Aside0.mk ((show w7.drew.heap[gY]? = _ from GY.out))
                clear HA
                have HA := n_HA
                clear n_HA
                clear GX
                have GX := n_GX
                clear n_GX
                clear GY
                have GY := n_GY
                clear n_GY
                generalize w7.drew = w_d at *
                clear hd_
                refine inv_at [0, 1, 2, 3, 4, 5, 6, 7, 8, 9, 10, 11, 12] (fun a0_ b a w' => a = putSel a0_ b [(0, 71, .int .i64 (j : Int)), (1, 72, .bool false), (2, 73, .bool false), (3, 74, .pointer (some ⟨g_X, 5, none⟩)), (4, 75, .slice (some adM) am.length ac5), (5, 76, .int .i64 (j : Int)), (6, 77, .pointer (some (adM.add (j * 7)))), (7, 78, .pointer (some ⟨(adM.add (j * 7)).block, (adM.add (j * 7)).off + 1, none⟩)), (8, 79, .int .i64 m.f1), (9, 80, .pointer (some ⟨gY, 1, none⟩)), (10, 81, .int .i64 x.f1), (11, 82, .bool true), (12, 83, .bool true)] ∧ (Below w7.heap.size w7 w') ∧ (w'.heap[g_X]? = some (.cells #[.string a0, .int .i64 a1, .int .i64 a2, .int .i64 a3, .slice aA4 aw.length ac4, .slice (some adM) am.length ac5] 25 (0, 0))) ∧ (w'.heap[gY]? = some (.cells #[.int .i64 x.f0, .int .i64 x.f1] 37 (0, 0)))) HT_.out HW_.out (by kernel_rfl) (by kernel_rfl) ?_ ?_ ?_
                · exact ⟨by simp only [putSel, Bool.false_eq_true, if_false], HA.out, GX.out, GY.out⟩
                · skip
                  clear GX GY HA
                  refine steps_cons ?_ ?_
                  · rintro b a w' ⟨ha, Q_HA, Q_GX, Q_GY⟩ hb_ hon hoff
                    refine ⟨_, rfl, fun K hK => ?_⟩
                    have e16 : a.tmps[16]? = some (.int .i64 (j : Int)) := by rw [ha]; exact (putSel_off rfl).trans rfl
                    replace ha := Aside0.mk ha
                    refine value_ (w1 := w') (v := .int .i64 (j : Int)) (by rfl) rfl ?_ ?_
                    · go_simp
                      (try simp only [i64_w])
                      try first | rfl | assumption
                    refine hK.out _ _ ⟨(by rw [ha.out]; exact putSel_upk 0 hb_ rfl rfl rfl), Q_HA, Q_GX, Q_GY⟩
                  refine steps_cons ?_ ?_
                  · rintro b a w' ⟨ha, Q_HA, Q_GX, Q_GY⟩ hb_ hon hoff
                    refine ⟨_, rfl, fun K hK => ?_⟩
                    have e71 : a.tmps[71]? = some (.int .i64 (j : Int)) := by rw [ha]; exact putSel_on (e := (0, 71, .int .i64 (j : Int))) 0 rfl rfl (hon 0 (by kernel_rfl)) rfl
                    replace ha := Aside0.mk ha
                    refine value_ (w1 := w') (v := .bool false) (by rfl) rfl ?_ ?_
                    · go_simp
                      try first | rfl | assumption
                    refine hK.out _ _ ⟨(by rw [ha.out]; exact putSel_upk 1 hb_ rfl rfl rfl), Q_HA, Q_GX, Q_GY⟩
                  refine steps_cons ?_ ?_
                  · rintro b a w' ⟨ha, Q_HA, Q_GX, Q_GY⟩ hb_ hon hoff
                    refine ⟨_, rfl, fun K hK => ?_⟩
                    have e72 : a.tmps[72]? = some (.bool false) := by rw [ha]; exact putSel_on (e := (1, 72, .bool false)) 1 rfl rfl (hon 1 (by kernel_rfl)) rfl
                    replace ha := Aside0.mk ha
                    refine value_ (w1 := w') (v := .bool false) (by rfl) rfl ?_ ?_
                    · go_simp
                      try first | rfl | assumption
                    refine hK.out _ _ ⟨(by rw [ha.out]; exact putSel_upk 2 hb_ rfl rfl rfl), Q_HA, Q_GX, Q_GY⟩
                  refine steps_cons ?_ ?_
                  · rintro b a w' ⟨ha, Q_HA, Q_GX, Q_GY⟩ hb_ hon hoff
                    refine ⟨_, rfl, fun K hK => ?_⟩
                    have e4 : a.tmps[4]? = some (.pointer (some ⟨g_X, 0, none⟩)) := by rw [ha]; exact (putSel_off rfl).trans rfl
                    have e73 : a.tmps[73]? = some (.bool false) := by rw [ha]; exact putSel_on (e := (2, 73, .bool false)) 2 rfl rfl (hon 2 (by kernel_rfl)) rfl
                    replace ha := Aside0.mk ha
                    refine value_ (w1 := w') (v := .pointer (some ⟨g_X, 5, none⟩)) (wanted_on rfl rfl rfl (e73.trans (by first | rfl | (simp [*]; done)))) rfl ?_ ?_
                    · go_simp
                      try first | rfl | assumption
                    refine hK.out _ _ ⟨(by rw [ha.out]; exact putSel_upk 3 hb_ rfl rfl rfl), Q_HA, Q_GX, Q_GY⟩
                  refine steps_cons ?_ ?_
                  · rintro b a w' ⟨ha, Q_HA, Q_GX, Q_GY⟩ hb_ hon hoff
                    refine ⟨_, rfl, fun K hK => ?_⟩
                    have e74 : a.tmps[74]? = some (.pointer (some ⟨g_X, 5, none⟩)) := by rw [ha]; exact putSel_on (e := (3, 74, .pointer (some ⟨g_X, 5, none⟩))) 3 rfl rfl (hon 3 (by kernel_rfl)) rfl
                    have e73 : a.tmps[73]? = some (.bool false) := by rw [ha]; exact putSel_on (e := (2, 73, .bool false)) 2 rfl rfl (hon 2 (by kernel_rfl)) rfl
                    replace ha := Aside0.mk ha
                    have GX := Aside0.mk Q_GX
                    have hc5 := blk_cell GX.out 5
                    refine value_ (w1 := w') (v := .slice (some adM) am.length ac5) (wanted_on rfl rfl rfl (e73.trans (by first | rfl | (simp [*]; done)))) rfl ?_ ?_
                    · go_simp
                      try first | rfl | assumption
                    refine hK.out _ _ ⟨(by rw [ha.out]; exact putSel_upk 4 hb_ rfl rfl rfl), Q_HA, Q_GX, Q_GY⟩
                  refine steps_cons ?_ ?_
                  · rintro b a w' ⟨ha, Q_HA, Q_GX, Q_GY⟩ hb_ hon hoff
                    refine ⟨_, rfl, fun K hK => ?_⟩
                    have e16 : a.tmps[16]? = some (.int .i64 (j : Int)) := by rw [ha]; exact (putSel_off rfl).trans rfl
                    have e73 : a.tmps[73]? = some (.bool false) := by rw [ha]; exact putSel_on (e := (2, 73, .bool false)) 2 rfl rfl (hon 2 (by kernel_rfl)) rfl
                    replace ha := Aside0.mk ha
                    refine value_ (w1 := w') (v := .int .i64 (j : Int)) (wanted_on rfl rfl rfl (e73.trans (by first | rfl | (simp [*]; done)))) rfl ?_ ?_
                    · go_simp
                      (try simp only [i64_w])
                      try first | rfl | assumption
                    refine hK.out _ _ ⟨(by rw [ha.out]; exact putSel_upk 5 hb_ rfl rfl rfl), Q_HA, Q_GX, Q_GY⟩
                  refine steps_cons ?_ ?_
                  · rintro b a w' ⟨ha, Q_HA, Q_GX, Q_GY⟩ hb_ hon hoff
                    refine ⟨_, rfl, fun K hK => ?_⟩
                    have e75 : a.tmps[75]? = some (.slice (some adM) am.length ac5) := by rw [ha]; exact putSel_on (e := (4, 75, .slice (some adM) am.length ac5)) 4 rfl rfl (hon 4 (by kernel_rfl)) rfl
                    have e76 : a.tmps[76]? = some (.int .i64 (j : Int)) := by rw [ha]; exact putSel_on (e := (5, 76, .int .i64 (j : Int))) 5 rfl rfl (hon 5 (by kernel_rfl)) rfl
                    have e73 : a.tmps[73]? = some (.bool false) := by rw [ha]; exact putSel_on (e := (2, 73, .bool false)) 2 rfl rfl (hon 2 (by kernel_rfl)) rfl
                    replace ha := Aside0.mk ha
                    refine value_ (w1 := w') (v := .pointer (some (adM.add (j * 7)))) (wanted_on rfl rfl rfl (e73.trans (by first | rfl | (simp [*]; done)))) rfl ?_ ?_
                    · go_simp
                      try first | rfl | assumption
                    refine hK.out _ _ ⟨(by rw [ha.out]; exact putSel_upk 6 hb_ rfl rfl rfl), Q_HA, Q_GX, Q_GY⟩
                  refine steps_cons ?_ ?_
                  · rintro b a w' ⟨ha, Q_HA, Q_GX, Q_GY⟩ hb_ hon hoff
                    refine ⟨_, rfl, fun K hK => ?_⟩
                    have e77 : a.tmps[77]? = some (.pointer (some (adM.add (j * 7)))) := by rw [ha]; exact putSel_on (e := (6, 77, .pointer (some (adM.add (j * 7))))) 6 rfl rfl (hon 6 (by kernel_rfl)) rfl
                    have e73 : a.tmps[73]? = some (.bool false) := by rw [ha]; exact putSel_on (e := (2, 73, .bool false)) 2 rfl rfl (hon 2 (by kernel_rfl)) rfl
                    replace ha := Aside0.mk ha
                    refine value_ (w1 := w') (v := .pointer (some ⟨(adM.add (j * 7)).block, (adM.add (j * 7)).off + 1, none⟩)) (wanted_on rfl rfl rfl (e73.trans (by first | rfl | (simp [*]; done)))) rfl ?_ ?_
                    · go_simp
                      try first | rfl | assumption
                    refine hK.out _ _ ⟨(by rw [ha.out]; exact putSel_upk 7 hb_ rfl rfl rfl), Q_HA, Q_GX, Q_GY⟩
                  refine steps_cons ?_ ?_
                  · rintro b a w' ⟨ha, Q_HA, Q_GX, Q_GY⟩ hb_ hon hoff
                    refine ⟨_, rfl, fun K hK => ?_⟩
                    have e78 : a.tmps[78]? = some (.pointer (some ⟨(adM.add (j * 7)).block, (adM.add (j * 7)).off + 1, none⟩)) := by rw [ha]; exact putSel_on (e := (7, 78, .pointer (some ⟨(adM.add (j * 7)).block, (adM.add (j * 7)).off + 1, none⟩))) 7 rfl rfl (hon 7 (by kernel_rfl)) rfl
                    have e73 : a.tmps[73]? = some (.bool false) := by rw [ha]; exact putSel_on (e := (2, 73, .bool false)) 2 rfl rfl (hon 2 (by kernel_rfl)) rfl
                    replace ha := Aside0.mk ha
                    have HA := Aside0.mk Q_HA
                    have hc1 := (HMc.out w' (HX7.out.trans (HA.out.mono HX7.out.size))).2.1
                    refine value_ (w1 := w') (v := .int .i64 m.f1) (wanted_on rfl rfl rfl (e73.trans (by first | rfl | (simp [*]; done)))) rfl ?_ ?_
                    · go_simp
                      (try simp only [i64_w])
                      try first | rfl | assumption
                    refine hK.out _ _ ⟨(by rw [ha.out]; exact putSel_upk 8 hb_ rfl rfl rfl), Q_HA, Q_GX, Q_GY⟩
                  refine steps_cons ?_ ?_
                  · rintro b a w' ⟨ha, Q_HA, Q_GX, Q_GY⟩ hb_ hon hoff
                    refine ⟨_, rfl, fun K hK => ?_⟩
                    have e15 : a.tmps[15]? = some (.pointer (some ⟨gY, 0, none⟩)) := by rw [ha]; exact (putSel_off rfl).trans rfl
                    have e73 : a.tmps[73]? = some (.bool false) := by rw [ha]; exact putSel_on (e := (2, 73, .bool false)) 2 rfl rfl (hon 2 (by kernel_rfl)) rfl
                    replace ha := Aside0.mk ha
                    refine value_ (w1 := w') (v := .pointer (some ⟨gY, 1, none⟩)) (wanted_on rfl rfl rfl (e73.trans (by first | rfl | (simp [*]; done)))) rfl ?_ ?_
                    · go_simp
                      try first | rfl | assumption
                    refine hK.out _ _ ⟨(by rw [ha.out]; exact putSel_upk 9 hb_ rfl rfl rfl), Q_HA, Q_GX, Q_GY⟩
                  refine steps_cons ?_ ?_
                  · rintro b a w' ⟨ha, Q_HA, Q_GX, Q_GY⟩ hb_ hon hoff
                    refine ⟨_, rfl, fun K hK => ?_⟩
                    have e80 : a.tmps[80]? = some (.pointer (some ⟨gY, 1, none⟩)) := by rw [ha]; exact putSel_on (e := (9, 80, .pointer (some ⟨gY, 1, none⟩))) 9 rfl rfl (hon 9 (by kernel_rfl)) rfl
                    have e73 : a.tmps[73]? = some (.bool false) := by rw [ha]; exact putSel_on (e := (2, 73, .bool false)) 2 rfl rfl (hon 2 (by kernel_rfl)) rfl
                    replace ha := Aside0.mk ha
                    have GY := Aside0.mk Q_GY
                    have hc1 := blk_cell GY.out 1
                    refine value_ (w1 := w') (v := .int .i64 x.f1) (wanted_on rfl rfl rfl (e73.trans (by first | rfl | (simp [*]; done)))) rfl ?_ ?_
                    · go_simp
                      (try simp only [i64_w])
                      try first | rfl | assumption
                    refine hK.out _ _ ⟨(by rw [ha.out]; exact putSel_upk 10 hb_ rfl rfl rfl), Q_HA, Q_GX, Q_GY⟩
                  refine steps_cons ?_ ?_
                  · rintro b a w' ⟨ha, Q_HA, Q_GX, Q_GY⟩ hb_ hon hoff
                    refine ⟨_, rfl, fun K hK => ?_⟩
                    have e79 : a.tmps[79]? = some (.int .i64 m.f1) := by rw [ha]; exact putSel_on (e := (8, 79, .int .i64 m.f1)) 8 rfl rfl (hon 8 (by kernel_rfl)) rfl
                    have e81 : a.tmps[81]? = some (.int .i64 x.f1) := by rw [ha]; exact putSel_on (e := (10, 81, .int .i64 x.f1)) 10 rfl rfl (hon 10 (by kernel_rfl)) rfl
                    have e73 : a.tmps[73]? = some (.bool false) := by rw [ha]; exact putSel_on (e := (2, 73, .bool false)) 2 rfl rfl (hon 2 (by kernel_rfl)) rfl
                    replace ha := Aside0.mk ha
                    have he_ := HE.out
                    refine value_ (w1 := w') (v := .bool true) (wanted_on rfl rfl rfl (e73.trans (by first | rfl | (simp [*]; done)))) rfl ?_ ?_
                    · go_simp
                      try first | rfl | assumption
                    refine hK.out _ _ ⟨(by rw [ha.out]; exact putSel_upk 11 hb_ rfl rfl rfl), Q_HA, Q_GX, Q_GY⟩
                  refine steps_cons ?_ ?_
                  · rintro b a w' ⟨ha, Q_HA, Q_GX, Q_GY⟩ hb_ hon hoff
                    refine ⟨_, rfl, fun K hK => ?_⟩
                    have e73 : a.tmps[73]? = some (.bool false) := by rw [ha]; exact putSel_on (e := (2, 73, .bool false)) 2 rfl rfl (hon 2 (by kernel_rfl)) rfl
                    have e82 : a.tmps[82]? = some (.bool true) := by rw [ha]; exact putSel_on (e := (11, 82, .bool true)) 11 rfl rfl (hon 11 (by kernel_rfl)) rfl
                    replace ha := Aside0.mk ha
                    refine value_ (w1 := w') (v := .bool true) (by rfl) rfl ?_ ?_
                    · go_simp
                      try first | rfl | assumption
                    refine hK.out _ _ ⟨(by rw [ha.out]; exact putSel_upk 12 hb_ rfl rfl rfl), Q_HA, Q_GX, Q_GY⟩
                  exact steps_nil
                rintro b a wy hall ⟨ha, Q_HA, Q_GX, Q_GY⟩
                clear GX GY HA
                have hb0_ := hall 0 (by kernel_rfl)
                have hb1_ := hall 1 (by kernel_rfl)
                have hb2_ := hall 2 (by kernel_rfl)
                have hb3_ := hall 3 (by kernel_rfl)
                have hb4_ := hall 4 (by kernel_rfl)
                have hb5_ := hall 5 (by kernel_rfl)
                have hb6_ := hall 6 (by kernel_rfl)
                have hb7_ := hall 7 (by kernel_rfl)
                have hb8_ := hall 8 (by kernel_rfl)
                have hb9_ := hall 9 (by kernel_rfl)
                have hb10_ := hall 10 (by kernel_rfl)
                have hb11_ := hall 11 (by kernel_rfl)
                have hb12_ := hall 12 (by kernel_rfl)
                subst ha
                simp only [putSel, hb0_, hb1_, hb2_, hb3_, hb4_, hb5_, hb6_, hb7_, hb8_, hb9_, hb10_, hb11_, hb12_, if_true, Act.put, List.setIfInBounds_toArray, List.set_cons_zero, List.set_cons_succ]
                have HA := Aside0.mk Q_HA
                clear Q_HA
                have GX := Aside0.mk Q_GX
                clear Q_GX
                have GY := Aside0.mk Q_GY
                clear Q_GY
                clear hall hb0_ hb1_ hb2_ hb3_ hb4_ hb5_ hb6_ hb7_ hb8_ hb9_ hb10_ hb11_ hb12_
                have RV8 : Aside0 (Kd.R k37 37 wy w.heap.size (fun _ => True) (.slice (some ⟨g8, 0, none⟩) O.length c7) (mixS am O (k + 1))) := ⟨by rw [← HSm.out]; exact Kd.R_below RV7.out HA.out⟩
                have RU8 : Aside0 (Kd.R Kd.string 9 wy w.heap.size (fun _ => True) (.slice A9 n9 c9) (L2 ++ fetchL aw am O (k + 1))) := ⟨by rw [HFe.out]; exact Kd.R_below RU7.out HA.out⟩
                have HX8 := Aside0.mk (HX7.out.trans (HA.out.mono HX7.out.size))
                clear RV7 RU7 HX7 HSm HFe
                go_wp2_with fail
                go_roundw
                case rel => exact ⟨k + 1, _, by omega, rfl, by go_num, RV8, RU8, GX, HX8⟩
                case measure => first | (simp [intOf]; done) | (simp [intOf]; omega)
              · have hch := HCh2.out
                rw [show (m.f1 == x.f1) = false from beq_eq_false_iff_ne.2 heq] at hch
                have hfe := HFet.out
                rw [hch, if_pos (by decide)] at hfe
                rw [HFb.out] at hfe
                have hst := HSet.out
                rw [HUp2.out] at hst
                have HE : Aside0 ((m.f1 == x.f1) = false) := ⟨beq_eq_false_iff_ne.2 heq⟩
                clear HUp2 HCh2 HFet HSame HSet HFb hch heq
                have HFe := Aside0.mk hfe
                have HSt := Aside0.mk hst
                clear hfe hst
                refine start_ (n := 13) (S := fun w' => True) (ds := []) #[false, false, false, false, false, false, false, false, false, false, false, false, false] (by kernel_rfl) rfl rfl trivial (fun hHeld => ?_)
                refine with_tabW t_told_Sync.tab18 t_told_Sync.bits18 (fun HT_ HW_ => ?_)
                have hd_ := (below_drew1 (Below.refl w7.heap.size w7))
                have n_HA := Aside0.mk (HA.out.drew)
                have n_GX := Aside0.mk ((show w7.drew.heap[g_X]? = _ from GX.out))
                have n_GY := Aside0.mk ((show w7.drew.heap[gY]? = _ from GY.out))
                clear HA
                have HA := n_HA
                clear n_HA
                clear GX
                have GX := n_GX
                clear n_GX
                clear GY
                have GY := n_GY
                clear n_GY
                generalize w7.drew = w_d at *
                clear hd_
                refine inv_at [0, 1, 2, 3, 4, 5, 6, 7, 8, 9, 10, 11, 12] (fun a0_ b a w' => a = putSel a0_ b [(0, 71, .int .i64 (j : Int)), (1, 72, .bool false), (2, 73, .bool false), (3, 74, .pointer (some ⟨g_X, 5, none⟩)), (4, 75, .slice (some adM) am.length ac5), (5, 76, .int .i64 (j : Int)), (6, 77, .pointer (some (adM.add (j * 7)))), (7, 78, .pointer (some ⟨(adM.add (j * 7)).block, (adM.add (j * 7)).off + 1, none⟩)), (8, 79, .int .i64 m.f1), (9, 80, .pointer (some ⟨gY, 1, none⟩)), (10, 81, .int .i64 x.f1), (11, 82, .bool false), (12, 83, .bool false)] ∧ (Below w7.heap.size w7 w') ∧ (w'.heap[g_X]? = some (.cells #[.string a0, .int .i64 a1, .int .i64 a2, .int .i64 a3, .slice aA4 aw.length ac4, .slice (some adM) am.length ac5] 25 (0, 0))) ∧ (w'.heap[gY]? = some (.cells #[.int .i64 x.f0, .int .i64 x.f1] 37 (0, 0)))) HT_.out HW_.out (by kernel_rfl) (by kernel_rfl) ?_ ?_ ?_
                · exact ⟨by simp only [putSel, Bool.false_eq_true, if_false], HA.out, GX.out, GY.out⟩
                · skip
                  clear GX GY HA
                  refine steps_cons ?_ ?_
                  · rintro b a w' ⟨ha, Q_HA, Q_GX, Q_GY⟩ hb_ hon hoff
                    refine ⟨_, rfl, fun K hK => ?_⟩
                    have e16 : a.tmps[16]? = some (.int .i64 (j : Int)) := by rw [ha]; exact (putSel_off rfl).trans rfl
                    replace ha := Aside0.mk ha
                    refine value_ (w1 := w') (v := .int .i64 (j : Int)) (by rfl) rfl ?_ ?_
                    · go_simp
                      (try simp only [i64_w])
                      try first | rfl | assumption
                    refine hK.out _ _ ⟨(by rw [ha.out]; exact putSel_upk 0 hb_ rfl rfl rfl), Q_HA, Q_GX, Q_GY⟩
                  refine steps_cons ?_ ?_
                  · rintro b a w' ⟨ha, Q_HA, Q_GX, Q_GY⟩ hb_ hon hoff
                    refine ⟨_, rfl, fun K hK => ?_⟩
                    have e71 : a.tmps[71]? = some (.int .i64 (j : Int)) := by rw [ha]; exact putSel_on (e := (0, 71, .int .i64 (j : Int))) 0 rfl rfl (hon 0 (by kernel_rfl)) rfl
                    replace ha := Aside0.mk ha
                    refine value_ (w1 := w') (v := .bool false) (by rfl) rfl ?_ ?_
                    · go_simp
                      try first | rfl | assumption
                    refine hK.out _ _ ⟨(by rw [ha.out]; exact putSel_upk 1 hb_ rfl rfl rfl), Q_HA, Q_GX, Q_GY⟩
                  refine steps_cons ?_ ?_
                  · rintro b a w' ⟨ha, Q_HA, Q_GX, Q_GY⟩ hb_ hon hoff
                    refine ⟨_, rfl, fun K hK => ?_⟩
                    have e72 : a.tmps[72]? = some (.bool false) := by rw [ha]; exact putSel_on (e := (1, 72, .bool false)) 1 rfl rfl (hon 1 (by kernel_rfl)) rfl
                    replace ha := Aside0.mk ha
                    refine value_ (w1 := w') (v := .bool false) (by rfl) rfl ?_ ?_
                    · go_simp
                      try first | rfl | assumption
                    refine hK.out _ _ ⟨(by rw [ha.out]; exact putSel_upk 2 hb_ rfl rfl rfl), Q_HA, Q_GX, Q_GY⟩
                  refine steps_cons ?_ ?_
                  · rintro b a w' ⟨ha, Q_HA, Q_GX, Q_GY⟩ hb_ hon hoff
                    refine ⟨_, rfl, fun K hK => ?_⟩
                    have e4 : a.tmps[4]? = some (.pointer (some ⟨g_X, 0, none⟩)) := by rw [ha]; exact (putSel_off rfl).trans rfl
                    have e73 : a.tmps[73]? = some (.bool false) := by rw [ha]; exact putSel_on (e := (2, 73, .bool false)) 2 rfl rfl (hon 2 (by kernel_rfl)) rfl
                    replace ha := Aside0.mk ha
                    refine value_ (w1 := w') (v := .pointer (some ⟨g_X, 5, none⟩)) (wanted_on rfl rfl rfl (e73.trans (by first | rfl | (simp [*]; done)))) rfl ?_ ?_
                    · go_simp
                      try first | rfl | assumption
                    refine hK.out _ _ ⟨(by rw [ha.out]; exact putSel_upk 3 hb_ rfl rfl rfl), Q_HA, Q_GX, Q_GY⟩
                  refine steps_cons ?_ ?_
                  · rintro b a w' ⟨ha, Q_HA, Q_GX, Q_GY⟩ hb_ hon hoff
                    refine ⟨_, rfl, fun K hK => ?_⟩
                    have e74 : a.tmps[74]? = some (.pointer (some ⟨g_X, 5, none⟩)) := by rw [ha]; exact putSel_on (e := (3, 74, .pointer (some ⟨g_X, 5, none⟩))) 3 rfl rfl (hon 3 (by kernel_rfl)) rfl
                    have e73 : a.tmps[73]? = some (.bool false) := by rw [ha]; exact putSel_on (e := (2, 73, .bool false)) 2 rfl rfl (hon 2 (by kernel_rfl)) rfl
                    replace ha := Aside0.mk ha
                    have GX := Aside0.mk Q_GX
                    have hc5 := blk_cell GX.out 5
                    refine value_ (w1 := w') (v := .slice (some adM) am.length ac5) (wanted_on rfl rfl rfl (e73.trans (by first | rfl | (simp [*]; done)))) rfl ?_ ?_
                    · go_simp
                      try first | rfl | assumption
                    refine hK.out _ _ ⟨(by rw [ha.out]; exact putSel_upk 4 hb_ rfl rfl rfl), Q_HA, Q_GX, Q_GY⟩
                  refine steps_cons ?_ ?_
                  · rintro b a w' ⟨ha, Q_HA, Q_GX, Q_GY⟩ hb_ hon hoff
                    refine ⟨_, rfl, fun K hK => ?_⟩
                    have e16 : a.tmps[16]? = some (.int .i64 (j : Int)) := by rw [ha]; exact (putSel_off rfl).trans rfl
                    have e73 : a.tmps[73]? = some (.bool false) := by rw [ha]; exact putSel_on (e := (2, 73, .bool false)) 2 rfl rfl (hon 2 (by kernel_rfl)) rfl
                    replace ha := Aside0.mk ha
                    refine value_ (w1 := w') (v := .int .i64 (j : Int)) (wanted_on rfl rfl rfl (e73.trans (by first | rfl | (simp [*]; done)))) rfl ?_ ?_
                    · go_simp
                      (try simp only [i64_w])
                      try first | rfl | assumption
                    refine hK.out _ _ ⟨(by rw [ha.out]; exact putSel_upk 5 hb_ rfl rfl rfl), Q_HA, Q_GX, Q_GY⟩
                  refine steps_cons ?_ ?_
                  · rintro b a w' ⟨ha, Q_HA, Q_GX, Q_GY⟩ hb_ hon hoff
                    refine ⟨_, rfl, fun K hK => ?_⟩
                    have e75 : a.tmps[75]? = some (.slice (some adM) am.length ac5) := by rw [ha]; exact putSel_on (e := (4, 75, .slice (some adM) am.length ac5)) 4 rfl rfl (hon 4 (by kernel_rfl)) rfl
                    have e76 : a.tmps[76]? = some (.int .i64 (j : Int)) := by rw [ha]; exact putSel_on (e := (5, 76, .int .i64 (j : Int))) 5 rfl rfl (hon 5 (by kernel_rfl)) rfl
                    have e73 : a.tmps[73]? = some (.bool false) := by rw [ha]; exact putSel_on (e := (2, 73, .bool false)) 2 rfl rfl (hon 2 (by kernel_rfl)) rfl
                    replace ha := Aside0.mk ha
                    refine value_ (w1 := w') (v := .pointer (some (adM.add (j * 7)))) (wanted_on rfl rfl rfl (e73.trans (by first | rfl | (simp [*]; done)))) rfl ?_ ?_
                    · go_simp
                      try first | rfl | assumption
                    refine hK.out _ _ ⟨(by rw [ha.out]; exact putSel_upk 6 hb_ rfl rfl rfl), Q_HA, Q_GX, Q_GY⟩
                  refine steps_cons ?_ ?_
                  · rintro b a w' ⟨ha, Q_HA, Q_GX, Q_GY⟩ hb_ hon hoff
                    refine ⟨_, rfl, fun K hK => ?_⟩
                    have e77 : a.tmps[77]? = some (.pointer (some (adM.add (j * 7)))) := by rw [ha]; exact putSel_on (e := (6, 77, .pointer (some (adM.add (j * 7))))) 6 rfl rfl (hon 6 (by kernel_rfl)) rfl
                    have e73 : a.tmps[73]? = some (.bool false) := by rw [ha]; exact putSel_on (e := (2, 73, .bool false)) 2 rfl rfl (hon 2 (by kernel_rfl)) rfl
                    replace ha := Aside0.mk ha
                    refine value_ (w1 := w') (v := .pointer (some ⟨(adM.add (j * 7)).block, (adM.add (j * 7)).off + 1, none⟩)) (wanted_on rfl rfl rfl (e73.trans (by first | rfl | (simp [*]; done)))) rfl ?_ ?_
                    · go_simp
                      try first | rfl | assumption
                    refine hK.out _ _ ⟨(by rw [ha.out]; exact putSel_upk 7 hb_ rfl rfl rfl), Q_HA, Q_GX, Q_GY⟩
                  refine steps_cons ?_ ?_
                  · rintro b a w' ⟨ha, Q_HA, Q_GX, Q_GY⟩ hb_ hon hoff
                    refine ⟨_, rfl, fun K hK => ?_⟩
                    have e78 : a.tmps[78]? = some (.pointer (some ⟨(adM.add (j * 7)).block, (adM.add (j * 7)).off + 1, none⟩)) := by rw [ha]; exact putSel_on (e := (7, 78, .pointer (some ⟨(adM.add (j * 7)).block, (adM.add (j * 7)).off + 1, none⟩))) 7 rfl rfl (hon 7 (by kernel_rfl)) rfl
                    have e73 : a.tmps[73]? = some (.bool false) := by rw [ha]; exact putSel_on (e := (2, 73, .bool false)) 2 rfl rfl (hon 2 (by kernel_rfl)) rfl
                    replace ha := Aside0.mk ha
                    have HA := Aside0.mk Q_HA
                    have hc1 := (HMc.out w' (HX7.out.trans (HA.out.mono HX7.out.size))).2.1
                    refine value_ (w1 := w') (v := .int .i64 m.f1) (wanted_on rfl rfl rfl (e73.trans (by first | rfl | (simp [*]; done)))) rfl ?_ ?_
                    · go_simp
                      (try simp only [i64_w])
                      try first | rfl | assumption
                    refine hK.out _ _ ⟨(by rw [ha.out]; exact putSel_upk 8 hb_ rfl rfl rfl), Q_HA, Q_GX, Q_GY⟩
                  refine steps_cons ?_ ?_
                  · rintro b a w' ⟨ha, Q_HA, Q_GX, Q_GY⟩ hb_ hon hoff
                    refine ⟨_, rfl, fun K hK => ?_⟩
                    have e15 : a.tmps[15]? = some (.pointer (some ⟨gY, 0, none⟩)) := by rw [ha]; exact (putSel_off rfl).trans rfl
                    have e73 : a.tmps[73]? = some (.bool false) := by rw [ha]; exact putSel_on (e := (2, 73, .bool false)) 2 rfl rfl (hon 2 (by kernel_rfl)) rfl
                    replace ha := Aside0.mk ha
                    refine value_ (w1 := w') (v := .pointer (some ⟨gY, 1, none⟩)) (wanted_on rfl rfl rfl (e73.trans (by first | rfl | (simp [*]; done)))) rfl ?_ ?_
                    · go_simp
                      try first | rfl | assumption
                    refine hK.out _ _ ⟨(by rw [ha.out]; exact putSel_upk 9 hb_ rfl rfl rfl), Q_HA, Q_GX, Q_GY⟩
                  refine steps_cons ?_ ?_
                  · rintro b a w' ⟨ha, Q_HA, Q_GX, Q_GY⟩ hb_ hon hoff
                    refine ⟨_, rfl, fun K hK => ?_⟩
                    have e80 : a.tmps[80]? = some (.pointer (some ⟨gY, 1, none⟩)) := by rw [ha]; exact putSel_on (e := (9, 80, .pointer (some ⟨gY, 1, none⟩))) 9 rfl rfl (hon 9 (by kernel_rfl)) rfl
                    have e73 : a.tmps[73]? = some (.bool false) := by rw [ha]; exact putSel_on (e := (2, 73, .bool false)) 2 rfl rfl (hon 2 (by kernel_rfl)) rfl
                    replace ha := Aside0.mk ha
                    have GY := Aside0.mk Q_GY
                    have hc1 := blk_cell GY.out 1
                    refine value_ (w1 := w') (v := .int .i64 x.f1) (wanted_on rfl rfl rfl (e73.trans (by first | rfl | (simp [*]; done)))) rfl ?_ ?_
                    · go_simp
                      (try simp only [i64_w])
                      try first | rfl | assumption
                    refine hK.out _ _ ⟨(by rw [ha.out]; exact putSel_upk 10 hb_ rfl rfl rfl), Q_HA, Q_GX, Q_GY⟩
                  refine steps_cons ?_ ?_
                  · rintro b a w' ⟨ha, Q_HA, Q_GX, Q_GY⟩ hb_ hon hoff
                    refine ⟨_, rfl, fun K hK => ?_⟩
                    have e79 : a.tmps[79]? = some (.int .i64 m.f1) := by rw [ha]; exact putSel_on (e := (8, 79, .int .i64 m.f1)) 8 rfl rfl (hon 8 (by kernel_rfl)) rfl
                    have e81 : a.tmps[81]? = some (.int .i64 x.f1) := by rw [ha]; exact putSel_on (e := (10, 81, .int .i64 x.f1)) 10 rfl rfl (hon 10 (by kernel_rfl)) rfl
                    have e73 : a.tmps[73]? = some (.bool false) := by rw [ha]; exact putSel_on (e := (2, 73, .bool false)) 2 rfl rfl (hon 2 (by kernel_rfl)) rfl
                    replace ha := Aside0.mk ha
                    have he_ := HE.out
                    refine value_ (w1 := w') (v := .bool false) (wanted_on rfl rfl rfl (e73.trans (by first | rfl | (simp [*]; done)))) rfl ?_ ?_
                    · go_simp
                      try first | rfl | assumption
                    refine hK.out _ _ ⟨(by rw [ha.out]; exact putSel_upk 11 hb_ rfl rfl rfl), Q_HA, Q_GX, Q_GY⟩
                  refine steps_cons ?_ ?_
                  · rintro b a w' ⟨ha, Q_HA, Q_GX, Q_GY⟩ hb_ hon hoff
                    refine ⟨_, rfl, fun K hK => ?_⟩
                    have e73 : a.tmps[73]? = some (.bool false) := by rw [ha]; exact putSel_on (e := (2, 73, .bool false)) 2 rfl rfl (hon 2 (by kernel_rfl)) rfl
                    have e82 : a.tmps[82]? = some (.bool false) := by rw [ha]; exact putSel_on (e := (11, 82, .bool false)) 11 rfl rfl (hon 11 (by kernel_rfl)) rfl
                    replace ha := Aside0.mk ha
                    refine value_ (w1 := w') (v := .bool false) (by rfl) rfl ?_ ?_
                    · go_simp
                      try first | rfl | assumption
                    refine hK.out _ _ ⟨(by rw [ha.out]; exact putSel_upk 12 hb_ rfl rfl rfl), Q_HA, Q_GX, Q_GY⟩
                  exact steps_nil
                rintro b a wy hall ⟨ha, Q_HA, Q_GX, Q_GY⟩
                clear GX GY HA
                have hb0_ := hall 0 (by kernel_rfl)
                have hb1_ := hall 1 (by kernel_rfl)
                have hb2_ := hall 2 (by kernel_rfl)
                have hb3_ := hall 3 (by kernel_rfl)
                have hb4_ := hall 4 (by kernel_rfl)
                have hb5_ := hall 5 (by kernel_rfl)
                have hb6_ := hall 6 (by kernel_rfl)
                have hb7_ := hall 7 (by kernel_rfl)
                have hb8_ := hall 8 (by kernel_rfl)
                have hb9_ := hall 9 (by kernel_rfl)
                have hb10_ := hall 10 (by kernel_rfl)
                have hb11_ := hall 11 (by kernel_rfl)
                have hb12_ := hall 12 (by kernel_rfl)
                subst ha
                simp only [putSel, hb0_, hb1_, hb2_, hb3_, hb4_, hb5_, hb6_, hb7_, hb8_, hb9_, hb10_, hb11_, hb12_, if_true, Act.put, List.setIfInBounds_toArray, List.set_cons_zero, List.set_cons_succ]
                have HA := Aside0.mk Q_HA
                clear Q_HA
                have GX := Aside0.mk Q_GX
                clear Q_GX
                have GY := Aside0.mk Q_GY
                clear Q_GY
                clear hall hb0_ hb1_ hb2_ hb3_ hb4_ hb5_ hb6_ hb7_ hb8_ hb9_ hb10_ hb11_ hb12_
                have hx5_ := blk_cell GX.out 5
                obtain ⟨hmc0, hmc1, hmc2, hmc3, hmc4, hmc5, hmc6⟩ := HMc.out wy (HX7.out.trans (HA.out.mono HX7.out.size))
                clear hmc0 hmc2 hmc3 hmc4 hmc5 hmc6
                have RV8 := Aside0.mk (Kd.R_below RV7.out HA.out)
                have RU8 := Aside0.mk (Kd.R_below RU7.out HA.out)
                have HX8 := Aside0.mk (HX7.out.trans (HA.out.mono HX7.out.size))
                have HSc := Aside0.mk (seen_cells RV8.out (x := x) (k := k) HXk.out (by rw [mixS_len]; omega))
                clear RV7 RU7
                go_upto_region 20 with ((with_reducible refine gate_ (.store 3 (.tmp 93) (.tmp 91)) rfl ?_); clear hx5_ hmc1; refine Kd.R_store k37 (w0 := w) w.heap.size rfl rfl 3 (.tmp 93) (.tmp 91) rfl 37 (g := g8) (n := O.length) (cap := c7) (o' := k * 2 + 1) (k : Int) 1 (mixS am O k) ⟨x.f0, m.f1⟩ (.int .i64 m.f1) [.int .i64 m.f1] [.int .i64 x.f0, .int .i64 x.f1] (fun _ => True) (fun _ => False) ?sA ?sO rfl rfl info_int ?s1 RV8.out (by omega) hk8 rfl ?sC (Nat.le_refl 2) (k37_mkM _ _ _ ⟨x.f0, m.f1⟩) (fun _ h => h.elim) HX8.out ?_; (case sA => rfl); (case sO => rw [Int.toNat_natCast]; rfl); (case s1 => intro q hq; rw [List.mem_singleton.1 hq]; rfl); (case sC => exact HSc.out); intro w10 hR hb hg; rw [Int.toNat_natCast, HSt.out] at hR; have RV9 := Aside0.mk hR; have RU9 := Aside0.mk (Kd.R_over RU8.out RV8.out (by decide) (show wy.grownBy w10 (Value.slice (some ⟨g8, 0, none⟩) O.length c7).ownBlock from hg)); have GX9 := Aside0.mk (blk_grown GX.out hg (row_ne RV8.out GX.out (by decide))); have HX9 := Aside0.mk hb; clear hR hb hg RV8 RU8 GX HX8; skip)
                have HWk : Aside0 (wrap64 ((k : Int) + 1) = (k : Int) + 1) := ⟨w64s (by omega) (by omega)⟩
                have hsz := ofP_size 7 (textF aw m) (textF_size HMk.out)
                have HT2 := Aside0.mk (fun W (hW : Below w.heap.size w W) => HTx.out m A6 c6 W hW (Kd.C_below HC6.out hW) Hc6.out HMk.out)
                have hfe := HFe.out
                rw [show FETCH = (⟨#[70, 69, 84, 67, 72, 32]⟩ : ByteArray) from rfl] at hfe
                generalize ofP 7 (textF aw m) = tx at *
                have hsq : ¬ 9223372036854775807 < 6 + tx.size := by omega
                have hs3 : ((⟨#[70, 69, 84, 67, 72, 32]⟩ : ByteArray) ++ tx).size ≤ 140737488355328 := by rw [ByteArray.size_append]; show 6 + _ ≤ _; omega
                have HL3 := Aside0.mk (fun W (hW : Below w.heap.size w W) => HLi.out ((k : Int) + 1) ((⟨#[70, 69, 84, 67, 72, 32]⟩ : ByteArray) ++ tx) W hW (by omega) (by omega) hs3)
                clear hs3 hsz HFe
                generalize lineB ((k : Int) + 1) ((⟨#[70, 69, 84, 67, 72, 32]⟩ : ByteArray) ++ tx) = ln at *
                have HFe : Aside0 ((L2 ++ fetchL aw am O k) ++ [ln] = L2 ++ fetchL aw am O (k + 1)) := ⟨by rw [hfe, List.append_assoc]⟩
                have HLl : Aside0 ((L2 ++ fetchL aw am O k).length ≤ 30000) := ⟨by have h1 := HL2l.out; have h2 := HFl.out; rw [List.length_append]; omega⟩
                clear hfe
                have HX := HX9
                have GX := GX9
                have RV := RV9
                have RU := RU9
                clear HX9 GX9 RV9 RU9 GY
                refine start_ (n := 15) (S := fun w' => True) (ds := []) #[false, false, false, false, false, false, false, false, false, false, false, false, false, false, false] (by kernel_rfl) rfl rfl trivial (fun hHeld => ?_)
                refine with_tabW t_told_Sync.tab20 t_told_Sync.bits20 (fun HT_ HW_ => ?_)
                have hd_ := (below_drew1 (Below.refl w10.heap.size w10))
                have n_HX := Aside0.mk (HX.out.drew)
                have n_GX := Aside0.mk ((show w10.drew.heap[g_X]? = _ from GX.out))
                have n_RV := Aside0.mk (Kd.R_below RV.out hd_)
                have n_RU := Aside0.mk (Kd.R_below RU.out hd_)
                clear HX
                have HX := n_HX
                clear n_HX
                clear GX
                have GX := n_GX
                clear n_GX
                clear RV
                have RV := n_RV
                clear n_RV
                clear RU
                have RU := n_RU
                clear n_RU
                generalize w10.drew = w_d at *
                clear hd_
                refine inv_at [0, 1, 2, 3, 4, 5, 6, 7, 8, 9, 10, 11, 12, 13, 14] (fun a0_ b a w' => ∃ (A106 : Option Addr) (n106 : Nat) (c106 : Nat) (v107 : Value) (m12_ : Value) (m14_ : Value), a = putSel a0_ b [(0, 94, .slice A9 n9 c9), (1, 95, .int .i64 (k : Int)), (2, 96, .int .i64 ((k : Int) + 1)), (3, 97, .agg #[.string a0, .int .i64 a1, .int .i64 a2, .int .i64 a3, .slice aA4 aw.length ac4, .slice (some adM) am.length ac5]), (4, 98, .pointer (some ⟨g_X, 5, none⟩)), (5, 99, .slice (some adM) am.length ac5), (6, 100, .int .i64 (j : Int)), (7, 101, .pointer (some (adM.add (j * 7)))), (8, 102, .agg #[.int .i64 m.f0, .int .i64 m.f1, .int .i64 m.f2, .string m.f3, .int .i64 m.f4, .slice A6 m.f5.length c6, .string m.f6]), (9, 103, .string tx), (10, 104, .string ((⟨#[70, 69, 84, 67, 72, 32]⟩ : ByteArray) ++ tx)), (11, 105, .string ln), (12, 106, m12_), (13, 107, v107), (14, 9, m14_)] ∧ (Below w.heap.size w w') ∧ (w'.heap[g_X]? = some (.cells #[.string a0, .int .i64 a1, .int .i64 a2, .int .i64 a3, .slice aA4 aw.length ac4, .slice (some adM) am.length ac5] 25 (0, 0))) ∧ (Kd.R k37 37 w' w.heap.size (fun _ => True) (.slice (some ⟨g8, 0, none⟩) O.length c7) (mixS am O (k + 1))) ∧ (b 13 = false → Kd.R Kd.string 9 w' w.heap.size (fun _ => True) (.slice A9 n9 c9) (L2 ++ fetchL aw am O k)) ∧ (b 12 = true → b 13 = false → Kd.R Kd.string 9 w' w.heap.size (fun _ => True) (.slice A106 n106 c106) [ln]) ∧ (b 13 = true → Kd.R Kd.string 9 w' w.heap.size (fun _ => True) v107 (L2 ++ fetchL aw am O (k + 1))) ∧ (b 12 = true → (m12_ : Value) = .slice A106 n106 c106) ∧ (b 14 = true → (m14_ : Value) = v107)) HT_.out HW_.out (by kernel_rfl) (by kernel_rfl) ?_ ?_ ?_
                · exact ⟨none, 0, 0, .slice none 0 0, .bool false, .bool false, by simp only [putSel, Bool.false_eq_true, if_false], HX.out, GX.out, RV.out, fun _ => RU.out, fun h_ => absurd h_ (by decide), fun h_ => absurd h_ (by decide), fun h_ => absurd h_ (by decide), fun h_ => absurd h_ (by decide)⟩
                · skip
                  clear GX HX RU RV
                  refine steps_cons ?_ ?_
                  · rintro b a w' ⟨A106, n106, c106, v107, m12_, m14_, ha, Q_HX, Q_GX, Q_RV, Q_RU, Q_R106, Q_R107, Q_X12_, Q_X14_⟩ hb_ hon hoff
                    refine ⟨_, rfl, fun K hK => ?_⟩
                    have e9 : a.tmps[9]? = some (.slice A9 n9 c9) := by rw [ha]; exact (putSel_not (hoff 14 (by kernel_rfl)) rfl).trans rfl
                    replace ha := Aside0.mk ha
                    refine value_ (w1 := w') (v := .slice A9 n9 c9) (by rfl) rfl ?_ ?_
                    · go_simp
                      try first | rfl | assumption
                    refine hK.out _ _ ⟨A106, n106, c106, v107, m12_, m14_, (by rw [ha.out]; exact putSel_upk 0 hb_ rfl rfl rfl), Q_HX, Q_GX, Q_RV, Q_RU, Q_R106, fun h0_ => absurd ((hoff 13 (by kernel_rfl)).symm.trans h0_) (by decide), Q_X12_, fun h0_ => absurd ((hoff 14 (by kernel_rfl)).symm.trans h0_) (by decide)⟩
                  refine steps_cons ?_ ?_
                  · rintro b a w' ⟨A106, n106, c106, v107, m12_, m14_, ha, Q_HX, Q_GX, Q_RV, Q_RU, Q_R106, Q_R107, Q_X12_, Q_X14_⟩ hb_ hon hoff
                    refine ⟨_, rfl, fun K hK => ?_⟩
                    have e14 : a.tmps[14]? = some (.int .i64 (k : Int)) := by rw [ha]; exact (putSel_off rfl).trans rfl
                    replace ha := Aside0.mk ha
                    refine value_ (w1 := w') (v := .int .i64 (k : Int)) (by rfl) rfl ?_ ?_
                    · go_simp
                      (try simp only [i64_w])
                      try first | rfl | assumption
                    refine hK.out _ _ ⟨A106, n106, c106, v107, m12_, m14_, (by rw [ha.out]; exact putSel_upk 1 hb_ rfl rfl rfl), Q_HX, Q_GX, Q_RV, Q_RU, fun h0_ _ => absurd ((hoff 12 (by kernel_rfl)).symm.trans h0_) (by decide), fun h0_ => absurd ((hoff 13 (by kernel_rfl)).symm.trans h0_) (by decide), fun h0_ => absurd ((hoff 12 (by kernel_rfl)).symm.trans h0_) (by decide), fun h0_ => absurd ((hoff 14 (by kernel_rfl)).symm.trans h0_) (by decide)⟩
                  refine steps_cons ?_ ?_
                  · rintro b a w' ⟨A106, n106, c106, v107, m12_, m14_, ha, Q_HX, Q_GX, Q_RV, Q_RU, Q_R106, Q_R107, Q_X12_, Q_X14_⟩ hb_ hon hoff
                    refine ⟨_, rfl, fun K hK => ?_⟩
                    have e95 : a.tmps[95]? = some (.int .i64 (k : Int)) := by rw [ha]; exact putSel_on (e := (1, 95, .int .i64 (k : Int))) 1 rfl rfl (hon 1 (by kernel_rfl)) rfl
                    replace ha := Aside0.mk ha
                    have hww := HWk.out
                    refine value_ (w1 := w') (v := .int .i64 ((k : Int) + 1)) (by rfl) rfl ?_ ?_
                    · go_simp
                      (try simp only [i64_w])
                      try first | rfl | assumption
                    refine hK.out _ _ ⟨A106, n106, c106, v107, m12_, m14_, (by rw [ha.out]; exact putSel_upk 2 hb_ rfl rfl rfl), Q_HX, Q_GX, Q_RV, Q_RU, fun h0_ _ => absurd ((hoff 12 (by kernel_rfl)).symm.trans h0_) (by decide), fun h0_ => absurd ((hoff 13 (by kernel_rfl)).symm.trans h0_) (by decide), fun h0_ => absurd ((hoff 12 (by kernel_rfl)).symm.trans h0_) (by decide), fun h0_ => absurd ((hoff 14 (by kernel_rfl)).symm.trans h0_) (by decide)⟩
                  refine steps_cons ?_ ?_
                  · rintro b a w' ⟨A106, n106, c106, v107, m12_, m14_, ha, Q_HX, Q_GX, Q_RV, Q_RU, Q_R106, Q_R107, Q_X12_, Q_X14_⟩ hb_ hon hoff
                    refine ⟨_, rfl, fun K hK => ?_⟩
                    have e4 : a.tmps[4]? = some (.pointer (some ⟨g_X, 0, none⟩)) := by rw [ha]; exact (putSel_off rfl).trans rfl
                    replace ha := Aside0.mk ha
                    have GX := Aside0.mk Q_GX
                    have hc0 := blk_cell GX.out 0; have hc1 := blk_cell GX.out 1; have hc2 := blk_cell GX.out 2; have hc3 := blk_cell GX.out 3; have hc4 := blk_cell GX.out 4; have hc5 := blk_cell GX.out 5
                    refine value_ (w1 := w') (v := .agg #[.string a0, .int .i64 a1, .int .i64 a2, .int .i64 a3, .slice aA4 aw.length ac4, .slice (some adM) am.length ac5]) (by rfl) rfl ?_ ?_
                    · go_simp
                      try first | rfl | assumption
                    refine hK.out _ _ ⟨A106, n106, c106, v107, m12_, m14_, (by rw [ha.out]; exact putSel_upk 3 hb_ rfl rfl rfl), Q_HX, Q_GX, Q_RV, Q_RU, fun h0_ _ => absurd ((hoff 12 (by kernel_rfl)).symm.trans h0_) (by decide), fun h0_ => absurd ((hoff 13 (by kernel_rfl)).symm.trans h0_) (by decide), fun h0_ => absurd ((hoff 12 (by kernel_rfl)).symm.trans h0_) (by decide), fun h0_ => absurd ((hoff 14 (by kernel_rfl)).symm.trans h0_) (by decide)⟩
                  refine steps_cons ?_ ?_
                  · rintro b a w' ⟨A106, n106, c106, v107, m12_, m14_, ha, Q_HX, Q_GX, Q_RV, Q_RU, Q_R106, Q_R107, Q_X12_, Q_X14_⟩ hb_ hon hoff
                    refine ⟨_, rfl, fun K hK => ?_⟩
                    have e4 : a.tmps[4]? = some (.pointer (some ⟨g_X, 0, none⟩)) := by rw [ha]; exact (putSel_off rfl).trans rfl
                    replace ha := Aside0.mk ha
                    refine value_ (w1 := w') (v := .pointer (some ⟨g_X, 5, none⟩)) (by rfl) rfl ?_ ?_
                    · go_simp
                      try first | rfl | assumption
                    refine hK.out _ _ ⟨A106, n106, c106, v107, m12_, m14_, (by rw [ha.out]; exact putSel_upk 4 hb_ rfl rfl rfl), Q_HX, Q_GX, Q_RV, Q_RU, fun h0_ _ => absurd ((hoff 12 (by kernel_rfl)).symm.trans h0_) (by decide), fun h0_ => absurd ((hoff 13 (by kernel_rfl)).symm.trans h0_) (by decide), fun h0_ => absurd ((hoff 12 (by kernel_rfl)).symm.trans h0_) (by decide), fun h0_ => absurd ((hoff 14 (by kernel_rfl)).symm.trans h0_) (by decide)⟩
                  refine steps_cons ?_ ?_
                  · rintro b a w' ⟨A106, n106, c106, v107, m12_, m14_, ha, Q_HX, Q_GX, Q_RV, Q_RU, Q_R106, Q_R107, Q_X12_, Q_X14_⟩ hb_ hon hoff
                    refine ⟨_, rfl, fun K hK => ?_⟩
                    have e98 : a.tmps[98]? = some (.pointer (some ⟨g_X, 5, none⟩)) := by rw [ha]; exact putSel_on (e := (4, 98, .pointer (some ⟨g_X, 5, none⟩))) 4 rfl rfl (hon 4 (by kernel_rfl)) rfl
                    replace ha := Aside0.mk ha
                    have GX := Aside0.mk Q_GX
                    have hc5 := blk_cell GX.out 5
                    refine value_ (w1 := w') (v := .slice (some adM) am.length ac5) (by rfl) rfl ?_ ?_
                    · go_simp
                      try first | rfl | assumption
                    refine hK.out _ _ ⟨A106, n106, c106, v107, m12_, m14_, (by rw [ha.out]; exact putSel_upk 5 hb_ rfl rfl rfl), Q_HX, Q_GX, Q_RV, Q_RU, fun h0_ _ => absurd ((hoff 12 (by kernel_rfl)).symm.trans h0_) (by decide), fun h0_ => absurd ((hoff 13 (by kernel_rfl)).symm.trans h0_) (by decide), fun h0_ => absurd ((hoff 12 (by kernel_rfl)).symm.trans h0_) (by decide), fun h0_ => absurd ((hoff 14 (by kernel_rfl)).symm.trans h0_) (by decide)⟩
                  refine steps_cons ?_ ?_
                  · rintro b a w' ⟨A106, n106, c106, v107, m12_, m14_, ha, Q_HX, Q_GX, Q_RV, Q_RU, Q_R106, Q_R107, Q_X12_, Q_X14_⟩ hb_ hon hoff
                    refine ⟨_, rfl, fun K hK => ?_⟩
                    have e16 : a.tmps[16]? = some (.int .i64 (j : Int)) := by rw [ha]; exact (putSel_off rfl).trans rfl
                    replace ha := Aside0.mk ha
                    refine value_ (w1 := w') (v := .int .i64 (j : Int)) (by rfl) rfl ?_ ?_
                    · go_simp
                      (try simp only [i64_w])
                      try first | rfl | assumption
                    refine hK.out _ _ ⟨A106, n106, c106, v107, m12_, m14_, (by rw [ha.out]; exact putSel_upk 6 hb_ rfl rfl rfl), Q_HX, Q_GX, Q_RV, Q_RU, fun h0_ _ => absurd ((hoff 12 (by kernel_rfl)).symm.trans h0_) (by decide), fun h0_ => absurd ((hoff 13 (by kernel_rfl)).symm.trans h0_) (by decide), fun h0_ => absurd ((hoff 12 (by kernel_rfl)).symm.trans h0_) (by decide), fun h0_ => absurd ((hoff 14 (by kernel_rfl)).symm.trans h0_) (by decide)⟩
                  refine steps_cons ?_ ?_
                  · rintro b a w' ⟨A106, n106, c106, v107, m12_, m14_, ha, Q_HX, Q_GX, Q_RV, Q_RU, Q_R106, Q_R107, Q_X12_, Q_X14_⟩ hb_ hon hoff
                    refine ⟨_, rfl, fun K hK => ?_⟩
                    have e99 : a.tmps[99]? = some (.slice (some adM) am.length ac5) := by rw [ha]; exact putSel_on (e := (5, 99, .slice (some adM) am.length ac5)) 5 rfl rfl (hon 5 (by kernel_rfl)) rfl
                    have e100 : a.tmps[100]? = some (.int .i64 (j : Int)) := by rw [ha]; exact putSel_on (e := (6, 100, .int .i64 (j : Int))) 6 rfl rfl (hon 6 (by kernel_rfl)) rfl
                    replace ha := Aside0.mk ha
                    refine value_ (w1 := w') (v := .pointer (some (adM.add (j * 7)))) (by rfl) rfl ?_ ?_
                    · go_simp
                      try first | rfl | assumption
                    refine hK.out _ _ ⟨A106, n106, c106, v107, m12_, m14_, (by rw [ha.out]; exact putSel_upk 7 hb_ rfl rfl rfl), Q_HX, Q_GX, Q_RV, Q_RU, fun h0_ _ => absurd ((hoff 12 (by kernel_rfl)).symm.trans h0_) (by decide), fun h0_ => absurd ((hoff 13 (by kernel_rfl)).symm.trans h0_) (by decide), fun h0_ => absurd ((hoff 12 (by kernel_rfl)).symm.trans h0_) (by decide), fun h0_ => absurd ((hoff 14 (by kernel_rfl)).symm.trans h0_) (by decide)⟩
                  refine steps_cons ?_ ?_
                  · rintro b a w' ⟨A106, n106, c106, v107, m12_, m14_, ha, Q_HX, Q_GX, Q_RV, Q_RU, Q_R106, Q_R107, Q_X12_, Q_X14_⟩ hb_ hon hoff
                    refine ⟨_, rfl, fun K hK => ?_⟩
                    have e101 : a.tmps[101]? = some (.pointer (some (adM.add (j * 7)))) := by rw [ha]; exact putSel_on (e := (7, 101, .pointer (some (adM.add (j * 7))))) 7 rfl rfl (hon 7 (by kernel_rfl)) rfl
                    replace ha := Aside0.mk ha
                    have HX := Aside0.mk Q_HX
                    obtain ⟨hm0, hm1, hm2, hm3, hm4, hm5, hm6⟩ := HMc.out w' HX.out
                    refine value_ (w1 := w') (v := .agg #[.int .i64 m.f0, .int .i64 m.f1, .int .i64 m.f2, .string m.f3, .int .i64 m.f4, .slice A6 m.f5.length c6, .string m.f6]) (by rfl) rfl ?_ ?_
                    · go_simp
                      try first | rfl | assumption
                    refine hK.out _ _ ⟨A106, n106, c106, v107, m12_, m14_, (by rw [ha.out]; exact putSel_upk 8 hb_ rfl rfl rfl), Q_HX, Q_GX, Q_RV, Q_RU, fun h0_ _ => absurd ((hoff 12 (by kernel_rfl)).symm.trans h0_) (by decide), fun h0_ => absurd ((hoff 13 (by kernel_rfl)).symm.trans h0_) (by decide), fun h0_ => absurd ((hoff 12 (by kernel_rfl)).symm.trans h0_) (by decide), fun h0_ => absurd ((hoff 14 (by kernel_rfl)).symm.trans h0_) (by decide)⟩
                  refine steps_cons ?_ ?_
                  · rintro b a w' ⟨A106, n106, c106, v107, m12_, m14_, ha, Q_HX, Q_GX, Q_RV, Q_RU, Q_R106, Q_R107, Q_X12_, Q_X14_⟩ hb_ hon hoff
                    refine ⟨_, rfl, fun K hK => ?_⟩
                    have e97 : a.tmps[97]? = some (.agg #[.string a0, .int .i64 a1, .int .i64 a2, .int .i64 a3, .slice aA4 aw.length ac4, .slice (some adM) am.length ac5]) := by rw [ha]; exact putSel_on (e := (3, 97, .agg #[.string a0, .int .i64 a1, .int .i64 a2, .int .i64 a3, .slice aA4 aw.length ac4, .slice (some adM) am.length ac5])) 3 rfl rfl (hon 3 (by kernel_rfl)) rfl
                    have e102 : a.tmps[102]? = some (.agg #[.int .i64 m.f0, .int .i64 m.f1, .int .i64 m.f2, .string m.f3, .int .i64 m.f4, .slice A6 m.f5.length c6, .string m.f6]) := by rw [ha]; exact putSel_on (e := (8, 102, .agg #[.int .i64 m.f0, .int .i64 m.f1, .int .i64 m.f2, .string m.f3, .int .i64 m.f4, .slice A6 m.f5.length c6, .string m.f6])) 8 rfl rfl (hon 8 (by kernel_rfl)) rfl
                    replace ha := Aside0.mk ha
                    have HX := Aside0.mk Q_HX
                    have GX := Aside0.mk Q_GX
                    have RV := Aside0.mk Q_RV
                    have RU := Aside0.mk (Q_RU (hoff 13 (by kernel_rfl)))
                    refine goes_ Tryd.func25 (by kernel_rfl) rfl #[.agg #[.string a0, .int .i64 a1, .int .i64 a2, .int .i64 a3, .slice aA4 aw.length ac4, .slice (some adM) am.length ac5], .agg #[.int .i64 m.f0, .int .i64 m.f1, .int .i64 m.f2, .string m.f3, .int .i64 m.f4, .slice A6 m.f5.length c6, .string m.f6], .int .i64 7] (by rfl) rfl rfl (by first | (simp only [List.map_toArray, List.map_cons, List.map_nil, Act.eval, Array.getD_eq_getD_getElem?, Option.getD_some, e97, e102]; done) | (simp only [List.map_toArray, List.map_cons, List.map_nil, Act.eval, Array.getD_eq_getD_getElem?, Option.getD_some, e97, e102]; rfl)) ?_
                    with_reducible refine (HT2.out w' HX.out).mono ?_
                    rintro e wq ⟨rfl, hb⟩
                    refine ⟨_, rfl, ?_⟩
                    refine hK.out _ _ ⟨A106, n106, c106, v107, m12_, m14_, (by rw [ha.out]; exact putSel_upk 9 hb_ rfl rfl rfl), HX.out.trans (hb.mono HX.out.size), blk_below GX.out hb, Kd.R_below RV.out hb, fun _ => Kd.R_below RU.out hb, fun h0_ _ => absurd ((hoff 12 (by kernel_rfl)).symm.trans h0_) (by decide), fun h0_ => absurd ((hoff 13 (by kernel_rfl)).symm.trans h0_) (by decide), fun h0_ => absurd ((hoff 12 (by kernel_rfl)).symm.trans h0_) (by decide), fun h0_ => absurd ((hoff 14 (by kernel_rfl)).symm.trans h0_) (by decide)⟩
                  refine steps_cons ?_ ?_
                  · rintro b a w' ⟨A106, n106, c106, v107, m12_, m14_, ha, Q_HX, Q_GX, Q_RV, Q_RU, Q_R106, Q_R107, Q_X12_, Q_X14_⟩ hb_ hon hoff
                    refine ⟨_, rfl, fun K hK => ?_⟩
                    have e103 : a.tmps[103]? = some (.string tx) := by rw [ha]; exact putSel_on (e := (9, 103, .string tx)) 9 rfl rfl (hon 9 (by kernel_rfl)) rfl
                    replace ha := Aside0.mk ha
                    refine value_ (w1 := w') (v := .string ((⟨#[70, 69, 84, 67, 72, 32]⟩ : ByteArray) ++ tx)) (by rfl) rfl ?_ ?_
                    · go_simp
                      try first | rfl | assumption
                    refine hK.out _ _ ⟨A106, n106, c106, v107, m12_, m14_, (by rw [ha.out]; exact putSel_upk 10 hb_ rfl rfl rfl), Q_HX, Q_GX, Q_RV, Q_RU, fun h0_ _ => absurd ((hoff 12 (by kernel_rfl)).symm.trans h0_) (by decide), fun h0_ => absurd ((hoff 13 (by kernel_rfl)).symm.trans h0_) (by decide), fun h0_ => absurd ((hoff 12 (by kernel_rfl)).symm.trans h0_) (by decide), fun h0_ => absurd ((hoff 14 (by kernel_rfl)).symm.trans h0_) (by decide)⟩
                  refine steps_cons ?_ ?_
                  · rintro b a w' ⟨A106, n106, c106, v107, m12_, m14_, ha, Q_HX, Q_GX, Q_RV, Q_RU, Q_R106, Q_R107, Q_X12_, Q_X14_⟩ hb_ hon hoff
                    refine ⟨_, rfl, fun K hK => ?_⟩
                    have e96 : a.tmps[96]? = some (.int .i64 ((k : Int) + 1)) := by rw [ha]; exact putSel_on (e := (2, 96, .int .i64 ((k : Int) + 1))) 2 rfl rfl (hon 2 (by kernel_rfl)) rfl
                    have e104 : a.tmps[104]? = some (.string ((⟨#[70, 69, 84, 67, 72, 32]⟩ : ByteArray) ++ tx)) := by rw [ha]; exact putSel_on (e := (10, 104, .string ((⟨#[70, 69, 84, 67, 72, 32]⟩ : ByteArray) ++ tx))) 10 rfl rfl (hon 10 (by kernel_rfl)) rfl
                    replace ha := Aside0.mk ha
                    have HX := Aside0.mk Q_HX
                    have GX := Aside0.mk Q_GX
                    have RV := Aside0.mk Q_RV
                    have RU := Aside0.mk (Q_RU (hoff 13 (by kernel_rfl)))
                    refine goes_ Tryd.func32 (by kernel_rfl) rfl #[.int .i64 ((k : Int) + 1), .string ((⟨#[70, 69, 84, 67, 72, 32]⟩ : ByteArray) ++ tx)] (by rfl) rfl rfl (by first | (simp only [List.map_toArray, List.map_cons, List.map_nil, Act.eval, Array.getD_eq_getD_getElem?, Option.getD_some, e96, e104]; done) | (simp only [List.map_toArray, List.map_cons, List.map_nil, Act.eval, Array.getD_eq_getD_getElem?, Option.getD_some, e96, e104]; rfl)) ?_
                    with_reducible refine (HL3.out w' HX.out).mono ?_
                    rintro e wq ⟨rfl, hb⟩
                    refine ⟨_, rfl, ?_⟩
                    refine hK.out _ _ ⟨A106, n106, c106, v107, m12_, m14_, (by rw [ha.out]; exact putSel_upk 11 hb_ rfl rfl rfl), HX.out.trans (hb.mono HX.out.size), blk_below GX.out hb, Kd.R_below RV.out hb, fun _ => Kd.R_below RU.out hb, fun h0_ _ => absurd ((hoff 12 (by kernel_rfl)).symm.trans h0_) (by decide), fun h0_ => absurd ((hoff 13 (by kernel_rfl)).symm.trans h0_) (by decide), fun h0_ => absurd ((hoff 12 (by kernel_rfl)).symm.trans h0_) (by decide), fun h0_ => absurd ((hoff 14 (by kernel_rfl)).symm.trans h0_) (by decide)⟩
                  refine steps_cons ?_ ?_
                  · rintro b a w' ⟨A106, n106, c106, v107, m12_, m14_, ha, Q_HX, Q_GX, Q_RV, Q_RU, Q_R106, Q_R107, Q_X12_, Q_X14_⟩ hb_ hon hoff
                    refine ⟨_, rfl, fun K hK => ?_⟩
                    have e105 : a.tmps[105]? = some (.string ln) := by rw [ha]; exact putSel_on (e := (11, 105, .string ln)) 11 rfl rfl (hon 11 (by kernel_rfl)) rfl
                    replace ha := Aside0.mk ha
                    have HX := Aside0.mk Q_HX
                    have GX := Aside0.mk Q_GX
                    have RV := Aside0.mk Q_RV
                    have RU := Aside0.mk (Q_RU (hoff 13 (by kernel_rfl)))
                    refine Kd.R_lit_step Kd.string (w0 := w) (xs := [ln]) (inner := [.string ln]) (ok := fun _ => True) (okp := fun _ => False) w.heap.size 9 (by rfl) rfl ?_ (Kd.reps_scalar [ln]) (fun _ h => h.elim) trivial HX.out HX.out.size (by simp) ?_
                    · go_simp
                    intro v1 w1 ho hb hg hat
                    obtain ⟨A9', n9', c9', rfl⟩ := slc ho
                    refine hK.out _ _ ⟨A9', n9', c9', v107, (.slice A9' n9' c9'), m14_, (by rw [ha.out]; exact putSel_upk 12 hb_ rfl rfl rfl), hb, blk_grown GX.out hg (by simp), Kd.R_grown RV.out hg (fun _ _ => by simp), fun _ => Kd.R_grown RU.out hg (fun _ _ => by simp), fun _ _ => ho, fun h0_ => absurd ((hoff 13 (by kernel_rfl)).symm.trans h0_) (by decide), fun _ => rfl, fun h0_ => absurd ((hoff 14 (by kernel_rfl)).symm.trans h0_) (by decide)⟩
                  refine steps_cons ?_ ?_
                  · rintro b a w' ⟨A106, n106, c106, v107, m12_, m14_, ha, Q_HX, Q_GX, Q_RV, Q_RU, Q_R106, Q_R107, Q_X12_, Q_X14_⟩ hb_ hon hoff
                    refine ⟨_, rfl, fun K hK => ?_⟩
                    have e94 : a.tmps[94]? = some (.slice A9 n9 c9) := by rw [ha]; exact putSel_on (e := (0, 94, .slice A9 n9 c9)) 0 rfl rfl (hon 0 (by kernel_rfl)) rfl
                    have e106 : a.tmps[106]? = some (m12_) := by rw [ha]; exact putSel_on (e := (12, 106, m12_)) 12 rfl rfl (hon 12 (by kernel_rfl)) rfl
                    rw [Q_X12_ (hon 12 (by kernel_rfl))] at e106
                    replace ha := Aside0.mk ha
                    have HX := Aside0.mk Q_HX
                    have GX := Aside0.mk Q_GX
                    have RV := Aside0.mk Q_RV
                    have RU := Aside0.mk (Q_RU hb_)
                    have R106 := Aside0.mk (Q_R106 (hon 12 (by kernel_rfl)) hb_)
                    refine Kd.R_append_rows_step Kd.string (w0 := w) w.heap.size (by rfl) (.tmp 94) (.tmp 106) 22 9 (.string ⟨#[]⟩) 16 rfl Tryd.underlying22 info9 rfl (by decide) (by omega) (.slice A9 n9 c9) (L2 ++ fetchL aw am O k) [ln] A106 n106 c106 (fun _ => True) (fun _ => False) (eval_of e94) (eval_of e106) RU.out (row_C R106.out) (fun _ _ h => h) (fun _ h => h.elim) (fun _ _ => trivial) HX.out HX.out.size (by have := HLl.out; have h1_ := (Kd.R_reads' R106.out).1; rw [List.length_singleton] at h1_; omega) ?_
                    intro v1 w1 ho hb hg hat
                    rw [HFe.out] at ho
                    refine hK.out _ _ ⟨A106, n106, c106, v1, m12_, m14_, (by rw [ha.out]; exact putSel_upk 13 hb_ rfl rfl rfl), hb, blk_grown GX.out hg (row_ne RU.out GX.out (by decide)), Kd.R_over RV.out RU.out (by decide) hg, fun h0_ => absurd ((up_self b 13).symm.trans h0_) (by decide), fun _ h1_ => absurd ((up_self b 13).symm.trans h1_) (by decide), fun _ => ho, Q_X12_, fun h0_ => absurd ((hoff 14 (by kernel_rfl)).symm.trans h0_) (by decide)⟩
                  refine steps_cons ?_ ?_
                  · rintro b a w' ⟨A106, n106, c106, v107, m12_, m14_, ha, Q_HX, Q_GX, Q_RV, Q_RU, Q_R106, Q_R107, Q_X12_, Q_X14_⟩ hb_ hon hoff
                    refine ⟨_, rfl, fun K hK => ?_⟩
                    have e107 : a.tmps[107]? = some (v107) := by rw [ha]; exact putSel_on (e := (13, 107, v107)) 13 rfl rfl (hon 13 (by kernel_rfl)) rfl
                    replace ha := Aside0.mk ha
                    refine value_ (w1 := w') (v := v107) (by rfl) rfl ?_ ?_
                    · go_simp
                      try first | rfl | assumption
                    refine hK.out _ _ ⟨A106, n106, c106, v107, m12_, (v107), (by rw [ha.out]; exact putSel_upk 14 hb_ rfl rfl rfl), Q_HX, Q_GX, Q_RV, fun h0_ => absurd ((hon 13 (by kernel_rfl)).symm.trans h0_) (by decide), fun _ h1_ => absurd ((hon 13 (by kernel_rfl)).symm.trans h1_) (by decide), Q_R107, Q_X12_, fun _ => rfl⟩
                  exact steps_nil
                rintro b a wz hall ⟨A106, n106, c106, v107, m12_, m14_, ha, Q_HX, Q_GX, Q_RV, Q_RU, Q_R106, Q_R107, Q_X12_, Q_X14_⟩
                clear GX HX RU RV
                have hb0_ := hall 0 (by kernel_rfl)
                have hb1_ := hall 1 (by kernel_rfl)
                have hb2_ := hall 2 (by kernel_rfl)
                have hb3_ := hall 3 (by kernel_rfl)
                have hb4_ := hall 4 (by kernel_rfl)
                have hb5_ := hall 5 (by kernel_rfl)
                have hb6_ := hall 6 (by kernel_rfl)
                have hb7_ := hall 7 (by kernel_rfl)
                have hb8_ := hall 8 (by kernel_rfl)
                have hb9_ := hall 9 (by kernel_rfl)
                have hb10_ := hall 10 (by kernel_rfl)
                have hb11_ := hall 11 (by kernel_rfl)
                have hb12_ := hall 12 (by kernel_rfl)
                have hb13_ := hall 13 (by kernel_rfl)
                have hb14_ := hall 14 (by kernel_rfl)
                subst ha
                obtain rfl := Q_X12_ hb12_
                obtain rfl := Q_X14_ hb14_
                simp only [putSel, hb0_, hb1_, hb2_, hb3_, hb4_, hb5_, hb6_, hb7_, hb8_, hb9_, hb10_, hb11_, hb12_, hb13_, hb14_, if_true, Act.put, List.setIfInBounds_toArray, List.set_cons_zero, List.set_cons_succ]
                have HX := Aside0.mk Q_HX
                clear Q_HX
                have GX := Aside0.mk Q_GX
                clear Q_GX
                have RV := Aside0.mk Q_RV
                clear Q_RV
                clear Q_RU
                clear Q_R106
                have R107 := Aside0.mk (Q_R107 hb13_)
                clear Q_R107
                clear hall hb0_ hb1_ hb2_ hb3_ hb4_ hb5_ hb6_ hb7_ hb8_ hb9_ hb10_ hb11_ hb12_ hb13_ hb14_
                go_wp2_with fail
                go_roundw
                case rel => exact ⟨k + 1, _, by omega, rfl, by go_num, RV, R107, GX, HX⟩
                case measure => first | (simp [intOf]; done) | (simp [intOf]; omega)
          · obtain rfl : k = O.length := by omega
            clear hlt hk
            rw [mixS_all] at RV
            obtain ⟨q1, q2, q3⟩ := Kd.R_reads' RV.out
            obtain ⟨u1, u2, u3⟩ := Kd.R_reads' RU.out
            have HQ : Aside0 (Kd.C k37 wr A7 O.length (O.map (updS am)) ∧ O.length = (O.map (updS am)).length ∧ O.length ≤ c7) := ⟨by have h := q3; rw [List.length_map] at h; exact h, q1, q2⟩
            have HU : Aside0 (n9 = (L2 ++ fetchL aw am O O.length).length ∧ n9 ≤ c9 ∧ Kd.C Kd.string wr A9 n9 (L2 ++ fetchL aw am O O.length)) := ⟨u1, u2, by rw [u1]; exact u3⟩
            clear q1 q2 q3 u1 u2 u3
            have hq2 : O.length ≤ c7 := HQ.out.2.2
            go_wp2_with (go_at_call 34; refine (clip_calls A7 O.length c7 wr hq2).mono ?_; rintro e w9 ⟨rfl, rfl⟩)
            go_ret2
            exact ⟨_, _, _, _, _, rfl, by unfold outS; rw [HFull.out]; exact HQ.out.2.1, by unfold outS; rw [HFull.out]; exact HQ.out.1, by unfold linesS; rw [HFull.out, HL1.out, HL2.out]; exact HU.out.1, HU.out.2.1, by unfold linesS; rw [HFull.out, HL1.out, HL2.out]; exact HU.out.2.2, HX.out⟩
end Go.Proofs.YtplfpbfmnogckaaDoor.TdT
