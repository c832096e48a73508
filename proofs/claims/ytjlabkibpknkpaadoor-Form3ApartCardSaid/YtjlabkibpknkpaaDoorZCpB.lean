-- Written by a program of this claim's session (wip/tool/prune.py): what is used of a longer text. Not trusted: Lean checks it.
import Derived.Test.YtjlabkibpknkpaaDoorZBxA
namespace Go.Proofs.YtjlabkibpknkpaaDoor.CpB
open Go.RowKit Go.Proofs.YtjlabkibpknkpaaDoorW.PrintWords Go.Proofs.YtjlabkibpknkpaaDoorW.PrintLast Go.Proofs.YtjlabkibpknkpaaDoorW.PrintMore Go.Proofs.YtjlabkibpknkpaaDoor.FmM Go.Proofs.YtjlabkibpknkpaaDoor.PkP Go.Proofs.YtjlabkibpknkpaaDoor.FmN Go.Proofs.YtjlabkibpknkpaaDoor.FmC Go.Proofs.YtjlabkibpknkpaaDoor.BxA
set_option linter.unusedVariables false
set_option linter.unusedSimpArgs false
theorem info_str : (Tryd.prog.info? 9).map (fun i => (i.zero, i.size, i.bytes)) = some (some (.string ⟨#[]⟩), 1, 16) := by kernel_rfl
theorem info_int : (Tryd.prog.info? 3).map (fun i => (i.zero, i.size, i.bytes)) = some (some (.int .i64 0), 1, 8) := by kernel_rfl
theorem info_msgs : (Tryd.prog.info? 31).map (fun i => (i.zero, i.size, i.bytes)) = some (some (.agg #[.int .i64 0, .int .i64 0, .int .i64 0, .string ⟨#[]⟩, .int .i64 0, .slice none 0 0, .string ⟨#[]⟩]), 7, 88) := by kernel_rfl
theorem slc {α : Type} {d : Kd α} {e base : Nat} {ok : Nat → Prop} {w : World} {v : Value} {xs : List α} (h : d.R e w base ok v xs) : ∃ A n c, v = .slice A n c := by
  obtain ⟨A, c, e⟩ := Kd.R_slice h
  exact ⟨A, _, c, e⟩
theorem row_ne {α : Type} {d : Kd α} {e base : Nat} {ok : Nat → Prop} {w : World} {v : Value} {xs : List α} {g : Nat} {t : TypeId} {cells : Array Value} (h : d.R e w base ok v xs) (hb : w.heap[g]? = some (.cells cells t (0, 0))) (hne : e ≠ t) : some g ≠ v.ownBlock := by
  intro he
  obtain ⟨_, inner, ho, _⟩ := h
  obtain ⟨cs, hc⟩ := own_typed ho g he.symm
  rw [hb] at hc
  simp at hc
  exact hne hc.2.symm
theorem sets7 {w : World} {g : Nat} {t : TypeId} {c0 c1 c2 c3 c4 c5 c6 : Value} (h : w.heap[g]? = some (.cells #[c0, c1, c2, c3, c4, c5, c6] t (0, 0))) (v0 v1 v2 v3 v4 v5 v6 : Value) :
    ∃ w8, ((((((w.setCell ⟨g, 0, none⟩ v0).setCell ⟨g, 1, none⟩ v1).setCell ⟨g, 2, none⟩ v2).setCell ⟨g, 3, none⟩ v3).setCell ⟨g, 4, none⟩ v4).setCell ⟨g, 5, none⟩ v5).setCell ⟨g, 6, none⟩ v6 = w8 ∧ w8.heap[g]? = some (.cells #[v0, v1, v2, v3, v4, v5, v6] t (0, 0)) ∧ Only g w w8 := by
  have h0 := blk_put (cs' := #[v0, c1, c2, c3, c4, c5, c6]) h 0 v0 rfl
  have h1 := blk_put (cs' := #[v0, v1, c2, c3, c4, c5, c6]) h0 1 v1 rfl
  have h2 := blk_put (cs' := #[v0, v1, v2, c3, c4, c5, c6]) h1 2 v2 rfl
  have h3 := blk_put (cs' := #[v0, v1, v2, v3, c4, c5, c6]) h2 3 v3 rfl
  have h4 := blk_put (cs' := #[v0, v1, v2, v3, v4, c5, c6]) h3 4 v4 rfl
  have h5 := blk_put (cs' := #[v0, v1, v2, v3, v4, v5, c6]) h4 5 v5 rfl
  have h6 := blk_put (cs' := #[v0, v1, v2, v3, v4, v5, v6]) h5 6 v6 rfl
  have o0 := (Only.refl g w).put 0 v0
  have o1 := o0.put 1 v1
  have o2 := o1.put 2 v2
  have o3 := o2.put 3 v3
  have o4 := o3.put 4 v4
  have o5 := o4.put 5 v5
  exact ⟨_, rfl, h6, o5.put 6 v6⟩
theorem R_only {α : Type} {d : Kd α} {e base : Nat} {ok : Nat → Prop} {w w1 : World} {v : Value} {xs : List α} {g : Nat} {t : TypeId} {cells : Array Value} (h : d.R e w base ok v xs) (hb : w.heap[g]? = some (.cells cells t (0, 0))) (ht : ∀ q, q ∈ e :: d.E → q ≠ t) (o : Only g w w1) : d.R e w1 base ok v xs :=
  Kd.R_mono (Kd.R_step (Kd.R_types h hb ht) (fun k hk _ => o.keep k hk.2)) (fun _ hk => hk.1)
theorem R_after {α : Type} {d : Kd α} {e base : Nat} {ok : Nat → Prop} {w : World} {v : Value} {xs : List α} (h : d.R e w base ok v xs) : d.R e w base (fun k => ok k ∧ base ≤ k) v xs := Kd.R_mono (Kd.R_bound h) (fun k hk => ⟨hk.1, hk.2.1⟩)
set_option maxRecDepth 100000 in
set_option maxHeartbeats 4000000 in
theorem copyBox_calls (a0 : ByteArray) (a1 a2 a3 : Int) (aA4 : Option Addr) (ac4 : Nat) (aw : List ByteArray) (aA5 : Option Addr) (ac5 : Nat) (am : List S31) (w : World) (hC4 : Kd.C Kd.string w aA4 aw.length aw) (hc4 : aw.length ≤ ac4) (hC5 : Kd.C k31 w aA5 am.length am) (hc5 : am.length ≤ ac5) (hl4 : aw.length ≤ 1000000) (hl5 : am.length ≤ 1000000) (hw : ∀ m ∈ am, m.f5.length ≤ 1000000) :
    Calls Tryd.prog 21 #[.agg #[.string a0, .int .i64 a1, .int .i64 a2, .int .i64 a3, .slice aA4 aw.length ac4, .slice aA5 am.length ac5]] w fun e w' => ∃ v4 v5, e = .returned (.agg #[.string a0, .int .i64 a1, .int .i64 a2, .int .i64 a3, v4, v5]) ∧ Kd.R Kd.string 9 w' w.heap.size (fun _ => True) v4 aw ∧ Kd.R k31 31 w' w.heap.size (fun _ => True) v5 am ∧ Below w.heap.size w w' := by
  have hu26 := Tryd.underlying26
  have hu31 := Tryd.underlying31
  have HC4 := Aside0.mk hC4
  have HC5 := Aside0.mk hC5
  have HWL := Aside0.mk hw
  have HL4 := Aside0.mk hl4
  have hn9 : (am.length : Int) ≤ 1000000 := by omega
  clear hC4 hC5 hw hc4 hc5 hl4 hl5
  go_enter Tryd.func21, Tryd.ntmps21
  have M0_0 := Aside0.mk (Below.refl w.heap.size w)
  go_wp2_with (first
    | ((with_reducible refine gate_dst (N := 1) rfl ?_); refine box_event ?hgA1 (N := 1) ?hdA1 (cs := #[.string a0, .int .i64 a1, .int .i64 a2, .int .i64 a3, .slice aA4 aw.length ac4, .slice aA5 am.length ac5]) (t := 26) ?hrA1 ?_; (case hdA1 => rfl); (case hgA1 => rfl); (case hrA1 => first | (go_simp; done) | (go_simp; rfl)); intro g_A hg_ w_1 hbx_ hb_; have L0_A := Aside0.mk (show w.heap.size ≤ g_A by have := M0_0.out.size; omega); have M0_1 := Aside0.mk (M0_0.out.trans (hb_.mono M0_0.out.size)); have A_1 := Aside0.mk hbx_; clear hg_ hbx_ hb_ M0_0; have zA0 := blk_cell A_1.out 0; have yA0 := blk_frozen A_1.out 0; have zA1 := blk_cell A_1.out 1; have yA1 := blk_frozen A_1.out 1; have zA2 := blk_cell A_1.out 2; have yA2 := blk_frozen A_1.out 2; have zA3 := blk_cell A_1.out 3; have yA3 := blk_frozen A_1.out 3; have zA4 := blk_cell A_1.out 4; have yA4 := blk_frozen A_1.out 4; have zA5 := blk_cell A_1.out 5; have yA5 := blk_frozen A_1.out 5; skip)
    | ((with_reducible refine gate_dst (N := 2) rfl ?_); refine box_event ?hgT2 (N := 2) ?hdT2 (cs := #[.string (⟨#[]⟩ : ByteArray), .int .i64 0, .int .i64 0, .int .i64 0, .slice none 0 0, .slice none 0 0]) (t := 26) ?hrT2 ?_; (case hdT2 => rfl); (case hgT2 => rfl); (case hrT2 => first | (go_simp; done) | (go_simp; rfl)); intro g_T hg_ w_2 hbx_ hb_; have L0_T := Aside0.mk (show w.heap.size ≤ g_T by have := M0_1.out.size; omega); have N_A_T := Aside0.mk (show g_A ≠ g_T by have := blk_lt A_1.out; omega); have M0_2 := Aside0.mk (M0_1.out.trans (hb_.mono M0_1.out.size)); have A_2 := Aside0.mk (blk_below A_1.out hb_); have T_2 := Aside0.mk hbx_; clear hg_ hbx_ hb_ M0_1 A_1 zA0 yA0 zA1 yA1 zA2 yA2 zA3 yA3 zA4 yA4 zA5 yA5; have zA0 := blk_cell A_2.out 0; have yA0 := blk_frozen A_2.out 0; have zA1 := blk_cell A_2.out 1; have yA1 := blk_frozen A_2.out 1; have zA2 := blk_cell A_2.out 2; have yA2 := blk_frozen A_2.out 2; have zA3 := blk_cell A_2.out 3; have yA3 := blk_frozen A_2.out 3; have zA4 := blk_cell A_2.out 4; have yA4 := blk_frozen A_2.out 4; have zA5 := blk_cell A_2.out 5; have yA5 := blk_frozen A_2.out 5; skip)
    | ((with_reducible refine gate_dst (N := 8) rfl ?_); at_builtin; refine Kd.R_append_rows Kd.string (w0 := w_2) (w_2).heap.size rfl (.const (.slice none 0 0)) (.tmp 7) 23 9 (.string ⟨#[]⟩) 16 rfl Tryd.underlying23 info_str rfl (by decide) (by omega) (.slice none 0 0) [] aw aA4 aw.length ac4 (fun _ => True) (fun _ => False) rfl rfl (Kd.R_nil _ _ _ _ _) (Kd.C_below HC4.out M0_2.out) (fun _ _ h => h) (fun _ h => h.elim) (fun _ _ => trivial) (Below.refl _ _) (Nat.le_refl _) (by have := HL4.out; simp only [List.length_nil]; omega) ?_; intro v8 w_3 ho hb hg hat; clear hg hat; obtain ⟨A8, n8, c8, rfl⟩ := slc ho; have M0_3 := Aside0.mk (M0_2.out.trans (hb.mono M0_2.out.size)); have A_3 := Aside0.mk (blk_below A_2.out hb); have T_3 := Aside0.mk (blk_below T_2.out hb); have SZ8 := Aside0.mk (M0_2.out.size); have R8_3 := Aside0.mk ho; clear hb ho M0_2 A_2 T_2 zA0 yA0 zA1 yA1 zA2 yA2 zA3 yA3 zA4 yA4 zA5 yA5; have zA0 := blk_cell A_3.out 0; have yA0 := blk_frozen A_3.out 0; have zA1 := blk_cell A_3.out 1; have yA1 := blk_frozen A_3.out 1; have zA2 := blk_cell A_3.out 2; have yA2 := blk_frozen A_3.out 2; have zA3 := blk_cell A_3.out 3; have yA3 := blk_frozen A_3.out 3; have zA4 := blk_cell A_3.out 4; have yA4 := blk_frozen A_3.out 4; have zA5 := blk_cell A_3.out 5; have yA5 := blk_frozen A_3.out 5; skip)
    | ((with_reducible refine gate_dst (N := 10) rfl ?_); clear zA0 yA0 zA1 yA1 zA2 yA2 zA3 yA3 zA4 yA4 zA5 yA5; obtain ⟨w_4, e_4, Be_, Oe_⟩ := sets1 A_3.out 4 (.slice A8 n8 c8) rfl; rw [e_4]; clear e_4; have M0_4 := Aside0.mk (Oe_.below M0_3.out L0_A.out); have A_4 := Aside0.mk Be_; have T_4 := Aside0.mk ((Oe_.keep g_T (Ne.symm N_A_T.out)).trans T_3.out); have R8_4 := Aside0.mk (R_only R8_3.out A_3.out (by decide) Oe_); clear Be_ Oe_ M0_3 A_3 T_3 R8_3; have zA0 := blk_cell A_4.out 0; have yA0 := blk_frozen A_4.out 0; have zA1 := blk_cell A_4.out 1; have yA1 := blk_frozen A_4.out 1; have zA2 := blk_cell A_4.out 2; have yA2 := blk_frozen A_4.out 2; have zA3 := blk_cell A_4.out 3; have yA3 := blk_frozen A_4.out 3; have zA4 := blk_cell A_4.out 4; have yA4 := blk_frozen A_4.out 4; have zA5 := blk_cell A_4.out 5; have yA5 := blk_frozen A_4.out 5; skip)
    | ((with_reducible refine gate_dst (N := 14) rfl ?_); clear zA0 yA0 zA1 yA1 zA2 yA2 zA3 yA3 zA4 yA4 zA5 yA5; obtain ⟨w_5, e_5, Be_, Oe_⟩ := sets1 A_4.out 5 (.slice none 0 0) rfl; rw [e_5]; clear e_5; have M0_5 := Aside0.mk (Oe_.below M0_4.out L0_A.out); have A_5 := Aside0.mk Be_; have T_5 := Aside0.mk ((Oe_.keep g_T (Ne.symm N_A_T.out)).trans T_4.out); have R8_5 := Aside0.mk (R_only R8_4.out A_4.out (by decide) Oe_); clear Be_ Oe_ M0_4 A_4 T_4 R8_4; have zA0 := blk_cell A_5.out 0; have yA0 := blk_frozen A_5.out 0; have zA1 := blk_cell A_5.out 1; have yA1 := blk_frozen A_5.out 1; have zA2 := blk_cell A_5.out 2; have yA2 := blk_frozen A_5.out 2; have zA3 := blk_cell A_5.out 3; have yA3 := blk_frozen A_5.out 3; have zA4 := blk_cell A_5.out 4; have yA4 := blk_frozen A_5.out 4; have zA5 := blk_cell A_5.out 5; have yA5 := blk_frozen A_5.out 5; skip))
  have RA := Aside0.mk R8_5.out
  have BA := Aside0.mk A_5.out
  have BT := Aside0.mk T_5.out
  have GT := N_A_T
  have HB0 := Aside0.mk M0_5.out
  have GA := L0_A
  have GTT := L0_T
  clear M0_5 R8_5 A_5 T_5 N_A_T L0_A L0_T zA0 zA1 zA2 zA3 zA4 zA5 yA0 yA1 yA2 yA3 yA4 yA5
  rw [List.nil_append] at RA
  go_loopw [15] (fun i wr => ∃ (k : Nat) (A9 : Option Addr) (n9 c9 : Nat), k ≤ am.length ∧ i = .int .i64 k ∧ Aside0 (wr.heap[g_A]? = some (.cells #[.string a0, .int .i64 a1, .int .i64 a2, .int .i64 a3, .slice A8 n8 c8, .slice A9 n9 c9] 26 (0, 0))) ∧ Aside0 (wr.heap[g_T]? = some (.cells #[.string (⟨#[]⟩ : ByteArray), .int .i64 0, .int .i64 0, .int .i64 0, .slice none 0 0, .slice none 0 0] 26 (0, 0))) ∧ Aside0 (Kd.R Kd.string 9 wr w.heap.size (fun _ => True) (.slice A8 n8 c8) aw) ∧ Aside0 (Kd.R k31 31 wr w.heap.size (fun _ => True) (.slice A9 n9 c9) (am.take k)) ∧ Aside0 (Below w.heap.size w wr)) (fun i _ => am.length - (intOf i).toNat)
  case atStart => exact ⟨0, none, 0, 0, Nat.zero_le _, rfl, BA, BT, ⟨Kd.R_lower RA.out SZ8.out⟩, ⟨Kd.R_nil _ _ _ _ _⟩, HB0⟩
  case round =>
    obtain ⟨k, A9, n9, c9, hk, rfl, A_0, T_0, HR4, HR5, HB⟩ := hrel
    by_cases hlt : k < am.length
    · obtain ⟨ad, A6, c6, e1, hx0, hx1, hx2, hx3, hx4, hx5, hx6, hc6, hC6⟩ := at_T31 (Kd.C_below HC5.out HB.out) (k : Int) (by omega) (by omega)
      cases e1
      rw [Int.toNat_natCast] at hx0 hx1 hx2 hx3 hx4 hx5 hx6
      rw [rdm_nat am hlt] at hx0 hx1 hx2 hx3 hx4 hx5 hx6 hc6 hC6
      have HT := Aside0.mk (List.take_succ_eq_append_getElem hlt)
      have HWm := Aside0.mk (HWL.out _ (List.getElem_mem hlt))
      generalize am[k] = m at *
      have HC6 := Aside0.mk hC6
      clear hC6 hc6
      have M0_0 := Aside0.mk (Below.refl wr.heap.size wr)
      go_wp2_with (first
        | ((with_reducible refine gate_dst (N := 5) rfl ?_); refine box_event ?hgM5 (N := 5) ?hdM5 (cs := #[.int .i64 0, .int .i64 0, .int .i64 0, .string (⟨#[]⟩ : ByteArray), .int .i64 0, .slice none 0 0, .string (⟨#[]⟩ : ByteArray)]) (t := 31) ?hrM5 ?_; (case hdM5 => rfl); (case hgM5 => rfl); (case hrM5 => first | (go_simp; done) | (go_simp; rfl)); intro g_M hg_ w_1 hbx_ hb_; have L0_M := Aside0.mk (show wr.heap.size ≤ g_M by have := M0_0.out.size; omega); have N_A_M := Aside0.mk (show g_A ≠ g_M by have := blk_lt A_0.out; omega); have N_T_M := Aside0.mk (show g_T ≠ g_M by have := blk_lt T_0.out; omega); have M0_1 := Aside0.mk (M0_0.out.trans (hb_.mono M0_0.out.size)); have A_1 := Aside0.mk (blk_below A_0.out hb_); have T_1 := Aside0.mk (blk_below T_0.out hb_); have M_1 := Aside0.mk hbx_; clear hg_ hbx_ hb_ M0_0 A_0 T_0; have zA0 := blk_cell A_1.out 0; have yA0 := blk_frozen A_1.out 0; have zA1 := blk_cell A_1.out 1; have yA1 := blk_frozen A_1.out 1; have zA2 := blk_cell A_1.out 2; have yA2 := blk_frozen A_1.out 2; have zA3 := blk_cell A_1.out 3; have yA3 := blk_frozen A_1.out 3; have zA4 := blk_cell A_1.out 4; have yA4 := blk_frozen A_1.out 4; have zA5 := blk_cell A_1.out 5; have yA5 := blk_frozen A_1.out 5; have zM0 := blk_cell M_1.out 0; have yM0 := blk_frozen M_1.out 0; have zM1 := blk_cell M_1.out 1; have yM1 := blk_frozen M_1.out 1; have zM2 := blk_cell M_1.out 2; have yM2 := blk_frozen M_1.out 2; have zM3 := blk_cell M_1.out 3; have yM3 := blk_frozen M_1.out 3; have zM4 := blk_cell M_1.out 4; have yM4 := blk_frozen M_1.out 4; have zM5 := blk_cell M_1.out 5; have yM5 := blk_frozen M_1.out 5; have zM6 := blk_cell M_1.out 6; have yM6 := blk_frozen M_1.out 6; skip)
        | ((with_reducible refine gate_dst (N := 19) rfl ?_); clear zA0 yA0 zA1 yA1 zA2 yA2 zA3 yA3 zA4 yA4 zA5 yA5 zM0 yM0 zM1 yM1 zM2 yM2 zM3 yM3 zM4 yM4 zM5 yM5 zM6 yM6; obtain ⟨w_2, e_2, Be_, Oe_⟩ := sets7 M_1.out (.int .i64 m.f0) (.int .i64 m.f1) (.int .i64 m.f2) (.string m.f3) (.int .i64 m.f4) (.slice A6 m.f5.length c6) (.string m.f6); rw [e_2]; clear e_2; have M0_2 := Aside0.mk (Oe_.below M0_1.out L0_M.out); have A_2 := Aside0.mk ((Oe_.keep g_A N_A_M.out).trans A_1.out); have T_2 := Aside0.mk ((Oe_.keep g_T N_T_M.out).trans T_1.out); have M_2 := Aside0.mk Be_; clear Be_ Oe_ M0_1 A_1 T_1 M_1; have zA0 := blk_cell A_2.out 0; have yA0 := blk_frozen A_2.out 0; have zA1 := blk_cell A_2.out 1; have yA1 := blk_frozen A_2.out 1; have zA2 := blk_cell A_2.out 2; have yA2 := blk_frozen A_2.out 2; have zA3 := blk_cell A_2.out 3; have yA3 := blk_frozen A_2.out 3; have zA4 := blk_cell A_2.out 4; have yA4 := blk_frozen A_2.out 4; have zA5 := blk_cell A_2.out 5; have yA5 := blk_frozen A_2.out 5; have zM0 := blk_cell M_2.out 0; have yM0 := blk_frozen M_2.out 0; have zM1 := blk_cell M_2.out 1; have yM1 := blk_frozen M_2.out 1; have zM2 := blk_cell M_2.out 2; have yM2 := blk_frozen M_2.out 2; have zM3 := blk_cell M_2.out 3; have yM3 := blk_frozen M_2.out 3; have zM4 := blk_cell M_2.out 4; have yM4 := blk_frozen M_2.out 4; have zM5 := blk_cell M_2.out 5; have yM5 := blk_frozen M_2.out 5; have zM6 := blk_cell M_2.out 6; have yM6 := blk_frozen M_2.out 6; skip)
        | ((with_reducible refine gate_dst (N := 21) rfl ?_); at_builtin; refine Kd.R_append_rows (Kd.int .i64) (w0 := w_2) (w_2).heap.size rfl (.const (.slice none 0 0)) (.tmp 20) 29 3 (.int .i64 0) 8 rfl Tryd.underlying29 info_int rfl (by decide) (by omega) (.slice none 0 0) [] m.f5 A6 m.f5.length c6 (fun _ => True) (fun _ => False) rfl rfl (Kd.R_nil _ _ _ _ _) (Kd.C_below HC6.out M0_2.out) (fun _ _ h => h) (fun _ h => h.elim) (fun _ _ => trivial) (Below.refl _ _) (Nat.le_refl _) (by have := HWm.out; simp only [List.length_nil]; omega) ?_; intro v21 w_3 ho hb hg hat; clear hg hat; rw [List.nil_append] at ho; obtain ⟨A7, n7, c7, rfl⟩ := slc ho; have M0_3 := Aside0.mk (M0_2.out.trans (hb.mono M0_2.out.size)); have A_3 := Aside0.mk (blk_below A_2.out hb); have T_3 := Aside0.mk (blk_below T_2.out hb); have M_3 := Aside0.mk (blk_below M_2.out hb); have SZ := Aside0.mk (M0_2.out.size); have RK_3 := Aside0.mk ho; clear hb ho M0_2 A_2 T_2 M_2 zA0 yA0 zA1 yA1 zA2 yA2 zA3 yA3 zA4 yA4 zA5 yA5 zM0 yM0 zM1 yM1 zM2 yM2 zM3 yM3 zM4 yM4 zM5 yM5 zM6 yM6; have zA0 := blk_cell A_3.out 0; have yA0 := blk_frozen A_3.out 0; have zA1 := blk_cell A_3.out 1; have yA1 := blk_frozen A_3.out 1; have zA2 := blk_cell A_3.out 2; have yA2 := blk_frozen A_3.out 2; have zA3 := blk_cell A_3.out 3; have yA3 := blk_frozen A_3.out 3; have zA4 := blk_cell A_3.out 4; have yA4 := blk_frozen A_3.out 4; have zA5 := blk_cell A_3.out 5; have yA5 := blk_frozen A_3.out 5; have zM0 := blk_cell M_3.out 0; have yM0 := blk_frozen M_3.out 0; have zM1 := blk_cell M_3.out 1; have yM1 := blk_frozen M_3.out 1; have zM2 := blk_cell M_3.out 2; have yM2 := blk_frozen M_3.out 2; have zM3 := blk_cell M_3.out 3; have yM3 := blk_frozen M_3.out 3; have zM4 := blk_cell M_3.out 4; have yM4 := blk_frozen M_3.out 4; have zM5 := blk_cell M_3.out 5; have yM5 := blk_frozen M_3.out 5; have zM6 := blk_cell M_3.out 6; have yM6 := blk_frozen M_3.out 6; skip)
        | ((with_reducible refine gate_dst (N := 23) rfl ?_); clear zA0 yA0 zA1 yA1 zA2 yA2 zA3 yA3 zA4 yA4 zA5 yA5 zM0 yM0 zM1 yM1 zM2 yM2 zM3 yM3 zM4 yM4 zM5 yM5 zM6 yM6; obtain ⟨w_4, e_4, Be_, Oe_⟩ := sets1 M_3.out 5 (.slice A7 n7 c7) rfl; rw [e_4]; clear e_4; have M0_4 := Aside0.mk (Oe_.below M0_3.out L0_M.out); have A_4 := Aside0.mk ((Oe_.keep g_A N_A_M.out).trans A_3.out); have T_4 := Aside0.mk ((Oe_.keep g_T N_T_M.out).trans T_3.out); have M_4 := Aside0.mk Be_; have RK_4 := Aside0.mk (R_only RK_3.out M_3.out (by decide) Oe_); clear Be_ Oe_ M0_3 A_3 T_3 M_3 RK_3; have zA0 := blk_cell A_4.out 0; have yA0 := blk_frozen A_4.out 0; have zA1 := blk_cell A_4.out 1; have yA1 := blk_frozen A_4.out 1; have zA2 := blk_cell A_4.out 2; have yA2 := blk_frozen A_4.out 2; have zA3 := blk_cell A_4.out 3; have yA3 := blk_frozen A_4.out 3; have zA4 := blk_cell A_4.out 4; have yA4 := blk_frozen A_4.out 4; have zA5 := blk_cell A_4.out 5; have yA5 := blk_frozen A_4.out 5; have zM0 := blk_cell M_4.out 0; have yM0 := blk_frozen M_4.out 0; have zM1 := blk_cell M_4.out 1; have yM1 := blk_frozen M_4.out 1; have zM2 := blk_cell M_4.out 2; have yM2 := blk_frozen M_4.out 2; have zM3 := blk_cell M_4.out 3; have yM3 := blk_frozen M_4.out 3; have zM4 := blk_cell M_4.out 4; have yM4 := blk_frozen M_4.out 4; have zM5 := blk_cell M_4.out 5; have yM5 := blk_frozen M_4.out 5; have zM6 := blk_cell M_4.out 6; have yM6 := blk_frozen M_4.out 6; skip)
        | ((with_reducible refine gate_builtin (b := .append) (xs := #[.tmp 24, .tmp 26]) rfl ?_); at_builtin; refine Kd.R_append k31 (w0 := w) w.heap.size rfl (.tmp 24) (.tmp 26) 24 31 (.agg #[.int .i64 0, .int .i64 0, .int .i64 0, .string ⟨#[]⟩, .int .i64 0, .slice none 0 0, .string ⟨#[]⟩]) 88 rfl Tryd.underlying24 info_msgs rfl (by decide) (by omega) (.slice A9 n9 c9) (am.take k) m [.int .i64 m.f0, .int .i64 m.f1, .int .i64 m.f2, .string m.f3, .int .i64 m.f4, .slice A7 n7 c7, .string m.f6] (fun _ => True) (fun k => wr.heap.size ≤ k) rfl rfl ?aP ?aK ?aF ?aO ?aB ?aS ?aL ?_; (case aP => exact k31_mkM _ _ _ m (Kd.R_lower (Kd.R_mono (R_after RK_4.out) (fun k hk => Nat.le_trans SZ.out hk.2)) (Nat.le_trans HB.out.size SZ.out))); (case aK => intro k hk; exact ⟨trivial, fun e => by have := Kd.R_lt HR5.out k e.symm; omega⟩); (case aF => exact (fun _ _ => trivial)); (case aO => exact (Kd.R_below HR5.out M0_4.out)); (case aB => exact HB.out.trans (M0_4.out.mono HB.out.size)); (case aS => exact Nat.le_trans HB.out.size M0_4.out.size); (case aL => rw [List.length_take]; omega); intro v2 wq ho hb hg hat; rw [← HT.out] at ho; obtain ⟨A10, n10, c10, rfl⟩ := slc ho; have A_9 := Aside0.mk (blk_grown A_4.out hg (row_ne (Kd.R_below HR5.out M0_4.out) A_4.out (by decide))); have T_9 := Aside0.mk (blk_grown T_4.out hg (row_ne (Kd.R_below HR5.out M0_4.out) T_4.out (by decide))); have R4_9 : Aside0 (Kd.R Kd.string 9 wq w.heap.size (fun _ => True) (.slice A8 n8 c8) aw) := ⟨Kd.R_over (Kd.R_below HR4.out M0_4.out) (Kd.R_below HR5.out M0_4.out) (by decide) hg⟩; have HB9 := Aside0.mk hb; have HR9 := Aside0.mk ho; clear ho hb hg hat zA0 yA0 zA1 yA1 zA2 yA2 zA3 yA3 zA4 yA4 zA5 yA5 zM0 yM0 zM1 yM1 zM2 yM2 zM3 yM3 zM4 yM4 zM5 yM5 zM6 yM6; have hf5 := blk_frozen A_9.out 5; have hz5 := blk_cell A_9.out 5; skip))
      obtain ⟨wz, ez, Bz, Oz⟩ := sets1 A_9.out 5 (.slice A10 n10 c10) rfl
      rw [ez]
      have HBz := Aside0.mk (Oz.below HB9.out GA.out)
      have A_10 := Aside0.mk Bz
      have T_10 := Aside0.mk ((Oz.keep g_T (Ne.symm GT.out)).trans T_9.out)
      have R4_10 := Aside0.mk (R_only R4_9.out A_9.out (by decide) Oz)
      have R5_10 := Aside0.mk (R_only HR9.out A_9.out (by decide) Oz)
      clear ez Bz Oz hf5 hz5
      go_wp2_with fail
      go_roundw
      case rel => exact ⟨k + 1, A10, n10, c10, by omega, by go_num, A_10, T_10, R4_10, R5_10, HBz⟩
      case measure => simp [intOf]; omega
    · have hke : k = am.length := by omega
      subst hke
      rw [List.take_of_length_le (Nat.le_refl _)] at HR5
      have hz0 := blk_cell A_0.out 0
      have hz1 := blk_cell A_0.out 1
      have hz2 := blk_cell A_0.out 2
      have hz3 := blk_cell A_0.out 3
      have hz4 := blk_cell A_0.out 4
      have hz5 := blk_cell A_0.out 5
      have tz0 := blk_cell T_0.out 0
      have tz1 := blk_cell T_0.out 1
      have tz2 := blk_cell T_0.out 2
      have tz3 := blk_cell T_0.out 3
      have tz4 := blk_cell T_0.out 4
      have tz5 := blk_cell T_0.out 5
      have tf0 := blk_frozen T_0.out 0
      have tf1 := blk_frozen T_0.out 1
      have tf2 := blk_frozen T_0.out 2
      have tf3 := blk_frozen T_0.out 3
      have tf4 := blk_frozen T_0.out 4
      have tf5 := blk_frozen T_0.out 5
      go_wp2_with fail
      obtain ⟨we, ee, Be, Oe⟩ := sets6 T_0.out (.string a0) (.int .i64 a1) (.int .i64 a2) (.int .i64 a3) (.slice A8 n8 c8) (.slice A9 n9 c9)
      rw [ee]
      refine bodyPost_ret (results_single rfl (.cell g_T _ _ _ _ rfl Be Tryd.underlying26 rfl info_box .nil)) rfl ⟨_, _, rfl, R_only HR4.out T_0.out (by decide) Oe, R_only HR5.out T_0.out (by decide) Oe, Oe.below HB.out GTT.out⟩
end Go.Proofs.YtjlabkibpknkpaaDoor.CpB
