-- Printed by prune.py: the used part of a text.
import Derived.Test.YtjljgcceapkdcaaZRkG
namespace Go.Proofs.Ytjljgcceapkdcaa.RkH
open Go.RowKit Go.Proofs.YtjljgcceapkdcaaW.PrintWords Go.Proofs.YtjljgcceapkdcaaW.PrintLast Go.Proofs.YtjljgcceapkdcaaW.PrintMore Go.Proofs.Ytjljgcceapkdcaa.RkM Go.Proofs.Ytjljgcceapkdcaa.RkA Go.Proofs.Ytjljgcceapkdcaa.RkB Go.Proofs.Ytjljgcceapkdcaa.RkC Go.Proofs.Ytjljgcceapkdcaa.RkD Go.Proofs.Ytjljgcceapkdcaa.RkE Go.Proofs.Ytjljgcceapkdcaa.RkF Go.Proofs.Ytjljgcceapkdcaa.RkG Go.Proofs.Ytjljgcceapkdcaa.Rw
set_option linter.unusedVariables false
set_option linter.unusedSimpArgs false
theorem slc {α : Type} {d : Kd α} {e base : Nat} {ok : Nat → Prop} {w : World} {v : Value} {xs : List α} (h : d.R e w base ok v xs) : ∃ A n c, v = .slice A n c := by
  obtain ⟨A, c, e⟩ := Kd.R_slice h
  exact ⟨A, _, c, e⟩
theorem skip_step {P : Program} {ops : Array Oper} {o : Oper} {a : Act} {Q : Exit → Act → World → Prop} {Kc : Act → World → Prop} {W w1 : World} (hw : Region.wanted o (yielded ops a.tmps) = true) (hrun : (execOp a.eval o).run P W = .ok .skip w1) (h : Kc (a.put o.dst undef) w1) :
    if Region.wanted o (yielded ops a.tmps) = true then Oper.wp P o a W Kc Q else Kc (a.put o.dst undef) W := by
  rw [if_pos hw]
  unfold Oper.wp
  rw [hrun]
  exact h
set_option maxRecDepth 100000 in
set_option maxHeartbeats 4000000 in
theorem goes_down (w0 : World) (g : Nat) (r : RS) (x : WR) (w : World) (h : RackAt w0 w g r) (hf : r.fuse = 0) :
    Calls Try.prog 54 #[.pointer (some ⟨g, 0, none⟩), .agg #[.string x.nm, .bool x.cut, .slice x.A x.d.size x.c]] w (GoesP w0 w g r x) := by
  have hu84 := Try.underlying84
  have H := Aside0.mk h
  have HFu := Aside0.mk hf
  clear h hf
  go_enter Try.func54, Try.ntmps54
  have M0_0 := Aside0.mk (Below.refl w.heap.size w)
  go_upto_region 1 with ((with_reducible refine gate_dst (N := 3) rfl ?_); refine box_event ?hgX3 (N := 3) ?hdX3 (cs := #[.string x.nm, .bool x.cut, .slice x.A x.d.size x.c]) (t := 84) ?hrX3 ?_; (case hdX3 => rfl); (case hgX3 => rfl); (case hrX3 => first | (go_simp; done) | (go_simp; rfl)); intro g_X hg_ w_1 hbx_ hb_; have L0_X := Aside0.mk (show w.heap.size ≤ g_X by have := M0_0.out.size; omega); have M0_1 := Aside0.mk (M0_0.out.trans (hb_.mono M0_0.out.size)); have X_1 := Aside0.mk hbx_; clear hg_ hbx_ hb_ M0_0; have zX0 := blk_cell X_1.out 0; have zX1 := blk_cell X_1.out 1; have zX2 := blk_cell X_1.out 2; skip)
  have H1 := Aside0.mk (H.out.below M0_1.out)
  have c4 := rack_c H1.out 4
  have c5 := rack_c H1.out 5
  have f5 := blk_frozen H1.out.blk 5
  unfold RS.cs at c4 c5
  rw [HFu.out] at c4
  have HP := Aside0.mk (show GoesP w0 w g r x (.returned (.int .i64 5)) (w_1.setCell ⟨g, 5, none⟩ (.bool true)) from .inl ⟨HFu.out, rfl, rack_put H1.out (r' := { r with down := true }) 5 (.bool true) rfl rfl rfl rfl rfl rfl rfl H1.out.rm H1.out.fs, (Kept.of_below M0_1.out _).then_ (kept_cell 5 _) (fun k hk => .inl (.inl hk))⟩)
  go_wp2_with fail
  go_ret
  exact HP.out
def t_rack_Rack_goes.T6 : Bool × List (List Nat × List Nat) := (true, [([], []), ([], []), ([1], [1]), ([2], [2]), ([3], [3]), ([], []), ([5], [5]), ([4, 6], [4, 6]), ([0, 0, 1, 2, 3, 4, 5, 6, 7], [0]), ([8, 0, 1, 2, 3, 4, 5, 6, 7], [8]), ([9, 7, 7, 0, 1, 2, 3, 4, 5, 6, 7], [7, 9])])
def t_rack_Rack_goes.B6 : List Nat := [0, 0, 2, 6, 14, 0, 32, 126, 255, 511, 1023]
theorem t_rack_Rack_goes.tab6 : rtab .any (opsOf Try.f54 6) = t_rack_Rack_goes.T6 := by kernel_rfl
theorem t_rack_Rack_goes.bits6 : waitsOk t_rack_Rack_goes.T6.2 t_rack_Rack_goes.B6 = true := by kernel_rfl
def t_rack_Rack_goes.T7 : Bool × List (List Nat × List Nat) := (true, [([], []), ([], []), ([1], [1]), ([2], [2]), ([3], [3]), ([0, 4], [0, 4])])
def t_rack_Rack_goes.B7 : List Nat := [0, 0, 2, 6, 14, 31]
theorem t_rack_Rack_goes.tab7 : rtab .any (opsOf Try.f54 7) = t_rack_Rack_goes.T7 := by kernel_rfl
theorem t_rack_Rack_goes.bits7 : waitsOk t_rack_Rack_goes.T7.2 t_rack_Rack_goes.B7 = true := by kernel_rfl
theorem fuseN_rng {n : Int} (h : -1 ≤ n ∧ n ≤ 9223372036854775807) : -1 ≤ fuseN n ∧ fuseN n ≤ 9223372036854775807 := by unfold fuseN; omega
set_option maxRecDepth 100000 in
set_option maxHeartbeats 8000000 in
theorem goes_ok (w0 : World) (g : Nat) (r : RS) (x : WR) (w : World) (h : RackAt w0 w g r) (hf : r.fuse ≠ 0) (hx : x.nm.size ≤ 100 ∧ DOk w (r.S g) x.A x.c x.d) (hn : r.ns.length ≤ 99999) (hl : r.ls.length ≤ 99999) (hw : 0 ≤ r.writes ∧ r.writes ≤ 4611686018427387904) :
    Calls Try.prog 54 #[.pointer (some ⟨g, 0, none⟩), .agg #[.string x.nm, .bool x.cut, .slice x.A x.d.size x.c]] w (GoesP w0 w g r x) := by
  have hu84 := Try.underlying84
  have hu78 := Try.underlying78
  have hfr := h.fs
  obtain ⟨fv, hfv⟩ : ∃ fv, fuseN r.fuse = fv := ⟨_, rfl⟩
  obtain ⟨room, bs, bn, ss, ns, lv, ls, fuse, down, writes⟩ := r
  simp only at hf hn hl hw hfr hfv
  obtain ⟨AL, nL, cL, rfl⟩ := slc h.row
  have H := Aside0.mk h
  have HXd := Aside0.mk hx
  have hf0 : (fuse == 0) = false := beq_eq_false_iff_ne.2 hf
  have HFv := Aside0.mk hfv
  have hNL := Aside0.mk (show ls.length ≤ 99999 ∧ ns.length ≤ 99999 from ⟨hl, hn⟩)
  clear h hx hn hl
  go_enter Try.func54, Try.ntmps54
  have M0_0 := Aside0.mk (Below.refl w.heap.size w)
  go_upto_region 1 with ((with_reducible refine gate_dst (N := 3) rfl ?_); refine box_event ?hgX3 (N := 3) ?hdX3 (cs := #[.string x.nm, .bool x.cut, .slice x.A x.d.size x.c]) (t := 84) ?hrX3 ?_; (case hdX3 => rfl); (case hgX3 => rfl); (case hrX3 => first | (go_simp; done) | (go_simp; rfl)); intro g_X hg_ w_1 hbx_ hb_; have L0_X := Aside0.mk (show w.heap.size ≤ g_X by have := M0_0.out.size; omega); have M0_1 := Aside0.mk (M0_0.out.trans (hb_.mono M0_0.out.size)); have X_1 := Aside0.mk hbx_; clear hg_ hbx_ hb_ M0_0; have zX0 := blk_cell X_1.out 0; have zX1 := blk_cell X_1.out 1; have zX2 := blk_cell X_1.out 2; skip)
  have H1 := Aside0.mk (H.out.below M0_1.out)
  have c4 := rack_c H1.out 4
  have f4 := blk_frozen H1.out.blk 4
  unfold RS.cs at c4
  simp only at c4
  clear zX0 zX1 zX2
  go_upto_region 5 with fail
  clear c4 f4
  have hgX : g_X ≠ g := by have := blk_lt H.out.blk; have := L0_X.out; omega
  rw [show max (fuse - 1) (-1) = fv from HFv.out]
  have HG2 := Aside0.mk (rack_put H1.out (r' := ⟨room, bs, bn, ss, ns, .slice AL nL cL, ls, fv, down, writes⟩) 4 (.int .i64 fv) rfl rfl rfl rfl rfl rfl rfl H1.out.rm (by rw [← HFv.out]; exact fuseN_rng hfr))
  have GX2 := Aside0.mk (blk_far X_1.out (p := ⟨g, 4, none⟩) hgX (.int .i64 fv))
  have HK2 := Aside0.mk ((Kept.of_below M0_1.out (fun k => k = g)).then_ (kept_cell (w := w_1) (g := g) 4 (.int .i64 fv)) (fun k hk => .inl hk))
  generalize w_1.setCell ⟨g, 4, none⟩ (.int .i64 fv) = w2 at *
  have c6 := rack_c HG2.out 6
  have f6 := blk_frozen HG2.out.blk 6
  unfold RS.cs at c6
  simp only at c6
  go_upto_region 6 with fail
  clear c6 f6
  have HG3 := Aside0.mk (rack_put HG2.out (r' := ⟨room, bs, bn, ss, ns, .slice AL nL cL, ls, fv, down, writes + 1⟩) 6 (.int .i64 (writes + 1)) rfl rfl rfl rfl rfl rfl rfl HG2.out.rm HG2.out.fs)
  have GX3 := Aside0.mk (blk_far GX2.out (p := ⟨g, 6, none⟩) hgX (.int .i64 (writes + 1)))
  have HK3 := Aside0.mk (HK2.out.then_ (kept_cell (w := w2) (g := g) 6 (.int .i64 (writes + 1))) (fun k hk => .inl hk))
  generalize w2.setCell ⟨g, 6, none⟩ (.int .i64 (writes + 1)) = w3 at *
  have hgl : some g ≠ (Value.slice AL nL cL).ownBlock := fun e => (HG3.out.lv_ne g e).1 rfl
  have HB : Aside0 (Below w3.heap.size w3 w3) := ⟨Below.refl _ _⟩
  have GG : Aside0 (w3.heap[g]? = some (.cells #[.int .i64 room, .map (some bs), .map (some bn), .slice AL nL cL, .int .i64 fv, .bool down, .int .i64 (writes + 1)] 78 (0, 0))) := ⟨HG3.out.blk⟩
  have GX := GX3
  have RL : Aside0 (Tg kW 84 w3 w0.heap.size (.slice AL nL cL) ls) := ⟨HG3.out.row⟩
  have hgx : some g_X ≠ (Value.slice AL nL cL).ownBlock := fun e => by
    have h1 := (H.out.lv_ne g_X e).2.2.2.1
    have h2 := L0_X.out
    omega
  have hglt : g < w3.heap.size := blk_lt HG3.out.blk
  refine start_ (n := 11) (S := fun w' => True) (ds := []) #[false, false, false, false, false, false, false, false, false, false, false] (by kernel_rfl) rfl rfl trivial (fun hHeld => ?_)
  refine with_tabW t_rack_Rack_goes.tab6 t_rack_Rack_goes.bits6 (fun HT_ HW_ => ?_)
  have hd_ := (below_drew1 (Below.refl w3.heap.size w3))
  have n_HB := Aside0.mk (HB.out.drew)
  have n_GG := Aside0.mk ((show w3.drew.heap[g]? = _ from GG.out))
  have n_GX := Aside0.mk ((show w3.drew.heap[g_X]? = _ from GX.out))
  have n_RL := Aside0.mk (RL.out.below (below_drew (Below.refl _ _)))
  clear HB
  have HB := n_HB
  clear n_HB
  clear GG
  have GG := n_GG
  clear n_GG
  clear GX
  have GX := n_GX
  clear n_GX
  clear RL
  have RL := n_RL
  clear n_RL
  generalize w3.drew = w_d at *
  clear hd_
  refine inv_at [0, 1, 2, 3, 4, 5, 6, 7, 8, 9, 10] (fun a0_ b a w' => ∃ (A35 : Option Addr) (n35 : Nat) (c35 : Nat) (A36 : Option Addr) (n36 : Nat) (c36 : Nat) (m6_ : Value) (m7_ : Value), a = putSel a0_ b [(0, 29, .pointer (some ⟨g, 0, none⟩)), (1, 30, .pointer (some ⟨g, 0, none⟩)), (2, 31, .pointer (some ⟨g, 0, none⟩)), (3, 32, .pointer (some ⟨g, 3, none⟩)), (4, 33, .slice AL nL cL), (5, 34, .agg #[.string x.nm, .bool x.cut, .slice x.A x.d.size x.c]), (6, 35, m6_), (7, 36, m7_), (8, 37, .pointer (some ⟨g, 0, none⟩)), (9, 38, .pointer (some ⟨g, 3, none⟩))] ∧ (b 7 = false → Below w3.heap.size w3 w') ∧ (b 10 = false → w'.heap[g]? = some (.cells #[.int .i64 room, .map (some bs), .map (some bn), .slice AL nL cL, .int .i64 fv, .bool down, .int .i64 (writes + 1)] 78 (0, 0))) ∧ (b 7 = false → w'.heap[g_X]? = some (.cells #[.string x.nm, .bool x.cut, .slice x.A x.d.size x.c] 84 (0, 0))) ∧ (b 7 = false → Tg kW 84 w' w0.heap.size (.slice AL nL cL) ls) ∧ (b 6 = true → b 7 = false → Tg kW 84 w' w0.heap.size (.slice A35 n35 c35) [x]) ∧ (b 7 = true → b 10 = false → Kept w3 w' (fun k => some k = (Value.slice AL nL cL).ownBlock) ∧ Below w0.heap.size w0 w' ∧ Tg kW 84 w' w0.heap.size (.slice A36 n36 c36) (ls ++ [x]) ∧ ((Value.slice A36 n36 c36).ownBlock = (Value.slice AL nL cL).ownBlock ∨ ∃ b_, (Value.slice A36 n36 c36).ownBlock = some b_ ∧ w3.heap.size ≤ b_) ∧ w'.heap[g_X]? = some (.cells #[.string x.nm, .bool x.cut, .slice x.A x.d.size x.c] 84 (0, 0))) ∧ (b 10 = true → Kept w3 w' (fun k => k = g ∨ some k = (Value.slice AL nL cL).ownBlock) ∧ Below w0.heap.size w0 w' ∧ Tg kW 84 w' w0.heap.size (.slice A36 n36 c36) (ls ++ [x]) ∧ ((Value.slice A36 n36 c36).ownBlock = (Value.slice AL nL cL).ownBlock ∨ ∃ b_, (Value.slice A36 n36 c36).ownBlock = some b_ ∧ w3.heap.size ≤ b_) ∧ w'.heap[g_X]? = some (.cells #[.string x.nm, .bool x.cut, .slice x.A x.d.size x.c] 84 (0, 0)) ∧ w'.heap[g]? = some (.cells #[.int .i64 room, .map (some bs), .map (some bn), (.slice A36 n36 c36), .int .i64 fv, .bool down, .int .i64 (writes + 1)] 78 (0, 0))) ∧ (b 6 = true → (m6_ : Value) = .slice A35 n35 c35) ∧ (b 7 = true → (m7_ : Value) = (.slice A36 n36 c36))) HT_.out HW_.out (by kernel_rfl) (by kernel_rfl) ?_ ?_ ?_
  · exact ⟨none, 0, 0, none, 0, 0, .bool false, .bool false, by simp only [putSel, Bool.false_eq_true, if_false], fun _ => HB.out, fun _ => GG.out, fun _ => GX.out, fun _ => RL.out, fun h_ => absurd h_ (by decide), fun h_ => absurd h_ (by decide), fun h_ => absurd h_ (by decide), fun h_ => absurd h_ (by decide), fun h_ => absurd h_ (by decide)⟩
  · skip
    clear GG GX HB RL
    refine steps_cons ?_ ?_
    · rintro b a w' ⟨A35, n35, c35, A36, n36, c36, m6_, m7_, ha, Q_HB, Q_GG, Q_GX, Q_RL, Q_R35, Q_HE, Q_HF, Q_X6_, Q_X7_⟩ hb_ hon hoff
      refine ⟨_, rfl, fun K hK => ?_⟩
      have e0 : a.tmps[0]? = some (.pointer (some ⟨g, 0, none⟩)) := by rw [ha]; exact (putSel_off rfl).trans rfl
      replace ha := Aside0.mk ha
      refine value_ (w1 := w') (v := .pointer (some ⟨g, 0, none⟩)) (by rfl) rfl ?_ ?_
      · go_simp
        try first | rfl | assumption
      refine hK.out _ _ ⟨A35, n35, c35, A36, n36, c36, m6_, m7_, (by rw [ha.out]; exact putSel_upk 0 hb_ rfl rfl rfl), Q_HB, Q_GG, Q_GX, Q_RL, Q_R35, Q_HE, fun h0_ => absurd ((hoff 10 (by kernel_rfl)).symm.trans h0_) (by decide), Q_X6_, Q_X7_⟩
    refine steps_cons ?_ ?_
    · rintro b a w' ⟨A35, n35, c35, A36, n36, c36, m6_, m7_, ha, Q_HB, Q_GG, Q_GX, Q_RL, Q_R35, Q_HE, Q_HF, Q_X6_, Q_X7_⟩ hb_ hon hoff
      refine ⟨_, rfl, fun K hK => ?_⟩
      have e0 : a.tmps[0]? = some (.pointer (some ⟨g, 0, none⟩)) := by rw [ha]; exact (putSel_off rfl).trans rfl
      replace ha := Aside0.mk ha
      refine value_ (w1 := w') (v := .pointer (some ⟨g, 0, none⟩)) (by rfl) rfl ?_ ?_
      · go_simp
        try first | rfl | assumption
      refine hK.out _ _ ⟨A35, n35, c35, A36, n36, c36, m6_, m7_, (by rw [ha.out]; exact putSel_upk 1 hb_ rfl rfl rfl), Q_HB, Q_GG, Q_GX, Q_RL, Q_R35, fun h0_ _ => absurd ((hoff 7 (by kernel_rfl)).symm.trans h0_) (by decide), fun h0_ => absurd ((hoff 10 (by kernel_rfl)).symm.trans h0_) (by decide), Q_X6_, fun h0_ => absurd ((hoff 7 (by kernel_rfl)).symm.trans h0_) (by decide)⟩
    refine steps_cons ?_ ?_
    · rintro b a w' ⟨A35, n35, c35, A36, n36, c36, m6_, m7_, ha, Q_HB, Q_GG, Q_GX, Q_RL, Q_R35, Q_HE, Q_HF, Q_X6_, Q_X7_⟩ hb_ hon hoff
      refine ⟨_, rfl, fun K hK => ?_⟩
      have e30 : a.tmps[30]? = some (.pointer (some ⟨g, 0, none⟩)) := by rw [ha]; exact putSel_on (e := (1, 30, .pointer (some ⟨g, 0, none⟩))) 1 rfl rfl (hon 1 (by kernel_rfl)) rfl
      replace ha := Aside0.mk ha
      refine value_ (w1 := w') (v := .pointer (some ⟨g, 0, none⟩)) (by rfl) rfl ?_ ?_
      · go_simp
        try first | rfl | assumption
      refine hK.out _ _ ⟨A35, n35, c35, A36, n36, c36, m6_, m7_, (by rw [ha.out]; exact putSel_upk 2 hb_ rfl rfl rfl), Q_HB, Q_GG, Q_GX, Q_RL, Q_R35, fun h0_ _ => absurd ((hoff 7 (by kernel_rfl)).symm.trans h0_) (by decide), fun h0_ => absurd ((hoff 10 (by kernel_rfl)).symm.trans h0_) (by decide), Q_X6_, fun h0_ => absurd ((hoff 7 (by kernel_rfl)).symm.trans h0_) (by decide)⟩
    refine steps_cons ?_ ?_
    · rintro b a w' ⟨A35, n35, c35, A36, n36, c36, m6_, m7_, ha, Q_HB, Q_GG, Q_GX, Q_RL, Q_R35, Q_HE, Q_HF, Q_X6_, Q_X7_⟩ hb_ hon hoff
      refine ⟨_, rfl, fun K hK => ?_⟩
      have e31 : a.tmps[31]? = some (.pointer (some ⟨g, 0, none⟩)) := by rw [ha]; exact putSel_on (e := (2, 31, .pointer (some ⟨g, 0, none⟩))) 2 rfl rfl (hon 2 (by kernel_rfl)) rfl
      replace ha := Aside0.mk ha
      refine value_ (w1 := w') (v := .pointer (some ⟨g, 3, none⟩)) (by rfl) rfl ?_ ?_
      · go_simp
        try first | rfl | assumption
      refine hK.out _ _ ⟨A35, n35, c35, A36, n36, c36, m6_, m7_, (by rw [ha.out]; exact putSel_upk 3 hb_ rfl rfl rfl), Q_HB, Q_GG, Q_GX, Q_RL, Q_R35, fun h0_ _ => absurd ((hoff 7 (by kernel_rfl)).symm.trans h0_) (by decide), fun h0_ => absurd ((hoff 10 (by kernel_rfl)).symm.trans h0_) (by decide), Q_X6_, fun h0_ => absurd ((hoff 7 (by kernel_rfl)).symm.trans h0_) (by decide)⟩
    refine steps_cons ?_ ?_
    · rintro b a w' ⟨A35, n35, c35, A36, n36, c36, m6_, m7_, ha, Q_HB, Q_GG, Q_GX, Q_RL, Q_R35, Q_HE, Q_HF, Q_X6_, Q_X7_⟩ hb_ hon hoff
      refine ⟨_, rfl, fun K hK => ?_⟩
      have e32 : a.tmps[32]? = some (.pointer (some ⟨g, 3, none⟩)) := by rw [ha]; exact putSel_on (e := (3, 32, .pointer (some ⟨g, 3, none⟩))) 3 rfl rfl (hon 3 (by kernel_rfl)) rfl
      replace ha := Aside0.mk ha
      have GG := Aside0.mk (Q_GG (hoff 10 (by kernel_rfl)))
      have hc0 := blk_cell GG.out 3
      refine value_ (w1 := w') (v := .slice AL nL cL) (by rfl) rfl ?_ ?_
      · go_simp
        try first | rfl | assumption
      refine hK.out _ _ ⟨A35, n35, c35, A36, n36, c36, m6_, m7_, (by rw [ha.out]; exact putSel_upk 4 hb_ rfl rfl rfl), Q_HB, Q_GG, Q_GX, Q_RL, Q_R35, fun h0_ _ => absurd ((hoff 7 (by kernel_rfl)).symm.trans h0_) (by decide), fun h0_ => absurd ((hoff 10 (by kernel_rfl)).symm.trans h0_) (by decide), Q_X6_, fun h0_ => absurd ((hoff 7 (by kernel_rfl)).symm.trans h0_) (by decide)⟩
    refine steps_cons ?_ ?_
    · rintro b a w' ⟨A35, n35, c35, A36, n36, c36, m6_, m7_, ha, Q_HB, Q_GG, Q_GX, Q_RL, Q_R35, Q_HE, Q_HF, Q_X6_, Q_X7_⟩ hb_ hon hoff
      refine ⟨_, rfl, fun K hK => ?_⟩
      have e3 : a.tmps[3]? = some (.pointer (some ⟨g_X, 0, none⟩)) := by rw [ha]; exact (putSel_off rfl).trans rfl
      replace ha := Aside0.mk ha
      have GX := Aside0.mk (Q_GX (hoff 7 (by kernel_rfl)))
      have hc0 := blk_cell GX.out 0; have hc1 := blk_cell GX.out 1; have hc2 := blk_cell GX.out 2
      refine value_ (w1 := w') (v := .agg #[.string x.nm, .bool x.cut, .slice x.A x.d.size x.c]) (by rfl) rfl ?_ ?_
      · go_simp
        try first | rfl | assumption
      refine hK.out _ _ ⟨A35, n35, c35, A36, n36, c36, m6_, m7_, (by rw [ha.out]; exact putSel_upk 5 hb_ rfl rfl rfl), Q_HB, Q_GG, Q_GX, Q_RL, fun h0_ _ => absurd ((hoff 6 (by kernel_rfl)).symm.trans h0_) (by decide), fun h0_ _ => absurd ((hoff 7 (by kernel_rfl)).symm.trans h0_) (by decide), fun h0_ => absurd ((hoff 10 (by kernel_rfl)).symm.trans h0_) (by decide), fun h0_ => absurd ((hoff 6 (by kernel_rfl)).symm.trans h0_) (by decide), fun h0_ => absurd ((hoff 7 (by kernel_rfl)).symm.trans h0_) (by decide)⟩
    refine steps_cons ?_ ?_
    · rintro b a w' ⟨A35, n35, c35, A36, n36, c36, m6_, m7_, ha, Q_HB, Q_GG, Q_GX, Q_RL, Q_R35, Q_HE, Q_HF, Q_X6_, Q_X7_⟩ hb_ hon hoff
      refine ⟨_, rfl, fun K hK => ?_⟩
      have e34 : a.tmps[34]? = some (.agg #[.string x.nm, .bool x.cut, .slice x.A x.d.size x.c]) := by rw [ha]; exact putSel_on (e := (5, 34, .agg #[.string x.nm, .bool x.cut, .slice x.A x.d.size x.c])) 5 rfl rfl (hon 5 (by kernel_rfl)) rfl
      replace ha := Aside0.mk ha
      have HB := Aside0.mk (Q_HB (hoff 7 (by kernel_rfl)))
      have GG := Aside0.mk (Q_GG (hoff 10 (by kernel_rfl)))
      have GX := Aside0.mk (Q_GX (hoff 7 (by kernel_rfl)))
      have RL := Aside0.mk (Q_RL (hoff 7 (by kernel_rfl)))
      refine Kd.R_lit_step kW (w0 := w0) (xs := [x]) (inner := [.string x.nm, .bool x.cut, .slice x.A x.d.size x.c]) (ok := fun _ => True) (okp := fun _ => False) w0.heap.size 84 (by rfl) rfl ?_ (reps_write _ _ _ x) (fun _ h => h.elim) trivial (HG3.out.bel.trans (HB.out.mono HG3.out.bel.size)) (Nat.le_trans HG3.out.bel.size HB.out.size) (by simp) ?_
      · go_simp
      intro v1 w1 ho hb hg hat
      obtain ⟨A9', n9', c9', rfl⟩ := slc ho
      refine hK.out _ _ ⟨A9', n9', c9', A36, n36, c36, (.slice A9' n9' c9'), m7_, (by rw [ha.out]; exact putSel_upk 6 hb_ rfl rfl rfl), fun _ => HB.out.grown hg HB.out.size (fun k e => by cases e), fun _ => blk_grown GG.out hg (by simp), fun _ => blk_grown GX.out hg (by simp), fun _ => RL.out.grown_none hg, fun _ _ => Tg.of (d := kW) rfl ho, fun h0_ _ => absurd ((hoff 7 (by kernel_rfl)).symm.trans h0_) (by decide), fun h0_ => absurd ((hoff 10 (by kernel_rfl)).symm.trans h0_) (by decide), fun _ => rfl, fun h0_ => absurd ((hoff 7 (by kernel_rfl)).symm.trans h0_) (by decide)⟩
    refine steps_cons ?_ ?_
    · rintro b a w' ⟨A35, n35, c35, A36, n36, c36, m6_, m7_, ha, Q_HB, Q_GG, Q_GX, Q_RL, Q_R35, Q_HE, Q_HF, Q_X6_, Q_X7_⟩ hb_ hon hoff
      refine ⟨_, rfl, fun K hK => ?_⟩
      have e33 : a.tmps[33]? = some (.slice AL nL cL) := by rw [ha]; exact putSel_on (e := (4, 33, .slice AL nL cL)) 4 rfl rfl (hon 4 (by kernel_rfl)) rfl
      have e35 : a.tmps[35]? = some (m6_) := by rw [ha]; exact putSel_on (e := (6, 35, m6_)) 6 rfl rfl (hon 6 (by kernel_rfl)) rfl
      rw [Q_X6_ (hon 6 (by kernel_rfl))] at e35
      replace ha := Aside0.mk ha
      have HB := Aside0.mk (Q_HB hb_)
      have GG := Aside0.mk (Q_GG (hoff 10 (by kernel_rfl)))
      have GX := Aside0.mk (Q_GX hb_)
      have RL := Aside0.mk (Q_RL hb_)
      have R35 := Aside0.mk (Q_R35 (hon 6 (by kernel_rfl)) hb_)
      refine Kd.R_append_rows_step kW (w0 := w0) w0.heap.size (by rfl) (.tmp 33) (.tmp 35) 76 84 (.agg #[.string ⟨#[]⟩, .bool false, .slice none 0 0]) 48 rfl Try.underlying76 info_write rfl (by decide) (by omega) (.slice AL nL cL) ls [x] A35 n35 c35 (fun _ => True) (fun _ => False) (eval_of e33) (eval_of e35) RL.out.any (tg_C R35.out).2.2 (fun _ _ h => h) (fun _ h => h.elim) (fun _ _ => trivial) (HG3.out.bel.trans (HB.out.mono HG3.out.bel.size)) (Nat.le_trans HG3.out.bel.size HB.out.size) (by have h1_ := (tg_C R35.out).1; rw [List.length_singleton] at h1_; have := hNL.out.1; omega) ?_
      intro v1 w1 ho hb hg hat
      obtain ⟨A9', n9', c9', rfl⟩ := slc ho
      refine hK.out _ _ ⟨A35, n35, c35, A9', n9', c9', m6_, ((.slice A9' n9' c9')), (by rw [ha.out]; exact putSel_upk 7 hb_ rfl rfl rfl), fun h0_ => absurd ((up_self b 7).symm.trans h0_) (by decide), fun _ => blk_grown GG.out hg hgl, fun h0_ => absurd ((up_self b 7).symm.trans h0_) (by decide), fun h0_ => absurd ((up_self b 7).symm.trans h0_) (by decide), fun _ h1_ => absurd ((up_self b 7).symm.trans h1_) (by decide), fun _ _ => ⟨(Kept.of_below HB.out _).then_ (S2 := fun k => some k = (Value.slice AL nL cL).ownBlock) (Kept.of_grown hg (Kept.refl _ _) (fun k hk => .inl hk.symm)) (fun k hk => .inl hk), hb, Tg.of (d := kW) rfl ho, hat.imp id (fun ⟨q, e, hq⟩ => ⟨q, e, Nat.le_trans HB.out.size hq⟩), blk_grown GX.out hg hgx⟩, fun h0_ => absurd ((hoff 10 (by kernel_rfl)).symm.trans h0_) (by decide), Q_X6_, fun _ => rfl⟩
    refine steps_cons ?_ ?_
    · rintro b a w' ⟨A35, n35, c35, A36, n36, c36, m6_, m7_, ha, Q_HB, Q_GG, Q_GX, Q_RL, Q_R35, Q_HE, Q_HF, Q_X6_, Q_X7_⟩ hb_ hon hoff
      refine ⟨_, rfl, fun K hK => ?_⟩
      have e29 : a.tmps[29]? = some (.pointer (some ⟨g, 0, none⟩)) := by rw [ha]; exact putSel_on (e := (0, 29, .pointer (some ⟨g, 0, none⟩))) 0 rfl rfl (hon 0 (by kernel_rfl)) rfl
      replace ha := Aside0.mk ha
      refine value_ (w1 := w') (v := .pointer (some ⟨g, 0, none⟩)) (by rfl) rfl ?_ ?_
      · go_simp
        try first | rfl | assumption
      refine hK.out _ _ ⟨A35, n35, c35, A36, n36, c36, m6_, m7_, (by rw [ha.out]; exact putSel_upk 8 hb_ rfl rfl rfl), fun h0_ => absurd ((hon 7 (by kernel_rfl)).symm.trans h0_) (by decide), Q_GG, fun h0_ => absurd ((hon 7 (by kernel_rfl)).symm.trans h0_) (by decide), fun h0_ => absurd ((hon 7 (by kernel_rfl)).symm.trans h0_) (by decide), fun _ h1_ => absurd ((hon 7 (by kernel_rfl)).symm.trans h1_) (by decide), Q_HE, fun h0_ => absurd ((hoff 10 (by kernel_rfl)).symm.trans h0_) (by decide), Q_X6_, Q_X7_⟩
    refine steps_cons ?_ ?_
    · rintro b a w' ⟨A35, n35, c35, A36, n36, c36, m6_, m7_, ha, Q_HB, Q_GG, Q_GX, Q_RL, Q_R35, Q_HE, Q_HF, Q_X6_, Q_X7_⟩ hb_ hon hoff
      refine ⟨_, rfl, fun K hK => ?_⟩
      have e37 : a.tmps[37]? = some (.pointer (some ⟨g, 0, none⟩)) := by rw [ha]; exact putSel_on (e := (8, 37, .pointer (some ⟨g, 0, none⟩))) 8 rfl rfl (hon 8 (by kernel_rfl)) rfl
      replace ha := Aside0.mk ha
      refine value_ (w1 := w') (v := .pointer (some ⟨g, 3, none⟩)) (by rfl) rfl ?_ ?_
      · go_simp
        try first | rfl | assumption
      refine hK.out _ _ ⟨A35, n35, c35, A36, n36, c36, m6_, m7_, (by rw [ha.out]; exact putSel_upk 9 hb_ rfl rfl rfl), fun h0_ => absurd ((hon 7 (by kernel_rfl)).symm.trans h0_) (by decide), Q_GG, fun h0_ => absurd ((hon 7 (by kernel_rfl)).symm.trans h0_) (by decide), fun h0_ => absurd ((hon 7 (by kernel_rfl)).symm.trans h0_) (by decide), fun _ h1_ => absurd ((hon 7 (by kernel_rfl)).symm.trans h1_) (by decide), Q_HE, fun h0_ => absurd ((hoff 10 (by kernel_rfl)).symm.trans h0_) (by decide), Q_X6_, Q_X7_⟩
    refine steps_cons ?_ ?_
    · rintro b a w' ⟨A35, n35, c35, A36, n36, c36, m6_, m7_, ha, Q_HB, Q_GG, Q_GX, Q_RL, Q_R35, Q_HE, Q_HF, Q_X6_, Q_X7_⟩ hb_ hon hoff
      refine ⟨_, rfl, fun K hK => ?_⟩
      have e38 : a.tmps[38]? = some (.pointer (some ⟨g, 3, none⟩)) := by rw [ha]; exact putSel_on (e := (9, 38, .pointer (some ⟨g, 3, none⟩))) 9 rfl rfl (hon 9 (by kernel_rfl)) rfl
      have e36 : a.tmps[36]? = some (m7_) := by rw [ha]; exact putSel_on (e := (7, 36, m7_)) 7 rfl rfl (hon 7 (by kernel_rfl)) rfl
      rw [Q_X7_ (hon 7 (by kernel_rfl))] at e36
      replace ha := Aside0.mk ha
      have GG := Aside0.mk (Q_GG hb_)
      have HE := Aside0.mk (Q_HE (hon 7 (by kernel_rfl)) hb_)
      refine skip_step (w1 := w'.setCell ⟨g, 3, none⟩ (.slice A36 n36 c36)) (by rfl) ?_ ?_
      · have hs := blk_cell GG.out 3; have hf := blk_frozen GG.out 3; go_simp
      refine hK.out _ _ ⟨A35, n35, c35, A36, n36, c36, m6_, m7_, (by rw [ha.out]; exact putSel_none (v := undef) rfl), fun h0_ => absurd ((hon 7 (by kernel_rfl)).symm.trans h0_) (by decide), fun h0_ => absurd ((up_self b 10).symm.trans h0_) (by decide), fun h0_ => absurd ((hon 7 (by kernel_rfl)).symm.trans h0_) (by decide), fun h0_ => absurd ((hon 7 (by kernel_rfl)).symm.trans h0_) (by decide), fun _ h1_ => absurd ((hon 7 (by kernel_rfl)).symm.trans h1_) (by decide), fun _ h1_ => absurd ((up_self b 10).symm.trans h1_) (by decide), fun _ => ⟨(HE.out.1.mono (fun k h => .inr h)).then_ (kept_cell 3 (.slice A36 n36 c36)) (fun k hk => .inl (.inl hk)), HE.out.2.1.setCell HG3.out.lowg _, Kd.R_kept HE.out.2.2.1 (kept_cell 3 (.slice A36 n36 c36)) (fun k ho e => by subst e; rcases HE.out.2.2.2.1 with h1 | ⟨q, h1, h2⟩; exact hgl (ho.trans h1); rw [h1] at ho; injection ho with ho; omega), HE.out.2.2.2.1, blk_far HE.out.2.2.2.2 hgX _, blk_put GG.out 3 (.slice A36 n36 c36) rfl⟩, Q_X6_, Q_X7_⟩
    exact steps_nil
  rintro b a w4 hall ⟨A35, n35, c35, A36, n36, c36, m6_, m7_, ha, Q_HB, Q_GG, Q_GX, Q_RL, Q_R35, Q_HE, Q_HF, Q_X6_, Q_X7_⟩
  clear GG GX HB RL
  have hb0_ := hall 0 (by kernel_rfl)
  have hb1_ := hall 1 (by kernel_rfl)
  have hb2_ := hall 2 (by kernel_rfl)
  have hb3_ := hall 3 (by kernel_rfl)
  have hb4_ := hall 4 (by kernel_rfl)
  have hb5_ := hall 5 (by kernel_rfl)
  have hb6_ := hall 6 (by kernel_rfl)
  have hb7_ := hall 7 (by kernel_rfl)
  have hb8_ := hall 8 (by kernel_rfl)
  have hb9_ := hall 9 (by kernel_rfl)
  have hb10_ := hall 10 (by kernel_rfl)
  subst ha
  obtain rfl := Q_X6_ hb6_
  obtain rfl := Q_X7_ hb7_
  simp only [putSel, hb0_, hb1_, hb2_, hb3_, hb4_, hb5_, hb6_, hb7_, hb8_, hb9_, hb10_, if_true, Act.put, List.setIfInBounds_toArray, List.set_cons_zero, List.set_cons_succ]
  clear Q_HB
  clear Q_GG
  clear Q_GX
  clear Q_RL
  clear Q_R35
  clear Q_HE
  have HF := Aside0.mk (Q_HF hb10_)
  clear Q_HF
  clear hall hb0_ hb1_ hb2_ hb3_ hb4_ hb5_ hb6_ hb7_ hb8_ hb9_ hb10_
  have HKa := Aside0.mk (show Kept w w3 (fun k => k = g) from HK3.out)
  have HXd3 := Aside0.mk (show x.nm.size ≤ 100 ∧ DOk w3 (RS.S g ⟨room, bs, bn, ss, ns, .slice AL nL cL, ls, fv, down, writes + 1⟩) x.A x.c x.d from ⟨HXd.out.1, HXd.out.2.kept HKa.out (fun k e => .inl e) (fun k hk => .inl hk)⟩)
  have HG4 := Aside0.mk (rack_loose HG3.out x (.slice A36 n36 c36) HF.out.1 HF.out.2.1 HF.out.2.2.2.2.2 HF.out.2.2.1 HF.out.2.2.2.1 HXd3.out)
  have HXd4 := Aside0.mk (HG4.out.dl x (by show x ∈ ls ++ [x]; simp))
  have GX4 := Aside0.mk HF.out.2.2.2.2.1
  have HKb := Aside0.mk (show Kept w w4 (RS.S g ⟨room, bs, bn, ss, ns, .slice AL nL cL, ls, fuse, down, writes⟩) from (HKa.out.mono (fun k e => .inl e)).then_ HF.out.1 (fun k hk => .inl (hk.elim .inl (fun e => .inr (.inr (.inr e))))))
  have HAt := Aside0.mk HF.out.2.2.2.1
  have HB : Aside0 (Below w4.heap.size w4 w4) := ⟨Below.refl _ _⟩
  have GG : Aside0 (w4.heap[g]? = some (.cells #[.int .i64 room, .map (some bs), .map (some bn), (.slice A36 n36 c36), .int .i64 fv, .bool down, .int .i64 (writes + 1)] 78 (0, 0))) := ⟨HG4.out.blk⟩
  have GX := GX4
  clear HF HG3 HG2 H1 GX3 GX2 HK2 HK3
  go_upto_region 7 with fail
  refine start_ (n := 6) (S := fun w' => True) (ds := []) #[false, false, false, false, false, false] (by kernel_rfl) rfl rfl trivial (fun hHeld => ?_)
  refine with_tabW t_rack_Rack_goes.tab7 t_rack_Rack_goes.bits7 (fun HT_ HW_ => ?_)
  have hd_ := (below_drew1 (Below.refl w4.heap.size w4))
  have n_HB := Aside0.mk (HB.out.drew)
  have n_GG := Aside0.mk ((show w4.drew.heap[g]? = _ from GG.out))
  have n_GX := Aside0.mk ((show w4.drew.heap[g_X]? = _ from GX.out))
  clear HB
  have HB := n_HB
  clear n_HB
  clear GG
  have GG := n_GG
  clear n_GG
  clear GX
  have GX := n_GX
  clear n_GX
  generalize w4.drew = w_d at *
  clear hd_
  refine inv_at [0, 1, 2, 3, 4, 5] (fun a0_ b a w' => a = putSel a0_ b [(0, 39, .agg #[.string x.nm, .bool x.cut, .slice x.A x.d.size x.c]), (1, 40, .pointer (some ⟨g, 0, none⟩)), (2, 41, .pointer (some ⟨g, 0, none⟩)), (3, 42, .pointer (some ⟨g, 2, none⟩)), (4, 43, .map (some bn)), (5, 44, .tuple #[])] ∧ (b 5 = false → Below w4.heap.size w4 w') ∧ (b 5 = false → w'.heap[g]? = some (.cells #[.int .i64 room, .map (some bs), .map (some bn), (.slice A36 n36 c36), .int .i64 fv, .bool down, .int .i64 (writes + 1)] 78 (0, 0))) ∧ (b 5 = false → w'.heap[g_X]? = some (.cells #[.string x.nm, .bool x.cut, .slice x.A x.d.size x.c] 84 (0, 0))) ∧ (b 5 = true → ∃ wa : World, Below w4.heap.size w4 wa ∧ DoP wa bn (doF ns x) (.returned (.tuple #[])) w')) HT_.out HW_.out (by kernel_rfl) (by kernel_rfl) ?_ ?_ ?_
  · exact ⟨by simp only [putSel, Bool.false_eq_true, if_false], fun _ => HB.out, fun _ => GG.out, fun _ => GX.out, fun h_ => absurd h_ (by decide)⟩
  · skip
    clear GG GX HB
    refine steps_cons ?_ ?_
    · rintro b a w' ⟨ha, Q_HB, Q_GG, Q_GX, Q_HD⟩ hb_ hon hoff
      refine ⟨_, rfl, fun K hK => ?_⟩
      have e3 : a.tmps[3]? = some (.pointer (some ⟨g_X, 0, none⟩)) := by rw [ha]; exact (putSel_off rfl).trans rfl
      replace ha := Aside0.mk ha
      have GX := Aside0.mk (Q_GX (hoff 5 (by kernel_rfl)))
      have hc0 := blk_cell GX.out 0; have hc1 := blk_cell GX.out 1; have hc2 := blk_cell GX.out 2
      refine value_ (w1 := w') (v := .agg #[.string x.nm, .bool x.cut, .slice x.A x.d.size x.c]) (by rfl) rfl ?_ ?_
      · go_simp
        try first | rfl | assumption
      refine hK.out _ _ ⟨(by rw [ha.out]; exact putSel_upk 0 hb_ rfl rfl rfl), Q_HB, Q_GG, Q_GX, fun h0_ => absurd ((hoff 5 (by kernel_rfl)).symm.trans h0_) (by decide)⟩
    refine steps_cons ?_ ?_
    · rintro b a w' ⟨ha, Q_HB, Q_GG, Q_GX, Q_HD⟩ hb_ hon hoff
      refine ⟨_, rfl, fun K hK => ?_⟩
      have e0 : a.tmps[0]? = some (.pointer (some ⟨g, 0, none⟩)) := by rw [ha]; exact (putSel_off rfl).trans rfl
      replace ha := Aside0.mk ha
      refine value_ (w1 := w') (v := .pointer (some ⟨g, 0, none⟩)) (by rfl) rfl ?_ ?_
      · go_simp
        try first | rfl | assumption
      refine hK.out _ _ ⟨(by rw [ha.out]; exact putSel_upk 1 hb_ rfl rfl rfl), Q_HB, Q_GG, Q_GX, fun h0_ => absurd ((hoff 5 (by kernel_rfl)).symm.trans h0_) (by decide)⟩
    refine steps_cons ?_ ?_
    · rintro b a w' ⟨ha, Q_HB, Q_GG, Q_GX, Q_HD⟩ hb_ hon hoff
      refine ⟨_, rfl, fun K hK => ?_⟩
      have e40 : a.tmps[40]? = some (.pointer (some ⟨g, 0, none⟩)) := by rw [ha]; exact putSel_on (e := (1, 40, .pointer (some ⟨g, 0, none⟩))) 1 rfl rfl (hon 1 (by kernel_rfl)) rfl
      replace ha := Aside0.mk ha
      refine value_ (w1 := w') (v := .pointer (some ⟨g, 0, none⟩)) (by rfl) rfl ?_ ?_
      · go_simp
        try first | rfl | assumption
      refine hK.out _ _ ⟨(by rw [ha.out]; exact putSel_upk 2 hb_ rfl rfl rfl), Q_HB, Q_GG, Q_GX, fun h0_ => absurd ((hoff 5 (by kernel_rfl)).symm.trans h0_) (by decide)⟩
    refine steps_cons ?_ ?_
    · rintro b a w' ⟨ha, Q_HB, Q_GG, Q_GX, Q_HD⟩ hb_ hon hoff
      refine ⟨_, rfl, fun K hK => ?_⟩
      have e41 : a.tmps[41]? = some (.pointer (some ⟨g, 0, none⟩)) := by rw [ha]; exact putSel_on (e := (2, 41, .pointer (some ⟨g, 0, none⟩))) 2 rfl rfl (hon 2 (by kernel_rfl)) rfl
      replace ha := Aside0.mk ha
      refine value_ (w1 := w') (v := .pointer (some ⟨g, 2, none⟩)) (by rfl) rfl ?_ ?_
      · go_simp
        try first | rfl | assumption
      refine hK.out _ _ ⟨(by rw [ha.out]; exact putSel_upk 3 hb_ rfl rfl rfl), Q_HB, Q_GG, Q_GX, fun h0_ => absurd ((hoff 5 (by kernel_rfl)).symm.trans h0_) (by decide)⟩
    refine steps_cons ?_ ?_
    · rintro b a w' ⟨ha, Q_HB, Q_GG, Q_GX, Q_HD⟩ hb_ hon hoff
      refine ⟨_, rfl, fun K hK => ?_⟩
      have e42 : a.tmps[42]? = some (.pointer (some ⟨g, 2, none⟩)) := by rw [ha]; exact putSel_on (e := (3, 42, .pointer (some ⟨g, 2, none⟩))) 3 rfl rfl (hon 3 (by kernel_rfl)) rfl
      replace ha := Aside0.mk ha
      have GG := Aside0.mk (Q_GG (hoff 5 (by kernel_rfl)))
      have hc0 := blk_cell GG.out 2
      refine value_ (w1 := w') (v := .map (some bn)) (by rfl) rfl ?_ ?_
      · go_simp
        try first | rfl | assumption
      refine hK.out _ _ ⟨(by rw [ha.out]; exact putSel_upk 4 hb_ rfl rfl rfl), Q_HB, Q_GG, Q_GX, fun h0_ => absurd ((hoff 5 (by kernel_rfl)).symm.trans h0_) (by decide)⟩
    refine steps_cons ?_ ?_
    · rintro b a w' ⟨ha, Q_HB, Q_GG, Q_GX, Q_HD⟩ hb_ hon hoff
      refine ⟨_, rfl, fun K hK => ?_⟩
      have e39 : a.tmps[39]? = some (.agg #[.string x.nm, .bool x.cut, .slice x.A x.d.size x.c]) := by rw [ha]; exact putSel_on (e := (0, 39, .agg #[.string x.nm, .bool x.cut, .slice x.A x.d.size x.c])) 0 rfl rfl (hon 0 (by kernel_rfl)) rfl
      have e43 : a.tmps[43]? = some (.map (some bn)) := by rw [ha]; exact putSel_on (e := (4, 43, .map (some bn))) 4 rfl rfl (hon 4 (by kernel_rfl)) rfl
      replace ha := Aside0.mk ha
      have HB := Aside0.mk (Q_HB hb_)
      refine goes_ Try.func58 (by kernel_rfl) rfl #[.agg #[.string x.nm, .bool x.cut, .slice x.A x.d.size x.c], .map (some bn)] (by rfl) rfl rfl (by first | (simp only [List.map_toArray, List.map_cons, List.map_nil, Act.eval, Array.getD_eq_getD_getElem?, Option.getD_some, e39, e43]; done) | (simp only [List.map_toArray, List.map_cons, List.map_nil, Act.eval, Array.getD_eq_getD_getElem?, Option.getD_some, e39, e43]; rfl)) ?_
      with_reducible refine (do_calls bn ns x w' (HG4.out.nm.below HB.out) (by have := hNL.out.2; omega) (by have := HXd.out.1; omega)).mono ?_
      rintro e wq ⟨rfl, h2_, h3_, h4_⟩
      refine ⟨_, rfl, ?_⟩
      refine hK.out _ _ ⟨(by rw [ha.out]; exact putSel_upk 5 hb_ rfl rfl rfl), fun h0_ => absurd ((up_self b 5).symm.trans h0_) (by decide), fun h0_ => absurd ((up_self b 5).symm.trans h0_) (by decide), fun h0_ => absurd ((up_self b 5).symm.trans h0_) (by decide), fun _ => ⟨w', HB.out, rfl, h2_, h3_, h4_⟩⟩
    exact steps_nil
  rintro b a w5 hall ⟨ha, Q_HB, Q_GG, Q_GX, Q_HD⟩
  clear GG GX HB
  have hb0_ := hall 0 (by kernel_rfl)
  have hb1_ := hall 1 (by kernel_rfl)
  have hb2_ := hall 2 (by kernel_rfl)
  have hb3_ := hall 3 (by kernel_rfl)
  have hb4_ := hall 4 (by kernel_rfl)
  have hb5_ := hall 5 (by kernel_rfl)
  subst ha
  simp only [putSel, hb0_, hb1_, hb2_, hb3_, hb4_, hb5_, if_true, Act.put, List.setIfInBounds_toArray, List.set_cons_zero, List.set_cons_succ]
  clear Q_HB
  clear Q_GG
  clear Q_GX
  have HD := Aside0.mk (Q_HD hb5_)
  clear Q_HD
  clear hall hb0_ hb1_ hb2_ hb3_ hb4_ hb5_
  obtain ⟨wa, hwa, hdo⟩ := HD.out
  have hga := HG4.out.below hwa
  have hfin := rack_now hga x (hga.dl x (by show x ∈ ls ++ [x]; simp)) _ hdo
  have HP := Aside0.mk (show GoesP w0 w g ⟨room, bs, bn, ss, ns, .slice AL nL cL, ls, fuse, down, writes⟩ x (.returned (.int .i64 0)) w5 from .inr ⟨hf, rfl, ⟨.slice A36 n36 c36, by
    obtain rfl := HFv.out
    exact hfin, HAt.out.imp id (fun ⟨q, e, hq⟩ => ⟨q, e, Nat.le_trans HKa.out.1 hq⟩)⟩, ((HKb.out.then_ (Kept.of_below hwa _) (fun k hk => .inl hk)).then_ hdo.2.2.1 (fun k hk => .inl (.inr (.inr (.inl hk)))))⟩)
  clear hga hfin hdo hwa
  go_wp2_with fail
  go_ret
  exact HP.out
theorem goes_calls (w0 : World) (g : Nat) (r : RS) (x : WR) (w : World) (h : RackAt w0 w g r) (hx : x.nm.size ≤ 100 ∧ DOk w (r.S g) x.A x.c x.d) (hn : r.ns.length ≤ 99999) (hl : r.ls.length ≤ 99999) (hw : 0 ≤ r.writes ∧ r.writes ≤ 4611686018427387904) :
    Calls Try.prog 54 #[.pointer (some ⟨g, 0, none⟩), .agg #[.string x.nm, .bool x.cut, .slice x.A x.d.size x.c]] w (GoesP w0 w g r x) := by
  by_cases hf : r.fuse = 0
  · exact goes_down w0 g r x w h hf
  · exact goes_ok w0 g r x w h hf hx hn hl hw
end Go.Proofs.Ytjljgcceapkdcaa.RkH
