-- Printed by prune.py: the used part of a text.
import Derived.Test.YtjljgcceapkdcaaZRkK
namespace Go.Proofs.Ytjljgcceapkdcaa.RkL
open Go.RowKit Go.Proofs.YtjljgcceapkdcaaW.PrintWords Go.Proofs.YtjljgcceapkdcaaW.PrintLast Go.Proofs.YtjljgcceapkdcaaW.PrintMore Go.Proofs.Ytjljgcceapkdcaa.RkM Go.Proofs.Ytjljgcceapkdcaa.RkA Go.Proofs.Ytjljgcceapkdcaa.RkB Go.Proofs.Ytjljgcceapkdcaa.RkC Go.Proofs.Ytjljgcceapkdcaa.RkD Go.Proofs.Ytjljgcceapkdcaa.RkE Go.Proofs.Ytjljgcceapkdcaa.RkF Go.Proofs.Ytjljgcceapkdcaa.RkG Go.Proofs.Ytjljgcceapkdcaa.RkH Go.Proofs.Ytjljgcceapkdcaa.RkI Go.Proofs.Ytjljgcceapkdcaa.RkJ Go.Proofs.Ytjljgcceapkdcaa.RkK Go.Proofs.Ytjljgcceapkdcaa.Rw
set_option linter.unusedVariables false
set_option linter.unusedSimpArgs false
def pickB (p : List Int) (k : Nat) : Bool := decide (k < p.length) && (bits .and .u8 (p.getD k 0) 1 == 1)
def crashN (ss : List FE) (ls : List WR) (p : List Int) : Nat → List FE
  | 0 => ss
  | k + 1 => match ls[k]? with
    | some x => if pickB p k then doF (crashN ss ls p k) x else crashN ss ls p k
    | none => crashN ss ls p k
theorem ins_len (x : FE) : ∀ fs : List FE, (insF x fs).length = fs.length + 1
  | [] => rfl
  | y :: r => by
    rw [insF]
    split
    · rfl
    · rw [List.length_cons, ins_len x r, List.length_cons]
theorem do_len (fs : List FE) (x : WR) : (doF fs x).length ≤ fs.length + 1 := by
  unfold doF
  split
  · exact Nat.le_trans (List.length_filter_le _ _) (Nat.le_succ _)
  · unfold putF
    rw [ins_len]
    have : (dropF fs (wfe x).nm).length ≤ fs.length := List.length_filter_le _ _
    omega
theorem crash_len (ss : List FE) (ls : List WR) (p : List Int) : ∀ k, (crashN ss ls p k).length ≤ ss.length + k
  | 0 => Nat.le_refl _
  | k + 1 => by
    have h := crash_len ss ls p k
    rw [crashN]
    split
    · split
      · have := do_len (crashN ss ls p k) (by assumption)
        omega
      · omega
    · omega
theorem crash_at {ss : List FE} {ls : List WR} {p : List Int} {k : Nat} {x : WR} (hx : ls[k]? = some x) : crashN ss ls p (k + 1) = if pickB p k then doF (crashN ss ls p k) x else crashN ss ls p k := by
  rw [crashN, hx]
def zW : WR := ⟨⟨#[]⟩, false, none, 0, ⟨#[]⟩⟩
theorem at_W {w : World} {A : Option Addr} {n : Nat} {ls : List WR} (h : Kd.C kW w A n ls) (k : Nat) (hk : k < n) (x : WR) (hx : ls[k]? = some x) : ∃ ad, A = some ad ∧ w.cell? (ad.add (k * 3)) = some (.string x.nm) ∧ w.cell? ⟨(ad.add (k * 3)).block, (ad.add (k * 3)).off + 1, none⟩ = some (.bool x.cut) ∧ w.cell? ⟨(ad.add (k * 3)).block, (ad.add (k * 3)).off + 2, none⟩ = some (.slice x.A x.d.size x.c) := by
  obtain ⟨ad, c, e, _, hK, hc0⟩ := Kd.C_get h zW (k : Int) (by omega) (by omega)
  rw [Int.toNat_natCast, List.getD_eq_getElem?_getD, hx] at hK
  replace hK : c = x.cs := hK
  subst hK
  have hc : ∀ j u, x.cs[j]? = some u → w.cell? (ad.add (k * 3 + j)) = some u := hc0
  exact ⟨ad, e, hc 0 _ rfl, by rw [← add_field _ _ 1 (by omega)]; exact hc 1 _ rfl, by rw [← add_field _ _ 2 (by omega)]; exact hc 2 _ rfl⟩
theorem rack_sure {w0 w w1 : World} {g : Nat} {r : RS} (h : RackAt w0 w g r) (x : WR) (hx : x.nm.size ≤ 100 ∧ DOk w (r.S g) x.A x.c x.d) (e : Ending) (hd : DoP w r.bs (doF r.ss x) e w1) : RackAt w0 w1 g { r with ss := doF r.ss x } := by
  obtain ⟨_, hF, hk, hb⟩ := hd
  have h1 : ∀ k, k = r.bs → r.S g k := fun k e => .inr (.inl e)
  refine ⟨(hk.2 _ (blk_lt h.blk) (fun e => h.nes.1 e.symm)).trans h.blk, hF, h.nm.move (hk.2 _ h.nm.lt (fun e => h.ne e.symm)), h.ne, Kd.R_kept h.row hk (fun k ho e => (h.lv_ne k ho).2.1 e), h.lowg, h.lows, h.lown, hb w0 h.bel h.lows, fun y hy => ?_, fun y hy => ⟨(h.dn y hy).1, (h.dn y hy).2.kept hk h1 (fun k h => .inl h)⟩, fun y hy => ⟨(h.dl y hy).1, (h.dl y hy).2.kept hk h1 (fun k h => .inl h)⟩, h.rm, h.fs⟩
  rcases mem_do hy with rfl | hy
  · exact ⟨hx.1, hx.2.kept hk h1 (fun k h => .inl h)⟩
  · exact ⟨(h.ds y hy).1, (h.ds y hy).2.kept hk h1 (fun k h => .inl h)⟩
def crashRS (r : RS) (b : Nat) : RS := { r with bn := b, ns := r.ss, lv := .slice none 0 0, ls := [], fuse := -1, down := false }
def crashW (w : World) (g b : Nat) : World := (((w.setCell ⟨g, 2, none⟩ (.map (some b))).setCell ⟨g, 3, none⟩ (.slice none 0 0)).setCell ⟨g, 4, none⟩ (.int .i64 (-1))).setCell ⟨g, 5, none⟩ (.bool false)
theorem crashW_kept (w : World) (g b : Nat) : Kept w (crashW w g b) (fun k => k = g) := (((kept_cell 2 _).then_ (kept_cell 3 _) (fun k e => .inl e)).then_ (kept_cell 4 _) (fun k e => .inl e)).then_ (kept_cell 5 _) (fun k e => .inl e)
theorem rack_crash {w0 w w1 : World} {g : Nat} {r : RS} (h : RackAt w0 w g r) (b : Nat) (hb : w.heap.size ≤ b) (hF : FM w1 b r.ss.length r.ss) (hB : Below w.heap.size w w1) :
    RackAt w0 (crashW w1 g b) g (crashRS r b) := by
  have hk2 := crashW_kept w1 g b
  have hk : Kept w (crashW w1 g b) (fun k => k = g) := (Kept.of_below hB _).then_ hk2 (fun k e => .inl e)
  have h1 : ∀ k, k = g → r.S g k := fun k e => .inl e
  have hS : ∀ k, (crashRS r b).S g k → r.S g k ∨ w.heap.size ≤ k := fun k hk => by
    rcases hk with rfl | rfl | rfl | hk
    · exact .inl (.inl rfl)
    · exact .inl (.inr (.inl rfl))
    · exact .inr hb
    · cases hk
  have hg := blk_lt h.blk
  have hbs := h.sm.lt
  have hds : ∀ x ∈ r.ss, x.nm.size ≤ 100 ∧ DOk (crashW w1 g b) ((crashRS r b).S g) x.A x.c x.d := fun x hx => ⟨(h.ds x hx).1, (h.ds x hx).2.kept hk h1 hS⟩
  exact ⟨blk_put (blk_put (blk_put (blk_put (blk_below h.blk hB) 2 _ rfl) 3 _ rfl) 4 _ rfl) 5 _ rfl, h.sm.move (hk.2 _ hbs h.nes.1), hF.move (hk2.2 _ hF.lt (show b ≠ g by omega)), (show r.bs ≠ b by omega), Tg.nil _ _ _ _, h.lowg, h.lows, Nat.le_trans h.bel.size hb, ((((h.bel.trans (hB.mono h.bel.size)).setCell h.lowg _).setCell h.lowg _).setCell h.lowg _).setCell h.lowg _, hds, hds, fun x hx => (by cases hx), h.rm, (show -1 ≤ (-1 : Int) ∧ (-1 : Int) ≤ 9223372036854775807 by decide)⟩
def CrashP (w0 w : World) (g : Nat) (r : RS) (p : List Int) (e : Ending) (w' : World) : Prop := e = .returned (.tuple #[]) ∧ Kept w w' (r.S g) ∧ ∃ b, w.heap.size ≤ b ∧ RackAt w0 w' g (crashRS { r with ss := crashN r.ss r.ls p r.ls.length } b)
theorem fresh3 {wr w1 : World} {q : Nat} {t : TypeId} {c0 c1 c2 : Value} (hB : Below wr.heap.size wr w1) (hq : wr.heap.size ≤ q) (h : w1.heap[q]? = some (.cells #[c0, c1, c2] t (0, 0))) (x : WR) : ∃ w2, ((w1.setCell ⟨q, 0, none⟩ (.string x.nm)).setCell ⟨q, 1, none⟩ (.bool x.cut)).setCell ⟨q, 2, none⟩ (.slice x.A x.d.size x.c) = w2 ∧ w2.heap[q]? = some (.cells #[.string x.nm, .bool x.cut, .slice x.A x.d.size x.c] t (0, 0)) ∧ Below wr.heap.size wr w2 :=
  ⟨_, rfl, blk_put (blk_put (blk_put h 0 _ rfl) 1 _ rfl) 2 _ rfl, ((hB.setCell hq _).setCell hq _).setCell hq _⟩
def t_rack_Rack_Crash.T5 : Bool × List (List Nat × List Nat) := (true, [([], []), ([], []), ([1], [1]), ([2], [2]), ([3], [3]), ([0, 4], [0, 4])])
def t_rack_Rack_Crash.B5 : List Nat := [0, 0, 2, 6, 14, 31]
theorem t_rack_Rack_Crash.tab5 : rtab .any (opsOf Try.f19 5) = t_rack_Rack_Crash.T5 := by kernel_rfl
theorem t_rack_Rack_Crash.bits5 : waitsOk t_rack_Rack_Crash.T5.2 t_rack_Rack_Crash.B5 = true := by kernel_rfl
set_option maxRecDepth 100000 in
set_option maxHeartbeats 8000000 in
theorem crash_calls (w0 : World) (g : Nat) (r : RS) (p : List Int) (Ap : Option Addr) (cp : Nat) (w : World) (h : RackAt w0 w g r) (hC : Kd.C (Kd.int .u8) w Ap p.length p) (hcp : p.length ≤ cp) (hap : ∀ ad, Ap = some ad → 0 < p.length → ¬ r.S g ad.block) (hl : r.ls.length ≤ 40000) (hs : r.ss.length ≤ 40000) :
    Calls Try.prog 19 #[.pointer (some ⟨g, 0, none⟩), .slice Ap p.length cp] w (CrashP w0 w g r p) := by
  have hu84 := Try.underlying84
  have H := Aside0.mk h
  have hp9 : (p.length : Int) ≤ 9223372036854775807 := by have := hC.2.1; omega
  have HCp := Aside0.mk (fun W (hk : Kept w W (r.S g)) => Kd.C_foot_neS (fun h => h) hC (fun ad e h0 hs => hap ad e h0 hs) W hk)
  have HNL := Aside0.mk (And.intro hl hs)
  obtain ⟨AL, nL, cL, hlv⟩ := slc h.row
  have hnl : nL = r.ls.length := (tg_C (hlv ▸ h.row)).1
  have HLv := Aside0.mk (And.intro hlv hnl)
  have c3 := rack_c h 3
  unfold RS.cs at c3
  rw [hlv] at c3
  have hn9 : (nL : Int) ≤ 40000 := by omega
  clear h hC hap hcp hl hs hlv hnl
  go_enter Try.func19, Try.ntmps19
  go_wp2_with fail
  clear c3
  go_loopw [13] (fun i wr => ∃ k : Nat, k ≤ nL ∧ i = .int .i64 k ∧ Aside0 (RackAt w0 wr g { r with ss := crashN r.ss r.ls p k }) ∧ Aside0 (Kept w wr (r.S g))) (fun i _ => nL - (intOf i).toNat)
  case atStart => exact ⟨0, Nat.zero_le _, rfl, H, ⟨Kept.refl _ _⟩⟩
  case round =>
    clear H
    obtain ⟨k, hk, rfl, HR, HK⟩ := hrel
    by_cases hlt : k < nL
    · obtain ⟨x, hx⟩ : ∃ x, r.ls[k]? = some x := ⟨_, List.getElem?_eq_getElem (by rw [← HLv.out.2]; exact hlt)⟩
      have hrow := (tg_C (HLv.out.1 ▸ HR.out.row)).2.2
      obtain ⟨ad, e1, x0, x1, x2⟩ := at_W hrow k hlt x hx
      subst e1
      have HXd := Aside0.mk (HR.out.dl x (List.mem_of_getElem? hx))
      have HXk := Aside0.mk hx
      clear hrow hx
      by_cases hkp : k < p.length
      · obtain ⟨ap, e2, hxp⟩ := Kd.at_int (HCp.out wr HK.out) (k : Int) (by omega) (by omega)
        subst e2
        rw [Int.toNat_natCast] at hxp
        have HXp := Aside0.mk hxp
        clear hxp
        obtain ⟨y, hy⟩ : ∃ y, bits .and .u8 (rd p (k : Int)) 1 = y := ⟨_, rfl⟩
        have HPk := Aside0.mk (show pickB p k = (y == 1) by
          unfold pickB
          rw [decide_eq_true hkp, Bool.true_and, ← hy]
          rfl)
        by_cases hy1 : y = 1
        · have HNx := Aside0.mk (show crashN r.ss r.ls p (k + 1) = doF (crashN r.ss r.ls p k) x by rw [crash_at HXk.out, if_pos (by rw [HPk.out, hy1]; rfl)])
          have hyb : (y == 1) = true := by rw [hy1]; rfl
          have M0_0 := Aside0.mk (Below.refl wr.heap.size wr)
          go_upto_region 4 with ((with_reducible refine gate_dst (N := 5) rfl ?_); refine box_event ?hgY5 (N := 5) ?hdY5 (cs := #[.string (⟨#[]⟩ : ByteArray), .bool false, .slice none 0 0]) (t := 84) ?hrY5 ?_; (case hdY5 => rfl); (case hgY5 => rfl); (case hrY5 => first | (go_simp; done) | (go_simp; rfl)); intro g_Y hg_ w_1 hbx_ hb_; have L0_Y := Aside0.mk (show wr.heap.size ≤ g_Y by have := M0_0.out.size; omega); have M0_1 := Aside0.mk (M0_0.out.trans (hb_.mono M0_0.out.size)); have Y_1 := Aside0.mk hbx_; clear hg_ hbx_ hb_ M0_0; have zY0 := blk_cell Y_1.out 0; have yY0 := blk_frozen Y_1.out 0; have zY1 := blk_cell Y_1.out 1; have yY1 := blk_frozen Y_1.out 1; have zY2 := blk_cell Y_1.out 2; have yY2 := blk_frozen Y_1.out 2; skip)
          obtain ⟨w2, e2, GY2, HB2⟩ := fresh3 M0_1.out L0_Y.out Y_1.out x
          rw [e2]
          clear e2 zY0 zY1 zY2 yY0 yY1 yY2 x0 x1 x2
          have hxp := pw_cell_below HB2 HXp.out
          go_upto_region 5 with fail
          clear hxp
          have HR2 := Aside0.mk (HR.out.below HB2)
          have HB : Aside0 (Below w2.heap.size w2 w2) := ⟨Below.refl _ _⟩
          have GG : Aside0 (w2.heap[g]? = some (.cells #[.int .i64 r.room, .map (some r.bs), .map (some r.bn), r.lv, .int .i64 r.fuse, .bool r.down, .int .i64 r.writes] 78 (0, 0))) := ⟨HR2.out.blk⟩
          have GY := Aside0.mk GY2
          have HB2' := Aside0.mk HB2
          clear GY2 HB2
          refine start_ (n := 6) (S := fun w' => True) (ds := []) #[false, false, false, false, false, false] (by kernel_rfl) rfl rfl trivial (fun hHeld => ?_)
          refine with_tabW t_rack_Rack_Crash.tab5 t_rack_Rack_Crash.bits5 (fun HT_ HW_ => ?_)
          have hd_ := (below_drew1 (Below.refl w2.heap.size w2))
          have n_HB := Aside0.mk (HB.out.drew)
          have n_GG := Aside0.mk ((show w2.drew.heap[g]? = _ from GG.out))
          have n_GY := Aside0.mk ((show w2.drew.heap[g_Y]? = _ from GY.out))
          clear HB
          have HB := n_HB
          clear n_HB
          clear GG
          have GG := n_GG
          clear n_GG
          clear GY
          have GY := n_GY
          clear n_GY
          generalize w2.drew = w_d at *
          clear hd_
          refine inv_at [0, 1, 2, 3, 4, 5] (fun a0_ b a w' => a = putSel a0_ b [(0, 30, .agg #[.string x.nm, .bool x.cut, .slice x.A x.d.size x.c]), (1, 31, .pointer (some ⟨g, 0, none⟩)), (2, 32, .pointer (some ⟨g, 0, none⟩)), (3, 33, .pointer (some ⟨g, 1, none⟩)), (4, 34, .map (some r.bs)), (5, 35, .tuple #[])] ∧ (b 5 = false → Below w2.heap.size w2 w') ∧ (b 5 = false → w'.heap[g]? = some (.cells #[.int .i64 r.room, .map (some r.bs), .map (some r.bn), r.lv, .int .i64 r.fuse, .bool r.down, .int .i64 r.writes] 78 (0, 0))) ∧ (b 5 = false → w'.heap[g_Y]? = some (.cells #[.string x.nm, .bool x.cut, .slice x.A x.d.size x.c] 84 (0, 0))) ∧ (b 5 = true → ∃ wa : World, Below w2.heap.size w2 wa ∧ DoP wa r.bs (doF (crashN r.ss r.ls p k) x) (.returned (.tuple #[])) w')) HT_.out HW_.out (by kernel_rfl) (by kernel_rfl) ?_ ?_ ?_
          · exact ⟨by simp only [putSel, Bool.false_eq_true, if_false], fun _ => HB.out, fun _ => GG.out, fun _ => GY.out, fun h_ => absurd h_ (by decide)⟩
          · skip
            clear GG GY HB
            refine steps_cons ?_ ?_
            · rintro b a w' ⟨ha, Q_HB, Q_GG, Q_GY, Q_HD⟩ hb_ hon hoff
              refine ⟨_, rfl, fun K hK => ?_⟩
              have e5 : a.tmps[5]? = some (.pointer (some ⟨g_Y, 0, none⟩)) := by rw [ha]; exact (putSel_off rfl).trans rfl
              replace ha := Aside0.mk ha
              have GY := Aside0.mk (Q_GY (hoff 5 (by kernel_rfl)))
              have hc0 := blk_cell GY.out 0; have hc1 := blk_cell GY.out 1; have hc2 := blk_cell GY.out 2
              refine value_ (w1 := w') (v := .agg #[.string x.nm, .bool x.cut, .slice x.A x.d.size x.c]) (by rfl) rfl ?_ ?_
              · go_simp
                try first | rfl | assumption
              refine hK.out _ _ ⟨(by rw [ha.out]; exact putSel_upk 0 hb_ rfl rfl rfl), Q_HB, Q_GG, Q_GY, fun h0_ => absurd ((hoff 5 (by kernel_rfl)).symm.trans h0_) (by decide)⟩
            refine steps_cons ?_ ?_
            · rintro b a w' ⟨ha, Q_HB, Q_GG, Q_GY, Q_HD⟩ hb_ hon hoff
              refine ⟨_, rfl, fun K hK => ?_⟩
              have e0 : a.tmps[0]? = some (.pointer (some ⟨g, 0, none⟩)) := by rw [ha]; exact (putSel_off rfl).trans rfl
              replace ha := Aside0.mk ha
              refine value_ (w1 := w') (v := .pointer (some ⟨g, 0, none⟩)) (by rfl) rfl ?_ ?_
              · go_simp
                try first | rfl | assumption
              refine hK.out _ _ ⟨(by rw [ha.out]; exact putSel_upk 1 hb_ rfl rfl rfl), Q_HB, Q_GG, Q_GY, fun h0_ => absurd ((hoff 5 (by kernel_rfl)).symm.trans h0_) (by decide)⟩
            refine steps_cons ?_ ?_
            · rintro b a w' ⟨ha, Q_HB, Q_GG, Q_GY, Q_HD⟩ hb_ hon hoff
              refine ⟨_, rfl, fun K hK => ?_⟩
              have e31 : a.tmps[31]? = some (.pointer (some ⟨g, 0, none⟩)) := by rw [ha]; exact putSel_on (e := (1, 31, .pointer (some ⟨g, 0, none⟩))) 1 rfl rfl (hon 1 (by kernel_rfl)) rfl
              replace ha := Aside0.mk ha
              refine value_ (w1 := w') (v := .pointer (some ⟨g, 0, none⟩)) (by rfl) rfl ?_ ?_
              · go_simp
                try first | rfl | assumption
              refine hK.out _ _ ⟨(by rw [ha.out]; exact putSel_upk 2 hb_ rfl rfl rfl), Q_HB, Q_GG, Q_GY, fun h0_ => absurd ((hoff 5 (by kernel_rfl)).symm.trans h0_) (by decide)⟩
            refine steps_cons ?_ ?_
            · rintro b a w' ⟨ha, Q_HB, Q_GG, Q_GY, Q_HD⟩ hb_ hon hoff
              refine ⟨_, rfl, fun K hK => ?_⟩
              have e32 : a.tmps[32]? = some (.pointer (some ⟨g, 0, none⟩)) := by rw [ha]; exact putSel_on (e := (2, 32, .pointer (some ⟨g, 0, none⟩))) 2 rfl rfl (hon 2 (by kernel_rfl)) rfl
              replace ha := Aside0.mk ha
              refine value_ (w1 := w') (v := .pointer (some ⟨g, 1, none⟩)) (by rfl) rfl ?_ ?_
              · go_simp
                try first | rfl | assumption
              refine hK.out _ _ ⟨(by rw [ha.out]; exact putSel_upk 3 hb_ rfl rfl rfl), Q_HB, Q_GG, Q_GY, fun h0_ => absurd ((hoff 5 (by kernel_rfl)).symm.trans h0_) (by decide)⟩
            refine steps_cons ?_ ?_
            · rintro b a w' ⟨ha, Q_HB, Q_GG, Q_GY, Q_HD⟩ hb_ hon hoff
              refine ⟨_, rfl, fun K hK => ?_⟩
              have e33 : a.tmps[33]? = some (.pointer (some ⟨g, 1, none⟩)) := by rw [ha]; exact putSel_on (e := (3, 33, .pointer (some ⟨g, 1, none⟩))) 3 rfl rfl (hon 3 (by kernel_rfl)) rfl
              replace ha := Aside0.mk ha
              have GG := Aside0.mk (Q_GG (hoff 5 (by kernel_rfl)))
              have hc0 := blk_cell GG.out 1
              refine value_ (w1 := w') (v := .map (some r.bs)) (by rfl) rfl ?_ ?_
              · go_simp
                try first | rfl | assumption
              refine hK.out _ _ ⟨(by rw [ha.out]; exact putSel_upk 4 hb_ rfl rfl rfl), Q_HB, Q_GG, Q_GY, fun h0_ => absurd ((hoff 5 (by kernel_rfl)).symm.trans h0_) (by decide)⟩
            refine steps_cons ?_ ?_
            · rintro b a w' ⟨ha, Q_HB, Q_GG, Q_GY, Q_HD⟩ hb_ hon hoff
              refine ⟨_, rfl, fun K hK => ?_⟩
              have e30 : a.tmps[30]? = some (.agg #[.string x.nm, .bool x.cut, .slice x.A x.d.size x.c]) := by rw [ha]; exact putSel_on (e := (0, 30, .agg #[.string x.nm, .bool x.cut, .slice x.A x.d.size x.c])) 0 rfl rfl (hon 0 (by kernel_rfl)) rfl
              have e34 : a.tmps[34]? = some (.map (some r.bs)) := by rw [ha]; exact putSel_on (e := (4, 34, .map (some r.bs))) 4 rfl rfl (hon 4 (by kernel_rfl)) rfl
              replace ha := Aside0.mk ha
              have HB := Aside0.mk (Q_HB hb_)
              refine goes_ Try.func58 (by kernel_rfl) rfl #[.agg #[.string x.nm, .bool x.cut, .slice x.A x.d.size x.c], .map (some r.bs)] (by rfl) rfl rfl (by first | (simp only [List.map_toArray, List.map_cons, List.map_nil, Act.eval, Array.getD_eq_getD_getElem?, Option.getD_some, e30, e34]; done) | (simp only [List.map_toArray, List.map_cons, List.map_nil, Act.eval, Array.getD_eq_getD_getElem?, Option.getD_some, e30, e34]; rfl)) ?_
              with_reducible refine (do_calls r.bs (crashN r.ss r.ls p k) x w' (HR2.out.sm.below HB.out) (by have h1_ := crash_len r.ss r.ls p k; have h2_ := HNL.out; have h3_ := HLv.out.2; omega) (by have := HXd.out.1; omega)).mono ?_
              rintro e wq ⟨rfl, h2_, h3_, h4_⟩
              refine ⟨_, rfl, ?_⟩
              refine hK.out _ _ ⟨(by rw [ha.out]; exact putSel_upk 5 hb_ rfl rfl rfl), fun h0_ => absurd ((up_self b 5).symm.trans h0_) (by decide), fun h0_ => absurd ((up_self b 5).symm.trans h0_) (by decide), fun h0_ => absurd ((up_self b 5).symm.trans h0_) (by decide), fun _ => ⟨w', HB.out, rfl, h2_, h3_, h4_⟩⟩
            exact steps_nil
          rintro b a w5 hall ⟨ha, Q_HB, Q_GG, Q_GY, Q_HD⟩
          clear GG GY HB
          have hb0_ := hall 0 (by kernel_rfl)
          have hb1_ := hall 1 (by kernel_rfl)
          have hb2_ := hall 2 (by kernel_rfl)
          have hb3_ := hall 3 (by kernel_rfl)
          have hb4_ := hall 4 (by kernel_rfl)
          have hb5_ := hall 5 (by kernel_rfl)
          subst ha
          simp only [putSel, hb0_, hb1_, hb2_, hb3_, hb4_, hb5_, if_true, Act.put, List.setIfInBounds_toArray, List.set_cons_zero, List.set_cons_succ]
          clear Q_HB
          clear Q_GG
          clear Q_GY
          have HD := Aside0.mk (Q_HD hb5_)
          clear Q_HD
          clear hall hb0_ hb1_ hb2_ hb3_ hb4_ hb5_
          obtain ⟨wa, hwa, hdo⟩ := HD.out
          have hra := HR2.out.below hwa
          have HFin := Aside0.mk (rack_sure hra x (hra.dl x (List.mem_of_getElem? HXk.out)) _ hdo)
          have HKf := Aside0.mk (((HK.out.then_ (Kept.of_below HB2'.out (r.S g)) (fun k hk => .inl hk)).then_ (Kept.of_below hwa (r.S g)) (fun k hk => .inl hk)).then_ hdo.2.2.1 (fun k hk => .inl (.inr (.inl hk))))
          clear hra hwa hdo
          go_wp2_with fail
          go_roundw
          case rel => exact ⟨k + 1, by omega, by go_num, by rw [HNx.out]; exact HFin, HKf⟩
          case measure => simp [intOf]; omega
        · have hyb : (y == 1) = false := beq_eq_false_iff_ne.2 hy1
          have HNx := Aside0.mk (show crashN r.ss r.ls p (k + 1) = crashN r.ss r.ls p k by rw [crash_at HXk.out, if_neg (by rw [HPk.out]; rw [hyb]; decide)])
          clear hy1
          have M0_0 := Aside0.mk (Below.refl wr.heap.size wr)
          go_upto_region 4 with ((with_reducible refine gate_dst (N := 5) rfl ?_); refine box_event ?hgY5 (N := 5) ?hdY5 (cs := #[.string (⟨#[]⟩ : ByteArray), .bool false, .slice none 0 0]) (t := 84) ?hrY5 ?_; (case hdY5 => rfl); (case hgY5 => rfl); (case hrY5 => first | (go_simp; done) | (go_simp; rfl)); intro g_Y hg_ w_1 hbx_ hb_; have L0_Y := Aside0.mk (show wr.heap.size ≤ g_Y by have := M0_0.out.size; omega); have M0_1 := Aside0.mk (M0_0.out.trans (hb_.mono M0_0.out.size)); have Y_1 := Aside0.mk hbx_; clear hg_ hbx_ hb_ M0_0; have zY0 := blk_cell Y_1.out 0; have yY0 := blk_frozen Y_1.out 0; have zY1 := blk_cell Y_1.out 1; have yY1 := blk_frozen Y_1.out 1; have zY2 := blk_cell Y_1.out 2; have yY2 := blk_frozen Y_1.out 2; skip)
          obtain ⟨w2, e2, GY2, HB2⟩ := fresh3 M0_1.out L0_Y.out Y_1.out x
          rw [e2]
          clear e2 zY0 zY1 zY2 yY0 yY1 yY2 x0 x1 x2
          have hxp := pw_cell_below HB2 HXp.out
          go_wp2_with fail
          go_roundw
          case rel => exact ⟨k + 1, by omega, by go_num, by rw [HNx.out]; exact ⟨HR.out.below HB2⟩, ⟨HK.out.then_ (Kept.of_below HB2 _) (fun k hk => .inl hk)⟩⟩
          case measure => simp [intOf]; omega
      · have HPk := Aside0.mk (show pickB p k = false by unfold pickB; rw [decide_eq_false hkp]; rfl)
        have hkd : decide ((k : Int) < (p.length : Int)) = false := decide_eq_false (by omega)
        have HNx := Aside0.mk (show crashN r.ss r.ls p (k + 1) = crashN r.ss r.ls p k by rw [crash_at HXk.out, if_neg (by rw [HPk.out]; decide)])
        have hkq : p.length ≤ k := by omega
        have M0_0 := Aside0.mk (Below.refl wr.heap.size wr)
        go_upto_region 4 with ((with_reducible refine gate_dst (N := 5) rfl ?_); refine box_event ?hgY5 (N := 5) ?hdY5 (cs := #[.string (⟨#[]⟩ : ByteArray), .bool false, .slice none 0 0]) (t := 84) ?hrY5 ?_; (case hdY5 => rfl); (case hgY5 => rfl); (case hrY5 => first | (go_simp; done) | (go_simp; rfl)); intro g_Y hg_ w_1 hbx_ hb_; have L0_Y := Aside0.mk (show wr.heap.size ≤ g_Y by have := M0_0.out.size; omega); have M0_1 := Aside0.mk (M0_0.out.trans (hb_.mono M0_0.out.size)); have Y_1 := Aside0.mk hbx_; clear hg_ hbx_ hb_ M0_0; have zY0 := blk_cell Y_1.out 0; have yY0 := blk_frozen Y_1.out 0; have zY1 := blk_cell Y_1.out 1; have yY1 := blk_frozen Y_1.out 1; have zY2 := blk_cell Y_1.out 2; have yY2 := blk_frozen Y_1.out 2; skip)
        obtain ⟨w2, e2, GY2, HB2⟩ := fresh3 M0_1.out L0_Y.out Y_1.out x
        rw [e2]
        clear e2 zY0 zY1 zY2 yY0 yY1 yY2 x0 x1 x2
        go_wp2_with fail
        go_roundw
        case rel => exact ⟨k + 1, by omega, by go_num, by rw [HNx.out]; exact ⟨HR.out.below HB2⟩, ⟨HK.out.then_ (Kept.of_below HB2 _) (fun k hk => .inl hk)⟩⟩
        case measure => simp [intOf]; omega
    · obtain rfl : k = nL := by omega
      have c1 := rack_c HR.out 1
      unfold RS.cs at c1
      have HMc := Aside0.mk (mclone_calls r.bs (crashN r.ss r.ls p k) wr HR.out.sm)
      go_wp2_with (go_at_call 59; refine HMc.out.mono ?_; rintro e_ w1 ⟨b', rfl, hb', hF, hb⟩; have HRc := Aside0.mk (rack_crash HR.out b' hb' hF hb); have HP := Aside0.mk (show CrashP w0 w g r p (.returned (.tuple #[])) (crashW w1 g b') from ⟨rfl, (HK.out.then_ (Kept.of_below hb (r.S g)) (fun k hk => .inl hk)).then_ (crashW_kept w1 g b') (fun k e => .inl (.inl e)), b', Nat.le_trans HK.out.1 hb', by rw [← HLv.out.2]; exact HRc.out⟩); have H1 := Aside0.mk (HR.out.below hb); have d2 := rack_c H1.out 2; have f2 := blk_frozen H1.out.blk 2; have G2 := blk_put H1.out.blk 2 (.map (some b')) rfl; have d3 := blk_cell G2 3; have f3 := blk_frozen G2 3; have G3 := blk_put G2 3 (.slice none 0 0) rfl; have d4 := blk_cell G3 4; have f4 := blk_frozen G3 4; have G4 := blk_put G3 4 (.int .i64 (-1)) rfl; have d5 := blk_cell G4 5; have f5 := blk_frozen G4 5; clear G2 G3 G4 c1 hF hb HRc; skip)
      go_end0
      exact HP.out
end Go.Proofs.Ytjljgcceapkdcaa.RkL
