-- The used parts of 2 texts, laid together by merge.py.
import Derived.Test.YtjljgcceapkdcaaZQ21
section
namespace Go.Proofs.Ytjljgcceapkdcaa.RpG
open Go.RowKit Go.Proofs.YtjljgcceapkdcaaW.PrintWords Go.Proofs.YtjljgcceapkdcaaW.PrintLast Go.Proofs.YtjljgcceapkdcaaW.PrintMore Go.Proofs.Ytjljgcceapkdcaa.RkM Go.Proofs.Ytjljgcceapkdcaa.PkH Go.Proofs.Ytjljgcceapkdcaa.RkA Go.Proofs.Ytjljgcceapkdcaa.RkB Go.Proofs.Ytjljgcceapkdcaa.RkC Go.Proofs.Ytjljgcceapkdcaa.RkD Go.Proofs.Ytjljgcceapkdcaa.RkE Go.Proofs.Ytjljgcceapkdcaa.RkF Go.Proofs.Ytjljgcceapkdcaa.RkG Go.Proofs.Ytjljgcceapkdcaa.RkK Go.Proofs.Ytjljgcceapkdcaa.RkL Go.Proofs.Ytjljgcceapkdcaa.RkQ Go.Proofs.Ytjljgcceapkdcaa.RkS Go.Proofs.Ytjljgcceapkdcaa.RkU Go.Proofs.Ytjljgcceapkdcaa.RkV Go.Proofs.Ytjljgcceapkdcaa.SfA Go.Proofs.Ytjljgcceapkdcaa.SfB Go.Proofs.Ytjljgcceapkdcaa.SfP Go.Proofs.Ytjljgcceapkdcaa.SfQ Go.Proofs.Ytjljgcceapkdcaa.SfX Go.Proofs.Ytjljgcceapkdcaa.RpA Go.Proofs.Ytjljgcceapkdcaa.RpB Go.Proofs.Ytjljgcceapkdcaa.RpC Go.Proofs.Ytjljgcceapkdcaa.PkC Go.Proofs.Ytjljgcceapkdcaa.RpD Go.Proofs.Ytjljgcceapkdcaa.RpE Go.Proofs.Ytjljgcceapkdcaa.RpF Go.Proofs.Ytjljgcceapkdcaa.Rw
set_option linter.unusedVariables false
set_option linter.unusedSimpArgs false
def t_mailsackref13_Rack_Crash.T5 : Bool × List (List Nat × List Nat) := (true, [([], []), ([], []), ([1], [1]), ([2], [2]), ([3], [3]), ([], []), ([5], [5]), ([4, 6], [4, 6]), ([0, 0, 1, 2, 3, 4, 5, 6, 7], [0]), ([8, 0, 1, 2, 3, 4, 5, 6, 7], [8]), ([9, 7, 7, 0, 1, 2, 3, 4, 5, 6, 7], [7, 9])])
def t_mailsackref13_Rack_Crash.B5 : List Nat := [0, 0, 2, 6, 14, 0, 32, 126, 255, 511, 1023]
theorem t_mailsackref13_Rack_Crash.tab5 : rtab .any (opsOf Try.f33 5) = t_mailsackref13_Rack_Crash.T5 := by kernel_rfl
theorem t_mailsackref13_Rack_Crash.bits5 : waitsOk t_mailsackref13_Rack_Crash.T5.2 t_mailsackref13_Rack_Crash.B5 = true := by kernel_rfl
def t_mailsackref13_Rack_Crash.T6 : Bool × List (List Nat × List Nat) := (true, [([], []), ([], []), ([1], [1]), ([2], [2]), ([3], [3]), ([], []), ([5], [5]), ([], []), ([7], [7]), ([4, 6, 8], [4, 6, 8]), ([0, 0, 1, 2, 3, 4, 5, 6, 7, 8, 9], [0]), ([10, 0, 1, 2, 3, 4, 5, 6, 7, 8, 9], [10]), ([11, 9, 9, 0, 1, 2, 3, 4, 5, 6, 7, 8, 9], [9, 11])])
def t_mailsackref13_Rack_Crash.B6 : List Nat := [0, 0, 2, 6, 14, 0, 32, 0, 128, 510, 1023, 2047, 4095]
theorem t_mailsackref13_Rack_Crash.tab6 : rtab .any (opsOf Try.f33 6) = t_mailsackref13_Rack_Crash.T6 := by kernel_rfl
theorem t_mailsackref13_Rack_Crash.bits6 : waitsOk t_mailsackref13_Rack_Crash.T6.2 t_mailsackref13_Rack_Crash.B6 = true := by kernel_rfl
theorem skip_step {P : Program} {ops : Array Oper} {o : Oper} {a : Act} {Q : Exit → Act → World → Prop} {Kc : Act → World → Prop} {W w1 : World} (hw : Region.wanted o (yielded ops a.tmps) = true) (hrun : (execOp a.eval o).run P W = .ok .skip w1) (h : Kc (a.put o.dst undef) w1) :
    if Region.wanted o (yielded ops a.tmps) = true then Oper.wp P o a W Kc Q else Kc (a.put o.dst undef) W := by
  rw [if_pos hw]
  unfold Oper.wp
  rw [hrun]
  exact h
theorem rput_len2 (x : FE) : ∀ (fs : List FE) (done : Bool), (rput x fs done).length ≤ fs.length + (if done then 0 else 1)
  | [], done => by rw [rput]; cases done <;> simp
  | f :: r, done => by
    have h := rput_len2 x r (done || !(ltS f.nm x.nm))
    rw [rput, List.length_append, List.length_append, List.length_cons]
    cases done with
    | true =>
      rw [Bool.true_or] at h ⊢
      simp only [if_true] at h ⊢
      rw [if_neg (by simp)]
      split <;> simp only [List.length_cons, List.length_nil] <;> omega
    | false =>
      rw [Bool.false_or] at h ⊢
      cases hb : ltS f.nm x.nm with
      | true =>
        rw [hb] at h
        rw [if_neg (by simp)]
        simp only [Bool.not_true] at h ⊢
        split <;> simp only [List.length_cons, List.length_nil] <;> simp at h ⊢ <;> omega
      | false =>
        rw [hb] at h
        rw [if_pos ⟨rfl, rfl⟩]
        simp only [Bool.not_false] at h ⊢
        split <;> simp only [List.length_cons, List.length_nil] <;> simp at h ⊢ <;> omega
def doR (fs : List KV) (c : CK) : List KV := if c.2.1 then dropK fs c.1 else rputK (c.1, c.2.2) fs false
def pickR (ss : List KV) (ls : List CK) (p : List Int) : Nat → List KV
  | 0 => ss
  | k + 1 => match ls[k]? with
    | some x => if pickB p k then doR (pickR ss ls p k) x else pickR ss ls p k
    | none => pickR ss ls p k
theorem pickR_no {ss : List KV} {ls : List WR} {p : List Int} {k : Nat} {x : WR} (hx : ls[k]? = some x) (hp : pickB p k = false) : pickR ss (ls.map keyW) p (k + 1) = pickR ss (ls.map keyW) p k := by
  rw [pickR, List.getElem?_map, hx]
  simp only [Option.map_some, hp, Bool.false_eq_true, if_false]
theorem pickR_yes {ss : List KV} {ls : List WR} {p : List Int} {k : Nat} {x : WR} (hx : ls[k]? = some x) (hp : pickB p k = true) : pickR ss (ls.map keyW) p (k + 1) = doR (pickR ss (ls.map keyW) p k) (keyW x) := by
  rw [pickR, List.getElem?_map, hx]
  simp only [Option.map_some, hp, if_true]
def crashR (p : PS) (picks : List Int) : PS := { p with ss := pickR p.ss p.ls picks p.ls.length, ns := pickR p.ss p.ls picks p.ls.length, ls := [], fuse := 0, down := false }
theorem bit1 {b : Int} (h0 : 0 ≤ b) (h1 : b < 256) : Go.bits .and .u8 b 1 = b % 2 := by
  obtain ⟨n, rfl⟩ := Int.eq_ofNat_of_zero_le h0
  have hn : n < 256 := by omega
  have key : ∀ n : Fin 256, Go.bits .and .u8 ((n.val : Nat) : Int) 1 = ((n.val : Nat) : Int) % 2 := by decide +kernel
  exact key ⟨n, hn⟩
section
variable {w0 w : World} {S : Nat → Prop} {gq : Nat} {q : RR}
theorem sure_c {q1 : RR} (h : RefAt w0 w S gq q1) : w.cell? ⟨gq, 2, none⟩ = some (.slice q1.sA q1.sn q1.sc) := ref_c h 2
theorem crash_row {w2 w' wq : World} {q1 : RR} {x : WR} {R : List FE} {A : Option Addr} {n c : Nat} (h : RefAt w0 w2 S gq q1) (hb : Below w2.heap.size w2 w') (hx : DX w2 (q1.U S gq) x) (hm : ∀ y ∈ R, y = ⟨x.nm, x.A, x.c, x.d⟩ ∨ y ∈ q1.sf) (hU : ∀ k, q1.U S gq k → k < w2.heap.size) (hR : Kd.R kF 48 wq w'.heap.size (fun _ => True) (.slice A n c) R) (hb2 : Below w'.heap.size w' wq) : WA wq (q1.U S gq) A n R :=
  wa_row hR hb2 (fun k hk => Nat.lt_of_lt_of_le (hU k hk) hb.size) (fun y hy => by
    rcases hm y hy with rfl | hy
    · have h1 := hx.kept (Kept.of_below hb _) (fun _ h => h) (S' := q1.U S gq) (fun _ h => .inl h)
      exact ⟨h1.cap, h1.C, h1.apart⟩
    · exact (h.below hb).sure.ds y hy)
theorem crash_set {w2 w' : World} {q1 : RR} {R : List FE} {A : Option Addr} {n c : Nat} (h : RefAt w0 w2 S gq q1) (hb : Below w2.heap.size w2 w') (hw : WA w' (q1.U S gq) A n R) (hc : n ≤ c) (hz : FZ R) : RefAt w0 (w'.setCell ⟨gq, 2, none⟩ (.slice A n c)) S gq { q1 with sA := A, sn := n, sc := c, sf := R } ∧ Kept w2 (w'.setCell ⟨gq, 2, none⟩ (.slice A n c)) (q1.T gq) := by
  obtain ⟨h1, h2⟩ := ref_setSure (h.below hb) A n c R hw hc hz
  exact ⟨h1, (Kept.of_below hb _).then_ h2 (fun k h => .inl h)⟩
set_option maxRecDepth 100000 in
set_option maxHeartbeats 16000000 in
theorem rcrash_calls (h : RefAt w0 w S gq q) (hS : ∀ k, S k → k < w.heap.size) (p : List Int) (Ap : Option Addr) (cp : Nat) (hC : Kd.C (Kd.int .u8) w Ap p.length p) (hcp : p.length ≤ cp) (hap : ∀ ad, Ap = some ad → 0 < p.length → ¬ q.T gq ad.block) (hby : PkH.Bytes p) (hll : q.ll.length ≤ 10000) (hsl : q.sf.length ≤ 10000) :
    Calls Try.prog 33 #[.pointer (some ⟨gq, 0, none⟩), .slice Ap p.length cp] w (RefP w0 w S gq q (.tuple #[]) (fun q' => absR q' = crashR (absR q) p)) := by
  have hu64 := Try.underlying64
  have H := Aside0.mk h
  have HS := Aside0.mk hS
  have hp9 : (p.length : Int) ≤ 9223372036854775807 := by have := hC.2.1; omega
  have HCp := Aside0.mk (fun W (hk : Kept w W (q.T gq)) => Kd.C_foot_neS (fun h => h) hC (fun ad e h0 hs => hap ad e h0 hs) W hk)
  have HNL := Aside0.mk (And.intro hll (And.intro hsl hby))
  obtain ⟨AL, nL, cL, hlv, hnl, _, _⟩ := h.slc
  have HLv := Aside0.mk (And.intro hlv hnl)
  have c3 := ref_c h 3
  replace c3 : w.cell? ⟨gq, 3, none⟩ = some q.lv := c3
  rw [hlv] at c3
  have hn9 : (nL : Int) ≤ 10000 := by omega
  clear h hS hC hap hcp hby hll hsl hlv hnl
  go_enter Try.func33, Try.ntmps33
  go_wp2_with fail
  clear c3
  go_loopw [11] (fun i wr => ∃ (k : Nat) (q1 : RR), k ≤ nL ∧ i = .int .i64 k ∧ Aside0 (RefAt w0 wr S gq q1) ∧ Aside0 (q1.lv = q.lv ∧ q1.ll = q.ll ∧ q1.mx = q.mx ∧ q1.cnt = q.cnt ∧ q1.sf.map keyD = pickR (q.sf.map keyD) (q.ll.map keyW) p k ∧ q1.sf.length ≤ q.sf.length + k) ∧ Aside0 (Kept w wr (q.T gq))) (fun i _ => nL - (intOf i).toNat)
  case atStart => exact ⟨0, q, Nat.zero_le _, rfl, H, ⟨rfl, rfl, rfl, rfl, rfl, Nat.le_refl _⟩, ⟨Kept.refl _ _⟩⟩
  case round =>
    clear H
    obtain ⟨k, q1, hk, rfl, HR, HQ1, HK⟩ := hrel
    by_cases hlt : k < nL
    · obtain ⟨x, hx⟩ : ∃ x, q.ll[k]? = some x := ⟨_, List.getElem?_eq_getElem (by rw [← HLv.out.2]; exact hlt)⟩
      obtain ⟨AL2, nL2, cL2, hlv2, hnl2, _, hrow⟩ := HR.out.slc
      rw [HQ1.out.1, HLv.out.1] at hlv2
      injection hlv2 with e1 e2 e3
      subst e1 e2 e3
      rw [HQ1.out.2.1] at hrow
      obtain ⟨ad, e1, x0, x1, x2⟩ := at_W hrow k hlt x hx
      subst e1
      have HXm := Aside0.mk (show x ∈ q1.ll by rw [HQ1.out.2.1]; exact List.mem_of_getElem? hx)
      have HXk := Aside0.mk hx
      clear hrow hx hnl2
      have M0_0 := Aside0.mk (Below.refl wr.heap.size wr)
      go_upto_region 3 with ((with_reducible refine gate_dst (N := 5) rfl ?_); refine box_event ?hgY5 (N := 5) ?hdY5 (cs := #[.string (⟨#[]⟩ : ByteArray), .bool false, .slice none 0 0]) (t := 64) ?hrY5 ?_; (case hdY5 => rfl); (case hgY5 => rfl); (case hrY5 => first | (go_simp; done) | (go_simp; rfl)); intro g_Y hg_ w_1 hbx_ hb_; have L0_Y := Aside0.mk (show wr.heap.size ≤ g_Y by have := M0_0.out.size; omega); have M0_1 := Aside0.mk (M0_0.out.trans (hb_.mono M0_0.out.size)); have Y_1 := Aside0.mk hbx_; clear hg_ hbx_ hb_ M0_0; have zY0 := blk_cell Y_1.out 0; have yY0 := blk_frozen Y_1.out 0; have zY1 := blk_cell Y_1.out 1; have yY1 := blk_frozen Y_1.out 1; have zY2 := blk_cell Y_1.out 2; have yY2 := blk_frozen Y_1.out 2; skip)
      obtain ⟨w2, e2, GY2, HB2⟩ := fresh3 M0_1.out L0_Y.out Y_1.out x
      rw [e2]
      clear e2 zY0 zY1 zY2 yY0 yY1 yY2 x0 x1 x2
      by_cases hkp : k < p.length
      · obtain ⟨ap, e2, hxp⟩ := Kd.at_int (HCp.out wr HK.out) (k : Int) (by omega) (by omega)
        subst e2
        rw [Int.toNat_natCast] at hxp
        have hxp := pw_cell_below HB2 hxp
        have hkd : decide ((p.length : Int) ≤ (k : Int)) = false := decide_eq_false (by omega)
        have hkd2 : decide (p.length ≤ k) = false := decide_eq_false (by omega)
        obtain ⟨y, hy⟩ : ∃ y, bits .and .u8 (rd p (k : Int)) 1 = y := ⟨_, rfl⟩
        have HPk := Aside0.mk (show pickB p k = (y == 1) by
          unfold pickB
          rw [decide_eq_true hkp, Bool.true_and, ← hy]
          rfl)
        have hy01 : y = 0 ∨ y = 1 := by
          have hb := HNL.out.2.2.rd (k : Int)
          rw [bit1 hb.1 hb.2] at hy
          omega
        by_cases hy1 : y = 1
        · have HPk := Aside0.mk (show pickB p k = true by rw [HPk.out, hy1]; rfl)
          have hyb : (y == 0) = false := by rw [hy1]; rfl
          have hyb2 : decide (y = 0) = false := decide_eq_false (by omega)
          have HR2 := Aside0.mk (HR.out.below HB2)
          have HXd := Aside0.mk (HR2.out.ds x HXm.out)
          have HUl := Aside0.mk (show ∀ k, q1.U S gq k → k < w2.heap.size from fun k hk => by
            rcases hk with hk | hk
            · exact Nat.lt_of_lt_of_le (HS.out k hk) (Nat.le_trans HK.out.1 HB2.size)
            · exact HR2.out.T_lt k hk)
          have hg1 := blk_cell GY2 1
          have GY := Aside0.mk GY2
          have HB2' := Aside0.mk HB2
          have HB : Aside0 (Below w2.heap.size w2 w2) := ⟨Below.refl _ _⟩
          clear hy1 hy01 GY2 HB2
          by_cases hcut : x.cut = true
          · have hcutb := hcut
            rw [hcut] at hg1
            obtain ⟨R, hR⟩ : ∃ R, dropF q1.sf x.nm = R := ⟨_, rfl⟩
            have HCt := Aside0.mk (fun (W : World) (hb : Below w2.heap.size w2 W) => show Calls Try.prog 65 #[.slice q1.sA q1.sn q1.sc, .string x.nm] W (FilesP W R) from hR ▸ rcut_calls q1.sA q1.sn q1.sc q1.sf x.nm W (HR2.out.below hb).sure.C (by have := HQ1.out.2.2.2.2.2; have := HNL.out.2.1; omega))
            have HRm := Aside0.mk (show ∀ y ∈ R, y = ⟨x.nm, x.A, x.c, x.d⟩ ∨ y ∈ q1.sf from fun y hy => .inr (by rw [← hR] at hy; exact (List.mem_filter.1 hy).1))
            have HRk := Aside0.mk (show R.map keyD = pickR (q.sf.map keyD) (q.ll.map keyW) p (k + 1) by
              rw [pickR_yes HXk.out HPk.out, ← HQ1.out.2.2.2.2.1, ← hR, drop_key]
              unfold doR
              rw [if_pos (show (keyW x).2.1 = true from hcut)]
              rfl)
            have HRl := Aside0.mk (show R.length ≤ q.sf.length + (k + 1) by have h1 : (dropF q1.sf x.nm).length ≤ q1.sf.length := List.length_filter_le _ _; rw [hR] at h1; have := HQ1.out.2.2.2.2.2; omega)
            have HRz := Aside0.mk (show FZ R from fun y hy => by rw [← hR] at hy; exact HR2.out.zs y (List.mem_filter.1 hy).1)
            clear hR hcut hcutb
            go_upto_region 5 with fail
            clear hg1 hxp hyb hyb2 hkd hkd2
            refine start_ (n := 11) (S := fun w' => True) (ds := []) #[false, false, false, false, false, false, false, false, false, false, false] (by kernel_rfl) rfl rfl trivial (fun hHeld => ?_)
            refine with_tabW t_mailsackref13_Rack_Crash.tab5 t_mailsackref13_Rack_Crash.bits5 (fun HT_ HW_ => ?_)
            have hd_ := (below_drew1 (Below.refl w2.heap.size w2))
            have n_HB := Aside0.mk (HB.out.drew)
            have n_GY := Aside0.mk ((show w2.drew.heap[g_Y]? = _ from GY.out))
            clear HB
            have HB := n_HB
            clear n_HB
            clear GY
            have GY := n_GY
            clear n_GY
            generalize w2.drew = w_d at *
            clear hd_
            refine inv_at [0, 1, 2, 3, 4, 5, 6, 7, 8, 9, 10] (fun a0_ b a w' => ∃ (A37 : Option Addr) (n37 : Nat) (c37 : Nat) (m7_ : Value), a = putSel a0_ b [(0, 30, .pointer (some ⟨gq, 0, none⟩)), (1, 31, .pointer (some ⟨gq, 0, none⟩)), (2, 32, .pointer (some ⟨gq, 0, none⟩)), (3, 33, .pointer (some ⟨gq, 2, none⟩)), (4, 34, .slice q1.sA q1.sn q1.sc), (5, 35, .pointer (some ⟨g_Y, 0, none⟩)), (6, 36, .string x.nm), (7, 37, m7_), (8, 38, .pointer (some ⟨gq, 0, none⟩)), (9, 39, .pointer (some ⟨gq, 2, none⟩))] ∧ (b 10 = false → Below w2.heap.size w2 w') ∧ (b 7 = false → w'.heap[g_Y]? = some (.cells #[.string x.nm, .bool x.cut, .slice x.A x.d.size x.c] 64 (0, 0))) ∧ (b 7 = true → b 10 = false → n37 ≤ c37 ∧ WA w' (q1.U S gq) A37 n37 R) ∧ (b 10 = true → RefAt w0 w' S gq { q1 with sA := A37, sn := n37, sc := c37, sf := R } ∧ Kept w2 w' (q1.T gq)) ∧ (b 7 = true → (m7_ : Value) = .slice A37 n37 c37)) HT_.out HW_.out (by kernel_rfl) (by kernel_rfl) ?_ ?_ ?_
            · exact ⟨none, 0, 0, .bool false, by simp only [putSel, Bool.false_eq_true, if_false], fun _ => HB.out, fun _ => GY.out, fun h_ => absurd h_ (by decide), fun h_ => absurd h_ (by decide), fun h_ => absurd h_ (by decide)⟩
            · skip
              clear GY HB
              refine steps_cons ?_ ?_
              · rintro b a w' ⟨A37, n37, c37, m7_, ha, Q_HB, Q_GY, Q_RW, Q_HX, Q_X7_⟩ hb_ hon hoff
                refine ⟨_, rfl, fun K hK => ?_⟩
                have e0 : a.tmps[0]? = some (.pointer (some ⟨gq, 0, none⟩)) := by rw [ha]; exact (putSel_off rfl).trans rfl
                replace ha := Aside0.mk ha
                refine value_ (w1 := w') (v := .pointer (some ⟨gq, 0, none⟩)) (by rfl) rfl ?_ ?_
                · go_simp
                  try first | rfl | assumption
                refine hK.out _ _ ⟨A37, n37, c37, m7_, (by rw [ha.out]; exact putSel_upk 0 hb_ rfl rfl rfl), Q_HB, Q_GY, Q_RW, fun h0_ => absurd ((hoff 10 (by kernel_rfl)).symm.trans h0_) (by decide), Q_X7_⟩
              refine steps_cons ?_ ?_
              · rintro b a w' ⟨A37, n37, c37, m7_, ha, Q_HB, Q_GY, Q_RW, Q_HX, Q_X7_⟩ hb_ hon hoff
                refine ⟨_, rfl, fun K hK => ?_⟩
                have e0 : a.tmps[0]? = some (.pointer (some ⟨gq, 0, none⟩)) := by rw [ha]; exact (putSel_off rfl).trans rfl
                replace ha := Aside0.mk ha
                refine value_ (w1 := w') (v := .pointer (some ⟨gq, 0, none⟩)) (by rfl) rfl ?_ ?_
                · go_simp
                  try first | rfl | assumption
                refine hK.out _ _ ⟨A37, n37, c37, m7_, (by rw [ha.out]; exact putSel_upk 1 hb_ rfl rfl rfl), Q_HB, Q_GY, fun h0_ _ => absurd ((hoff 7 (by kernel_rfl)).symm.trans h0_) (by decide), fun h0_ => absurd ((hoff 10 (by kernel_rfl)).symm.trans h0_) (by decide), fun h0_ => absurd ((hoff 7 (by kernel_rfl)).symm.trans h0_) (by decide)⟩
              refine steps_cons ?_ ?_
              · rintro b a w' ⟨A37, n37, c37, m7_, ha, Q_HB, Q_GY, Q_RW, Q_HX, Q_X7_⟩ hb_ hon hoff
                refine ⟨_, rfl, fun K hK => ?_⟩
                have e31 : a.tmps[31]? = some (.pointer (some ⟨gq, 0, none⟩)) := by rw [ha]; exact putSel_on (e := (1, 31, .pointer (some ⟨gq, 0, none⟩))) 1 rfl rfl (hon 1 (by kernel_rfl)) rfl
                replace ha := Aside0.mk ha
                refine value_ (w1 := w') (v := .pointer (some ⟨gq, 0, none⟩)) (by rfl) rfl ?_ ?_
                · go_simp
                  try first | rfl | assumption
                refine hK.out _ _ ⟨A37, n37, c37, m7_, (by rw [ha.out]; exact putSel_upk 2 hb_ rfl rfl rfl), Q_HB, Q_GY, fun h0_ _ => absurd ((hoff 7 (by kernel_rfl)).symm.trans h0_) (by decide), fun h0_ => absurd ((hoff 10 (by kernel_rfl)).symm.trans h0_) (by decide), fun h0_ => absurd ((hoff 7 (by kernel_rfl)).symm.trans h0_) (by decide)⟩
              refine steps_cons ?_ ?_
              · rintro b a w' ⟨A37, n37, c37, m7_, ha, Q_HB, Q_GY, Q_RW, Q_HX, Q_X7_⟩ hb_ hon hoff
                refine ⟨_, rfl, fun K hK => ?_⟩
                have e32 : a.tmps[32]? = some (.pointer (some ⟨gq, 0, none⟩)) := by rw [ha]; exact putSel_on (e := (2, 32, .pointer (some ⟨gq, 0, none⟩))) 2 rfl rfl (hon 2 (by kernel_rfl)) rfl
                replace ha := Aside0.mk ha
                refine value_ (w1 := w') (v := .pointer (some ⟨gq, 2, none⟩)) (by rfl) rfl ?_ ?_
                · go_simp
                  try first | rfl | assumption
                refine hK.out _ _ ⟨A37, n37, c37, m7_, (by rw [ha.out]; exact putSel_upk 3 hb_ rfl rfl rfl), Q_HB, Q_GY, fun h0_ _ => absurd ((hoff 7 (by kernel_rfl)).symm.trans h0_) (by decide), fun h0_ => absurd ((hoff 10 (by kernel_rfl)).symm.trans h0_) (by decide), fun h0_ => absurd ((hoff 7 (by kernel_rfl)).symm.trans h0_) (by decide)⟩
              refine steps_cons ?_ ?_
              · rintro b a w' ⟨A37, n37, c37, m7_, ha, Q_HB, Q_GY, Q_RW, Q_HX, Q_X7_⟩ hb_ hon hoff
                refine ⟨_, rfl, fun K hK => ?_⟩
                have e33 : a.tmps[33]? = some (.pointer (some ⟨gq, 2, none⟩)) := by rw [ha]; exact putSel_on (e := (3, 33, .pointer (some ⟨gq, 2, none⟩))) 3 rfl rfl (hon 3 (by kernel_rfl)) rfl
                replace ha := Aside0.mk ha
                have HB := Aside0.mk (Q_HB (hoff 10 (by kernel_rfl)))
                have hc0 := sure_c (HR2.out.below HB.out)
                refine value_ (w1 := w') (v := .slice q1.sA q1.sn q1.sc) (by rfl) rfl ?_ ?_
                · go_simp
                  try first | rfl | assumption
                refine hK.out _ _ ⟨A37, n37, c37, m7_, (by rw [ha.out]; exact putSel_upk 4 hb_ rfl rfl rfl), Q_HB, Q_GY, fun h0_ _ => absurd ((hoff 7 (by kernel_rfl)).symm.trans h0_) (by decide), fun h0_ => absurd ((hoff 10 (by kernel_rfl)).symm.trans h0_) (by decide), fun h0_ => absurd ((hoff 7 (by kernel_rfl)).symm.trans h0_) (by decide)⟩
              refine steps_cons ?_ ?_
              · rintro b a w' ⟨A37, n37, c37, m7_, ha, Q_HB, Q_GY, Q_RW, Q_HX, Q_X7_⟩ hb_ hon hoff
                refine ⟨_, rfl, fun K hK => ?_⟩
                have e5 : a.tmps[5]? = some (.pointer (some ⟨g_Y, 0, none⟩)) := by rw [ha]; exact (putSel_off rfl).trans rfl
                replace ha := Aside0.mk ha
                refine value_ (w1 := w') (v := .pointer (some ⟨g_Y, 0, none⟩)) (by rfl) rfl ?_ ?_
                · go_simp
                  try first | rfl | assumption
                refine hK.out _ _ ⟨A37, n37, c37, m7_, (by rw [ha.out]; exact putSel_upk 5 hb_ rfl rfl rfl), Q_HB, Q_GY, fun h0_ _ => absurd ((hoff 7 (by kernel_rfl)).symm.trans h0_) (by decide), fun h0_ => absurd ((hoff 10 (by kernel_rfl)).symm.trans h0_) (by decide), fun h0_ => absurd ((hoff 7 (by kernel_rfl)).symm.trans h0_) (by decide)⟩
              refine steps_cons ?_ ?_
              · rintro b a w' ⟨A37, n37, c37, m7_, ha, Q_HB, Q_GY, Q_RW, Q_HX, Q_X7_⟩ hb_ hon hoff
                refine ⟨_, rfl, fun K hK => ?_⟩
                have e35 : a.tmps[35]? = some (.pointer (some ⟨g_Y, 0, none⟩)) := by rw [ha]; exact putSel_on (e := (5, 35, .pointer (some ⟨g_Y, 0, none⟩))) 5 rfl rfl (hon 5 (by kernel_rfl)) rfl
                replace ha := Aside0.mk ha
                have GY := Aside0.mk (Q_GY (hoff 7 (by kernel_rfl)))
                have hc0 := blk_cell GY.out 0
                refine value_ (w1 := w') (v := .string x.nm) (by rfl) rfl ?_ ?_
                · go_simp
                  try first | rfl | assumption
                refine hK.out _ _ ⟨A37, n37, c37, m7_, (by rw [ha.out]; exact putSel_upk 6 hb_ rfl rfl rfl), Q_HB, Q_GY, fun h0_ _ => absurd ((hoff 7 (by kernel_rfl)).symm.trans h0_) (by decide), fun h0_ => absurd ((hoff 10 (by kernel_rfl)).symm.trans h0_) (by decide), fun h0_ => absurd ((hoff 7 (by kernel_rfl)).symm.trans h0_) (by decide)⟩
              refine steps_cons ?_ ?_
              · rintro b a w' ⟨A37, n37, c37, m7_, ha, Q_HB, Q_GY, Q_RW, Q_HX, Q_X7_⟩ hb_ hon hoff
                refine ⟨_, rfl, fun K hK => ?_⟩
                have e34 : a.tmps[34]? = some (.slice q1.sA q1.sn q1.sc) := by rw [ha]; exact putSel_on (e := (4, 34, .slice q1.sA q1.sn q1.sc)) 4 rfl rfl (hon 4 (by kernel_rfl)) rfl
                have e36 : a.tmps[36]? = some (.string x.nm) := by rw [ha]; exact putSel_on (e := (6, 36, .string x.nm)) 6 rfl rfl (hon 6 (by kernel_rfl)) rfl
                replace ha := Aside0.mk ha
                have HB := Aside0.mk (Q_HB (hoff 10 (by kernel_rfl)))
                refine goes_ Try.func65 (by kernel_rfl) rfl #[.slice q1.sA q1.sn q1.sc, .string x.nm] (by rfl) rfl rfl (by first | (simp only [List.map_toArray, List.map_cons, List.map_nil, Act.eval, Array.getD_eq_getD_getElem?, Option.getD_some, e34, e36]; done) | (simp only [List.map_toArray, List.map_cons, List.map_nil, Act.eval, Array.getD_eq_getD_getElem?, Option.getD_some, e34, e36]; rfl)) ?_
                with_reducible refine (HCt.out w' HB.out).mono ?_
                rintro e wq ⟨Aq, nq, cq, rfl, hR, hb⟩
                refine ⟨_, rfl, ?_⟩
                refine hK.out _ _ ⟨Aq, nq, cq, (.slice Aq nq cq), (by rw [ha.out]; exact putSel_upk 7 hb_ rfl rfl rfl), fun _ => HB.out.trans (hb.mono HB.out.size), fun h0_ => absurd ((up_self b 7).symm.trans h0_) (by decide), fun _ _ => ⟨(Kd.R_reads' hR).2.1, crash_row HR2.out HB.out HXd.out HRm.out HUl.out hR hb⟩, fun h0_ => absurd ((hoff 10 (by kernel_rfl)).symm.trans h0_) (by decide), fun _ => rfl⟩
              refine steps_cons ?_ ?_
              · rintro b a w' ⟨A37, n37, c37, m7_, ha, Q_HB, Q_GY, Q_RW, Q_HX, Q_X7_⟩ hb_ hon hoff
                refine ⟨_, rfl, fun K hK => ?_⟩
                have e30 : a.tmps[30]? = some (.pointer (some ⟨gq, 0, none⟩)) := by rw [ha]; exact putSel_on (e := (0, 30, .pointer (some ⟨gq, 0, none⟩))) 0 rfl rfl (hon 0 (by kernel_rfl)) rfl
                replace ha := Aside0.mk ha
                refine value_ (w1 := w') (v := .pointer (some ⟨gq, 0, none⟩)) (by rfl) rfl ?_ ?_
                · go_simp
                  try first | rfl | assumption
                refine hK.out _ _ ⟨A37, n37, c37, m7_, (by rw [ha.out]; exact putSel_upk 8 hb_ rfl rfl rfl), Q_HB, fun h0_ => absurd ((hon 7 (by kernel_rfl)).symm.trans h0_) (by decide), Q_RW, fun h0_ => absurd ((hoff 10 (by kernel_rfl)).symm.trans h0_) (by decide), Q_X7_⟩
              refine steps_cons ?_ ?_
              · rintro b a w' ⟨A37, n37, c37, m7_, ha, Q_HB, Q_GY, Q_RW, Q_HX, Q_X7_⟩ hb_ hon hoff
                refine ⟨_, rfl, fun K hK => ?_⟩
                have e38 : a.tmps[38]? = some (.pointer (some ⟨gq, 0, none⟩)) := by rw [ha]; exact putSel_on (e := (8, 38, .pointer (some ⟨gq, 0, none⟩))) 8 rfl rfl (hon 8 (by kernel_rfl)) rfl
                replace ha := Aside0.mk ha
                refine value_ (w1 := w') (v := .pointer (some ⟨gq, 2, none⟩)) (by rfl) rfl ?_ ?_
                · go_simp
                  try first | rfl | assumption
                refine hK.out _ _ ⟨A37, n37, c37, m7_, (by rw [ha.out]; exact putSel_upk 9 hb_ rfl rfl rfl), Q_HB, fun h0_ => absurd ((hon 7 (by kernel_rfl)).symm.trans h0_) (by decide), Q_RW, fun h0_ => absurd ((hoff 10 (by kernel_rfl)).symm.trans h0_) (by decide), Q_X7_⟩
              refine steps_cons ?_ ?_
              · rintro b a w' ⟨A37, n37, c37, m7_, ha, Q_HB, Q_GY, Q_RW, Q_HX, Q_X7_⟩ hb_ hon hoff
                refine ⟨_, rfl, fun K hK => ?_⟩
                have e39 : a.tmps[39]? = some (.pointer (some ⟨gq, 2, none⟩)) := by rw [ha]; exact putSel_on (e := (9, 39, .pointer (some ⟨gq, 2, none⟩))) 9 rfl rfl (hon 9 (by kernel_rfl)) rfl
                have e37 : a.tmps[37]? = some (m7_) := by rw [ha]; exact putSel_on (e := (7, 37, m7_)) 7 rfl rfl (hon 7 (by kernel_rfl)) rfl
                rw [Q_X7_ (hon 7 (by kernel_rfl))] at e37
                replace ha := Aside0.mk ha
                have HB := Aside0.mk (Q_HB hb_)
                have RW := Aside0.mk (Q_RW (hon 7 (by kernel_rfl)) hb_)
                refine skip_step (w1 := w'.setCell ⟨gq, 2, none⟩ (.slice A37 n37 c37)) (by rfl) ?_ ?_
                · have hs := sure_c (HR2.out.below HB.out); have hf := blk_frozen (HR2.out.below HB.out).blk 2; go_simp
                refine hK.out _ _ ⟨A37, n37, c37, m7_, (by rw [ha.out]; exact putSel_none (v := undef) rfl), fun h0_ => absurd ((up_self b 10).symm.trans h0_) (by decide), fun h0_ => absurd ((hon 7 (by kernel_rfl)).symm.trans h0_) (by decide), fun _ h1_ => absurd ((up_self b 10).symm.trans h1_) (by decide), fun _ => crash_set HR2.out HB.out RW.out.2 RW.out.1 HRz.out, Q_X7_⟩
              exact steps_nil
            rintro b a w5 hall ⟨A37, n37, c37, m7_, ha, Q_HB, Q_GY, Q_RW, Q_HX, Q_X7_⟩
            clear GY HB
            have hb0_ := hall 0 (by kernel_rfl)
            have hb1_ := hall 1 (by kernel_rfl)
            have hb2_ := hall 2 (by kernel_rfl)
            have hb3_ := hall 3 (by kernel_rfl)
            have hb4_ := hall 4 (by kernel_rfl)
            have hb5_ := hall 5 (by kernel_rfl)
            have hb6_ := hall 6 (by kernel_rfl)
            have hb7_ := hall 7 (by kernel_rfl)
            have hb8_ := hall 8 (by kernel_rfl)
            have hb9_ := hall 9 (by kernel_rfl)
            have hb10_ := hall 10 (by kernel_rfl)
            subst ha
            obtain rfl := Q_X7_ hb7_
            simp only [putSel, hb0_, hb1_, hb2_, hb3_, hb4_, hb5_, hb6_, hb7_, hb8_, hb9_, hb10_, if_true, Act.put, List.setIfInBounds_toArray, List.set_cons_zero, List.set_cons_succ]
            clear Q_HB
            clear Q_GY
            clear Q_RW
            have HX := Aside0.mk (Q_HX hb10_)
            clear Q_HX
            clear hall hb0_ hb1_ hb2_ hb3_ hb4_ hb5_ hb6_ hb7_ hb8_ hb9_ hb10_
            have HKf := Aside0.mk ((HK.out.then_ (Kept.of_below HB2'.out (q.T gq)) (fun k hk => .inl hk)).then_ HX.out.2 (fun k hk => .inl (by unfold RR.T at hk ⊢; rw [← HQ1.out.1]; exact hk)))
            go_wp2_with fail
            go_roundw
            case rel => exact ⟨k + 1, { q1 with sA := A37, sn := n37, sc := c37, sf := R }, by omega, by go_num, ⟨HX.out.1⟩, ⟨HQ1.out.1, HQ1.out.2.1, HQ1.out.2.2.1, HQ1.out.2.2.2.1, HRk.out, HRl.out⟩, HKf⟩
            case measure => simp [intOf]; omega
          · replace hcut : x.cut = false := by simpa using hcut
            rw [hcut] at hg1
            obtain ⟨R, hR⟩ : ∃ R, rput ⟨x.nm, x.A, x.c, x.d⟩ q1.sf false = R := ⟨_, rfl⟩
            have HCt := Aside0.mk (fun (W : World) (hb : Below w2.heap.size w2 W) => show Calls Try.prog 61 #[.slice q1.sA q1.sn q1.sc, .string x.nm, .slice x.A x.d.size x.c] W (FilesP W R) from hR ▸ put_calls q1.sA q1.sn q1.sc q1.sf ⟨x.nm, x.A, x.c, x.d⟩ W (HR2.out.below hb).sure.C (by have := HQ1.out.2.2.2.2.2; have := HNL.out.2.1; omega))
            have HRm := Aside0.mk (show ∀ y ∈ R, y = ⟨x.nm, x.A, x.c, x.d⟩ ∨ y ∈ q1.sf from fun y hy => by rw [← hR] at hy; exact mem_rput hy)
            have HRk := Aside0.mk (show R.map keyD = pickR (q.sf.map keyD) (q.ll.map keyW) p (k + 1) by
              rw [pickR_yes HXk.out HPk.out, ← HQ1.out.2.2.2.2.1, ← hR, rput_key]
              unfold doR
              rw [if_neg (show ¬ (keyW x).2.1 = true by show ¬ x.cut = true; rw [hcut]; decide)]
              rfl)
            have HRl := Aside0.mk (show R.length ≤ q.sf.length + (k + 1) by have h1 := rput_len2 ⟨x.nm, x.A, x.c, x.d⟩ q1.sf false; rw [hR] at h1; have := HQ1.out.2.2.2.2.2; simp only [Bool.false_eq_true, if_false] at h1; omega)
            have HRz := Aside0.mk (show FZ R from fun y hy => by
              rcases HRm.out y hy with rfl | hy
              · exact HR2.out.zl x HXm.out
              · exact HR2.out.zs y hy)
            clear hR hcut
            go_upto_region 6 with fail
            clear hg1 hxp hyb hyb2 hkd hkd2
            refine start_ (n := 13) (S := fun w' => True) (ds := []) #[false, false, false, false, false, false, false, false, false, false, false, false, false] (by kernel_rfl) rfl rfl trivial (fun hHeld => ?_)
            refine with_tabW t_mailsackref13_Rack_Crash.tab6 t_mailsackref13_Rack_Crash.bits6 (fun HT_ HW_ => ?_)
            have hd_ := (below_drew1 (Below.refl w2.heap.size w2))
            have n_HB := Aside0.mk (HB.out.drew)
            have n_GY := Aside0.mk ((show w2.drew.heap[g_Y]? = _ from GY.out))
            clear HB
            have HB := n_HB
            clear n_HB
            clear GY
            have GY := n_GY
            clear n_GY
            generalize w2.drew = w_d at *
            clear hd_
            refine inv_at [0, 1, 2, 3, 4, 5, 6, 7, 8, 9, 10, 11, 12] (fun a0_ b a w' => ∃ (A49 : Option Addr) (n49 : Nat) (c49 : Nat) (m9_ : Value), a = putSel a0_ b [(0, 40, .pointer (some ⟨gq, 0, none⟩)), (1, 41, .pointer (some ⟨gq, 0, none⟩)), (2, 42, .pointer (some ⟨gq, 0, none⟩)), (3, 43, .pointer (some ⟨gq, 2, none⟩)), (4, 44, .slice q1.sA q1.sn q1.sc), (5, 45, .pointer (some ⟨g_Y, 0, none⟩)), (6, 46, .string x.nm), (7, 47, .pointer (some ⟨g_Y, 2, none⟩)), (8, 48, .slice x.A x.d.size x.c), (9, 49, m9_), (10, 50, .pointer (some ⟨gq, 0, none⟩)), (11, 51, .pointer (some ⟨gq, 2, none⟩))] ∧ (b 12 = false → Below w2.heap.size w2 w') ∧ (b 9 = false → w'.heap[g_Y]? = some (.cells #[.string x.nm, .bool x.cut, .slice x.A x.d.size x.c] 64 (0, 0))) ∧ (b 9 = true → b 12 = false → n49 ≤ c49 ∧ WA w' (q1.U S gq) A49 n49 R) ∧ (b 12 = true → RefAt w0 w' S gq { q1 with sA := A49, sn := n49, sc := c49, sf := R } ∧ Kept w2 w' (q1.T gq)) ∧ (b 9 = true → (m9_ : Value) = .slice A49 n49 c49)) HT_.out HW_.out (by kernel_rfl) (by kernel_rfl) ?_ ?_ ?_
            · exact ⟨none, 0, 0, .bool false, by simp only [putSel, Bool.false_eq_true, if_false], fun _ => HB.out, fun _ => GY.out, fun h_ => absurd h_ (by decide), fun h_ => absurd h_ (by decide), fun h_ => absurd h_ (by decide)⟩
            · skip
              clear GY HB
              refine steps_cons ?_ ?_
              · rintro b a w' ⟨A49, n49, c49, m9_, ha, Q_HB, Q_GY, Q_RW, Q_HX, Q_X9_⟩ hb_ hon hoff
                refine ⟨_, rfl, fun K hK => ?_⟩
                have e0 : a.tmps[0]? = some (.pointer (some ⟨gq, 0, none⟩)) := by rw [ha]; exact (putSel_off rfl).trans rfl
                replace ha := Aside0.mk ha
                refine value_ (w1 := w') (v := .pointer (some ⟨gq, 0, none⟩)) (by rfl) rfl ?_ ?_
                · go_simp
                  try first | rfl | assumption
                refine hK.out _ _ ⟨A49, n49, c49, m9_, (by rw [ha.out]; exact putSel_upk 0 hb_ rfl rfl rfl), Q_HB, Q_GY, Q_RW, fun h0_ => absurd ((hoff 12 (by kernel_rfl)).symm.trans h0_) (by decide), Q_X9_⟩
              refine steps_cons ?_ ?_
              · rintro b a w' ⟨A49, n49, c49, m9_, ha, Q_HB, Q_GY, Q_RW, Q_HX, Q_X9_⟩ hb_ hon hoff
                refine ⟨_, rfl, fun K hK => ?_⟩
                have e0 : a.tmps[0]? = some (.pointer (some ⟨gq, 0, none⟩)) := by rw [ha]; exact (putSel_off rfl).trans rfl
                replace ha := Aside0.mk ha
                refine value_ (w1 := w') (v := .pointer (some ⟨gq, 0, none⟩)) (by rfl) rfl ?_ ?_
                · go_simp
                  try first | rfl | assumption
                refine hK.out _ _ ⟨A49, n49, c49, m9_, (by rw [ha.out]; exact putSel_upk 1 hb_ rfl rfl rfl), Q_HB, Q_GY, fun h0_ _ => absurd ((hoff 9 (by kernel_rfl)).symm.trans h0_) (by decide), fun h0_ => absurd ((hoff 12 (by kernel_rfl)).symm.trans h0_) (by decide), fun h0_ => absurd ((hoff 9 (by kernel_rfl)).symm.trans h0_) (by decide)⟩
              refine steps_cons ?_ ?_
              · rintro b a w' ⟨A49, n49, c49, m9_, ha, Q_HB, Q_GY, Q_RW, Q_HX, Q_X9_⟩ hb_ hon hoff
                refine ⟨_, rfl, fun K hK => ?_⟩
                have e41 : a.tmps[41]? = some (.pointer (some ⟨gq, 0, none⟩)) := by rw [ha]; exact putSel_on (e := (1, 41, .pointer (some ⟨gq, 0, none⟩))) 1 rfl rfl (hon 1 (by kernel_rfl)) rfl
                replace ha := Aside0.mk ha
                refine value_ (w1 := w') (v := .pointer (some ⟨gq, 0, none⟩)) (by rfl) rfl ?_ ?_
                · go_simp
                  try first | rfl | assumption
                refine hK.out _ _ ⟨A49, n49, c49, m9_, (by rw [ha.out]; exact putSel_upk 2 hb_ rfl rfl rfl), Q_HB, Q_GY, fun h0_ _ => absurd ((hoff 9 (by kernel_rfl)).symm.trans h0_) (by decide), fun h0_ => absurd ((hoff 12 (by kernel_rfl)).symm.trans h0_) (by decide), fun h0_ => absurd ((hoff 9 (by kernel_rfl)).symm.trans h0_) (by decide)⟩
              refine steps_cons ?_ ?_
              · rintro b a w' ⟨A49, n49, c49, m9_, ha, Q_HB, Q_GY, Q_RW, Q_HX, Q_X9_⟩ hb_ hon hoff
                refine ⟨_, rfl, fun K hK => ?_⟩
                have e42 : a.tmps[42]? = some (.pointer (some ⟨gq, 0, none⟩)) := by rw [ha]; exact putSel_on (e := (2, 42, .pointer (some ⟨gq, 0, none⟩))) 2 rfl rfl (hon 2 (by kernel_rfl)) rfl
                replace ha := Aside0.mk ha
                refine value_ (w1 := w') (v := .pointer (some ⟨gq, 2, none⟩)) (by rfl) rfl ?_ ?_
                · go_simp
                  try first | rfl | assumption
                refine hK.out _ _ ⟨A49, n49, c49, m9_, (by rw [ha.out]; exact putSel_upk 3 hb_ rfl rfl rfl), Q_HB, Q_GY, fun h0_ _ => absurd ((hoff 9 (by kernel_rfl)).symm.trans h0_) (by decide), fun h0_ => absurd ((hoff 12 (by kernel_rfl)).symm.trans h0_) (by decide), fun h0_ => absurd ((hoff 9 (by kernel_rfl)).symm.trans h0_) (by decide)⟩
              refine steps_cons ?_ ?_
              · rintro b a w' ⟨A49, n49, c49, m9_, ha, Q_HB, Q_GY, Q_RW, Q_HX, Q_X9_⟩ hb_ hon hoff
                refine ⟨_, rfl, fun K hK => ?_⟩
                have e43 : a.tmps[43]? = some (.pointer (some ⟨gq, 2, none⟩)) := by rw [ha]; exact putSel_on (e := (3, 43, .pointer (some ⟨gq, 2, none⟩))) 3 rfl rfl (hon 3 (by kernel_rfl)) rfl
                replace ha := Aside0.mk ha
                have HB := Aside0.mk (Q_HB (hoff 12 (by kernel_rfl)))
                have hc0 := sure_c (HR2.out.below HB.out)
                refine value_ (w1 := w') (v := .slice q1.sA q1.sn q1.sc) (by rfl) rfl ?_ ?_
                · go_simp
                  try first | rfl | assumption
                refine hK.out _ _ ⟨A49, n49, c49, m9_, (by rw [ha.out]; exact putSel_upk 4 hb_ rfl rfl rfl), Q_HB, Q_GY, fun h0_ _ => absurd ((hoff 9 (by kernel_rfl)).symm.trans h0_) (by decide), fun h0_ => absurd ((hoff 12 (by kernel_rfl)).symm.trans h0_) (by decide), fun h0_ => absurd ((hoff 9 (by kernel_rfl)).symm.trans h0_) (by decide)⟩
              refine steps_cons ?_ ?_
              · rintro b a w' ⟨A49, n49, c49, m9_, ha, Q_HB, Q_GY, Q_RW, Q_HX, Q_X9_⟩ hb_ hon hoff
                refine ⟨_, rfl, fun K hK => ?_⟩
                have e5 : a.tmps[5]? = some (.pointer (some ⟨g_Y, 0, none⟩)) := by rw [ha]; exact (putSel_off rfl).trans rfl
                replace ha := Aside0.mk ha
                refine value_ (w1 := w') (v := .pointer (some ⟨g_Y, 0, none⟩)) (by rfl) rfl ?_ ?_
                · go_simp
                  try first | rfl | assumption
                refine hK.out _ _ ⟨A49, n49, c49, m9_, (by rw [ha.out]; exact putSel_upk 5 hb_ rfl rfl rfl), Q_HB, Q_GY, fun h0_ _ => absurd ((hoff 9 (by kernel_rfl)).symm.trans h0_) (by decide), fun h0_ => absurd ((hoff 12 (by kernel_rfl)).symm.trans h0_) (by decide), fun h0_ => absurd ((hoff 9 (by kernel_rfl)).symm.trans h0_) (by decide)⟩
              refine steps_cons ?_ ?_
              · rintro b a w' ⟨A49, n49, c49, m9_, ha, Q_HB, Q_GY, Q_RW, Q_HX, Q_X9_⟩ hb_ hon hoff
                refine ⟨_, rfl, fun K hK => ?_⟩
                have e45 : a.tmps[45]? = some (.pointer (some ⟨g_Y, 0, none⟩)) := by rw [ha]; exact putSel_on (e := (5, 45, .pointer (some ⟨g_Y, 0, none⟩))) 5 rfl rfl (hon 5 (by kernel_rfl)) rfl
                replace ha := Aside0.mk ha
                have GY := Aside0.mk (Q_GY (hoff 9 (by kernel_rfl)))
                have hc0 := blk_cell GY.out 0
                refine value_ (w1 := w') (v := .string x.nm) (by rfl) rfl ?_ ?_
                · go_simp
                  try first | rfl | assumption
                refine hK.out _ _ ⟨A49, n49, c49, m9_, (by rw [ha.out]; exact putSel_upk 6 hb_ rfl rfl rfl), Q_HB, Q_GY, fun h0_ _ => absurd ((hoff 9 (by kernel_rfl)).symm.trans h0_) (by decide), fun h0_ => absurd ((hoff 12 (by kernel_rfl)).symm.trans h0_) (by decide), fun h0_ => absurd ((hoff 9 (by kernel_rfl)).symm.trans h0_) (by decide)⟩
              refine steps_cons ?_ ?_
              · rintro b a w' ⟨A49, n49, c49, m9_, ha, Q_HB, Q_GY, Q_RW, Q_HX, Q_X9_⟩ hb_ hon hoff
                refine ⟨_, rfl, fun K hK => ?_⟩
                have e5 : a.tmps[5]? = some (.pointer (some ⟨g_Y, 0, none⟩)) := by rw [ha]; exact (putSel_off rfl).trans rfl
                replace ha := Aside0.mk ha
                refine value_ (w1 := w') (v := .pointer (some ⟨g_Y, 2, none⟩)) (by rfl) rfl ?_ ?_
                · go_simp
                  try first | rfl | assumption
                refine hK.out _ _ ⟨A49, n49, c49, m9_, (by rw [ha.out]; exact putSel_upk 7 hb_ rfl rfl rfl), Q_HB, Q_GY, fun h0_ _ => absurd ((hoff 9 (by kernel_rfl)).symm.trans h0_) (by decide), fun h0_ => absurd ((hoff 12 (by kernel_rfl)).symm.trans h0_) (by decide), fun h0_ => absurd ((hoff 9 (by kernel_rfl)).symm.trans h0_) (by decide)⟩
              refine steps_cons ?_ ?_
              · rintro b a w' ⟨A49, n49, c49, m9_, ha, Q_HB, Q_GY, Q_RW, Q_HX, Q_X9_⟩ hb_ hon hoff
                refine ⟨_, rfl, fun K hK => ?_⟩
                have e47 : a.tmps[47]? = some (.pointer (some ⟨g_Y, 2, none⟩)) := by rw [ha]; exact putSel_on (e := (7, 47, .pointer (some ⟨g_Y, 2, none⟩))) 7 rfl rfl (hon 7 (by kernel_rfl)) rfl
                replace ha := Aside0.mk ha
                have GY := Aside0.mk (Q_GY (hoff 9 (by kernel_rfl)))
                have hc2 := blk_cell GY.out 2
                refine value_ (w1 := w') (v := .slice x.A x.d.size x.c) (by rfl) rfl ?_ ?_
                · go_simp
                  try first | rfl | assumption
                refine hK.out _ _ ⟨A49, n49, c49, m9_, (by rw [ha.out]; exact putSel_upk 8 hb_ rfl rfl rfl), Q_HB, Q_GY, fun h0_ _ => absurd ((hoff 9 (by kernel_rfl)).symm.trans h0_) (by decide), fun h0_ => absurd ((hoff 12 (by kernel_rfl)).symm.trans h0_) (by decide), fun h0_ => absurd ((hoff 9 (by kernel_rfl)).symm.trans h0_) (by decide)⟩
              refine steps_cons ?_ ?_
              · rintro b a w' ⟨A49, n49, c49, m9_, ha, Q_HB, Q_GY, Q_RW, Q_HX, Q_X9_⟩ hb_ hon hoff
                refine ⟨_, rfl, fun K hK => ?_⟩
                have e44 : a.tmps[44]? = some (.slice q1.sA q1.sn q1.sc) := by rw [ha]; exact putSel_on (e := (4, 44, .slice q1.sA q1.sn q1.sc)) 4 rfl rfl (hon 4 (by kernel_rfl)) rfl
                have e46 : a.tmps[46]? = some (.string x.nm) := by rw [ha]; exact putSel_on (e := (6, 46, .string x.nm)) 6 rfl rfl (hon 6 (by kernel_rfl)) rfl
                have e48 : a.tmps[48]? = some (.slice x.A x.d.size x.c) := by rw [ha]; exact putSel_on (e := (8, 48, .slice x.A x.d.size x.c)) 8 rfl rfl (hon 8 (by kernel_rfl)) rfl
                replace ha := Aside0.mk ha
                have HB := Aside0.mk (Q_HB (hoff 12 (by kernel_rfl)))
                refine goes_ Try.func61 (by kernel_rfl) rfl #[.slice q1.sA q1.sn q1.sc, .string x.nm, .slice x.A x.d.size x.c] (by rfl) rfl rfl (by first | (simp only [List.map_toArray, List.map_cons, List.map_nil, Act.eval, Array.getD_eq_getD_getElem?, Option.getD_some, e44, e46, e48]; done) | (simp only [List.map_toArray, List.map_cons, List.map_nil, Act.eval, Array.getD_eq_getD_getElem?, Option.getD_some, e44, e46, e48]; rfl)) ?_
                with_reducible refine (HCt.out w' HB.out).mono ?_
                rintro e wq ⟨Aq, nq, cq, rfl, hR, hb⟩
                refine ⟨_, rfl, ?_⟩
                refine hK.out _ _ ⟨Aq, nq, cq, (.slice Aq nq cq), (by rw [ha.out]; exact putSel_upk 9 hb_ rfl rfl rfl), fun _ => HB.out.trans (hb.mono HB.out.size), fun h0_ => absurd ((up_self b 9).symm.trans h0_) (by decide), fun _ _ => ⟨(Kd.R_reads' hR).2.1, crash_row HR2.out HB.out HXd.out HRm.out HUl.out hR hb⟩, fun h0_ => absurd ((hoff 12 (by kernel_rfl)).symm.trans h0_) (by decide), fun _ => rfl⟩
              refine steps_cons ?_ ?_
              · rintro b a w' ⟨A49, n49, c49, m9_, ha, Q_HB, Q_GY, Q_RW, Q_HX, Q_X9_⟩ hb_ hon hoff
                refine ⟨_, rfl, fun K hK => ?_⟩
                have e40 : a.tmps[40]? = some (.pointer (some ⟨gq, 0, none⟩)) := by rw [ha]; exact putSel_on (e := (0, 40, .pointer (some ⟨gq, 0, none⟩))) 0 rfl rfl (hon 0 (by kernel_rfl)) rfl
                replace ha := Aside0.mk ha
                refine value_ (w1 := w') (v := .pointer (some ⟨gq, 0, none⟩)) (by rfl) rfl ?_ ?_
                · go_simp
                  try first | rfl | assumption
                refine hK.out _ _ ⟨A49, n49, c49, m9_, (by rw [ha.out]; exact putSel_upk 10 hb_ rfl rfl rfl), Q_HB, fun h0_ => absurd ((hon 9 (by kernel_rfl)).symm.trans h0_) (by decide), Q_RW, fun h0_ => absurd ((hoff 12 (by kernel_rfl)).symm.trans h0_) (by decide), Q_X9_⟩
              refine steps_cons ?_ ?_
              · rintro b a w' ⟨A49, n49, c49, m9_, ha, Q_HB, Q_GY, Q_RW, Q_HX, Q_X9_⟩ hb_ hon hoff
                refine ⟨_, rfl, fun K hK => ?_⟩
                have e50 : a.tmps[50]? = some (.pointer (some ⟨gq, 0, none⟩)) := by rw [ha]; exact putSel_on (e := (10, 50, .pointer (some ⟨gq, 0, none⟩))) 10 rfl rfl (hon 10 (by kernel_rfl)) rfl
                replace ha := Aside0.mk ha
                refine value_ (w1 := w') (v := .pointer (some ⟨gq, 2, none⟩)) (by rfl) rfl ?_ ?_
                · go_simp
                  try first | rfl | assumption
                refine hK.out _ _ ⟨A49, n49, c49, m9_, (by rw [ha.out]; exact putSel_upk 11 hb_ rfl rfl rfl), Q_HB, fun h0_ => absurd ((hon 9 (by kernel_rfl)).symm.trans h0_) (by decide), Q_RW, fun h0_ => absurd ((hoff 12 (by kernel_rfl)).symm.trans h0_) (by decide), Q_X9_⟩
              refine steps_cons ?_ ?_
              · rintro b a w' ⟨A49, n49, c49, m9_, ha, Q_HB, Q_GY, Q_RW, Q_HX, Q_X9_⟩ hb_ hon hoff
                refine ⟨_, rfl, fun K hK => ?_⟩
                have e51 : a.tmps[51]? = some (.pointer (some ⟨gq, 2, none⟩)) := by rw [ha]; exact putSel_on (e := (11, 51, .pointer (some ⟨gq, 2, none⟩))) 11 rfl rfl (hon 11 (by kernel_rfl)) rfl
                have e49 : a.tmps[49]? = some (m9_) := by rw [ha]; exact putSel_on (e := (9, 49, m9_)) 9 rfl rfl (hon 9 (by kernel_rfl)) rfl
                rw [Q_X9_ (hon 9 (by kernel_rfl))] at e49
                replace ha := Aside0.mk ha
                have HB := Aside0.mk (Q_HB hb_)
                have RW := Aside0.mk (Q_RW (hon 9 (by kernel_rfl)) hb_)
                refine skip_step (w1 := w'.setCell ⟨gq, 2, none⟩ (.slice A49 n49 c49)) (by rfl) ?_ ?_
                · have hs := sure_c (HR2.out.below HB.out); have hf := blk_frozen (HR2.out.below HB.out).blk 2; go_simp
                refine hK.out _ _ ⟨A49, n49, c49, m9_, (by rw [ha.out]; exact putSel_none (v := undef) rfl), fun h0_ => absurd ((up_self b 12).symm.trans h0_) (by decide), fun h0_ => absurd ((hon 9 (by kernel_rfl)).symm.trans h0_) (by decide), fun _ h1_ => absurd ((up_self b 12).symm.trans h1_) (by decide), fun _ => crash_set HR2.out HB.out RW.out.2 RW.out.1 HRz.out, Q_X9_⟩
              exact steps_nil
            rintro b a w5 hall ⟨A49, n49, c49, m9_, ha, Q_HB, Q_GY, Q_RW, Q_HX, Q_X9_⟩
            clear GY HB
            have hb0_ := hall 0 (by kernel_rfl)
            have hb1_ := hall 1 (by kernel_rfl)
            have hb2_ := hall 2 (by kernel_rfl)
            have hb3_ := hall 3 (by kernel_rfl)
            have hb4_ := hall 4 (by kernel_rfl)
            have hb5_ := hall 5 (by kernel_rfl)
            have hb6_ := hall 6 (by kernel_rfl)
            have hb7_ := hall 7 (by kernel_rfl)
            have hb8_ := hall 8 (by kernel_rfl)
            have hb9_ := hall 9 (by kernel_rfl)
            have hb10_ := hall 10 (by kernel_rfl)
            have hb11_ := hall 11 (by kernel_rfl)
            have hb12_ := hall 12 (by kernel_rfl)
            subst ha
            obtain rfl := Q_X9_ hb9_
            simp only [putSel, hb0_, hb1_, hb2_, hb3_, hb4_, hb5_, hb6_, hb7_, hb8_, hb9_, hb10_, hb11_, hb12_, if_true, Act.put, List.setIfInBounds_toArray, List.set_cons_zero, List.set_cons_succ]
            clear Q_HB
            clear Q_GY
            clear Q_RW
            have HX := Aside0.mk (Q_HX hb12_)
            clear Q_HX
            clear hall hb0_ hb1_ hb2_ hb3_ hb4_ hb5_ hb6_ hb7_ hb8_ hb9_ hb10_ hb11_ hb12_
            have HKf := Aside0.mk ((HK.out.then_ (Kept.of_below HB2'.out (q.T gq)) (fun k hk => .inl hk)).then_ HX.out.2 (fun k hk => .inl (by unfold RR.T at hk ⊢; rw [← HQ1.out.1]; exact hk)))
            go_wp2_with fail
            go_roundw
            case rel => exact ⟨k + 1, { q1 with sA := A49, sn := n49, sc := c49, sf := R }, by omega, by go_num, ⟨HX.out.1⟩, ⟨HQ1.out.1, HQ1.out.2.1, HQ1.out.2.2.1, HQ1.out.2.2.2.1, HRk.out, HRl.out⟩, HKf⟩
            case measure => simp [intOf]; omega
        · have HPk := Aside0.mk (show pickB p k = false by rw [HPk.out]; exact beq_eq_false_iff_ne.2 hy1)
          obtain rfl : y = 0 := hy01.resolve_right hy1
          clear hy1 hy01
          have HNx := Aside0.mk (pickR_no (ss := q.sf.map keyD) HXk.out HPk.out)
          go_wp2_with fail
          go_roundw
          case rel => exact ⟨k + 1, q1, by omega, by go_num, ⟨HR.out.below HB2⟩, ⟨HQ1.out.1, HQ1.out.2.1, HQ1.out.2.2.1, HQ1.out.2.2.2.1, by rw [HNx.out]; exact HQ1.out.2.2.2.2.1, by have := HQ1.out.2.2.2.2.2; omega⟩, ⟨HK.out.then_ (Kept.of_below HB2 _) (fun k hk => .inl hk)⟩⟩
          case measure => simp [intOf]; omega
      · have HPk := Aside0.mk (show pickB p k = false by unfold pickB; rw [decide_eq_false hkp]; rfl)
        have hkd : decide ((p.length : Int) ≤ (k : Int)) = true := decide_eq_true (by omega)
        have hkd2 : decide (p.length ≤ k) = true := decide_eq_true (by omega)
        have HNx := Aside0.mk (pickR_no (ss := q.sf.map keyD) HXk.out HPk.out)
        go_wp2_with fail
        go_roundw
        case rel => exact ⟨k + 1, q1, by omega, by go_num, ⟨HR.out.below HB2⟩, ⟨HQ1.out.1, HQ1.out.2.1, HQ1.out.2.2.1, HQ1.out.2.2.2.1, by rw [HNx.out]; exact HQ1.out.2.2.2.2.1, by have := HQ1.out.2.2.2.2.2; omega⟩, ⟨HK.out.then_ (Kept.of_below HB2 _) (fun k hk => .inl hk)⟩⟩
        case measure => simp [intOf]; omega
    · obtain rfl : k = nL := by omega
      have c2 := sure_c HR.out
      have HUl := Aside0.mk (show ∀ k, q1.U S gq k → k < wr.heap.size from fun k hk => by
        rcases hk with hk | hk
        · exact Nat.lt_of_lt_of_le (HS.out k hk) HK.out.1
        · exact HR.out.T_lt k hk)
      have HNn := Aside0.mk (show q1.sn = q1.sf.length from HR.out.sure.C.1.symm)
      have HNil := Aside0.mk (Kd.R_nil kF 48 wr wr.heap.size (fun _ => True))
      have HSl := Aside0.mk (show q1.sf.length ≤ 20000 by have := HQ1.out.2.2.2.2.2; have := HNL.out; have := HLv.out.2; omega)
      have HF : Aside0 (∀ (w9 : World) (A9 : Option Addr) (n9 c9 : Nat), Below wr.heap.size wr w9 → WA w9 (q1.U S gq) A9 n9 q1.sf → n9 ≤ c9 → RefP w0 w S gq q (.tuple #[]) (fun q' => absR q' = crashR (absR q) p) (.returned (.tuple #[])) ((((w9.setCell ⟨gq, 1, none⟩ (.slice A9 n9 c9)).setCell ⟨gq, 3, none⟩ (.slice none 0 0)).setCell ⟨gq, 4, none⟩ (.int .i64 0)).setCell ⟨gq, 5, none⟩ (.bool false))) := ⟨fun w9 A9 n9 c9 hb hw hc => by
        obtain ⟨h1, k1⟩ := ref_setNow (HR.out.below hb) A9 n9 c9 q1.sf hw hc HR.out.zs
        obtain ⟨h2, k2⟩ := ref_noLate h1
        obtain ⟨h3, k3⟩ := ref_setLeft h2 0
        obtain ⟨h4, k4⟩ := ref_setDark h3 false
        have hT : ∀ k, RR.T gq q1 k → RR.T gq q k := fun k hk => by unfold RR.T at hk ⊢; rw [← HQ1.out.1]; exact hk
        refine ⟨rfl, step_one h4 (HK.out.then_ ((Kept.of_below hb (q1.T gq)).then_ (k1.then_ (k2.then_ (k3.then_ k4 (fun k h => .inl h)) (fun k h => .inl (h.elim .inl (fun h => by cases h)))) (fun k h => .inl h)) (fun k h => .inl h)) (fun k h => .inl (hT k h))) (fun k h => .inl (h.elim .inl (fun h => by cases h))) ?_⟩
        show absR _ = crashR (absR q) p
        unfold crashR absR
        simp only [HQ1.out.2.2.1, HQ1.out.2.2.2.1, HQ1.out.2.2.2.2.1, List.length_map, List.map_nil, HLv.out.2]⟩
      go_wp2_with ((with_reducible refine gate_builtin (b := .append) (xs := #[.const (.slice none 0 0), .tmp 60]) rfl ?_); at_builtin; refine Kd.R_append_rows kF (w0 := wr) wr.heap.size rfl (.const (.slice none 0 0)) (.tmp 60) 30 48 (.agg #[.string ⟨#[]⟩, .slice none 0 0]) 40 rfl Try.underlying30 info_file rfl (by decide) (by omega) (.slice none 0 0) [] q1.sf q1.sA q1.sn q1.sc (fun _ => True) (fun _ => False) rfl rfl HNil.out (by have h_ := HR.out.sure.C; exact h_) (fun _ _ h => h) (fun _ h => h.elim) (fun _ _ => trivial) (Below.refl _ _) (Nat.le_refl _) (by have h1_ := HNn.out; have h2_ := HSl.out; simp only [List.length_nil]; omega) ?_; intro v9 w9 ho hb hg hat; rw [List.nil_append] at ho; obtain ⟨A9, n9, c9, rfl⟩ := RkH.slc ho; have h0 := HR.out.below hb; have hrr := Kd.R_reads' ho; have hwa := wa_row ho hb HUl.out HR.out.sure.ds; have HFin := Aside0.mk (HF.out w9 A9 n9 c9 hb hwa hrr.2.1); obtain ⟨h1, _⟩ := ref_setNow h0 A9 n9 c9 q1.sf hwa hrr.2.1 HR.out.zs; obtain ⟨h2, _⟩ := ref_noLate h1; obtain ⟨h3, _⟩ := ref_setLeft h2 0; have f1 := blk_frozen h0.blk 1; have d1 := blk_cell h0.blk 1; unfold RR.cs at d1; have f3 := blk_frozen h1.blk 3; have d3 := blk_cell h1.blk 3; unfold RR.cs at d3; have f4 := blk_frozen h2.blk 4; have d4 := blk_cell h2.blk 4; unfold RR.cs at d4; have f5 := blk_frozen h3.blk 5; have d5 := blk_cell h3.blk 5; unfold RR.cs at d5; clear ho hb hg hat h0 hrr hwa h1 h2 h3 c2; skip)
      first | go_end0 | ((try simp only [Exit.inBlock, Exit.then]); refine bodyPost_ret (results_none rfl _ _ _) rfl ?_)
      exact HFin.out
end
end Go.Proofs.Ytjljgcceapkdcaa.RpG
end
section
namespace Go.Proofs.Ytjljgcceapkdcaa.RpH
open Go.RowKit Go.Proofs.YtjljgcceapkdcaaW.PrintWords Go.Proofs.YtjljgcceapkdcaaW.PrintLast Go.Proofs.YtjljgcceapkdcaaW.PrintMore Go.Proofs.Ytjljgcceapkdcaa.RkM Go.Proofs.Ytjljgcceapkdcaa.PkH Go.Proofs.Ytjljgcceapkdcaa.RkA Go.Proofs.Ytjljgcceapkdcaa.RkB Go.Proofs.Ytjljgcceapkdcaa.RkC Go.Proofs.Ytjljgcceapkdcaa.RkD Go.Proofs.Ytjljgcceapkdcaa.RkE Go.Proofs.Ytjljgcceapkdcaa.RkF Go.Proofs.Ytjljgcceapkdcaa.RkG Go.Proofs.Ytjljgcceapkdcaa.RkK Go.Proofs.Ytjljgcceapkdcaa.RkL Go.Proofs.Ytjljgcceapkdcaa.RkQ Go.Proofs.Ytjljgcceapkdcaa.RkS Go.Proofs.Ytjljgcceapkdcaa.RkU Go.Proofs.Ytjljgcceapkdcaa.RkV Go.Proofs.Ytjljgcceapkdcaa.SfA Go.Proofs.Ytjljgcceapkdcaa.SfB Go.Proofs.Ytjljgcceapkdcaa.SfP Go.Proofs.Ytjljgcceapkdcaa.SfQ Go.Proofs.Ytjljgcceapkdcaa.SfX Go.Proofs.Ytjljgcceapkdcaa.RpA Go.Proofs.Ytjljgcceapkdcaa.RpB Go.Proofs.Ytjljgcceapkdcaa.RpC Go.Proofs.Ytjljgcceapkdcaa.PkC Go.Proofs.Ytjljgcceapkdcaa.RpD Go.Proofs.Ytjljgcceapkdcaa.RpE Go.Proofs.Ytjljgcceapkdcaa.RpF Go.Proofs.Ytjljgcceapkdcaa.RpG Go.Proofs.Ytjljgcceapkdcaa.Rw
set_option linter.unusedVariables false
set_option linter.unusedSimpArgs false
section
variable {w0 w : World} {S : Nat → Prop} {gq : Nat} {q : RR}
theorem rread_none {o : Option ByteArray} {w' : World} (hb : Below w.heap.size w w') (ho : o = none) : RReadP w o (.returned (.tuple #[.slice none 0 0, .bool false])) w' := by
  subst ho
  exact ⟨hb, none, 0, rfl, Nat.le_refl _, ⟨rfl, by decide, fun h => absurd h (by decide)⟩⟩
set_option maxRecDepth 100000 in
set_option maxHeartbeats 8000000 in
theorem rread_calls (h : RefAt w0 w S gq q) (s : ByteArray) (hs : SrtK (absR q).ns) (hn : q.nf.length ≤ 10000) :
    Calls Try.prog 35 #[.pointer (some ⟨gq, 0, none⟩), .string s] w (RReadP w (readK (absR q) s)) := by
  have H := Aside0.mk h
  have HSr := Aside0.mk hs
  have HN := Aside0.mk hn
  have hu48 := Try.underlying48
  have c1 := ref_c h 1
  replace c1 : w.cell? ⟨gq, 1, none⟩ = some (.slice q.nA q.nn q.nc) := c1
  clear h hs hn
  go_enter Try.func35, Try.ntmps35
  by_cases hx : ∀ f ∈ q.nf, f.nm ≠ s
  · have HAt := Aside0.mk (at_no (c := q.nc) H.out.now.C (by have := HN.out; omega) hx)
    have HO := Aside0.mk (show readK (absR q) s = none by
      unfold readK
      split
      · rfl
      · exact Option.isNone_iff_eq_none.1 ((none_iff q.nf s).2 hx))
    clear hx
    go_upto_region 2 with (go_at_call 64; refine HAt.out.mono ?_; rintro e_ w2 ⟨hb, rfl⟩; have HB2 := Aside0.mk hb; clear hb HAt; skip)
    have c5 := ref_c (H.out.below HB2.out) 5
    replace c5 : w2.cell? ⟨gq, 5, none⟩ = some (.bool q.dark) := c5
    have HF := Aside0.mk (rread_none HB2.out HO.out)
    cases hdk : q.dark with
    | true =>
      rw [hdk] at c5
      clear hdk c1
      go_wp2_with fail
      go_ret2
      exact HF.out
    | false =>
      rw [hdk] at c5
      clear hdk c1
      go_wp2_with fail
      go_ret2
      exact HF.out
  have HAt := Aside0.mk (at_yes (c := q.nc) H.out.now.C (by have := HN.out; omega) hx)
  clear hx
  go_upto_region 2 with (go_at_call 64; refine HAt.out.mono ?_; rintro e_ w2 ⟨hb, ik, f, hf, hfs, rfl⟩; have HB2 := Aside0.mk hb; have HFk := Aside0.mk hf; have HFs := Aside0.mk hfs; have hik : decide ((ik : Int) < 0) = false := decide_eq_false (by omega); clear hb hf hfs HAt; skip)
  have H2 := Aside0.mk (H.out.below HB2.out)
  have c5 := ref_c H2.out 5
  replace c5 : w2.cell? ⟨gq, 5, none⟩ = some (.bool q.dark) := c5
  cases hdk : q.dark with
  | true =>
    have HF := Aside0.mk (rread_none (o := readK (absR q) s) HB2.out (by unfold readK; rw [if_pos (show (absR q).down = true from hdk)]))
    rw [hdk] at c5
    clear hdk c1
    go_wp2_with fail
    go_ret2
    exact HF.out
  | false =>
    have HO := Aside0.mk (show readK (absR q) s = some f.d by
      unfold readK
      rw [if_neg (show ¬ (absR q).down = true by rw [show (absR q).down = q.dark from rfl, hdk]; decide), ← HFs.out]
      exact find_mem HSr.out (x := keyD f) (List.mem_map_of_mem (List.mem_of_getElem? HFk.out)))
    rw [hdk] at c5
    clear hdk c1
    have c1 := ref_c H2.out 1
    replace c1 : w2.cell? ⟨gq, 1, none⟩ = some (.slice q.nA q.nn q.nc) := c1
    have hkn : ik < q.nn := by rw [← H2.out.now.C.1]; exact (List.getElem?_eq_some_iff.1 HFk.out).1
    obtain ⟨ad, e3, f0, f1⟩ := at_F H2.out.now.C ik hkn f HFk.out
    rw [e3] at c1
    have HDb := Aside0.mk (H2.out.now.db f (List.mem_of_getElem? HFk.out))
    have HSl := Aside0.mk (show Sl w2 f.A f.d.size f.c (bytesOf f.d) from ⟨(bytesOf_length f.d).symm, HDb.out.cap, HDb.out.C⟩)
    have HON := Aside0.mk (show Ow w2 w2.heap.size none 0 0 ([] : List Int) from ⟨Kd.R_nil _ _ _ _ _, Sl.nil _⟩)
    have hdz : f.d.size ≤ 200000 := (H.out.zn f (List.mem_of_getElem? HFk.out)).2
    have hnn9 : (q.nn : Int) ≤ 10000 := by have h1 := H2.out.now.C.1; have h2 := HN.out; omega
    have HDz := Aside0.mk hdz
    obtain ⟨nn, hnn⟩ : ∃ nn, q.nn = nn := ⟨_, rfl⟩
    rw [hnn] at c1 hkn hnn9
    clear e3 hdz hnn
    go_wp2_with ((with_reducible refine gate_builtin (b := .append) (xs := #[.const (.slice none 0 0), .tmp 28]) rfl ?_); at_builtin; refine append_sl rfl (.const (.slice none 0 0)) (.tmp 28) rfl HON.out HSl.out rfl rfl (Nat.le_refl _) (by have h_ := HDz.out; simp only [List.length_nil, bytesOf_length]; omega) ?_; intro A9 n9 c9 w9 ho hb; rw [List.nil_append] at ho; have HO9 := Aside0.mk ho; have HB9 := Aside0.mk (HB2.out.trans (hb.mono HB2.out.size)); clear ho hb; skip)
    go_ret2
    refine ⟨HB9.out, A9, c9, ?_, ?_, ?_⟩
    · rw [HO.out, show n9 = f.d.size by rw [HO9.out.sl.len, bytesOf_length]]
      rfl
    · rw [HO.out]
      have h := HO9.out.sl.cap
      rwa [HO9.out.sl.len, bytesOf_length] at h
    · rw [HO.out]
      have h := HO9.out.sl.reads
      rwa [HO9.out.sl.len, bytesOf_length] at h
end
def RNewP (w0 w : World) (room : Int) (e : Ending) (w' : World) : Prop := ∃ gq q, e = .returned (.pointer (some ⟨gq, 0, none⟩)) ∧ (∀ S : Nat → Prop, (∀ k, S k → k < w.heap.size) → RefAt w0 w' S gq q) ∧ absR q = ⟨max 0 (min room 1000000), [], [], [], 0, false, 0⟩ ∧ w.heap.size ≤ gq ∧ Below w.heap.size w w'
theorem new_fin {w0 w w2 : World} {room : Int} {gq : Nat} (hB : Below w0.heap.size w0 w) (hq : w.heap.size ≤ gq) (hbx : w2.heap[gq]? = some (.cells #[.int .i64 (max 0 (min room 1000000)), .slice none 0 0, .slice none 0 0, .slice none 0 0, .int .i64 0, .bool false, .int .i64 0] 92 (0, 0))) (hb : Below w.heap.size w w2) : RNewP w0 w room (.returned (.pointer (some ⟨gq, 0, none⟩))) w2 := by
  refine ⟨gq, ⟨(max 0 (min room 1000000)), none, 0, 0, [], none, 0, 0, [], .slice none 0 0, [], 0, false, 0⟩, rfl, fun S hS => ⟨hbx, ?_, Nat.le_refl _, ?_, Nat.le_refl _, Tg.nil _ _ _ _, fun x hx => (by cases hx), Nat.le_trans hB.size hq, hB.trans (hb.mono hB.size), fun k hk hs => ?_, fun x hx => (by cases hx), fun x hx => (by cases hx), fun x hx => (by cases hx)⟩, ?_, hq, hb⟩
  · exact ⟨Kd.C_nil _ _, fun ad e => (by cases e), fun x hx => (by cases hx)⟩
  · exact ⟨Kd.C_nil _ _, fun ad e => (by cases e), fun x hx => (by cases hx)⟩
  · rcases hk with rfl | hk
    · have := hS _ hs
      omega
    · cases hk
  · rfl
theorem rnew_calls (w0 : World) (room : Int) (w : World) (hB : Below w0.heap.size w0 w) :
    Calls Try.prog 29 #[.int .i64 room] w (RNewP w0 w room) := by
  have HB0 := Aside0.mk hB
  have hu92 := Try.underlying92
  clear hB
  go_enter Try.func29, Try.ntmps29
  go_wp2_with ((with_reducible refine gate_dst (N := 7) rfl ?_); refine box_event ?hgG (N := 7) ?hdG (cs := #[.int .i64 (max 0 (min room 1000000)), .slice none 0 0, .slice none 0 0, .slice none 0 0, .int .i64 0, .bool false, .int .i64 0]) (t := 92) ?hrG ?_; (case hdG => rfl); (case hgG => rfl); (case hrG => first | (go_simp; done) | (go_simp; rfl)); intro gq hq_ w2 hbx_ hb_; have HP := Aside0.mk (new_fin HB0.out (Nat.le_of_eq hq_.symm) hbx_ hb_); clear hq_ hbx_ hb_; skip)
  go_ret
  exact HP.out
end Go.Proofs.Ytjljgcceapkdcaa.RpH
end
