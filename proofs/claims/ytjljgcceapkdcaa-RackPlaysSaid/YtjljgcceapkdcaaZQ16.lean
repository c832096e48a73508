-- The used parts of 1 texts, laid together by merge.py.
import Derived.Test.YtjljgcceapkdcaaZQ15
section
namespace Go.Proofs.Ytjljgcceapkdcaa.SfG
open Go.RowKit Go.Proofs.YtjljgcceapkdcaaW.PrintWords Go.Proofs.YtjljgcceapkdcaaW.PrintLast Go.Proofs.YtjljgcceapkdcaaW.PrintMore Go.Proofs.Ytjljgcceapkdcaa.PkP Go.Proofs.Ytjljgcceapkdcaa.PkQ Go.Proofs.Ytjljgcceapkdcaa.PkH Go.Proofs.Ytjljgcceapkdcaa.PkR Go.Proofs.Ytjljgcceapkdcaa.PkC Go.Proofs.Ytjljgcceapkdcaa.RkA Go.Proofs.Ytjljgcceapkdcaa.RkB Go.Proofs.Ytjljgcceapkdcaa.RkC Go.Proofs.Ytjljgcceapkdcaa.RkD Go.Proofs.Ytjljgcceapkdcaa.RkE Go.Proofs.Ytjljgcceapkdcaa.RkI Go.Proofs.Ytjljgcceapkdcaa.RkK Go.Proofs.Ytjljgcceapkdcaa.RkL Go.Proofs.Ytjljgcceapkdcaa.RkS Go.Proofs.Ytjljgcceapkdcaa.SfA Go.Proofs.Ytjljgcceapkdcaa.SfE Go.Proofs.Ytjljgcceapkdcaa.SfF Go.Proofs.Ytjljgcceapkdcaa.SfP Go.Proofs.Ytjljgcceapkdcaa.SfQ Go.Proofs.Ytjljgcceapkdcaa.SfR Go.Proofs.Ytjljgcceapkdcaa.SfW Go.Proofs.Ytjljgcceapkdcaa.SfV Go.Proofs.Ytjljgcceapkdcaa.Rw
set_option linter.unusedVariables false
set_option linter.unusedSimpArgs false
def t_safe_Safe_Fits.T6 : Bool × List (List Nat × List Nat) := (true, [([], []), ([], []), ([], []), ([1, 2], [1, 2]), ([0, 3], [0, 3])])
def t_safe_Safe_Fits.B6 : List Nat := [0, 0, 0, 6, 15]
theorem t_safe_Safe_Fits.tab6 : rtab .any (opsOf Try.f49 6) = t_safe_Safe_Fits.T6 := by kernel_rfl
theorem t_safe_Safe_Fits.bits6 : waitsOk t_safe_Safe_Fits.T6.2 t_safe_Safe_Fits.B6 = true := by kernel_rfl
def t_safe_Safe_Fits.T12 : Bool × List (List Nat × List Nat) := (true, [([], []), ([0], [0]), ([1], [1]), ([2], [2]), ([], []), ([4], [4]), ([5], [5]), ([6], [6]), ([7, 1], [7]), ([], []), ([9, 8], [9]), ([8, 10], [8, 10]), ([3, 10, 0, 1, 2, 3], [3]), ([11, 12, 0, 1, 2, 3, 4, 5, 6, 7, 8, 9, 10, 11, 12], [11])])
def t_safe_Safe_Fits.B12 : List Nat := [0, 1, 3, 7, 0, 16, 48, 112, 243, 0, 1011, 2035, 2047, 8191]
theorem t_safe_Safe_Fits.tab12 : rtab .any (opsOf Try.f49 12) = t_safe_Safe_Fits.T12 := by kernel_rfl
theorem t_safe_Safe_Fits.bits12 : waitsOk t_safe_Safe_Fits.T12.2 t_safe_Safe_Fits.B12 = true := by kernel_rfl
def t_safe_Safe_Fits.T19 : Bool × List (List Nat × List Nat) := (true, [([], []), ([0], [0]), ([1], [1]), ([2], [2]), ([], []), ([4], [4]), ([3, 5], [3, 5]), ([6], [6]), ([7], [7]), ([7], [7]), ([8, 6, 0, 1, 2, 3, 4, 5, 6, 7, 8], [8]), ([9, 10, 0, 1, 2, 3, 4, 5, 6, 7, 8, 9, 10], [9])])
def t_safe_Safe_Fits.B19 : List Nat := [0, 1, 3, 7, 0, 16, 63, 127, 255, 255, 511, 2047]
theorem t_safe_Safe_Fits.tab19 : rtab .any (opsOf Try.f49 19) = t_safe_Safe_Fits.T19 := by kernel_rfl
theorem t_safe_Safe_Fits.bits19 : waitsOk t_safe_Safe_Fits.T19.2 t_safe_Safe_Fits.B19 = true := by kernel_rfl
def t_safe_Safe_Fits.T26 : Bool × List (List Nat × List Nat) := (true, [([], []), ([0], [0]), ([1], [1]), ([2], [2]), ([2], [2]), ([4, 2], [2, 4]), ([5, 2], [2, 5]), ([6, 2], [2, 6]), ([7, 2, 2], [2, 7]), ([2], [2]), ([9, 2], [2, 9]), ([10, 2], [2, 10]), ([11, 2], [2, 11]), ([12, 8, 2], [2, 12]), ([8, 13, 2], [2, 8, 13]), ([3, 14, 2], [2, 3, 14]), ([2, 15], [2, 15])])
def t_safe_Safe_Fits.B26 : List Nat := [0, 1, 3, 7, 7, 23, 55, 119, 247, 7, 519, 1543, 3591, 8183, 16375, 32767, 65535]
theorem t_safe_Safe_Fits.tab26 : rtab .any (opsOf Try.f49 26) = t_safe_Safe_Fits.T26 := by kernel_rfl
theorem t_safe_Safe_Fits.bits26 : waitsOk t_safe_Safe_Fits.T26.2 t_safe_Safe_Fits.B26 = true := by kernel_rfl
theorem w64k {x : Int} (h : -9223372036854775808 ≤ x ∧ x ≤ 9223372036854775807) : IntKind.i64.wrap x = x := by rw [IntKind.wrap_i64]; omega
theorem okB_of {ls : List WR} (n : Nat) (hn : ls.length = n) (h : ∀ j x, j < n → ls[j]? = some x → wrongB (keyW x) ((ls.take j).map keyW) = false) : okK [] (ls.map keyW) = true := by
  rw [okK_iff]
  intro k x hx
  rw [List.getElem?_map] at hx
  obtain ⟨y, hy, rfl⟩ := Option.map_eq_some_iff.1 hx
  have hk := (List.getElem?_eq_some_iff.1 hy).1
  rw [List.nil_append, ← List.map_take]
  exact h k y (by omega) hy
theorem okB_no {ls : List WR} {k : Nat} {x : WR} (hx : ls[k]? = some x) (h : wrongB (keyW x) ((ls.take k).map keyW) = true) : okK [] (ls.map keyW) = false := by
  cases ho : okK [] (ls.map keyW) with
  | false => rfl
  | true =>
    have h2 := (okK_iff _ _).1 ho k (keyW x) (by rw [List.getElem?_map, hx]; rfl)
    rw [List.nil_append, ← List.map_take, h] at h2
    cases h2
theorem sl_to (A : Option Addr) (n c k : Nat) (h1 : k ≤ n) (h2 : n ≤ c) : ∀ W : World, (Instr.slice 56 (.slice A n c) none (some (.int .i64 (k : Int))) none).run Try.prog W = .ok (.slice A k c) W := by
  obtain ⟨i0, hi, hzz⟩ := Option.map_eq_some_iff.1 SfB.info_change
  simp only [Prod.mk.injEq] at hzz
  have h3 := cut_to (P := Try.prog) 56 64 .i64 Try.underlying56 hi A n c (k : Int) (by omega) (by omega) h2
  rw [Int.toNat_natCast] at h3
  exact h3
section
variable (w0 : World) (q g : Nat) (r : RS) (w : World)
def FitsP (w : World) (r : RS) (ls : List WR) (e : Ending) (w' : World) : Prop := IntP w (fitsK (abs r) (ls.map keyW)) e w'
set_option maxRecDepth 100000 in
set_option maxHeartbeats 16000000 in
theorem fits_calls (A : Option Addr) (c : Nat) (ls : List WR) (h : RackAt w0 w g r) (hq : SafeAt w (r.S g) q g) (hC : Kd.C kW w A ls.length ls) (hc : ls.length ≤ c) (hd : ∀ x ∈ ls, DW w x) (hl : (chsE ls).length ≤ 100000000000) (hn : ls.length ≤ 10000) (hnl : r.ns.length ≤ 99999) (hdn : r.down = false) (hf : findK (abs r).ns redoB = none) (hsz : ∀ x ∈ ls, x.nm.size ≤ 1000000000) :
    Calls Try.prog 49 #[.pointer (some ⟨q, 0, none⟩), .slice A ls.length c] w (FitsP w r ls) := by
  have hu64 := Try.underlying64
  have H := Aside0.mk h
  have HQ := Aside0.mk hq
  have HC := Aside0.mk hC
  have HCc := Aside0.mk hc
  have HD := Aside0.mk hd
  have HL := Aside0.mk hl
  have HNL := Aside0.mk hnl
  have HDn := Aside0.mk hdn
  have HF := Aside0.mk hf
  have HSz := Aside0.mk hsz
  have HSrt := Aside0.mk (show SrtK (abs r).ns from srt_key h.nm.srt)
  have HSum := Aside0.mk (show sumF r.ns ≤ 20100000000 by
    have h1 := sumF_le (fs := r.ns) (m := 200200) (fun x hx => by
      obtain ⟨h1, h2⟩ := h.dn x hx
      have := h2.size
      unfold costN
      omega)
    omega)
  have HRm := Aside0.mk h.rm
  obtain ⟨n, hnn⟩ : ∃ n, ls.length = n := ⟨_, rfl⟩
  have HN := Aside0.mk hnn
  have hn9 : (n : Int) ≤ 10000 := by omega
  have hcn : n ≤ c := by omega
  rw [hnn] at HC ⊢
  clear h hq hC hc hd hl hn hnl hdn hf hsz hnn
  go_enter Try.func49, Try.ntmps49
  go_wp2_with fail
  go_loopw [20] (fun i wr => ∃ k : Nat, k ≤ n ∧ i = .int .i64 k ∧ Aside0 (∀ j x, j < k → ls[j]? = some x → wrongB (keyW x) ((ls.take j).map keyW) = false) ∧ Aside0 (Below w.heap.size w wr)) (fun i _ => n - (intOf i).toNat)
  case atStart => exact ⟨0, Nat.zero_le _, rfl, ⟨fun j x hj => absurd hj (Nat.not_lt_zero _)⟩, ⟨Below.refl _ _⟩⟩
  case round =>
    obtain ⟨k, hk, rfl, HO, HB⟩ := hrel
    by_cases hlt : k < n
    · obtain ⟨x, hx⟩ : ∃ x, ls[k]? = some x := ⟨_, List.getElem?_eq_getElem (by rw [HN.out]; exact hlt)⟩
      obtain ⟨ad, e1, x0, x1, x2⟩ := at_W (Kd.C_below HC.out HB.out) k hlt x hx
      cases e1
      have HX := Aside0.mk hx
      clear hx
      have M0_0 := Aside0.mk (Below.refl wr.heap.size wr)
      go_upto_region 6 with ((with_reducible refine gate_dst (N := 6) rfl ?_); refine box_event ?hgY6 (N := 6) ?hdY6 (cs := #[.string (⟨#[]⟩ : ByteArray), .bool false, .slice none 0 0]) (t := 64) ?hrY6 ?_; (case hdY6 => rfl); (case hgY6 => rfl); (case hrY6 => first | (go_simp; done) | (go_simp; rfl)); intro g_Y hg_ w_1 hbx_ hb_; have L0_Y := Aside0.mk (show wr.heap.size ≤ g_Y by have := M0_0.out.size; omega); have M0_1 := Aside0.mk (M0_0.out.trans (hb_.mono M0_0.out.size)); have Y_1 := Aside0.mk hbx_; clear hg_ hbx_ hb_ M0_0; have zY0 := blk_cell Y_1.out 0; have yY0 := blk_frozen Y_1.out 0; have zY1 := blk_cell Y_1.out 1; have yY1 := blk_frozen Y_1.out 1; have zY2 := blk_cell Y_1.out 2; have yY2 := blk_frozen Y_1.out 2; skip)
      obtain ⟨w2, e2, GY2, HB2'⟩ := fresh3 M0_1.out L0_Y.out Y_1.out x
      rw [e2]
      clear e2 zY0 zY1 zY2 yY0 yY1 yY2 x0 x1 x2
      have HBw := Aside0.mk (HB.out.trans (HB2'.mono HB.out.size))
      have GY := Aside0.mk GY2
      have HB9 := HB
      have HB : Aside0 (Below w2.heap.size w2 w2) := ⟨Below.refl _ _⟩
      obtain ⟨bw, hb⟩ : ∃ bw, wrongB (keyW x) ((ls.take k).map keyW) = bw := ⟨_, rfl⟩
      have HW := Aside0.mk (fun (W : World) (h_ : Below w2.heap.size w2 W) => show Calls Try.prog 80 #[.agg #[.string x.nm, .bool x.cut, .slice x.A x.d.size x.c], .slice (some ad) k c] W (BoolP W bw) from by
        have hCb := Kd.C_below HC.out (HBw.out.trans (h_.mono HBw.out.size))
        rw [← HN.out] at hCb; have hCk := Kd.C_take hCb (m := k) (show k ≤ ls.length by rw [HN.out]; omega)
        have h1 := wrong_calls x (some ad) c (ls.take k) W hCk
        rw [List.length_take, HN.out, Nat.min_eq_left (Nat.le_of_lt hlt), hb] at h1
        exact h1)
      have HSl := Aside0.mk (sl_to (some ad) n c k (Nat.le_of_lt hlt) hcn)
      have HBb := Aside0.mk hb
      clear GY2 HB2' hb
      refine start_ (n := 5) (S := fun w' => True) (ds := []) #[false, false, false, false, false] (by kernel_rfl) rfl rfl trivial (fun hHeld => ?_)
      refine with_tabW t_safe_Safe_Fits.tab6 t_safe_Safe_Fits.bits6 (fun HT_ HW_ => ?_)
      have hd_ := (below_drew1 (Below.refl w2.heap.size w2))
      have n_HB := Aside0.mk (HB.out.drew)
      have n_GY := Aside0.mk ((show w2.drew.heap[g_Y]? = _ from GY.out))
      clear HB
      have HB := n_HB
      clear n_HB
      clear GY
      have GY := n_GY
      clear n_GY
      generalize w2.drew = w_d at *
      clear hd_
      refine inv_at [0, 1, 2, 3, 4] (fun a0_ b a w' => a = putSel a0_ b [(0, 25, .agg #[.string x.nm, .bool x.cut, .slice x.A x.d.size x.c]), (1, 26, .slice (some ad) n c), (2, 27, .int .i64 (k : Int)), (3, 28, .slice (some ad) k c), (4, 29, .bool bw)] ∧ (Below w2.heap.size w2 w') ∧ (w'.heap[g_Y]? = some (.cells #[.string x.nm, .bool x.cut, .slice x.A x.d.size x.c] 64 (0, 0)))) HT_.out HW_.out (by kernel_rfl) (by kernel_rfl) ?_ ?_ ?_
      · exact ⟨by simp only [putSel, Bool.false_eq_true, if_false], HB.out, GY.out⟩
      · skip
        clear GY HB
        refine steps_cons ?_ ?_
        · rintro b a w' ⟨ha, Q_HB, Q_GY⟩ hb_ hon hoff
          refine ⟨_, rfl, fun K hK => ?_⟩
          have e6 : a.tmps[6]? = some (.pointer (some ⟨g_Y, 0, none⟩)) := by rw [ha]; exact (putSel_off rfl).trans rfl
          replace ha := Aside0.mk ha
          have GY := Aside0.mk Q_GY
          have hc0 := blk_cell GY.out 0; have hc1 := blk_cell GY.out 1; have hc2 := blk_cell GY.out 2
          refine value_ (w1 := w') (v := .agg #[.string x.nm, .bool x.cut, .slice x.A x.d.size x.c]) (by rfl) rfl ?_ ?_
          · go_simp
            try first | rfl | assumption
          refine hK.out _ _ ⟨(by rw [ha.out]; exact putSel_upk 0 hb_ rfl rfl rfl), Q_HB, Q_GY⟩
        refine steps_cons ?_ ?_
        · rintro b a w' ⟨ha, Q_HB, Q_GY⟩ hb_ hon hoff
          refine ⟨_, rfl, fun K hK => ?_⟩
          have e1 : a.tmps[1]? = some (.slice (some ad) n c) := by rw [ha]; exact (putSel_off rfl).trans rfl
          replace ha := Aside0.mk ha
          refine value_ (w1 := w') (v := .slice (some ad) n c) (by rfl) rfl ?_ ?_
          · go_simp
            try first | rfl | assumption
          refine hK.out _ _ ⟨(by rw [ha.out]; exact putSel_upk 1 hb_ rfl rfl rfl), Q_HB, Q_GY⟩
        refine steps_cons ?_ ?_
        · rintro b a w' ⟨ha, Q_HB, Q_GY⟩ hb_ hon hoff
          refine ⟨_, rfl, fun K hK => ?_⟩
          have e5 : a.tmps[5]? = some (.int .i64 (k : Int)) := by rw [ha]; exact (putSel_off rfl).trans rfl
          replace ha := Aside0.mk ha
          refine value_ (w1 := w') (v := .int .i64 (k : Int)) (by rfl) rfl ?_ ?_
          · go_simp
            (try simp only [i64_w])
            try first | rfl | assumption
          refine hK.out _ _ ⟨(by rw [ha.out]; exact putSel_upk 2 hb_ rfl rfl rfl), Q_HB, Q_GY⟩
        refine steps_cons ?_ ?_
        · rintro b a w' ⟨ha, Q_HB, Q_GY⟩ hb_ hon hoff
          refine ⟨_, rfl, fun K hK => ?_⟩
          have e26 : a.tmps[26]? = some (.slice (some ad) n c) := by rw [ha]; exact putSel_on (e := (1, 26, .slice (some ad) n c)) 1 rfl rfl (hon 1 (by kernel_rfl)) rfl
          have e27 : a.tmps[27]? = some (.int .i64 (k : Int)) := by rw [ha]; exact putSel_on (e := (2, 27, .int .i64 (k : Int))) 2 rfl rfl (hon 2 (by kernel_rfl)) rfl
          replace ha := Aside0.mk ha
          have hs_ := HSl.out w'
          refine value_ (w1 := w') (v := .slice (some ad) k c) (by rfl) rfl ?_ ?_
          · go_simp
            try first | rfl | assumption
          refine hK.out _ _ ⟨(by rw [ha.out]; exact putSel_upk 3 hb_ rfl rfl rfl), Q_HB, Q_GY⟩
        refine steps_cons ?_ ?_
        · rintro b a w' ⟨ha, Q_HB, Q_GY⟩ hb_ hon hoff
          refine ⟨_, rfl, fun K hK => ?_⟩
          have e25 : a.tmps[25]? = some (.agg #[.string x.nm, .bool x.cut, .slice x.A x.d.size x.c]) := by rw [ha]; exact putSel_on (e := (0, 25, .agg #[.string x.nm, .bool x.cut, .slice x.A x.d.size x.c])) 0 rfl rfl (hon 0 (by kernel_rfl)) rfl
          have e28 : a.tmps[28]? = some (.slice (some ad) k c) := by rw [ha]; exact putSel_on (e := (3, 28, .slice (some ad) k c)) 3 rfl rfl (hon 3 (by kernel_rfl)) rfl
          replace ha := Aside0.mk ha
          have HB := Aside0.mk Q_HB
          have GY := Aside0.mk Q_GY
          refine goes_ Try.func80 (by kernel_rfl) rfl #[.agg #[.string x.nm, .bool x.cut, .slice x.A x.d.size x.c], .slice (some ad) k c] (by rfl) rfl rfl (by first | (simp only [List.map_toArray, List.map_cons, List.map_nil, Act.eval, Array.getD_eq_getD_getElem?, Option.getD_some, e25, e28]; done) | (simp only [List.map_toArray, List.map_cons, List.map_nil, Act.eval, Array.getD_eq_getD_getElem?, Option.getD_some, e25, e28]; rfl)) ?_
          with_reducible refine (HW.out w' HB.out).mono ?_
          rintro e wq ⟨rfl, hb⟩
          refine ⟨_, rfl, ?_⟩
          refine hK.out _ _ ⟨(by rw [ha.out]; exact putSel_upk 4 hb_ rfl rfl rfl), HB.out.trans (hb.mono HB.out.size), blk_below GY.out hb⟩
        exact steps_nil
      rintro b a w5 hall ⟨ha, Q_HB, Q_GY⟩
      clear GY HB
      have hb0_ := hall 0 (by kernel_rfl)
      have hb1_ := hall 1 (by kernel_rfl)
      have hb2_ := hall 2 (by kernel_rfl)
      have hb3_ := hall 3 (by kernel_rfl)
      have hb4_ := hall 4 (by kernel_rfl)
      subst ha
      simp only [putSel, hb0_, hb1_, hb2_, hb3_, hb4_, if_true, Act.put, List.setIfInBounds_toArray, List.set_cons_zero, List.set_cons_succ]
      have HB := Aside0.mk Q_HB
      clear Q_HB
      have GY := Aside0.mk Q_GY
      clear Q_GY
      clear hall hb0_ hb1_ hb2_ hb3_ hb4_
      have HBx := Aside0.mk (HBw.out.trans (HB.out.mono HBw.out.size))
      cases bw with
      | true =>
        have HP := Aside0.mk (show fitsK (abs r) (ls.map keyW) = 1 by unfold fitsK; rw [if_pos (okB_no HX.out HBb.out)])
        go_wp2_with fail
        go_ret
        exact ⟨by rw [HP.out]; rfl, HBx.out⟩
      | false =>
        go_wp2_with fail
        go_roundw
        case rel => exact ⟨k + 1, by omega, by go_num, ⟨fun j y hj hy => by
          rcases Nat.lt_succ_iff_lt_or_eq.1 hj with hj | rfl
          · exact HO.out j y hj hy
          · rw [HX.out] at hy
            injection hy with hy
            subst hy
            exact HBb.out⟩, HBx⟩
        case measure => simp [intOf]; omega
    · obtain rfl : k = n := by omega
      have HOk := Aside0.mk (okB_of k HN.out HO.out)
      clear HO hlt hk
      have HBC := Aside0.mk (show Calls Try.prog 43 #[.slice A k c] wr (fun e w' => ∃ A' c', e = .returned (.slice A' (rdK (ls.map keyW)).size c') ∧ Below wr.heap.size wr w') from by
        have h1 := bytes_calls A c ls wr (by rw [HN.out]; exact Kd.C_below HC.out HB.out) HCc.out (fun x hx => (HD.out x hx).below HB.out) HL.out
        rw [HN.out] at h1
        refine h1.mono ?_
        rintro e w' ⟨A', n', c', rfl, ho, hb⟩
        obtain ⟨h2, h3, h4⟩ := ho.sl
        rw [rd_size, ← chsE_key, ← h2]
        exact ⟨A', c', rfl, hb⟩)
      obtain ⟨nB, hnB⟩ : ∃ nB, (rdK (ls.map keyW)).size = nB := ⟨_, rfl⟩
      have HNB := Aside0.mk hnB
      rw [hnB] at HBC
      clear hnB
      by_cases hbig : 200000 < nB
      · have hd1 : decide ((200000 : Int) < (nB : Int)) = true := decide_eq_true (by omega)
        have HP := Aside0.mk (show fitsK (abs r) (ls.map keyW) = 4 by unfold fitsK; rw [if_neg (by rw [HOk.out]; decide), if_pos (by rw [HNB.out]; exact hbig)])
        clear hbig
        go_wp2_with (go_at_call 43; refine HBC.out.mono ?_; rintro e_ w2 ⟨A2, c2, rfl, hb⟩; have HB2 := Aside0.mk (HB.out.trans (hb.mono HB.out.size)); clear hb; skip)
        go_ret
        exact ⟨by rw [HP.out]; rfl, HB2.out⟩
      have hd1 : decide ((200000 : Int) < (nB : Int)) = false := decide_eq_false (by omega)
      have hnB9 : (nB : Int) ≤ 200000 := by omega
      have HNb9 := Aside0.mk (show nB ≤ 200000 by omega)
      clear hbig
      have HZ := Aside0.mk (up_zero (l := ls.map keyW) HSrt.out HF.out)
      have HBnd := Aside0.mk (up_bound (l := ls.map keyW) HSrt.out HOk.out HF.out (by rw [HNB.out]; exact HNb9.out))
      go_upto_region 12 with (go_at_call 43; refine HBC.out.mono ?_; rintro e_ w2 ⟨A2, c2, rfl, hb⟩; have HB2 := Aside0.mk (HB.out.trans (hb.mono HB.out.size)); clear hb; skip)
      clear HB
      have GQ2 := Aside0.mk (HQ.out.below HB2.out)
      have GQ := Aside0.mk GQ2.out.1
      have HR2 := Aside0.mk (H.out.below HB2.out)
      have HB : Aside0 (Below w2.heap.size w2 w2) := ⟨Below.refl _ _⟩
      obtain ⟨N0, hN0⟩ : ∃ N0, (namesF r.ns).length = N0 := ⟨_, rfl⟩
      have HNa := Aside0.mk (fun (W : World) (h_ : Below w2.heap.size w2 W) => show Calls Try.prog 50 #[.pointer (some ⟨q, 0, none⟩)] W (fun e w' => ∃ A c, e = .returned (.slice A N0 c) ∧ Below W.heap.size W w') from (snames_calls w0 q g r W (HR2.out.below h_) (GQ2.out.below h_) (by have := HNL.out; omega) HF.out).mono (by
        rintro e w' ⟨A, c, rfl, h1, h2, h3⟩
        rw [hN0]
        exact ⟨A, c, rfl, h3⟩))
      have HN0 := Aside0.mk (show N0 = (abs r).ns.length by rw [← hN0]; unfold namesF abs; simp only [List.length_map])
      have hN9 : (N0 : Int) ≤ 99999 := by
        have h1 := HNL.out
        have h2 := HN0.out
        unfold abs at h2
        simp only [List.length_map] at h2
        omega
      obtain ⟨S0, hS0⟩ : ∃ S0, sumF r.ns = S0 := ⟨_, rfl⟩
      have HSi := Aside0.mk (fun (W : World) (h_ : Below w2.heap.size w2 W) => show Calls Try.prog 37 #[.pointer (some ⟨g, 0, none⟩)] W (IntP W (S0 : Int)) from hS0 ▸ size_calls w0 g r W (HR2.out.below h_) (by have := HNL.out; omega))
      have hS9 : (S0 : Int) ≤ 20100000000 := by have := HSum.out; omega
      have HS0 := Aside0.mk (show S0 = sumK (abs r).ns by rw [← hS0]; exact (sum_key r.ns).symm)
      have HCo := Aside0.mk (fun (W : World) => show Calls Try.prog 81 #[.string (⟨#[61, 114, 101, 100, 111]⟩ : ByteArray), .int .i64 (nB : Int)] W (IntP W ((nB : Int) + 13)) from by
        have h1 := scost_calls ⟨#[61, 114, 101, 100, 111]⟩ (nB : Int) (by decide) (by omega) W
        rw [show (((⟨#[61, 114, 101, 100, 111]⟩ : ByteArray).size : Int) + (nB : Int) + 8) = (nB : Int) + 13 by rw [show (⟨#[61, 114, 101, 100, 111]⟩ : ByteArray).size = 5 from rfl]; omega] at h1
        exact h1)
      clear hN0 hS0
      refine start_ (n := 14) (S := fun w' => True) (ds := []) #[false, false, false, false, false, false, false, false, false, false, false, false, false, false] (by kernel_rfl) rfl rfl trivial (fun hHeld => ?_)
      refine with_tabW t_safe_Safe_Fits.tab12 t_safe_Safe_Fits.bits12 (fun HT_ HW_ => ?_)
      have hd_ := (below_drew1 (Below.refl w2.heap.size w2))
      have n_HB := Aside0.mk (HB.out.drew)
      have n_GQ := Aside0.mk ((show w2.drew.heap[q]? = _ from GQ.out))
      clear HB
      have HB := n_HB
      clear n_HB
      clear GQ
      have GQ := n_GQ
      clear n_GQ
      generalize w2.drew = w_d at *
      clear hd_
      refine inv_at [0, 1, 2, 3, 4, 5, 6, 7, 8, 9, 10, 11, 12, 13] (fun a0_ b a w' => ∃ (A37 : Option Addr) (c37 : Nat) (m1_ : Value), a = putSel a0_ b [(0, 36, .pointer (some ⟨q, 0, none⟩)), (1, 37, m1_), (2, 38, .int .i64 (N0 : Int)), (3, 39, .int .i64 ((N0 : Int) + 1)), (4, 40, .pointer (some ⟨q, 0, none⟩)), (5, 41, .pointer (some ⟨q, 0, none⟩)), (6, 42, .pointer (some ⟨q, 0, none⟩)), (7, 43, .pointer (some ⟨g, 0, none⟩)), (8, 44, .int .i64 (S0 : Int)), (9, 45, .int .i64 (nB : Int)), (10, 46, .int .i64 ((nB : Int) + 13)), (11, 47, .int .i64 ((S0 : Int) + ((nB : Int) + 13))), (12, 8, .int .i64 ((N0 : Int) + 1)), (13, 9, .int .i64 ((S0 : Int) + ((nB : Int) + 13)))] ∧ (Below w2.heap.size w2 w') ∧ (w'.heap[q]? = some (.cells #[.pointer (some ⟨g, 0, none⟩)] 109 (0, 0))) ∧ (b 1 = true → (m1_ : Value) = .slice A37 N0 c37)) HT_.out HW_.out (by kernel_rfl) (by kernel_rfl) ?_ ?_ ?_
      · exact ⟨none, 0, .bool false, by simp only [putSel, Bool.false_eq_true, if_false], HB.out, GQ.out, fun h_ => absurd h_ (by decide)⟩
      · skip
        clear GQ HB
        refine steps_cons ?_ ?_
        · rintro b a w' ⟨A37, c37, m1_, ha, Q_HB, Q_GQ, Q_X1_⟩ hb_ hon hoff
          refine ⟨_, rfl, fun K hK => ?_⟩
          have e0 : a.tmps[0]? = some (.pointer (some ⟨q, 0, none⟩)) := by rw [ha]; exact (putSel_off rfl).trans rfl
          replace ha := Aside0.mk ha
          refine value_ (w1 := w') (v := .pointer (some ⟨q, 0, none⟩)) (by rfl) rfl ?_ ?_
          · go_simp
            try first | rfl | assumption
          refine hK.out _ _ ⟨A37, c37, m1_, (by rw [ha.out]; exact putSel_upk 0 hb_ rfl rfl rfl), Q_HB, Q_GQ, fun h0_ => absurd ((hoff 1 (by kernel_rfl)).symm.trans h0_) (by decide)⟩
        refine steps_cons ?_ ?_
        · rintro b a w' ⟨A37, c37, m1_, ha, Q_HB, Q_GQ, Q_X1_⟩ hb_ hon hoff
          refine ⟨_, rfl, fun K hK => ?_⟩
          have e36 : a.tmps[36]? = some (.pointer (some ⟨q, 0, none⟩)) := by rw [ha]; exact putSel_on (e := (0, 36, .pointer (some ⟨q, 0, none⟩))) 0 rfl rfl (hon 0 (by kernel_rfl)) rfl
          replace ha := Aside0.mk ha
          have HB := Aside0.mk Q_HB
          have GQ := Aside0.mk Q_GQ
          refine goes_ Try.func50 (by kernel_rfl) rfl #[.pointer (some ⟨q, 0, none⟩)] (by rfl) rfl rfl (by first | (simp only [List.map_toArray, List.map_cons, List.map_nil, Act.eval, Array.getD_eq_getD_getElem?, Option.getD_some, e36]; done) | (simp only [List.map_toArray, List.map_cons, List.map_nil, Act.eval, Array.getD_eq_getD_getElem?, Option.getD_some, e36]; rfl)) ?_
          with_reducible refine (HNa.out w' HB.out).mono ?_
          rintro e wq ⟨Aq, cq, rfl, hb⟩
          refine ⟨_, rfl, ?_⟩
          refine hK.out _ _ ⟨Aq, cq, (.slice Aq N0 cq), (by rw [ha.out]; exact putSel_upk 1 hb_ rfl rfl rfl), HB.out.trans (hb.mono HB.out.size), blk_below GQ.out hb, fun _ => rfl⟩
        refine steps_cons ?_ ?_
        · rintro b a w' ⟨A37, c37, m1_, ha, Q_HB, Q_GQ, Q_X1_⟩ hb_ hon hoff
          refine ⟨_, rfl, fun K hK => ?_⟩
          have e37 : a.tmps[37]? = some (m1_) := by rw [ha]; exact putSel_on (e := (1, 37, m1_)) 1 rfl rfl (hon 1 (by kernel_rfl)) rfl
          rw [Q_X1_ (hon 1 (by kernel_rfl))] at e37
          replace ha := Aside0.mk ha
          refine value_ (w1 := w') (v := .int .i64 (N0 : Int)) (by rfl) rfl ?_ ?_
          · go_simp
            (try simp only [i64_w])
            try first | rfl | assumption
          refine hK.out _ _ ⟨A37, c37, m1_, (by rw [ha.out]; exact putSel_upk 2 hb_ rfl rfl rfl), Q_HB, Q_GQ, Q_X1_⟩
        refine steps_cons ?_ ?_
        · rintro b a w' ⟨A37, c37, m1_, ha, Q_HB, Q_GQ, Q_X1_⟩ hb_ hon hoff
          refine ⟨_, rfl, fun K hK => ?_⟩
          have e38 : a.tmps[38]? = some (.int .i64 (N0 : Int)) := by rw [ha]; exact putSel_on (e := (2, 38, .int .i64 (N0 : Int))) 2 rfl rfl (hon 2 (by kernel_rfl)) rfl
          replace ha := Aside0.mk ha
          have hw_ : IntKind.i64.wrap ((N0 : Int) + 1) = (N0 : Int) + 1 := by rw [IntKind.wrap_i64]; omega
          refine value_ (w1 := w') (v := .int .i64 ((N0 : Int) + 1)) (by rfl) rfl ?_ ?_
          · go_simp
            (try simp only [i64_w])
            try first | rfl | assumption
          refine hK.out _ _ ⟨A37, c37, m1_, (by rw [ha.out]; exact putSel_upk 3 hb_ rfl rfl rfl), Q_HB, Q_GQ, Q_X1_⟩
        refine steps_cons ?_ ?_
        · rintro b a w' ⟨A37, c37, m1_, ha, Q_HB, Q_GQ, Q_X1_⟩ hb_ hon hoff
          refine ⟨_, rfl, fun K hK => ?_⟩
          have e0 : a.tmps[0]? = some (.pointer (some ⟨q, 0, none⟩)) := by rw [ha]; exact (putSel_off rfl).trans rfl
          replace ha := Aside0.mk ha
          refine value_ (w1 := w') (v := .pointer (some ⟨q, 0, none⟩)) (by rfl) rfl ?_ ?_
          · go_simp
            try first | rfl | assumption
          refine hK.out _ _ ⟨A37, c37, m1_, (by rw [ha.out]; exact putSel_upk 4 hb_ rfl rfl rfl), Q_HB, Q_GQ, Q_X1_⟩
        refine steps_cons ?_ ?_
        · rintro b a w' ⟨A37, c37, m1_, ha, Q_HB, Q_GQ, Q_X1_⟩ hb_ hon hoff
          refine ⟨_, rfl, fun K hK => ?_⟩
          have e40 : a.tmps[40]? = some (.pointer (some ⟨q, 0, none⟩)) := by rw [ha]; exact putSel_on (e := (4, 40, .pointer (some ⟨q, 0, none⟩))) 4 rfl rfl (hon 4 (by kernel_rfl)) rfl
          replace ha := Aside0.mk ha
          refine value_ (w1 := w') (v := .pointer (some ⟨q, 0, none⟩)) (by rfl) rfl ?_ ?_
          · go_simp
            try first | rfl | assumption
          refine hK.out _ _ ⟨A37, c37, m1_, (by rw [ha.out]; exact putSel_upk 5 hb_ rfl rfl rfl), Q_HB, Q_GQ, Q_X1_⟩
        refine steps_cons ?_ ?_
        · rintro b a w' ⟨A37, c37, m1_, ha, Q_HB, Q_GQ, Q_X1_⟩ hb_ hon hoff
          refine ⟨_, rfl, fun K hK => ?_⟩
          have e41 : a.tmps[41]? = some (.pointer (some ⟨q, 0, none⟩)) := by rw [ha]; exact putSel_on (e := (5, 41, .pointer (some ⟨q, 0, none⟩))) 5 rfl rfl (hon 5 (by kernel_rfl)) rfl
          replace ha := Aside0.mk ha
          refine value_ (w1 := w') (v := .pointer (some ⟨q, 0, none⟩)) (by rfl) rfl ?_ ?_
          · go_simp
            try first | rfl | assumption
          refine hK.out _ _ ⟨A37, c37, m1_, (by rw [ha.out]; exact putSel_upk 6 hb_ rfl rfl rfl), Q_HB, Q_GQ, Q_X1_⟩
        refine steps_cons ?_ ?_
        · rintro b a w' ⟨A37, c37, m1_, ha, Q_HB, Q_GQ, Q_X1_⟩ hb_ hon hoff
          refine ⟨_, rfl, fun K hK => ?_⟩
          have e42 : a.tmps[42]? = some (.pointer (some ⟨q, 0, none⟩)) := by rw [ha]; exact putSel_on (e := (6, 42, .pointer (some ⟨q, 0, none⟩))) 6 rfl rfl (hon 6 (by kernel_rfl)) rfl
          replace ha := Aside0.mk ha
          have GQ := Aside0.mk Q_GQ
          have hc0 := blk_cell GQ.out 0
          refine value_ (w1 := w') (v := .pointer (some ⟨g, 0, none⟩)) (by rfl) rfl ?_ ?_
          · go_simp
            try first | rfl | assumption
          refine hK.out _ _ ⟨A37, c37, m1_, (by rw [ha.out]; exact putSel_upk 7 hb_ rfl rfl rfl), Q_HB, Q_GQ, Q_X1_⟩
        refine steps_cons ?_ ?_
        · rintro b a w' ⟨A37, c37, m1_, ha, Q_HB, Q_GQ, Q_X1_⟩ hb_ hon hoff
          refine ⟨_, rfl, fun K hK => ?_⟩
          have e43 : a.tmps[43]? = some (.pointer (some ⟨g, 0, none⟩)) := by rw [ha]; exact putSel_on (e := (7, 43, .pointer (some ⟨g, 0, none⟩))) 7 rfl rfl (hon 7 (by kernel_rfl)) rfl
          replace ha := Aside0.mk ha
          have HB := Aside0.mk Q_HB
          have GQ := Aside0.mk Q_GQ
          refine goes_ Try.func37 (by kernel_rfl) rfl #[.pointer (some ⟨g, 0, none⟩)] (by rfl) rfl rfl (by first | (simp only [List.map_toArray, List.map_cons, List.map_nil, Act.eval, Array.getD_eq_getD_getElem?, Option.getD_some, e43]; done) | (simp only [List.map_toArray, List.map_cons, List.map_nil, Act.eval, Array.getD_eq_getD_getElem?, Option.getD_some, e43]; rfl)) ?_
          with_reducible refine (HSi.out w' HB.out).mono ?_
          rintro e wq ⟨rfl, hb⟩
          refine ⟨_, rfl, ?_⟩
          refine hK.out _ _ ⟨A37, c37, m1_, (by rw [ha.out]; exact putSel_upk 8 hb_ rfl rfl rfl), HB.out.trans (hb.mono HB.out.size), blk_below GQ.out hb, Q_X1_⟩
        refine steps_cons ?_ ?_
        · rintro b a w' ⟨A37, c37, m1_, ha, Q_HB, Q_GQ, Q_X1_⟩ hb_ hon hoff
          refine ⟨_, rfl, fun K hK => ?_⟩
          have e7 : a.tmps[7]? = some (.int .i64 (nB : Int)) := by rw [ha]; exact (putSel_off rfl).trans rfl
          replace ha := Aside0.mk ha
          refine value_ (w1 := w') (v := .int .i64 (nB : Int)) (by rfl) rfl ?_ ?_
          · go_simp
            (try simp only [i64_w])
            try first | rfl | assumption
          refine hK.out _ _ ⟨A37, c37, m1_, (by rw [ha.out]; exact putSel_upk 9 hb_ rfl rfl rfl), Q_HB, Q_GQ, Q_X1_⟩
        refine steps_cons ?_ ?_
        · rintro b a w' ⟨A37, c37, m1_, ha, Q_HB, Q_GQ, Q_X1_⟩ hb_ hon hoff
          refine ⟨_, rfl, fun K hK => ?_⟩
          have e45 : a.tmps[45]? = some (.int .i64 (nB : Int)) := by rw [ha]; exact putSel_on (e := (9, 45, .int .i64 (nB : Int))) 9 rfl rfl (hon 9 (by kernel_rfl)) rfl
          replace ha := Aside0.mk ha
          have HB := Aside0.mk Q_HB
          have GQ := Aside0.mk Q_GQ
          refine goes_ Try.func81 (by kernel_rfl) rfl #[.string (⟨#[61, 114, 101, 100, 111]⟩ : ByteArray), .int .i64 (nB : Int)] (by rfl) rfl rfl (by first | (simp only [List.map_toArray, List.map_cons, List.map_nil, Act.eval, Array.getD_eq_getD_getElem?, Option.getD_some, e45]; done) | (simp only [List.map_toArray, List.map_cons, List.map_nil, Act.eval, Array.getD_eq_getD_getElem?, Option.getD_some, e45]; rfl)) ?_
          with_reducible refine (HCo.out w').mono ?_
          rintro e wq ⟨rfl, hb⟩
          refine ⟨_, rfl, ?_⟩
          refine hK.out _ _ ⟨A37, c37, m1_, (by rw [ha.out]; exact putSel_upk 10 hb_ rfl rfl rfl), HB.out.trans (hb.mono HB.out.size), blk_below GQ.out hb, Q_X1_⟩
        refine steps_cons ?_ ?_
        · rintro b a w' ⟨A37, c37, m1_, ha, Q_HB, Q_GQ, Q_X1_⟩ hb_ hon hoff
          refine ⟨_, rfl, fun K hK => ?_⟩
          have e44 : a.tmps[44]? = some (.int .i64 (S0 : Int)) := by rw [ha]; exact putSel_on (e := (8, 44, .int .i64 (S0 : Int))) 8 rfl rfl (hon 8 (by kernel_rfl)) rfl
          have e46 : a.tmps[46]? = some (.int .i64 ((nB : Int) + 13)) := by rw [ha]; exact putSel_on (e := (10, 46, .int .i64 ((nB : Int) + 13))) 10 rfl rfl (hon 10 (by kernel_rfl)) rfl
          replace ha := Aside0.mk ha
          have hw_ : IntKind.i64.wrap ((S0 : Int) + ((nB : Int) + 13)) = (S0 : Int) + ((nB : Int) + 13) := by rw [IntKind.wrap_i64]; omega
          refine value_ (w1 := w') (v := .int .i64 ((S0 : Int) + ((nB : Int) + 13))) (by rfl) rfl ?_ ?_
          · go_simp
            (try simp only [i64_w])
            try first | rfl | assumption
          refine hK.out _ _ ⟨A37, c37, m1_, (by rw [ha.out]; exact putSel_upk 11 hb_ rfl rfl rfl), Q_HB, Q_GQ, Q_X1_⟩
        refine steps_cons ?_ ?_
        · rintro b a w' ⟨A37, c37, m1_, ha, Q_HB, Q_GQ, Q_X1_⟩ hb_ hon hoff
          refine ⟨_, rfl, fun K hK => ?_⟩
          have e39 : a.tmps[39]? = some (.int .i64 ((N0 : Int) + 1)) := by rw [ha]; exact putSel_on (e := (3, 39, .int .i64 ((N0 : Int) + 1))) 3 rfl rfl (hon 3 (by kernel_rfl)) rfl
          replace ha := Aside0.mk ha
          refine value_ (w1 := w') (v := .int .i64 ((N0 : Int) + 1)) (by rfl) rfl ?_ ?_
          · go_simp
            (try simp only [i64_w])
            try first | rfl | assumption
          refine hK.out _ _ ⟨A37, c37, m1_, (by rw [ha.out]; exact putSel_upk 12 hb_ rfl rfl rfl), Q_HB, Q_GQ, Q_X1_⟩
        refine steps_cons ?_ ?_
        · rintro b a w' ⟨A37, c37, m1_, ha, Q_HB, Q_GQ, Q_X1_⟩ hb_ hon hoff
          refine ⟨_, rfl, fun K hK => ?_⟩
          have e47 : a.tmps[47]? = some (.int .i64 ((S0 : Int) + ((nB : Int) + 13))) := by rw [ha]; exact putSel_on (e := (11, 47, .int .i64 ((S0 : Int) + ((nB : Int) + 13)))) 11 rfl rfl (hon 11 (by kernel_rfl)) rfl
          replace ha := Aside0.mk ha
          refine value_ (w1 := w') (v := .int .i64 ((S0 : Int) + ((nB : Int) + 13))) (by rfl) rfl ?_ ?_
          · go_simp
            (try simp only [i64_w])
            try first | rfl | assumption
          refine hK.out _ _ ⟨A37, c37, m1_, (by rw [ha.out]; exact putSel_upk 13 hb_ rfl rfl rfl), Q_HB, Q_GQ, Q_X1_⟩
        exact steps_nil
      rintro b a w5 hall ⟨A37, c37, m1_, ha, Q_HB, Q_GQ, Q_X1_⟩
      clear GQ HB
      have hb0_ := hall 0 (by kernel_rfl)
      have hb1_ := hall 1 (by kernel_rfl)
      have hb2_ := hall 2 (by kernel_rfl)
      have hb3_ := hall 3 (by kernel_rfl)
      have hb4_ := hall 4 (by kernel_rfl)
      have hb5_ := hall 5 (by kernel_rfl)
      have hb6_ := hall 6 (by kernel_rfl)
      have hb7_ := hall 7 (by kernel_rfl)
      have hb8_ := hall 8 (by kernel_rfl)
      have hb9_ := hall 9 (by kernel_rfl)
      have hb10_ := hall 10 (by kernel_rfl)
      have hb11_ := hall 11 (by kernel_rfl)
      have hb12_ := hall 12 (by kernel_rfl)
      have hb13_ := hall 13 (by kernel_rfl)
      subst ha
      obtain rfl := Q_X1_ hb1_
      simp only [putSel, hb0_, hb1_, hb2_, hb3_, hb4_, hb5_, hb6_, hb7_, hb8_, hb9_, hb10_, hb11_, hb12_, hb13_, if_true, Act.put, List.setIfInBounds_toArray, List.set_cons_zero, List.set_cons_succ]
      have HB := Aside0.mk Q_HB
      clear Q_HB
      have GQ := Aside0.mk Q_GQ
      clear Q_GQ
      clear hall hb0_ hb1_ hb2_ hb3_ hb4_ hb5_ hb6_ hb7_ hb8_ hb9_ hb10_ hb11_ hb12_ hb13_
      have HB5 := Aside0.mk (HB2.out.trans (HB.out.mono HB2.out.size))
      have HR5 := Aside0.mk (HR2.out.below HB.out)
      have hcq := blk_cell GQ.out 0
      have HRd := Aside0.mk (show Calls Try.prog 23 #[.pointer (some ⟨g, 0, none⟩), .string (⟨#[61, 114, 101, 100, 111]⟩ : ByteArray)] w5 (fun e w' => ∃ A c, e = .returned (.tuple #[.slice A 0 c, .bool false]) ∧ Below w5.heap.size w5 w') from (read_calls w0 g r w5 redoB HR5.out (by decide)).mono (by
        rintro e w' ⟨A, c, rfl, h1, h2, h3, h4⟩
        have hrd : readD r redoB = none := by
          rw [read_key]
          unfold readK
          rw [show (abs r).down = r.down from rfl, HDn.out]
          exact HF.out
        rw [hrd]
        exact ⟨A, c, rfl, h4⟩))
      obtain ⟨NK, hNK⟩ : ∃ NK : Nat → Int, (fun j => ((upK (abs r).ns (ls.map keyW) j).length : Int)) = NK := ⟨_, rfl⟩
      obtain ⟨SK, hSK⟩ : ∃ SK : Nat → Int, (fun j => (sumK (upK (abs r).ns (ls.map keyW) j) : Int)) = SK := ⟨_, rfl⟩
      have HK0 := Aside0.mk (show (N0 : Int) + 1 = NK 0 ∧ (S0 : Int) + ((nB : Int) + 13) = SK 0 by
        rw [← hNK, ← hSK]
        have h1 := HZ.out
        have h2 := HN0.out
        have h3 := HS0.out
        have h4 := HNB.out
        simp only
        omega)
      have HKb := Aside0.mk (show ∀ j, j ≤ k → 0 ≤ NK j ∧ NK j ≤ 1000000 ∧ 0 ≤ SK j ∧ SK j ≤ 1000000000000 from fun j hj => by
        rw [← hNK, ← hSK]
        have h1 := HBnd.out j (by rw [List.length_map, HN.out]; exact hj)
        have h2 := HN0.out
        have h3 := HS0.out
        simp only
        omega)
      have HKe := Aside0.mk (show NK k = ((allK (abs r).ns (rdK (ls.map keyW)) (ls.map keyW)).length : Int) ∧ SK k = (sumK (allK (abs r).ns (rdK (ls.map keyW)) (ls.map keyW)) : Int) by
        have h1 := rd_take (abs r).ns (ls.map keyW)
        rw [List.length_map, HN.out] at h1
        rw [← hNK, ← hSK]
        simp only
        rw [h1]
        exact ⟨rfl, rfl⟩)
      have HKc := Aside0.mk (show ∀ (j : Nat) (x : WR), ls[j]? = some x → x.cut = true → NK (j + 1) = NK j ∧ SK (j + 1) = SK j from fun j x hx hc => by
        have h1 := up_cut (ns := (abs r).ns) (l := ls.map keyW) (k := j) (c := keyW x) (by rw [List.getElem?_map, hx]; rfl) hc
        rw [← hNK, ← hSK]
        simp only
        omega)
      have HKn := Aside0.mk (show ∀ (j : Nat) (x : WR), ls[j]? = some x → x.cut = false → findK (abs r).ns x.nm = none → NK (j + 1) = NK j + 1 ∧ SK (j + 1) = SK j + ((x.nm.size : Int) + (x.d.size : Int) + 8) from fun j x hx hc hf => by
        have h1 := up_new (ns := (abs r).ns) (l := ls.map keyW) (k := j) (c := keyW x) HSrt.out HOk.out (by rw [List.getElem?_map, hx]; rfl) hc hf
        rw [show (keyW x).1 = x.nm from rfl, show (keyW x).2.2 = x.d from rfl] at h1
        rw [← hNK, ← hSK]
        simp only
        omega)
      have HKo := Aside0.mk (show ∀ (j : Nat) (x : WR) (f : ByteArray), ls[j]? = some x → x.cut = false → findK (abs r).ns x.nm = some f → NK (j + 1) = NK j ∧ SK (j + 1) = SK j + (if f.size < x.d.size then (x.d.size : Int) - (f.size : Int) else 0) from fun j x f hx hc hf => by
        have h1 := up_old (ns := (abs r).ns) (l := ls.map keyW) (k := j) (c := keyW x) HSrt.out HOk.out (by rw [List.getElem?_map, hx]; rfl) hc hf
        rw [show (keyW x).2.2 = x.d from rfl] at h1
        rw [← hNK, ← hSK]
        simp only
        exact ⟨by omega, h1.2⟩)
      have HXz := Aside0.mk (show ∀ (j : Nat) (x : WR), ls[j]? = some x → x.nm.size ≤ 24 ∧ x.d.size ≤ 200000 from fun j x hx => by
        have h1 := (okK_all HOk.out).2 (keyW x) (List.mem_map_of_mem (List.mem_of_getElem? hx))
        rw [show (keyW x).1 = x.nm from rfl, show (keyW x).2.2 = x.d from rfl] at h1
        refine ⟨?_, h1.2.2⟩
        have h2 := h1.1
        unfold namedB at h2
        simp at h2
        exact h2.2)
      rw [HK0.out.1, HK0.out.2]
      clear hNK hSK HBnd HZ HK0 hnB9 hN9 hS9
      go_upto_region 16 with (go_at_call 23; refine HRd.out.mono ?_; rintro e_ w6 ⟨A6, c6, rfl, hb⟩; have HB6 := Aside0.mk (HB5.out.trans (hb.mono HB5.out.size)); clear hb hcq; skip)
      clear HB HB2 HB5 GQ GQ2 HR2 HR5 HRd HNa HSi HCo
      go_wp2_with fail
      go_loopw [8, 9, 64] (fun nv cv i wr => ∃ j : Nat, j ≤ k ∧ i = .int .i64 j ∧ nv = .int .i64 (NK j) ∧ cv = .int .i64 (SK j) ∧ Aside0 (Below w.heap.size w wr)) (fun _ _ i _ => k - (intOf i).toNat)
      case atStart => exact ⟨0, Nat.zero_le _, rfl, rfl, rfl, HB6⟩
      case round =>
        clear HB6
        obtain ⟨j, hj, rfl, rfl, rfl, HB⟩ := hrel
        by_cases hlt : j < k
        · obtain ⟨x, hx⟩ : ∃ x, ls[j]? = some x := ⟨_, List.getElem?_eq_getElem (by rw [HN.out]; exact hlt)⟩
          obtain ⟨ad, e1, x0, x1, x2⟩ := at_W (Kd.C_below HC.out HB.out) j hlt x hx
          cases e1
          have HX := Aside0.mk hx
          have hxz := HXz.out j x hx
          have HXn := Aside0.mk (show x.nm.size ≤ 140737488355328 by omega)
          have hxz1 : (x.nm.size : Int) ≤ 24 := by omega
          have hxz2 : (x.d.size : Int) ≤ 200000 := by omega
          have hkb := HKb.out j (by omega)
          have hkb1 := hkb.1
          have hkb2 := hkb.2.1
          have hkb3 := hkb.2.2.1
          have hkb4 := hkb.2.2.2
          clear hx hxz hkb
          have M0_0 := Aside0.mk (Below.refl wr.heap.size wr)
          go_upto_region 19 with ((with_reducible refine gate_dst (N := 13) rfl ?_); refine box_event ?hgY13 (N := 13) ?hdY13 (cs := #[.string (⟨#[]⟩ : ByteArray), .bool false, .slice none 0 0]) (t := 64) ?hrY13 ?_; (case hdY13 => rfl); (case hgY13 => rfl); (case hrY13 => first | (go_simp; done) | (go_simp; rfl)); intro g_Y hg_ w_1 hbx_ hb_; have L0_Y := Aside0.mk (show wr.heap.size ≤ g_Y by have := M0_0.out.size; omega); have M0_1 := Aside0.mk (M0_0.out.trans (hb_.mono M0_0.out.size)); have Y_1 := Aside0.mk hbx_; clear hg_ hbx_ hb_ M0_0; have zY0 := blk_cell Y_1.out 0; have yY0 := blk_frozen Y_1.out 0; have zY1 := blk_cell Y_1.out 1; have yY1 := blk_frozen Y_1.out 1; have zY2 := blk_cell Y_1.out 2; have yY2 := blk_frozen Y_1.out 2; skip)
          obtain ⟨w2, e2, GY2, HB2'⟩ := fresh3 M0_1.out L0_Y.out Y_1.out x
          rw [e2]
          clear e2 zY0 zY1 zY2 yY0 yY1 yY2 x0 x1 x2
          have HBw := Aside0.mk (HB.out.trans (HB2'.mono HB.out.size))
          have GY := Aside0.mk GY2
          have GQ := Aside0.mk (HQ.out.below HBw.out).1
          have HB9 := HB
          have HB : Aside0 (Below w2.heap.size w2 w2) := ⟨Below.refl _ _⟩
          obtain ⟨dd, hdd⟩ : ∃ dd, (readD r x.nm).getD ⟨#[]⟩ = dd := ⟨_, rfl⟩
          obtain ⟨th, hth⟩ : ∃ th, (readD r x.nm).isSome = th := ⟨_, rfl⟩
          have HRd := Aside0.mk (fun (W : World) (h_ : Below w2.heap.size w2 W) => show Calls Try.prog 23 #[.pointer (some ⟨g, 0, none⟩), .string x.nm] W (fun e w' => ∃ A c, e = .returned (.tuple #[.slice A dd.size c, .bool th]) ∧ Below W.heap.size W w') from (read_calls w0 g r W x.nm (H.out.below (HBw.out.trans (h_.mono HBw.out.size))) HXn.out).mono (by
            rintro e w' ⟨A, c, rfl, h1, h2, h3, h4⟩
            rw [hdd, hth]
            exact ⟨A, c, rfl, h4⟩))
          have HDD := Aside0.mk (And.intro hdd hth)
          have hrk : readD r x.nm = findK (abs r).ns x.nm := by
            rw [read_key]
            unfold readK
            rw [show (abs r).down = r.down from rfl, HDn.out]
            rfl
          have HRk := Aside0.mk hrk
          clear GY2 HB2' hdd hth hrk
          refine start_ (n := 12) (S := fun w' => True) (ds := []) #[false, false, false, false, false, false, false, false, false, false, false, false] (by kernel_rfl) rfl rfl trivial (fun hHeld => ?_)
          refine with_tabW t_safe_Safe_Fits.tab19 t_safe_Safe_Fits.bits19 (fun HT_ HW_ => ?_)
          have hd_ := (below_drew1 (Below.refl w2.heap.size w2))
          have n_HB := Aside0.mk (HB.out.drew)
          have n_GQ := Aside0.mk ((show w2.drew.heap[q]? = _ from GQ.out))
          have n_GY := Aside0.mk ((show w2.drew.heap[g_Y]? = _ from GY.out))
          clear HB
          have HB := n_HB
          clear n_HB
          clear GQ
          have GQ := n_GQ
          clear n_GQ
          clear GY
          have GY := n_GY
          clear n_GY
          generalize w2.drew = w_d at *
          clear hd_
          refine inv_at [0, 1, 2, 3, 4, 5, 6, 7, 8, 9, 10, 11] (fun a0_ b a w' => ∃ (A75 : Option Addr) (c75 : Nat) (m6_ : Value) (m7_ : Value) (m8_ : Value) (m10_ : Value), a = putSel a0_ b [(0, 69, .pointer (some ⟨q, 0, none⟩)), (1, 70, .pointer (some ⟨q, 0, none⟩)), (2, 71, .pointer (some ⟨q, 0, none⟩)), (3, 72, .pointer (some ⟨g, 0, none⟩)), (4, 73, .pointer (some ⟨g_Y, 0, none⟩)), (5, 74, .string x.nm), (6, 75, m6_), (7, 68, m7_), (8, 76, m8_), (9, 77, .bool th), (10, 14, m10_), (11, 15, .bool th)] ∧ (Below w2.heap.size w2 w') ∧ (w'.heap[q]? = some (.cells #[.pointer (some ⟨g, 0, none⟩)] 109 (0, 0))) ∧ (w'.heap[g_Y]? = some (.cells #[.string x.nm, .bool x.cut, .slice x.A x.d.size x.c] 64 (0, 0))) ∧ (b 6 = true → (m6_ : Value) = .tuple #[.slice A75 dd.size c75, .bool th]) ∧ (b 7 = true → (m7_ : Value) = .tuple #[.slice A75 dd.size c75, .bool th]) ∧ (b 8 = true → (m8_ : Value) = .slice A75 dd.size c75) ∧ (b 10 = true → (m10_ : Value) = .slice A75 dd.size c75)) HT_.out HW_.out (by kernel_rfl) (by kernel_rfl) ?_ ?_ ?_
          · exact ⟨none, 0, .bool false, .bool false, .bool false, .bool false, by simp only [putSel, Bool.false_eq_true, if_false], HB.out, GQ.out, GY.out, fun h_ => absurd h_ (by decide), fun h_ => absurd h_ (by decide), fun h_ => absurd h_ (by decide), fun h_ => absurd h_ (by decide)⟩
          · skip
            clear GQ GY HB
            refine steps_cons ?_ ?_
            · rintro b a w' ⟨A75, c75, m6_, m7_, m8_, m10_, ha, Q_HB, Q_GQ, Q_GY, Q_X6_, Q_X7_, Q_X8_, Q_X10_⟩ hb_ hon hoff
              refine ⟨_, rfl, fun K hK => ?_⟩
              have e0 : a.tmps[0]? = some (.pointer (some ⟨q, 0, none⟩)) := by rw [ha]; exact (putSel_off rfl).trans rfl
              replace ha := Aside0.mk ha
              refine value_ (w1 := w') (v := .pointer (some ⟨q, 0, none⟩)) (by rfl) rfl ?_ ?_
              · go_simp
                try first | rfl | assumption
              refine hK.out _ _ ⟨A75, c75, m6_, m7_, m8_, m10_, (by rw [ha.out]; exact putSel_upk 0 hb_ rfl rfl rfl), Q_HB, Q_GQ, Q_GY, fun h0_ => absurd ((hoff 6 (by kernel_rfl)).symm.trans h0_) (by decide), fun h0_ => absurd ((hoff 7 (by kernel_rfl)).symm.trans h0_) (by decide), fun h0_ => absurd ((hoff 8 (by kernel_rfl)).symm.trans h0_) (by decide), fun h0_ => absurd ((hoff 10 (by kernel_rfl)).symm.trans h0_) (by decide)⟩
            refine steps_cons ?_ ?_
            · rintro b a w' ⟨A75, c75, m6_, m7_, m8_, m10_, ha, Q_HB, Q_GQ, Q_GY, Q_X6_, Q_X7_, Q_X8_, Q_X10_⟩ hb_ hon hoff
              refine ⟨_, rfl, fun K hK => ?_⟩
              have e69 : a.tmps[69]? = some (.pointer (some ⟨q, 0, none⟩)) := by rw [ha]; exact putSel_on (e := (0, 69, .pointer (some ⟨q, 0, none⟩))) 0 rfl rfl (hon 0 (by kernel_rfl)) rfl
              replace ha := Aside0.mk ha
              refine value_ (w1 := w') (v := .pointer (some ⟨q, 0, none⟩)) (by rfl) rfl ?_ ?_
              · go_simp
                try first | rfl | assumption
              refine hK.out _ _ ⟨A75, c75, m6_, m7_, m8_, m10_, (by rw [ha.out]; exact putSel_upk 1 hb_ rfl rfl rfl), Q_HB, Q_GQ, Q_GY, fun h0_ => absurd ((hoff 6 (by kernel_rfl)).symm.trans h0_) (by decide), fun h0_ => absurd ((hoff 7 (by kernel_rfl)).symm.trans h0_) (by decide), fun h0_ => absurd ((hoff 8 (by kernel_rfl)).symm.trans h0_) (by decide), fun h0_ => absurd ((hoff 10 (by kernel_rfl)).symm.trans h0_) (by decide)⟩
            refine steps_cons ?_ ?_
            · rintro b a w' ⟨A75, c75, m6_, m7_, m8_, m10_, ha, Q_HB, Q_GQ, Q_GY, Q_X6_, Q_X7_, Q_X8_, Q_X10_⟩ hb_ hon hoff
              refine ⟨_, rfl, fun K hK => ?_⟩
              have e70 : a.tmps[70]? = some (.pointer (some ⟨q, 0, none⟩)) := by rw [ha]; exact putSel_on (e := (1, 70, .pointer (some ⟨q, 0, none⟩))) 1 rfl rfl (hon 1 (by kernel_rfl)) rfl
              replace ha := Aside0.mk ha
              refine value_ (w1 := w') (v := .pointer (some ⟨q, 0, none⟩)) (by rfl) rfl ?_ ?_
              · go_simp
                try first | rfl | assumption
              refine hK.out _ _ ⟨A75, c75, m6_, m7_, m8_, m10_, (by rw [ha.out]; exact putSel_upk 2 hb_ rfl rfl rfl), Q_HB, Q_GQ, Q_GY, fun h0_ => absurd ((hoff 6 (by kernel_rfl)).symm.trans h0_) (by decide), fun h0_ => absurd ((hoff 7 (by kernel_rfl)).symm.trans h0_) (by decide), fun h0_ => absurd ((hoff 8 (by kernel_rfl)).symm.trans h0_) (by decide), fun h0_ => absurd ((hoff 10 (by kernel_rfl)).symm.trans h0_) (by decide)⟩
            refine steps_cons ?_ ?_
            · rintro b a w' ⟨A75, c75, m6_, m7_, m8_, m10_, ha, Q_HB, Q_GQ, Q_GY, Q_X6_, Q_X7_, Q_X8_, Q_X10_⟩ hb_ hon hoff
              refine ⟨_, rfl, fun K hK => ?_⟩
              have e71 : a.tmps[71]? = some (.pointer (some ⟨q, 0, none⟩)) := by rw [ha]; exact putSel_on (e := (2, 71, .pointer (some ⟨q, 0, none⟩))) 2 rfl rfl (hon 2 (by kernel_rfl)) rfl
              replace ha := Aside0.mk ha
              have GQ := Aside0.mk Q_GQ
              have hc0 := blk_cell GQ.out 0
              refine value_ (w1 := w') (v := .pointer (some ⟨g, 0, none⟩)) (by rfl) rfl ?_ ?_
              · go_simp
                try first | rfl | assumption
              refine hK.out _ _ ⟨A75, c75, m6_, m7_, m8_, m10_, (by rw [ha.out]; exact putSel_upk 3 hb_ rfl rfl rfl), Q_HB, Q_GQ, Q_GY, fun h0_ => absurd ((hoff 6 (by kernel_rfl)).symm.trans h0_) (by decide), fun h0_ => absurd ((hoff 7 (by kernel_rfl)).symm.trans h0_) (by decide), fun h0_ => absurd ((hoff 8 (by kernel_rfl)).symm.trans h0_) (by decide), fun h0_ => absurd ((hoff 10 (by kernel_rfl)).symm.trans h0_) (by decide)⟩
            refine steps_cons ?_ ?_
            · rintro b a w' ⟨A75, c75, m6_, m7_, m8_, m10_, ha, Q_HB, Q_GQ, Q_GY, Q_X6_, Q_X7_, Q_X8_, Q_X10_⟩ hb_ hon hoff
              refine ⟨_, rfl, fun K hK => ?_⟩
              have e13 : a.tmps[13]? = some (.pointer (some ⟨g_Y, 0, none⟩)) := by rw [ha]; exact (putSel_off rfl).trans rfl
              replace ha := Aside0.mk ha
              refine value_ (w1 := w') (v := .pointer (some ⟨g_Y, 0, none⟩)) (by rfl) rfl ?_ ?_
              · go_simp
                try first | rfl | assumption
              refine hK.out _ _ ⟨A75, c75, m6_, m7_, m8_, m10_, (by rw [ha.out]; exact putSel_upk 4 hb_ rfl rfl rfl), Q_HB, Q_GQ, Q_GY, fun h0_ => absurd ((hoff 6 (by kernel_rfl)).symm.trans h0_) (by decide), fun h0_ => absurd ((hoff 7 (by kernel_rfl)).symm.trans h0_) (by decide), fun h0_ => absurd ((hoff 8 (by kernel_rfl)).symm.trans h0_) (by decide), fun h0_ => absurd ((hoff 10 (by kernel_rfl)).symm.trans h0_) (by decide)⟩
            refine steps_cons ?_ ?_
            · rintro b a w' ⟨A75, c75, m6_, m7_, m8_, m10_, ha, Q_HB, Q_GQ, Q_GY, Q_X6_, Q_X7_, Q_X8_, Q_X10_⟩ hb_ hon hoff
              refine ⟨_, rfl, fun K hK => ?_⟩
              have e73 : a.tmps[73]? = some (.pointer (some ⟨g_Y, 0, none⟩)) := by rw [ha]; exact putSel_on (e := (4, 73, .pointer (some ⟨g_Y, 0, none⟩))) 4 rfl rfl (hon 4 (by kernel_rfl)) rfl
              replace ha := Aside0.mk ha
              have GY := Aside0.mk Q_GY
              have hc0 := blk_cell GY.out 0
              refine value_ (w1 := w') (v := .string x.nm) (by rfl) rfl ?_ ?_
              · go_simp
                try first | rfl | assumption
              refine hK.out _ _ ⟨A75, c75, m6_, m7_, m8_, m10_, (by rw [ha.out]; exact putSel_upk 5 hb_ rfl rfl rfl), Q_HB, Q_GQ, Q_GY, fun h0_ => absurd ((hoff 6 (by kernel_rfl)).symm.trans h0_) (by decide), fun h0_ => absurd ((hoff 7 (by kernel_rfl)).symm.trans h0_) (by decide), fun h0_ => absurd ((hoff 8 (by kernel_rfl)).symm.trans h0_) (by decide), fun h0_ => absurd ((hoff 10 (by kernel_rfl)).symm.trans h0_) (by decide)⟩
            refine steps_cons ?_ ?_
            · rintro b a w' ⟨A75, c75, m6_, m7_, m8_, m10_, ha, Q_HB, Q_GQ, Q_GY, Q_X6_, Q_X7_, Q_X8_, Q_X10_⟩ hb_ hon hoff
              refine ⟨_, rfl, fun K hK => ?_⟩
              have e72 : a.tmps[72]? = some (.pointer (some ⟨g, 0, none⟩)) := by rw [ha]; exact putSel_on (e := (3, 72, .pointer (some ⟨g, 0, none⟩))) 3 rfl rfl (hon 3 (by kernel_rfl)) rfl
              have e74 : a.tmps[74]? = some (.string x.nm) := by rw [ha]; exact putSel_on (e := (5, 74, .string x.nm)) 5 rfl rfl (hon 5 (by kernel_rfl)) rfl
              replace ha := Aside0.mk ha
              have HB := Aside0.mk Q_HB
              have GQ := Aside0.mk Q_GQ
              have GY := Aside0.mk Q_GY
              refine goes_ Try.func23 (by kernel_rfl) rfl #[.pointer (some ⟨g, 0, none⟩), .string x.nm] (by rfl) rfl rfl (by first | (simp only [List.map_toArray, List.map_cons, List.map_nil, Act.eval, Array.getD_eq_getD_getElem?, Option.getD_some, e72, e74]; done) | (simp only [List.map_toArray, List.map_cons, List.map_nil, Act.eval, Array.getD_eq_getD_getElem?, Option.getD_some, e72, e74]; rfl)) ?_
              with_reducible refine (HRd.out w' HB.out).mono ?_
              rintro e wq ⟨Aq, cq, rfl, hb⟩
              refine ⟨_, rfl, ?_⟩
              refine hK.out _ _ ⟨Aq, cq, (.tuple #[.slice Aq dd.size cq, .bool th]), m7_, m8_, m10_, (by rw [ha.out]; exact putSel_upk 6 hb_ rfl rfl rfl), HB.out.trans (hb.mono HB.out.size), blk_below GQ.out hb, blk_below GY.out hb, fun _ => rfl, fun h0_ => absurd ((hoff 7 (by kernel_rfl)).symm.trans h0_) (by decide), fun h0_ => absurd ((hoff 8 (by kernel_rfl)).symm.trans h0_) (by decide), fun h0_ => absurd ((hoff 10 (by kernel_rfl)).symm.trans h0_) (by decide)⟩
            refine steps_cons ?_ ?_
            · rintro b a w' ⟨A75, c75, m6_, m7_, m8_, m10_, ha, Q_HB, Q_GQ, Q_GY, Q_X6_, Q_X7_, Q_X8_, Q_X10_⟩ hb_ hon hoff
              refine ⟨_, rfl, fun K hK => ?_⟩
              have e75 : a.tmps[75]? = some (m6_) := by rw [ha]; exact putSel_on (e := (6, 75, m6_)) 6 rfl rfl (hon 6 (by kernel_rfl)) rfl
              rw [Q_X6_ (hon 6 (by kernel_rfl))] at e75
              replace ha := Aside0.mk ha
              refine value_ (w1 := w') (v := .tuple #[.slice A75 dd.size c75, .bool th]) (by rfl) rfl ?_ ?_
              · go_simp
                try first | rfl | assumption
              refine hK.out _ _ ⟨A75, c75, m6_, (.tuple #[.slice A75 dd.size c75, .bool th]), m8_, m10_, (by rw [ha.out]; exact putSel_upk 7 hb_ rfl rfl rfl), Q_HB, Q_GQ, Q_GY, Q_X6_, fun _ => rfl, fun h0_ => absurd ((hoff 8 (by kernel_rfl)).symm.trans h0_) (by decide), fun h0_ => absurd ((hoff 10 (by kernel_rfl)).symm.trans h0_) (by decide)⟩
            refine steps_cons ?_ ?_
            · rintro b a w' ⟨A75, c75, m6_, m7_, m8_, m10_, ha, Q_HB, Q_GQ, Q_GY, Q_X6_, Q_X7_, Q_X8_, Q_X10_⟩ hb_ hon hoff
              refine ⟨_, rfl, fun K hK => ?_⟩
              have e68 : a.tmps[68]? = some (m7_) := by rw [ha]; exact putSel_on (e := (7, 68, m7_)) 7 rfl rfl (hon 7 (by kernel_rfl)) rfl
              rw [Q_X7_ (hon 7 (by kernel_rfl))] at e68
              replace ha := Aside0.mk ha
              refine value_ (w1 := w') (v := .slice A75 dd.size c75) (by rfl) rfl ?_ ?_
              · go_simp
                try first | rfl | assumption
              refine hK.out _ _ ⟨A75, c75, m6_, m7_, (.slice A75 dd.size c75), m10_, (by rw [ha.out]; exact putSel_upk 8 hb_ rfl rfl rfl), Q_HB, Q_GQ, Q_GY, Q_X6_, Q_X7_, fun _ => rfl, fun h0_ => absurd ((hoff 10 (by kernel_rfl)).symm.trans h0_) (by decide)⟩
            refine steps_cons ?_ ?_
            · rintro b a w' ⟨A75, c75, m6_, m7_, m8_, m10_, ha, Q_HB, Q_GQ, Q_GY, Q_X6_, Q_X7_, Q_X8_, Q_X10_⟩ hb_ hon hoff
              refine ⟨_, rfl, fun K hK => ?_⟩
              have e68 : a.tmps[68]? = some (m7_) := by rw [ha]; exact putSel_on (e := (7, 68, m7_)) 7 rfl rfl (hon 7 (by kernel_rfl)) rfl
              rw [Q_X7_ (hon 7 (by kernel_rfl))] at e68
              replace ha := Aside0.mk ha
              refine value_ (w1 := w') (v := .bool th) (by rfl) rfl ?_ ?_
              · go_simp
                try first | rfl | assumption
              refine hK.out _ _ ⟨A75, c75, m6_, m7_, m8_, m10_, (by rw [ha.out]; exact putSel_upk 9 hb_ rfl rfl rfl), Q_HB, Q_GQ, Q_GY, Q_X6_, Q_X7_, Q_X8_, Q_X10_⟩
            refine steps_cons ?_ ?_
            · rintro b a w' ⟨A75, c75, m6_, m7_, m8_, m10_, ha, Q_HB, Q_GQ, Q_GY, Q_X6_, Q_X7_, Q_X8_, Q_X10_⟩ hb_ hon hoff
              refine ⟨_, rfl, fun K hK => ?_⟩
              have e76 : a.tmps[76]? = some (m8_) := by rw [ha]; exact putSel_on (e := (8, 76, m8_)) 8 rfl rfl (hon 8 (by kernel_rfl)) rfl
              rw [Q_X8_ (hon 8 (by kernel_rfl))] at e76
              replace ha := Aside0.mk ha
              refine value_ (w1 := w') (v := .slice A75 dd.size c75) (by rfl) rfl ?_ ?_
              · go_simp
                try first | rfl | assumption
              refine hK.out _ _ ⟨A75, c75, m6_, m7_, m8_, (.slice A75 dd.size c75), (by rw [ha.out]; exact putSel_upk 10 hb_ rfl rfl rfl), Q_HB, Q_GQ, Q_GY, Q_X6_, Q_X7_, Q_X8_, fun _ => rfl⟩
            refine steps_cons ?_ ?_
            · rintro b a w' ⟨A75, c75, m6_, m7_, m8_, m10_, ha, Q_HB, Q_GQ, Q_GY, Q_X6_, Q_X7_, Q_X8_, Q_X10_⟩ hb_ hon hoff
              refine ⟨_, rfl, fun K hK => ?_⟩
              have e77 : a.tmps[77]? = some (.bool th) := by rw [ha]; exact putSel_on (e := (9, 77, .bool th)) 9 rfl rfl (hon 9 (by kernel_rfl)) rfl
              replace ha := Aside0.mk ha
              refine value_ (w1 := w') (v := .bool th) (by rfl) rfl ?_ ?_
              · go_simp
                try first | rfl | assumption
              refine hK.out _ _ ⟨A75, c75, m6_, m7_, m8_, m10_, (by rw [ha.out]; exact putSel_upk 11 hb_ rfl rfl rfl), Q_HB, Q_GQ, Q_GY, Q_X6_, Q_X7_, Q_X8_, Q_X10_⟩
            exact steps_nil
          rintro b a w5 hall ⟨A75, c75, m6_, m7_, m8_, m10_, ha, Q_HB, Q_GQ, Q_GY, Q_X6_, Q_X7_, Q_X8_, Q_X10_⟩
          clear GQ GY HB
          have hb0_ := hall 0 (by kernel_rfl)
          have hb1_ := hall 1 (by kernel_rfl)
          have hb2_ := hall 2 (by kernel_rfl)
          have hb3_ := hall 3 (by kernel_rfl)
          have hb4_ := hall 4 (by kernel_rfl)
          have hb5_ := hall 5 (by kernel_rfl)
          have hb6_ := hall 6 (by kernel_rfl)
          have hb7_ := hall 7 (by kernel_rfl)
          have hb8_ := hall 8 (by kernel_rfl)
          have hb9_ := hall 9 (by kernel_rfl)
          have hb10_ := hall 10 (by kernel_rfl)
          have hb11_ := hall 11 (by kernel_rfl)
          subst ha
          obtain rfl := Q_X6_ hb6_
          obtain rfl := Q_X7_ hb7_
          obtain rfl := Q_X8_ hb8_
          obtain rfl := Q_X10_ hb10_
          simp only [putSel, hb0_, hb1_, hb2_, hb3_, hb4_, hb5_, hb6_, hb7_, hb8_, hb9_, hb10_, hb11_, if_true, Act.put, List.setIfInBounds_toArray, List.set_cons_zero, List.set_cons_succ]
          have HB := Aside0.mk Q_HB
          clear Q_HB
          have GQ := Aside0.mk Q_GQ
          clear Q_GQ
          have GY := Aside0.mk Q_GY
          clear Q_GY
          clear hall hb0_ hb1_ hb2_ hb3_ hb4_ hb5_ hb6_ hb7_ hb8_ hb9_ hb10_ hb11_
          have HBx := Aside0.mk (HBw.out.trans (HB.out.mono HBw.out.size))
          have hg0 := blk_cell GY.out 0
          have hg1 := blk_cell GY.out 1
          have hg2 := blk_cell GY.out 2
          by_cases hcut : x.cut = true
          · have hs := HKc.out j x HX.out hcut
            have HS := Aside0.mk hs
            clear hs
            go_wp2_with fail
            go_roundw
            case rel => exact ⟨j + 1, by omega, by go_num, by rw [HS.out.1], by rw [HS.out.2], HBx⟩
            case measure => simp [intOf]; omega
          · replace hcut : x.cut = false := by simpa using hcut
            cases hfx : findK (abs r).ns x.nm with
            | none =>
              have hth : th = false := by
                rw [← HDD.out.2, HRk.out, hfx]
                rfl
              subst hth
              have HS := Aside0.mk (HKn.out j x HX.out hcut hfx)
              have HCx := Aside0.mk (fun (W : World) => scost_calls x.nm (x.d.size : Int) HXn.out (by omega) W)
              have hw1 : IntKind.i64.wrap (NK j + 1) = NK j + 1 := w64k (by omega)
              have hw2 : IntKind.i64.wrap (SK j + ((x.nm.size : Int) + (x.d.size : Int) + 8)) = SK j + ((x.nm.size : Int) + (x.d.size : Int) + 8) := w64k (by omega)
              clear hfx
              go_wp2_with (go_at_call 81; refine (HCx.out _).mono ?_; rintro e_ w6 ⟨rfl, hb⟩; have HB6 := Aside0.mk (HBx.out.trans (hb.mono HBx.out.size)); clear hb hg0 hg1 hg2; skip)
              go_roundw
              case rel => exact ⟨j + 1, by omega, by go_num, by rw [HS.out.1], by rw [HS.out.2], HB6⟩
              case measure => simp [intOf]; omega
            | some f =>
              have hth : th = true := by
                rw [← HDD.out.2, HRk.out, hfx]
                rfl
              subst hth
              have hdf : dd = f := by
                rw [← HDD.out.1, HRk.out, hfx]
                rfl
              subst hdf
              have HS := Aside0.mk (HKo.out j x dd HX.out hcut hfx)
              have HDs := Aside0.mk (show dd.size ≤ 200000 by
                have h1 := find_key r.ns x.nm
                rw [show r.ns.map keyD = (abs r).ns from rfl, hfx] at h1
                obtain ⟨f, hf1, e⟩ := Option.map_eq_some_iff.1 h1.symm
                rw [← e]
                exact (H.out.dn f (find_some hf1).1).2.size)
              have hds : (dd.size : Int) ≤ 200000 := by have := HDs.out; omega
              have hw1 : IntKind.i64.wrap ((x.d.size : Int) - (dd.size : Int)) = (x.d.size : Int) - (dd.size : Int) := w64k (by omega)
              clear hfx HDD HRk
              by_cases hlt2 : dd.size < x.d.size
              · have hw2 : IntKind.i64.wrap (SK j + ((x.d.size : Int) - (dd.size : Int))) = SK j + ((x.d.size : Int) - (dd.size : Int)) := w64k (by omega)
                have hm : max 0 ((x.d.size : Int) - (dd.size : Int)) = (x.d.size : Int) - (dd.size : Int) := by omega
                have HSx := Aside0.mk (show SK (j + 1) = SK j + ((x.d.size : Int) - (dd.size : Int)) by have h1 := HS.out.2; rwa [if_pos hlt2] at h1)
                go_wp2_with fail
                go_roundw
                case rel => exact ⟨j + 1, by omega, by go_num, by rw [HS.out.1], by rw [HSx.out], HBx⟩
                case measure => simp [intOf]; omega
              · have hm : max 0 ((x.d.size : Int) - (dd.size : Int)) = 0 := by omega
                have hw2 : IntKind.i64.wrap (SK j + 0) = SK j := by rw [Int.add_zero]; exact w64k (by omega)
                have hw3 : IntKind.i64.wrap (SK j) = SK j := w64k (by omega)
                have HSx := Aside0.mk (show SK (j + 1) = SK j by have h1 := HS.out.2; rwa [if_neg hlt2, Int.add_zero] at h1)
                go_wp2_with fail
                go_roundw
                case rel => exact ⟨j + 1, by omega, by go_num, by rw [HS.out.1], by rw [HSx.out], HBx⟩
                case measure => simp [intOf]; omega
        · obtain rfl : j = k := by omega
          clear hlt hj
          have hkb := HKb.out j (Nat.le_refl _)
          have hkb4 := hkb.2.2.2
          have GQ := Aside0.mk (HQ.out.below HB.out).1
          have HBr := HB
          have HRr := Aside0.mk (H.out.below HB.out)
          have HB : Aside0 (Below wr.heap.size wr wr) := ⟨Below.refl _ _⟩
          obtain ⟨S0', hS0⟩ : ∃ S0', (sumF r.ns : Int) = S0' := ⟨_, rfl⟩
          obtain ⟨R0, hR0⟩ : ∃ R0, r.room - (sumF r.ns : Int) = R0 := ⟨_, rfl⟩
          have HSi := Aside0.mk (fun (W : World) (h_ : Below wr.heap.size wr W) => show Calls Try.prog 37 #[.pointer (some ⟨g, 0, none⟩)] W (IntP W S0') from hS0 ▸ size_calls w0 g r W (HRr.out.below h_) (by have := HNL.out; omega))
          have HRo := Aside0.mk (fun (W : World) (h_ : Below wr.heap.size wr W) => show Calls Try.prog 38 #[.pointer (some ⟨g, 0, none⟩)] W (IntP W R0) from hR0 ▸ room_calls w0 g r W (HRr.out.below h_) (by have := HNL.out; omega))
          have HRS := Aside0.mk (show S0' + R0 = (abs r).room by show S0' + R0 = r.room; omega)
          have hrm : S0' + R0 ≤ 1000000 ∧ 0 ≤ S0' + R0 := by have := HRS.out; have := HRm.out; show S0' + R0 ≤ 1000000 ∧ _; rw [HRS.out]; exact ⟨HRm.out.2, HRm.out.1⟩
          have HFi := Aside0.mk (show fitsK (abs r) (ls.map keyW) = if 40 < NK j ∨ S0' + R0 < SK j then 4 else 0 by
            unfold fitsK
            rw [if_neg (by rw [HOk.out]; decide), if_neg (by rw [HNB.out]; have := HNb9.out; omega), HKe.out.1, HKe.out.2, HRS.out]
            by_cases hx : 40 < (allK (abs r).ns (rdK (ls.map keyW)) (ls.map keyW)).length ∨ (abs r).room < (sumK (allK (abs r).ns (rdK (ls.map keyW)) (ls.map keyW)) : Int)
            · rw [if_pos hx, if_pos (by omega)]
            · rw [if_neg hx, if_neg (by omega)])
          clear hS0 hR0 hkb
          by_cases h40 : 40 < NK j
          · have hd4 : decide (40 < NK j) = true := decide_eq_true h40
            have HFx := Aside0.mk (show fitsK (abs r) (ls.map keyW) = 4 by rw [HFi.out, if_pos (.inl h40)])
            go_upto_region 26 with fail
            clear h40
            refine start_ (n := 17) (S := fun w' => True) (ds := []) #[false, false, false, false, false, false, false, false, false, false, false, false, false, false, false, false, false] (by kernel_rfl) rfl rfl trivial (fun hHeld => ?_)
            refine with_tabW t_safe_Safe_Fits.tab26 t_safe_Safe_Fits.bits26 (fun HT_ HW_ => ?_)
            have hd_ := (below_drew1 (Below.refl wr.heap.size wr))
            have n_HB := Aside0.mk (HB.out.drew)
            clear HB
            have HB := n_HB
            clear n_HB
            generalize wr.drew = w_d at *
            clear hd_
            refine inv_at [0, 1, 2, 3, 4, 5, 6, 7, 8, 9, 10, 11, 12, 13, 14, 15, 16] (fun a0_ b a w' => a = putSel a0_ b [(0, 103, .int .i64 (NK j)), (1, 104, .bool true), (2, 105, .bool true), (3, 106, undef), (4, 107, undef), (5, 108, undef), (6, 109, undef), (7, 110, undef), (8, 111, undef), (9, 112, undef), (10, 113, undef), (11, 114, undef), (12, 115, undef), (13, 116, undef), (14, 117, undef), (15, 118, undef), (16, 119, .bool true)] ∧ (Below wr.heap.size wr w')) HT_.out HW_.out (by kernel_rfl) (by kernel_rfl) ?_ ?_ ?_
            · exact ⟨by simp only [putSel, Bool.false_eq_true, if_false], HB.out⟩
            · skip
              clear HB
              refine steps_cons ?_ ?_
              · rintro b a w' ⟨ha, Q_HB⟩ hb_ hon hoff
                refine ⟨_, rfl, fun K hK => ?_⟩
                have e8 : a.tmps[8]? = some (.int .i64 (NK j)) := by rw [ha]; exact (putSel_off rfl).trans rfl
                replace ha := Aside0.mk ha
                refine value_ (w1 := w') (v := .int .i64 (NK j)) (by rfl) rfl ?_ ?_
                · go_simp
                  (try simp only [i64_w])
                  try first | rfl | assumption
                refine hK.out _ _ ⟨(by rw [ha.out]; exact putSel_upk 0 hb_ rfl rfl rfl), Q_HB⟩
              refine steps_cons ?_ ?_
              · rintro b a w' ⟨ha, Q_HB⟩ hb_ hon hoff
                refine ⟨_, rfl, fun K hK => ?_⟩
                have e103 : a.tmps[103]? = some (.int .i64 (NK j)) := by rw [ha]; exact putSel_on (e := (0, 103, .int .i64 (NK j))) 0 rfl rfl (hon 0 (by kernel_rfl)) rfl
                replace ha := Aside0.mk ha
                refine value_ (w1 := w') (v := .bool true) (by rfl) rfl ?_ ?_
                · go_simp
                  try first | rfl | assumption
                refine hK.out _ _ ⟨(by rw [ha.out]; exact putSel_upk 1 hb_ rfl rfl rfl), Q_HB⟩
              refine steps_cons ?_ ?_
              · rintro b a w' ⟨ha, Q_HB⟩ hb_ hon hoff
                refine ⟨_, rfl, fun K hK => ?_⟩
                have e104 : a.tmps[104]? = some (.bool true) := by rw [ha]; exact putSel_on (e := (1, 104, .bool true)) 1 rfl rfl (hon 1 (by kernel_rfl)) rfl
                replace ha := Aside0.mk ha
                refine value_ (w1 := w') (v := .bool true) (by rfl) rfl ?_ ?_
                · go_simp
                  try first | rfl | assumption
                refine hK.out _ _ ⟨(by rw [ha.out]; exact putSel_upk 2 hb_ rfl rfl rfl), Q_HB⟩
              refine steps_cons ?_ ?_
              · rintro b a w' ⟨ha, Q_HB⟩ hb_ hon hoff
                refine ⟨_, rfl, fun K hK => ?_⟩
                have e105 : a.tmps[105]? = some (.bool true) := by rw [ha]; exact putSel_on (e := (2, 105, .bool true)) 2 rfl rfl (hon 2 (by kernel_rfl)) rfl
                replace ha := Aside0.mk ha
                refine off_ (wanted_off rfl rfl rfl (e105.trans (by first | rfl | (simp [*]; done)))) ?_
                refine hK.out _ _ ⟨(by rw [ha.out]; exact putSel_upk 3 hb_ rfl rfl rfl), Q_HB⟩
              refine steps_cons ?_ ?_
              · rintro b a w' ⟨ha, Q_HB⟩ hb_ hon hoff
                refine ⟨_, rfl, fun K hK => ?_⟩
                have e105 : a.tmps[105]? = some (.bool true) := by rw [ha]; exact putSel_on (e := (2, 105, .bool true)) 2 rfl rfl (hon 2 (by kernel_rfl)) rfl
                replace ha := Aside0.mk ha
                refine off_ (wanted_off rfl rfl rfl (e105.trans (by first | rfl | (simp [*]; done)))) ?_
                refine hK.out _ _ ⟨(by rw [ha.out]; exact putSel_upk 4 hb_ rfl rfl rfl), Q_HB⟩
              refine steps_cons ?_ ?_
              · rintro b a w' ⟨ha, Q_HB⟩ hb_ hon hoff
                refine ⟨_, rfl, fun K hK => ?_⟩
                have e105 : a.tmps[105]? = some (.bool true) := by rw [ha]; exact putSel_on (e := (2, 105, .bool true)) 2 rfl rfl (hon 2 (by kernel_rfl)) rfl
                replace ha := Aside0.mk ha
                refine off_ (wanted_off rfl rfl rfl (e105.trans (by first | rfl | (simp [*]; done)))) ?_
                refine hK.out _ _ ⟨(by rw [ha.out]; exact putSel_upk 5 hb_ rfl rfl rfl), Q_HB⟩
              refine steps_cons ?_ ?_
              · rintro b a w' ⟨ha, Q_HB⟩ hb_ hon hoff
                refine ⟨_, rfl, fun K hK => ?_⟩
                have e105 : a.tmps[105]? = some (.bool true) := by rw [ha]; exact putSel_on (e := (2, 105, .bool true)) 2 rfl rfl (hon 2 (by kernel_rfl)) rfl
                replace ha := Aside0.mk ha
                refine off_ (wanted_off rfl rfl rfl (e105.trans (by first | rfl | (simp [*]; done)))) ?_
                refine hK.out _ _ ⟨(by rw [ha.out]; exact putSel_upk 6 hb_ rfl rfl rfl), Q_HB⟩
              refine steps_cons ?_ ?_
              · rintro b a w' ⟨ha, Q_HB⟩ hb_ hon hoff
                refine ⟨_, rfl, fun K hK => ?_⟩
                have e105 : a.tmps[105]? = some (.bool true) := by rw [ha]; exact putSel_on (e := (2, 105, .bool true)) 2 rfl rfl (hon 2 (by kernel_rfl)) rfl
                replace ha := Aside0.mk ha
                refine off_ (wanted_off rfl rfl rfl (e105.trans (by first | rfl | (simp [*]; done)))) ?_
                refine hK.out _ _ ⟨(by rw [ha.out]; exact putSel_upk 7 hb_ rfl rfl rfl), Q_HB⟩
              refine steps_cons ?_ ?_
              · rintro b a w' ⟨ha, Q_HB⟩ hb_ hon hoff
                refine ⟨_, rfl, fun K hK => ?_⟩
                have e105 : a.tmps[105]? = some (.bool true) := by rw [ha]; exact putSel_on (e := (2, 105, .bool true)) 2 rfl rfl (hon 2 (by kernel_rfl)) rfl
                replace ha := Aside0.mk ha
                refine off_ (wanted_off rfl rfl rfl (e105.trans (by first | rfl | (simp [*]; done)))) ?_
                refine hK.out _ _ ⟨(by rw [ha.out]; exact putSel_upk 8 hb_ rfl rfl rfl), Q_HB⟩
              refine steps_cons ?_ ?_
              · rintro b a w' ⟨ha, Q_HB⟩ hb_ hon hoff
                refine ⟨_, rfl, fun K hK => ?_⟩
                have e105 : a.tmps[105]? = some (.bool true) := by rw [ha]; exact putSel_on (e := (2, 105, .bool true)) 2 rfl rfl (hon 2 (by kernel_rfl)) rfl
                replace ha := Aside0.mk ha
                refine off_ (wanted_off rfl rfl rfl (e105.trans (by first | rfl | (simp [*]; done)))) ?_
                refine hK.out _ _ ⟨(by rw [ha.out]; exact putSel_upk 9 hb_ rfl rfl rfl), Q_HB⟩
              refine steps_cons ?_ ?_
              · rintro b a w' ⟨ha, Q_HB⟩ hb_ hon hoff
                refine ⟨_, rfl, fun K hK => ?_⟩
                have e105 : a.tmps[105]? = some (.bool true) := by rw [ha]; exact putSel_on (e := (2, 105, .bool true)) 2 rfl rfl (hon 2 (by kernel_rfl)) rfl
                replace ha := Aside0.mk ha
                refine off_ (wanted_off rfl rfl rfl (e105.trans (by first | rfl | (simp [*]; done)))) ?_
                refine hK.out _ _ ⟨(by rw [ha.out]; exact putSel_upk 10 hb_ rfl rfl rfl), Q_HB⟩
              refine steps_cons ?_ ?_
              · rintro b a w' ⟨ha, Q_HB⟩ hb_ hon hoff
                refine ⟨_, rfl, fun K hK => ?_⟩
                have e105 : a.tmps[105]? = some (.bool true) := by rw [ha]; exact putSel_on (e := (2, 105, .bool true)) 2 rfl rfl (hon 2 (by kernel_rfl)) rfl
                replace ha := Aside0.mk ha
                refine off_ (wanted_off rfl rfl rfl (e105.trans (by first | rfl | (simp [*]; done)))) ?_
                refine hK.out _ _ ⟨(by rw [ha.out]; exact putSel_upk 11 hb_ rfl rfl rfl), Q_HB⟩
              refine steps_cons ?_ ?_
              · rintro b a w' ⟨ha, Q_HB⟩ hb_ hon hoff
                refine ⟨_, rfl, fun K hK => ?_⟩
                have e105 : a.tmps[105]? = some (.bool true) := by rw [ha]; exact putSel_on (e := (2, 105, .bool true)) 2 rfl rfl (hon 2 (by kernel_rfl)) rfl
                replace ha := Aside0.mk ha
                refine off_ (wanted_off rfl rfl rfl (e105.trans (by first | rfl | (simp [*]; done)))) ?_
                refine hK.out _ _ ⟨(by rw [ha.out]; exact putSel_upk 12 hb_ rfl rfl rfl), Q_HB⟩
              refine steps_cons ?_ ?_
              · rintro b a w' ⟨ha, Q_HB⟩ hb_ hon hoff
                refine ⟨_, rfl, fun K hK => ?_⟩
                have e105 : a.tmps[105]? = some (.bool true) := by rw [ha]; exact putSel_on (e := (2, 105, .bool true)) 2 rfl rfl (hon 2 (by kernel_rfl)) rfl
                replace ha := Aside0.mk ha
                refine off_ (wanted_off rfl rfl rfl (e105.trans (by first | rfl | (simp [*]; done)))) ?_
                refine hK.out _ _ ⟨(by rw [ha.out]; exact putSel_upk 13 hb_ rfl rfl rfl), Q_HB⟩
              refine steps_cons ?_ ?_
              · rintro b a w' ⟨ha, Q_HB⟩ hb_ hon hoff
                refine ⟨_, rfl, fun K hK => ?_⟩
                have e105 : a.tmps[105]? = some (.bool true) := by rw [ha]; exact putSel_on (e := (2, 105, .bool true)) 2 rfl rfl (hon 2 (by kernel_rfl)) rfl
                replace ha := Aside0.mk ha
                refine off_ (wanted_off rfl rfl rfl (e105.trans (by first | rfl | (simp [*]; done)))) ?_
                refine hK.out _ _ ⟨(by rw [ha.out]; exact putSel_upk 14 hb_ rfl rfl rfl), Q_HB⟩
              refine steps_cons ?_ ?_
              · rintro b a w' ⟨ha, Q_HB⟩ hb_ hon hoff
                refine ⟨_, rfl, fun K hK => ?_⟩
                have e105 : a.tmps[105]? = some (.bool true) := by rw [ha]; exact putSel_on (e := (2, 105, .bool true)) 2 rfl rfl (hon 2 (by kernel_rfl)) rfl
                replace ha := Aside0.mk ha
                refine off_ (wanted_off rfl rfl rfl (e105.trans (by first | rfl | (simp [*]; done)))) ?_
                refine hK.out _ _ ⟨(by rw [ha.out]; exact putSel_upk 15 hb_ rfl rfl rfl), Q_HB⟩
              refine steps_cons ?_ ?_
              · rintro b a w' ⟨ha, Q_HB⟩ hb_ hon hoff
                refine ⟨_, rfl, fun K hK => ?_⟩
                have e105 : a.tmps[105]? = some (.bool true) := by rw [ha]; exact putSel_on (e := (2, 105, .bool true)) 2 rfl rfl (hon 2 (by kernel_rfl)) rfl
                have e118 : a.tmps[118]? = some (undef) := by rw [ha]; exact putSel_on (e := (15, 118, undef)) 15 rfl rfl (hon 15 (by kernel_rfl)) rfl
                replace ha := Aside0.mk ha
                refine value_ (w1 := w') (v := .bool true) (by rfl) rfl ?_ ?_
                · go_simp
                  try first | rfl | assumption
                refine hK.out _ _ ⟨(by rw [ha.out]; exact putSel_upk 16 hb_ rfl rfl rfl), Q_HB⟩
              exact steps_nil
            rintro b a w5 hall ⟨ha, Q_HB⟩
            clear HB
            have hb0_ := hall 0 (by kernel_rfl)
            have hb1_ := hall 1 (by kernel_rfl)
            have hb2_ := hall 2 (by kernel_rfl)
            have hb3_ := hall 3 (by kernel_rfl)
            have hb4_ := hall 4 (by kernel_rfl)
            have hb5_ := hall 5 (by kernel_rfl)
            have hb6_ := hall 6 (by kernel_rfl)
            have hb7_ := hall 7 (by kernel_rfl)
            have hb8_ := hall 8 (by kernel_rfl)
            have hb9_ := hall 9 (by kernel_rfl)
            have hb10_ := hall 10 (by kernel_rfl)
            have hb11_ := hall 11 (by kernel_rfl)
            have hb12_ := hall 12 (by kernel_rfl)
            have hb13_ := hall 13 (by kernel_rfl)
            have hb14_ := hall 14 (by kernel_rfl)
            have hb15_ := hall 15 (by kernel_rfl)
            have hb16_ := hall 16 (by kernel_rfl)
            subst ha
            simp only [putSel, hb0_, hb1_, hb2_, hb3_, hb4_, hb5_, hb6_, hb7_, hb8_, hb9_, hb10_, hb11_, hb12_, hb13_, hb14_, hb15_, hb16_, if_true, Act.put, List.setIfInBounds_toArray, List.set_cons_zero, List.set_cons_succ]
            have HB := Aside0.mk Q_HB
            clear Q_HB
            clear hall hb0_ hb1_ hb2_ hb3_ hb4_ hb5_ hb6_ hb7_ hb8_ hb9_ hb10_ hb11_ hb12_ hb13_ hb14_ hb15_ hb16_
            go_wp2_with fail
            go_ret
            exact ⟨by rw [HFx.out]; rfl, HBr.out.trans (HB.out.mono HBr.out.size)⟩
          · have hd4 : decide (40 < NK j) = false := decide_eq_false h40
            obtain ⟨bw, hb⟩ : ∃ bw, decide (S0' + R0 < SK j) = bw := ⟨_, rfl⟩
            have HFx := Aside0.mk (show fitsK (abs r) (ls.map keyW) = if bw = true then 4 else 0 by
              rw [HFi.out, ← hb]
              by_cases hx : S0' + R0 < SK j
              · rw [if_pos (.inr hx), if_pos (decide_eq_true hx)]
              · rw [if_neg (by omega), if_neg (by rw [decide_eq_false hx]; decide)])
            go_upto_region 26 with fail
            clear h40
            refine start_ (n := 17) (S := fun w' => True) (ds := []) #[false, false, false, false, false, false, false, false, false, false, false, false, false, false, false, false, false] (by kernel_rfl) rfl rfl trivial (fun hHeld => ?_)
            refine with_tabW t_safe_Safe_Fits.tab26 t_safe_Safe_Fits.bits26 (fun HT_ HW_ => ?_)
            have hd_ := (below_drew1 (Below.refl wr.heap.size wr))
            have n_HB := Aside0.mk (HB.out.drew)
            have n_GQ := Aside0.mk ((show wr.drew.heap[q]? = _ from GQ.out))
            clear HB
            have HB := n_HB
            clear n_HB
            clear GQ
            have GQ := n_GQ
            clear n_GQ
            generalize wr.drew = w_d at *
            clear hd_
            refine inv_at [0, 1, 2, 3, 4, 5, 6, 7, 8, 9, 10, 11, 12, 13, 14, 15, 16] (fun a0_ b a w' => a = putSel a0_ b [(0, 103, .int .i64 (NK j)), (1, 104, .bool false), (2, 105, .bool false), (3, 106, .int .i64 (SK j)), (4, 107, .pointer (some ⟨q, 0, none⟩)), (5, 108, .pointer (some ⟨q, 0, none⟩)), (6, 109, .pointer (some ⟨q, 0, none⟩)), (7, 110, .pointer (some ⟨g, 0, none⟩)), (8, 111, .int .i64 S0'), (9, 112, .pointer (some ⟨q, 0, none⟩)), (10, 113, .pointer (some ⟨q, 0, none⟩)), (11, 114, .pointer (some ⟨q, 0, none⟩)), (12, 115, .pointer (some ⟨g, 0, none⟩)), (13, 116, .int .i64 R0), (14, 117, .int .i64 (S0' + R0)), (15, 118, .bool bw), (16, 119, .bool bw)] ∧ (Below wr.heap.size wr w') ∧ (w'.heap[q]? = some (.cells #[.pointer (some ⟨g, 0, none⟩)] 109 (0, 0)))) HT_.out HW_.out (by kernel_rfl) (by kernel_rfl) ?_ ?_ ?_
            · exact ⟨by simp only [putSel, Bool.false_eq_true, if_false], HB.out, GQ.out⟩
            · skip
              clear GQ HB
              refine steps_cons ?_ ?_
              · rintro b a w' ⟨ha, Q_HB, Q_GQ⟩ hb_ hon hoff
                refine ⟨_, rfl, fun K hK => ?_⟩
                have e8 : a.tmps[8]? = some (.int .i64 (NK j)) := by rw [ha]; exact (putSel_off rfl).trans rfl
                replace ha := Aside0.mk ha
                refine value_ (w1 := w') (v := .int .i64 (NK j)) (by rfl) rfl ?_ ?_
                · go_simp
                  (try simp only [i64_w])
                  try first | rfl | assumption
                refine hK.out _ _ ⟨(by rw [ha.out]; exact putSel_upk 0 hb_ rfl rfl rfl), Q_HB, Q_GQ⟩
              refine steps_cons ?_ ?_
              · rintro b a w' ⟨ha, Q_HB, Q_GQ⟩ hb_ hon hoff
                refine ⟨_, rfl, fun K hK => ?_⟩
                have e103 : a.tmps[103]? = some (.int .i64 (NK j)) := by rw [ha]; exact putSel_on (e := (0, 103, .int .i64 (NK j))) 0 rfl rfl (hon 0 (by kernel_rfl)) rfl
                replace ha := Aside0.mk ha
                refine value_ (w1 := w') (v := .bool false) (by rfl) rfl ?_ ?_
                · go_simp
                  try first | rfl | assumption
                refine hK.out _ _ ⟨(by rw [ha.out]; exact putSel_upk 1 hb_ rfl rfl rfl), Q_HB, Q_GQ⟩
              refine steps_cons ?_ ?_
              · rintro b a w' ⟨ha, Q_HB, Q_GQ⟩ hb_ hon hoff
                refine ⟨_, rfl, fun K hK => ?_⟩
                have e104 : a.tmps[104]? = some (.bool false) := by rw [ha]; exact putSel_on (e := (1, 104, .bool false)) 1 rfl rfl (hon 1 (by kernel_rfl)) rfl
                replace ha := Aside0.mk ha
                refine value_ (w1 := w') (v := .bool false) (by rfl) rfl ?_ ?_
                · go_simp
                  try first | rfl | assumption
                refine hK.out _ _ ⟨(by rw [ha.out]; exact putSel_upk 2 hb_ rfl rfl rfl), Q_HB, Q_GQ⟩
              refine steps_cons ?_ ?_
              · rintro b a w' ⟨ha, Q_HB, Q_GQ⟩ hb_ hon hoff
                refine ⟨_, rfl, fun K hK => ?_⟩
                have e9 : a.tmps[9]? = some (.int .i64 (SK j)) := by rw [ha]; exact (putSel_off rfl).trans rfl
                have e105 : a.tmps[105]? = some (.bool false) := by rw [ha]; exact putSel_on (e := (2, 105, .bool false)) 2 rfl rfl (hon 2 (by kernel_rfl)) rfl
                replace ha := Aside0.mk ha
                refine value_ (w1 := w') (v := .int .i64 (SK j)) (wanted_on rfl rfl rfl (e105.trans (by first | rfl | (simp [*]; done)))) rfl ?_ ?_
                · go_simp
                  (try simp only [i64_w])
                  try first | rfl | assumption
                refine hK.out _ _ ⟨(by rw [ha.out]; exact putSel_upk 3 hb_ rfl rfl rfl), Q_HB, Q_GQ⟩
              refine steps_cons ?_ ?_
              · rintro b a w' ⟨ha, Q_HB, Q_GQ⟩ hb_ hon hoff
                refine ⟨_, rfl, fun K hK => ?_⟩
                have e0 : a.tmps[0]? = some (.pointer (some ⟨q, 0, none⟩)) := by rw [ha]; exact (putSel_off rfl).trans rfl
                have e105 : a.tmps[105]? = some (.bool false) := by rw [ha]; exact putSel_on (e := (2, 105, .bool false)) 2 rfl rfl (hon 2 (by kernel_rfl)) rfl
                replace ha := Aside0.mk ha
                refine value_ (w1 := w') (v := .pointer (some ⟨q, 0, none⟩)) (wanted_on rfl rfl rfl (e105.trans (by first | rfl | (simp [*]; done)))) rfl ?_ ?_
                · go_simp
                  try first | rfl | assumption
                refine hK.out _ _ ⟨(by rw [ha.out]; exact putSel_upk 4 hb_ rfl rfl rfl), Q_HB, Q_GQ⟩
              refine steps_cons ?_ ?_
              · rintro b a w' ⟨ha, Q_HB, Q_GQ⟩ hb_ hon hoff
                refine ⟨_, rfl, fun K hK => ?_⟩
                have e107 : a.tmps[107]? = some (.pointer (some ⟨q, 0, none⟩)) := by rw [ha]; exact putSel_on (e := (4, 107, .pointer (some ⟨q, 0, none⟩))) 4 rfl rfl (hon 4 (by kernel_rfl)) rfl
                have e105 : a.tmps[105]? = some (.bool false) := by rw [ha]; exact putSel_on (e := (2, 105, .bool false)) 2 rfl rfl (hon 2 (by kernel_rfl)) rfl
                replace ha := Aside0.mk ha
                refine value_ (w1 := w') (v := .pointer (some ⟨q, 0, none⟩)) (wanted_on rfl rfl rfl (e105.trans (by first | rfl | (simp [*]; done)))) rfl ?_ ?_
                · go_simp
                  try first | rfl | assumption
                refine hK.out _ _ ⟨(by rw [ha.out]; exact putSel_upk 5 hb_ rfl rfl rfl), Q_HB, Q_GQ⟩
              refine steps_cons ?_ ?_
              · rintro b a w' ⟨ha, Q_HB, Q_GQ⟩ hb_ hon hoff
                refine ⟨_, rfl, fun K hK => ?_⟩
                have e108 : a.tmps[108]? = some (.pointer (some ⟨q, 0, none⟩)) := by rw [ha]; exact putSel_on (e := (5, 108, .pointer (some ⟨q, 0, none⟩))) 5 rfl rfl (hon 5 (by kernel_rfl)) rfl
                have e105 : a.tmps[105]? = some (.bool false) := by rw [ha]; exact putSel_on (e := (2, 105, .bool false)) 2 rfl rfl (hon 2 (by kernel_rfl)) rfl
                replace ha := Aside0.mk ha
                refine value_ (w1 := w') (v := .pointer (some ⟨q, 0, none⟩)) (wanted_on rfl rfl rfl (e105.trans (by first | rfl | (simp [*]; done)))) rfl ?_ ?_
                · go_simp
                  try first | rfl | assumption
                refine hK.out _ _ ⟨(by rw [ha.out]; exact putSel_upk 6 hb_ rfl rfl rfl), Q_HB, Q_GQ⟩
              refine steps_cons ?_ ?_
              · rintro b a w' ⟨ha, Q_HB, Q_GQ⟩ hb_ hon hoff
                refine ⟨_, rfl, fun K hK => ?_⟩
                have e109 : a.tmps[109]? = some (.pointer (some ⟨q, 0, none⟩)) := by rw [ha]; exact putSel_on (e := (6, 109, .pointer (some ⟨q, 0, none⟩))) 6 rfl rfl (hon 6 (by kernel_rfl)) rfl
                have e105 : a.tmps[105]? = some (.bool false) := by rw [ha]; exact putSel_on (e := (2, 105, .bool false)) 2 rfl rfl (hon 2 (by kernel_rfl)) rfl
                replace ha := Aside0.mk ha
                have GQ := Aside0.mk Q_GQ
                have hc0 := blk_cell GQ.out 0
                refine value_ (w1 := w') (v := .pointer (some ⟨g, 0, none⟩)) (wanted_on rfl rfl rfl (e105.trans (by first | rfl | (simp [*]; done)))) rfl ?_ ?_
                · go_simp
                  try first | rfl | assumption
                refine hK.out _ _ ⟨(by rw [ha.out]; exact putSel_upk 7 hb_ rfl rfl rfl), Q_HB, Q_GQ⟩
              refine steps_cons ?_ ?_
              · rintro b a w' ⟨ha, Q_HB, Q_GQ⟩ hb_ hon hoff
                refine ⟨_, rfl, fun K hK => ?_⟩
                have e110 : a.tmps[110]? = some (.pointer (some ⟨g, 0, none⟩)) := by rw [ha]; exact putSel_on (e := (7, 110, .pointer (some ⟨g, 0, none⟩))) 7 rfl rfl (hon 7 (by kernel_rfl)) rfl
                have e105 : a.tmps[105]? = some (.bool false) := by rw [ha]; exact putSel_on (e := (2, 105, .bool false)) 2 rfl rfl (hon 2 (by kernel_rfl)) rfl
                replace ha := Aside0.mk ha
                have HB := Aside0.mk Q_HB
                have GQ := Aside0.mk Q_GQ
                refine goes_ Try.func37 (by kernel_rfl) rfl #[.pointer (some ⟨g, 0, none⟩)] (wanted_on rfl rfl rfl (e105.trans (by first | rfl | (simp [*]; done)))) rfl rfl (by first | (simp only [List.map_toArray, List.map_cons, List.map_nil, Act.eval, Array.getD_eq_getD_getElem?, Option.getD_some, e110, e105]; done) | (simp only [List.map_toArray, List.map_cons, List.map_nil, Act.eval, Array.getD_eq_getD_getElem?, Option.getD_some, e110, e105]; rfl)) ?_
                with_reducible refine (HSi.out w' HB.out).mono ?_
                rintro e wq ⟨rfl, hb⟩
                refine ⟨_, rfl, ?_⟩
                refine hK.out _ _ ⟨(by rw [ha.out]; exact putSel_upk 8 hb_ rfl rfl rfl), HB.out.trans (hb.mono HB.out.size), blk_below GQ.out hb⟩
              refine steps_cons ?_ ?_
              · rintro b a w' ⟨ha, Q_HB, Q_GQ⟩ hb_ hon hoff
                refine ⟨_, rfl, fun K hK => ?_⟩
                have e0 : a.tmps[0]? = some (.pointer (some ⟨q, 0, none⟩)) := by rw [ha]; exact (putSel_off rfl).trans rfl
                have e105 : a.tmps[105]? = some (.bool false) := by rw [ha]; exact putSel_on (e := (2, 105, .bool false)) 2 rfl rfl (hon 2 (by kernel_rfl)) rfl
                replace ha := Aside0.mk ha
                refine value_ (w1 := w') (v := .pointer (some ⟨q, 0, none⟩)) (wanted_on rfl rfl rfl (e105.trans (by first | rfl | (simp [*]; done)))) rfl ?_ ?_
                · go_simp
                  try first | rfl | assumption
                refine hK.out _ _ ⟨(by rw [ha.out]; exact putSel_upk 9 hb_ rfl rfl rfl), Q_HB, Q_GQ⟩
              refine steps_cons ?_ ?_
              · rintro b a w' ⟨ha, Q_HB, Q_GQ⟩ hb_ hon hoff
                refine ⟨_, rfl, fun K hK => ?_⟩
                have e112 : a.tmps[112]? = some (.pointer (some ⟨q, 0, none⟩)) := by rw [ha]; exact putSel_on (e := (9, 112, .pointer (some ⟨q, 0, none⟩))) 9 rfl rfl (hon 9 (by kernel_rfl)) rfl
                have e105 : a.tmps[105]? = some (.bool false) := by rw [ha]; exact putSel_on (e := (2, 105, .bool false)) 2 rfl rfl (hon 2 (by kernel_rfl)) rfl
                replace ha := Aside0.mk ha
                refine value_ (w1 := w') (v := .pointer (some ⟨q, 0, none⟩)) (wanted_on rfl rfl rfl (e105.trans (by first | rfl | (simp [*]; done)))) rfl ?_ ?_
                · go_simp
                  try first | rfl | assumption
                refine hK.out _ _ ⟨(by rw [ha.out]; exact putSel_upk 10 hb_ rfl rfl rfl), Q_HB, Q_GQ⟩
              refine steps_cons ?_ ?_
              · rintro b a w' ⟨ha, Q_HB, Q_GQ⟩ hb_ hon hoff
                refine ⟨_, rfl, fun K hK => ?_⟩
                have e113 : a.tmps[113]? = some (.pointer (some ⟨q, 0, none⟩)) := by rw [ha]; exact putSel_on (e := (10, 113, .pointer (some ⟨q, 0, none⟩))) 10 rfl rfl (hon 10 (by kernel_rfl)) rfl
                have e105 : a.tmps[105]? = some (.bool false) := by rw [ha]; exact putSel_on (e := (2, 105, .bool false)) 2 rfl rfl (hon 2 (by kernel_rfl)) rfl
                replace ha := Aside0.mk ha
                refine value_ (w1 := w') (v := .pointer (some ⟨q, 0, none⟩)) (wanted_on rfl rfl rfl (e105.trans (by first | rfl | (simp [*]; done)))) rfl ?_ ?_
                · go_simp
                  try first | rfl | assumption
                refine hK.out _ _ ⟨(by rw [ha.out]; exact putSel_upk 11 hb_ rfl rfl rfl), Q_HB, Q_GQ⟩
              refine steps_cons ?_ ?_
              · rintro b a w' ⟨ha, Q_HB, Q_GQ⟩ hb_ hon hoff
                refine ⟨_, rfl, fun K hK => ?_⟩
                have e114 : a.tmps[114]? = some (.pointer (some ⟨q, 0, none⟩)) := by rw [ha]; exact putSel_on (e := (11, 114, .pointer (some ⟨q, 0, none⟩))) 11 rfl rfl (hon 11 (by kernel_rfl)) rfl
                have e105 : a.tmps[105]? = some (.bool false) := by rw [ha]; exact putSel_on (e := (2, 105, .bool false)) 2 rfl rfl (hon 2 (by kernel_rfl)) rfl
                replace ha := Aside0.mk ha
                have GQ := Aside0.mk Q_GQ
                have hc0 := blk_cell GQ.out 0
                refine value_ (w1 := w') (v := .pointer (some ⟨g, 0, none⟩)) (wanted_on rfl rfl rfl (e105.trans (by first | rfl | (simp [*]; done)))) rfl ?_ ?_
                · go_simp
                  try first | rfl | assumption
                refine hK.out _ _ ⟨(by rw [ha.out]; exact putSel_upk 12 hb_ rfl rfl rfl), Q_HB, Q_GQ⟩
              refine steps_cons ?_ ?_
              · rintro b a w' ⟨ha, Q_HB, Q_GQ⟩ hb_ hon hoff
                refine ⟨_, rfl, fun K hK => ?_⟩
                have e115 : a.tmps[115]? = some (.pointer (some ⟨g, 0, none⟩)) := by rw [ha]; exact putSel_on (e := (12, 115, .pointer (some ⟨g, 0, none⟩))) 12 rfl rfl (hon 12 (by kernel_rfl)) rfl
                have e105 : a.tmps[105]? = some (.bool false) := by rw [ha]; exact putSel_on (e := (2, 105, .bool false)) 2 rfl rfl (hon 2 (by kernel_rfl)) rfl
                replace ha := Aside0.mk ha
                have HB := Aside0.mk Q_HB
                have GQ := Aside0.mk Q_GQ
                refine goes_ Try.func38 (by kernel_rfl) rfl #[.pointer (some ⟨g, 0, none⟩)] (wanted_on rfl rfl rfl (e105.trans (by first | rfl | (simp [*]; done)))) rfl rfl (by first | (simp only [List.map_toArray, List.map_cons, List.map_nil, Act.eval, Array.getD_eq_getD_getElem?, Option.getD_some, e115, e105]; done) | (simp only [List.map_toArray, List.map_cons, List.map_nil, Act.eval, Array.getD_eq_getD_getElem?, Option.getD_some, e115, e105]; rfl)) ?_
                with_reducible refine (HRo.out w' HB.out).mono ?_
                rintro e wq ⟨rfl, hb⟩
                refine ⟨_, rfl, ?_⟩
                refine hK.out _ _ ⟨(by rw [ha.out]; exact putSel_upk 13 hb_ rfl rfl rfl), HB.out.trans (hb.mono HB.out.size), blk_below GQ.out hb⟩
              refine steps_cons ?_ ?_
              · rintro b a w' ⟨ha, Q_HB, Q_GQ⟩ hb_ hon hoff
                refine ⟨_, rfl, fun K hK => ?_⟩
                have e111 : a.tmps[111]? = some (.int .i64 S0') := by rw [ha]; exact putSel_on (e := (8, 111, .int .i64 S0')) 8 rfl rfl (hon 8 (by kernel_rfl)) rfl
                have e116 : a.tmps[116]? = some (.int .i64 R0) := by rw [ha]; exact putSel_on (e := (13, 116, .int .i64 R0)) 13 rfl rfl (hon 13 (by kernel_rfl)) rfl
                have e105 : a.tmps[105]? = some (.bool false) := by rw [ha]; exact putSel_on (e := (2, 105, .bool false)) 2 rfl rfl (hon 2 (by kernel_rfl)) rfl
                replace ha := Aside0.mk ha
                have hw_ : IntKind.i64.wrap (S0' + R0) = S0' + R0 := by rw [IntKind.wrap_i64]; omega
                refine value_ (w1 := w') (v := .int .i64 (S0' + R0)) (wanted_on rfl rfl rfl (e105.trans (by first | rfl | (simp [*]; done)))) rfl ?_ ?_
                · go_simp
                  (try simp only [i64_w])
                  try first | rfl | assumption
                refine hK.out _ _ ⟨(by rw [ha.out]; exact putSel_upk 14 hb_ rfl rfl rfl), Q_HB, Q_GQ⟩
              refine steps_cons ?_ ?_
              · rintro b a w' ⟨ha, Q_HB, Q_GQ⟩ hb_ hon hoff
                refine ⟨_, rfl, fun K hK => ?_⟩
                have e106 : a.tmps[106]? = some (.int .i64 (SK j)) := by rw [ha]; exact putSel_on (e := (3, 106, .int .i64 (SK j))) 3 rfl rfl (hon 3 (by kernel_rfl)) rfl
                have e117 : a.tmps[117]? = some (.int .i64 (S0' + R0)) := by rw [ha]; exact putSel_on (e := (14, 117, .int .i64 (S0' + R0))) 14 rfl rfl (hon 14 (by kernel_rfl)) rfl
                have e105 : a.tmps[105]? = some (.bool false) := by rw [ha]; exact putSel_on (e := (2, 105, .bool false)) 2 rfl rfl (hon 2 (by kernel_rfl)) rfl
                replace ha := Aside0.mk ha
                refine value_ (w1 := w') (v := .bool bw) (wanted_on rfl rfl rfl (e105.trans (by first | rfl | (simp [*]; done)))) rfl ?_ ?_
                · go_simp
                  try first | rfl | assumption
                refine hK.out _ _ ⟨(by rw [ha.out]; exact putSel_upk 15 hb_ rfl rfl rfl), Q_HB, Q_GQ⟩
              refine steps_cons ?_ ?_
              · rintro b a w' ⟨ha, Q_HB, Q_GQ⟩ hb_ hon hoff
                refine ⟨_, rfl, fun K hK => ?_⟩
                have e105 : a.tmps[105]? = some (.bool false) := by rw [ha]; exact putSel_on (e := (2, 105, .bool false)) 2 rfl rfl (hon 2 (by kernel_rfl)) rfl
                have e118 : a.tmps[118]? = some (.bool bw) := by rw [ha]; exact putSel_on (e := (15, 118, .bool bw)) 15 rfl rfl (hon 15 (by kernel_rfl)) rfl
                replace ha := Aside0.mk ha
                refine value_ (w1 := w') (v := .bool bw) (by rfl) rfl ?_ ?_
                · go_simp
                  try first | rfl | assumption
                refine hK.out _ _ ⟨(by rw [ha.out]; exact putSel_upk 16 hb_ rfl rfl rfl), Q_HB, Q_GQ⟩
              exact steps_nil
            rintro b a w5 hall ⟨ha, Q_HB, Q_GQ⟩
            clear GQ HB
            have hb0_ := hall 0 (by kernel_rfl)
            have hb1_ := hall 1 (by kernel_rfl)
            have hb2_ := hall 2 (by kernel_rfl)
            have hb3_ := hall 3 (by kernel_rfl)
            have hb4_ := hall 4 (by kernel_rfl)
            have hb5_ := hall 5 (by kernel_rfl)
            have hb6_ := hall 6 (by kernel_rfl)
            have hb7_ := hall 7 (by kernel_rfl)
            have hb8_ := hall 8 (by kernel_rfl)
            have hb9_ := hall 9 (by kernel_rfl)
            have hb10_ := hall 10 (by kernel_rfl)
            have hb11_ := hall 11 (by kernel_rfl)
            have hb12_ := hall 12 (by kernel_rfl)
            have hb13_ := hall 13 (by kernel_rfl)
            have hb14_ := hall 14 (by kernel_rfl)
            have hb15_ := hall 15 (by kernel_rfl)
            have hb16_ := hall 16 (by kernel_rfl)
            subst ha
            simp only [putSel, hb0_, hb1_, hb2_, hb3_, hb4_, hb5_, hb6_, hb7_, hb8_, hb9_, hb10_, hb11_, hb12_, hb13_, hb14_, hb15_, hb16_, if_true, Act.put, List.setIfInBounds_toArray, List.set_cons_zero, List.set_cons_succ]
            have HB := Aside0.mk Q_HB
            clear Q_HB
            have GQ := Aside0.mk Q_GQ
            clear Q_GQ
            clear hall hb0_ hb1_ hb2_ hb3_ hb4_ hb5_ hb6_ hb7_ hb8_ hb9_ hb10_ hb11_ hb12_ hb13_ hb14_ hb15_ hb16_
            have HBz := Aside0.mk (HBr.out.trans (HB.out.mono HBr.out.size))
            cases bw with
            | true =>
              go_wp2_with fail
              go_ret
              exact ⟨by rw [HFx.out]; rfl, HBz.out⟩
            | false =>
              go_wp2_with fail
              go_ret
              exact ⟨by rw [HFx.out]; rfl, HBz.out⟩
end
end Go.Proofs.Ytjljgcceapkdcaa.SfG
end
