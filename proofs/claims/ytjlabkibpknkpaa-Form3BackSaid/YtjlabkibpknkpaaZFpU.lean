-- Written by a program of this claim's session (wip/tool/prune.py): what is used of a longer text. Not trusted: Lean checks it.
import Derived.Test.YtjlabkibpknkpaaZFpT
namespace Go.Proofs.Ytjlabkibpknkpaa.FpU
open Go.RowKit Go.Proofs.YtjlabkibpknkpaaW.PrintWords Go.Proofs.YtjlabkibpknkpaaW.PrintLast Go.Proofs.YtjlabkibpknkpaaW.PrintMore Go.Proofs.Ytjlabkibpknkpaa.FmM Go.Proofs.Ytjlabkibpknkpaa.PkP Go.Proofs.Ytjlabkibpknkpaa.PkR Go.Proofs.Ytjlabkibpknkpaa.FmN Go.Proofs.Ytjlabkibpknkpaa.FmY Go.Proofs.Ytjlabkibpknkpaa.FpP Go.Proofs.Ytjlabkibpknkpaa.FpQ Go.Proofs.Ytjlabkibpknkpaa.FpR Go.Proofs.Ytjlabkibpknkpaa.FpS Go.Proofs.Ytjlabkibpknkpaa.FpT
set_option linter.unusedVariables false
set_option linter.unusedSimpArgs false
theorem info_str : (Try.prog.info? 9).map (fun i => (i.zero, i.size, i.bytes)) = some (some (.string ⟨#[]⟩), 1, 16) := by kernel_rfl
theorem info_box : (Try.prog.info? 25).map (·.size) = some 6 := by kernel_rfl
theorem info_msgs : (Try.prog.info? 35).map (fun i => (i.zero, i.size, i.bytes)) = some (some (.agg #[.int .i64 0, .int .i64 0, .int .i64 0, .string ⟨#[]⟩, .int .i64 0, .slice none 0 0, .string ⟨#[]⟩]), 7, 88) := by kernel_rfl
theorem skip_step {P : Program} {ops : Array Oper} {o : Oper} {a : Act} {Q : Exit → Act → World → Prop} {Kc : Act → World → Prop} {W w1 : World} (hw : Region.wanted o (yielded ops a.tmps) = true) (hrun : (execOp a.eval o).run P W = .ok .skip w1) (h : Kc (a.put o.dst undef) w1) :
    if Region.wanted o (yielded ops a.tmps) = true then Oper.wp P o a W Kc Q else Kc (a.put o.dst undef) W := by
  rw [if_pos hw]
  unfold Oper.wp
  rw [hrun]
  exact h
theorem C_one {w : World} {b : Nat} {t : TypeId} {x : ByteArray} (h : w.heap[b]? = some (.cells #[.string x] t (0, 0))) : Kd.C Kd.string w (some ⟨b, 0, none⟩) 1 [x] := by
  refine ⟨rfl, by decide, fun _ => ⟨_, rfl, fun j p hj => ⟨[.string p], rfl, rfl, fun i u hu => ?_⟩⟩⟩
  have h0 := (List.getElem?_eq_some_iff.1 hu).1
  obtain rfl : i = 0 := by simpa using h0
  have hj0 := (List.getElem?_eq_some_iff.1 hj).1
  obtain rfl : j = 0 := by simpa using hj0
  simp at hu hj
  subst hu
  subst hj
  rw [show (Kd.string).sz = 1 from rfl, Nat.mul_one, Nat.add_zero, Addr.add_lit, Nat.zero_add, cell_of_row w b 0 _ t (0, 0) h]
  rfl
def t_form3_reader_box.T6 : Bool × List (List Nat × List Nat) := (true, [([], []), ([0], [0]), ([], []), ([2], [2]), ([3], [3]), ([1, 4, 3], [1, 4]), ([0, 1, 2, 3, 4, 5], []), ([6, 5, 5, 0, 1, 2, 3, 4, 5], [5, 6])])
def t_form3_reader_box.B6 : List Nat := [0, 1, 0, 4, 12, 31, 63, 127]
theorem t_form3_reader_box.tab6 : rtab .any (opsOf Try.f24 6) = t_form3_reader_box.T6 := by kernel_rfl
theorem t_form3_reader_box.bits6 : waitsOk t_form3_reader_box.T6.2 t_form3_reader_box.B6 = true := by kernel_rfl
set_option maxRecDepth 100000 in
set_option maxHeartbeats 1000000 in
theorem box_calls (g gr : Nat) (s : St) (w0 w : World) (hb : Bytes s.bs) (hbl : s.bs.length ≤ 1000000) (hI : IsF w0 w g gr s) (hB : Below w0.heap.size w0 w) :
    Calls Try.prog 24 #[.pointer (some ⟨g, 0, none⟩)] w fun ee w' => ∃ A4 c4 A5 c5, ee = .returned (.agg #[.string (fBox s).1.f0, .int .i64 (fBox s).1.f1, .int .i64 (fBox s).1.f2, .int .i64 (fBox s).1.f3, .slice A4 (fBox s).1.f4.length c4, .slice A5 (fBox s).1.f5.length c5]) ∧
      Kd.string.R 9 w' w.heap.size (fun _ => True) (.slice A4 (fBox s).1.f4.length c4) (fBox s).1.f4 ∧ Kd.R k35 35 w' w.heap.size (fun _ => True) (.slice A5 (fBox s).1.f5.length c5) (fBox s).1.f5 ∧ IsF w0 w' g gr (fBox s).2 ∧ Below w0.heap.size w0 w' ∧ Kp w w' g gr := by
  have hu25 := Try.underlying25
  have hu35 := Try.underlying35
  have Hb := Aside0.mk hb
  have H := Aside0.mk (Lo.start hI hB)
  have bA := Aside0.mk (show Bytes (sA s).bs from fNum_bytes hb)
  have bB := Aside0.mk (show Bytes (sB s).bs from fNum_bytes bA.out)
  have bC := Aside0.mk (show Bytes (sC s).bs from fNum_bytes bB.out)
  have bDD := Aside0.mk (show Bytes (bD s).bs from fTxt_bytes bC.out)
  have bEE := Aside0.mk (show Bytes (bE s).bs from fNum_bytes bDD.out)
  have lC : Aside0 ((sC s).bs.length ≤ 1000000) := ⟨Nat.le_trans (Nat.le_trans (Nat.le_trans fNum_len fNum_len) fNum_len) hbl⟩
  have lE : Aside0 ((bE s).bs.length ≤ 1000000) := ⟨Nat.le_trans (Nat.le_trans fNum_len fTxt_len) lC.out⟩
  have hN0 := (fNum_pos (most := 64) bDD.out (by decide)).1
  have hN1 := (fNum_pos (most := 64) bDD.out (by decide)).2
  obtain ⟨nW, hnW⟩ : ∃ nW, nW = (fNum 64 (bD s)).1.toNat := ⟨_, rfl⟩
  have EW := Aside0.mk hnW
  have EN : Aside0 ((nW : Int) = (fNum 64 (bD s)).1) := ⟨by rw [hnW]; exact Int.toNat_of_nonneg hN0⟩
  clear hb hI hB hbl hnW
  go_enter Try.func24, Try.ntmps24
  go_wp2_with (first
    | ((with_reducible refine gate_dst (N := 2) rfl ?_); refine box_event ?hg (N := 2) ?hd (cs := #[.string (⟨#[]⟩ : ByteArray), .int .i64 0, .int .i64 0, .int .i64 0, .slice none 0 0, .slice none 0 0]) (t := 25) ?hr ?_; (case hd => rfl); (case hg => rfl); (case hr => first | (go_simp; done) | (go_simp; rfl)); intro g2 hg2 w1 hbx hb1; have H1 := Aside0.mk (H.out.box hb1 hbx (by omega)); have G2 := Aside0.mk hg2; clear hb1 hbx hg2 H)
    | ((with_reducible refine gate_dst (N := 3) rfl ?_); refine box_event ?hg3 (N := 3) ?hd3 (cs := #[.string (⟨#[]⟩ : ByteArray), .int .i64 0, .int .i64 0, .int .i64 0, .slice none 0 0, .slice none 0 0]) (t := 25) ?hr3 ?_; (case hd3 => rfl); (case hg3 => rfl); (case hr3 => first | (go_simp; done) | (go_simp; rfl)); intro g3 hg3 w2 hbx hb1; have H2 := Aside0.mk (H1.out.box hb1 hbx (by omega)); have G3 := Aside0.mk (show g2 ≠ g3 by have := blk_lt (H1.out.head); omega); clear hb1 hbx hg3 H1))
  refine (number_calls g gr s 1000000 w0 w2 Hb.out H2.out.f H2.out.b).mono ?_
  rintro e w3 ⟨rfl, ha⟩
  have H3 : Aside0 (Lo w0 w g gr (sA s) _ w3) := ⟨H2.out.after ha⟩
  clear ha H2
  obtain ⟨n1, hn1⟩ : ∃ n1, n1 = (fNum 1000000 s).1 := ⟨_, rfl⟩
  have N1 := Aside0.mk hn1
  rw [← hn1]
  clear hn1
  go_wp2_with fail
  refine (number_calls g gr (sA s) 1000000 w0 w3 bA.out H3.out.f H3.out.b).mono ?_
  rintro e w4 ⟨rfl, ha⟩
  have H4 : Aside0 (Lo w0 w g gr (sB s) _ w4) := ⟨H3.out.after ha⟩
  clear ha H3
  obtain ⟨n2, hn2⟩ : ∃ n2, n2 = (fNum 1000000 (sA s)).1 := ⟨_, rfl⟩
  have N2 := Aside0.mk hn2
  rw [← hn2]
  clear hn2
  go_wp2_with fail
  refine (number_calls g gr (sB s) 1000000 w0 w4 bB.out H4.out.f H4.out.b).mono ?_
  rintro e w5 ⟨rfl, ha⟩
  have H5 : Aside0 (Lo w0 w g gr (sC s) _ w5) := ⟨H4.out.after ha⟩
  clear ha H4
  obtain ⟨n3, hn3⟩ : ∃ n3, n3 = (fNum 1000000 (sB s)).1 := ⟨_, rfl⟩
  have N3 := Aside0.mk hn3
  rw [← hn3]
  clear hn3
  have hcz1 := blk_cell H5.out.head 1
  have hcz2 := blk_cell H5.out.head 2
  have hcz3 := blk_cell H5.out.head 3
  have hfz1 := blk_frozen H5.out.head 1
  have hfz2 := blk_frozen H5.out.head 2
  have hfz3 := blk_frozen H5.out.head 3
  go_wp2_with fail
  clear hcz1 hcz2 hcz3 hfz1 hfz2 hfz3
  obtain ⟨w6, e6, B6, O6⟩ := sets3 (cs' := #[.string (⟨#[]⟩ : ByteArray), .int .i64 n1, .int .i64 n2, .int .i64 n3, .slice none 0 0, .slice none 0 0]) H5.out.head 1 2 3 (.int .i64 n1) (.int .i64 n2) (.int .i64 n3) rfl
  rw [e6]
  have H6 := Aside0.mk (H5.out.put O6 B6 (by simp only [List.mem_singleton]; rintro p rfl; exact G3.out))
  clear e6 B6 O6 H5
  refine (text_calls g gr (sC s) 24 w0 w6 bC.out (by have := lC.out; omega) H6.out.f H6.out.b).mono ?_
  rintro e w7 ⟨rfl, ha⟩
  have H7 : Aside0 (Lo w0 w g gr (bD s) _ w7) := ⟨H6.out.after ha⟩
  clear ha H6
  obtain ⟨t0, ht0⟩ : ∃ t0, t0 = (fTxt 24 (sC s)).1 := ⟨_, rfl⟩
  have T0 := Aside0.mk ht0
  rw [← ht0]
  clear ht0
  have hcz0 := blk_cell H7.out.head 0
  have hfz0 := blk_frozen H7.out.head 0
  go_wp2_with fail
  clear hcz0 hfz0
  obtain ⟨w8, e8, B8, O8⟩ := sets1 (cs' := #[.string t0, .int .i64 n1, .int .i64 n2, .int .i64 n3, .slice none 0 0, .slice none 0 0]) H7.out.head 0 (.string t0) rfl
  rw [e8]
  have H8 := Aside0.mk (H7.out.put O8 B8 (by simp only [List.mem_singleton]; rintro p rfl; exact G3.out))
  clear e8 B8 O8 H7
  refine (number_calls g gr (bD s) 64 w0 w8 bDD.out H8.out.f H8.out.b).mono ?_
  rintro e w9 ⟨rfl, ha⟩
  have H9 : Aside0 (Lo w0 w g gr (bE s) _ w9) := ⟨H8.out.after ha⟩
  clear ha H8
  rw [← EN.out] at hN0 hN1 ⊢
  go_wp2_with fail
  go_loopw [20] (fun i wr => ∃ (k : Nat) (v4 : Value), k ≤ nW ∧ i = .int .i64 k ∧ Aside0 (Lo w0 w g gr (fWords k (bE s)).2 [(g3, .cells #[.string t0, .int .i64 n1, .int .i64 n2, .int .i64 n3, v4, .slice none 0 0] 25 (0, 0)), (g2, .cells #[.string (⟨#[]⟩ : ByteArray), .int .i64 0, .int .i64 0, .int .i64 0, .slice none 0 0, .slice none 0 0] 25 (0, 0))] wr) ∧ Aside0 (Kd.string.R 9 wr w.heap.size (fun _ => True) v4 (fWords k (bE s)).1)) (fun i _ => nW - (intOf i).toNat)
  case atStart => exact ⟨0, .slice none 0 0, Nat.zero_le _, rfl, H9, ⟨Kd.R_nil _ _ _ _ _⟩⟩
  case round =>
    clear H9
    obtain ⟨k, v4, hk, rfl, H9, HR⟩ := hrel
    have bK : Aside0 (Bytes (fWords k (bE s)).2.bs) := ⟨fWords_bytes _ bEE.out⟩
    have hkl : Aside0 ((fWords k (bE s)).1.length = k) := ⟨fWords_len _ _⟩
    have hEl : Aside0 ((fWords k (bE s)).2.bs.length ≤ 1000000) := ⟨Nat.le_trans (fWords_slen _ _) lE.out⟩
    have E1 := Aside0.mk (fWords_snoc k (bE s))
    by_cases hlt : k < nW
    · generalize fWords k (bE s) = z at *
      obtain ⟨lk, sk⟩ := z
      simp only at bK hkl hEl E1 H9 HR
      go_wp2_with fail
      obtain ⟨sk1, hsk1⟩ : ∃ sk1, sk1 = (fTxt 24 sk).2 := ⟨_, rfl⟩
      obtain ⟨tk, htk⟩ : ∃ tk, tk = (fTxt 24 sk).1 := ⟨_, rfl⟩
      have HT := Aside0.mk (fun W (h1 : IsF w0 W g gr sk) (h2 : Below w0.heap.size w0 W) => text_calls g gr sk 24 w0 W bK.out (by have := hEl.out; omega) h1 h2)
      rw [← htk, ← hsk1] at HT
      rw [← htk, ← hsk1] at E1
      have FA : Aside0 (Lo w0 w g gr sk [] wr) := ⟨H9.out.drop.drop⟩
      have CB := Aside0.mk H9.out.head
      have CR := Aside0.mk H9.out.swap.head
      have G2b := Aside0.mk (H9.out.swap.l _ List.mem_cons_self).1
      have G3b := Aside0.mk (H9.out.l _ List.mem_cons_self).1
      have RA := HR
      clear H9 HR htk hsk1
      refine start_ (n := 8) (S := fun w' => True) (ds := []) #[false, false, false, false, false, false, false, false] (by kernel_rfl) rfl rfl trivial (fun hHeld => ?_)
      refine with_tabW t_form3_reader_box.tab6 t_form3_reader_box.bits6 (fun HT_ HW_ => ?_)
      have hd_ := (below_drew1 (Below.refl wr.heap.size wr))
      have n_FA := Aside0.mk (FA.out.drew)
      have n_CB := Aside0.mk ((show wr.drew.heap[g3]? = _ from CB.out))
      have n_CR := Aside0.mk ((show wr.drew.heap[g2]? = _ from CR.out))
      have n_RA := Aside0.mk (Kd.R_drew RA.out)
      clear FA
      have FA := n_FA
      clear n_FA
      clear CB
      have CB := n_CB
      clear n_CB
      clear CR
      have CR := n_CR
      clear n_CR
      clear RA
      have RA := n_RA
      clear n_RA
      generalize wr.drew = w_d at *
      clear hd_
      refine inv_at [0, 1, 2, 3, 4, 5, 6, 7] (fun a0_ b a w' => ∃ (b26 : Nat) (A27 : Option Addr) (n27 : Nat) (c27 : Nat) (m4_ : Value) (m5_ : Value), a = putSel a0_ b [(0, 22, .pointer (some ⟨g3, 4, none⟩)), (1, 23, v4), (2, 24, .pointer (some ⟨g, 0, none⟩)), (3, 25, .string tk), (4, 26, m4_), (5, 27, m5_), (6, 28, .pointer (some ⟨g3, 4, none⟩))] ∧ (b 3 = false → Lo w0 w g gr sk [] w') ∧ (b 3 = true → Lo w0 w g gr sk1 [] w') ∧ (b 7 = false → w'.heap[g3]? = some (.cells #[.string t0, .int .i64 n1, .int .i64 n2, .int .i64 n3, v4, .slice none 0 0] 25 (0, 0))) ∧ (b 7 = true → w'.heap[g3]? = some (.cells #[.string t0, .int .i64 n1, .int .i64 n2, .int .i64 n3, .slice A27 n27 c27, .slice none 0 0] 25 (0, 0))) ∧ (w'.heap[g2]? = some (.cells #[.string (⟨#[]⟩ : ByteArray), .int .i64 0, .int .i64 0, .int .i64 0, .slice none 0 0, .slice none 0 0] 25 (0, 0))) ∧ (b 5 = false → Kd.string.R 9 w' w.heap.size (fun _ => True) v4 lk) ∧ (b 4 = true → b 5 = false → Kd.C Kd.string w' (some ⟨b26, 0, none⟩) 1 [tk]) ∧ (b 5 = true → Kd.string.R 9 w' w.heap.size (fun _ => True) (.slice A27 n27 c27) (lk ++ [tk])) ∧ (b 4 = true → (m4_ : Value) = .slice (some ⟨b26, 0, none⟩) 1 1) ∧ (b 5 = true → (m5_ : Value) = .slice A27 n27 c27)) HT_.out HW_.out (by kernel_rfl) (by kernel_rfl) ?_ ?_ ?_
      · exact ⟨0, none, 0, 0, .bool false, .bool false, by simp only [putSel, Bool.false_eq_true, if_false], fun _ => FA.out, fun h_ => absurd h_ (by decide), fun _ => CB.out, fun h_ => absurd h_ (by decide), CR.out, fun _ => RA.out, fun h_ => absurd h_ (by decide), fun h_ => absurd h_ (by decide), fun h_ => absurd h_ (by decide), fun h_ => absurd h_ (by decide)⟩
      · skip
        clear CB CR FA RA
        refine steps_cons ?_ ?_
        · rintro b a w' ⟨b26, A27, n27, c27, m4_, m5_, ha, Q_FA, Q_FB, Q_CB, Q_CD, Q_CR, Q_RA, Q_C26, Q_R27, Q_X4_, Q_X5_⟩ hb_ hon hoff
          refine ⟨_, rfl, fun K hK => ?_⟩
          have e3 : a.tmps[3]? = some (.pointer (some ⟨g3, 0, none⟩)) := by rw [ha]; exact (putSel_off rfl).trans rfl
          replace ha := Aside0.mk ha
          have CB := Aside0.mk (Q_CB (hoff 7 (by kernel_rfl)))
          have CR := Aside0.mk Q_CR
          have RA := Aside0.mk (Q_RA (hoff 5 (by kernel_rfl)))
          refine value_ (w1 := w') (v := .pointer (some ⟨g3, 4, none⟩)) (by rfl) rfl ?_ ?_
          · go_simp
            (try simp only [i64_w])
            try first | rfl | assumption
          refine hK.out _ _ ⟨b26, A27, n27, c27, m4_, m5_, (by rw [ha.out]; exact putSel_upk 0 hb_ rfl rfl rfl), Q_FA, Q_FB, Q_CB, fun h0_ => absurd ((hoff 7 (by kernel_rfl)).symm.trans h0_) (by decide), Q_CR, Q_RA, Q_C26, fun h0_ => absurd ((hoff 5 (by kernel_rfl)).symm.trans h0_) (by decide), Q_X4_, fun h0_ => absurd ((hoff 5 (by kernel_rfl)).symm.trans h0_) (by decide)⟩
        refine steps_cons ?_ ?_
        · rintro b a w' ⟨b26, A27, n27, c27, m4_, m5_, ha, Q_FA, Q_FB, Q_CB, Q_CD, Q_CR, Q_RA, Q_C26, Q_R27, Q_X4_, Q_X5_⟩ hb_ hon hoff
          refine ⟨_, rfl, fun K hK => ?_⟩
          have e22 : a.tmps[22]? = some (.pointer (some ⟨g3, 4, none⟩)) := by rw [ha]; exact putSel_on (e := (0, 22, .pointer (some ⟨g3, 4, none⟩))) 0 rfl rfl (hon 0 (by kernel_rfl)) rfl
          replace ha := Aside0.mk ha
          have CB := Aside0.mk (Q_CB (hoff 7 (by kernel_rfl)))
          have CR := Aside0.mk Q_CR
          have RA := Aside0.mk (Q_RA (hoff 5 (by kernel_rfl)))
          have hs := blk_cell CB.out 4
          refine value_ (w1 := w') (v := v4) (by rfl) rfl ?_ ?_
          · go_simp
            (try simp only [i64_w])
            try first | rfl | assumption
          refine hK.out _ _ ⟨b26, A27, n27, c27, m4_, m5_, (by rw [ha.out]; exact putSel_upk 1 hb_ rfl rfl rfl), Q_FA, Q_FB, Q_CB, fun h0_ => absurd ((hoff 7 (by kernel_rfl)).symm.trans h0_) (by decide), Q_CR, Q_RA, Q_C26, fun h0_ => absurd ((hoff 5 (by kernel_rfl)).symm.trans h0_) (by decide), Q_X4_, fun h0_ => absurd ((hoff 5 (by kernel_rfl)).symm.trans h0_) (by decide)⟩
        refine steps_cons ?_ ?_
        · rintro b a w' ⟨b26, A27, n27, c27, m4_, m5_, ha, Q_FA, Q_FB, Q_CB, Q_CD, Q_CR, Q_RA, Q_C26, Q_R27, Q_X4_, Q_X5_⟩ hb_ hon hoff
          refine ⟨_, rfl, fun K hK => ?_⟩
          have e0 : a.tmps[0]? = some (.pointer (some ⟨g, 0, none⟩)) := by rw [ha]; exact (putSel_off rfl).trans rfl
          replace ha := Aside0.mk ha
          have FA := Aside0.mk (Q_FA (hoff 3 (by kernel_rfl)))
          have CB := Aside0.mk (Q_CB (hoff 7 (by kernel_rfl)))
          have CR := Aside0.mk Q_CR
          have RA := Aside0.mk (Q_RA (hoff 5 (by kernel_rfl)))
          refine value_ (w1 := w') (v := .pointer (some ⟨g, 0, none⟩)) (by rfl) rfl ?_ ?_
          · go_simp
            (try simp only [i64_w])
            try first | rfl | assumption
          refine hK.out _ _ ⟨b26, A27, n27, c27, m4_, m5_, (by rw [ha.out]; exact putSel_upk 2 hb_ rfl rfl rfl), Q_FA, fun h0_ => absurd ((hoff 3 (by kernel_rfl)).symm.trans h0_) (by decide), Q_CB, fun h0_ => absurd ((hoff 7 (by kernel_rfl)).symm.trans h0_) (by decide), Q_CR, Q_RA, fun h0_ _ => absurd ((hoff 4 (by kernel_rfl)).symm.trans h0_) (by decide), fun h0_ => absurd ((hoff 5 (by kernel_rfl)).symm.trans h0_) (by decide), fun h0_ => absurd ((hoff 4 (by kernel_rfl)).symm.trans h0_) (by decide), fun h0_ => absurd ((hoff 5 (by kernel_rfl)).symm.trans h0_) (by decide)⟩
        refine steps_cons ?_ ?_
        · rintro b a w' ⟨b26, A27, n27, c27, m4_, m5_, ha, Q_FA, Q_FB, Q_CB, Q_CD, Q_CR, Q_RA, Q_C26, Q_R27, Q_X4_, Q_X5_⟩ hb_ hon hoff
          refine ⟨_, rfl, fun K hK => ?_⟩
          have e24 : a.tmps[24]? = some (.pointer (some ⟨g, 0, none⟩)) := by rw [ha]; exact putSel_on (e := (2, 24, .pointer (some ⟨g, 0, none⟩))) 2 rfl rfl (hon 2 (by kernel_rfl)) rfl
          replace ha := Aside0.mk ha
          have FA := Aside0.mk (Q_FA hb_)
          have CB := Aside0.mk (Q_CB (hoff 7 (by kernel_rfl)))
          have CR := Aside0.mk Q_CR
          have RA := Aside0.mk (Q_RA (hoff 5 (by kernel_rfl)))
          refine goes_ Try.func40 (by kernel_rfl) rfl #[.pointer (some ⟨g, 0, none⟩), .int .i64 24] (by rfl) rfl rfl (by first | (simp only [List.map_toArray, List.map_cons, List.map_nil, Act.eval, Array.getD_eq_getD_getElem?, Option.getD_some, e24]; done) | (simp only [List.map_toArray, List.map_cons, List.map_nil, Act.eval, Array.getD_eq_getD_getElem?, Option.getD_some, e24]; rfl)) ?_
          with_reducible refine (HT.out w' FA.out.f FA.out.b).mono ?_
          rintro e wq ⟨rfl, hq⟩
          refine ⟨_, rfl, ?_⟩
          refine hK.out _ _ ⟨b26, A27, n27, c27, m4_, m5_, (by rw [ha.out]; exact putSel_upk 3 hb_ rfl rfl rfl), fun h0_ => absurd ((up_self b 3).symm.trans h0_) (by decide), fun _ => FA.out.after hq, fun _ => AfterF.blk hq CB.out (by have := FA.out.lt; have := G3b.out; omega) (by have := FA.out.lt; have := G3b.out; omega), fun h0_ => absurd ((hoff 7 (by kernel_rfl)).symm.trans h0_) (by decide), AfterF.blk hq CR.out (by have := FA.out.lt; have := G2b.out; omega) (by have := FA.out.lt; have := G2b.out; omega), fun _ => R_stay RA.out (fun k hk hlt => (AfterF.kp hq).2 k hlt (by have := FA.out.lt; omega) (by have := FA.out.lt; omega)), fun h0_ _ => absurd ((hoff 4 (by kernel_rfl)).symm.trans h0_) (by decide), fun h0_ => absurd ((hoff 5 (by kernel_rfl)).symm.trans h0_) (by decide), fun h0_ => absurd ((hoff 4 (by kernel_rfl)).symm.trans h0_) (by decide), fun h0_ => absurd ((hoff 5 (by kernel_rfl)).symm.trans h0_) (by decide)⟩
        refine steps_cons ?_ ?_
        · rintro b a w' ⟨b26, A27, n27, c27, m4_, m5_, ha, Q_FA, Q_FB, Q_CB, Q_CD, Q_CR, Q_RA, Q_C26, Q_R27, Q_X4_, Q_X5_⟩ hb_ hon hoff
          refine ⟨_, rfl, fun K hK => ?_⟩
          have e25 : a.tmps[25]? = some (.string tk) := by rw [ha]; exact putSel_on (e := (3, 25, .string tk)) 3 rfl rfl (hon 3 (by kernel_rfl)) rfl
          replace ha := Aside0.mk ha
          have FB := Aside0.mk (Q_FB (hon 3 (by kernel_rfl)))
          have CB := Aside0.mk (Q_CB (hoff 7 (by kernel_rfl)))
          have CR := Aside0.mk Q_CR
          have RA := Aside0.mk (Q_RA (hoff 5 (by kernel_rfl)))
          refine event_step (v := .slice (some ⟨w'.heap.size, 0, none⟩) 1 1) (w1 := w'.alloc (.cells #[.string tk] 9)) (by rfl) ?_ ?_
          · go_simp
          refine hK.out _ _ ⟨w'.heap.size, A27, n27, c27, (.slice (some ⟨w'.heap.size, 0, none⟩) 1 1), m5_, (by rw [ha.out]; exact putSel_upk 4 hb_ rfl rfl rfl), fun h0_ => absurd ((hon 3 (by kernel_rfl)).symm.trans h0_) (by decide), fun _ => FB.out.alloc _, fun _ => (heap_alloc_old w' _ (blk_lt CB.out)).trans CB.out, fun h0_ => absurd ((hoff 7 (by kernel_rfl)).symm.trans h0_) (by decide), (heap_alloc_old w' _ (blk_lt CR.out)).trans CR.out, fun _ => Kd.R_alloc RA.out _, fun _ _ => C_one (heap_alloc_new w' _), fun h0_ => absurd ((hoff 5 (by kernel_rfl)).symm.trans h0_) (by decide), fun _ => rfl, fun h0_ => absurd ((hoff 5 (by kernel_rfl)).symm.trans h0_) (by decide)⟩
        refine steps_cons ?_ ?_
        · rintro b a w' ⟨b26, A27, n27, c27, m4_, m5_, ha, Q_FA, Q_FB, Q_CB, Q_CD, Q_CR, Q_RA, Q_C26, Q_R27, Q_X4_, Q_X5_⟩ hb_ hon hoff
          refine ⟨_, rfl, fun K hK => ?_⟩
          have e23 : a.tmps[23]? = some (v4) := by rw [ha]; exact putSel_on (e := (1, 23, v4)) 1 rfl rfl (hon 1 (by kernel_rfl)) rfl
          have e26 : a.tmps[26]? = some (m4_) := by rw [ha]; exact putSel_on (e := (4, 26, m4_)) 4 rfl rfl (hon 4 (by kernel_rfl)) rfl
          rw [Q_X4_ (hon 4 (by kernel_rfl))] at e26
          replace ha := Aside0.mk ha
          have FB := Aside0.mk (Q_FB (hon 3 (by kernel_rfl)))
          have CB := Aside0.mk (Q_CB (hoff 7 (by kernel_rfl)))
          have CR := Aside0.mk Q_CR
          have RA := Aside0.mk (Q_RA hb_)
          have C26 := Aside0.mk (Q_C26 (hon 4 (by kernel_rfl)) hb_)
          refine Kd.R_append_rows_step Kd.string (w0 := w') w.heap.size (by rfl) (.tmp 23) (.tmp 26) 22 9 (.string ⟨#[]⟩) 16 rfl Try.underlying22 info_str rfl (by decide) (by omega) v4 lk [tk] (some ⟨b26, 0, none⟩) 1 1 (fun _ => True) (fun _ => False) (eval_of e23) (eval_of e26) RA.out C26.out (fun _ _ h => h) (fun _ h => h.elim) (fun _ _ => trivial) (below_self _ _) FB.out.k.1 (by have := hkl.out; omega) ?_
          intro v1 w1 ho hb hg hat
          obtain ⟨A9, n9, c9, rfl⟩ := R_slc ho
          refine hK.out _ _ ⟨b26, A9, n9, c9, m4_, (.slice A9 n9 c9), (by rw [ha.out]; exact putSel_upk 5 hb_ rfl rfl rfl), fun h0_ => absurd ((hon 3 (by kernel_rfl)).symm.trans h0_) (by decide), fun _ => FB.out.row RA.out hg trivial, fun _ => (FB.out.add G3b.out CB.out).row RA.out hg ⟨⟨_, _, rfl, by decide⟩, trivial⟩ |>.head, fun h0_ => absurd ((hoff 7 (by kernel_rfl)).symm.trans h0_) (by decide), (FB.out.add G2b.out CR.out).row RA.out hg ⟨⟨_, _, rfl, by decide⟩, trivial⟩ |>.head, fun h0_ => absurd ((up_self b 5).symm.trans h0_) (by decide), fun _ h1_ => absurd ((up_self b 5).symm.trans h1_) (by decide), fun _ => ho, Q_X4_, fun _ => rfl⟩
        refine steps_cons ?_ ?_
        · rintro b a w' ⟨b26, A27, n27, c27, m4_, m5_, ha, Q_FA, Q_FB, Q_CB, Q_CD, Q_CR, Q_RA, Q_C26, Q_R27, Q_X4_, Q_X5_⟩ hb_ hon hoff
          refine ⟨_, rfl, fun K hK => ?_⟩
          have e3 : a.tmps[3]? = some (.pointer (some ⟨g3, 0, none⟩)) := by rw [ha]; exact (putSel_off rfl).trans rfl
          replace ha := Aside0.mk ha
          have FB := Aside0.mk (Q_FB (hon 3 (by kernel_rfl)))
          have CB := Aside0.mk (Q_CB (hoff 7 (by kernel_rfl)))
          have CR := Aside0.mk Q_CR
          have R27 := Aside0.mk (Q_R27 (hon 5 (by kernel_rfl)))
          refine value_ (w1 := w') (v := .pointer (some ⟨g3, 4, none⟩)) (by rfl) rfl ?_ ?_
          · go_simp
            (try simp only [i64_w])
            try first | rfl | assumption
          refine hK.out _ _ ⟨b26, A27, n27, c27, m4_, m5_, (by rw [ha.out]; exact putSel_upk 6 hb_ rfl rfl rfl), fun h0_ => absurd ((hon 3 (by kernel_rfl)).symm.trans h0_) (by decide), Q_FB, Q_CB, fun h0_ => absurd ((hoff 7 (by kernel_rfl)).symm.trans h0_) (by decide), Q_CR, fun h0_ => absurd ((hon 5 (by kernel_rfl)).symm.trans h0_) (by decide), fun _ h1_ => absurd ((hon 5 (by kernel_rfl)).symm.trans h1_) (by decide), Q_R27, Q_X4_, Q_X5_⟩
        refine steps_cons ?_ ?_
        · rintro b a w' ⟨b26, A27, n27, c27, m4_, m5_, ha, Q_FA, Q_FB, Q_CB, Q_CD, Q_CR, Q_RA, Q_C26, Q_R27, Q_X4_, Q_X5_⟩ hb_ hon hoff
          refine ⟨_, rfl, fun K hK => ?_⟩
          have e28 : a.tmps[28]? = some (.pointer (some ⟨g3, 4, none⟩)) := by rw [ha]; exact putSel_on (e := (6, 28, .pointer (some ⟨g3, 4, none⟩))) 6 rfl rfl (hon 6 (by kernel_rfl)) rfl
          have e27 : a.tmps[27]? = some (m5_) := by rw [ha]; exact putSel_on (e := (5, 27, m5_)) 5 rfl rfl (hon 5 (by kernel_rfl)) rfl
          rw [Q_X5_ (hon 5 (by kernel_rfl))] at e27
          replace ha := Aside0.mk ha
          have FB := Aside0.mk (Q_FB (hon 3 (by kernel_rfl)))
          have CB := Aside0.mk (Q_CB hb_)
          have CR := Aside0.mk Q_CR
          have R27 := Aside0.mk (Q_R27 (hon 5 (by kernel_rfl)))
          refine skip_step (w1 := w'.setCell ⟨g3, 4, none⟩ (.slice A27 n27 c27)) (by rfl) ?_ ?_
          · have hs := blk_cell CB.out 4; have hf := blk_frozen CB.out 4; go_simp
          refine hK.out _ _ ⟨b26, A27, n27, c27, m4_, m5_, (by rw [ha.out]; exact putSel_none (v := undef) rfl), fun h0_ => absurd ((hon 3 (by kernel_rfl)).symm.trans h0_) (by decide), fun _ => ((FB.out.add G3b.out CB.out).put ((Only.refl g3 w').put 4 _) (blk_put CB.out 4 _ rfl) (fun p hp => by simp at hp)).drop, fun h0_ => absurd ((up_self b 7).symm.trans h0_) (by decide), fun _ => blk_put CB.out 4 _ rfl, (Below.heap_setCell w' ⟨g3, 4, none⟩ _ g2 G3.out).trans CR.out, fun h0_ => absurd ((hon 5 (by kernel_rfl)).symm.trans h0_) (by decide), fun _ h1_ => absurd ((hon 5 (by kernel_rfl)).symm.trans h1_) (by decide), fun _ => Kd.R_set R27.out CB.out (by decide) 4 _, Q_X4_, Q_X5_⟩
        exact steps_nil
      rintro b a wz hall ⟨b26, A27, n27, c27, m4_, m5_, ha, Q_FA, Q_FB, Q_CB, Q_CD, Q_CR, Q_RA, Q_C26, Q_R27, Q_X4_, Q_X5_⟩
      clear CB CR FA RA
      have hb0_ := hall 0 (by kernel_rfl)
      have hb1_ := hall 1 (by kernel_rfl)
      have hb2_ := hall 2 (by kernel_rfl)
      have hb3_ := hall 3 (by kernel_rfl)
      have hb4_ := hall 4 (by kernel_rfl)
      have hb5_ := hall 5 (by kernel_rfl)
      have hb6_ := hall 6 (by kernel_rfl)
      have hb7_ := hall 7 (by kernel_rfl)
      subst ha
      obtain rfl := Q_X4_ hb4_
      obtain rfl := Q_X5_ hb5_
      simp only [putSel, hb0_, hb1_, hb2_, hb3_, hb4_, hb5_, hb6_, hb7_, if_true, Act.put, List.setIfInBounds_toArray, List.set_cons_zero, List.set_cons_succ]
      clear Q_FA
      have FB := Aside0.mk (Q_FB hb3_)
      clear Q_FB
      clear Q_CB
      have CD := Aside0.mk (Q_CD hb7_)
      clear Q_CD
      have CR := Aside0.mk Q_CR
      clear Q_CR
      clear Q_RA
      clear Q_C26
      have R27 := Aside0.mk (Q_R27 hb5_)
      clear Q_R27
      clear hall hb0_ hb1_ hb2_ hb3_ hb4_ hb5_ hb6_ hb7_
      go_wp2_with fail
      go_roundw
      case rel => exact ⟨k + 1, .slice A27 n27 c27, by omega, by go_num, ⟨by rw [E1.out]; exact (FB.out.add G2b.out CR.out).add G3b.out CD.out⟩, ⟨by rw [E1.out]; exact R27.out⟩⟩
      case measure => simp [intOf]; omega
    · obtain rfl : k = nW := by omega
      have HF : Aside0 (Lo w0 w g gr (bF s) _ wr) := ⟨by have h := H9.out; rw [EW.out] at h; exact h⟩
      have HW : Aside0 (Kd.string.R 9 wr w.heap.size (fun _ => True) v4 (fBox s).1.f4) := ⟨by have h := HR.out; rw [EW.out] at h; exact h⟩
      have bFF : Aside0 (Bytes (bF s).bs) := ⟨fWords_bytes _ bEE.out⟩
      have bGG : Aside0 (Bytes (bG s).bs) := ⟨fNum_bytes bFF.out⟩
      have lG : Aside0 ((bG s).bs.length ≤ 1000000) := ⟨Nat.le_trans (Nat.le_trans fNum_len (fWords_slen _ _)) lE.out⟩
      have hM0 := (fNum_pos (most := 60) bFF.out (by decide)).1
      have hM1 := (fNum_pos (most := 60) bFF.out (by decide)).2
      obtain ⟨nM, hnM⟩ : ∃ nM, nM = (fNum 60 (bF s)).1.toNat := ⟨_, rfl⟩
      have EM := Aside0.mk hnM
      have EMi : Aside0 ((nM : Int) = (fNum 60 (bF s)).1) := ⟨by rw [hnM]; exact Int.toNat_of_nonneg hM0⟩
      clear E1 bK hkl hEl H9 HR hlt hk hnM
      obtain ⟨A4, n4, c4, rfl⟩ := R_slc HW.out
      go_wp2_with fail
      refine (number_calls g gr (bF s) 60 w0 wr bFF.out HF.out.f HF.out.b).mono ?_
      rintro e wa ⟨rfl, ha⟩
      have HG : Aside0 (Lo w0 w g gr (bG s) _ wa) := ⟨HF.out.after ha⟩
      have HWa : Aside0 (Kd.string.R 9 wa w.heap.size (fun _ => True) (.slice A4 n4 c4) (fBox s).1.f4) := ⟨R_stay HW.out (fun k hk hlt => (AfterF.kp ha).2 k hlt (by have := HF.out.lt; omega) (by have := HF.out.lt; omega))⟩
      clear ha HF HW
      rw [← EMi.out] at hM0 hM1 ⊢
      go_wp2_with fail
      go_loopw [4, 32] (fun u i wx => ∃ (k : Nat) (v5 : Value), k ≤ nM ∧ i = .int .i64 k ∧ u = .int .i64 (lastU 0 (fMsgs k 0 (bG s)).1) ∧ Aside0 (Lo w0 w g gr (fMsgs k 0 (bG s)).2 [(g3, .cells #[.string t0, .int .i64 n1, .int .i64 n2, .int .i64 n3, .slice A4 n4 c4, v5] 25 (0, 0)), (g2, .cells #[.string (⟨#[]⟩ : ByteArray), .int .i64 0, .int .i64 0, .int .i64 0, .slice none 0 0, .slice none 0 0] 25 (0, 0))] wx) ∧ Aside0 (Kd.string.R 9 wx w.heap.size (fun _ => True) (.slice A4 n4 c4) (fBox s).1.f4) ∧ Aside0 (Kd.R k35 35 wx w.heap.size (fun _ => True) v5 (fMsgs k 0 (bG s)).1)) (fun _ i _ => nM - (intOf i).toNat)
      case atStart => exact ⟨0, .slice none 0 0, Nat.zero_le _, rfl, rfl, HG, HWa, ⟨Kd.R_nil _ _ _ _ _⟩⟩
      case round =>
        clear HG HWa
        obtain ⟨k, v5, hk, rfl, rfl, HX, HWx, HMx⟩ := hrel
        have hub := lastU_bd k 0 (bG s) bGG.out
        have bK : Aside0 (Bytes (fMsgs k 0 (bG s)).2.bs) := ⟨fMsgs_bytes _ _ bGG.out⟩
        have hkl : Aside0 ((fMsgs k 0 (bG s)).1.length = k) := ⟨fMsgs_len _ _ _⟩
        have hEl : Aside0 ((fMsgs k 0 (bG s)).2.bs.length ≤ 1000000) := ⟨Nat.le_trans (fMsgs_slen _ _ _) lG.out⟩
        have E1 := Aside0.mk (fMsgs_snoc k 0 (bG s))
        have hu0 := hub.1
        have hu1 : lastU 0 (fMsgs k 0 (bG s)).1 ≤ 100000000 := by have := hub.2; omega
        clear hub
        by_cases hlt : k < nM
        · generalize fMsgs k 0 (bG s) = z at *
          obtain ⟨lk, sk⟩ := z
          simp only at bK hkl hEl E1 hu0 hu1 HX HWx HMx
          have HT := Aside0.mk (fun W (h1 : IsF w0 W g gr sk) (h2 : Below w0.heap.size w0 W) => msg_calls g gr sk (lastU 0 lk) w0 W hu0 hu1 bK.out hEl.out h1 h2)
          generalize hzz : fMsg (lastU 0 lk) sk = zz at *
          clear hzz
          obtain ⟨m, sk1⟩ := zz
          simp only at E1 HT
          generalize lastU 0 lk = last at *
          go_wp2_with (first
            | (go_at_call 41; refine (HT.out _ HX.out.f HX.out.b).mono ?_; rintro e wa ⟨A6, c6, rfl, hR6, hI, hB, hK⟩; have HA := Aside0.mk (HX.out.call hI hB hK); have HWa : Aside0 (Kd.string.R 9 wa w.heap.size (fun _ => True) (.slice A4 n4 c4) (fBox s).1.f4) := ⟨R_stay HWx.out (fun k hk hlt => hK.2 k hlt (by have := HX.out.lt; omega) (by have := HX.out.lt; omega))⟩; have HMa : Aside0 (Kd.R k35 35 wa w.heap.size (fun _ => True) v5 lk) := ⟨R_stay HMx.out (fun k hk hlt => hK.2 k hlt (by have := HX.out.lt; omega) (by have := HX.out.lt; omega))⟩; have HKs := Aside0.mk hK.1; have HR6 := Aside0.mk hR6; clear hR6 hI hB hK HWx)
            | ((with_reducible refine gate_dst (N := 5) rfl ?_); refine box_event ?hg (N := 5) ?hd (cs := #[.int .i64 0, .int .i64 0, .int .i64 0, .string (⟨#[]⟩ : ByteArray), .int .i64 0, .slice none 0 0, .string (⟨#[]⟩ : ByteArray)]) (t := 35) ?hr ?_; (case hd => rfl); (case hg => rfl); (case hr => first | (go_simp; done) | (go_simp; rfl)); intro g5 hg5 wb hbx hb1; have HB := Aside0.mk (HA.out.box hb1 hbx (by omega)); have Hb1 := Aside0.mk hb1; have G5 := Aside0.mk (show wa.heap.size ≤ g5 by omega); have hn35 : g3 ≠ g5 := (by have := blk_lt HA.out.head; omega); clear hb1 hbx hg5; have hcz0 := blk_cell HB.out.head 0; have hcz1 := blk_cell HB.out.head 1; have hcz2 := blk_cell HB.out.head 2; have hcz3 := blk_cell HB.out.head 3; have hcz4 := blk_cell HB.out.head 4; have hcz5 := blk_cell HB.out.head 5; have hcz6 := blk_cell HB.out.head 6; have hfz0 := blk_frozen HB.out.head 0; have hfz1 := blk_frozen HB.out.head 1; have hfz2 := blk_frozen HB.out.head 2; have hfz3 := blk_frozen HB.out.head 3; have hfz4 := blk_frozen HB.out.head 4; have hfz5 := blk_frozen HB.out.head 5; have hfz6 := blk_frozen HB.out.head 6; have hbz5 := blk_cell HB.out.swap.head 5)
            | ((with_reducible refine gate_builtin (b := .append) (xs := #[.tmp 38, .tmp 40]) rfl ?_); at_builtin; clear hcz0 hcz1 hcz2 hcz3 hcz4 hcz5 hcz6 hfz0 hfz1 hfz2 hfz3 hfz4 hfz5 hfz6 hbz5; obtain ⟨wc, ec, Bc, Oc⟩ := sets7 HB.out.head (.int .i64 m.f0) (.int .i64 m.f1) (.int .i64 m.f2) (.string m.f3) (.int .i64 m.f4) (.slice A6 m.f5.length c6) (.string m.f6); rw [ec]; have HC := Aside0.mk (HB.out.put Oc Bc ?hpn); (case hpn => have hh := HA.out.l; intro p hp; have := blk_lt (hh p hp).2; have := G5.out; omega); have HWc : Aside0 (Kd.string.R 9 wc w.heap.size (fun _ => True) (.slice A4 n4 c4) (fBox s).1.f4) := ⟨Kd.R_step HWa.out (fun k _ hk => (Oc.keep k (by have := G5.out; omega)).trans (Hb1.out.block k hk))⟩; have HMc : Aside0 (Kd.R k35 35 wc w.heap.size (fun _ => True) v5 lk) := ⟨Kd.R_step HMa.out (fun k _ hk => (Oc.keep k (by have := G5.out; omega)).trans (Hb1.out.block k hk))⟩; have HR6c : Aside0 ((Kd.int .i64).R 3 wc w.heap.size (fun k => wr.heap.size ≤ k) (.slice A6 m.f5.length c6) m.f5) := ⟨Kd.R_lower (Kd.R_mono (Kd.R_bound (Kd.R_step HR6.out (fun k _ hk => (Oc.keep k (by have := G5.out; omega)).trans (Hb1.out.block k hk)))) (fun k hk => hk.2.1)) HX.out.k.1⟩; have HSz := Aside0.mk Oc.size; clear ec Bc Oc HWa HMa HR6 HB; refine Kd.R_append k35 (w0 := wc) w.heap.size rfl (.tmp 38) (.tmp 40) 23 35 (.agg #[.int .i64 0, .int .i64 0, .int .i64 0, .string ⟨#[]⟩, .int .i64 0, .slice none 0 0, .string ⟨#[]⟩]) 88 rfl Try.underlying23 info_msgs rfl (by decide) (by omega) v5 lk m [.int .i64 m.f0, .int .i64 m.f1, .int .i64 m.f2, .string m.f3, .int .i64 m.f4, .slice A6 m.f5.length c6, .string m.f6] (fun _ => True) (fun k => wr.heap.size ≤ k) rfl (by rw [HSz.out]; rfl) ?aP ?aK ?aF ?aO ?aB ?aS ?aL ?_; (case aP => exact k35_mkM _ _ _ m HR6c.out); (case aK => exact (fun k hk => ⟨trivial, fun he => by have := Kd.R_lt HMx.out k he.symm; omega⟩)); (case aF => exact (fun _ _ => trivial)); (case aO => exact HMc.out); (case aB => exact below_self _ _); (case aS => exact HC.out.k.1); (case aL => have := hkl.out; omega); intro v7 wd ho hb hg hat; obtain ⟨A7, n7, c7, rfl⟩ := R_slc ho; have HD := Aside0.mk (HC.out.drop.row HMc.out hg ⟨⟨_, _, rfl, by decide⟩, ⟨_, _, rfl, by decide⟩, trivial⟩); have HWd : Aside0 (Kd.string.R 9 wd w.heap.size (fun _ => True) (.slice A4 n4 c4) (fBox s).1.f4) := ⟨Kd.R_over HWc.out HMc.out (by decide) hg⟩; have HMd := Aside0.mk ho; have hxm : wd.cell? ⟨g5, 0, none⟩ = some (.int .i64 m.f0) := ((blk_cell ((hg.block g5 (blk_lt HC.out.head) ?hgn).trans HC.out.head) 0).trans rfl); (case hgn => intro he; have := Kd.R_lt HMx.out g5 he.symm; have := HKs.out; have := G5.out; omega); clear ho hb hg hat HC HWc HMc HR6c; have hcd5 := blk_cell HD.out.head 5; have hfd5 := blk_frozen HD.out.head 5))
          obtain ⟨wf, ef, Bf, Of⟩ := sets1 (cs' := #[.string t0, .int .i64 n1, .int .i64 n2, .int .i64 n3, .slice A4 n4 c4, .slice A7 n7 c7]) HD.out.head 5 (.slice A7 n7 c7) rfl
          have HWf : Aside0 (Kd.string.R 9 wf w.heap.size (fun _ => True) (.slice A4 n4 c4) (fBox s).1.f4) := ⟨ef ▸ Kd.R_set HWd.out HD.out.head (by decide) 5 _⟩
          have HMf : Aside0 (Kd.R k35 35 wf w.heap.size (fun _ => True) (.slice A7 n7 c7) (lk ++ [m])) := ⟨ef ▸ Kd.R_set HMd.out HD.out.head (by decide) 5 _⟩
          have HF := Aside0.mk (HD.out.put Of Bf (by simp only [List.mem_singleton]; rintro p rfl; exact G3.out))
          rw [ef]
          clear ef Bf Of HD HWd HMd hcd5 hfd5 hxm
          go_roundw
          case rel => exact ⟨k + 1, _, by omega, by go_num, by rw [E1.out]; show _ = Value.int _ (lastU 0 (lk ++ [m])); rw [lastU_app], ⟨by rw [E1.out]; exact HF.out⟩, HWf, ⟨by rw [E1.out]; exact HMf.out⟩⟩
          case measure => simp [intOf]; omega
        · obtain rfl : k = nM := by omega
          have HXe : Aside0 (Lo w0 w g gr (fBox s).2 _ wr) := ⟨by have h := HX.out; rw [EM.out] at h; exact h⟩
          have HMe : Aside0 (Kd.R k35 35 wr w.heap.size (fun _ => True) v5 (fBox s).1.f5) := ⟨by have h := HMx.out; rw [EM.out] at h; exact h⟩
          clear HX HMx E1 bK hkl hEl hlt hk hu0 hu1
          obtain ⟨A5, n5, c5, rfl⟩ := R_slc HMe.out
          have hcz0 := blk_cell HXe.out.head 0
          have hcz1 := blk_cell HXe.out.head 1
          have hcz2 := blk_cell HXe.out.head 2
          have hcz3 := blk_cell HXe.out.head 3
          have hcz4 := blk_cell HXe.out.head 4
          have hcz5 := blk_cell HXe.out.head 5
          have hrz0 := blk_cell HXe.out.swap.head 0
          have hrz1 := blk_cell HXe.out.swap.head 1
          have hrz2 := blk_cell HXe.out.swap.head 2
          have hrz3 := blk_cell HXe.out.swap.head 3
          have hrz4 := blk_cell HXe.out.swap.head 4
          have hrz5 := blk_cell HXe.out.swap.head 5
          have hfr0 := blk_frozen HXe.out.swap.head 0
          have hfr1 := blk_frozen HXe.out.swap.head 1
          have hfr2 := blk_frozen HXe.out.swap.head 2
          have hfr3 := blk_frozen HXe.out.swap.head 3
          have hfr4 := blk_frozen HXe.out.swap.head 4
          have hfr5 := blk_frozen HXe.out.swap.head 5
          go_wp2_with fail
          clear hcz0 hcz1 hcz2 hcz3 hcz4 hcz5 hrz0 hrz1 hrz2 hrz3 hrz4 hrz5 hfr0 hfr1 hfr2 hfr3 hfr4 hfr5
          obtain ⟨we, ee, Be, Oe⟩ := sets6 HXe.out.swap.head (.string t0) (.int .i64 n1) (.int .i64 n2) (.int .i64 n3) (.slice A4 n4 c4) (.slice A5 n5 c5)
          rw [ee]
          have HWe : Aside0 (Kd.string.R 9 we w.heap.size (fun _ => True) (.slice A4 n4 c4) (fBox s).1.f4) := ⟨Kd.R_mono (Kd.R_step (Kd.R_types HWx.out HXe.out.swap.head (by decide)) (fun k hk _ => Oe.keep k hk.2)) (fun _ _ => trivial)⟩
          have HMe2 : Aside0 (Kd.R k35 35 we w.heap.size (fun _ => True) (.slice A5 n5 c5) (fBox s).1.f5) := ⟨Kd.R_mono (Kd.R_step (Kd.R_types HMe.out HXe.out.swap.head (by decide)) (fun k hk _ => Oe.keep k hk.2)) (fun _ _ => trivial)⟩
          have HE := Aside0.mk (HXe.out.swap.put Oe Be (by simp only [List.mem_singleton]; rintro p rfl; exact Ne.symm G3.out))
          clear ee Be Oe HXe HWx HMe
          have hr4 := Kd.R_reads' HWe.out
          have hr5 := Kd.R_reads' HMe2.out
          obtain ⟨e4, l4, C4⟩ := hr4
          obtain ⟨e5, l5, C5⟩ := hr5
          subst e4
          subst e5
          refine bodyPost_ret (results_single rfl (.cell g2 _ _ _ _ rfl HE.out.head Try.underlying25 rfl info_box .nil)) rfl ⟨A4, c4, A5, c5, ?_, HWe.out, HMe2.out, HE.out.f, HE.out.b, HE.out.k⟩
          rw [N1.out, N2.out, N3.out, T0.out]
          rfl
end Go.Proofs.Ytjlabkibpknkpaa.FpU
