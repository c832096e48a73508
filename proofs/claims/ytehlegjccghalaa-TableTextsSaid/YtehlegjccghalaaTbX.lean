/- TableTexts, walked. -/
import Derived.Test.YtehlegjccghalaaTbG
import Derived.Laws.Cover1
namespace Go.Proofs.Ytehlegjccghalaa.TbX
open Go.RowKit Go.Proofs.YtehlegjccghalaaW.PrintWords Go.Proofs.YtehlegjccghalaaW.PrintLast Go.Proofs.YtehlegjccghalaaW.PrintMore Go.Proofs.Ytehlegjccghalaa.TbI Go.Proofs.Ytehlegjccghalaa.TbP Go.Proofs.Ytehlegjccghalaa.TbT Go.Proofs.Ytehlegjccghalaa.TbS Go.Proofs.Ytehlegjccghalaa.TbN Go.Proofs.Ytehlegjccghalaa.TbL Go.Proofs.Ytehlegjccghalaa.TbM Go.Proofs.Ytehlegjccghalaa.TbV Go.Proofs.Ytehlegjccghalaa.TbG Go.Proofs.Ytehlegjccghalaa.Rw
set_option linter.unusedVariables false
set_option linter.unusedSimpArgs false
def t_mailsacklaw1_TableTexts.T5 : Bool × List (List Nat × List Nat) := (true, [([], []), ([], []), ([], []), ([1, 2], [1, 2]), ([0, 3], [0, 3]), ([], []), ([], []), ([5, 6], [5, 6]), ([4, 7, 4], [4, 7]), ([8], [8]), ([], [])])
def t_mailsacklaw1_TableTexts.B5 : List Nat := [0, 0, 0, 6, 15, 0, 0, 96, 255, 511, 0]
theorem t_mailsacklaw1_TableTexts.tab5 : rtab .any (opsOf Try.f5 5) = t_mailsacklaw1_TableTexts.T5 := by kernel_rfl
theorem t_mailsacklaw1_TableTexts.bits5 : waitsOk t_mailsacklaw1_TableTexts.T5.2 t_mailsacklaw1_TableTexts.B5 = true := by kernel_rfl
theorem rds_at {l : List ByteArray} {k : Nat} (h : k < l.length) : l[k]? = some (rdOf ByteArray.empty l (k : Int)) := by
  show l[k]? = some (l.getD (k : Int).toNat ByteArray.empty)
  rw [Int.toNat_natCast, List.getD_eq_getElem?_getD, List.getElem?_eq_getElem h]; rfl
theorem mem_step {l : List ByteArray} {q room : Nat} {ks : List ByteArray} {x : ByteArray} (hx : l[q]? = some x) (hr : ¬ room ≤ ks.length) (h : ∀ y, y ∈ ks ↔ y ∈ l.take q) : ∀ y, y ∈ pk strLt room ks x ↔ y ∈ l.take (q + 1) := fun y => by
  obtain ⟨h1, h2⟩ := List.getElem?_eq_some_iff.1 hx
  rw [mem_pk hr, List.take_succ_eq_append_getElem h1, List.mem_append, List.mem_singleton, h2, h y]
  exact or_comm
set_option maxRecDepth 100000 in
set_option maxHeartbeats 4000000 in
theorem tableTexts_calls (A0 : Option Addr) (c0 : Nat) (l0 : List ByteArray) (turn : Int) (w : World) (hl0 : l0.length ≤ c0) (hC0 : Kd.C Kd.string w A0 l0.length l0) :
    Calls Try.prog 5 #[.slice A0 l0.length c0, .int .i64 turn] w fun e w' => e = .returned (.bool true) ∧ Below w.heap.size w w' := by
  have HW := Aside0.mk (fun W => awake_calls W)
  have HN := Aside0.mk (fun W => gs_new 200 200 (by decide) W)
  have HC := Aside0.mk hC0
  obtain ⟨n, hn⟩ : ∃ n, n = l0.length := ⟨_, rfl⟩
  have Hn := Aside0.mk hn
  rw [← hn] at HC hl0 ⊢
  clear hC0 hn
  by_cases h60 : (n : Int) > 100
  · go_enter Try.func5, Try.ntmps5
    go_wp2_with (go_at_call 9; refine (HW.out _).mono ?_; rintro e w1 ⟨rfl, hb⟩; have Hb := Aside0.mk hb; clear hb)
    go_ret
    exact ⟨rfl, Hb.out⟩
  · have hn9 : (n : Int) ≤ 100 := by omega
    obtain ⟨kt, hkt, hktn⟩ := rem_walk turn n (by omega)
    obtain ⟨L, hL⟩ : ∃ L, L = l0.drop kt ++ l0.take kt := ⟨_, rfl⟩
    have HLl := Aside0.mk (show L.length = n by rw [hL, List.length_append, List.length_drop, List.length_take, Hn.out]; have := Hn.out; omega)
    have HLm := Aside0.mk (show ∀ y, y ∈ L ↔ y ∈ l0 by
      intro y
      rw [hL, List.mem_append]
      conv => rhs; rw [← List.take_append_drop kt l0, List.mem_append]
      exact or_comm)
    obtain ⟨A1, n1, c1, hcut, Hn1, Hc1, HC1⟩ := cut_str A0 n c0 l0 kt Hn.out HC.out (by omega) hktn
    obtain ⟨hto, Hn2, HC2⟩ := to_str A0 n c0 l0 kt Hn.out HC.out (by omega) hktn
    have HLd : Aside0 ((l0.drop kt).length ≤ 3000 ∧ kt ≤ 3000) := ⟨by rw [List.length_drop, ← Hn.out]; omega⟩
    have HL := Aside0.mk hL
    clear hL
    go_enter Try.func5, Try.ntmps5
    go_wp2_with (first
      | (go_at_call 17; (with_reducible refine (HN.out w).mono ?_); rintro e w1 ⟨p, rfl, hp, hb, hG⟩; have HB1 := Aside0.mk hb; have HG1 := Aside0.mk (hG _ (Nat.le_refl _)); have HN1 := Aside0.mk (HN.out w1); clear hb hG)
      | (go_at_call 17; (with_reducible refine HN1.out.mono ?_); rintro e w2 ⟨p2, rfl, hp2, hb, hG⟩; have HB2 := Aside0.mk (HB1.out.trans (hb.mono HB1.out.size)); have HG2 := Aside0.mk (hG w.heap.size HB1.out.size); have HG3 := Aside0.mk (HG1.out.below hb); have Hpp := Aside0.mk (show p2 ≠ p from fun e => by have := HG1.out.t.lt (k := p) (.inl rfl); omega); clear hb hG hp2))
    rw [hkt]
    clear hkt
    have HBw := Aside0.mk (Below.refl w2.heap.size w2)
    have HCw1 := Aside0.mk (Kd.C_below HC1.out HB2.out)
    have HCw2 := Aside0.mk (Kd.C_below HC2.out HB2.out)
    refine start_ (n := 11) (S := fun w' => True) (ds := []) #[false, false, false, false, false, false, false, false, false, false, false] (by kernel_rfl) rfl rfl trivial (fun hHeld => ?_)
    refine with_tabW t_mailsacklaw1_TableTexts.tab5 t_mailsacklaw1_TableTexts.bits5 (fun HT_ HW_ => ?_)
    have hd_ := (below_drew1 (Below.refl w2.heap.size w2))
    have n_HBw := Aside0.mk (HBw.out.trans (hd_.mono HBw.out.size))
    clear HBw
    have HBw := n_HBw
    clear n_HBw
    generalize w2.drew = w_d at *
    clear hd_
    refine inv_at [0, 1, 2, 3, 4, 5, 6, 7, 8, 9, 10] (fun a0_ b a w' => ∃ (v36 : Value) (v40 : Value) (A44 : Option Addr) (n44 : Nat) (c44 : Nat) (m8_ : Value) (m9_ : Value), a = putSel a0_ b [(0, 36, v36), (1, 37, .slice A0 n c0), (2, 38, .int .i64 (kt : Int)), (3, 39, .slice A1 n1 c1), (4, 40, v40), (5, 41, .slice A0 n c0), (6, 42, .int .i64 (kt : Int)), (7, 43, .slice A0 kt c0), (8, 44, m8_), (9, 45, m9_), (10, 46, .int .i64 0)] ∧ (Below w2.heap.size w2 w') ∧ (b 0 = true → b 4 = false → Tg Kd.string 9 w' w2.heap.size v36 []) ∧ (b 4 = true → b 8 = false → Tg Kd.string 9 w' w2.heap.size v40 (l0.drop kt)) ∧ (b 8 = true → w'.ownsRow w2.heap.size 9 1 (.slice A44 n44 c44) n44 (L.map Value.string) ∧ n44 = n) ∧ (b 8 = true → (m8_ : Value) = .slice A44 n44 c44) ∧ (b 9 = true → (m9_ : Value) = .int .i64 (n44 : Int))) HT_.out HW_.out (by kernel_rfl) (by kernel_rfl) ?_ ?_ ?_
    · exact ⟨.slice none 0 0, .slice none 0 0, none, 0, 0, .bool false, .bool false, by simp only [putSel, Bool.false_eq_true, if_false], HBw.out, fun h_ => absurd h_ (by decide), fun h_ => absurd h_ (by decide), fun h_ => absurd h_ (by decide), fun h_ => absurd h_ (by decide), fun h_ => absurd h_ (by decide)⟩
    · skip
      clear HBw
      refine steps_cons ?_ ?_
      · rintro b a w' ⟨v36, v40, A44, n44, c44, m8_, m9_, ha, Q_HBw, Q_R36, Q_R40, Q_R44, Q_X8_, Q_X9_⟩ hb_ hon hoff
        refine ⟨_, rfl, fun K hK => ?_⟩
        replace ha := Aside0.mk ha
        have HBw := Aside0.mk Q_HBw
        refine Kd.R_lit_step Kd.string (w0 := w2) (xs := []) (inner := []) (ok := fun _ => True) (okp := fun _ => False) w2.heap.size 9 (by rfl) rfl ?_ ⟨rfl, fun j p h => by simp at h⟩ (fun _ h => h.elim) trivial HBw.out HBw.out.size (by decide) ?_
        · go_simp
        intro v1 w1 ho hb hg hat
        refine hK.out _ _ ⟨v1, v40, A44, n44, c44, m8_, m9_, (by rw [ha.out]; exact putSel_upk 0 hb_ rfl rfl rfl), hb, fun _ _ => Tg.of (d := Kd.string) rfl ho, fun h0_ _ => absurd ((hoff 4 (by kernel_rfl)).symm.trans h0_) (by decide), fun h0_ => absurd ((hoff 8 (by kernel_rfl)).symm.trans h0_) (by decide), fun h0_ => absurd ((hoff 8 (by kernel_rfl)).symm.trans h0_) (by decide), fun h0_ => absurd ((hoff 9 (by kernel_rfl)).symm.trans h0_) (by decide)⟩
      refine steps_cons ?_ ?_
      · rintro b a w' ⟨v36, v40, A44, n44, c44, m8_, m9_, ha, Q_HBw, Q_R36, Q_R40, Q_R44, Q_X8_, Q_X9_⟩ hb_ hon hoff
        refine ⟨_, rfl, fun K hK => ?_⟩
        have e0 : a.tmps[0]? = some (.slice A0 n c0) := by rw [ha]; exact (putSel_off rfl).trans rfl
        replace ha := Aside0.mk ha
        have HBw := Aside0.mk Q_HBw
        refine value_ (w1 := w') (v := .slice A0 n c0) (by rfl) rfl ?_ ?_
        · go_simp
          (try simp only [i64_w])
          try first | rfl | assumption
        refine hK.out _ _ ⟨v36, v40, A44, n44, c44, m8_, m9_, (by rw [ha.out]; exact putSel_upk 1 hb_ rfl rfl rfl), Q_HBw, Q_R36, fun h0_ _ => absurd ((hoff 4 (by kernel_rfl)).symm.trans h0_) (by decide), fun h0_ => absurd ((hoff 8 (by kernel_rfl)).symm.trans h0_) (by decide), fun h0_ => absurd ((hoff 8 (by kernel_rfl)).symm.trans h0_) (by decide), fun h0_ => absurd ((hoff 9 (by kernel_rfl)).symm.trans h0_) (by decide)⟩
      refine steps_cons ?_ ?_
      · rintro b a w' ⟨v36, v40, A44, n44, c44, m8_, m9_, ha, Q_HBw, Q_R36, Q_R40, Q_R44, Q_X8_, Q_X9_⟩ hb_ hon hoff
        refine ⟨_, rfl, fun K hK => ?_⟩
        have e7 : a.tmps[7]? = some (.int .i64 (kt : Int)) := by rw [ha]; exact (putSel_off rfl).trans rfl
        replace ha := Aside0.mk ha
        have HBw := Aside0.mk Q_HBw
        refine value_ (w1 := w') (v := .int .i64 (kt : Int)) (by rfl) rfl ?_ ?_
        · go_simp
          (try simp only [i64_w])
          try first | rfl | assumption
        refine hK.out _ _ ⟨v36, v40, A44, n44, c44, m8_, m9_, (by rw [ha.out]; exact putSel_upk 2 hb_ rfl rfl rfl), Q_HBw, Q_R36, fun h0_ _ => absurd ((hoff 4 (by kernel_rfl)).symm.trans h0_) (by decide), fun h0_ => absurd ((hoff 8 (by kernel_rfl)).symm.trans h0_) (by decide), fun h0_ => absurd ((hoff 8 (by kernel_rfl)).symm.trans h0_) (by decide), fun h0_ => absurd ((hoff 9 (by kernel_rfl)).symm.trans h0_) (by decide)⟩
      refine steps_cons ?_ ?_
      · rintro b a w' ⟨v36, v40, A44, n44, c44, m8_, m9_, ha, Q_HBw, Q_R36, Q_R40, Q_R44, Q_X8_, Q_X9_⟩ hb_ hon hoff
        refine ⟨_, rfl, fun K hK => ?_⟩
        have e37 : a.tmps[37]? = some (.slice A0 n c0) := by rw [ha]; exact putSel_on (e := (1, 37, .slice A0 n c0)) 1 rfl rfl (hon 1 (by kernel_rfl)) rfl
        have e38 : a.tmps[38]? = some (.int .i64 (kt : Int)) := by rw [ha]; exact putSel_on (e := (2, 38, .int .i64 (kt : Int))) 2 rfl rfl (hon 2 (by kernel_rfl)) rfl
        replace ha := Aside0.mk ha
        have HBw := Aside0.mk Q_HBw
        refine value_ (w1 := w') (v := .slice A1 n1 c1) (by rfl) rfl ?_ ?_
        · go_simp
          (try simp only [i64_w])
          try first | rfl | assumption
        refine hK.out _ _ ⟨v36, v40, A44, n44, c44, m8_, m9_, (by rw [ha.out]; exact putSel_upk 3 hb_ rfl rfl rfl), Q_HBw, Q_R36, fun h0_ _ => absurd ((hoff 4 (by kernel_rfl)).symm.trans h0_) (by decide), fun h0_ => absurd ((hoff 8 (by kernel_rfl)).symm.trans h0_) (by decide), fun h0_ => absurd ((hoff 8 (by kernel_rfl)).symm.trans h0_) (by decide), fun h0_ => absurd ((hoff 9 (by kernel_rfl)).symm.trans h0_) (by decide)⟩
      refine steps_cons ?_ ?_
      · rintro b a w' ⟨v36, v40, A44, n44, c44, m8_, m9_, ha, Q_HBw, Q_R36, Q_R40, Q_R44, Q_X8_, Q_X9_⟩ hb_ hon hoff
        refine ⟨_, rfl, fun K hK => ?_⟩
        have e36 : a.tmps[36]? = some (v36) := by rw [ha]; exact putSel_on (e := (0, 36, v36)) 0 rfl rfl (hon 0 (by kernel_rfl)) rfl
        have e39 : a.tmps[39]? = some (.slice A1 n1 c1) := by rw [ha]; exact putSel_on (e := (3, 39, .slice A1 n1 c1)) 3 rfl rfl (hon 3 (by kernel_rfl)) rfl
        replace ha := Aside0.mk ha
        have HBw := Aside0.mk Q_HBw
        have R36 := Aside0.mk (Q_R36 (hon 0 (by kernel_rfl)) hb_)
        refine Kd.R_append_rows_step Kd.string (w0 := w2) w2.heap.size (by rfl) (.tmp 36) (.tmp 39) 36 9 (.string ⟨#[]⟩) 16 rfl Try.underlying36 info_str rfl (by decide) (by omega) v36 ([]) (l0.drop kt) A1 n1 c1 (fun _ => True) (fun _ => False) (eval_of e36) (eval_of e39) R36.out.any (Kd.C_below HCw1.out HBw.out) (fun _ _ h => h) (fun _ h => h.elim) (fun _ _ => trivial) HBw.out HBw.out.size (by have := HLd.out; have := Hn1.out; simp only [List.length_nil]; omega) ?_
        intro v1 w1 ho hb hg hat
        refine hK.out _ _ ⟨v36, v1, A44, n44, c44, m8_, m9_, (by rw [ha.out]; exact putSel_upk 4 hb_ rfl rfl rfl), hb, fun _ h1_ => absurd ((up_self b 4).symm.trans h1_) (by decide), fun _ _ => Tg.of (d := Kd.string) rfl ho, fun h0_ => absurd ((hoff 8 (by kernel_rfl)).symm.trans h0_) (by decide), fun h0_ => absurd ((hoff 8 (by kernel_rfl)).symm.trans h0_) (by decide), fun h0_ => absurd ((hoff 9 (by kernel_rfl)).symm.trans h0_) (by decide)⟩
      refine steps_cons ?_ ?_
      · rintro b a w' ⟨v36, v40, A44, n44, c44, m8_, m9_, ha, Q_HBw, Q_R36, Q_R40, Q_R44, Q_X8_, Q_X9_⟩ hb_ hon hoff
        refine ⟨_, rfl, fun K hK => ?_⟩
        have e0 : a.tmps[0]? = some (.slice A0 n c0) := by rw [ha]; exact (putSel_off rfl).trans rfl
        replace ha := Aside0.mk ha
        have HBw := Aside0.mk Q_HBw
        refine value_ (w1 := w') (v := .slice A0 n c0) (by rfl) rfl ?_ ?_
        · go_simp
          (try simp only [i64_w])
          try first | rfl | assumption
        refine hK.out _ _ ⟨v36, v40, A44, n44, c44, m8_, m9_, (by rw [ha.out]; exact putSel_upk 5 hb_ rfl rfl rfl), Q_HBw, Q_R36, Q_R40, fun h0_ => absurd ((hoff 8 (by kernel_rfl)).symm.trans h0_) (by decide), fun h0_ => absurd ((hoff 8 (by kernel_rfl)).symm.trans h0_) (by decide), fun h0_ => absurd ((hoff 9 (by kernel_rfl)).symm.trans h0_) (by decide)⟩
      refine steps_cons ?_ ?_
      · rintro b a w' ⟨v36, v40, A44, n44, c44, m8_, m9_, ha, Q_HBw, Q_R36, Q_R40, Q_R44, Q_X8_, Q_X9_⟩ hb_ hon hoff
        refine ⟨_, rfl, fun K hK => ?_⟩
        have e7 : a.tmps[7]? = some (.int .i64 (kt : Int)) := by rw [ha]; exact (putSel_off rfl).trans rfl
        replace ha := Aside0.mk ha
        have HBw := Aside0.mk Q_HBw
        refine value_ (w1 := w') (v := .int .i64 (kt : Int)) (by rfl) rfl ?_ ?_
        · go_simp
          (try simp only [i64_w])
          try first | rfl | assumption
        refine hK.out _ _ ⟨v36, v40, A44, n44, c44, m8_, m9_, (by rw [ha.out]; exact putSel_upk 6 hb_ rfl rfl rfl), Q_HBw, Q_R36, Q_R40, fun h0_ => absurd ((hoff 8 (by kernel_rfl)).symm.trans h0_) (by decide), fun h0_ => absurd ((hoff 8 (by kernel_rfl)).symm.trans h0_) (by decide), fun h0_ => absurd ((hoff 9 (by kernel_rfl)).symm.trans h0_) (by decide)⟩
      refine steps_cons ?_ ?_
      · rintro b a w' ⟨v36, v40, A44, n44, c44, m8_, m9_, ha, Q_HBw, Q_R36, Q_R40, Q_R44, Q_X8_, Q_X9_⟩ hb_ hon hoff
        refine ⟨_, rfl, fun K hK => ?_⟩
        have e41 : a.tmps[41]? = some (.slice A0 n c0) := by rw [ha]; exact putSel_on (e := (5, 41, .slice A0 n c0)) 5 rfl rfl (hon 5 (by kernel_rfl)) rfl
        have e42 : a.tmps[42]? = some (.int .i64 (kt : Int)) := by rw [ha]; exact putSel_on (e := (6, 42, .int .i64 (kt : Int))) 6 rfl rfl (hon 6 (by kernel_rfl)) rfl
        replace ha := Aside0.mk ha
        have HBw := Aside0.mk Q_HBw
        refine value_ (w1 := w') (v := .slice A0 kt c0) (by rfl) rfl ?_ ?_
        · go_simp
          (try simp only [i64_w])
          try first | rfl | assumption
        refine hK.out _ _ ⟨v36, v40, A44, n44, c44, m8_, m9_, (by rw [ha.out]; exact putSel_upk 7 hb_ rfl rfl rfl), Q_HBw, Q_R36, Q_R40, fun h0_ => absurd ((hoff 8 (by kernel_rfl)).symm.trans h0_) (by decide), fun h0_ => absurd ((hoff 8 (by kernel_rfl)).symm.trans h0_) (by decide), fun h0_ => absurd ((hoff 9 (by kernel_rfl)).symm.trans h0_) (by decide)⟩
      refine steps_cons ?_ ?_
      · rintro b a w' ⟨v36, v40, A44, n44, c44, m8_, m9_, ha, Q_HBw, Q_R36, Q_R40, Q_R44, Q_X8_, Q_X9_⟩ hb_ hon hoff
        refine ⟨_, rfl, fun K hK => ?_⟩
        have e40 : a.tmps[40]? = some (v40) := by rw [ha]; exact putSel_on (e := (4, 40, v40)) 4 rfl rfl (hon 4 (by kernel_rfl)) rfl
        have e43 : a.tmps[43]? = some (.slice A0 kt c0) := by rw [ha]; exact putSel_on (e := (7, 43, .slice A0 kt c0)) 7 rfl rfl (hon 7 (by kernel_rfl)) rfl
        replace ha := Aside0.mk ha
        have HBw := Aside0.mk Q_HBw
        have R40 := Aside0.mk (Q_R40 (hon 4 (by kernel_rfl)) hb_)
        refine Kd.R_append_rows_step Kd.string (w0 := w2) w2.heap.size (by rfl) (.tmp 40) (.tmp 43) 36 9 (.string ⟨#[]⟩) 16 rfl Try.underlying36 info_str rfl (by decide) (by omega) v40 (l0.drop kt) (l0.take kt) A0 kt c0 (fun _ => True) (fun _ => False) (eval_of e40) (eval_of e43) R40.out.any (Kd.C_below HCw2.out HBw.out) (fun _ _ h => h) (fun _ h => h.elim) (fun _ _ => trivial) HBw.out HBw.out.size (by have := HLd.out; omega) ?_
        intro v1 w1 ho hb hg hat
        obtain ⟨A9, n9, c9, ee, hn9, _⟩ := row_slice ho
        have hown := Kd.own_of_R ho
        rw [ee, ← HL.out] at hown
        rw [← HL.out] at hn9
        subst ee
        rw [← hn9.out] at hown
        refine hK.out _ _ ⟨v36, v40, A9, n9, c9, (.slice A9 n9 c9), m9_, (by rw [ha.out]; exact putSel_upk 8 hb_ rfl rfl rfl), hb, fun _ h1_ => absurd ((hon 4 (by kernel_rfl)).symm.trans h1_) (by decide), fun _ h1_ => absurd ((up_self b 8).symm.trans h1_) (by decide), fun _ => ⟨hown, hn9.out.trans HLl.out⟩, fun _ => rfl, fun h0_ => absurd ((hoff 9 (by kernel_rfl)).symm.trans h0_) (by decide)⟩
      refine steps_cons ?_ ?_
      · rintro b a w' ⟨v36, v40, A44, n44, c44, m8_, m9_, ha, Q_HBw, Q_R36, Q_R40, Q_R44, Q_X8_, Q_X9_⟩ hb_ hon hoff
        refine ⟨_, rfl, fun K hK => ?_⟩
        have e44 : a.tmps[44]? = some (m8_) := by rw [ha]; exact putSel_on (e := (8, 44, m8_)) 8 rfl rfl (hon 8 (by kernel_rfl)) rfl
        rw [Q_X8_ (hon 8 (by kernel_rfl))] at e44
        replace ha := Aside0.mk ha
        have HBw := Aside0.mk Q_HBw
        have R44 := Aside0.mk (Q_R44 (hon 8 (by kernel_rfl)))
        refine value_ (w1 := w') (v := .int .i64 (n44 : Int)) (by rfl) rfl ?_ ?_
        · go_simp
          (try simp only [i64_w])
          try first | rfl | assumption
        refine hK.out _ _ ⟨v36, v40, A44, n44, c44, m8_, (.int .i64 (n44 : Int)), (by rw [ha.out]; exact putSel_upk 9 hb_ rfl rfl rfl), Q_HBw, fun _ h1_ => absurd ((hon 4 (by kernel_rfl)).symm.trans h1_) (by decide), fun _ h1_ => absurd ((hon 8 (by kernel_rfl)).symm.trans h1_) (by decide), Q_R44, Q_X8_, fun _ => rfl⟩
      refine steps_cons ?_ ?_
      · rintro b a w' ⟨v36, v40, A44, n44, c44, m8_, m9_, ha, Q_HBw, Q_R36, Q_R40, Q_R44, Q_X8_, Q_X9_⟩ hb_ hon hoff
        refine ⟨_, rfl, fun K hK => ?_⟩
        replace ha := Aside0.mk ha
        have HBw := Aside0.mk Q_HBw
        refine value_ (w1 := w') (v := .int .i64 0) (by rfl) rfl ?_ ?_
        · go_simp
          (try simp only [i64_w])
          try first | rfl | assumption
        refine hK.out _ _ ⟨v36, v40, A44, n44, c44, m8_, m9_, (by rw [ha.out]; exact putSel_upk 10 hb_ rfl rfl rfl), Q_HBw, Q_R36, Q_R40, Q_R44, Q_X8_, Q_X9_⟩
      exact steps_nil
    rintro b a w4 hall ⟨v36, v40, A44, n44, c44, m8_, m9_, ha, Q_HBw, Q_R36, Q_R40, Q_R44, Q_X8_, Q_X9_⟩
    clear HBw
    have hb0_ := hall 0 (by kernel_rfl)
    have hb1_ := hall 1 (by kernel_rfl)
    have hb2_ := hall 2 (by kernel_rfl)
    have hb3_ := hall 3 (by kernel_rfl)
    have hb4_ := hall 4 (by kernel_rfl)
    have hb5_ := hall 5 (by kernel_rfl)
    have hb6_ := hall 6 (by kernel_rfl)
    have hb7_ := hall 7 (by kernel_rfl)
    have hb8_ := hall 8 (by kernel_rfl)
    have hb9_ := hall 9 (by kernel_rfl)
    have hb10_ := hall 10 (by kernel_rfl)
    subst ha
    obtain rfl := Q_X8_ hb8_
    obtain rfl := Q_X9_ hb9_
    simp only [putSel, hb0_, hb1_, hb2_, hb3_, hb4_, hb5_, hb6_, hb7_, hb8_, hb9_, hb10_, if_true, Act.put, List.setIfInBounds_toArray, List.set_cons_zero, List.set_cons_succ]
    have HBw := Aside0.mk Q_HBw
    clear Q_HBw
    clear Q_R36
    clear Q_R40
    have R44 := Aside0.mk (Q_R44 hb8_)
    clear Q_R44
    clear hall hb0_ hb1_ hb2_ hb3_ hb4_ hb5_ hb6_ hb7_ hb8_ hb9_ hb10_
    have HO := Aside0.mk (Off.new HG3.out.t (fun b h => (R44.out.1.lt b h).1))
    have HO2 := Aside0.mk (Off.new HG2.out.t (fun b h => (R44.out.1.lt b h).1))
    have HG3' := Aside0.mk (HG3.out.below HBw.out)
    have HG2' := Aside0.mk (HG2.out.below HBw.out)
    have HD := Aside0.mk (show Dj p (.slice none 0 0) (.slice none 0 0) p2 (.slice none 0 0) (.slice none 0 0) from fun k h1 h2 => by
      rcases h1 with h1 | h1 | h1
      · rcases h2 with h2 | h2 | h2
        · exact Hpp.out (h2.symm.trans h1)
        · cases h2
        · cases h2
      · cases h1
      · cases h1)
    have HB4 := Aside0.mk (HB2.out.trans (HBw.out.mono HB2.out.size))
    obtain ⟨R, hn44⟩ := R44.out
    have HR := Aside0.mk R
    subst hn44
    generalize w2.heap.size = base2 at HR
    clear R44 R HG3 HG2 HG1 HB1 HBw HCw1 HCw2 HC1 HC2 Hc1 Hn1 Hn2 HLd hto hcut HB2 HN1 Hpp hktn HN
    go_wp2_with fail
    go_loopw [46] (fun i wr => ∃ k : Nat, k ≤ n44 ∧ i = .int .i64 k ∧ Aside0 (Below w.heap.size w wr) ∧ Aside0 (∃ kv vv ks, Gs wr w.heap.size p 200 kv vv ks ∧ Gs wr w.heap.size p2 200 (.slice none 0 0) (.slice none 0 0) [] ∧ Dj p kv vv p2 (.slice none 0 0) (.slice none 0 0) ∧ Off (.slice A44 n44 c44) p kv vv ∧ wr.ownsRow base2 9 1 (.slice A44 n44 c44) n44 (L.map Value.string) ∧ ks.length ≤ k ∧ ∀ y, y ∈ ks ↔ y ∈ L.take k)) (fun i _ => n44 - (intOf i).toNat)
    case atStart => exact ⟨0, Nat.zero_le _, rfl, HB4, ⟨_, _, _, HG3'.out, HG2'.out, HD.out, HO.out, HR.out, Nat.le_refl _, fun y => by simp⟩⟩
    case round =>
      obtain ⟨k, hk, rfl, HB, HE⟩ := hrel
      by_cases hlt : k < n44
      · obtain ⟨kv, vv, ks, hG, hG2, hD, hO, hR, hkl, hmem⟩ := HE.out
        have Hx := Aside0.mk (rds_at (l := L) (k := k) (by rw [HLl.out]; exact hlt))
        generalize rdOf ByteArray.empty L (k : Int) = x at *
        obtain ⟨g2, c2', e2, hcx, _, _⟩ := own_cell hR (i := k) (x := .string x) (by rw [List.getElem?_map, Hx.out]; rfl)
        cases e2
        have K2 := Aside0.mk (gs_put hG x (by omega))
        have HM' := Aside0.mk (mem_step (room := 200) Hx.out (by omega) hmem)
        have HL' := Aside0.mk (Nat.le_trans (len_pk (lt := strLt) (room := 200) (ks := ks) (x := x)) (Nat.succ_le_succ hkl))
        have HZ := Aside0.mk (And.intro hG2 (And.intro hD (And.intro hO hR)))
        have hlt4 : (k : Int) < (n44 : Int) := by omega
        clear HE hG hG2 hD hO hR hkl hmem HG3' HG2'
        go_wp2_with (go_at_call 18; refine K2.out.mono ?_; rintro e w5 ⟨kv5, vv5, rfl, hG5, ht5⟩; have HG5 := Aside0.mk hG5; have HB5 := Aside0.mk (HB.out.trans ht5.1); have S5 := Aside0.mk (HZ.out.2.2.1.step ht5 HZ.out.2.2.2); have D5 := Aside0.mk (HZ.out.2.1.step ht5 (fun k h => (HZ.out.1.t.lt h).2)); have G5 := Aside0.mk (HZ.out.1.kept ht5.2.1 (fun k h h2 => HZ.out.2.1 k h2 h)); clear hG5 ht5)
        go_roundw
        case rel => exact ⟨k + 1, by omega, by go_num, HB5, ⟨_, _, _, HG5.out, G5.out, D5.out, S5.out.1, S5.out.2, HL'.out, HM'.out⟩⟩
        case measure => simp [intOf]; omega
      · have hke : n44 = k := by omega
        subst hke
        obtain ⟨kv, vv, K1, hG, hG2, hD, hO, hR, hkl, hmem⟩ := HE.out
        have HK1 := Aside0.mk (show ∀ y, y ∈ K1 ↔ y ∈ l0 from fun y => by rw [hmem y, List.take_of_length_le (by rw [HLl.out]; exact Nat.le_refl _), HLm.out y])
        have hm9 : (K1.length : Int) ≤ 100 := by omega
        have HZ0 := Aside0.mk (And.intro hG (And.intro hG2 hD))
        clear HE hG hG2 hD hO hR hkl hmem HG3' HG2' HO HO2 HR HD HB4 HLm HLl HL
        go_wp2_with fail
        go_loopw [57] (fun i wx => ∃ q : Nat, q ≤ n44 ∧ i = .int .i64 q ∧ Aside0 (Below w.heap.size w wx) ∧ Aside0 (∃ kv2 vv2 ks, Gs wx w.heap.size p 200 kv vv K1 ∧ Gs wx w.heap.size p2 200 kv2 vv2 ks ∧ Dj p2 kv2 vv2 p kv vv ∧ ks.length ≤ q ∧ ∀ y, y ∈ ks ↔ y ∈ l0.take q)) (fun i _ => n44 - (intOf i).toNat)
        case atStart => exact ⟨0, Nat.zero_le _, rfl, HB, ⟨_, _, _, HZ0.out.1, HZ0.out.2.1, HZ0.out.2.2.symm, Nat.le_refl _, fun y => by simp⟩⟩
        case round =>
          obtain ⟨q, hq, rfl, HBq, HE⟩ := hrel
          by_cases hlq : q < n44
          · obtain ⟨kv2, vv2, ks, hG, hG2, hD, hkl, hmem⟩ := HE.out
            obtain ⟨ad, e1, hx⟩ := Kd.at_string (Kd.C_below HC.out HBq.out) (q : Int) (by omega) (by omega)
            cases e1
            rw [Int.toNat_natCast] at hx
            have Hx := Aside0.mk (rds_at (l := l0) (k := q) (by rw [← Hn.out]; exact hlq))
            generalize rdOf ByteArray.empty l0 (q : Int) = x at *
            have K2 := Aside0.mk (gs_put hG2 x (by omega))
            have HM' := Aside0.mk (mem_step (room := 200) Hx.out (by omega) hmem)
            have HL' := Aside0.mk (Nat.le_trans (len_pk (lt := strLt) (room := 200) (ks := ks) (x := x)) (Nat.succ_le_succ hkl))
            have HZ := Aside0.mk (And.intro hG hD)
            clear HE hG hG2 hD hkl hmem HZ0
            go_wp2_with (go_at_call 18; refine K2.out.mono ?_; rintro e w5 ⟨kv5, vv5, rfl, hG5, ht5⟩; have HG5 := Aside0.mk hG5; have HB5 := Aside0.mk (HBq.out.trans ht5.1); have D5 := Aside0.mk (HZ.out.2.step ht5 (fun k h => (HZ.out.1.t.lt h).2)); have G5 := Aside0.mk (HZ.out.1.kept ht5.2.1 (fun k h h2 => HZ.out.2 k h2 h)); clear hG5 ht5)
            go_roundw
            case rel => exact ⟨q + 1, by omega, by go_num, HB5, ⟨_, _, _, G5.out, HG5.out, D5.out, HL'.out, HM'.out⟩⟩
            case measure => simp [intOf]; omega
          · have hqe : n44 = q := by omega
            subst hqe
            obtain ⟨kv2, vv2, ks, hG, hG2, hD, hkl, hmem⟩ := HE.out
            obtain rfl : ks = K1 := srt_eq ord_str hG2.s hG.s (fun y => by rw [hmem y, List.take_of_length_le (by rw [← Hn.out]; exact Nat.le_refl _), HK1.out y])
            have HG := Aside0.mk hG
            have HG2 := Aside0.mk hG2
            have KK1 := Aside0.mk (gs_keys hG)
            clear HE hG hG2 hD hkl hmem HZ0 HB
            go_wp2_with (first
              | (go_at_call 19; (with_reducible refine KK1.out.mono ?_); rintro e w6 ⟨v6, rfl, hr, hb⟩; have HG6 := Aside0.mk (HG.out.below hb); have KK2 := Aside0.mk (gs_keys (HG2.out.below hb)); obtain ⟨A6, c6, rfl, hc6⟩ := own_slc hr; have HR6 := Aside0.mk hr; have HB6 := Aside0.mk (HBq.out.trans (hb.mono HBq.out.size)); clear hr hb hc6)
              | (go_at_call 19; (with_reducible refine KK2.out.mono ?_); rintro e w7 ⟨v7, rfl, hr, hb⟩; have HG7 := Aside0.mk (HG6.out.below hb); have HR67 := Aside0.mk (own_move HR6.out (fun k h => hb.block k (HR6.out.lt k h).2)); obtain ⟨A7, c7, rfl, hc7⟩ := own_slc hr; have HR7 := Aside0.mk hr; have HB7 := Aside0.mk (HB6.out.trans (hb.mono HB6.out.size)); have KL7 := Aside0.mk (gs_len HG7.out); clear hr hb hc7)
              | (go_at_call 20; refine KL7.out.mono ?_; rintro e w8 ⟨rfl, e8⟩; subst e8))
            clear HG6 HG2 HG KK1 KK2 HR6 KL7 HBq HB6
            go_loopw [84] (fun i wx => ∃ j : Nat, j ≤ ks.length ∧ i = .int .i64 j ∧ Aside0 (∃ q, wx = w8.drewN q)) (fun i _ => ks.length - (intOf i).toNat)
            case atStart => exact ⟨0, Nat.zero_le _, rfl, ⟨⟨0, rfl⟩⟩⟩
            case round =>
              obtain ⟨j, hj, rfl, HQ⟩ := hrel
              by_cases hlj : j < ks.length
              · obtain ⟨x, hx⟩ : ∃ x, ks[j]? = some x := ⟨_, List.getElem?_eq_getElem hlj⟩
                obtain ⟨g6, c6', e6, hc6, _, _⟩ := own_cell HR67.out (i := j) (x := .string x) (by rw [List.getElem?_map, hx]; rfl)
                cases e6
                obtain ⟨g7, c7', e7, hc7, _, _⟩ := own_cell HR7.out (i := j) (x := .string x) (by rw [List.getElem?_map, hx]; rfl)
                cases e7
                have KG := Aside0.mk (gs_get (HG7.out.drew HQ.out) x (List.mem_of_getElem? hx))
                have hj4 : (j : Int) < (ks.length : Int) := by omega
                have Hc7 := Aside0.mk hc7
                replace hc6 := cq HQ.out hc6
                cases j with
                | zero =>
                  clear hx hc7 hj hlj
                  go_wp2_with (go_at_call 21; refine KG.out.mono ?_; rintro e w9 ⟨rfl, hq⟩; have Q9 := Aside0.mk (dq HQ.out hq); have hc9 := cq Q9.out Hc7.out; clear hq)
                  go_roundw
                  case rel => exact ⟨1, by omega, rfl, Q9⟩
                  case measure => simp [intOf]; omega
                | succ j =>
                  obtain ⟨a, ha⟩ : ∃ a, ks[j]? = some a := ⟨_, List.getElem?_eq_getElem (by omega)⟩
                  obtain ⟨g8, c8', e8, hc8, _, _⟩ := own_cell HR67.out (i := j) (x := .string a) (by rw [List.getElem?_map, ha]; rfl)
                  cases e8
                  have Hc8 := Aside0.mk hc8
                  have hlt : strLt a x = true := (lt_pos' ord_str HG7.out.s (x := x) ha).2 (by rw [pos_at ord_str HG7.out.s hx]; omega)
                  have hb1 : Op.bytesLess x.toList a.toList = false := by
                    show strLt x a = false
                    cases h : strLt x a with
                    | false => rfl
                    | true => have := ord_str.trans _ _ _ hlt h; rw [ord_str.irrefl] at this; cases this
                  have hb2 : (x.toList == a.toList) = false := by
                    rw [beq_eq_false_iff_ne]
                    intro h
                    have := ba_ext h
                    subst this
                    rw [ord_str.irrefl] at hlt; cases hlt
                  have hj5 : (j : Int) < (ks.length : Int) := by omega
                  have hj6 : (j : Int) ≤ 100 := by omega
                  clear hx hc7 hj hlj ha hlt hc8
                  go_wp2_with (go_at_call 21; refine KG.out.mono ?_; rintro e w9 ⟨rfl, hq⟩; have Q9 := Aside0.mk (dq HQ.out hq); have hc9 := cq Q9.out Hc7.out; have hc10 := cq Q9.out Hc8.out; clear hq)
                  go_roundw
                  case rel => exact ⟨j + 1 + 1, by omega, by go_num, Q9⟩
                  case measure => simp [intOf]; omega
              · have hje : j = ks.length := by omega
                subst hje
                go_wp2_with fail
                go_loopw [126] (fun i wx => ∃ q : Nat, q ≤ n44 ∧ i = .int .i64 q ∧ Aside0 (∃ q, wx = w8.drewN q)) (fun i _ => n44 - (intOf i).toNat)
                case atStart => exact ⟨0, Nat.zero_le _, rfl, HQ⟩
                case round =>
                  obtain ⟨q, hq, rfl, HQ2⟩ := hrel
                  by_cases hlq : q < n44
                  · obtain ⟨ad, e1, hx⟩ := Kd.at_string (Kd.C_below HC.out (HB7.out.trans (bel HQ2.out))) (q : Int) (by omega) (by omega)
                    cases e1
                    rw [Int.toNat_natCast] at hx
                    have Hx := Aside0.mk (rds_at (l := l0) (k := q) (by rw [← Hn.out]; exact hlq))
                    generalize rdOf ByteArray.empty l0 (q : Int) = x at *
                    have KG := Aside0.mk (gs_get (HG7.out.drew HQ2.out) x ((HK1.out x).2 (List.mem_of_getElem? Hx.out)))
                    go_wp2_with (go_at_call 21; refine KG.out.mono ?_; rintro e w9 ⟨rfl, hq⟩; have Q9 := Aside0.mk (dq HQ2.out hq); clear hq)
                    go_roundw
                    case rel => exact ⟨q + 1, by omega, by go_num, Q9⟩
                    case measure => simp [intOf]; omega
                  · have hqe : n44 = q := by omega
                    subst hqe
                    go_wp2_with (go_at_call 9; refine (HW.out _).mono ?_; rintro e w5 ⟨rfl, hb⟩; have HB5 := Aside0.mk ((HB7.out.trans (bel HQ2.out)).trans (hb.mono (HB7.out.trans (bel HQ2.out)).size)); clear hb)
                    go_ret
                    exact ⟨rfl, HB5.out⟩
end Go.Proofs.Ytehlegjccghalaa.TbX
