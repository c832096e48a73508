/- The law's own insert: a new row. -/
import Derived.Test.YtehlegjccghalaaTbG
import Derived.Test.YtehlegjccghalaaWRepsOne
namespace Go.Proofs.Ytehlegjccghalaa.TbJ
open Go.RowKit Go.Proofs.YtehlegjccghalaaW.PrintWords Go.Proofs.YtehlegjccghalaaW.PrintLast Go.Proofs.YtehlegjccghalaaW.PrintMore Go.Proofs.Ytehlegjccghalaa.TbI Go.Proofs.Ytehlegjccghalaa.TbP Go.Proofs.Ytehlegjccghalaa.TbT Go.Proofs.Ytehlegjccghalaa.TbL Go.Proofs.Ytehlegjccghalaa.TbG Go.Proofs.Ytehlegjccghalaa.Rw
set_option linter.unusedVariables false
set_option linter.unusedSimpArgs false
theorem info_int : (Try.prog.info? 3).map (fun i => (i.zero, i.size, i.bytes)) = some (some (.int .i64 0), 1, 8) := by kernel_rfl
theorem cut_int {w0 : World} (A : Option Addr) (n c : Nat) (l : List Int) (j : Nat) (hn : n = l.length) (hC : Kd.C (Kd.int .i64) w0 A n l) (hc : n ≤ c) (hm : j ≤ n) :
    ∃ A' n' c', (∀ W : World, (Instr.slice 22 (.slice A n c) (some (.int .i64 (j : Int))) none none).run Try.prog W = .ok (.slice A' n' c') W) ∧ Aside0 (n' = (l.drop j).length) ∧ Aside0 (n' ≤ c') ∧ Aside0 (Kd.C (Kd.int .i64) w0 A' n' (l.drop j)) := by
  subst hn
  obtain ⟨i0, hi, hzz⟩ := Option.map_eq_some_iff.1 info_int
  simp only [Prod.mk.injEq] at hzz
  have hd := Kd.C_drop hC (m := j) (c := c) (by omega) hc
  rw [show j * (Kd.int .i64).sz = j from Nat.mul_one j] at hd
  refine ⟨_, _, _, cut_from _ _ _ Try.underlying22 hi 1 hzz.2.1 A l.length c (j : Int) (by omega) (by omega), ⟨by simp⟩, ⟨by omega⟩, ⟨by rw [List.length_drop] at hd; simpa using hd⟩⟩
theorem to_int {w0 : World} (A : Option Addr) (n c : Nat) (l : List Int) (j : Nat) (hn : n = l.length) (hC : Kd.C (Kd.int .i64) w0 A n l) (hc : n ≤ c) (hm : j ≤ n) :
    (∀ W : World, (Instr.slice 22 (.slice A n c) none (some (.int .i64 (j : Int))) none).run Try.prog W = .ok (.slice A j c) W) ∧ Aside0 (j = (l.take j).length) ∧ Aside0 (Kd.C (Kd.int .i64) w0 A j (l.take j)) := by
  subst hn
  obtain ⟨i0, hi, hzz⟩ := Option.map_eq_some_iff.1 info_int
  simp only [Prod.mk.injEq] at hzz
  have hd := Kd.C_take hC (m := j) (by omega)
  have hl : (l.take j).length = j := by rw [List.length_take]; omega
  rw [hl] at hd
  refine ⟨?_, ⟨hl.symm⟩, ⟨hd⟩⟩
  have := cut_to 22 3 .i64 Try.underlying22 hi A l.length c (j : Int) (by omega) (by omega) hc
  rw [Int.toNat_natCast] at this
  exact this
theorem tg_C {e : Nat} {w : World} {base : Nat} {A : Option Addr} {n c : Nat} {xs : List Int} (h : Tg (Kd.int .i64) e w base (.slice A n c) xs) : n = xs.length ∧ n ≤ c ∧ Kd.C (Kd.int .i64) w A n xs := by
  have h1 := Kd.R_reads' h
  refine ⟨h1.1, h1.2.1, ?_⟩
  rw [h1.1]
  exact h1.2.2
def t_mailsacklaw1_insert.T1 : Bool × List (List Nat × List Nat) := (true, [([], []), ([], []), ([], []), ([1, 2], [1, 2]), ([0, 3], [0, 3]), ([], []), ([5], [5]), ([4, 6, 4], [4, 6]), ([], []), ([], []), ([8, 9], [8, 9]), ([7, 10, 7], [7, 10]), ([11, 11, 0, 1, 2, 3, 4, 5, 6, 7, 8, 9, 10, 11], [11])])
def t_mailsacklaw1_insert.B1 : List Nat := [0, 0, 0, 6, 15, 0, 32, 127, 0, 0, 768, 2047, 4095]
theorem t_mailsacklaw1_insert.tab1 : rtab .any (opsOf Try.f22 1) = t_mailsacklaw1_insert.T1 := by kernel_rfl
theorem t_mailsacklaw1_insert.bits1 : waitsOk t_mailsacklaw1_insert.T1.2 t_mailsacklaw1_insert.B1 = true := by kernel_rfl
set_option maxHeartbeats 1000000 in
theorem insert_calls (A0 : Option Addr) (n c0 : Nat) (l : List Int) (i : Nat) (x : Int) (w : World) (hn : n = l.length) (hc : n ≤ c0) (hC : Kd.C (Kd.int .i64) w A0 n l) (hi : i ≤ n) (hl : n ≤ 3000) :
    Calls Try.prog 22 #[.slice A0 n c0, .int .i64 (i : Int), .int .i64 x] w fun e w' => ∃ v', e = .returned v' ∧ w'.ownsRow w.heap.size 3 1 v' (n + 1) ((ins l i x).map (Value.int .i64)) ∧ Below w.heap.size w w' := by
  obtain ⟨A1, n1, c1, hcut, Hn1, Hc1, HC1⟩ := cut_int A0 n c0 l i hn hC hc hi
  obtain ⟨hto, Hn2, HC2⟩ := to_int A0 n c0 l i hn hC hc hi
  have HLd : Aside0 ((l.drop i).length ≤ 3000 ∧ i ≤ 3000) := ⟨by rw [List.length_drop, ← hn]; omega⟩
  have HBw := Aside0.mk (Below.refl w.heap.size w)
  have Hlen := Aside0.mk (show (ins l i x).length = n + 1 by rw [ins_length (by omega), hn])
  clear hC hn hc hi hl
  go_enter Try.func22, Try.ntmps22
  go_wp2_with fail
  refine start_ (n := 13) (S := fun w' => True) (ds := []) #[false, false, false, false, false, false, false, false, false, false, false, false, false] (by kernel_rfl) rfl rfl trivial (fun hHeld => ?_)
  refine with_tabW t_mailsacklaw1_insert.tab1 t_mailsacklaw1_insert.bits1 (fun HT_ HW_ => ?_)
  have hd_ := (below_drew1 (Below.refl w.heap.size w))
  have n_HBw := Aside0.mk (HBw.out.trans (hd_.mono HBw.out.size))
  clear HBw
  have HBw := n_HBw
  clear n_HBw
  generalize w.drew = w_d at *
  clear hd_
  refine inv_at [0, 1, 2, 3, 4, 5, 6, 7, 8, 9, 10, 11, 12] (fun a0_ b a w' => ∃ (v7 : Value) (v11 : Value) (A13 : Option Addr) (n13 : Nat) (c13 : Nat) (v14 : Value) (v18 : Value) (m6_ : Value) (m12_ : Value), a = putSel a0_ b [(0, 7, v7), (1, 8, .slice A0 n c0), (2, 9, .int .i64 (i : Int)), (3, 10, .slice A0 i c0), (4, 11, v11), (5, 12, .int .i64 x), (6, 13, m6_), (7, 14, v14), (8, 15, .slice A0 n c0), (9, 16, .int .i64 (i : Int)), (10, 17, .slice A1 n1 c1), (11, 18, v18), (12, 6, m12_)] ∧ (Below w.heap.size w w') ∧ (b 0 = true → b 4 = false → Tg (Kd.int .i64) 3 w' w.heap.size v7 []) ∧ (b 4 = true → b 7 = false → Tg (Kd.int .i64) 3 w' w.heap.size v11 (l.take i)) ∧ (b 6 = true → b 7 = false → Tg (Kd.int .i64) 3 w' w.heap.size (.slice A13 n13 c13) [x]) ∧ (b 0 = true → b 6 = true → b 4 = false → AP v7 (.slice A13 n13 c13)) ∧ (b 4 = true → b 6 = true → b 7 = false → AP v11 (.slice A13 n13 c13)) ∧ (b 7 = true → b 11 = false → Tg (Kd.int .i64) 3 w' w.heap.size v14 (l.take i ++ [x])) ∧ (b 11 = true → Tg (Kd.int .i64) 3 w' w.heap.size v18 (l.take i ++ [x] ++ l.drop i)) ∧ (b 6 = true → (m6_ : Value) = .slice A13 n13 c13) ∧ (b 12 = true → (m12_ : Value) = v18)) HT_.out HW_.out (by kernel_rfl) (by kernel_rfl) ?_ ?_ ?_
  · exact ⟨.slice none 0 0, .slice none 0 0, none, 0, 0, .slice none 0 0, .slice none 0 0, .bool false, .bool false, by simp only [putSel, Bool.false_eq_true, if_false], HBw.out, fun h_ => absurd h_ (by decide), fun h_ => absurd h_ (by decide), fun h_ => absurd h_ (by decide), fun h_ => absurd h_ (by decide), fun h_ => absurd h_ (by decide), fun h_ => absurd h_ (by decide), fun h_ => absurd h_ (by decide), fun h_ => absurd h_ (by decide), fun h_ => absurd h_ (by decide)⟩
  · skip
    clear HBw
    refine steps_cons ?_ ?_
    · rintro b a w' ⟨v7, v11, A13, n13, c13, v14, v18, m6_, m12_, ha, Q_HBw, Q_R7, Q_R11, Q_R13, Q_AP7, Q_AP11, Q_R14, Q_R18, Q_X6_, Q_X12_⟩ hb_ hon hoff
      refine ⟨_, rfl, fun K hK => ?_⟩
      replace ha := Aside0.mk ha
      have HBw := Aside0.mk Q_HBw
      refine Kd.R_lit_step (Kd.int .i64) (w0 := w) (xs := []) (inner := []) (ok := fun _ => True) (okp := fun _ => False) w.heap.size 3 (by rfl) rfl ?_ ⟨rfl, fun j p h => by simp at h⟩ (fun _ h => h.elim) trivial HBw.out HBw.out.size (by decide) ?_
      · go_simp
      intro v1 w1 ho hb hg hat
      refine hK.out _ _ ⟨v1, v11, A13, n13, c13, v14, v18, m6_, m12_, (by rw [ha.out]; exact putSel_upk 0 hb_ rfl rfl rfl), hb, fun _ _ => Tg.of (d := Kd.int .i64) rfl ho, fun h0_ _ => absurd ((hoff 4 (by kernel_rfl)).symm.trans h0_) (by decide), fun h0_ h1_ => (Q_R13 h0_ h1_).grown_none hg, fun _ h1_ _ => ((Q_R13 h1_ (hoff 7 (by kernel_rfl))).ap_right hat).symm, fun h0_ _ _ => absurd ((hoff 4 (by kernel_rfl)).symm.trans h0_) (by decide), fun h0_ _ => absurd ((hoff 7 (by kernel_rfl)).symm.trans h0_) (by decide), fun h0_ => absurd ((hoff 11 (by kernel_rfl)).symm.trans h0_) (by decide), Q_X6_, fun h0_ => absurd ((hoff 12 (by kernel_rfl)).symm.trans h0_) (by decide)⟩
    refine steps_cons ?_ ?_
    · rintro b a w' ⟨v7, v11, A13, n13, c13, v14, v18, m6_, m12_, ha, Q_HBw, Q_R7, Q_R11, Q_R13, Q_AP7, Q_AP11, Q_R14, Q_R18, Q_X6_, Q_X12_⟩ hb_ hon hoff
      refine ⟨_, rfl, fun K hK => ?_⟩
      have e0 : a.tmps[0]? = some (.slice A0 n c0) := by rw [ha]; exact (putSel_off rfl).trans rfl
      replace ha := Aside0.mk ha
      have HBw := Aside0.mk Q_HBw
      refine value_ (w1 := w') (v := .slice A0 n c0) (by rfl) rfl ?_ ?_
      · go_simp
        (try simp only [i64_w])
        try first | rfl | assumption
      refine hK.out _ _ ⟨v7, v11, A13, n13, c13, v14, v18, m6_, m12_, (by rw [ha.out]; exact putSel_upk 1 hb_ rfl rfl rfl), Q_HBw, Q_R7, fun h0_ _ => absurd ((hoff 4 (by kernel_rfl)).symm.trans h0_) (by decide), Q_R13, Q_AP7, fun h0_ _ _ => absurd ((hoff 4 (by kernel_rfl)).symm.trans h0_) (by decide), fun h0_ _ => absurd ((hoff 7 (by kernel_rfl)).symm.trans h0_) (by decide), fun h0_ => absurd ((hoff 11 (by kernel_rfl)).symm.trans h0_) (by decide), Q_X6_, fun h0_ => absurd ((hoff 12 (by kernel_rfl)).symm.trans h0_) (by decide)⟩
    refine steps_cons ?_ ?_
    · rintro b a w' ⟨v7, v11, A13, n13, c13, v14, v18, m6_, m12_, ha, Q_HBw, Q_R7, Q_R11, Q_R13, Q_AP7, Q_AP11, Q_R14, Q_R18, Q_X6_, Q_X12_⟩ hb_ hon hoff
      refine ⟨_, rfl, fun K hK => ?_⟩
      have e1 : a.tmps[1]? = some (.int .i64 (i : Int)) := by rw [ha]; exact (putSel_off rfl).trans rfl
      replace ha := Aside0.mk ha
      have HBw := Aside0.mk Q_HBw
      refine value_ (w1 := w') (v := .int .i64 (i : Int)) (by rfl) rfl ?_ ?_
      · go_simp
        (try simp only [i64_w])
        try first | rfl | assumption
      refine hK.out _ _ ⟨v7, v11, A13, n13, c13, v14, v18, m6_, m12_, (by rw [ha.out]; exact putSel_upk 2 hb_ rfl rfl rfl), Q_HBw, Q_R7, fun h0_ _ => absurd ((hoff 4 (by kernel_rfl)).symm.trans h0_) (by decide), Q_R13, Q_AP7, fun h0_ _ _ => absurd ((hoff 4 (by kernel_rfl)).symm.trans h0_) (by decide), fun h0_ _ => absurd ((hoff 7 (by kernel_rfl)).symm.trans h0_) (by decide), fun h0_ => absurd ((hoff 11 (by kernel_rfl)).symm.trans h0_) (by decide), Q_X6_, fun h0_ => absurd ((hoff 12 (by kernel_rfl)).symm.trans h0_) (by decide)⟩
    refine steps_cons ?_ ?_
    · rintro b a w' ⟨v7, v11, A13, n13, c13, v14, v18, m6_, m12_, ha, Q_HBw, Q_R7, Q_R11, Q_R13, Q_AP7, Q_AP11, Q_R14, Q_R18, Q_X6_, Q_X12_⟩ hb_ hon hoff
      refine ⟨_, rfl, fun K hK => ?_⟩
      have e8 : a.tmps[8]? = some (.slice A0 n c0) := by rw [ha]; exact putSel_on (e := (1, 8, .slice A0 n c0)) 1 rfl rfl (hon 1 (by kernel_rfl)) rfl
      have e9 : a.tmps[9]? = some (.int .i64 (i : Int)) := by rw [ha]; exact putSel_on (e := (2, 9, .int .i64 (i : Int))) 2 rfl rfl (hon 2 (by kernel_rfl)) rfl
      replace ha := Aside0.mk ha
      have HBw := Aside0.mk Q_HBw
      refine value_ (w1 := w') (v := .slice A0 i c0) (by rfl) rfl ?_ ?_
      · go_simp
        (try simp only [i64_w])
        try first | rfl | assumption
      refine hK.out _ _ ⟨v7, v11, A13, n13, c13, v14, v18, m6_, m12_, (by rw [ha.out]; exact putSel_upk 3 hb_ rfl rfl rfl), Q_HBw, Q_R7, fun h0_ _ => absurd ((hoff 4 (by kernel_rfl)).symm.trans h0_) (by decide), Q_R13, Q_AP7, fun h0_ _ _ => absurd ((hoff 4 (by kernel_rfl)).symm.trans h0_) (by decide), fun h0_ _ => absurd ((hoff 7 (by kernel_rfl)).symm.trans h0_) (by decide), fun h0_ => absurd ((hoff 11 (by kernel_rfl)).symm.trans h0_) (by decide), Q_X6_, fun h0_ => absurd ((hoff 12 (by kernel_rfl)).symm.trans h0_) (by decide)⟩
    refine steps_cons ?_ ?_
    · rintro b a w' ⟨v7, v11, A13, n13, c13, v14, v18, m6_, m12_, ha, Q_HBw, Q_R7, Q_R11, Q_R13, Q_AP7, Q_AP11, Q_R14, Q_R18, Q_X6_, Q_X12_⟩ hb_ hon hoff
      refine ⟨_, rfl, fun K hK => ?_⟩
      have e7 : a.tmps[7]? = some (v7) := by rw [ha]; exact putSel_on (e := (0, 7, v7)) 0 rfl rfl (hon 0 (by kernel_rfl)) rfl
      have e10 : a.tmps[10]? = some (.slice A0 i c0) := by rw [ha]; exact putSel_on (e := (3, 10, .slice A0 i c0)) 3 rfl rfl (hon 3 (by kernel_rfl)) rfl
      replace ha := Aside0.mk ha
      have HBw := Aside0.mk Q_HBw
      have R7 := Aside0.mk (Q_R7 (hon 0 (by kernel_rfl)) hb_)
      refine Kd.R_append_rows_step (Kd.int .i64) (w0 := w) w.heap.size (by rfl) (.tmp 7) (.tmp 10) 22 3 (.int .i64 0) 8 rfl Try.underlying22 info_int rfl (by decide) (by omega) v7 ([]) (l.take i) A0 i c0 (fun _ => True) (fun _ => False) (eval_of e7) (eval_of e10) R7.out.any (Kd.C_below HC2.out HBw.out) (fun _ _ h => h) (fun _ h => h.elim) (fun _ _ => trivial) HBw.out HBw.out.size (by have := HLd.out; simp only [List.length_nil]; omega) ?_
      intro v1 w1 ho hb hg hat
      refine hK.out _ _ ⟨v7, v1, A13, n13, c13, v14, v18, m6_, m12_, (by rw [ha.out]; exact putSel_upk 4 hb_ rfl rfl rfl), hb, fun _ h1_ => absurd ((up_self b 4).symm.trans h1_) (by decide), fun _ _ => Tg.of (d := Kd.int .i64) rfl ho, fun h0_ h1_ => (Q_R13 h0_ h1_).grown hg (Q_AP7 (hon 0 (by kernel_rfl)) h0_ hb_).symm, fun _ _ h2_ => absurd ((up_self b 4).symm.trans h2_) (by decide), fun _ h1_ _ => ((Q_R13 h1_ (hoff 7 (by kernel_rfl))).ap_step (Q_AP7 (hon 0 (by kernel_rfl)) h1_ hb_).symm hat).symm, fun h0_ _ => absurd ((hoff 7 (by kernel_rfl)).symm.trans h0_) (by decide), fun h0_ => absurd ((hoff 11 (by kernel_rfl)).symm.trans h0_) (by decide), Q_X6_, fun h0_ => absurd ((hoff 12 (by kernel_rfl)).symm.trans h0_) (by decide)⟩
    refine steps_cons ?_ ?_
    · rintro b a w' ⟨v7, v11, A13, n13, c13, v14, v18, m6_, m12_, ha, Q_HBw, Q_R7, Q_R11, Q_R13, Q_AP7, Q_AP11, Q_R14, Q_R18, Q_X6_, Q_X12_⟩ hb_ hon hoff
      refine ⟨_, rfl, fun K hK => ?_⟩
      have e2 : a.tmps[2]? = some (.int .i64 x) := by rw [ha]; exact (putSel_off rfl).trans rfl
      replace ha := Aside0.mk ha
      have HBw := Aside0.mk Q_HBw
      refine value_ (w1 := w') (v := .int .i64 x) (by rfl) rfl ?_ ?_
      · go_simp
        (try simp only [i64_w])
        try first | rfl | assumption
      refine hK.out _ _ ⟨v7, v11, A13, n13, c13, v14, v18, m6_, m12_, (by rw [ha.out]; exact putSel_upk 5 hb_ rfl rfl rfl), Q_HBw, Q_R7, Q_R11, fun h0_ _ => absurd ((hoff 6 (by kernel_rfl)).symm.trans h0_) (by decide), fun _ h1_ _ => absurd ((hoff 6 (by kernel_rfl)).symm.trans h1_) (by decide), fun _ h1_ _ => absurd ((hoff 6 (by kernel_rfl)).symm.trans h1_) (by decide), fun h0_ _ => absurd ((hoff 7 (by kernel_rfl)).symm.trans h0_) (by decide), fun h0_ => absurd ((hoff 11 (by kernel_rfl)).symm.trans h0_) (by decide), fun h0_ => absurd ((hoff 6 (by kernel_rfl)).symm.trans h0_) (by decide), fun h0_ => absurd ((hoff 12 (by kernel_rfl)).symm.trans h0_) (by decide)⟩
    refine steps_cons ?_ ?_
    · rintro b a w' ⟨v7, v11, A13, n13, c13, v14, v18, m6_, m12_, ha, Q_HBw, Q_R7, Q_R11, Q_R13, Q_AP7, Q_AP11, Q_R14, Q_R18, Q_X6_, Q_X12_⟩ hb_ hon hoff
      refine ⟨_, rfl, fun K hK => ?_⟩
      have e12 : a.tmps[12]? = some (.int .i64 x) := by rw [ha]; exact putSel_on (e := (5, 12, .int .i64 x)) 5 rfl rfl (hon 5 (by kernel_rfl)) rfl
      replace ha := Aside0.mk ha
      have HBw := Aside0.mk Q_HBw
      refine Kd.R_lit_step (Kd.int .i64) (w0 := w) (xs := [x]) (inner := [.int .i64 x]) (ok := fun _ => True) (okp := fun _ => False) w.heap.size 3 (by rfl) rfl ?_ (Reps.one rfl ⟨rfl, fun j p h => by simp at h⟩) (fun _ h => h.elim) trivial HBw.out HBw.out.size (by simp) ?_
      · go_simp
      intro v1 w1 ho hb hg hat
      obtain ⟨A9, n9, c9, rfl, hn9, hc9⟩ := row_slice ho
      refine hK.out _ _ ⟨v7, v11, A9, n9, c9, v14, v18, (.slice A9 n9 c9), m12_, (by rw [ha.out]; exact putSel_upk 6 hb_ rfl rfl rfl), hb, fun h0_ h1_ => (Q_R7 h0_ h1_).grown_none hg, fun h0_ h1_ => (Q_R11 h0_ h1_).grown_none hg, fun _ _ => Tg.of (d := Kd.int .i64) rfl ho, fun h0_ _ h2_ => (Q_R7 h0_ h2_).ap_right hat, fun h0_ _ h2_ => (Q_R11 h0_ h2_).ap_right hat, fun h0_ _ => absurd ((hoff 7 (by kernel_rfl)).symm.trans h0_) (by decide), fun h0_ => absurd ((hoff 11 (by kernel_rfl)).symm.trans h0_) (by decide), fun _ => rfl, fun h0_ => absurd ((hoff 12 (by kernel_rfl)).symm.trans h0_) (by decide)⟩
    refine steps_cons ?_ ?_
    · rintro b a w' ⟨v7, v11, A13, n13, c13, v14, v18, m6_, m12_, ha, Q_HBw, Q_R7, Q_R11, Q_R13, Q_AP7, Q_AP11, Q_R14, Q_R18, Q_X6_, Q_X12_⟩ hb_ hon hoff
      refine ⟨_, rfl, fun K hK => ?_⟩
      have e11 : a.tmps[11]? = some (v11) := by rw [ha]; exact putSel_on (e := (4, 11, v11)) 4 rfl rfl (hon 4 (by kernel_rfl)) rfl
      have e13 : a.tmps[13]? = some (m6_) := by rw [ha]; exact putSel_on (e := (6, 13, m6_)) 6 rfl rfl (hon 6 (by kernel_rfl)) rfl
      rw [Q_X6_ (hon 6 (by kernel_rfl))] at e13
      replace ha := Aside0.mk ha
      have HBw := Aside0.mk Q_HBw
      have R11 := Aside0.mk (Q_R11 (hon 4 (by kernel_rfl)) hb_)
      have R13 := Aside0.mk (Q_R13 (hon 6 (by kernel_rfl)) hb_)
      have AP11 := Aside0.mk (Q_AP11 (hon 4 (by kernel_rfl)) (hon 6 (by kernel_rfl)) hb_)
      refine Kd.R_append_rows_step (Kd.int .i64) (w0 := w) w.heap.size (by rfl) (.tmp 11) (.tmp 13) 22 3 (.int .i64 0) 8 rfl Try.underlying22 info_int rfl (by decide) (by omega) v11 (l.take i) [x] A13 n13 c13 (fun _ => True) (fun _ => False) (eval_of e11) (eval_of e13) R11.out.any (tg_C R13.out).2.2 (fun _ _ h => h) (fun _ h => h.elim) (fun _ _ => trivial) HBw.out HBw.out.size (by have := HLd.out; have := (tg_C R13.out).1; rw [List.length_take]; simp at this; omega) ?_
      intro v1 w1 ho hb hg hat
      refine hK.out _ _ ⟨v7, v11, A13, n13, c13, v1, v18, m6_, m12_, (by rw [ha.out]; exact putSel_upk 7 hb_ rfl rfl rfl), hb, fun _ h1_ => absurd ((hon 4 (by kernel_rfl)).symm.trans h1_) (by decide), fun _ h1_ => absurd ((up_self b 7).symm.trans h1_) (by decide), fun _ h1_ => absurd ((up_self b 7).symm.trans h1_) (by decide), fun _ _ h2_ => absurd ((hon 4 (by kernel_rfl)).symm.trans h2_) (by decide), fun _ _ h2_ => absurd ((up_self b 7).symm.trans h2_) (by decide), fun _ _ => Tg.of (d := Kd.int .i64) rfl ho, fun h0_ => absurd ((hoff 11 (by kernel_rfl)).symm.trans h0_) (by decide), Q_X6_, fun h0_ => absurd ((hoff 12 (by kernel_rfl)).symm.trans h0_) (by decide)⟩
    refine steps_cons ?_ ?_
    · rintro b a w' ⟨v7, v11, A13, n13, c13, v14, v18, m6_, m12_, ha, Q_HBw, Q_R7, Q_R11, Q_R13, Q_AP7, Q_AP11, Q_R14, Q_R18, Q_X6_, Q_X12_⟩ hb_ hon hoff
      refine ⟨_, rfl, fun K hK => ?_⟩
      have e0 : a.tmps[0]? = some (.slice A0 n c0) := by rw [ha]; exact (putSel_off rfl).trans rfl
      replace ha := Aside0.mk ha
      have HBw := Aside0.mk Q_HBw
      refine value_ (w1 := w') (v := .slice A0 n c0) (by rfl) rfl ?_ ?_
      · go_simp
        (try simp only [i64_w])
        try first | rfl | assumption
      refine hK.out _ _ ⟨v7, v11, A13, n13, c13, v14, v18, m6_, m12_, (by rw [ha.out]; exact putSel_upk 8 hb_ rfl rfl rfl), Q_HBw, Q_R7, Q_R11, Q_R13, Q_AP7, Q_AP11, Q_R14, fun h0_ => absurd ((hoff 11 (by kernel_rfl)).symm.trans h0_) (by decide), Q_X6_, fun h0_ => absurd ((hoff 12 (by kernel_rfl)).symm.trans h0_) (by decide)⟩
    refine steps_cons ?_ ?_
    · rintro b a w' ⟨v7, v11, A13, n13, c13, v14, v18, m6_, m12_, ha, Q_HBw, Q_R7, Q_R11, Q_R13, Q_AP7, Q_AP11, Q_R14, Q_R18, Q_X6_, Q_X12_⟩ hb_ hon hoff
      refine ⟨_, rfl, fun K hK => ?_⟩
      have e1 : a.tmps[1]? = some (.int .i64 (i : Int)) := by rw [ha]; exact (putSel_off rfl).trans rfl
      replace ha := Aside0.mk ha
      have HBw := Aside0.mk Q_HBw
      refine value_ (w1 := w') (v := .int .i64 (i : Int)) (by rfl) rfl ?_ ?_
      · go_simp
        (try simp only [i64_w])
        try first | rfl | assumption
      refine hK.out _ _ ⟨v7, v11, A13, n13, c13, v14, v18, m6_, m12_, (by rw [ha.out]; exact putSel_upk 9 hb_ rfl rfl rfl), Q_HBw, Q_R7, Q_R11, Q_R13, Q_AP7, Q_AP11, Q_R14, fun h0_ => absurd ((hoff 11 (by kernel_rfl)).symm.trans h0_) (by decide), Q_X6_, fun h0_ => absurd ((hoff 12 (by kernel_rfl)).symm.trans h0_) (by decide)⟩
    refine steps_cons ?_ ?_
    · rintro b a w' ⟨v7, v11, A13, n13, c13, v14, v18, m6_, m12_, ha, Q_HBw, Q_R7, Q_R11, Q_R13, Q_AP7, Q_AP11, Q_R14, Q_R18, Q_X6_, Q_X12_⟩ hb_ hon hoff
      refine ⟨_, rfl, fun K hK => ?_⟩
      have e15 : a.tmps[15]? = some (.slice A0 n c0) := by rw [ha]; exact putSel_on (e := (8, 15, .slice A0 n c0)) 8 rfl rfl (hon 8 (by kernel_rfl)) rfl
      have e16 : a.tmps[16]? = some (.int .i64 (i : Int)) := by rw [ha]; exact putSel_on (e := (9, 16, .int .i64 (i : Int))) 9 rfl rfl (hon 9 (by kernel_rfl)) rfl
      replace ha := Aside0.mk ha
      have HBw := Aside0.mk Q_HBw
      refine value_ (w1 := w') (v := .slice A1 n1 c1) (by rfl) rfl ?_ ?_
      · go_simp
        (try simp only [i64_w])
        try first | rfl | assumption
      refine hK.out _ _ ⟨v7, v11, A13, n13, c13, v14, v18, m6_, m12_, (by rw [ha.out]; exact putSel_upk 10 hb_ rfl rfl rfl), Q_HBw, Q_R7, Q_R11, Q_R13, Q_AP7, Q_AP11, Q_R14, fun h0_ => absurd ((hoff 11 (by kernel_rfl)).symm.trans h0_) (by decide), Q_X6_, fun h0_ => absurd ((hoff 12 (by kernel_rfl)).symm.trans h0_) (by decide)⟩
    refine steps_cons ?_ ?_
    · rintro b a w' ⟨v7, v11, A13, n13, c13, v14, v18, m6_, m12_, ha, Q_HBw, Q_R7, Q_R11, Q_R13, Q_AP7, Q_AP11, Q_R14, Q_R18, Q_X6_, Q_X12_⟩ hb_ hon hoff
      refine ⟨_, rfl, fun K hK => ?_⟩
      have e14 : a.tmps[14]? = some (v14) := by rw [ha]; exact putSel_on (e := (7, 14, v14)) 7 rfl rfl (hon 7 (by kernel_rfl)) rfl
      have e17 : a.tmps[17]? = some (.slice A1 n1 c1) := by rw [ha]; exact putSel_on (e := (10, 17, .slice A1 n1 c1)) 10 rfl rfl (hon 10 (by kernel_rfl)) rfl
      replace ha := Aside0.mk ha
      have HBw := Aside0.mk Q_HBw
      have R14 := Aside0.mk (Q_R14 (hon 7 (by kernel_rfl)) hb_)
      refine Kd.R_append_rows_step (Kd.int .i64) (w0 := w) w.heap.size (by rfl) (.tmp 14) (.tmp 17) 22 3 (.int .i64 0) 8 rfl Try.underlying22 info_int rfl (by decide) (by omega) v14 (l.take i ++ [x]) (l.drop i) A1 n1 c1 (fun _ => True) (fun _ => False) (eval_of e14) (eval_of e17) R14.out.any (Kd.C_below HC1.out HBw.out) (fun _ _ h => h) (fun _ h => h.elim) (fun _ _ => trivial) HBw.out HBw.out.size (by have := HLd.out; have := Hn1.out; rw [List.length_append, List.length_take, List.length_singleton]; omega) ?_
      intro v1 w1 ho hb hg hat
      refine hK.out _ _ ⟨v7, v11, A13, n13, c13, v14, v1, m6_, m12_, (by rw [ha.out]; exact putSel_upk 11 hb_ rfl rfl rfl), hb, fun _ h1_ => absurd ((hon 4 (by kernel_rfl)).symm.trans h1_) (by decide), fun _ h1_ => absurd ((hon 7 (by kernel_rfl)).symm.trans h1_) (by decide), fun _ h1_ => absurd ((hon 7 (by kernel_rfl)).symm.trans h1_) (by decide), fun _ _ h2_ => absurd ((hon 4 (by kernel_rfl)).symm.trans h2_) (by decide), fun _ _ h2_ => absurd ((hon 7 (by kernel_rfl)).symm.trans h2_) (by decide), fun _ h1_ => absurd ((up_self b 11).symm.trans h1_) (by decide), fun _ => Tg.of (d := Kd.int .i64) rfl ho, Q_X6_, fun h0_ => absurd ((hoff 12 (by kernel_rfl)).symm.trans h0_) (by decide)⟩
    refine steps_cons ?_ ?_
    · rintro b a w' ⟨v7, v11, A13, n13, c13, v14, v18, m6_, m12_, ha, Q_HBw, Q_R7, Q_R11, Q_R13, Q_AP7, Q_AP11, Q_R14, Q_R18, Q_X6_, Q_X12_⟩ hb_ hon hoff
      refine ⟨_, rfl, fun K hK => ?_⟩
      have e18 : a.tmps[18]? = some (v18) := by rw [ha]; exact putSel_on (e := (11, 18, v18)) 11 rfl rfl (hon 11 (by kernel_rfl)) rfl
      replace ha := Aside0.mk ha
      have HBw := Aside0.mk Q_HBw
      have R18 := Aside0.mk (Q_R18 (hon 11 (by kernel_rfl)))
      refine value_ (w1 := w') (v := v18) (by rfl) rfl ?_ ?_
      · go_simp
        (try simp only [i64_w])
        try first | rfl | assumption
      refine hK.out _ _ ⟨v7, v11, A13, n13, c13, v14, v18, m6_, (v18), (by rw [ha.out]; exact putSel_upk 12 hb_ rfl rfl rfl), Q_HBw, fun _ h1_ => absurd ((hon 4 (by kernel_rfl)).symm.trans h1_) (by decide), fun _ h1_ => absurd ((hon 7 (by kernel_rfl)).symm.trans h1_) (by decide), fun _ h1_ => absurd ((hon 7 (by kernel_rfl)).symm.trans h1_) (by decide), fun _ _ h2_ => absurd ((hon 4 (by kernel_rfl)).symm.trans h2_) (by decide), fun _ _ h2_ => absurd ((hon 7 (by kernel_rfl)).symm.trans h2_) (by decide), fun _ h1_ => absurd ((hon 11 (by kernel_rfl)).symm.trans h1_) (by decide), Q_R18, Q_X6_, fun _ => rfl⟩
    exact steps_nil
  rintro b a w4 hall ⟨v7, v11, A13, n13, c13, v14, v18, m6_, m12_, ha, Q_HBw, Q_R7, Q_R11, Q_R13, Q_AP7, Q_AP11, Q_R14, Q_R18, Q_X6_, Q_X12_⟩
  clear HBw
  have hb0_ := hall 0 (by kernel_rfl)
  have hb1_ := hall 1 (by kernel_rfl)
  have hb2_ := hall 2 (by kernel_rfl)
  have hb3_ := hall 3 (by kernel_rfl)
  have hb4_ := hall 4 (by kernel_rfl)
  have hb5_ := hall 5 (by kernel_rfl)
  have hb6_ := hall 6 (by kernel_rfl)
  have hb7_ := hall 7 (by kernel_rfl)
  have hb8_ := hall 8 (by kernel_rfl)
  have hb9_ := hall 9 (by kernel_rfl)
  have hb10_ := hall 10 (by kernel_rfl)
  have hb11_ := hall 11 (by kernel_rfl)
  have hb12_ := hall 12 (by kernel_rfl)
  subst ha
  obtain rfl := Q_X6_ hb6_
  obtain rfl := Q_X12_ hb12_
  simp only [putSel, hb0_, hb1_, hb2_, hb3_, hb4_, hb5_, hb6_, hb7_, hb8_, hb9_, hb10_, hb11_, hb12_, if_true, Act.put, List.setIfInBounds_toArray, List.set_cons_zero, List.set_cons_succ]
  have HBw := Aside0.mk Q_HBw
  clear Q_HBw
  clear Q_R7
  clear Q_R11
  clear Q_R13
  clear Q_AP7
  clear Q_AP11
  clear Q_R14
  have R18 := Aside0.mk (Q_R18 hb11_)
  clear Q_R18
  clear hall hb0_ hb1_ hb2_ hb3_ hb4_ hb5_ hb6_ hb7_ hb8_ hb9_ hb10_ hb11_ hb12_
  go_wp2_with fail
  go_ret
  refine ⟨_, rfl, ?_, HBw.out⟩
  have h := Kd.own_of_R R18.out.any
  rw [show l.take i ++ [x] ++ l.drop i = ins l i x by simp [ins], Hlen.out] at h
  exact h
end Go.Proofs.Ytehlegjccghalaa.TbJ
