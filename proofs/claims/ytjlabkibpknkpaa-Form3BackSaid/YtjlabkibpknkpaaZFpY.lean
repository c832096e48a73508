-- Written by a program of this claim's session (wip/tool/prune.py): what is used of a longer text. Not trusted: Lean checks it.
import Derived.Test.YtjlabkibpknkpaaZFpX
import Derived.Test.YtjlabkibpknkpaaZFsP
namespace Go.Proofs.Ytjlabkibpknkpaa.FpY
open Go.RowKit Go.Proofs.YtjlabkibpknkpaaW.PrintWords Go.Proofs.YtjlabkibpknkpaaW.PrintLast Go.Proofs.YtjlabkibpknkpaaW.PrintMore Go.Proofs.Ytjlabkibpknkpaa.FmM Go.Proofs.Ytjlabkibpknkpaa.PkP Go.Proofs.Ytjlabkibpknkpaa.FmN Go.Proofs.Ytjlabkibpknkpaa.FmC Go.Proofs.Ytjlabkibpknkpaa.FmH Go.Proofs.Ytjlabkibpknkpaa.FmY Go.Proofs.Ytjlabkibpknkpaa.FmA Go.Proofs.Ytjlabkibpknkpaa.FmL Go.Proofs.Ytjlabkibpknkpaa.FpP Go.Proofs.Ytjlabkibpknkpaa.FpQ Go.Proofs.Ytjlabkibpknkpaa.FpS Go.Proofs.Ytjlabkibpknkpaa.FpU Go.Proofs.Ytjlabkibpknkpaa.FpV Go.Proofs.Ytjlabkibpknkpaa.FpX Go.Proofs.Ytjlabkibpknkpaa.FsP
set_option linter.unusedVariables false
set_option linter.unusedSimpArgs false
theorem boxE_inj {a b : BoxV} (ha : FpQ.May a) (hb : FpQ.May b) (h : boxE a = boxE b) : a = b := by
  have h1 := fBox_enc ha []
  have h2 := fBox_enc hb []
  rw [h, h2] at h1
  exact (congrArg Prod.fst h1).symm
theorem nums_inj {a b : List Int} (ha : FpP.Bytes a) (hb : FpP.Bytes b) (h : strOfNums a = strOfNums b) : a = b := by
  have h1 := nums_bytes a ha
  rw [h, nums_bytes b hb] at h1
  exact h1.symm
open Classical in
theorem str_same {a b : BoxV} (ha : FpQ.May a) (hb : FpQ.May b) : ((strOfNums ([77, 66, 51] ++ boxE a)).toList == (strOfNums ([77, 66, 51] ++ boxE b)).toList) = sameB a.f0 b.f0 a.f1 a.f2 a.f3 b.f1 b.f2 b.f3 a.f4 b.f4 a.f5 b.f5 := by
  rw [Bool.eq_iff_iff, beq_iff_eq, toList_inj]
  unfold sameB
  rw [decide_eq_true_iff]
  constructor
  · intro h
    have h1 := nums_inj (all_bytes a) (all_bytes b) h
    have h2 := boxE_inj ha hb (List.append_cancel_left h1)
    subst h2
    exact ⟨rfl, rfl, rfl, rfl, rfl, rfl⟩
  · rintro ⟨h0, h1, h2, h3, h4, h5⟩
    cases a; cases b
    simp only at h0 h1 h2 h3 h4 h5
    subst h0 h1 h2 h3 h4 h5
    rfl
def t_mailsacklaw10_Form3Back.T1 : Bool × List (List Nat × List Nat) := (true, [([], []), ([0], [0]), ([], []), ([2, 1], [2]), ([1, 3], [1, 3]), ([4], [4]), ([5, 3], [5]), ([6], [6]), ([7, 6, 6], [6, 7]), ([8, 6], [6, 8]), ([6, 9], [6, 9]), ([10, 8], [10]), ([11], [11]), ([12, 11, 11], [11, 12]), ([13, 11], [11, 13]), ([11, 14], [11, 14])])
def t_mailsacklaw10_Form3Back.B1 : List Nat := [0, 1, 0, 7, 15, 31, 63, 127, 255, 511, 1023, 2047, 4095, 8191, 16383, 32767]
theorem t_mailsacklaw10_Form3Back.tab1 : rtab .any (opsOf Try.f4 1) = t_mailsacklaw10_Form3Back.T1 := by kernel_rfl
theorem t_mailsacklaw10_Form3Back.bits1 : waitsOk t_mailsacklaw10_Form3Back.T1.2 t_mailsacklaw10_Form3Back.B1 = true := by kernel_rfl
def t_mailsacklaw10_Form3Back.T6 : Bool × List (List Nat × List Nat) := (true, [([], []), ([0], [0]), ([1], [1]), ([2], [2]), ([3, 2], [2, 3]), ([2, 4], [2, 4]), ([5, 2], [5]), ([6], [6]), ([7, 6], [6, 7]), ([6, 8], [6, 8]), ([9, 6], [9]), ([10], [10]), ([10], [10]), ([11, 12, 10, 10], [10, 11, 12]), ([10, 13], [10, 13]), ([14, 13], [14]), ([15], [15]), ([16, 15], [15, 16]), ([15], [15]), ([18, 15], [15, 18]), ([17, 19, 15], [15, 17, 19]), ([15], [15]), ([15], [15]), ([21, 22, 15, 15], [15, 21, 22]), ([20, 23, 15], [15, 20, 23]), ([15, 24], [15, 24]), ([25, 23], [25]), ([26, 26], [26]), ([26, 27], [26, 27]), ([28, 27, 0, 1, 2, 3, 4, 5, 6, 7, 8, 9, 10, 11, 12, 13, 14, 15, 16, 17, 18, 19, 20, 21, 22, 23, 24, 25, 26, 27, 28], [28])])
def t_mailsacklaw10_Form3Back.B6 : List Nat := [0, 1, 3, 7, 15, 31, 63, 127, 255, 511, 1023, 2047, 2047, 8191, 16383, 32767, 65535, 131071, 65535, 327679, 1048575, 65535, 65535, 6356991, 16777215, 33554431, 67108863, 134217727, 268435455, 536870911]
theorem t_mailsacklaw10_Form3Back.tab6 : rtab .any (opsOf Try.f4 6) = t_mailsacklaw10_Form3Back.T6 := by kernel_rfl
theorem t_mailsacklaw10_Form3Back.bits6 : waitsOk t_mailsacklaw10_Form3Back.T6.2 t_mailsacklaw10_Form3Back.B6 = true := by kernel_rfl
set_option maxRecDepth 100000 in
set_option maxHeartbeats 4000000 in
theorem heavy_case (a0 : ByteArray) (a1 a2 a3 : Int) (aA4 : Option Addr) (ac4 : Nat) (aw : List ByteArray) (aA5 : Option Addr) (ac5 : Nat) (am : List S35) (b0 : ByteArray) (b1 b2 b3 : Int) (bA4 : Option Addr) (bc4 : Nat) (bw : List ByteArray) (bA5 : Option Addr) (bc5 : Nat) (bm : List S35) (w : World) (hC4a : Kd.C Kd.string w aA4 aw.length aw) (hc4a : aw.length ≤ ac4) (hC5a : Kd.C k35 w aA5 am.length am) (hc5a : am.length ≤ ac5) (h0a : a0.size ≤ 140737488355328) (hsa : ∀ s ∈ aw, s.size ≤ 140737488355328) (hwa : ∀ m ∈ am, wt m ≤ 422212465065984) (hl4a : aw.length ≤ 140737488355328) (hl5a : am.length ≤ 140737488355328) (hC4b : Kd.C Kd.string w bA4 bw.length bw) (hc4b : bw.length ≤ bc4) (hC5b : Kd.C k35 w bA5 bm.length bm) (hc5b : bm.length ≤ bc5) (h0b : b0.size ≤ 140737488355328) (hsb : ∀ s ∈ bw, s.size ≤ 140737488355328) (hwb : ∀ m ∈ bm, wt m ≤ 422212465065984) (hl4b : bw.length ≤ 140737488355328) (hl5b : bm.length ≤ 140737488355328) (hh : heavyR (bulk a0 aw am) aw.length am.length = 1 ∨ heavyR (bulk b0 bw bm) bw.length bm.length = 1) :
    Calls Try.prog 4 #[.agg #[.string a0, .int .i64 a1, .int .i64 a2, .int .i64 a3, .slice aA4 aw.length ac4, .slice aA5 am.length ac5], .agg #[.string b0, .int .i64 b1, .int .i64 b2, .int .i64 b3, .slice bA4 bw.length bc4, .slice bA5 bm.length bc5]] w fun e w' => e = .returned (.bool true) ∧ Below w.heap.size w w' := by
  have hu25 := Try.underlying25
  have hu35 := Try.underlying35
  obtain ⟨ka, hka⟩ := (heavy_ev a0 a1 a2 a3 aw am hl5a hl4a).get
  have HHa := Aside0.mk (fun W (hbl : Below w.heap.size w W) => mailsacklaw6_Heavy.calls ka a0 a1 a2 a3 aA4 ac4 aw aA5 ac5 am _ W (Kd.C_below hC4a hbl) hc4a (Kd.C_below hC5a hbl) hc5a hka)
  clear hka
  obtain ⟨kb, hkb⟩ := (heavy_ev b0 b1 b2 b3 bw bm hl5b hl4b).get
  have HHb := Aside0.mk (fun W (hbl : Below w.heap.size w W) => mailsacklaw6_Heavy.calls kb b0 b1 b2 b3 bA4 bc4 bw bA5 bc5 bm _ W (Kd.C_below hC4b hbl) hc4b (Kd.C_below hC5b hbl) hc5b hkb)
  clear hkb
  have hAw := Aside0.mk awake_calls
  have q1 := heavy_01 (bulk a0 aw am) aw.length am.length
  have q2 := heavy_01 (bulk b0 bw bm) bw.length bm.length
  generalize heavyR (bulk a0 aw am) aw.length am.length = h1 at *
  generalize heavyR (bulk b0 bw bm) bw.length bm.length = h2 at *
  have HGT : Aside0 (decide (0 < h1 + h2) = true) := ⟨decide_eq_true (by omega)⟩
  have HWW : Aside0 (wrap64 (h1 + h2) = h1 + h2) := ⟨w64s (by omega) (by omega)⟩
  have p1 : 0 ≤ h1 := by omega
  have p2 : h1 ≤ 1 := by omega
  have p3 : 0 ≤ h2 := by omega
  have p4 : h2 ≤ 1 := by omega
  clear hC4a hC5a h0a hsa hwa hl4a hl5a hc4a hc5a hC4b hC5b h0b hsb hwb hl4b hl5b hc4b hc5b q1 q2 hh
  go_enter Try.func4, Try.ntmps4
  go_upto_region 1 with (first
    | ((with_reducible refine gate_dst (N := 2) rfl ?_); refine box_event ?hg2 (N := 2) ?hd2 (cs := #[.string a0, .int .i64 a1, .int .i64 a2, .int .i64 a3, .slice aA4 aw.length ac4, .slice aA5 am.length ac5]) (t := 25) ?hr2 ?_; (case hd2 => rfl); (case hg2 => rfl); (case hr2 => first | (go_simp; done) | (go_simp; rfl)); intro g2 hg2 w1 hbx hb1; have GA1 := Aside0.mk hbx; have HB1 := Aside0.mk hb1; clear hg2 hbx hb1)
    | ((with_reducible refine gate_dst (N := 3) rfl ?_); refine box_event ?hg3 (N := 3) ?hd3 (cs := #[.string b0, .int .i64 b1, .int .i64 b2, .int .i64 b3, .slice bA4 bw.length bc4, .slice bA5 bm.length bc5]) (t := 25) ?hr3 ?_; (case hd3 => rfl); (case hg3 => rfl); (case hr3 => first | (go_simp; done) | (go_simp; rfl)); intro g3 hg3 w2 hbx hb1; have GB := Aside0.mk hbx; have GA := Aside0.mk (blk_below GA1.out hb1); have HB := Aside0.mk (HB1.out.trans (hb1.mono HB1.out.size)); clear hg3 hbx hb1))
  refine start_ (n := 16) (S := fun w' => True) (ds := []) #[false, false, false, false, false, false, false, false, false, false, false, false, false, false, false, false] (by kernel_rfl) rfl rfl trivial (fun hHeld => ?_)
  refine with_tabW t_mailsacklaw10_Form3Back.tab1 t_mailsacklaw10_Form3Back.bits1 (fun HT_ HW_ => ?_)
  have hd_ := (below_drew1 (Below.refl w2.heap.size w2))
  have n_HB := Aside0.mk (HB.out.drew)
  have n_GA := Aside0.mk ((show w2.drew.heap[g2]? = _ from GA.out))
  have n_GB := Aside0.mk ((show w2.drew.heap[g3]? = _ from GB.out))
  clear HB
  have HB := n_HB
  clear n_HB
  clear GA
  have GA := n_GA
  clear n_GA
  clear GB
  have GB := n_GB
  clear n_GB
  generalize w2.drew = w_d at *
  clear hd_
  refine inv_at [0, 1, 2, 3, 4, 5, 6, 7, 8, 9, 10, 11, 12, 13, 14, 15] (fun a0_ b a w' => a = putSel a0_ b [(0, 11, .agg #[.string a0, .int .i64 a1, .int .i64 a2, .int .i64 a3, .slice aA4 aw.length ac4, .slice aA5 am.length ac5]), (1, 12, .int .i64 h1), (2, 13, .agg #[.string b0, .int .i64 b1, .int .i64 b2, .int .i64 b3, .slice bA4 bw.length bc4, .slice bA5 bm.length bc5]), (3, 14, .int .i64 h2), (4, 15, .int .i64 (h1 + h2)), (5, 16, .bool true), (6, 17, .bool true), (7, 18, undef), (8, 19, undef), (9, 20, undef), (10, 21, .bool true), (11, 22, .bool true), (12, 23, undef), (13, 24, undef), (14, 25, undef), (15, 26, .bool true)] ∧ (Below w.heap.size w w') ∧ (w'.heap[g2]? = some (.cells #[.string a0, .int .i64 a1, .int .i64 a2, .int .i64 a3, .slice aA4 aw.length ac4, .slice aA5 am.length ac5] 25 (0, 0))) ∧ (w'.heap[g3]? = some (.cells #[.string b0, .int .i64 b1, .int .i64 b2, .int .i64 b3, .slice bA4 bw.length bc4, .slice bA5 bm.length bc5] 25 (0, 0)))) HT_.out HW_.out (by kernel_rfl) (by kernel_rfl) ?_ ?_ ?_
  · exact ⟨by simp only [putSel, Bool.false_eq_true, if_false], HB.out, GA.out, GB.out⟩
  · skip
    clear GA GB HB
    refine steps_cons ?_ ?_
    · rintro b a w' ⟨ha, Q_HB, Q_GA, Q_GB⟩ hb_ hon hoff
      refine ⟨_, rfl, fun K hK => ?_⟩
      have e2 : a.tmps[2]? = some (.pointer (some ⟨g2, 0, none⟩)) := by rw [ha]; exact (putSel_off rfl).trans rfl
      replace ha := Aside0.mk ha
      have HB := Aside0.mk Q_HB
      have GA := Aside0.mk Q_GA
      have GB := Aside0.mk Q_GB
      have hc0 := blk_cell GA.out 0; have hc1 := blk_cell GA.out 1; have hc2 := blk_cell GA.out 2; have hc3 := blk_cell GA.out 3; have hc4 := blk_cell GA.out 4; have hc5 := blk_cell GA.out 5
      refine value_ (w1 := w') (v := .agg #[.string a0, .int .i64 a1, .int .i64 a2, .int .i64 a3, .slice aA4 aw.length ac4, .slice aA5 am.length ac5]) (by rfl) rfl ?_ ?_
      · go_simp
        (try simp only [i64_w])
        try first | rfl | assumption
      refine hK.out _ _ ⟨(by rw [ha.out]; exact putSel_upk 0 hb_ rfl rfl rfl), Q_HB, Q_GA, Q_GB⟩
    refine steps_cons ?_ ?_
    · rintro b a w' ⟨ha, Q_HB, Q_GA, Q_GB⟩ hb_ hon hoff
      refine ⟨_, rfl, fun K hK => ?_⟩
      have e11 : a.tmps[11]? = some (.agg #[.string a0, .int .i64 a1, .int .i64 a2, .int .i64 a3, .slice aA4 aw.length ac4, .slice aA5 am.length ac5]) := by rw [ha]; exact putSel_on (e := (0, 11, .agg #[.string a0, .int .i64 a1, .int .i64 a2, .int .i64 a3, .slice aA4 aw.length ac4, .slice aA5 am.length ac5])) 0 rfl rfl (hon 0 (by kernel_rfl)) rfl
      replace ha := Aside0.mk ha
      have HB := Aside0.mk Q_HB
      have GA := Aside0.mk Q_GA
      have GB := Aside0.mk Q_GB
      refine goes_ Try.func7 (by kernel_rfl) rfl #[.agg #[.string a0, .int .i64 a1, .int .i64 a2, .int .i64 a3, .slice aA4 aw.length ac4, .slice aA5 am.length ac5]] (by rfl) rfl rfl (by first | (simp only [List.map_toArray, List.map_cons, List.map_nil, Act.eval, Array.getD_eq_getD_getElem?, Option.getD_some, e11]; done) | (simp only [List.map_toArray, List.map_cons, List.map_nil, Act.eval, Array.getD_eq_getD_getElem?, Option.getD_some, e11]; rfl)) ?_
      with_reducible refine (HHa.out w' HB.out).mono ?_
      rintro e wq ⟨rfl, hb⟩
      refine ⟨_, rfl, ?_⟩
      refine hK.out _ _ ⟨(by rw [ha.out]; exact putSel_upk 1 hb_ rfl rfl rfl), HB.out.trans (hb.mono HB.out.size), blk_below GA.out hb, blk_below GB.out hb⟩
    refine steps_cons ?_ ?_
    · rintro b a w' ⟨ha, Q_HB, Q_GA, Q_GB⟩ hb_ hon hoff
      refine ⟨_, rfl, fun K hK => ?_⟩
      have e3 : a.tmps[3]? = some (.pointer (some ⟨g3, 0, none⟩)) := by rw [ha]; exact (putSel_off rfl).trans rfl
      replace ha := Aside0.mk ha
      have HB := Aside0.mk Q_HB
      have GA := Aside0.mk Q_GA
      have GB := Aside0.mk Q_GB
      have hc0 := blk_cell GB.out 0; have hc1 := blk_cell GB.out 1; have hc2 := blk_cell GB.out 2; have hc3 := blk_cell GB.out 3; have hc4 := blk_cell GB.out 4; have hc5 := blk_cell GB.out 5
      refine value_ (w1 := w') (v := .agg #[.string b0, .int .i64 b1, .int .i64 b2, .int .i64 b3, .slice bA4 bw.length bc4, .slice bA5 bm.length bc5]) (by rfl) rfl ?_ ?_
      · go_simp
        (try simp only [i64_w])
        try first | rfl | assumption
      refine hK.out _ _ ⟨(by rw [ha.out]; exact putSel_upk 2 hb_ rfl rfl rfl), Q_HB, Q_GA, Q_GB⟩
    refine steps_cons ?_ ?_
    · rintro b a w' ⟨ha, Q_HB, Q_GA, Q_GB⟩ hb_ hon hoff
      refine ⟨_, rfl, fun K hK => ?_⟩
      have e13 : a.tmps[13]? = some (.agg #[.string b0, .int .i64 b1, .int .i64 b2, .int .i64 b3, .slice bA4 bw.length bc4, .slice bA5 bm.length bc5]) := by rw [ha]; exact putSel_on (e := (2, 13, .agg #[.string b0, .int .i64 b1, .int .i64 b2, .int .i64 b3, .slice bA4 bw.length bc4, .slice bA5 bm.length bc5])) 2 rfl rfl (hon 2 (by kernel_rfl)) rfl
      replace ha := Aside0.mk ha
      have HB := Aside0.mk Q_HB
      have GA := Aside0.mk Q_GA
      have GB := Aside0.mk Q_GB
      refine goes_ Try.func7 (by kernel_rfl) rfl #[.agg #[.string b0, .int .i64 b1, .int .i64 b2, .int .i64 b3, .slice bA4 bw.length bc4, .slice bA5 bm.length bc5]] (by rfl) rfl rfl (by first | (simp only [List.map_toArray, List.map_cons, List.map_nil, Act.eval, Array.getD_eq_getD_getElem?, Option.getD_some, e13]; done) | (simp only [List.map_toArray, List.map_cons, List.map_nil, Act.eval, Array.getD_eq_getD_getElem?, Option.getD_some, e13]; rfl)) ?_
      with_reducible refine (HHb.out w' HB.out).mono ?_
      rintro e wq ⟨rfl, hb⟩
      refine ⟨_, rfl, ?_⟩
      refine hK.out _ _ ⟨(by rw [ha.out]; exact putSel_upk 3 hb_ rfl rfl rfl), HB.out.trans (hb.mono HB.out.size), blk_below GA.out hb, blk_below GB.out hb⟩
    refine steps_cons ?_ ?_
    · rintro b a w' ⟨ha, Q_HB, Q_GA, Q_GB⟩ hb_ hon hoff
      refine ⟨_, rfl, fun K hK => ?_⟩
      have e12 : a.tmps[12]? = some (.int .i64 h1) := by rw [ha]; exact putSel_on (e := (1, 12, .int .i64 h1)) 1 rfl rfl (hon 1 (by kernel_rfl)) rfl
      have e14 : a.tmps[14]? = some (.int .i64 h2) := by rw [ha]; exact putSel_on (e := (3, 14, .int .i64 h2)) 3 rfl rfl (hon 3 (by kernel_rfl)) rfl
      replace ha := Aside0.mk ha
      have HB := Aside0.mk Q_HB
      have GA := Aside0.mk Q_GA
      have GB := Aside0.mk Q_GB
      have hww := HWW.out
      refine value_ (w1 := w') (v := .int .i64 (h1 + h2)) (by rfl) rfl ?_ ?_
      · go_simp
        (try simp only [i64_w])
        try first | rfl | assumption
      refine hK.out _ _ ⟨(by rw [ha.out]; exact putSel_upk 4 hb_ rfl rfl rfl), Q_HB, Q_GA, Q_GB⟩
    refine steps_cons ?_ ?_
    · rintro b a w' ⟨ha, Q_HB, Q_GA, Q_GB⟩ hb_ hon hoff
      refine ⟨_, rfl, fun K hK => ?_⟩
      have e15 : a.tmps[15]? = some (.int .i64 (h1 + h2)) := by rw [ha]; exact putSel_on (e := (4, 15, .int .i64 (h1 + h2))) 4 rfl rfl (hon 4 (by kernel_rfl)) rfl
      replace ha := Aside0.mk ha
      have HB := Aside0.mk Q_HB
      have GA := Aside0.mk Q_GA
      have GB := Aside0.mk Q_GB
      have hgt := HGT.out
      refine value_ (w1 := w') (v := .bool true) (by rfl) rfl ?_ ?_
      · go_simp
        (try simp only [i64_w])
        try first | rfl | assumption
      refine hK.out _ _ ⟨(by rw [ha.out]; exact putSel_upk 5 hb_ rfl rfl rfl), Q_HB, Q_GA, Q_GB⟩
    refine steps_cons ?_ ?_
    · rintro b a w' ⟨ha, Q_HB, Q_GA, Q_GB⟩ hb_ hon hoff
      refine ⟨_, rfl, fun K hK => ?_⟩
      have e16 : a.tmps[16]? = some (.bool true) := by rw [ha]; exact putSel_on (e := (5, 16, .bool true)) 5 rfl rfl (hon 5 (by kernel_rfl)) rfl
      replace ha := Aside0.mk ha
      have HB := Aside0.mk Q_HB
      have GA := Aside0.mk Q_GA
      have GB := Aside0.mk Q_GB
      refine value_ (w1 := w') (v := .bool true) (by rfl) rfl ?_ ?_
      · go_simp
        (try simp only [i64_w])
        try first | rfl | assumption
      refine hK.out _ _ ⟨(by rw [ha.out]; exact putSel_upk 6 hb_ rfl rfl rfl), Q_HB, Q_GA, Q_GB⟩
    refine steps_cons ?_ ?_
    · rintro b a w' ⟨ha, Q_HB, Q_GA, Q_GB⟩ hb_ hon hoff
      refine ⟨_, rfl, fun K hK => ?_⟩
      have e17 : a.tmps[17]? = some (.bool true) := by rw [ha]; exact putSel_on (e := (6, 17, .bool true)) 6 rfl rfl (hon 6 (by kernel_rfl)) rfl
      replace ha := Aside0.mk ha
      have HB := Aside0.mk Q_HB
      have GA := Aside0.mk Q_GA
      have GB := Aside0.mk Q_GB
      refine off_ (wanted_off rfl rfl rfl (e17.trans (by first | rfl | (simp [*]; done)))) ?_
      refine hK.out _ _ ⟨(by rw [ha.out]; exact putSel_upk 7 hb_ rfl rfl rfl), Q_HB, Q_GA, Q_GB⟩
    refine steps_cons ?_ ?_
    · rintro b a w' ⟨ha, Q_HB, Q_GA, Q_GB⟩ hb_ hon hoff
      refine ⟨_, rfl, fun K hK => ?_⟩
      have e17 : a.tmps[17]? = some (.bool true) := by rw [ha]; exact putSel_on (e := (6, 17, .bool true)) 6 rfl rfl (hon 6 (by kernel_rfl)) rfl
      replace ha := Aside0.mk ha
      have HB := Aside0.mk Q_HB
      have GA := Aside0.mk Q_GA
      have GB := Aside0.mk Q_GB
      refine off_ (wanted_off rfl rfl rfl (e17.trans (by first | rfl | (simp [*]; done)))) ?_
      refine hK.out _ _ ⟨(by rw [ha.out]; exact putSel_upk 8 hb_ rfl rfl rfl), Q_HB, Q_GA, Q_GB⟩
    refine steps_cons ?_ ?_
    · rintro b a w' ⟨ha, Q_HB, Q_GA, Q_GB⟩ hb_ hon hoff
      refine ⟨_, rfl, fun K hK => ?_⟩
      have e17 : a.tmps[17]? = some (.bool true) := by rw [ha]; exact putSel_on (e := (6, 17, .bool true)) 6 rfl rfl (hon 6 (by kernel_rfl)) rfl
      replace ha := Aside0.mk ha
      have HB := Aside0.mk Q_HB
      have GA := Aside0.mk Q_GA
      have GB := Aside0.mk Q_GB
      refine off_ (wanted_off rfl rfl rfl (e17.trans (by first | rfl | (simp [*]; done)))) ?_
      refine hK.out _ _ ⟨(by rw [ha.out]; exact putSel_upk 9 hb_ rfl rfl rfl), Q_HB, Q_GA, Q_GB⟩
    refine steps_cons ?_ ?_
    · rintro b a w' ⟨ha, Q_HB, Q_GA, Q_GB⟩ hb_ hon hoff
      refine ⟨_, rfl, fun K hK => ?_⟩
      have e17 : a.tmps[17]? = some (.bool true) := by rw [ha]; exact putSel_on (e := (6, 17, .bool true)) 6 rfl rfl (hon 6 (by kernel_rfl)) rfl
      have e20 : a.tmps[20]? = some (undef) := by rw [ha]; exact putSel_on (e := (9, 20, undef)) 9 rfl rfl (hon 9 (by kernel_rfl)) rfl
      replace ha := Aside0.mk ha
      have HB := Aside0.mk Q_HB
      have GA := Aside0.mk Q_GA
      have GB := Aside0.mk Q_GB
      refine value_ (w1 := w') (v := .bool true) (by rfl) rfl ?_ ?_
      · go_simp
        (try simp only [i64_w])
        try first | rfl | assumption
      refine hK.out _ _ ⟨(by rw [ha.out]; exact putSel_upk 10 hb_ rfl rfl rfl), Q_HB, Q_GA, Q_GB⟩
    refine steps_cons ?_ ?_
    · rintro b a w' ⟨ha, Q_HB, Q_GA, Q_GB⟩ hb_ hon hoff
      refine ⟨_, rfl, fun K hK => ?_⟩
      have e21 : a.tmps[21]? = some (.bool true) := by rw [ha]; exact putSel_on (e := (10, 21, .bool true)) 10 rfl rfl (hon 10 (by kernel_rfl)) rfl
      replace ha := Aside0.mk ha
      have HB := Aside0.mk Q_HB
      have GA := Aside0.mk Q_GA
      have GB := Aside0.mk Q_GB
      refine value_ (w1 := w') (v := .bool true) (by rfl) rfl ?_ ?_
      · go_simp
        (try simp only [i64_w])
        try first | rfl | assumption
      refine hK.out _ _ ⟨(by rw [ha.out]; exact putSel_upk 11 hb_ rfl rfl rfl), Q_HB, Q_GA, Q_GB⟩
    refine steps_cons ?_ ?_
    · rintro b a w' ⟨ha, Q_HB, Q_GA, Q_GB⟩ hb_ hon hoff
      refine ⟨_, rfl, fun K hK => ?_⟩
      have e22 : a.tmps[22]? = some (.bool true) := by rw [ha]; exact putSel_on (e := (11, 22, .bool true)) 11 rfl rfl (hon 11 (by kernel_rfl)) rfl
      replace ha := Aside0.mk ha
      have HB := Aside0.mk Q_HB
      have GA := Aside0.mk Q_GA
      have GB := Aside0.mk Q_GB
      refine off_ (wanted_off rfl rfl rfl (e22.trans (by first | rfl | (simp [*]; done)))) ?_
      refine hK.out _ _ ⟨(by rw [ha.out]; exact putSel_upk 12 hb_ rfl rfl rfl), Q_HB, Q_GA, Q_GB⟩
    refine steps_cons ?_ ?_
    · rintro b a w' ⟨ha, Q_HB, Q_GA, Q_GB⟩ hb_ hon hoff
      refine ⟨_, rfl, fun K hK => ?_⟩
      have e22 : a.tmps[22]? = some (.bool true) := by rw [ha]; exact putSel_on (e := (11, 22, .bool true)) 11 rfl rfl (hon 11 (by kernel_rfl)) rfl
      replace ha := Aside0.mk ha
      have HB := Aside0.mk Q_HB
      have GA := Aside0.mk Q_GA
      have GB := Aside0.mk Q_GB
      refine off_ (wanted_off rfl rfl rfl (e22.trans (by first | rfl | (simp [*]; done)))) ?_
      refine hK.out _ _ ⟨(by rw [ha.out]; exact putSel_upk 13 hb_ rfl rfl rfl), Q_HB, Q_GA, Q_GB⟩
    refine steps_cons ?_ ?_
    · rintro b a w' ⟨ha, Q_HB, Q_GA, Q_GB⟩ hb_ hon hoff
      refine ⟨_, rfl, fun K hK => ?_⟩
      have e22 : a.tmps[22]? = some (.bool true) := by rw [ha]; exact putSel_on (e := (11, 22, .bool true)) 11 rfl rfl (hon 11 (by kernel_rfl)) rfl
      replace ha := Aside0.mk ha
      have HB := Aside0.mk Q_HB
      have GA := Aside0.mk Q_GA
      have GB := Aside0.mk Q_GB
      refine off_ (wanted_off rfl rfl rfl (e22.trans (by first | rfl | (simp [*]; done)))) ?_
      refine hK.out _ _ ⟨(by rw [ha.out]; exact putSel_upk 14 hb_ rfl rfl rfl), Q_HB, Q_GA, Q_GB⟩
    refine steps_cons ?_ ?_
    · rintro b a w' ⟨ha, Q_HB, Q_GA, Q_GB⟩ hb_ hon hoff
      refine ⟨_, rfl, fun K hK => ?_⟩
      have e22 : a.tmps[22]? = some (.bool true) := by rw [ha]; exact putSel_on (e := (11, 22, .bool true)) 11 rfl rfl (hon 11 (by kernel_rfl)) rfl
      have e25 : a.tmps[25]? = some (undef) := by rw [ha]; exact putSel_on (e := (14, 25, undef)) 14 rfl rfl (hon 14 (by kernel_rfl)) rfl
      replace ha := Aside0.mk ha
      have HB := Aside0.mk Q_HB
      have GA := Aside0.mk Q_GA
      have GB := Aside0.mk Q_GB
      refine value_ (w1 := w') (v := .bool true) (by rfl) rfl ?_ ?_
      · go_simp
        (try simp only [i64_w])
        try first | rfl | assumption
      refine hK.out _ _ ⟨(by rw [ha.out]; exact putSel_upk 15 hb_ rfl rfl rfl), Q_HB, Q_GA, Q_GB⟩
    exact steps_nil
  rintro b a w3 hall ⟨ha, Q_HB, Q_GA, Q_GB⟩
  clear GA GB HB
  have hb0_ := hall 0 (by kernel_rfl)
  have hb1_ := hall 1 (by kernel_rfl)
  have hb2_ := hall 2 (by kernel_rfl)
  have hb3_ := hall 3 (by kernel_rfl)
  have hb4_ := hall 4 (by kernel_rfl)
  have hb5_ := hall 5 (by kernel_rfl)
  have hb6_ := hall 6 (by kernel_rfl)
  have hb7_ := hall 7 (by kernel_rfl)
  have hb8_ := hall 8 (by kernel_rfl)
  have hb9_ := hall 9 (by kernel_rfl)
  have hb10_ := hall 10 (by kernel_rfl)
  have hb11_ := hall 11 (by kernel_rfl)
  have hb12_ := hall 12 (by kernel_rfl)
  have hb13_ := hall 13 (by kernel_rfl)
  have hb14_ := hall 14 (by kernel_rfl)
  have hb15_ := hall 15 (by kernel_rfl)
  subst ha
  simp only [putSel, hb0_, hb1_, hb2_, hb3_, hb4_, hb5_, hb6_, hb7_, hb8_, hb9_, hb10_, hb11_, hb12_, hb13_, hb14_, hb15_, if_true, Act.put, List.setIfInBounds_toArray, List.set_cons_zero, List.set_cons_succ]
  have HB := Aside0.mk Q_HB
  clear Q_HB
  have GA := Aside0.mk Q_GA
  clear Q_GA
  have GB := Aside0.mk Q_GB
  clear Q_GB
  clear hall hb0_ hb1_ hb2_ hb3_ hb4_ hb5_ hb6_ hb7_ hb8_ hb9_ hb10_ hb11_ hb12_ hb13_ hb14_ hb15_
  go_wp2_with (go_at_call 9; refine (hAw.out _).mono ?_; rintro e w4 ⟨rfl, hb⟩; have HB4 := Aside0.mk (HB.out.trans (hb.mono HB.out.size)); clear hb)
  go_ret
  exact ⟨rfl, HB4.out⟩
set_option maxRecDepth 100000 in
set_option maxHeartbeats 4000000 in
theorem form3Back_calls (a0 : ByteArray) (a1 a2 a3 : Int) (aA4 : Option Addr) (ac4 : Nat) (aw : List ByteArray) (aA5 : Option Addr) (ac5 : Nat) (am : List S35) (b0 : ByteArray) (b1 b2 b3 : Int) (bA4 : Option Addr) (bc4 : Nat) (bw : List ByteArray) (bA5 : Option Addr) (bc5 : Nat) (bm : List S35) (w : World) (hC4a : Kd.C Kd.string w aA4 aw.length aw) (hc4a : aw.length ≤ ac4) (hC5a : Kd.C k35 w aA5 am.length am) (hc5a : am.length ≤ ac5) (h0a : a0.size ≤ 140737488355328) (hsa : ∀ s ∈ aw, s.size ≤ 140737488355328) (hwa : ∀ m ∈ am, wt m ≤ 422212465065984) (hl4a : aw.length ≤ 140737488355328) (hl5a : am.length ≤ 140737488355328) (hC4b : Kd.C Kd.string w bA4 bw.length bw) (hc4b : bw.length ≤ bc4) (hC5b : Kd.C k35 w bA5 bm.length bm) (hc5b : bm.length ≤ bc5) (h0b : b0.size ≤ 140737488355328) (hsb : ∀ s ∈ bw, s.size ≤ 140737488355328) (hwb : ∀ m ∈ bm, wt m ≤ 422212465065984) (hl4b : bw.length ≤ 140737488355328) (hl5b : bm.length ≤ 140737488355328) :
    Calls Try.prog 4 #[.agg #[.string a0, .int .i64 a1, .int .i64 a2, .int .i64 a3, .slice aA4 aw.length ac4, .slice aA5 am.length ac5], .agg #[.string b0, .int .i64 b1, .int .i64 b2, .int .i64 b3, .slice bA4 bw.length bc4, .slice bA5 bm.length bc5]] w fun e w' => e = .returned (.bool true) ∧ Below w.heap.size w w' := by
  rcases heavy_01 (bulk a0 aw am) aw.length am.length with h01a | h01a
  case inr => exact heavy_case a0 a1 a2 a3 aA4 ac4 aw aA5 ac5 am b0 b1 b2 b3 bA4 bc4 bw bA5 bc5 bm w hC4a hc4a hC5a hc5a h0a hsa hwa hl4a hl5a hC4b hc4b hC5b hc5b h0b hsb hwb hl4b hl5b (.inl h01a)
  rcases heavy_01 (bulk b0 bw bm) bw.length bm.length with h01b | h01b
  case inr => exact heavy_case a0 a1 a2 a3 aA4 ac4 aw aA5 ac5 am b0 b1 b2 b3 bA4 bc4 bw bA5 bc5 bm w hC4a hc4a hC5a hc5a h0a hsa hwa hl4a hl5a hC4b hc4b hC5b hc5b h0b hsb hwb hl4b hl5b (.inr h01b)
  have hu25 := Try.underlying25
  have hu35 := Try.underlying35
  obtain ⟨ka, hka⟩ := (heavy_ev a0 a1 a2 a3 aw am hl5a hl4a).get
  have HHa := Aside0.mk (fun W (hbl : Below w.heap.size w W) => mailsacklaw6_Heavy.calls ka a0 a1 a2 a3 aA4 ac4 aw aA5 ac5 am _ W (Kd.C_below hC4a hbl) hc4a (Kd.C_below hC5a hbl) hc5a hka)
  clear hka
  obtain ⟨kb, hkb⟩ := (heavy_ev b0 b1 b2 b3 bw bm hl5b hl4b).get
  have HHb := Aside0.mk (fun W (hbl : Below w.heap.size w W) => mailsacklaw6_Heavy.calls kb b0 b1 b2 b3 bA4 bc4 bw bA5 bc5 bm _ W (Kd.C_below hC4b hbl) hc4b (Kd.C_below hC5b hbl) hc5b hkb)
  clear hkb
  have hAw := Aside0.mk awake_calls
  have HWW : Aside0 (wrap64 0 = 0) := ⟨w64s (by omega) (by omega)⟩
  rw [h01a] at HHa
  rw [h01b] at HHb
  have hba := light h0a hsa hwa h01a
  have hw2a : ∀ m ∈ am, wt m ≤ 60000 := fun m hm => by have := mem_sumM am m hm; have := hba.1; unfold bulk at this; omega
  have hs2a : ∀ s ∈ aw, s.size ≤ 60000 := fun s hm => by have := mem_sumW aw s hm; have := hba.1; unfold bulk at this; omega
  obtain ⟨ja, hja⟩ := (rbox_ev a0 a1 a2 a3 aw am (fun m hm => by have := hw2a m hm; omega) (fun s hm => by have := hs2a s hm; omega)).get
  have HMa := Aside0.mk (fun W (hbl : Below w.heap.size w W) => mailsackref1_MayBox.calls ja a0 a1 a2 a3 aA4 ac4 aw aA5 ac5 am _ W (Kd.C_below hC4a hbl) hc4a (Kd.C_below hC5a hbl) hc5a hja)
  clear hja
  have hbb := light h0b hsb hwb h01b
  have hw2b : ∀ m ∈ bm, wt m ≤ 60000 := fun m hm => by have := mem_sumM bm m hm; have := hbb.1; unfold bulk at this; omega
  have hs2b : ∀ s ∈ bw, s.size ≤ 60000 := fun s hm => by have := mem_sumW bw s hm; have := hbb.1; unfold bulk at this; omega
  obtain ⟨jb, hjb⟩ := (rbox_ev b0 b1 b2 b3 bw bm (fun m hm => by have := hw2b m hm; omega) (fun s hm => by have := hs2b s hm; omega)).get
  have HMb := Aside0.mk (fun W (hbl : Below w.heap.size w W) => mailsackref1_MayBox.calls jb b0 b1 b2 b3 bA4 bc4 bw bA5 bc5 bm _ W (Kd.C_below hC4b hbl) hc4b (Kd.C_below hC5b hbl) hc5b hjb)
  clear hjb
  by_cases hPa : boxP a0 a1 a2 a3 aw am = 0
  case neg =>
    obtain ⟨p1, hq⟩ : ∃ q, boxP a0 a1 a2 a3 aw am = q := ⟨_, rfl⟩
    rw [hq] at hPa HMa
    have HPN : Aside0 ((p1 != 0) = true) := ⟨bne_iff_ne.mpr hPa⟩
    clear hC4a hC5a h0a hsa hwa hl4a hl5a hc4a hc5a hC4b hC5b h0b hsb hwb hl4b hl5b hc4b hc5b hba hw2a hs2a hbb hw2b hs2b h01a h01b hq hPa HMb
    go_enter Try.func4, Try.ntmps4
    go_upto_region 1 with (first
      | ((with_reducible refine gate_dst (N := 2) rfl ?_); refine box_event ?hg2 (N := 2) ?hd2 (cs := #[.string a0, .int .i64 a1, .int .i64 a2, .int .i64 a3, .slice aA4 aw.length ac4, .slice aA5 am.length ac5]) (t := 25) ?hr2 ?_; (case hd2 => rfl); (case hg2 => rfl); (case hr2 => first | (go_simp; done) | (go_simp; rfl)); intro g2 hg2 w1 hbx hb1; have GA1 := Aside0.mk hbx; have HB1 := Aside0.mk hb1; clear hg2 hbx hb1)
      | ((with_reducible refine gate_dst (N := 3) rfl ?_); refine box_event ?hg3 (N := 3) ?hd3 (cs := #[.string b0, .int .i64 b1, .int .i64 b2, .int .i64 b3, .slice bA4 bw.length bc4, .slice bA5 bm.length bc5]) (t := 25) ?hr3 ?_; (case hd3 => rfl); (case hg3 => rfl); (case hr3 => first | (go_simp; done) | (go_simp; rfl)); intro g3 hg3 w2 hbx hb1; have GB := Aside0.mk hbx; have GA := Aside0.mk (blk_below GA1.out hb1); have HB := Aside0.mk (HB1.out.trans (hb1.mono HB1.out.size)); clear hg3 hbx hb1))
    refine start_ (n := 16) (S := fun w' => True) (ds := []) #[false, false, false, false, false, false, false, false, false, false, false, false, false, false, false, false] (by kernel_rfl) rfl rfl trivial (fun hHeld => ?_)
    refine with_tabW t_mailsacklaw10_Form3Back.tab1 t_mailsacklaw10_Form3Back.bits1 (fun HT_ HW_ => ?_)
    have hd_ := (below_drew1 (Below.refl w2.heap.size w2))
    have n_HB := Aside0.mk (HB.out.drew)
    have n_GA := Aside0.mk ((show w2.drew.heap[g2]? = _ from GA.out))
    have n_GB := Aside0.mk ((show w2.drew.heap[g3]? = _ from GB.out))
    clear HB
    have HB := n_HB
    clear n_HB
    clear GA
    have GA := n_GA
    clear n_GA
    clear GB
    have GB := n_GB
    clear n_GB
    generalize w2.drew = w_d at *
    clear hd_
    refine inv_at [0, 1, 2, 3, 4, 5, 6, 7, 8, 9, 10, 11, 12, 13, 14, 15] (fun a0_ b a w' => a = putSel a0_ b [(0, 11, .agg #[.string a0, .int .i64 a1, .int .i64 a2, .int .i64 a3, .slice aA4 aw.length ac4, .slice aA5 am.length ac5]), (1, 12, .int .i64 0), (2, 13, .agg #[.string b0, .int .i64 b1, .int .i64 b2, .int .i64 b3, .slice bA4 bw.length bc4, .slice bA5 bm.length bc5]), (3, 14, .int .i64 0), (4, 15, .int .i64 0), (5, 16, .bool false), (6, 17, .bool false), (7, 18, .agg #[.string a0, .int .i64 a1, .int .i64 a2, .int .i64 a3, .slice aA4 aw.length ac4, .slice aA5 am.length ac5]), (8, 19, .int .i64 p1), (9, 20, .bool true), (10, 21, .bool true), (11, 22, .bool true), (12, 23, undef), (13, 24, undef), (14, 25, undef), (15, 26, .bool true)] ∧ (Below w.heap.size w w') ∧ (w'.heap[g2]? = some (.cells #[.string a0, .int .i64 a1, .int .i64 a2, .int .i64 a3, .slice aA4 aw.length ac4, .slice aA5 am.length ac5] 25 (0, 0))) ∧ (w'.heap[g3]? = some (.cells #[.string b0, .int .i64 b1, .int .i64 b2, .int .i64 b3, .slice bA4 bw.length bc4, .slice bA5 bm.length bc5] 25 (0, 0)))) HT_.out HW_.out (by kernel_rfl) (by kernel_rfl) ?_ ?_ ?_
    · exact ⟨by simp only [putSel, Bool.false_eq_true, if_false], HB.out, GA.out, GB.out⟩
    · skip
      clear GA GB HB
      refine steps_cons ?_ ?_
      · rintro b a w' ⟨ha, Q_HB, Q_GA, Q_GB⟩ hb_ hon hoff
        refine ⟨_, rfl, fun K hK => ?_⟩
        have e2 : a.tmps[2]? = some (.pointer (some ⟨g2, 0, none⟩)) := by rw [ha]; exact (putSel_off rfl).trans rfl
        replace ha := Aside0.mk ha
        have HB := Aside0.mk Q_HB
        have GA := Aside0.mk Q_GA
        have GB := Aside0.mk Q_GB
        have hc0 := blk_cell GA.out 0; have hc1 := blk_cell GA.out 1; have hc2 := blk_cell GA.out 2; have hc3 := blk_cell GA.out 3; have hc4 := blk_cell GA.out 4; have hc5 := blk_cell GA.out 5
        refine value_ (w1 := w') (v := .agg #[.string a0, .int .i64 a1, .int .i64 a2, .int .i64 a3, .slice aA4 aw.length ac4, .slice aA5 am.length ac5]) (by rfl) rfl ?_ ?_
        · go_simp
          (try simp only [i64_w])
          try first | rfl | assumption
        refine hK.out _ _ ⟨(by rw [ha.out]; exact putSel_upk 0 hb_ rfl rfl rfl), Q_HB, Q_GA, Q_GB⟩
      refine steps_cons ?_ ?_
      · rintro b a w' ⟨ha, Q_HB, Q_GA, Q_GB⟩ hb_ hon hoff
        refine ⟨_, rfl, fun K hK => ?_⟩
        have e11 : a.tmps[11]? = some (.agg #[.string a0, .int .i64 a1, .int .i64 a2, .int .i64 a3, .slice aA4 aw.length ac4, .slice aA5 am.length ac5]) := by rw [ha]; exact putSel_on (e := (0, 11, .agg #[.string a0, .int .i64 a1, .int .i64 a2, .int .i64 a3, .slice aA4 aw.length ac4, .slice aA5 am.length ac5])) 0 rfl rfl (hon 0 (by kernel_rfl)) rfl
        replace ha := Aside0.mk ha
        have HB := Aside0.mk Q_HB
        have GA := Aside0.mk Q_GA
        have GB := Aside0.mk Q_GB
        refine goes_ Try.func7 (by kernel_rfl) rfl #[.agg #[.string a0, .int .i64 a1, .int .i64 a2, .int .i64 a3, .slice aA4 aw.length ac4, .slice aA5 am.length ac5]] (by rfl) rfl rfl (by first | (simp only [List.map_toArray, List.map_cons, List.map_nil, Act.eval, Array.getD_eq_getD_getElem?, Option.getD_some, e11]; done) | (simp only [List.map_toArray, List.map_cons, List.map_nil, Act.eval, Array.getD_eq_getD_getElem?, Option.getD_some, e11]; rfl)) ?_
        with_reducible refine (HHa.out w' HB.out).mono ?_
        rintro e wq ⟨rfl, hb⟩
        refine ⟨_, rfl, ?_⟩
        refine hK.out _ _ ⟨(by rw [ha.out]; exact putSel_upk 1 hb_ rfl rfl rfl), HB.out.trans (hb.mono HB.out.size), blk_below GA.out hb, blk_below GB.out hb⟩
      refine steps_cons ?_ ?_
      · rintro b a w' ⟨ha, Q_HB, Q_GA, Q_GB⟩ hb_ hon hoff
        refine ⟨_, rfl, fun K hK => ?_⟩
        have e3 : a.tmps[3]? = some (.pointer (some ⟨g3, 0, none⟩)) := by rw [ha]; exact (putSel_off rfl).trans rfl
        replace ha := Aside0.mk ha
        have HB := Aside0.mk Q_HB
        have GA := Aside0.mk Q_GA
        have GB := Aside0.mk Q_GB
        have hc0 := blk_cell GB.out 0; have hc1 := blk_cell GB.out 1; have hc2 := blk_cell GB.out 2; have hc3 := blk_cell GB.out 3; have hc4 := blk_cell GB.out 4; have hc5 := blk_cell GB.out 5
        refine value_ (w1 := w') (v := .agg #[.string b0, .int .i64 b1, .int .i64 b2, .int .i64 b3, .slice bA4 bw.length bc4, .slice bA5 bm.length bc5]) (by rfl) rfl ?_ ?_
        · go_simp
          (try simp only [i64_w])
          try first | rfl | assumption
        refine hK.out _ _ ⟨(by rw [ha.out]; exact putSel_upk 2 hb_ rfl rfl rfl), Q_HB, Q_GA, Q_GB⟩
      refine steps_cons ?_ ?_
      · rintro b a w' ⟨ha, Q_HB, Q_GA, Q_GB⟩ hb_ hon hoff
        refine ⟨_, rfl, fun K hK => ?_⟩
        have e13 : a.tmps[13]? = some (.agg #[.string b0, .int .i64 b1, .int .i64 b2, .int .i64 b3, .slice bA4 bw.length bc4, .slice bA5 bm.length bc5]) := by rw [ha]; exact putSel_on (e := (2, 13, .agg #[.string b0, .int .i64 b1, .int .i64 b2, .int .i64 b3, .slice bA4 bw.length bc4, .slice bA5 bm.length bc5])) 2 rfl rfl (hon 2 (by kernel_rfl)) rfl
        replace ha := Aside0.mk ha
        have HB := Aside0.mk Q_HB
        have GA := Aside0.mk Q_GA
        have GB := Aside0.mk Q_GB
        refine goes_ Try.func7 (by kernel_rfl) rfl #[.agg #[.string b0, .int .i64 b1, .int .i64 b2, .int .i64 b3, .slice bA4 bw.length bc4, .slice bA5 bm.length bc5]] (by rfl) rfl rfl (by first | (simp only [List.map_toArray, List.map_cons, List.map_nil, Act.eval, Array.getD_eq_getD_getElem?, Option.getD_some, e13]; done) | (simp only [List.map_toArray, List.map_cons, List.map_nil, Act.eval, Array.getD_eq_getD_getElem?, Option.getD_some, e13]; rfl)) ?_
        with_reducible refine (HHb.out w' HB.out).mono ?_
        rintro e wq ⟨rfl, hb⟩
        refine ⟨_, rfl, ?_⟩
        refine hK.out _ _ ⟨(by rw [ha.out]; exact putSel_upk 3 hb_ rfl rfl rfl), HB.out.trans (hb.mono HB.out.size), blk_below GA.out hb, blk_below GB.out hb⟩
      refine steps_cons ?_ ?_
      · rintro b a w' ⟨ha, Q_HB, Q_GA, Q_GB⟩ hb_ hon hoff
        refine ⟨_, rfl, fun K hK => ?_⟩
        have e12 : a.tmps[12]? = some (.int .i64 0) := by rw [ha]; exact putSel_on (e := (1, 12, .int .i64 0)) 1 rfl rfl (hon 1 (by kernel_rfl)) rfl
        have e14 : a.tmps[14]? = some (.int .i64 0) := by rw [ha]; exact putSel_on (e := (3, 14, .int .i64 0)) 3 rfl rfl (hon 3 (by kernel_rfl)) rfl
        replace ha := Aside0.mk ha
        have HB := Aside0.mk Q_HB
        have GA := Aside0.mk Q_GA
        have GB := Aside0.mk Q_GB
        have hww := HWW.out
        refine value_ (w1 := w') (v := .int .i64 0) (by rfl) rfl ?_ ?_
        · go_simp
          (try simp only [i64_w])
          try first | rfl | assumption
        refine hK.out _ _ ⟨(by rw [ha.out]; exact putSel_upk 4 hb_ rfl rfl rfl), Q_HB, Q_GA, Q_GB⟩
      refine steps_cons ?_ ?_
      · rintro b a w' ⟨ha, Q_HB, Q_GA, Q_GB⟩ hb_ hon hoff
        refine ⟨_, rfl, fun K hK => ?_⟩
        have e15 : a.tmps[15]? = some (.int .i64 0) := by rw [ha]; exact putSel_on (e := (4, 15, .int .i64 0)) 4 rfl rfl (hon 4 (by kernel_rfl)) rfl
        replace ha := Aside0.mk ha
        have HB := Aside0.mk Q_HB
        have GA := Aside0.mk Q_GA
        have GB := Aside0.mk Q_GB
        refine value_ (w1 := w') (v := .bool false) (by rfl) rfl ?_ ?_
        · go_simp
          (try simp only [i64_w])
          try first | rfl | assumption
        refine hK.out _ _ ⟨(by rw [ha.out]; exact putSel_upk 5 hb_ rfl rfl rfl), Q_HB, Q_GA, Q_GB⟩
      refine steps_cons ?_ ?_
      · rintro b a w' ⟨ha, Q_HB, Q_GA, Q_GB⟩ hb_ hon hoff
        refine ⟨_, rfl, fun K hK => ?_⟩
        have e16 : a.tmps[16]? = some (.bool false) := by rw [ha]; exact putSel_on (e := (5, 16, .bool false)) 5 rfl rfl (hon 5 (by kernel_rfl)) rfl
        replace ha := Aside0.mk ha
        have HB := Aside0.mk Q_HB
        have GA := Aside0.mk Q_GA
        have GB := Aside0.mk Q_GB
        refine value_ (w1 := w') (v := .bool false) (by rfl) rfl ?_ ?_
        · go_simp
          (try simp only [i64_w])
          try first | rfl | assumption
        refine hK.out _ _ ⟨(by rw [ha.out]; exact putSel_upk 6 hb_ rfl rfl rfl), Q_HB, Q_GA, Q_GB⟩
      refine steps_cons ?_ ?_
      · rintro b a w' ⟨ha, Q_HB, Q_GA, Q_GB⟩ hb_ hon hoff
        refine ⟨_, rfl, fun K hK => ?_⟩
        have e2 : a.tmps[2]? = some (.pointer (some ⟨g2, 0, none⟩)) := by rw [ha]; exact (putSel_off rfl).trans rfl
        have e17 : a.tmps[17]? = some (.bool false) := by rw [ha]; exact putSel_on (e := (6, 17, .bool false)) 6 rfl rfl (hon 6 (by kernel_rfl)) rfl
        replace ha := Aside0.mk ha
        have HB := Aside0.mk Q_HB
        have GA := Aside0.mk Q_GA
        have GB := Aside0.mk Q_GB
        have hc0 := blk_cell GA.out 0; have hc1 := blk_cell GA.out 1; have hc2 := blk_cell GA.out 2; have hc3 := blk_cell GA.out 3; have hc4 := blk_cell GA.out 4; have hc5 := blk_cell GA.out 5
        refine value_ (w1 := w') (v := .agg #[.string a0, .int .i64 a1, .int .i64 a2, .int .i64 a3, .slice aA4 aw.length ac4, .slice aA5 am.length ac5]) (wanted_on rfl rfl rfl (e17.trans (by first | rfl | (simp [*]; done)))) rfl ?_ ?_
        · go_simp
          (try simp only [i64_w])
          try first | rfl | assumption
        refine hK.out _ _ ⟨(by rw [ha.out]; exact putSel_upk 7 hb_ rfl rfl rfl), Q_HB, Q_GA, Q_GB⟩
      refine steps_cons ?_ ?_
      · rintro b a w' ⟨ha, Q_HB, Q_GA, Q_GB⟩ hb_ hon hoff
        refine ⟨_, rfl, fun K hK => ?_⟩
        have e18 : a.tmps[18]? = some (.agg #[.string a0, .int .i64 a1, .int .i64 a2, .int .i64 a3, .slice aA4 aw.length ac4, .slice aA5 am.length ac5]) := by rw [ha]; exact putSel_on (e := (7, 18, .agg #[.string a0, .int .i64 a1, .int .i64 a2, .int .i64 a3, .slice aA4 aw.length ac4, .slice aA5 am.length ac5])) 7 rfl rfl (hon 7 (by kernel_rfl)) rfl
        have e17 : a.tmps[17]? = some (.bool false) := by rw [ha]; exact putSel_on (e := (6, 17, .bool false)) 6 rfl rfl (hon 6 (by kernel_rfl)) rfl
        replace ha := Aside0.mk ha
        have HB := Aside0.mk Q_HB
        have GA := Aside0.mk Q_GA
        have GB := Aside0.mk Q_GB
        refine goes_ Try.func8 (by kernel_rfl) rfl #[.agg #[.string a0, .int .i64 a1, .int .i64 a2, .int .i64 a3, .slice aA4 aw.length ac4, .slice aA5 am.length ac5]] (wanted_on rfl rfl rfl (e17.trans (by first | rfl | (simp [*]; done)))) rfl rfl (by first | (simp only [List.map_toArray, List.map_cons, List.map_nil, Act.eval, Array.getD_eq_getD_getElem?, Option.getD_some, e18, e17]; done) | (simp only [List.map_toArray, List.map_cons, List.map_nil, Act.eval, Array.getD_eq_getD_getElem?, Option.getD_some, e18, e17]; rfl)) ?_
        with_reducible refine (HMa.out w' HB.out).mono ?_
        rintro e wq ⟨rfl, hb⟩
        refine ⟨_, rfl, ?_⟩
        refine hK.out _ _ ⟨(by rw [ha.out]; exact putSel_upk 8 hb_ rfl rfl rfl), HB.out.trans (hb.mono HB.out.size), blk_below GA.out hb, blk_below GB.out hb⟩
      refine steps_cons ?_ ?_
      · rintro b a w' ⟨ha, Q_HB, Q_GA, Q_GB⟩ hb_ hon hoff
        refine ⟨_, rfl, fun K hK => ?_⟩
        have e19 : a.tmps[19]? = some (.int .i64 p1) := by rw [ha]; exact putSel_on (e := (8, 19, .int .i64 p1)) 8 rfl rfl (hon 8 (by kernel_rfl)) rfl
        have e17 : a.tmps[17]? = some (.bool false) := by rw [ha]; exact putSel_on (e := (6, 17, .bool false)) 6 rfl rfl (hon 6 (by kernel_rfl)) rfl
        replace ha := Aside0.mk ha
        have HB := Aside0.mk Q_HB
        have GA := Aside0.mk Q_GA
        have GB := Aside0.mk Q_GB
        have hpn := HPN.out
        refine value_ (w1 := w') (v := .bool true) (wanted_on rfl rfl rfl (e17.trans (by first | rfl | (simp [*]; done)))) rfl ?_ ?_
        · go_simp
          (try simp only [i64_w])
          try first | rfl | assumption
        refine hK.out _ _ ⟨(by rw [ha.out]; exact putSel_upk 9 hb_ rfl rfl rfl), Q_HB, Q_GA, Q_GB⟩
      refine steps_cons ?_ ?_
      · rintro b a w' ⟨ha, Q_HB, Q_GA, Q_GB⟩ hb_ hon hoff
        refine ⟨_, rfl, fun K hK => ?_⟩
        have e17 : a.tmps[17]? = some (.bool false) := by rw [ha]; exact putSel_on (e := (6, 17, .bool false)) 6 rfl rfl (hon 6 (by kernel_rfl)) rfl
        have e20 : a.tmps[20]? = some (.bool true) := by rw [ha]; exact putSel_on (e := (9, 20, .bool true)) 9 rfl rfl (hon 9 (by kernel_rfl)) rfl
        replace ha := Aside0.mk ha
        have HB := Aside0.mk Q_HB
        have GA := Aside0.mk Q_GA
        have GB := Aside0.mk Q_GB
        refine value_ (w1 := w') (v := .bool true) (by rfl) rfl ?_ ?_
        · go_simp
          (try simp only [i64_w])
          try first | rfl | assumption
        refine hK.out _ _ ⟨(by rw [ha.out]; exact putSel_upk 10 hb_ rfl rfl rfl), Q_HB, Q_GA, Q_GB⟩
      refine steps_cons ?_ ?_
      · rintro b a w' ⟨ha, Q_HB, Q_GA, Q_GB⟩ hb_ hon hoff
        refine ⟨_, rfl, fun K hK => ?_⟩
        have e21 : a.tmps[21]? = some (.bool true) := by rw [ha]; exact putSel_on (e := (10, 21, .bool true)) 10 rfl rfl (hon 10 (by kernel_rfl)) rfl
        replace ha := Aside0.mk ha
        have HB := Aside0.mk Q_HB
        have GA := Aside0.mk Q_GA
        have GB := Aside0.mk Q_GB
        refine value_ (w1 := w') (v := .bool true) (by rfl) rfl ?_ ?_
        · go_simp
          (try simp only [i64_w])
          try first | rfl | assumption
        refine hK.out _ _ ⟨(by rw [ha.out]; exact putSel_upk 11 hb_ rfl rfl rfl), Q_HB, Q_GA, Q_GB⟩
      refine steps_cons ?_ ?_
      · rintro b a w' ⟨ha, Q_HB, Q_GA, Q_GB⟩ hb_ hon hoff
        refine ⟨_, rfl, fun K hK => ?_⟩
        have e22 : a.tmps[22]? = some (.bool true) := by rw [ha]; exact putSel_on (e := (11, 22, .bool true)) 11 rfl rfl (hon 11 (by kernel_rfl)) rfl
        replace ha := Aside0.mk ha
        have HB := Aside0.mk Q_HB
        have GA := Aside0.mk Q_GA
        have GB := Aside0.mk Q_GB
        refine off_ (wanted_off rfl rfl rfl (e22.trans (by first | rfl | (simp [*]; done)))) ?_
        refine hK.out _ _ ⟨(by rw [ha.out]; exact putSel_upk 12 hb_ rfl rfl rfl), Q_HB, Q_GA, Q_GB⟩
      refine steps_cons ?_ ?_
      · rintro b a w' ⟨ha, Q_HB, Q_GA, Q_GB⟩ hb_ hon hoff
        refine ⟨_, rfl, fun K hK => ?_⟩
        have e22 : a.tmps[22]? = some (.bool true) := by rw [ha]; exact putSel_on (e := (11, 22, .bool true)) 11 rfl rfl (hon 11 (by kernel_rfl)) rfl
        replace ha := Aside0.mk ha
        have HB := Aside0.mk Q_HB
        have GA := Aside0.mk Q_GA
        have GB := Aside0.mk Q_GB
        refine off_ (wanted_off rfl rfl rfl (e22.trans (by first | rfl | (simp [*]; done)))) ?_
        refine hK.out _ _ ⟨(by rw [ha.out]; exact putSel_upk 13 hb_ rfl rfl rfl), Q_HB, Q_GA, Q_GB⟩
      refine steps_cons ?_ ?_
      · rintro b a w' ⟨ha, Q_HB, Q_GA, Q_GB⟩ hb_ hon hoff
        refine ⟨_, rfl, fun K hK => ?_⟩
        have e22 : a.tmps[22]? = some (.bool true) := by rw [ha]; exact putSel_on (e := (11, 22, .bool true)) 11 rfl rfl (hon 11 (by kernel_rfl)) rfl
        replace ha := Aside0.mk ha
        have HB := Aside0.mk Q_HB
        have GA := Aside0.mk Q_GA
        have GB := Aside0.mk Q_GB
        refine off_ (wanted_off rfl rfl rfl (e22.trans (by first | rfl | (simp [*]; done)))) ?_
        refine hK.out _ _ ⟨(by rw [ha.out]; exact putSel_upk 14 hb_ rfl rfl rfl), Q_HB, Q_GA, Q_GB⟩
      refine steps_cons ?_ ?_
      · rintro b a w' ⟨ha, Q_HB, Q_GA, Q_GB⟩ hb_ hon hoff
        refine ⟨_, rfl, fun K hK => ?_⟩
        have e22 : a.tmps[22]? = some (.bool true) := by rw [ha]; exact putSel_on (e := (11, 22, .bool true)) 11 rfl rfl (hon 11 (by kernel_rfl)) rfl
        have e25 : a.tmps[25]? = some (undef) := by rw [ha]; exact putSel_on (e := (14, 25, undef)) 14 rfl rfl (hon 14 (by kernel_rfl)) rfl
        replace ha := Aside0.mk ha
        have HB := Aside0.mk Q_HB
        have GA := Aside0.mk Q_GA
        have GB := Aside0.mk Q_GB
        refine value_ (w1 := w') (v := .bool true) (by rfl) rfl ?_ ?_
        · go_simp
          (try simp only [i64_w])
          try first | rfl | assumption
        refine hK.out _ _ ⟨(by rw [ha.out]; exact putSel_upk 15 hb_ rfl rfl rfl), Q_HB, Q_GA, Q_GB⟩
      exact steps_nil
    rintro b a w3 hall ⟨ha, Q_HB, Q_GA, Q_GB⟩
    clear GA GB HB
    have hb0_ := hall 0 (by kernel_rfl)
    have hb1_ := hall 1 (by kernel_rfl)
    have hb2_ := hall 2 (by kernel_rfl)
    have hb3_ := hall 3 (by kernel_rfl)
    have hb4_ := hall 4 (by kernel_rfl)
    have hb5_ := hall 5 (by kernel_rfl)
    have hb6_ := hall 6 (by kernel_rfl)
    have hb7_ := hall 7 (by kernel_rfl)
    have hb8_ := hall 8 (by kernel_rfl)
    have hb9_ := hall 9 (by kernel_rfl)
    have hb10_ := hall 10 (by kernel_rfl)
    have hb11_ := hall 11 (by kernel_rfl)
    have hb12_ := hall 12 (by kernel_rfl)
    have hb13_ := hall 13 (by kernel_rfl)
    have hb14_ := hall 14 (by kernel_rfl)
    have hb15_ := hall 15 (by kernel_rfl)
    subst ha
    simp only [putSel, hb0_, hb1_, hb2_, hb3_, hb4_, hb5_, hb6_, hb7_, hb8_, hb9_, hb10_, hb11_, hb12_, hb13_, hb14_, hb15_, if_true, Act.put, List.setIfInBounds_toArray, List.set_cons_zero, List.set_cons_succ]
    have HB := Aside0.mk Q_HB
    clear Q_HB
    have GA := Aside0.mk Q_GA
    clear Q_GA
    have GB := Aside0.mk Q_GB
    clear Q_GB
    clear hall hb0_ hb1_ hb2_ hb3_ hb4_ hb5_ hb6_ hb7_ hb8_ hb9_ hb10_ hb11_ hb12_ hb13_ hb14_ hb15_
    go_wp2_with (go_at_call 9; refine (hAw.out _).mono ?_; rintro e w4 ⟨rfl, hb⟩; have HB4 := Aside0.mk (HB.out.trans (hb.mono HB.out.size)); clear hb)
    go_ret
    exact ⟨rfl, HB4.out⟩
  rw [hPa] at HMa
  by_cases hPb : boxP b0 b1 b2 b3 bw bm = 0
  case neg =>
    obtain ⟨p2, hq⟩ : ∃ q, boxP b0 b1 b2 b3 bw bm = q := ⟨_, rfl⟩
    rw [hq] at hPb HMb
    have HPN : Aside0 ((p2 != 0) = true) := ⟨bne_iff_ne.mpr hPb⟩
    clear hC4a hC5a h0a hsa hwa hl4a hl5a hc4a hc5a hC4b hC5b h0b hsb hwb hl4b hl5b hc4b hc5b hba hw2a hs2a hbb hw2b hs2b h01a h01b hq hPa hPb
    go_enter Try.func4, Try.ntmps4
    go_upto_region 1 with (first
      | ((with_reducible refine gate_dst (N := 2) rfl ?_); refine box_event ?hg2 (N := 2) ?hd2 (cs := #[.string a0, .int .i64 a1, .int .i64 a2, .int .i64 a3, .slice aA4 aw.length ac4, .slice aA5 am.length ac5]) (t := 25) ?hr2 ?_; (case hd2 => rfl); (case hg2 => rfl); (case hr2 => first | (go_simp; done) | (go_simp; rfl)); intro g2 hg2 w1 hbx hb1; have GA1 := Aside0.mk hbx; have HB1 := Aside0.mk hb1; clear hg2 hbx hb1)
      | ((with_reducible refine gate_dst (N := 3) rfl ?_); refine box_event ?hg3 (N := 3) ?hd3 (cs := #[.string b0, .int .i64 b1, .int .i64 b2, .int .i64 b3, .slice bA4 bw.length bc4, .slice bA5 bm.length bc5]) (t := 25) ?hr3 ?_; (case hd3 => rfl); (case hg3 => rfl); (case hr3 => first | (go_simp; done) | (go_simp; rfl)); intro g3 hg3 w2 hbx hb1; have GB := Aside0.mk hbx; have GA := Aside0.mk (blk_below GA1.out hb1); have HB := Aside0.mk (HB1.out.trans (hb1.mono HB1.out.size)); clear hg3 hbx hb1))
    refine start_ (n := 16) (S := fun w' => True) (ds := []) #[false, false, false, false, false, false, false, false, false, false, false, false, false, false, false, false] (by kernel_rfl) rfl rfl trivial (fun hHeld => ?_)
    refine with_tabW t_mailsacklaw10_Form3Back.tab1 t_mailsacklaw10_Form3Back.bits1 (fun HT_ HW_ => ?_)
    have hd_ := (below_drew1 (Below.refl w2.heap.size w2))
    have n_HB := Aside0.mk (HB.out.drew)
    have n_GA := Aside0.mk ((show w2.drew.heap[g2]? = _ from GA.out))
    have n_GB := Aside0.mk ((show w2.drew.heap[g3]? = _ from GB.out))
    clear HB
    have HB := n_HB
    clear n_HB
    clear GA
    have GA := n_GA
    clear n_GA
    clear GB
    have GB := n_GB
    clear n_GB
    generalize w2.drew = w_d at *
    clear hd_
    refine inv_at [0, 1, 2, 3, 4, 5, 6, 7, 8, 9, 10, 11, 12, 13, 14, 15] (fun a0_ b a w' => a = putSel a0_ b [(0, 11, .agg #[.string a0, .int .i64 a1, .int .i64 a2, .int .i64 a3, .slice aA4 aw.length ac4, .slice aA5 am.length ac5]), (1, 12, .int .i64 0), (2, 13, .agg #[.string b0, .int .i64 b1, .int .i64 b2, .int .i64 b3, .slice bA4 bw.length bc4, .slice bA5 bm.length bc5]), (3, 14, .int .i64 0), (4, 15, .int .i64 0), (5, 16, .bool false), (6, 17, .bool false), (7, 18, .agg #[.string a0, .int .i64 a1, .int .i64 a2, .int .i64 a3, .slice aA4 aw.length ac4, .slice aA5 am.length ac5]), (8, 19, .int .i64 0), (9, 20, .bool false), (10, 21, .bool false), (11, 22, .bool false), (12, 23, .agg #[.string b0, .int .i64 b1, .int .i64 b2, .int .i64 b3, .slice bA4 bw.length bc4, .slice bA5 bm.length bc5]), (13, 24, .int .i64 p2), (14, 25, .bool true), (15, 26, .bool true)] ∧ (Below w.heap.size w w') ∧ (w'.heap[g2]? = some (.cells #[.string a0, .int .i64 a1, .int .i64 a2, .int .i64 a3, .slice aA4 aw.length ac4, .slice aA5 am.length ac5] 25 (0, 0))) ∧ (w'.heap[g3]? = some (.cells #[.string b0, .int .i64 b1, .int .i64 b2, .int .i64 b3, .slice bA4 bw.length bc4, .slice bA5 bm.length bc5] 25 (0, 0)))) HT_.out HW_.out (by kernel_rfl) (by kernel_rfl) ?_ ?_ ?_
    · exact ⟨by simp only [putSel, Bool.false_eq_true, if_false], HB.out, GA.out, GB.out⟩
    · skip
      clear GA GB HB
      refine steps_cons ?_ ?_
      · rintro b a w' ⟨ha, Q_HB, Q_GA, Q_GB⟩ hb_ hon hoff
        refine ⟨_, rfl, fun K hK => ?_⟩
        have e2 : a.tmps[2]? = some (.pointer (some ⟨g2, 0, none⟩)) := by rw [ha]; exact (putSel_off rfl).trans rfl
        replace ha := Aside0.mk ha
        have HB := Aside0.mk Q_HB
        have GA := Aside0.mk Q_GA
        have GB := Aside0.mk Q_GB
        have hc0 := blk_cell GA.out 0; have hc1 := blk_cell GA.out 1; have hc2 := blk_cell GA.out 2; have hc3 := blk_cell GA.out 3; have hc4 := blk_cell GA.out 4; have hc5 := blk_cell GA.out 5
        refine value_ (w1 := w') (v := .agg #[.string a0, .int .i64 a1, .int .i64 a2, .int .i64 a3, .slice aA4 aw.length ac4, .slice aA5 am.length ac5]) (by rfl) rfl ?_ ?_
        · go_simp
          (try simp only [i64_w])
          try first | rfl | assumption
        refine hK.out _ _ ⟨(by rw [ha.out]; exact putSel_upk 0 hb_ rfl rfl rfl), Q_HB, Q_GA, Q_GB⟩
      refine steps_cons ?_ ?_
      · rintro b a w' ⟨ha, Q_HB, Q_GA, Q_GB⟩ hb_ hon hoff
        refine ⟨_, rfl, fun K hK => ?_⟩
        have e11 : a.tmps[11]? = some (.agg #[.string a0, .int .i64 a1, .int .i64 a2, .int .i64 a3, .slice aA4 aw.length ac4, .slice aA5 am.length ac5]) := by rw [ha]; exact putSel_on (e := (0, 11, .agg #[.string a0, .int .i64 a1, .int .i64 a2, .int .i64 a3, .slice aA4 aw.length ac4, .slice aA5 am.length ac5])) 0 rfl rfl (hon 0 (by kernel_rfl)) rfl
        replace ha := Aside0.mk ha
        have HB := Aside0.mk Q_HB
        have GA := Aside0.mk Q_GA
        have GB := Aside0.mk Q_GB
        refine goes_ Try.func7 (by kernel_rfl) rfl #[.agg #[.string a0, .int .i64 a1, .int .i64 a2, .int .i64 a3, .slice aA4 aw.length ac4, .slice aA5 am.length ac5]] (by rfl) rfl rfl (by first | (simp only [List.map_toArray, List.map_cons, List.map_nil, Act.eval, Array.getD_eq_getD_getElem?, Option.getD_some, e11]; done) | (simp only [List.map_toArray, List.map_cons, List.map_nil, Act.eval, Array.getD_eq_getD_getElem?, Option.getD_some, e11]; rfl)) ?_
        with_reducible refine (HHa.out w' HB.out).mono ?_
        rintro e wq ⟨rfl, hb⟩
        refine ⟨_, rfl, ?_⟩
        refine hK.out _ _ ⟨(by rw [ha.out]; exact putSel_upk 1 hb_ rfl rfl rfl), HB.out.trans (hb.mono HB.out.size), blk_below GA.out hb, blk_below GB.out hb⟩
      refine steps_cons ?_ ?_
      · rintro b a w' ⟨ha, Q_HB, Q_GA, Q_GB⟩ hb_ hon hoff
        refine ⟨_, rfl, fun K hK => ?_⟩
        have e3 : a.tmps[3]? = some (.pointer (some ⟨g3, 0, none⟩)) := by rw [ha]; exact (putSel_off rfl).trans rfl
        replace ha := Aside0.mk ha
        have HB := Aside0.mk Q_HB
        have GA := Aside0.mk Q_GA
        have GB := Aside0.mk Q_GB
        have hc0 := blk_cell GB.out 0; have hc1 := blk_cell GB.out 1; have hc2 := blk_cell GB.out 2; have hc3 := blk_cell GB.out 3; have hc4 := blk_cell GB.out 4; have hc5 := blk_cell GB.out 5
        refine value_ (w1 := w') (v := .agg #[.string b0, .int .i64 b1, .int .i64 b2, .int .i64 b3, .slice bA4 bw.length bc4, .slice bA5 bm.length bc5]) (by rfl) rfl ?_ ?_
        · go_simp
          (try simp only [i64_w])
          try first | rfl | assumption
        refine hK.out _ _ ⟨(by rw [ha.out]; exact putSel_upk 2 hb_ rfl rfl rfl), Q_HB, Q_GA, Q_GB⟩
      refine steps_cons ?_ ?_
      · rintro b a w' ⟨ha, Q_HB, Q_GA, Q_GB⟩ hb_ hon hoff
        refine ⟨_, rfl, fun K hK => ?_⟩
        have e13 : a.tmps[13]? = some (.agg #[.string b0, .int .i64 b1, .int .i64 b2, .int .i64 b3, .slice bA4 bw.length bc4, .slice bA5 bm.length bc5]) := by rw [ha]; exact putSel_on (e := (2, 13, .agg #[.string b0, .int .i64 b1, .int .i64 b2, .int .i64 b3, .slice bA4 bw.length bc4, .slice bA5 bm.length bc5])) 2 rfl rfl (hon 2 (by kernel_rfl)) rfl
        replace ha := Aside0.mk ha
        have HB := Aside0.mk Q_HB
        have GA := Aside0.mk Q_GA
        have GB := Aside0.mk Q_GB
        refine goes_ Try.func7 (by kernel_rfl) rfl #[.agg #[.string b0, .int .i64 b1, .int .i64 b2, .int .i64 b3, .slice bA4 bw.length bc4, .slice bA5 bm.length bc5]] (by rfl) rfl rfl (by first | (simp only [List.map_toArray, List.map_cons, List.map_nil, Act.eval, Array.getD_eq_getD_getElem?, Option.getD_some, e13]; done) | (simp only [List.map_toArray, List.map_cons, List.map_nil, Act.eval, Array.getD_eq_getD_getElem?, Option.getD_some, e13]; rfl)) ?_
        with_reducible refine (HHb.out w' HB.out).mono ?_
        rintro e wq ⟨rfl, hb⟩
        refine ⟨_, rfl, ?_⟩
        refine hK.out _ _ ⟨(by rw [ha.out]; exact putSel_upk 3 hb_ rfl rfl rfl), HB.out.trans (hb.mono HB.out.size), blk_below GA.out hb, blk_below GB.out hb⟩
      refine steps_cons ?_ ?_
      · rintro b a w' ⟨ha, Q_HB, Q_GA, Q_GB⟩ hb_ hon hoff
        refine ⟨_, rfl, fun K hK => ?_⟩
        have e12 : a.tmps[12]? = some (.int .i64 0) := by rw [ha]; exact putSel_on (e := (1, 12, .int .i64 0)) 1 rfl rfl (hon 1 (by kernel_rfl)) rfl
        have e14 : a.tmps[14]? = some (.int .i64 0) := by rw [ha]; exact putSel_on (e := (3, 14, .int .i64 0)) 3 rfl rfl (hon 3 (by kernel_rfl)) rfl
        replace ha := Aside0.mk ha
        have HB := Aside0.mk Q_HB
        have GA := Aside0.mk Q_GA
        have GB := Aside0.mk Q_GB
        have hww := HWW.out
        refine value_ (w1 := w') (v := .int .i64 0) (by rfl) rfl ?_ ?_
        · go_simp
          (try simp only [i64_w])
          try first | rfl | assumption
        refine hK.out _ _ ⟨(by rw [ha.out]; exact putSel_upk 4 hb_ rfl rfl rfl), Q_HB, Q_GA, Q_GB⟩
      refine steps_cons ?_ ?_
      · rintro b a w' ⟨ha, Q_HB, Q_GA, Q_GB⟩ hb_ hon hoff
        refine ⟨_, rfl, fun K hK => ?_⟩
        have e15 : a.tmps[15]? = some (.int .i64 0) := by rw [ha]; exact putSel_on (e := (4, 15, .int .i64 0)) 4 rfl rfl (hon 4 (by kernel_rfl)) rfl
        replace ha := Aside0.mk ha
        have HB := Aside0.mk Q_HB
        have GA := Aside0.mk Q_GA
        have GB := Aside0.mk Q_GB
        refine value_ (w1 := w') (v := .bool false) (by rfl) rfl ?_ ?_
        · go_simp
          (try simp only [i64_w])
          try first | rfl | assumption
        refine hK.out _ _ ⟨(by rw [ha.out]; exact putSel_upk 5 hb_ rfl rfl rfl), Q_HB, Q_GA, Q_GB⟩
      refine steps_cons ?_ ?_
      · rintro b a w' ⟨ha, Q_HB, Q_GA, Q_GB⟩ hb_ hon hoff
        refine ⟨_, rfl, fun K hK => ?_⟩
        have e16 : a.tmps[16]? = some (.bool false) := by rw [ha]; exact putSel_on (e := (5, 16, .bool false)) 5 rfl rfl (hon 5 (by kernel_rfl)) rfl
        replace ha := Aside0.mk ha
        have HB := Aside0.mk Q_HB
        have GA := Aside0.mk Q_GA
        have GB := Aside0.mk Q_GB
        refine value_ (w1 := w') (v := .bool false) (by rfl) rfl ?_ ?_
        · go_simp
          (try simp only [i64_w])
          try first | rfl | assumption
        refine hK.out _ _ ⟨(by rw [ha.out]; exact putSel_upk 6 hb_ rfl rfl rfl), Q_HB, Q_GA, Q_GB⟩
      refine steps_cons ?_ ?_
      · rintro b a w' ⟨ha, Q_HB, Q_GA, Q_GB⟩ hb_ hon hoff
        refine ⟨_, rfl, fun K hK => ?_⟩
        have e2 : a.tmps[2]? = some (.pointer (some ⟨g2, 0, none⟩)) := by rw [ha]; exact (putSel_off rfl).trans rfl
        have e17 : a.tmps[17]? = some (.bool false) := by rw [ha]; exact putSel_on (e := (6, 17, .bool false)) 6 rfl rfl (hon 6 (by kernel_rfl)) rfl
        replace ha := Aside0.mk ha
        have HB := Aside0.mk Q_HB
        have GA := Aside0.mk Q_GA
        have GB := Aside0.mk Q_GB
        have hc0 := blk_cell GA.out 0; have hc1 := blk_cell GA.out 1; have hc2 := blk_cell GA.out 2; have hc3 := blk_cell GA.out 3; have hc4 := blk_cell GA.out 4; have hc5 := blk_cell GA.out 5
        refine value_ (w1 := w') (v := .agg #[.string a0, .int .i64 a1, .int .i64 a2, .int .i64 a3, .slice aA4 aw.length ac4, .slice aA5 am.length ac5]) (wanted_on rfl rfl rfl (e17.trans (by first | rfl | (simp [*]; done)))) rfl ?_ ?_
        · go_simp
          (try simp only [i64_w])
          try first | rfl | assumption
        refine hK.out _ _ ⟨(by rw [ha.out]; exact putSel_upk 7 hb_ rfl rfl rfl), Q_HB, Q_GA, Q_GB⟩
      refine steps_cons ?_ ?_
      · rintro b a w' ⟨ha, Q_HB, Q_GA, Q_GB⟩ hb_ hon hoff
        refine ⟨_, rfl, fun K hK => ?_⟩
        have e18 : a.tmps[18]? = some (.agg #[.string a0, .int .i64 a1, .int .i64 a2, .int .i64 a3, .slice aA4 aw.length ac4, .slice aA5 am.length ac5]) := by rw [ha]; exact putSel_on (e := (7, 18, .agg #[.string a0, .int .i64 a1, .int .i64 a2, .int .i64 a3, .slice aA4 aw.length ac4, .slice aA5 am.length ac5])) 7 rfl rfl (hon 7 (by kernel_rfl)) rfl
        have e17 : a.tmps[17]? = some (.bool false) := by rw [ha]; exact putSel_on (e := (6, 17, .bool false)) 6 rfl rfl (hon 6 (by kernel_rfl)) rfl
        replace ha := Aside0.mk ha
        have HB := Aside0.mk Q_HB
        have GA := Aside0.mk Q_GA
        have GB := Aside0.mk Q_GB
        refine goes_ Try.func8 (by kernel_rfl) rfl #[.agg #[.string a0, .int .i64 a1, .int .i64 a2, .int .i64 a3, .slice aA4 aw.length ac4, .slice aA5 am.length ac5]] (wanted_on rfl rfl rfl (e17.trans (by first | rfl | (simp [*]; done)))) rfl rfl (by first | (simp only [List.map_toArray, List.map_cons, List.map_nil, Act.eval, Array.getD_eq_getD_getElem?, Option.getD_some, e18, e17]; done) | (simp only [List.map_toArray, List.map_cons, List.map_nil, Act.eval, Array.getD_eq_getD_getElem?, Option.getD_some, e18, e17]; rfl)) ?_
        with_reducible refine (HMa.out w' HB.out).mono ?_
        rintro e wq ⟨rfl, hb⟩
        refine ⟨_, rfl, ?_⟩
        refine hK.out _ _ ⟨(by rw [ha.out]; exact putSel_upk 8 hb_ rfl rfl rfl), HB.out.trans (hb.mono HB.out.size), blk_below GA.out hb, blk_below GB.out hb⟩
      refine steps_cons ?_ ?_
      · rintro b a w' ⟨ha, Q_HB, Q_GA, Q_GB⟩ hb_ hon hoff
        refine ⟨_, rfl, fun K hK => ?_⟩
        have e19 : a.tmps[19]? = some (.int .i64 0) := by rw [ha]; exact putSel_on (e := (8, 19, .int .i64 0)) 8 rfl rfl (hon 8 (by kernel_rfl)) rfl
        have e17 : a.tmps[17]? = some (.bool false) := by rw [ha]; exact putSel_on (e := (6, 17, .bool false)) 6 rfl rfl (hon 6 (by kernel_rfl)) rfl
        replace ha := Aside0.mk ha
        have HB := Aside0.mk Q_HB
        have GA := Aside0.mk Q_GA
        have GB := Aside0.mk Q_GB
        refine value_ (w1 := w') (v := .bool false) (wanted_on rfl rfl rfl (e17.trans (by first | rfl | (simp [*]; done)))) rfl ?_ ?_
        · go_simp
          (try simp only [i64_w])
          try first | rfl | assumption
        refine hK.out _ _ ⟨(by rw [ha.out]; exact putSel_upk 9 hb_ rfl rfl rfl), Q_HB, Q_GA, Q_GB⟩
      refine steps_cons ?_ ?_
      · rintro b a w' ⟨ha, Q_HB, Q_GA, Q_GB⟩ hb_ hon hoff
        refine ⟨_, rfl, fun K hK => ?_⟩
        have e17 : a.tmps[17]? = some (.bool false) := by rw [ha]; exact putSel_on (e := (6, 17, .bool false)) 6 rfl rfl (hon 6 (by kernel_rfl)) rfl
        have e20 : a.tmps[20]? = some (.bool false) := by rw [ha]; exact putSel_on (e := (9, 20, .bool false)) 9 rfl rfl (hon 9 (by kernel_rfl)) rfl
        replace ha := Aside0.mk ha
        have HB := Aside0.mk Q_HB
        have GA := Aside0.mk Q_GA
        have GB := Aside0.mk Q_GB
        refine value_ (w1 := w') (v := .bool false) (by rfl) rfl ?_ ?_
        · go_simp
          (try simp only [i64_w])
          try first | rfl | assumption
        refine hK.out _ _ ⟨(by rw [ha.out]; exact putSel_upk 10 hb_ rfl rfl rfl), Q_HB, Q_GA, Q_GB⟩
      refine steps_cons ?_ ?_
      · rintro b a w' ⟨ha, Q_HB, Q_GA, Q_GB⟩ hb_ hon hoff
        refine ⟨_, rfl, fun K hK => ?_⟩
        have e21 : a.tmps[21]? = some (.bool false) := by rw [ha]; exact putSel_on (e := (10, 21, .bool false)) 10 rfl rfl (hon 10 (by kernel_rfl)) rfl
        replace ha := Aside0.mk ha
        have HB := Aside0.mk Q_HB
        have GA := Aside0.mk Q_GA
        have GB := Aside0.mk Q_GB
        refine value_ (w1 := w') (v := .bool false) (by rfl) rfl ?_ ?_
        · go_simp
          (try simp only [i64_w])
          try first | rfl | assumption
        refine hK.out _ _ ⟨(by rw [ha.out]; exact putSel_upk 11 hb_ rfl rfl rfl), Q_HB, Q_GA, Q_GB⟩
      refine steps_cons ?_ ?_
      · rintro b a w' ⟨ha, Q_HB, Q_GA, Q_GB⟩ hb_ hon hoff
        refine ⟨_, rfl, fun K hK => ?_⟩
        have e3 : a.tmps[3]? = some (.pointer (some ⟨g3, 0, none⟩)) := by rw [ha]; exact (putSel_off rfl).trans rfl
        have e22 : a.tmps[22]? = some (.bool false) := by rw [ha]; exact putSel_on (e := (11, 22, .bool false)) 11 rfl rfl (hon 11 (by kernel_rfl)) rfl
        replace ha := Aside0.mk ha
        have HB := Aside0.mk Q_HB
        have GA := Aside0.mk Q_GA
        have GB := Aside0.mk Q_GB
        have hc0 := blk_cell GB.out 0; have hc1 := blk_cell GB.out 1; have hc2 := blk_cell GB.out 2; have hc3 := blk_cell GB.out 3; have hc4 := blk_cell GB.out 4; have hc5 := blk_cell GB.out 5
        refine value_ (w1 := w') (v := .agg #[.string b0, .int .i64 b1, .int .i64 b2, .int .i64 b3, .slice bA4 bw.length bc4, .slice bA5 bm.length bc5]) (wanted_on rfl rfl rfl (e22.trans (by first | rfl | (simp [*]; done)))) rfl ?_ ?_
        · go_simp
          (try simp only [i64_w])
          try first | rfl | assumption
        refine hK.out _ _ ⟨(by rw [ha.out]; exact putSel_upk 12 hb_ rfl rfl rfl), Q_HB, Q_GA, Q_GB⟩
      refine steps_cons ?_ ?_
      · rintro b a w' ⟨ha, Q_HB, Q_GA, Q_GB⟩ hb_ hon hoff
        refine ⟨_, rfl, fun K hK => ?_⟩
        have e23 : a.tmps[23]? = some (.agg #[.string b0, .int .i64 b1, .int .i64 b2, .int .i64 b3, .slice bA4 bw.length bc4, .slice bA5 bm.length bc5]) := by rw [ha]; exact putSel_on (e := (12, 23, .agg #[.string b0, .int .i64 b1, .int .i64 b2, .int .i64 b3, .slice bA4 bw.length bc4, .slice bA5 bm.length bc5])) 12 rfl rfl (hon 12 (by kernel_rfl)) rfl
        have e22 : a.tmps[22]? = some (.bool false) := by rw [ha]; exact putSel_on (e := (11, 22, .bool false)) 11 rfl rfl (hon 11 (by kernel_rfl)) rfl
        replace ha := Aside0.mk ha
        have HB := Aside0.mk Q_HB
        have GA := Aside0.mk Q_GA
        have GB := Aside0.mk Q_GB
        refine goes_ Try.func8 (by kernel_rfl) rfl #[.agg #[.string b0, .int .i64 b1, .int .i64 b2, .int .i64 b3, .slice bA4 bw.length bc4, .slice bA5 bm.length bc5]] (wanted_on rfl rfl rfl (e22.trans (by first | rfl | (simp [*]; done)))) rfl rfl (by first | (simp only [List.map_toArray, List.map_cons, List.map_nil, Act.eval, Array.getD_eq_getD_getElem?, Option.getD_some, e23, e22]; done) | (simp only [List.map_toArray, List.map_cons, List.map_nil, Act.eval, Array.getD_eq_getD_getElem?, Option.getD_some, e23, e22]; rfl)) ?_
        with_reducible refine (HMb.out w' HB.out).mono ?_
        rintro e wq ⟨rfl, hb⟩
        refine ⟨_, rfl, ?_⟩
        refine hK.out _ _ ⟨(by rw [ha.out]; exact putSel_upk 13 hb_ rfl rfl rfl), HB.out.trans (hb.mono HB.out.size), blk_below GA.out hb, blk_below GB.out hb⟩
      refine steps_cons ?_ ?_
      · rintro b a w' ⟨ha, Q_HB, Q_GA, Q_GB⟩ hb_ hon hoff
        refine ⟨_, rfl, fun K hK => ?_⟩
        have e24 : a.tmps[24]? = some (.int .i64 p2) := by rw [ha]; exact putSel_on (e := (13, 24, .int .i64 p2)) 13 rfl rfl (hon 13 (by kernel_rfl)) rfl
        have e22 : a.tmps[22]? = some (.bool false) := by rw [ha]; exact putSel_on (e := (11, 22, .bool false)) 11 rfl rfl (hon 11 (by kernel_rfl)) rfl
        replace ha := Aside0.mk ha
        have HB := Aside0.mk Q_HB
        have GA := Aside0.mk Q_GA
        have GB := Aside0.mk Q_GB
        have hpn := HPN.out
        refine value_ (w1 := w') (v := .bool true) (wanted_on rfl rfl rfl (e22.trans (by first | rfl | (simp [*]; done)))) rfl ?_ ?_
        · go_simp
          (try simp only [i64_w])
          try first | rfl | assumption
        refine hK.out _ _ ⟨(by rw [ha.out]; exact putSel_upk 14 hb_ rfl rfl rfl), Q_HB, Q_GA, Q_GB⟩
      refine steps_cons ?_ ?_
      · rintro b a w' ⟨ha, Q_HB, Q_GA, Q_GB⟩ hb_ hon hoff
        refine ⟨_, rfl, fun K hK => ?_⟩
        have e22 : a.tmps[22]? = some (.bool false) := by rw [ha]; exact putSel_on (e := (11, 22, .bool false)) 11 rfl rfl (hon 11 (by kernel_rfl)) rfl
        have e25 : a.tmps[25]? = some (.bool true) := by rw [ha]; exact putSel_on (e := (14, 25, .bool true)) 14 rfl rfl (hon 14 (by kernel_rfl)) rfl
        replace ha := Aside0.mk ha
        have HB := Aside0.mk Q_HB
        have GA := Aside0.mk Q_GA
        have GB := Aside0.mk Q_GB
        refine value_ (w1 := w') (v := .bool true) (by rfl) rfl ?_ ?_
        · go_simp
          (try simp only [i64_w])
          try first | rfl | assumption
        refine hK.out _ _ ⟨(by rw [ha.out]; exact putSel_upk 15 hb_ rfl rfl rfl), Q_HB, Q_GA, Q_GB⟩
      exact steps_nil
    rintro b a w3 hall ⟨ha, Q_HB, Q_GA, Q_GB⟩
    clear GA GB HB
    have hb0_ := hall 0 (by kernel_rfl)
    have hb1_ := hall 1 (by kernel_rfl)
    have hb2_ := hall 2 (by kernel_rfl)
    have hb3_ := hall 3 (by kernel_rfl)
    have hb4_ := hall 4 (by kernel_rfl)
    have hb5_ := hall 5 (by kernel_rfl)
    have hb6_ := hall 6 (by kernel_rfl)
    have hb7_ := hall 7 (by kernel_rfl)
    have hb8_ := hall 8 (by kernel_rfl)
    have hb9_ := hall 9 (by kernel_rfl)
    have hb10_ := hall 10 (by kernel_rfl)
    have hb11_ := hall 11 (by kernel_rfl)
    have hb12_ := hall 12 (by kernel_rfl)
    have hb13_ := hall 13 (by kernel_rfl)
    have hb14_ := hall 14 (by kernel_rfl)
    have hb15_ := hall 15 (by kernel_rfl)
    subst ha
    simp only [putSel, hb0_, hb1_, hb2_, hb3_, hb4_, hb5_, hb6_, hb7_, hb8_, hb9_, hb10_, hb11_, hb12_, hb13_, hb14_, hb15_, if_true, Act.put, List.setIfInBounds_toArray, List.set_cons_zero, List.set_cons_succ]
    have HB := Aside0.mk Q_HB
    clear Q_HB
    have GA := Aside0.mk Q_GA
    clear Q_GA
    have GB := Aside0.mk Q_GB
    clear Q_GB
    clear hall hb0_ hb1_ hb2_ hb3_ hb4_ hb5_ hb6_ hb7_ hb8_ hb9_ hb10_ hb11_ hb12_ hb13_ hb14_ hb15_
    go_wp2_with (go_at_call 9; refine (hAw.out _).mono ?_; rintro e w4 ⟨rfl, hb⟩; have HB4 := Aside0.mk (HB.out.trans (hb.mono HB.out.size)); clear hb)
    go_ret
    exact ⟨rfl, HB4.out⟩
  case pos =>
    rw [hPb] at HMb
    have hMa : FpQ.May ⟨a0, a1, a2, a3, aw, am⟩ := hPa
    have hMb : FpQ.May ⟨b0, b1, b2, b3, bw, bm⟩ := hPb
    have hXb := all_bytes ⟨a0, a1, a2, a3, aw, am⟩
    have hXl := all_len hMa
    have hss := str_same hMa hMb
    have hPs := parse_same hMa a0
    rw [if_pos rfl] at hPs
    obtain ⟨X, hX⟩ : ∃ X, X = [77, 66, 51] ++ boxE ⟨a0, a1, a2, a3, aw, am⟩ := ⟨_, rfl⟩
    obtain ⟨Y, hY⟩ : ∃ Y, Y = [77, 66, 51] ++ boxE ⟨b0, b1, b2, b3, bw, bm⟩ := ⟨_, rfl⟩
    rw [← hX] at hXb hXl hss hPs
    rw [← hY] at hss
    simp only at hss
    have HXa : Aside0 (∀ W, Below w.heap.size w W → Calls Try.prog 10 #[.agg #[.string a0, .int .i64 a1, .int .i64 a2, .int .i64 a3, .slice aA4 aw.length ac4, .slice aA5 am.length ac5]] W fun e w' => ∃ v', e = .returned (.tuple #[v', .int .i64 0]) ∧ Rb w' v' X ∧ Below W.heap.size W w') := ⟨fun W hW => by
      have h := bytes_calls a0 a1 a2 a3 aA4 ac4 aw aA5 ac5 am W (Kd.C_below hC4a hW) hc4a (Kd.C_below hC5a hW) hc5a hba hPa
      rw [boxE_all (b := ⟨a0, a1, a2, a3, aw, am⟩), ← hX] at h
      exact h⟩
    have HXb : Aside0 (∀ W, Below w.heap.size w W → Calls Try.prog 10 #[.agg #[.string b0, .int .i64 b1, .int .i64 b2, .int .i64 b3, .slice bA4 bw.length bc4, .slice bA5 bm.length bc5]] W fun e w' => ∃ v', e = .returned (.tuple #[v', .int .i64 0]) ∧ Rb w' v' Y ∧ Below W.heap.size W w') := ⟨fun W hW => by
      have h := bytes_calls b0 b1 b2 b3 bA4 bc4 bw bA5 bc5 bm W (Kd.C_below hC4b hW) hc4b (Kd.C_below hC5b hW) hc5b hbb hPb
      rw [boxE_all (b := ⟨b0, b1, b2, b3, bw, bm⟩), ← hY] at h
      exact h⟩
    have HPs : Aside0 (∀ W v, Rb W v X → Calls Try.prog 12 #[v, .string a0] W fun e w' => ∃ A4 c4 A5 c5, e = .returned (.tuple #[.agg #[.string a0, .int .i64 a1, .int .i64 a2, .int .i64 a3, .slice A4 aw.length c4, .slice A5 am.length c5], .int .i64 0]) ∧ (Kd.C Kd.string w' A4 aw.length aw ∧ aw.length ≤ c4) ∧ (Kd.C k35 w' A5 am.length am ∧ am.length ≤ c5) ∧ Below W.heap.size W w') := ⟨fun W v hv => by
      have h := parse_calls a0 W hv hXb (by omega)
      rw [hPs] at h
      exact h⟩
    obtain ⟨r, hr⟩ : ∃ r, r = sameB a0 b0 a1 a2 a3 b1 b2 b3 aw bw am bm := ⟨_, rfl⟩
    rw [← hr] at hss
    have HS1 : Aside0 (∀ W A4 c4 A5 c5, Below w.heap.size w W → (Kd.C Kd.string W A4 aw.length aw ∧ aw.length ≤ c4) → (Kd.C k35 W A5 am.length am ∧ am.length ≤ c5) → Calls Try.prog 13 #[.agg #[.string a0, .int .i64 a1, .int .i64 a2, .int .i64 a3, .slice aA4 aw.length ac4, .slice aA5 am.length ac5], .agg #[.string a0, .int .i64 a1, .int .i64 a2, .int .i64 a3, .slice A4 aw.length c4, .slice A5 am.length c5]] W fun e w' => e = .returned (.bool true) ∧ Below W.heap.size W w') := ⟨fun W A4 c4 A5 c5 hW h4 h5 => by
      obtain ⟨k, hk⟩ := (sameBox_ev a0 a0 a1 a2 a3 a1 a2 a3 aw aw am am (by omega) (fun m hm => by have := hw2a m hm; unfold wt at this; omega) (by omega)).get
      have e := sameB_self a0 a1 a2 a3 aw am
      rw [e] at hk
      exact mailsackref1_SameBox.calls k a0 a1 a2 a3 aA4 ac4 aw aA5 ac5 am a0 a1 a2 a3 A4 c4 aw A5 c5 am true W (Kd.C_below hC4a hW) hc4a (Kd.C_below hC5a hW) hc5a h4.1 h4.2 h5.1 h5.2 hk⟩
    have HS2 : Aside0 (∀ W, Below w.heap.size w W → Calls Try.prog 13 #[.agg #[.string a0, .int .i64 a1, .int .i64 a2, .int .i64 a3, .slice aA4 aw.length ac4, .slice aA5 am.length ac5], .agg #[.string b0, .int .i64 b1, .int .i64 b2, .int .i64 b3, .slice bA4 bw.length bc4, .slice bA5 bm.length bc5]] W fun e w' => e = .returned (.bool r) ∧ Below W.heap.size W w') := ⟨fun W hW => by
      obtain ⟨k, hk⟩ := (sameBox_ev a0 b0 a1 a2 a3 b1 b2 b3 aw bw am bm (by omega) (fun m hm => by have := hw2a m hm; unfold wt at this; omega) (by omega)).get
      rw [← hr] at hk
      exact mailsackref1_SameBox.calls k a0 a1 a2 a3 aA4 ac4 aw aA5 ac5 am b0 b1 b2 b3 bA4 bc4 bw bA5 bc5 bm r W (Kd.C_below hC4a hW) hc4a (Kd.C_below hC5a hW) hc5a (Kd.C_below hC4b hW) hc4b (Kd.C_below hC5b hW) hc5b hk⟩
    have HSS := Aside0.mk hss
    clear hC4a hC5a h0a hsa hwa hl4a hl5a hc4a hc5a hC4b hC5b h0b hsb hwb hl4b hl5b hc4b hc5b hba hw2a hs2a hbb hw2b hs2b h01a h01b hPa hPb hMa hMb hss hX hY hr hXb hXl hPs
    obtain ⟨sx, hsx⟩ : ∃ sx, strOfNums X = sx := ⟨_, rfl⟩
    obtain ⟨sy, hsy⟩ : ∃ sy, strOfNums Y = sy := ⟨_, rfl⟩
    rw [hsx, hsy] at HSS
    have HSX := Aside0.mk hsx
    have HSY := Aside0.mk hsy
    clear hsx hsy
    go_enter Try.func4, Try.ntmps4
    go_upto_region 1 with (first
      | ((with_reducible refine gate_dst (N := 2) rfl ?_); refine box_event ?hg2 (N := 2) ?hd2 (cs := #[.string a0, .int .i64 a1, .int .i64 a2, .int .i64 a3, .slice aA4 aw.length ac4, .slice aA5 am.length ac5]) (t := 25) ?hr2 ?_; (case hd2 => rfl); (case hg2 => rfl); (case hr2 => first | (go_simp; done) | (go_simp; rfl)); intro g2 hg2 w1 hbx hb1; have GA1 := Aside0.mk hbx; have HB1 := Aside0.mk hb1; clear hg2 hbx hb1)
      | ((with_reducible refine gate_dst (N := 3) rfl ?_); refine box_event ?hg3 (N := 3) ?hd3 (cs := #[.string b0, .int .i64 b1, .int .i64 b2, .int .i64 b3, .slice bA4 bw.length bc4, .slice bA5 bm.length bc5]) (t := 25) ?hr3 ?_; (case hd3 => rfl); (case hg3 => rfl); (case hr3 => first | (go_simp; done) | (go_simp; rfl)); intro g3 hg3 w2 hbx hb1; have GB := Aside0.mk hbx; have GA := Aside0.mk (blk_below GA1.out hb1); have HB := Aside0.mk (HB1.out.trans (hb1.mono HB1.out.size)); clear hg3 hbx hb1))
    refine start_ (n := 16) (S := fun w' => True) (ds := []) #[false, false, false, false, false, false, false, false, false, false, false, false, false, false, false, false] (by kernel_rfl) rfl rfl trivial (fun hHeld => ?_)
    refine with_tabW t_mailsacklaw10_Form3Back.tab1 t_mailsacklaw10_Form3Back.bits1 (fun HT_ HW_ => ?_)
    have hd_ := (below_drew1 (Below.refl w2.heap.size w2))
    have n_HB := Aside0.mk (HB.out.drew)
    have n_GA := Aside0.mk ((show w2.drew.heap[g2]? = _ from GA.out))
    have n_GB := Aside0.mk ((show w2.drew.heap[g3]? = _ from GB.out))
    clear HB
    have HB := n_HB
    clear n_HB
    clear GA
    have GA := n_GA
    clear n_GA
    clear GB
    have GB := n_GB
    clear n_GB
    generalize w2.drew = w_d at *
    clear hd_
    refine inv_at [0, 1, 2, 3, 4, 5, 6, 7, 8, 9, 10, 11, 12, 13, 14, 15] (fun a0_ b a w' => a = putSel a0_ b [(0, 11, .agg #[.string a0, .int .i64 a1, .int .i64 a2, .int .i64 a3, .slice aA4 aw.length ac4, .slice aA5 am.length ac5]), (1, 12, .int .i64 0), (2, 13, .agg #[.string b0, .int .i64 b1, .int .i64 b2, .int .i64 b3, .slice bA4 bw.length bc4, .slice bA5 bm.length bc5]), (3, 14, .int .i64 0), (4, 15, .int .i64 0), (5, 16, .bool false), (6, 17, .bool false), (7, 18, .agg #[.string a0, .int .i64 a1, .int .i64 a2, .int .i64 a3, .slice aA4 aw.length ac4, .slice aA5 am.length ac5]), (8, 19, .int .i64 0), (9, 20, .bool false), (10, 21, .bool false), (11, 22, .bool false), (12, 23, .agg #[.string b0, .int .i64 b1, .int .i64 b2, .int .i64 b3, .slice bA4 bw.length bc4, .slice bA5 bm.length bc5]), (13, 24, .int .i64 0), (14, 25, .bool false), (15, 26, .bool false)] ∧ (Below w.heap.size w w') ∧ (w'.heap[g2]? = some (.cells #[.string a0, .int .i64 a1, .int .i64 a2, .int .i64 a3, .slice aA4 aw.length ac4, .slice aA5 am.length ac5] 25 (0, 0))) ∧ (w'.heap[g3]? = some (.cells #[.string b0, .int .i64 b1, .int .i64 b2, .int .i64 b3, .slice bA4 bw.length bc4, .slice bA5 bm.length bc5] 25 (0, 0)))) HT_.out HW_.out (by kernel_rfl) (by kernel_rfl) ?_ ?_ ?_
    · exact ⟨by simp only [putSel, Bool.false_eq_true, if_false], HB.out, GA.out, GB.out⟩
    · skip
      clear GA GB HB
      refine steps_cons ?_ ?_
      · rintro b a w' ⟨ha, Q_HB, Q_GA, Q_GB⟩ hb_ hon hoff
        refine ⟨_, rfl, fun K hK => ?_⟩
        have e2 : a.tmps[2]? = some (.pointer (some ⟨g2, 0, none⟩)) := by rw [ha]; exact (putSel_off rfl).trans rfl
        replace ha := Aside0.mk ha
        have HB := Aside0.mk Q_HB
        have GA := Aside0.mk Q_GA
        have GB := Aside0.mk Q_GB
        have hc0 := blk_cell GA.out 0; have hc1 := blk_cell GA.out 1; have hc2 := blk_cell GA.out 2; have hc3 := blk_cell GA.out 3; have hc4 := blk_cell GA.out 4; have hc5 := blk_cell GA.out 5
        refine value_ (w1 := w') (v := .agg #[.string a0, .int .i64 a1, .int .i64 a2, .int .i64 a3, .slice aA4 aw.length ac4, .slice aA5 am.length ac5]) (by rfl) rfl ?_ ?_
        · go_simp
          (try simp only [i64_w])
          try first | rfl | assumption
        refine hK.out _ _ ⟨(by rw [ha.out]; exact putSel_upk 0 hb_ rfl rfl rfl), Q_HB, Q_GA, Q_GB⟩
      refine steps_cons ?_ ?_
      · rintro b a w' ⟨ha, Q_HB, Q_GA, Q_GB⟩ hb_ hon hoff
        refine ⟨_, rfl, fun K hK => ?_⟩
        have e11 : a.tmps[11]? = some (.agg #[.string a0, .int .i64 a1, .int .i64 a2, .int .i64 a3, .slice aA4 aw.length ac4, .slice aA5 am.length ac5]) := by rw [ha]; exact putSel_on (e := (0, 11, .agg #[.string a0, .int .i64 a1, .int .i64 a2, .int .i64 a3, .slice aA4 aw.length ac4, .slice aA5 am.length ac5])) 0 rfl rfl (hon 0 (by kernel_rfl)) rfl
        replace ha := Aside0.mk ha
        have HB := Aside0.mk Q_HB
        have GA := Aside0.mk Q_GA
        have GB := Aside0.mk Q_GB
        refine goes_ Try.func7 (by kernel_rfl) rfl #[.agg #[.string a0, .int .i64 a1, .int .i64 a2, .int .i64 a3, .slice aA4 aw.length ac4, .slice aA5 am.length ac5]] (by rfl) rfl rfl (by first | (simp only [List.map_toArray, List.map_cons, List.map_nil, Act.eval, Array.getD_eq_getD_getElem?, Option.getD_some, e11]; done) | (simp only [List.map_toArray, List.map_cons, List.map_nil, Act.eval, Array.getD_eq_getD_getElem?, Option.getD_some, e11]; rfl)) ?_
        with_reducible refine (HHa.out w' HB.out).mono ?_
        rintro e wq ⟨rfl, hb⟩
        refine ⟨_, rfl, ?_⟩
        refine hK.out _ _ ⟨(by rw [ha.out]; exact putSel_upk 1 hb_ rfl rfl rfl), HB.out.trans (hb.mono HB.out.size), blk_below GA.out hb, blk_below GB.out hb⟩
      refine steps_cons ?_ ?_
      · rintro b a w' ⟨ha, Q_HB, Q_GA, Q_GB⟩ hb_ hon hoff
        refine ⟨_, rfl, fun K hK => ?_⟩
        have e3 : a.tmps[3]? = some (.pointer (some ⟨g3, 0, none⟩)) := by rw [ha]; exact (putSel_off rfl).trans rfl
        replace ha := Aside0.mk ha
        have HB := Aside0.mk Q_HB
        have GA := Aside0.mk Q_GA
        have GB := Aside0.mk Q_GB
        have hc0 := blk_cell GB.out 0; have hc1 := blk_cell GB.out 1; have hc2 := blk_cell GB.out 2; have hc3 := blk_cell GB.out 3; have hc4 := blk_cell GB.out 4; have hc5 := blk_cell GB.out 5
        refine value_ (w1 := w') (v := .agg #[.string b0, .int .i64 b1, .int .i64 b2, .int .i64 b3, .slice bA4 bw.length bc4, .slice bA5 bm.length bc5]) (by rfl) rfl ?_ ?_
        · go_simp
          (try simp only [i64_w])
          try first | rfl | assumption
        refine hK.out _ _ ⟨(by rw [ha.out]; exact putSel_upk 2 hb_ rfl rfl rfl), Q_HB, Q_GA, Q_GB⟩
      refine steps_cons ?_ ?_
      · rintro b a w' ⟨ha, Q_HB, Q_GA, Q_GB⟩ hb_ hon hoff
        refine ⟨_, rfl, fun K hK => ?_⟩
        have e13 : a.tmps[13]? = some (.agg #[.string b0, .int .i64 b1, .int .i64 b2, .int .i64 b3, .slice bA4 bw.length bc4, .slice bA5 bm.length bc5]) := by rw [ha]; exact putSel_on (e := (2, 13, .agg #[.string b0, .int .i64 b1, .int .i64 b2, .int .i64 b3, .slice bA4 bw.length bc4, .slice bA5 bm.length bc5])) 2 rfl rfl (hon 2 (by kernel_rfl)) rfl
        replace ha := Aside0.mk ha
        have HB := Aside0.mk Q_HB
        have GA := Aside0.mk Q_GA
        have GB := Aside0.mk Q_GB
        refine goes_ Try.func7 (by kernel_rfl) rfl #[.agg #[.string b0, .int .i64 b1, .int .i64 b2, .int .i64 b3, .slice bA4 bw.length bc4, .slice bA5 bm.length bc5]] (by rfl) rfl rfl (by first | (simp only [List.map_toArray, List.map_cons, List.map_nil, Act.eval, Array.getD_eq_getD_getElem?, Option.getD_some, e13]; done) | (simp only [List.map_toArray, List.map_cons, List.map_nil, Act.eval, Array.getD_eq_getD_getElem?, Option.getD_some, e13]; rfl)) ?_
        with_reducible refine (HHb.out w' HB.out).mono ?_
        rintro e wq ⟨rfl, hb⟩
        refine ⟨_, rfl, ?_⟩
        refine hK.out _ _ ⟨(by rw [ha.out]; exact putSel_upk 3 hb_ rfl rfl rfl), HB.out.trans (hb.mono HB.out.size), blk_below GA.out hb, blk_below GB.out hb⟩
      refine steps_cons ?_ ?_
      · rintro b a w' ⟨ha, Q_HB, Q_GA, Q_GB⟩ hb_ hon hoff
        refine ⟨_, rfl, fun K hK => ?_⟩
        have e12 : a.tmps[12]? = some (.int .i64 0) := by rw [ha]; exact putSel_on (e := (1, 12, .int .i64 0)) 1 rfl rfl (hon 1 (by kernel_rfl)) rfl
        have e14 : a.tmps[14]? = some (.int .i64 0) := by rw [ha]; exact putSel_on (e := (3, 14, .int .i64 0)) 3 rfl rfl (hon 3 (by kernel_rfl)) rfl
        replace ha := Aside0.mk ha
        have HB := Aside0.mk Q_HB
        have GA := Aside0.mk Q_GA
        have GB := Aside0.mk Q_GB
        have hww := HWW.out
        refine value_ (w1 := w') (v := .int .i64 0) (by rfl) rfl ?_ ?_
        · go_simp
          (try simp only [i64_w])
          try first | rfl | assumption
        refine hK.out _ _ ⟨(by rw [ha.out]; exact putSel_upk 4 hb_ rfl rfl rfl), Q_HB, Q_GA, Q_GB⟩
      refine steps_cons ?_ ?_
      · rintro b a w' ⟨ha, Q_HB, Q_GA, Q_GB⟩ hb_ hon hoff
        refine ⟨_, rfl, fun K hK => ?_⟩
        have e15 : a.tmps[15]? = some (.int .i64 0) := by rw [ha]; exact putSel_on (e := (4, 15, .int .i64 0)) 4 rfl rfl (hon 4 (by kernel_rfl)) rfl
        replace ha := Aside0.mk ha
        have HB := Aside0.mk Q_HB
        have GA := Aside0.mk Q_GA
        have GB := Aside0.mk Q_GB
        refine value_ (w1 := w') (v := .bool false) (by rfl) rfl ?_ ?_
        · go_simp
          (try simp only [i64_w])
          try first | rfl | assumption
        refine hK.out _ _ ⟨(by rw [ha.out]; exact putSel_upk 5 hb_ rfl rfl rfl), Q_HB, Q_GA, Q_GB⟩
      refine steps_cons ?_ ?_
      · rintro b a w' ⟨ha, Q_HB, Q_GA, Q_GB⟩ hb_ hon hoff
        refine ⟨_, rfl, fun K hK => ?_⟩
        have e16 : a.tmps[16]? = some (.bool false) := by rw [ha]; exact putSel_on (e := (5, 16, .bool false)) 5 rfl rfl (hon 5 (by kernel_rfl)) rfl
        replace ha := Aside0.mk ha
        have HB := Aside0.mk Q_HB
        have GA := Aside0.mk Q_GA
        have GB := Aside0.mk Q_GB
        refine value_ (w1 := w') (v := .bool false) (by rfl) rfl ?_ ?_
        · go_simp
          (try simp only [i64_w])
          try first | rfl | assumption
        refine hK.out _ _ ⟨(by rw [ha.out]; exact putSel_upk 6 hb_ rfl rfl rfl), Q_HB, Q_GA, Q_GB⟩
      refine steps_cons ?_ ?_
      · rintro b a w' ⟨ha, Q_HB, Q_GA, Q_GB⟩ hb_ hon hoff
        refine ⟨_, rfl, fun K hK => ?_⟩
        have e2 : a.tmps[2]? = some (.pointer (some ⟨g2, 0, none⟩)) := by rw [ha]; exact (putSel_off rfl).trans rfl
        have e17 : a.tmps[17]? = some (.bool false) := by rw [ha]; exact putSel_on (e := (6, 17, .bool false)) 6 rfl rfl (hon 6 (by kernel_rfl)) rfl
        replace ha := Aside0.mk ha
        have HB := Aside0.mk Q_HB
        have GA := Aside0.mk Q_GA
        have GB := Aside0.mk Q_GB
        have hc0 := blk_cell GA.out 0; have hc1 := blk_cell GA.out 1; have hc2 := blk_cell GA.out 2; have hc3 := blk_cell GA.out 3; have hc4 := blk_cell GA.out 4; have hc5 := blk_cell GA.out 5
        refine value_ (w1 := w') (v := .agg #[.string a0, .int .i64 a1, .int .i64 a2, .int .i64 a3, .slice aA4 aw.length ac4, .slice aA5 am.length ac5]) (wanted_on rfl rfl rfl (e17.trans (by first | rfl | (simp [*]; done)))) rfl ?_ ?_
        · go_simp
          (try simp only [i64_w])
          try first | rfl | assumption
        refine hK.out _ _ ⟨(by rw [ha.out]; exact putSel_upk 7 hb_ rfl rfl rfl), Q_HB, Q_GA, Q_GB⟩
      refine steps_cons ?_ ?_
      · rintro b a w' ⟨ha, Q_HB, Q_GA, Q_GB⟩ hb_ hon hoff
        refine ⟨_, rfl, fun K hK => ?_⟩
        have e18 : a.tmps[18]? = some (.agg #[.string a0, .int .i64 a1, .int .i64 a2, .int .i64 a3, .slice aA4 aw.length ac4, .slice aA5 am.length ac5]) := by rw [ha]; exact putSel_on (e := (7, 18, .agg #[.string a0, .int .i64 a1, .int .i64 a2, .int .i64 a3, .slice aA4 aw.length ac4, .slice aA5 am.length ac5])) 7 rfl rfl (hon 7 (by kernel_rfl)) rfl
        have e17 : a.tmps[17]? = some (.bool false) := by rw [ha]; exact putSel_on (e := (6, 17, .bool false)) 6 rfl rfl (hon 6 (by kernel_rfl)) rfl
        replace ha := Aside0.mk ha
        have HB := Aside0.mk Q_HB
        have GA := Aside0.mk Q_GA
        have GB := Aside0.mk Q_GB
        refine goes_ Try.func8 (by kernel_rfl) rfl #[.agg #[.string a0, .int .i64 a1, .int .i64 a2, .int .i64 a3, .slice aA4 aw.length ac4, .slice aA5 am.length ac5]] (wanted_on rfl rfl rfl (e17.trans (by first | rfl | (simp [*]; done)))) rfl rfl (by first | (simp only [List.map_toArray, List.map_cons, List.map_nil, Act.eval, Array.getD_eq_getD_getElem?, Option.getD_some, e18, e17]; done) | (simp only [List.map_toArray, List.map_cons, List.map_nil, Act.eval, Array.getD_eq_getD_getElem?, Option.getD_some, e18, e17]; rfl)) ?_
        with_reducible refine (HMa.out w' HB.out).mono ?_
        rintro e wq ⟨rfl, hb⟩
        refine ⟨_, rfl, ?_⟩
        refine hK.out _ _ ⟨(by rw [ha.out]; exact putSel_upk 8 hb_ rfl rfl rfl), HB.out.trans (hb.mono HB.out.size), blk_below GA.out hb, blk_below GB.out hb⟩
      refine steps_cons ?_ ?_
      · rintro b a w' ⟨ha, Q_HB, Q_GA, Q_GB⟩ hb_ hon hoff
        refine ⟨_, rfl, fun K hK => ?_⟩
        have e19 : a.tmps[19]? = some (.int .i64 0) := by rw [ha]; exact putSel_on (e := (8, 19, .int .i64 0)) 8 rfl rfl (hon 8 (by kernel_rfl)) rfl
        have e17 : a.tmps[17]? = some (.bool false) := by rw [ha]; exact putSel_on (e := (6, 17, .bool false)) 6 rfl rfl (hon 6 (by kernel_rfl)) rfl
        replace ha := Aside0.mk ha
        have HB := Aside0.mk Q_HB
        have GA := Aside0.mk Q_GA
        have GB := Aside0.mk Q_GB
        refine value_ (w1 := w') (v := .bool false) (wanted_on rfl rfl rfl (e17.trans (by first | rfl | (simp [*]; done)))) rfl ?_ ?_
        · go_simp
          (try simp only [i64_w])
          try first | rfl | assumption
        refine hK.out _ _ ⟨(by rw [ha.out]; exact putSel_upk 9 hb_ rfl rfl rfl), Q_HB, Q_GA, Q_GB⟩
      refine steps_cons ?_ ?_
      · rintro b a w' ⟨ha, Q_HB, Q_GA, Q_GB⟩ hb_ hon hoff
        refine ⟨_, rfl, fun K hK => ?_⟩
        have e17 : a.tmps[17]? = some (.bool false) := by rw [ha]; exact putSel_on (e := (6, 17, .bool false)) 6 rfl rfl (hon 6 (by kernel_rfl)) rfl
        have e20 : a.tmps[20]? = some (.bool false) := by rw [ha]; exact putSel_on (e := (9, 20, .bool false)) 9 rfl rfl (hon 9 (by kernel_rfl)) rfl
        replace ha := Aside0.mk ha
        have HB := Aside0.mk Q_HB
        have GA := Aside0.mk Q_GA
        have GB := Aside0.mk Q_GB
        refine value_ (w1 := w') (v := .bool false) (by rfl) rfl ?_ ?_
        · go_simp
          (try simp only [i64_w])
          try first | rfl | assumption
        refine hK.out _ _ ⟨(by rw [ha.out]; exact putSel_upk 10 hb_ rfl rfl rfl), Q_HB, Q_GA, Q_GB⟩
      refine steps_cons ?_ ?_
      · rintro b a w' ⟨ha, Q_HB, Q_GA, Q_GB⟩ hb_ hon hoff
        refine ⟨_, rfl, fun K hK => ?_⟩
        have e21 : a.tmps[21]? = some (.bool false) := by rw [ha]; exact putSel_on (e := (10, 21, .bool false)) 10 rfl rfl (hon 10 (by kernel_rfl)) rfl
        replace ha := Aside0.mk ha
        have HB := Aside0.mk Q_HB
        have GA := Aside0.mk Q_GA
        have GB := Aside0.mk Q_GB
        refine value_ (w1 := w') (v := .bool false) (by rfl) rfl ?_ ?_
        · go_simp
          (try simp only [i64_w])
          try first | rfl | assumption
        refine hK.out _ _ ⟨(by rw [ha.out]; exact putSel_upk 11 hb_ rfl rfl rfl), Q_HB, Q_GA, Q_GB⟩
      refine steps_cons ?_ ?_
      · rintro b a w' ⟨ha, Q_HB, Q_GA, Q_GB⟩ hb_ hon hoff
        refine ⟨_, rfl, fun K hK => ?_⟩
        have e3 : a.tmps[3]? = some (.pointer (some ⟨g3, 0, none⟩)) := by rw [ha]; exact (putSel_off rfl).trans rfl
        have e22 : a.tmps[22]? = some (.bool false) := by rw [ha]; exact putSel_on (e := (11, 22, .bool false)) 11 rfl rfl (hon 11 (by kernel_rfl)) rfl
        replace ha := Aside0.mk ha
        have HB := Aside0.mk Q_HB
        have GA := Aside0.mk Q_GA
        have GB := Aside0.mk Q_GB
        have hc0 := blk_cell GB.out 0; have hc1 := blk_cell GB.out 1; have hc2 := blk_cell GB.out 2; have hc3 := blk_cell GB.out 3; have hc4 := blk_cell GB.out 4; have hc5 := blk_cell GB.out 5
        refine value_ (w1 := w') (v := .agg #[.string b0, .int .i64 b1, .int .i64 b2, .int .i64 b3, .slice bA4 bw.length bc4, .slice bA5 bm.length bc5]) (wanted_on rfl rfl rfl (e22.trans (by first | rfl | (simp [*]; done)))) rfl ?_ ?_
        · go_simp
          (try simp only [i64_w])
          try first | rfl | assumption
        refine hK.out _ _ ⟨(by rw [ha.out]; exact putSel_upk 12 hb_ rfl rfl rfl), Q_HB, Q_GA, Q_GB⟩
      refine steps_cons ?_ ?_
      · rintro b a w' ⟨ha, Q_HB, Q_GA, Q_GB⟩ hb_ hon hoff
        refine ⟨_, rfl, fun K hK => ?_⟩
        have e23 : a.tmps[23]? = some (.agg #[.string b0, .int .i64 b1, .int .i64 b2, .int .i64 b3, .slice bA4 bw.length bc4, .slice bA5 bm.length bc5]) := by rw [ha]; exact putSel_on (e := (12, 23, .agg #[.string b0, .int .i64 b1, .int .i64 b2, .int .i64 b3, .slice bA4 bw.length bc4, .slice bA5 bm.length bc5])) 12 rfl rfl (hon 12 (by kernel_rfl)) rfl
        have e22 : a.tmps[22]? = some (.bool false) := by rw [ha]; exact putSel_on (e := (11, 22, .bool false)) 11 rfl rfl (hon 11 (by kernel_rfl)) rfl
        replace ha := Aside0.mk ha
        have HB := Aside0.mk Q_HB
        have GA := Aside0.mk Q_GA
        have GB := Aside0.mk Q_GB
        refine goes_ Try.func8 (by kernel_rfl) rfl #[.agg #[.string b0, .int .i64 b1, .int .i64 b2, .int .i64 b3, .slice bA4 bw.length bc4, .slice bA5 bm.length bc5]] (wanted_on rfl rfl rfl (e22.trans (by first | rfl | (simp [*]; done)))) rfl rfl (by first | (simp only [List.map_toArray, List.map_cons, List.map_nil, Act.eval, Array.getD_eq_getD_getElem?, Option.getD_some, e23, e22]; done) | (simp only [List.map_toArray, List.map_cons, List.map_nil, Act.eval, Array.getD_eq_getD_getElem?, Option.getD_some, e23, e22]; rfl)) ?_
        with_reducible refine (HMb.out w' HB.out).mono ?_
        rintro e wq ⟨rfl, hb⟩
        refine ⟨_, rfl, ?_⟩
        refine hK.out _ _ ⟨(by rw [ha.out]; exact putSel_upk 13 hb_ rfl rfl rfl), HB.out.trans (hb.mono HB.out.size), blk_below GA.out hb, blk_below GB.out hb⟩
      refine steps_cons ?_ ?_
      · rintro b a w' ⟨ha, Q_HB, Q_GA, Q_GB⟩ hb_ hon hoff
        refine ⟨_, rfl, fun K hK => ?_⟩
        have e24 : a.tmps[24]? = some (.int .i64 0) := by rw [ha]; exact putSel_on (e := (13, 24, .int .i64 0)) 13 rfl rfl (hon 13 (by kernel_rfl)) rfl
        have e22 : a.tmps[22]? = some (.bool false) := by rw [ha]; exact putSel_on (e := (11, 22, .bool false)) 11 rfl rfl (hon 11 (by kernel_rfl)) rfl
        replace ha := Aside0.mk ha
        have HB := Aside0.mk Q_HB
        have GA := Aside0.mk Q_GA
        have GB := Aside0.mk Q_GB
        refine value_ (w1 := w') (v := .bool false) (wanted_on rfl rfl rfl (e22.trans (by first | rfl | (simp [*]; done)))) rfl ?_ ?_
        · go_simp
          (try simp only [i64_w])
          try first | rfl | assumption
        refine hK.out _ _ ⟨(by rw [ha.out]; exact putSel_upk 14 hb_ rfl rfl rfl), Q_HB, Q_GA, Q_GB⟩
      refine steps_cons ?_ ?_
      · rintro b a w' ⟨ha, Q_HB, Q_GA, Q_GB⟩ hb_ hon hoff
        refine ⟨_, rfl, fun K hK => ?_⟩
        have e22 : a.tmps[22]? = some (.bool false) := by rw [ha]; exact putSel_on (e := (11, 22, .bool false)) 11 rfl rfl (hon 11 (by kernel_rfl)) rfl
        have e25 : a.tmps[25]? = some (.bool false) := by rw [ha]; exact putSel_on (e := (14, 25, .bool false)) 14 rfl rfl (hon 14 (by kernel_rfl)) rfl
        replace ha := Aside0.mk ha
        have HB := Aside0.mk Q_HB
        have GA := Aside0.mk Q_GA
        have GB := Aside0.mk Q_GB
        refine value_ (w1 := w') (v := .bool false) (by rfl) rfl ?_ ?_
        · go_simp
          (try simp only [i64_w])
          try first | rfl | assumption
        refine hK.out _ _ ⟨(by rw [ha.out]; exact putSel_upk 15 hb_ rfl rfl rfl), Q_HB, Q_GA, Q_GB⟩
      exact steps_nil
    rintro b a w3 hall ⟨ha, Q_HB, Q_GA, Q_GB⟩
    clear GA GB HB
    have hb0_ := hall 0 (by kernel_rfl)
    have hb1_ := hall 1 (by kernel_rfl)
    have hb2_ := hall 2 (by kernel_rfl)
    have hb3_ := hall 3 (by kernel_rfl)
    have hb4_ := hall 4 (by kernel_rfl)
    have hb5_ := hall 5 (by kernel_rfl)
    have hb6_ := hall 6 (by kernel_rfl)
    have hb7_ := hall 7 (by kernel_rfl)
    have hb8_ := hall 8 (by kernel_rfl)
    have hb9_ := hall 9 (by kernel_rfl)
    have hb10_ := hall 10 (by kernel_rfl)
    have hb11_ := hall 11 (by kernel_rfl)
    have hb12_ := hall 12 (by kernel_rfl)
    have hb13_ := hall 13 (by kernel_rfl)
    have hb14_ := hall 14 (by kernel_rfl)
    have hb15_ := hall 15 (by kernel_rfl)
    subst ha
    simp only [putSel, hb0_, hb1_, hb2_, hb3_, hb4_, hb5_, hb6_, hb7_, hb8_, hb9_, hb10_, hb11_, hb12_, hb13_, hb14_, hb15_, if_true, Act.put, List.setIfInBounds_toArray, List.set_cons_zero, List.set_cons_succ]
    have HB := Aside0.mk Q_HB
    clear Q_HB
    have GA := Aside0.mk Q_GA
    clear Q_GA
    have GB := Aside0.mk Q_GB
    clear Q_GB
    clear hall hb0_ hb1_ hb2_ hb3_ hb4_ hb5_ hb6_ hb7_ hb8_ hb9_ hb10_ hb11_ hb12_ hb13_ hb14_ hb15_
    have GA3 := GA
    have GB3 := GB
    clear GA GB HHa HHb HMa HMb HWW
    have ha0 := blk_cell GA3.out 0
    have hb0 := blk_cell GB3.out 0
    have ha1 := blk_cell GA3.out 1
    have hb1 := blk_cell GB3.out 1
    have ha2 := blk_cell GA3.out 2
    have hb2 := blk_cell GB3.out 2
    have ha3 := blk_cell GA3.out 3
    have hb3 := blk_cell GB3.out 3
    have ha4 := blk_cell GA3.out 4
    have hb4 := blk_cell GB3.out 4
    have ha5 := blk_cell GA3.out 5
    have hb5 := blk_cell GB3.out 5
    go_upto_region 6 with (first
      | (go_at_call 10; (with_reducible refine (HXa.out w3 HB.out).mono ?_); rintro e w4 ⟨vx, rfl, hR, hb⟩; have RX := Aside0.mk hR; have HB4 := Aside0.mk (HB.out.trans (hb.mono HB.out.size)); have GA4 := Aside0.mk (blk_below GA3.out hb); have GB4 := Aside0.mk (blk_below GB3.out hb); clear hR hb ha0 hb0 ha1 hb1 ha2 hb2 ha3 hb3 ha4 hb4 ha5 hb5; have ha0 := blk_cell GA4.out 0; have ha1 := blk_cell GA4.out 1; have ha2 := blk_cell GA4.out 2; have ha3 := blk_cell GA4.out 3; have ha4 := blk_cell GA4.out 4; have ha5 := blk_cell GA4.out 5; have hb0 := blk_cell GB4.out 0; have hb1 := blk_cell GB4.out 1; have hb2 := blk_cell GB4.out 2; have hb3 := blk_cell GB4.out 3; have hb4 := blk_cell GB4.out 4; have hb5 := blk_cell GB4.out 5)
      | (go_at_call 10; (with_reducible refine (HXb.out w4 HB4.out).mono ?_); rintro e w5 ⟨vy, rfl, hR, hb⟩; have RY := Aside0.mk hR; have RX5 := Aside0.mk (RX.out.below hb); have HB5 := Aside0.mk (HB4.out.trans (hb.mono HB4.out.size)); have GA5 := Aside0.mk (blk_below GA4.out hb); have GB5 := Aside0.mk (blk_below GB4.out hb); clear hR hb ha0 hb0 ha1 hb1 ha2 hb2 ha3 hb3 ha4 hb4 ha5 hb5; have ha0 := blk_cell GA5.out 0; have ha1 := blk_cell GA5.out 1; have ha2 := blk_cell GA5.out 2; have ha3 := blk_cell GA5.out 3; have ha4 := blk_cell GA5.out 4; have ha5 := blk_cell GA5.out 5; have hb0 := blk_cell GB5.out 0; have hb1 := blk_cell GB5.out 1; have hb2 := blk_cell GB5.out 2; have hb3 := blk_cell GB5.out 3; have hb4 := blk_cell GB5.out 4; have hb5 := blk_cell GB5.out 5)
      | (go_at_call 12; refine (HPs.out w5 _ RX5.out).mono ?_; rintro e w6 ⟨A4, c4, A5, c5, rfl, h4, h5, hb⟩; have H4 := Aside0.mk h4; have H5 := Aside0.mk h5; have RX6 := Aside0.mk (RX5.out.below hb); have RY6 := Aside0.mk (RY.out.below hb); have HB6 := Aside0.mk (HB5.out.trans (hb.mono HB5.out.size)); have GA6 := Aside0.mk (blk_below GA5.out hb); have GB6 := Aside0.mk (blk_below GB5.out hb); clear h4 h5 hb ha0 hb0 ha1 hb1 ha2 hb2 ha3 hb3 ha4 hb4 ha5 hb5)
      | ((with_reducible refine gate_dst (N := 9) rfl ?_); refine box_event ?hg9 (N := 9) ?hd9 (cs := #[.string (⟨#[]⟩ : ByteArray), .int .i64 0, .int .i64 0, .int .i64 0, .slice none 0 0, .slice none 0 0]) (t := 25) ?hr9 ?_; (case hd9 => rfl); (case hg9 => rfl); (case hr9 => first | (go_simp; done) | (go_simp; rfl)); intro g9 hg9 w7 hbx hb1; have BY := Aside0.mk hbx; have HB67 := Aside0.mk hb1; have G9 := Aside0.mk (show w6.heap.size ≤ g9 by omega); clear hg9 hb1 hbx; have hcz0 := blk_cell BY.out 0; have hfz0 := blk_frozen BY.out 0; have hcz1 := blk_cell BY.out 1; have hfz1 := blk_frozen BY.out 1; have hcz2 := blk_cell BY.out 2; have hfz2 := blk_frozen BY.out 2; have hcz3 := blk_cell BY.out 3; have hfz3 := blk_frozen BY.out 3; have hcz4 := blk_cell BY.out 4; have hfz4 := blk_frozen BY.out 4; have hcz5 := blk_cell BY.out 5; have hfz5 := blk_frozen BY.out 5))
    clear hcz0 hfz0 hcz1 hfz1 hcz2 hfz2 hcz3 hfz3 hcz4 hfz4 hcz5 hfz5
    obtain ⟨w8, e8, B8, O8⟩ := sets6 BY.out (.string a0) (.int .i64 a1) (.int .i64 a2) (.int .i64 a3) (.slice A4 aw.length c4) (.slice A5 am.length c5)
    rw [e8]
    have HB68 : Aside0 (Below w6.heap.size w6 w8) := ⟨O8.below HB67.out G9.out⟩
    have GA := Aside0.mk (blk_below GA6.out HB68.out)
    have GB := Aside0.mk (blk_below GB6.out HB68.out)
    have GC := Aside0.mk B8
    have RX8 := Aside0.mk (RX6.out.below HB68.out)
    have RY8 := Aside0.mk (RY6.out.below HB68.out)
    have H48 := Aside0.mk (⟨Kd.C_below H4.out.1 HB68.out, H4.out.2⟩ : Kd.C Kd.string w8 A4 aw.length aw ∧ aw.length ≤ c4)
    have H58 := Aside0.mk (⟨Kd.C_below H5.out.1 HB68.out, H5.out.2⟩ : Kd.C k35 w8 A5 am.length am ∧ am.length ≤ c5)
    have HB8 := Aside0.mk (HB6.out.trans (HB68.out.mono HB6.out.size))
    have HD := Aside0.mk (Below.refl w8.heap.size w8)
    have HCX := Aside0.mk (fun (W : World) (hW : Below w8.heap.size w8 W) => rb_string (RX8.out.below hW))
    have HCY := Aside0.mk (fun (W : World) (hW : Below w8.heap.size w8 W) => rb_string (RY8.out.below hW))
    rw [HSX.out] at HCX
    rw [HSY.out] at HCY
    clear e8 B8 O8 HB67 HB68 GA3 GB3 GA4 GB4 GA5 GB5 GA6 GB6 HB HB4 HB5 HB6 RX RX5 RX6 RY RY6 BY H4 H5 HXa HXb HPs RX8 RY8
    refine start_ (n := 30) (S := fun w' => True) (ds := []) #[false, false, false, false, false, false, false, false, false, false, false, false, false, false, false, false, false, false, false, false, false, false, false, false, false, false, false, false, false, false] (by kernel_rfl) rfl rfl trivial (fun hHeld => ?_)
    refine with_tabW t_mailsacklaw10_Form3Back.tab6 t_mailsacklaw10_Form3Back.bits6 (fun HT_ HW_ => ?_)
    have hd_ := (below_drew1 (Below.refl w8.heap.size w8))
    have n_HD := Aside0.mk (HD.out.drew)
    have n_GA := Aside0.mk ((show w8.drew.heap[g2]? = _ from GA.out))
    have n_GB := Aside0.mk ((show w8.drew.heap[g3]? = _ from GB.out))
    have n_GC := Aside0.mk ((show w8.drew.heap[g9]? = _ from GC.out))
    clear HD
    have HD := n_HD
    clear n_HD
    clear GA
    have GA := n_GA
    clear n_GA
    clear GB
    have GB := n_GB
    clear n_GB
    clear GC
    have GC := n_GC
    clear n_GC
    generalize w8.drew = w_d at *
    clear hd_
    refine inv_at [0, 1, 2, 3, 4, 5, 6, 7, 8, 9, 10, 11, 12, 13, 14, 15, 16, 17, 18, 19, 20, 21, 22, 23, 24, 25, 26, 27, 28, 29] (fun a0_ b a w' => a = putSel a0_ b [(0, 45, .int .i64 0), (1, 46, .bool true), (2, 47, .bool true), (3, 48, .int .i64 0), (4, 49, .bool true), (5, 50, .bool true), (6, 51, .bool true), (7, 52, .int .i64 0), (8, 53, .bool true), (9, 54, .bool true), (10, 55, .bool true), (11, 56, .agg #[.string a0, .int .i64 a1, .int .i64 a2, .int .i64 a3, .slice aA4 aw.length ac4, .slice aA5 am.length ac5]), (12, 57, .agg #[.string a0, .int .i64 a1, .int .i64 a2, .int .i64 a3, .slice A4 aw.length c4, .slice A5 am.length c5]), (13, 58, .bool true), (14, 59, .bool true), (15, 60, .bool true), (16, 61, vx), (17, 62, .string sx), (18, 63, vy), (19, 64, .string sy), (20, 65, .bool r), (21, 66, .agg #[.string a0, .int .i64 a1, .int .i64 a2, .int .i64 a3, .slice aA4 aw.length ac4, .slice aA5 am.length ac5]), (22, 67, .agg #[.string b0, .int .i64 b1, .int .i64 b2, .int .i64 b3, .slice bA4 bw.length bc4, .slice bA5 bm.length bc5]), (23, 68, .bool r), (24, 69, .bool true), (25, 70, .bool true), (26, 71, .bool true), (27, 72, .bool true), (28, 73, .bool true), (29, 4, .bool true)] ∧ (Below w8.heap.size w8 w') ∧ (w'.heap[g2]? = some (.cells #[.string a0, .int .i64 a1, .int .i64 a2, .int .i64 a3, .slice aA4 aw.length ac4, .slice aA5 am.length ac5] 25 (0, 0))) ∧ (w'.heap[g3]? = some (.cells #[.string b0, .int .i64 b1, .int .i64 b2, .int .i64 b3, .slice bA4 bw.length bc4, .slice bA5 bm.length bc5] 25 (0, 0))) ∧ (w'.heap[g9]? = some (.cells #[.string a0, .int .i64 a1, .int .i64 a2, .int .i64 a3, .slice A4 aw.length c4, .slice A5 am.length c5] 25 (0, 0)))) HT_.out HW_.out (by kernel_rfl) (by kernel_rfl) ?_ ?_ ?_
    · exact ⟨by simp only [putSel, Bool.false_eq_true, if_false], HD.out, GA.out, GB.out, GC.out⟩
    · skip
      clear GA GB GC HD
      refine steps_cons ?_ ?_
      · rintro b a w' ⟨ha, Q_HD, Q_GA, Q_GB, Q_GC⟩ hb_ hon hoff
        refine ⟨_, rfl, fun K hK => ?_⟩
        have e6 : a.tmps[6]? = some (.int .i64 0) := by rw [ha]; exact (putSel_off rfl).trans rfl
        replace ha := Aside0.mk ha
        have HD := Aside0.mk Q_HD
        have GA := Aside0.mk Q_GA
        have GB := Aside0.mk Q_GB
        have GC := Aside0.mk Q_GC
        refine value_ (w1 := w') (v := .int .i64 0) (by rfl) rfl ?_ ?_
        · go_simp
          (try simp only [i64_w])
          try first | rfl | assumption
        refine hK.out _ _ ⟨(by rw [ha.out]; exact putSel_upk 0 hb_ rfl rfl rfl), Q_HD, Q_GA, Q_GB, Q_GC⟩
      refine steps_cons ?_ ?_
      · rintro b a w' ⟨ha, Q_HD, Q_GA, Q_GB, Q_GC⟩ hb_ hon hoff
        refine ⟨_, rfl, fun K hK => ?_⟩
        have e45 : a.tmps[45]? = some (.int .i64 0) := by rw [ha]; exact putSel_on (e := (0, 45, .int .i64 0)) 0 rfl rfl (hon 0 (by kernel_rfl)) rfl
        replace ha := Aside0.mk ha
        have HD := Aside0.mk Q_HD
        have GA := Aside0.mk Q_GA
        have GB := Aside0.mk Q_GB
        have GC := Aside0.mk Q_GC
        refine value_ (w1 := w') (v := .bool true) (by rfl) rfl ?_ ?_
        · go_simp
          (try simp only [i64_w])
          try first | rfl | assumption
        refine hK.out _ _ ⟨(by rw [ha.out]; exact putSel_upk 1 hb_ rfl rfl rfl), Q_HD, Q_GA, Q_GB, Q_GC⟩
      refine steps_cons ?_ ?_
      · rintro b a w' ⟨ha, Q_HD, Q_GA, Q_GB, Q_GC⟩ hb_ hon hoff
        refine ⟨_, rfl, fun K hK => ?_⟩
        have e46 : a.tmps[46]? = some (.bool true) := by rw [ha]; exact putSel_on (e := (1, 46, .bool true)) 1 rfl rfl (hon 1 (by kernel_rfl)) rfl
        replace ha := Aside0.mk ha
        have HD := Aside0.mk Q_HD
        have GA := Aside0.mk Q_GA
        have GB := Aside0.mk Q_GB
        have GC := Aside0.mk Q_GC
        refine value_ (w1 := w') (v := .bool true) (by rfl) rfl ?_ ?_
        · go_simp
          (try simp only [i64_w])
          try first | rfl | assumption
        refine hK.out _ _ ⟨(by rw [ha.out]; exact putSel_upk 2 hb_ rfl rfl rfl), Q_HD, Q_GA, Q_GB, Q_GC⟩
      refine steps_cons ?_ ?_
      · rintro b a w' ⟨ha, Q_HD, Q_GA, Q_GB, Q_GC⟩ hb_ hon hoff
        refine ⟨_, rfl, fun K hK => ?_⟩
        have e8 : a.tmps[8]? = some (.int .i64 0) := by rw [ha]; exact (putSel_off rfl).trans rfl
        have e47 : a.tmps[47]? = some (.bool true) := by rw [ha]; exact putSel_on (e := (2, 47, .bool true)) 2 rfl rfl (hon 2 (by kernel_rfl)) rfl
        replace ha := Aside0.mk ha
        have HD := Aside0.mk Q_HD
        have GA := Aside0.mk Q_GA
        have GB := Aside0.mk Q_GB
        have GC := Aside0.mk Q_GC
        refine value_ (w1 := w') (v := .int .i64 0) (wanted_on rfl rfl rfl (e47.trans (by first | rfl | (simp [*]; done)))) rfl ?_ ?_
        · go_simp
          (try simp only [i64_w])
          try first | rfl | assumption
        refine hK.out _ _ ⟨(by rw [ha.out]; exact putSel_upk 3 hb_ rfl rfl rfl), Q_HD, Q_GA, Q_GB, Q_GC⟩
      refine steps_cons ?_ ?_
      · rintro b a w' ⟨ha, Q_HD, Q_GA, Q_GB, Q_GC⟩ hb_ hon hoff
        refine ⟨_, rfl, fun K hK => ?_⟩
        have e48 : a.tmps[48]? = some (.int .i64 0) := by rw [ha]; exact putSel_on (e := (3, 48, .int .i64 0)) 3 rfl rfl (hon 3 (by kernel_rfl)) rfl
        have e47 : a.tmps[47]? = some (.bool true) := by rw [ha]; exact putSel_on (e := (2, 47, .bool true)) 2 rfl rfl (hon 2 (by kernel_rfl)) rfl
        replace ha := Aside0.mk ha
        have HD := Aside0.mk Q_HD
        have GA := Aside0.mk Q_GA
        have GB := Aside0.mk Q_GB
        have GC := Aside0.mk Q_GC
        refine value_ (w1 := w') (v := .bool true) (wanted_on rfl rfl rfl (e47.trans (by first | rfl | (simp [*]; done)))) rfl ?_ ?_
        · go_simp
          (try simp only [i64_w])
          try first | rfl | assumption
        refine hK.out _ _ ⟨(by rw [ha.out]; exact putSel_upk 4 hb_ rfl rfl rfl), Q_HD, Q_GA, Q_GB, Q_GC⟩
      refine steps_cons ?_ ?_
      · rintro b a w' ⟨ha, Q_HD, Q_GA, Q_GB, Q_GC⟩ hb_ hon hoff
        refine ⟨_, rfl, fun K hK => ?_⟩
        have e47 : a.tmps[47]? = some (.bool true) := by rw [ha]; exact putSel_on (e := (2, 47, .bool true)) 2 rfl rfl (hon 2 (by kernel_rfl)) rfl
        have e49 : a.tmps[49]? = some (.bool true) := by rw [ha]; exact putSel_on (e := (4, 49, .bool true)) 4 rfl rfl (hon 4 (by kernel_rfl)) rfl
        replace ha := Aside0.mk ha
        have HD := Aside0.mk Q_HD
        have GA := Aside0.mk Q_GA
        have GB := Aside0.mk Q_GB
        have GC := Aside0.mk Q_GC
        refine value_ (w1 := w') (v := .bool true) (by rfl) rfl ?_ ?_
        · go_simp
          (try simp only [i64_w])
          try first | rfl | assumption
        refine hK.out _ _ ⟨(by rw [ha.out]; exact putSel_upk 5 hb_ rfl rfl rfl), Q_HD, Q_GA, Q_GB, Q_GC⟩
      refine steps_cons ?_ ?_
      · rintro b a w' ⟨ha, Q_HD, Q_GA, Q_GB, Q_GC⟩ hb_ hon hoff
        refine ⟨_, rfl, fun K hK => ?_⟩
        have e50 : a.tmps[50]? = some (.bool true) := by rw [ha]; exact putSel_on (e := (5, 50, .bool true)) 5 rfl rfl (hon 5 (by kernel_rfl)) rfl
        replace ha := Aside0.mk ha
        have HD := Aside0.mk Q_HD
        have GA := Aside0.mk Q_GA
        have GB := Aside0.mk Q_GB
        have GC := Aside0.mk Q_GC
        refine value_ (w1 := w') (v := .bool true) (by rfl) rfl ?_ ?_
        · go_simp
          (try simp only [i64_w])
          try first | rfl | assumption
        refine hK.out _ _ ⟨(by rw [ha.out]; exact putSel_upk 6 hb_ rfl rfl rfl), Q_HD, Q_GA, Q_GB, Q_GC⟩
      refine steps_cons ?_ ?_
      · rintro b a w' ⟨ha, Q_HD, Q_GA, Q_GB, Q_GC⟩ hb_ hon hoff
        refine ⟨_, rfl, fun K hK => ?_⟩
        have e10 : a.tmps[10]? = some (.int .i64 0) := by rw [ha]; exact (putSel_off rfl).trans rfl
        have e51 : a.tmps[51]? = some (.bool true) := by rw [ha]; exact putSel_on (e := (6, 51, .bool true)) 6 rfl rfl (hon 6 (by kernel_rfl)) rfl
        replace ha := Aside0.mk ha
        have HD := Aside0.mk Q_HD
        have GA := Aside0.mk Q_GA
        have GB := Aside0.mk Q_GB
        have GC := Aside0.mk Q_GC
        refine value_ (w1 := w') (v := .int .i64 0) (wanted_on rfl rfl rfl (e51.trans (by first | rfl | (simp [*]; done)))) rfl ?_ ?_
        · go_simp
          (try simp only [i64_w])
          try first | rfl | assumption
        refine hK.out _ _ ⟨(by rw [ha.out]; exact putSel_upk 7 hb_ rfl rfl rfl), Q_HD, Q_GA, Q_GB, Q_GC⟩
      refine steps_cons ?_ ?_
      · rintro b a w' ⟨ha, Q_HD, Q_GA, Q_GB, Q_GC⟩ hb_ hon hoff
        refine ⟨_, rfl, fun K hK => ?_⟩
        have e52 : a.tmps[52]? = some (.int .i64 0) := by rw [ha]; exact putSel_on (e := (7, 52, .int .i64 0)) 7 rfl rfl (hon 7 (by kernel_rfl)) rfl
        have e51 : a.tmps[51]? = some (.bool true) := by rw [ha]; exact putSel_on (e := (6, 51, .bool true)) 6 rfl rfl (hon 6 (by kernel_rfl)) rfl
        replace ha := Aside0.mk ha
        have HD := Aside0.mk Q_HD
        have GA := Aside0.mk Q_GA
        have GB := Aside0.mk Q_GB
        have GC := Aside0.mk Q_GC
        refine value_ (w1 := w') (v := .bool true) (wanted_on rfl rfl rfl (e51.trans (by first | rfl | (simp [*]; done)))) rfl ?_ ?_
        · go_simp
          (try simp only [i64_w])
          try first | rfl | assumption
        refine hK.out _ _ ⟨(by rw [ha.out]; exact putSel_upk 8 hb_ rfl rfl rfl), Q_HD, Q_GA, Q_GB, Q_GC⟩
      refine steps_cons ?_ ?_
      · rintro b a w' ⟨ha, Q_HD, Q_GA, Q_GB, Q_GC⟩ hb_ hon hoff
        refine ⟨_, rfl, fun K hK => ?_⟩
        have e51 : a.tmps[51]? = some (.bool true) := by rw [ha]; exact putSel_on (e := (6, 51, .bool true)) 6 rfl rfl (hon 6 (by kernel_rfl)) rfl
        have e53 : a.tmps[53]? = some (.bool true) := by rw [ha]; exact putSel_on (e := (8, 53, .bool true)) 8 rfl rfl (hon 8 (by kernel_rfl)) rfl
        replace ha := Aside0.mk ha
        have HD := Aside0.mk Q_HD
        have GA := Aside0.mk Q_GA
        have GB := Aside0.mk Q_GB
        have GC := Aside0.mk Q_GC
        refine value_ (w1 := w') (v := .bool true) (by rfl) rfl ?_ ?_
        · go_simp
          (try simp only [i64_w])
          try first | rfl | assumption
        refine hK.out _ _ ⟨(by rw [ha.out]; exact putSel_upk 9 hb_ rfl rfl rfl), Q_HD, Q_GA, Q_GB, Q_GC⟩
      refine steps_cons ?_ ?_
      · rintro b a w' ⟨ha, Q_HD, Q_GA, Q_GB, Q_GC⟩ hb_ hon hoff
        refine ⟨_, rfl, fun K hK => ?_⟩
        have e54 : a.tmps[54]? = some (.bool true) := by rw [ha]; exact putSel_on (e := (9, 54, .bool true)) 9 rfl rfl (hon 9 (by kernel_rfl)) rfl
        replace ha := Aside0.mk ha
        have HD := Aside0.mk Q_HD
        have GA := Aside0.mk Q_GA
        have GB := Aside0.mk Q_GB
        have GC := Aside0.mk Q_GC
        refine value_ (w1 := w') (v := .bool true) (by rfl) rfl ?_ ?_
        · go_simp
          (try simp only [i64_w])
          try first | rfl | assumption
        refine hK.out _ _ ⟨(by rw [ha.out]; exact putSel_upk 10 hb_ rfl rfl rfl), Q_HD, Q_GA, Q_GB, Q_GC⟩
      refine steps_cons ?_ ?_
      · rintro b a w' ⟨ha, Q_HD, Q_GA, Q_GB, Q_GC⟩ hb_ hon hoff
        refine ⟨_, rfl, fun K hK => ?_⟩
        have e2 : a.tmps[2]? = some (.pointer (some ⟨g2, 0, none⟩)) := by rw [ha]; exact (putSel_off rfl).trans rfl
        have e55 : a.tmps[55]? = some (.bool true) := by rw [ha]; exact putSel_on (e := (10, 55, .bool true)) 10 rfl rfl (hon 10 (by kernel_rfl)) rfl
        replace ha := Aside0.mk ha
        have HD := Aside0.mk Q_HD
        have GA := Aside0.mk Q_GA
        have GB := Aside0.mk Q_GB
        have GC := Aside0.mk Q_GC
        have hgac0 := blk_cell GA.out 0; have hgac1 := blk_cell GA.out 1; have hgac2 := blk_cell GA.out 2; have hgac3 := blk_cell GA.out 3; have hgac4 := blk_cell GA.out 4; have hgac5 := blk_cell GA.out 5
        refine value_ (w1 := w') (v := .agg #[.string a0, .int .i64 a1, .int .i64 a2, .int .i64 a3, .slice aA4 aw.length ac4, .slice aA5 am.length ac5]) (wanted_on rfl rfl rfl (e55.trans (by first | rfl | (simp [*]; done)))) rfl ?_ ?_
        · go_simp
          (try simp only [i64_w])
          try first | rfl | assumption
        refine hK.out _ _ ⟨(by rw [ha.out]; exact putSel_upk 11 hb_ rfl rfl rfl), Q_HD, Q_GA, Q_GB, Q_GC⟩
      refine steps_cons ?_ ?_
      · rintro b a w' ⟨ha, Q_HD, Q_GA, Q_GB, Q_GC⟩ hb_ hon hoff
        refine ⟨_, rfl, fun K hK => ?_⟩
        have e9 : a.tmps[9]? = some (.pointer (some ⟨g9, 0, none⟩)) := by rw [ha]; exact (putSel_off rfl).trans rfl
        have e55 : a.tmps[55]? = some (.bool true) := by rw [ha]; exact putSel_on (e := (10, 55, .bool true)) 10 rfl rfl (hon 10 (by kernel_rfl)) rfl
        replace ha := Aside0.mk ha
        have HD := Aside0.mk Q_HD
        have GA := Aside0.mk Q_GA
        have GB := Aside0.mk Q_GB
        have GC := Aside0.mk Q_GC
        have hgcc0 := blk_cell GC.out 0; have hgcc1 := blk_cell GC.out 1; have hgcc2 := blk_cell GC.out 2; have hgcc3 := blk_cell GC.out 3; have hgcc4 := blk_cell GC.out 4; have hgcc5 := blk_cell GC.out 5
        refine value_ (w1 := w') (v := .agg #[.string a0, .int .i64 a1, .int .i64 a2, .int .i64 a3, .slice A4 aw.length c4, .slice A5 am.length c5]) (wanted_on rfl rfl rfl (e55.trans (by first | rfl | (simp [*]; done)))) rfl ?_ ?_
        · go_simp
          (try simp only [i64_w])
          try first | rfl | assumption
        refine hK.out _ _ ⟨(by rw [ha.out]; exact putSel_upk 12 hb_ rfl rfl rfl), Q_HD, Q_GA, Q_GB, Q_GC⟩
      refine steps_cons ?_ ?_
      · rintro b a w' ⟨ha, Q_HD, Q_GA, Q_GB, Q_GC⟩ hb_ hon hoff
        refine ⟨_, rfl, fun K hK => ?_⟩
        have e56 : a.tmps[56]? = some (.agg #[.string a0, .int .i64 a1, .int .i64 a2, .int .i64 a3, .slice aA4 aw.length ac4, .slice aA5 am.length ac5]) := by rw [ha]; exact putSel_on (e := (11, 56, .agg #[.string a0, .int .i64 a1, .int .i64 a2, .int .i64 a3, .slice aA4 aw.length ac4, .slice aA5 am.length ac5])) 11 rfl rfl (hon 11 (by kernel_rfl)) rfl
        have e57 : a.tmps[57]? = some (.agg #[.string a0, .int .i64 a1, .int .i64 a2, .int .i64 a3, .slice A4 aw.length c4, .slice A5 am.length c5]) := by rw [ha]; exact putSel_on (e := (12, 57, .agg #[.string a0, .int .i64 a1, .int .i64 a2, .int .i64 a3, .slice A4 aw.length c4, .slice A5 am.length c5])) 12 rfl rfl (hon 12 (by kernel_rfl)) rfl
        have e55 : a.tmps[55]? = some (.bool true) := by rw [ha]; exact putSel_on (e := (10, 55, .bool true)) 10 rfl rfl (hon 10 (by kernel_rfl)) rfl
        replace ha := Aside0.mk ha
        have HD := Aside0.mk Q_HD
        have GA := Aside0.mk Q_GA
        have GB := Aside0.mk Q_GB
        have GC := Aside0.mk Q_GC
        refine goes_ Try.func13 (by kernel_rfl) rfl #[.agg #[.string a0, .int .i64 a1, .int .i64 a2, .int .i64 a3, .slice aA4 aw.length ac4, .slice aA5 am.length ac5], .agg #[.string a0, .int .i64 a1, .int .i64 a2, .int .i64 a3, .slice A4 aw.length c4, .slice A5 am.length c5]] (wanted_on rfl rfl rfl (e55.trans (by first | rfl | (simp [*]; done)))) rfl rfl (by first | (simp only [List.map_toArray, List.map_cons, List.map_nil, Act.eval, Array.getD_eq_getD_getElem?, Option.getD_some, e56, e57, e55]; done) | (simp only [List.map_toArray, List.map_cons, List.map_nil, Act.eval, Array.getD_eq_getD_getElem?, Option.getD_some, e56, e57, e55]; rfl)) ?_
        with_reducible refine (HS1.out w' A4 c4 A5 c5 (HB8.out.trans (HD.out.mono HB8.out.size)) ⟨Kd.C_below H48.out.1 HD.out, H48.out.2⟩ ⟨Kd.C_below H58.out.1 HD.out, H58.out.2⟩).mono ?_
        rintro e wq ⟨rfl, hb⟩
        refine ⟨_, rfl, ?_⟩
        refine hK.out _ _ ⟨(by rw [ha.out]; exact putSel_upk 13 hb_ rfl rfl rfl), HD.out.trans (hb.mono HD.out.size), blk_below GA.out hb, blk_below GB.out hb, blk_below GC.out hb⟩
      refine steps_cons ?_ ?_
      · rintro b a w' ⟨ha, Q_HD, Q_GA, Q_GB, Q_GC⟩ hb_ hon hoff
        refine ⟨_, rfl, fun K hK => ?_⟩
        have e55 : a.tmps[55]? = some (.bool true) := by rw [ha]; exact putSel_on (e := (10, 55, .bool true)) 10 rfl rfl (hon 10 (by kernel_rfl)) rfl
        have e58 : a.tmps[58]? = some (.bool true) := by rw [ha]; exact putSel_on (e := (13, 58, .bool true)) 13 rfl rfl (hon 13 (by kernel_rfl)) rfl
        replace ha := Aside0.mk ha
        have HD := Aside0.mk Q_HD
        have GA := Aside0.mk Q_GA
        have GB := Aside0.mk Q_GB
        have GC := Aside0.mk Q_GC
        refine value_ (w1 := w') (v := .bool true) (by rfl) rfl ?_ ?_
        · go_simp
          (try simp only [i64_w])
          try first | rfl | assumption
        refine hK.out _ _ ⟨(by rw [ha.out]; exact putSel_upk 14 hb_ rfl rfl rfl), Q_HD, Q_GA, Q_GB, Q_GC⟩
      refine steps_cons ?_ ?_
      · rintro b a w' ⟨ha, Q_HD, Q_GA, Q_GB, Q_GC⟩ hb_ hon hoff
        refine ⟨_, rfl, fun K hK => ?_⟩
        have e59 : a.tmps[59]? = some (.bool true) := by rw [ha]; exact putSel_on (e := (14, 59, .bool true)) 14 rfl rfl (hon 14 (by kernel_rfl)) rfl
        replace ha := Aside0.mk ha
        have HD := Aside0.mk Q_HD
        have GA := Aside0.mk Q_GA
        have GB := Aside0.mk Q_GB
        have GC := Aside0.mk Q_GC
        refine value_ (w1 := w') (v := .bool true) (by rfl) rfl ?_ ?_
        · go_simp
          (try simp only [i64_w])
          try first | rfl | assumption
        refine hK.out _ _ ⟨(by rw [ha.out]; exact putSel_upk 15 hb_ rfl rfl rfl), Q_HD, Q_GA, Q_GB, Q_GC⟩
      refine steps_cons ?_ ?_
      · rintro b a w' ⟨ha, Q_HD, Q_GA, Q_GB, Q_GC⟩ hb_ hon hoff
        refine ⟨_, rfl, fun K hK => ?_⟩
        have e5 : a.tmps[5]? = some (vx) := by rw [ha]; exact (putSel_off rfl).trans rfl
        have e60 : a.tmps[60]? = some (.bool true) := by rw [ha]; exact putSel_on (e := (15, 60, .bool true)) 15 rfl rfl (hon 15 (by kernel_rfl)) rfl
        replace ha := Aside0.mk ha
        have HD := Aside0.mk Q_HD
        have GA := Aside0.mk Q_GA
        have GB := Aside0.mk Q_GB
        have GC := Aside0.mk Q_GC
        refine value_ (w1 := w') (v := vx) (wanted_on rfl rfl rfl (e60.trans (by first | rfl | (simp [*]; done)))) rfl ?_ ?_
        · go_simp
          (try simp only [i64_w])
          try first | rfl | assumption
        refine hK.out _ _ ⟨(by rw [ha.out]; exact putSel_upk 16 hb_ rfl rfl rfl), Q_HD, Q_GA, Q_GB, Q_GC⟩
      refine steps_cons ?_ ?_
      · rintro b a w' ⟨ha, Q_HD, Q_GA, Q_GB, Q_GC⟩ hb_ hon hoff
        refine ⟨_, rfl, fun K hK => ?_⟩
        have e61 : a.tmps[61]? = some (vx) := by rw [ha]; exact putSel_on (e := (16, 61, vx)) 16 rfl rfl (hon 16 (by kernel_rfl)) rfl
        have e60 : a.tmps[60]? = some (.bool true) := by rw [ha]; exact putSel_on (e := (15, 60, .bool true)) 15 rfl rfl (hon 15 (by kernel_rfl)) rfl
        replace ha := Aside0.mk ha
        have HD := Aside0.mk Q_HD
        have GA := Aside0.mk Q_GA
        have GB := Aside0.mk Q_GB
        have GC := Aside0.mk Q_GC
        have hcx := HCX.out w' HD.out
        refine value_ (w1 := w') (v := .string sx) (wanted_on rfl rfl rfl (e60.trans (by first | rfl | (simp [*]; done)))) rfl ?_ ?_
        · go_simp
          (try simp only [i64_w])
          try first | rfl | assumption
        refine hK.out _ _ ⟨(by rw [ha.out]; exact putSel_upk 17 hb_ rfl rfl rfl), Q_HD, Q_GA, Q_GB, Q_GC⟩
      refine steps_cons ?_ ?_
      · rintro b a w' ⟨ha, Q_HD, Q_GA, Q_GB, Q_GC⟩ hb_ hon hoff
        refine ⟨_, rfl, fun K hK => ?_⟩
        have e7 : a.tmps[7]? = some (vy) := by rw [ha]; exact (putSel_off rfl).trans rfl
        have e60 : a.tmps[60]? = some (.bool true) := by rw [ha]; exact putSel_on (e := (15, 60, .bool true)) 15 rfl rfl (hon 15 (by kernel_rfl)) rfl
        replace ha := Aside0.mk ha
        have HD := Aside0.mk Q_HD
        have GA := Aside0.mk Q_GA
        have GB := Aside0.mk Q_GB
        have GC := Aside0.mk Q_GC
        refine value_ (w1 := w') (v := vy) (wanted_on rfl rfl rfl (e60.trans (by first | rfl | (simp [*]; done)))) rfl ?_ ?_
        · go_simp
          (try simp only [i64_w])
          try first | rfl | assumption
        refine hK.out _ _ ⟨(by rw [ha.out]; exact putSel_upk 18 hb_ rfl rfl rfl), Q_HD, Q_GA, Q_GB, Q_GC⟩
      refine steps_cons ?_ ?_
      · rintro b a w' ⟨ha, Q_HD, Q_GA, Q_GB, Q_GC⟩ hb_ hon hoff
        refine ⟨_, rfl, fun K hK => ?_⟩
        have e63 : a.tmps[63]? = some (vy) := by rw [ha]; exact putSel_on (e := (18, 63, vy)) 18 rfl rfl (hon 18 (by kernel_rfl)) rfl
        have e60 : a.tmps[60]? = some (.bool true) := by rw [ha]; exact putSel_on (e := (15, 60, .bool true)) 15 rfl rfl (hon 15 (by kernel_rfl)) rfl
        replace ha := Aside0.mk ha
        have HD := Aside0.mk Q_HD
        have GA := Aside0.mk Q_GA
        have GB := Aside0.mk Q_GB
        have GC := Aside0.mk Q_GC
        have hcy := HCY.out w' HD.out
        refine value_ (w1 := w') (v := .string sy) (wanted_on rfl rfl rfl (e60.trans (by first | rfl | (simp [*]; done)))) rfl ?_ ?_
        · go_simp
          (try simp only [i64_w])
          try first | rfl | assumption
        refine hK.out _ _ ⟨(by rw [ha.out]; exact putSel_upk 19 hb_ rfl rfl rfl), Q_HD, Q_GA, Q_GB, Q_GC⟩
      refine steps_cons ?_ ?_
      · rintro b a w' ⟨ha, Q_HD, Q_GA, Q_GB, Q_GC⟩ hb_ hon hoff
        refine ⟨_, rfl, fun K hK => ?_⟩
        have e62 : a.tmps[62]? = some (.string sx) := by rw [ha]; exact putSel_on (e := (17, 62, .string sx)) 17 rfl rfl (hon 17 (by kernel_rfl)) rfl
        have e64 : a.tmps[64]? = some (.string sy) := by rw [ha]; exact putSel_on (e := (19, 64, .string sy)) 19 rfl rfl (hon 19 (by kernel_rfl)) rfl
        have e60 : a.tmps[60]? = some (.bool true) := by rw [ha]; exact putSel_on (e := (15, 60, .bool true)) 15 rfl rfl (hon 15 (by kernel_rfl)) rfl
        replace ha := Aside0.mk ha
        have HD := Aside0.mk Q_HD
        have GA := Aside0.mk Q_GA
        have GB := Aside0.mk Q_GB
        have GC := Aside0.mk Q_GC
        have hss := HSS.out
        refine value_ (w1 := w') (v := .bool r) (wanted_on rfl rfl rfl (e60.trans (by first | rfl | (simp [*]; done)))) rfl ?_ ?_
        · go_simp
          (try simp only [i64_w])
          try first | rfl | assumption
        refine hK.out _ _ ⟨(by rw [ha.out]; exact putSel_upk 20 hb_ rfl rfl rfl), Q_HD, Q_GA, Q_GB, Q_GC⟩
      refine steps_cons ?_ ?_
      · rintro b a w' ⟨ha, Q_HD, Q_GA, Q_GB, Q_GC⟩ hb_ hon hoff
        refine ⟨_, rfl, fun K hK => ?_⟩
        have e2 : a.tmps[2]? = some (.pointer (some ⟨g2, 0, none⟩)) := by rw [ha]; exact (putSel_off rfl).trans rfl
        have e60 : a.tmps[60]? = some (.bool true) := by rw [ha]; exact putSel_on (e := (15, 60, .bool true)) 15 rfl rfl (hon 15 (by kernel_rfl)) rfl
        replace ha := Aside0.mk ha
        have HD := Aside0.mk Q_HD
        have GA := Aside0.mk Q_GA
        have GB := Aside0.mk Q_GB
        have GC := Aside0.mk Q_GC
        have hgac0 := blk_cell GA.out 0; have hgac1 := blk_cell GA.out 1; have hgac2 := blk_cell GA.out 2; have hgac3 := blk_cell GA.out 3; have hgac4 := blk_cell GA.out 4; have hgac5 := blk_cell GA.out 5
        refine value_ (w1 := w') (v := .agg #[.string a0, .int .i64 a1, .int .i64 a2, .int .i64 a3, .slice aA4 aw.length ac4, .slice aA5 am.length ac5]) (wanted_on rfl rfl rfl (e60.trans (by first | rfl | (simp [*]; done)))) rfl ?_ ?_
        · go_simp
          (try simp only [i64_w])
          try first | rfl | assumption
        refine hK.out _ _ ⟨(by rw [ha.out]; exact putSel_upk 21 hb_ rfl rfl rfl), Q_HD, Q_GA, Q_GB, Q_GC⟩
      refine steps_cons ?_ ?_
      · rintro b a w' ⟨ha, Q_HD, Q_GA, Q_GB, Q_GC⟩ hb_ hon hoff
        refine ⟨_, rfl, fun K hK => ?_⟩
        have e3 : a.tmps[3]? = some (.pointer (some ⟨g3, 0, none⟩)) := by rw [ha]; exact (putSel_off rfl).trans rfl
        have e60 : a.tmps[60]? = some (.bool true) := by rw [ha]; exact putSel_on (e := (15, 60, .bool true)) 15 rfl rfl (hon 15 (by kernel_rfl)) rfl
        replace ha := Aside0.mk ha
        have HD := Aside0.mk Q_HD
        have GA := Aside0.mk Q_GA
        have GB := Aside0.mk Q_GB
        have GC := Aside0.mk Q_GC
        have hgbc0 := blk_cell GB.out 0; have hgbc1 := blk_cell GB.out 1; have hgbc2 := blk_cell GB.out 2; have hgbc3 := blk_cell GB.out 3; have hgbc4 := blk_cell GB.out 4; have hgbc5 := blk_cell GB.out 5
        refine value_ (w1 := w') (v := .agg #[.string b0, .int .i64 b1, .int .i64 b2, .int .i64 b3, .slice bA4 bw.length bc4, .slice bA5 bm.length bc5]) (wanted_on rfl rfl rfl (e60.trans (by first | rfl | (simp [*]; done)))) rfl ?_ ?_
        · go_simp
          (try simp only [i64_w])
          try first | rfl | assumption
        refine hK.out _ _ ⟨(by rw [ha.out]; exact putSel_upk 22 hb_ rfl rfl rfl), Q_HD, Q_GA, Q_GB, Q_GC⟩
      refine steps_cons ?_ ?_
      · rintro b a w' ⟨ha, Q_HD, Q_GA, Q_GB, Q_GC⟩ hb_ hon hoff
        refine ⟨_, rfl, fun K hK => ?_⟩
        have e66 : a.tmps[66]? = some (.agg #[.string a0, .int .i64 a1, .int .i64 a2, .int .i64 a3, .slice aA4 aw.length ac4, .slice aA5 am.length ac5]) := by rw [ha]; exact putSel_on (e := (21, 66, .agg #[.string a0, .int .i64 a1, .int .i64 a2, .int .i64 a3, .slice aA4 aw.length ac4, .slice aA5 am.length ac5])) 21 rfl rfl (hon 21 (by kernel_rfl)) rfl
        have e67 : a.tmps[67]? = some (.agg #[.string b0, .int .i64 b1, .int .i64 b2, .int .i64 b3, .slice bA4 bw.length bc4, .slice bA5 bm.length bc5]) := by rw [ha]; exact putSel_on (e := (22, 67, .agg #[.string b0, .int .i64 b1, .int .i64 b2, .int .i64 b3, .slice bA4 bw.length bc4, .slice bA5 bm.length bc5])) 22 rfl rfl (hon 22 (by kernel_rfl)) rfl
        have e60 : a.tmps[60]? = some (.bool true) := by rw [ha]; exact putSel_on (e := (15, 60, .bool true)) 15 rfl rfl (hon 15 (by kernel_rfl)) rfl
        replace ha := Aside0.mk ha
        have HD := Aside0.mk Q_HD
        have GA := Aside0.mk Q_GA
        have GB := Aside0.mk Q_GB
        have GC := Aside0.mk Q_GC
        refine goes_ Try.func13 (by kernel_rfl) rfl #[.agg #[.string a0, .int .i64 a1, .int .i64 a2, .int .i64 a3, .slice aA4 aw.length ac4, .slice aA5 am.length ac5], .agg #[.string b0, .int .i64 b1, .int .i64 b2, .int .i64 b3, .slice bA4 bw.length bc4, .slice bA5 bm.length bc5]] (wanted_on rfl rfl rfl (e60.trans (by first | rfl | (simp [*]; done)))) rfl rfl (by first | (simp only [List.map_toArray, List.map_cons, List.map_nil, Act.eval, Array.getD_eq_getD_getElem?, Option.getD_some, e66, e67, e60]; done) | (simp only [List.map_toArray, List.map_cons, List.map_nil, Act.eval, Array.getD_eq_getD_getElem?, Option.getD_some, e66, e67, e60]; rfl)) ?_
        with_reducible refine (HS2.out w' (HB8.out.trans (HD.out.mono HB8.out.size))).mono ?_
        rintro e wq ⟨rfl, hb⟩
        refine ⟨_, rfl, ?_⟩
        refine hK.out _ _ ⟨(by rw [ha.out]; exact putSel_upk 23 hb_ rfl rfl rfl), HD.out.trans (hb.mono HD.out.size), blk_below GA.out hb, blk_below GB.out hb, blk_below GC.out hb⟩
      refine steps_cons ?_ ?_
      · rintro b a w' ⟨ha, Q_HD, Q_GA, Q_GB, Q_GC⟩ hb_ hon hoff
        refine ⟨_, rfl, fun K hK => ?_⟩
        have e65 : a.tmps[65]? = some (.bool r) := by rw [ha]; exact putSel_on (e := (20, 65, .bool r)) 20 rfl rfl (hon 20 (by kernel_rfl)) rfl
        have e68 : a.tmps[68]? = some (.bool r) := by rw [ha]; exact putSel_on (e := (23, 68, .bool r)) 23 rfl rfl (hon 23 (by kernel_rfl)) rfl
        have e60 : a.tmps[60]? = some (.bool true) := by rw [ha]; exact putSel_on (e := (15, 60, .bool true)) 15 rfl rfl (hon 15 (by kernel_rfl)) rfl
        replace ha := Aside0.mk ha
        have HD := Aside0.mk Q_HD
        have GA := Aside0.mk Q_GA
        have GB := Aside0.mk Q_GB
        have GC := Aside0.mk Q_GC
        refine value_ (w1 := w') (v := .bool true) (wanted_on rfl rfl rfl (e60.trans (by first | rfl | (simp [*]; done)))) rfl ?_ ?_
        · go_simp
          (try simp only [i64_w])
          try first | rfl | assumption
        refine hK.out _ _ ⟨(by rw [ha.out]; exact putSel_upk 24 hb_ rfl rfl rfl), Q_HD, Q_GA, Q_GB, Q_GC⟩
      refine steps_cons ?_ ?_
      · rintro b a w' ⟨ha, Q_HD, Q_GA, Q_GB, Q_GC⟩ hb_ hon hoff
        refine ⟨_, rfl, fun K hK => ?_⟩
        have e60 : a.tmps[60]? = some (.bool true) := by rw [ha]; exact putSel_on (e := (15, 60, .bool true)) 15 rfl rfl (hon 15 (by kernel_rfl)) rfl
        have e69 : a.tmps[69]? = some (.bool true) := by rw [ha]; exact putSel_on (e := (24, 69, .bool true)) 24 rfl rfl (hon 24 (by kernel_rfl)) rfl
        replace ha := Aside0.mk ha
        have HD := Aside0.mk Q_HD
        have GA := Aside0.mk Q_GA
        have GB := Aside0.mk Q_GB
        have GC := Aside0.mk Q_GC
        refine value_ (w1 := w') (v := .bool true) (by rfl) rfl ?_ ?_
        · go_simp
          (try simp only [i64_w])
          try first | rfl | assumption
        refine hK.out _ _ ⟨(by rw [ha.out]; exact putSel_upk 25 hb_ rfl rfl rfl), Q_HD, Q_GA, Q_GB, Q_GC⟩
      refine steps_cons ?_ ?_
      · rintro b a w' ⟨ha, Q_HD, Q_GA, Q_GB, Q_GC⟩ hb_ hon hoff
        refine ⟨_, rfl, fun K hK => ?_⟩
        have e70 : a.tmps[70]? = some (.bool true) := by rw [ha]; exact putSel_on (e := (25, 70, .bool true)) 25 rfl rfl (hon 25 (by kernel_rfl)) rfl
        replace ha := Aside0.mk ha
        have HD := Aside0.mk Q_HD
        have GA := Aside0.mk Q_GA
        have GB := Aside0.mk Q_GB
        have GC := Aside0.mk Q_GC
        refine value_ (w1 := w') (v := .bool true) (by rfl) rfl ?_ ?_
        · go_simp
          (try simp only [i64_w])
          try first | rfl | assumption
        refine hK.out _ _ ⟨(by rw [ha.out]; exact putSel_upk 26 hb_ rfl rfl rfl), Q_HD, Q_GA, Q_GB, Q_GC⟩
      refine steps_cons ?_ ?_
      · rintro b a w' ⟨ha, Q_HD, Q_GA, Q_GB, Q_GC⟩ hb_ hon hoff
        refine ⟨_, rfl, fun K hK => ?_⟩
        have e71 : a.tmps[71]? = some (.bool true) := by rw [ha]; exact putSel_on (e := (26, 71, .bool true)) 26 rfl rfl (hon 26 (by kernel_rfl)) rfl
        replace ha := Aside0.mk ha
        have HD := Aside0.mk Q_HD
        have GA := Aside0.mk Q_GA
        have GB := Aside0.mk Q_GB
        have GC := Aside0.mk Q_GC
        refine goes_ Try.func9 (by kernel_rfl) rfl #[] (wanted_on rfl rfl rfl (e71.trans (by first | rfl | (simp [*]; done)))) rfl rfl (by first | (simp only [List.map_toArray, List.map_cons, List.map_nil, Act.eval, Array.getD_eq_getD_getElem?, Option.getD_some, e71]; done) | (simp only [List.map_toArray, List.map_cons, List.map_nil, Act.eval, Array.getD_eq_getD_getElem?, Option.getD_some, e71]; rfl)) ?_
        with_reducible refine (hAw.out w').mono ?_
        rintro e wq ⟨rfl, hb⟩
        refine ⟨_, rfl, ?_⟩
        refine hK.out _ _ ⟨(by rw [ha.out]; exact putSel_upk 27 hb_ rfl rfl rfl), HD.out.trans (hb.mono HD.out.size), blk_below GA.out hb, blk_below GB.out hb, blk_below GC.out hb⟩
      refine steps_cons ?_ ?_
      · rintro b a w' ⟨ha, Q_HD, Q_GA, Q_GB, Q_GC⟩ hb_ hon hoff
        refine ⟨_, rfl, fun K hK => ?_⟩
        have e71 : a.tmps[71]? = some (.bool true) := by rw [ha]; exact putSel_on (e := (26, 71, .bool true)) 26 rfl rfl (hon 26 (by kernel_rfl)) rfl
        have e72 : a.tmps[72]? = some (.bool true) := by rw [ha]; exact putSel_on (e := (27, 72, .bool true)) 27 rfl rfl (hon 27 (by kernel_rfl)) rfl
        replace ha := Aside0.mk ha
        have HD := Aside0.mk Q_HD
        have GA := Aside0.mk Q_GA
        have GB := Aside0.mk Q_GB
        have GC := Aside0.mk Q_GC
        refine value_ (w1 := w') (v := .bool true) (by rfl) rfl ?_ ?_
        · go_simp
          (try simp only [i64_w])
          try first | rfl | assumption
        refine hK.out _ _ ⟨(by rw [ha.out]; exact putSel_upk 28 hb_ rfl rfl rfl), Q_HD, Q_GA, Q_GB, Q_GC⟩
      refine steps_cons ?_ ?_
      · rintro b a w' ⟨ha, Q_HD, Q_GA, Q_GB, Q_GC⟩ hb_ hon hoff
        refine ⟨_, rfl, fun K hK => ?_⟩
        have e73 : a.tmps[73]? = some (.bool true) := by rw [ha]; exact putSel_on (e := (28, 73, .bool true)) 28 rfl rfl (hon 28 (by kernel_rfl)) rfl
        replace ha := Aside0.mk ha
        have HD := Aside0.mk Q_HD
        have GA := Aside0.mk Q_GA
        have GB := Aside0.mk Q_GB
        have GC := Aside0.mk Q_GC
        refine value_ (w1 := w') (v := .bool true) (by rfl) rfl ?_ ?_
        · go_simp
          (try simp only [i64_w])
          try first | rfl | assumption
        refine hK.out _ _ ⟨(by rw [ha.out]; exact putSel_upk 29 hb_ rfl rfl rfl), Q_HD, Q_GA, Q_GB, Q_GC⟩
      exact steps_nil
    rintro b a w9 hall ⟨ha, Q_HD, Q_GA, Q_GB, Q_GC⟩
    clear GA GB GC HD
    have hb0_ := hall 0 (by kernel_rfl)
    have hb1_ := hall 1 (by kernel_rfl)
    have hb2_ := hall 2 (by kernel_rfl)
    have hb3_ := hall 3 (by kernel_rfl)
    have hb4_ := hall 4 (by kernel_rfl)
    have hb5_ := hall 5 (by kernel_rfl)
    have hb6_ := hall 6 (by kernel_rfl)
    have hb7_ := hall 7 (by kernel_rfl)
    have hb8_ := hall 8 (by kernel_rfl)
    have hb9_ := hall 9 (by kernel_rfl)
    have hb10_ := hall 10 (by kernel_rfl)
    have hb11_ := hall 11 (by kernel_rfl)
    have hb12_ := hall 12 (by kernel_rfl)
    have hb13_ := hall 13 (by kernel_rfl)
    have hb14_ := hall 14 (by kernel_rfl)
    have hb15_ := hall 15 (by kernel_rfl)
    have hb16_ := hall 16 (by kernel_rfl)
    have hb17_ := hall 17 (by kernel_rfl)
    have hb18_ := hall 18 (by kernel_rfl)
    have hb19_ := hall 19 (by kernel_rfl)
    have hb20_ := hall 20 (by kernel_rfl)
    have hb21_ := hall 21 (by kernel_rfl)
    have hb22_ := hall 22 (by kernel_rfl)
    have hb23_ := hall 23 (by kernel_rfl)
    have hb24_ := hall 24 (by kernel_rfl)
    have hb25_ := hall 25 (by kernel_rfl)
    have hb26_ := hall 26 (by kernel_rfl)
    have hb27_ := hall 27 (by kernel_rfl)
    have hb28_ := hall 28 (by kernel_rfl)
    have hb29_ := hall 29 (by kernel_rfl)
    subst ha
    simp only [putSel, hb0_, hb1_, hb2_, hb3_, hb4_, hb5_, hb6_, hb7_, hb8_, hb9_, hb10_, hb11_, hb12_, hb13_, hb14_, hb15_, hb16_, hb17_, hb18_, hb19_, hb20_, hb21_, hb22_, hb23_, hb24_, hb25_, hb26_, hb27_, hb28_, hb29_, if_true, Act.put, List.setIfInBounds_toArray, List.set_cons_zero, List.set_cons_succ]
    have HD := Aside0.mk Q_HD
    clear Q_HD
    have GA := Aside0.mk Q_GA
    clear Q_GA
    have GB := Aside0.mk Q_GB
    clear Q_GB
    have GC := Aside0.mk Q_GC
    clear Q_GC
    clear hall hb0_ hb1_ hb2_ hb3_ hb4_ hb5_ hb6_ hb7_ hb8_ hb9_ hb10_ hb11_ hb12_ hb13_ hb14_ hb15_ hb16_ hb17_ hb18_ hb19_ hb20_ hb21_ hb22_ hb23_ hb24_ hb25_ hb26_ hb27_ hb28_ hb29_
    go_wp2_with fail
    go_ret
    exact ⟨rfl, HB8.out.trans (HD.out.mono HB8.out.size)⟩
set_option maxRecDepth 100000 in
theorem form3Back_open (x y : FmR.BoxT) (cs ds : Array Value) (w : World) (hK : FmR.boxD.K w x cs.toList) (hok : FmR.okB x) (hK2 : FmR.boxD.K w y ds.toList) (hok2 : FmR.okB y) : Calls Try.prog 4 #[.agg cs, .agg ds] w fun e w' => e = .returned (.bool true) ∧ Below w.heap.size w w' := by
  obtain ⟨A4, c4, A5, c5, rfl, C4, h4, C5, h5⟩ := FmR.box_open hK
  obtain ⟨o0, _, _, _, ⟨o4, o4'⟩, ⟨o5, o5'⟩⟩ := hok
  obtain ⟨B4, d4, B5, d5, rfl, D4, g4, D5, g5⟩ := FmR.box_open hK2
  obtain ⟨q0, _, _, _, ⟨q4, q4'⟩, ⟨q5, q5'⟩⟩ := hok2
  refine form3Back_calls x.1 x.2.1 x.2.2.1 x.2.2.2.1 A4 c4 _ A5 c5 _ y.1 y.2.1 y.2.2.1 y.2.2.2.1 B4 d4 _ B5 d5 _ w C4 h4 C5 h5 (by unfold FmR.okS at o0; omega) (fun s hs => by have := o4' s hs; unfold FmR.okS at this; omega) (fun m hm => ?_) (by omega) (by rw [List.length_map]; omega) D4 g4 D5 g5 (by unfold FmR.okS at q0; omega) (fun s hs => by have := q4' s hs; unfold FmR.okS at this; omega) (fun m hm => ?_) (by omega) (by rw [List.length_map]; omega)
  · obtain ⟨z, hz, rfl⟩ := List.mem_map.1 hm
    exact FmR.wt_ok (o5' z hz)
  · obtain ⟨z, hz, rfl⟩ := List.mem_map.1 hm
    exact FmR.wt_ok (q5' z hz)
end Go.Proofs.Ytjlabkibpknkpaa.FpY
