-- The used parts of 3 texts, laid together by merge.py.
import Derived.Test.YtjljgcceapkdcaaZQ18
section
namespace Go.Proofs.Ytjljgcceapkdcaa.RpI
open Go.RowKit Go.Proofs.YtjljgcceapkdcaaW.PrintWords Go.Proofs.YtjljgcceapkdcaaW.PrintLast Go.Proofs.YtjljgcceapkdcaaW.PrintMore Go.Proofs.Ytjljgcceapkdcaa.RkM Go.Proofs.Ytjljgcceapkdcaa.RkA Go.Proofs.Ytjljgcceapkdcaa.RkB Go.Proofs.Ytjljgcceapkdcaa.RkC Go.Proofs.Ytjljgcceapkdcaa.RkD Go.Proofs.Ytjljgcceapkdcaa.RkE Go.Proofs.Ytjljgcceapkdcaa.RkF Go.Proofs.Ytjljgcceapkdcaa.RkG Go.Proofs.Ytjljgcceapkdcaa.RkH Go.Proofs.Ytjljgcceapkdcaa.RkI Go.Proofs.Ytjljgcceapkdcaa.RkJ Go.Proofs.Ytjljgcceapkdcaa.Rw
set_option linter.unusedVariables false
set_option linter.unusedSimpArgs false
def GoF (w0 w : World) (g : Nat) (r : RS) (s d : ByteArray) (num : Nat) (sm : Int) (e : Ending) (w' : World) : Prop :=
  Kept w w' (r.S g) ∧ (((40 < num ∨ r.room < sm) ∧ e = .returned (.int .i64 4) ∧ RackAt w0 w' g r) ∨
   (¬ (40 < num ∨ r.room < sm) ∧ r.fuse = 0 ∧ e = .returned (.int .i64 5) ∧ RackAt w0 w' g { r with down := true }) ∨
   (¬ (40 < num ∨ r.room < sm) ∧ r.fuse ≠ 0 ∧ e = .returned (.int .i64 0) ∧ ∃ v A c, RackAt w0 w' g (stepRS r ⟨s, false, A, c, d⟩ v) ∧ (v.ownBlock = r.lv.ownBlock ∨ ∃ k, v.ownBlock = some k ∧ w.heap.size ≤ k) ∧ ∀ ad, A = some ad → w.heap.size ≤ ad.block))
def t_rack_Rack_Write.T6 : Bool × List (List Nat × List Nat) := (true, [([], []), ([0], [0]), ([], []), ([], []), ([2, 3, 1], [2, 3]), ([1, 4], [1, 4]), ([], []), ([6], [6]), ([7], [7]), ([8], [8]), ([9, 4], [9]), ([10], [10]), ([5, 10, 0, 1, 2, 3, 4, 5], [5]), ([11, 12, 0, 1, 2, 3, 4, 5, 6, 7, 8, 9, 10, 11, 12], [11])])
def t_rack_Rack_Write.B6 : List Nat := [0, 1, 0, 0, 15, 31, 0, 64, 192, 448, 991, 2015, 2047, 8191]
theorem t_rack_Rack_Write.tab6 : rtab .any (opsOf Try.f16 6) = t_rack_Rack_Write.T6 := by kernel_rfl
theorem t_rack_Rack_Write.bits6 : waitsOk t_rack_Rack_Write.T6.2 t_rack_Rack_Write.B6 = true := by kernel_rfl
set_option maxRecDepth 100000 in
set_option maxHeartbeats 8000000 in
theorem writeF_none (w0 : World) (g : Nat) (r : RS) (s : ByteArray) (A : Option Addr) (c : Nat) (d : ByteArray) (w : World) (h : RackAt w0 w g r) (hnm : namedB s = true) (hz : d.size ≤ 200000) (hdn : r.down = false) (hC : Kd.C (Kd.int .u8) w A d.size (bytesOf d)) (hc : d.size ≤ c) (hn : r.ns.length ≤ 99999) (hl : r.ls.length ≤ 99999) (hw : 0 ≤ r.writes ∧ r.writes ≤ 4611686018427387904) (hf : findF r.ns s = none) :
    Calls Try.prog 16 #[.pointer (some ⟨g, 0, none⟩), .string s, .slice A d.size c] w (GoF w0 w g r s d (r.ns.length + 1) ((sumF r.ns : Int) + (costN s d : Int))) := by
  have H := Aside0.mk h
  have HNm := Aside0.mk (fun W => named_calls s W)
  rw [hnm] at HNm
  have hss : s.size ≤ 24 := by unfold namedB at hnm; simp at hnm; exact hnm.2
  have hmx : s.size ≤ maxLen := by unfold maxLen; omega
  have hT : sumF r.ns ≤ 99999 * 200200 := Nat.le_trans (sumF_le (fs := r.ns) (m := 200200) (fun x hx => by
    obtain ⟨h1, h2⟩ := h.dn x hx
    have := h2.size
    unfold costN
    omega)) (Nat.mul_le_mul_right 200200 hn)
  have hcd : costN s d ≤ 200100 := by unfold costN; omega
  have hT1 : (sumF r.ns : Int) ≤ 20019999800 := by omega
  have hT2 : (costN s d : Int) ≤ 200100 := by omega
  have hn1 : (r.ns.length : Int) ≤ 99999 := by omega
  have HDn := Aside0.mk hdn
  have HNL := Aside0.mk (And.intro hn (And.intro hl hw))
  have HC := Aside0.mk hC
  have Hc := Aside0.mk hc
  have HSZ := Aside0.mk (show s.size ≤ 24 ∧ d.size ≤ 200000 from ⟨hss, hz⟩)
  have hdz : decide (200000 < (d.size : Int)) = false := decide_eq_false (by omega)
  have hrm := h.rm
  clear h hnm hz hdn hC hc hn hl hw hT hcd hss
  obtain ⟨ns, hns⟩ : ∃ ns, r.ns = ns := ⟨_, rfl⟩
  obtain ⟨bn, hbn⟩ : ∃ bn, r.bn = bn := ⟨_, rfl⟩
  obtain ⟨room, hroom⟩ : ∃ room, r.room = room := ⟨_, rfl⟩
  have HQ := Aside0.mk (And.intro hns (And.intro hbn hroom))
  rw [hns] at hT1 hn1 hf ⊢
  rw [hroom] at hrm
  clear hns hbn hroom
  go_enter Try.func16, Try.ntmps16
  go_upto_region 3 with (go_at_call 52; refine (HNm.out _).mono ?_; rintro e_ w1 ⟨rfl, hb⟩; have HB1 := Aside0.mk hb; clear hb HNm; skip)
  have H1 := Aside0.mk (H.out.below HB1.out)
  have c5 := rack_c H1.out 5
  have c2 := rack_c H1.out 2
  unfold RS.cs at c5 c2
  rw [HDn.out] at c5
  rw [HQ.out.2.1] at c2
  have HF1 := Aside0.mk (show FM w1 bn ns.length ns by have := H1.out.nm; rwa [HQ.out.1, HQ.out.2.1] at this)
  go_upto_region 6 with ((with_reducible refine gate_dst (N := 33) rfl ?_); refine look_none rfl _ _ rfl bn ns.length ns s rfl HF1.out rfl hmx hf ?_; skip)
  clear c5 c2
  have HB : Aside0 (Below w1.heap.size w1 w1) := ⟨Below.refl _ _⟩
  have HSi := Aside0.mk (fun (W : World) (hb : Below w1.heap.size w1 W) => size_calls w0 g r W (H1.out.below hb) (by have := HNL.out.1; omega))
  rw [HQ.out.1] at HSi
  refine start_ (n := 14) (S := fun w' => True) (ds := []) #[false, false, false, false, false, false, false, false, false, false, false, false, false, false] (by kernel_rfl) rfl rfl trivial (fun hHeld => ?_)
  refine with_tabW t_rack_Rack_Write.tab6 t_rack_Rack_Write.bits6 (fun HT_ HW_ => ?_)
  have hd_ := (below_drew1 (Below.refl w1.heap.size w1))
  have n_HB := Aside0.mk (HB.out.drew)
  clear HB
  have HB := n_HB
  clear n_HB
  generalize w1.drew = w_d at *
  clear hd_
  refine inv_at [0, 1, 2, 3, 4, 5, 6, 7, 8, 9, 10, 11, 12, 13] (fun a0_ b a w' => a = putSel a0_ b [(0, 36, .pointer (some ⟨g, 0, none⟩)), (1, 37, .int .i64 (sumF ns : Int)), (2, 38, .string s), (3, 39, .slice A d.size c), (4, 40, .int .i64 (costN s d : Int)), (5, 41, .int .i64 ((sumF ns : Int) + (costN s d : Int))), (6, 42, .pointer (some ⟨g, 0, none⟩)), (7, 43, .pointer (some ⟨g, 0, none⟩)), (8, 44, .pointer (some ⟨g, 2, none⟩)), (9, 45, .map (some bn)), (10, 46, .int .i64 (ns.length : Int)), (11, 47, .int .i64 ((ns.length : Int) + 1)), (12, 9, .int .i64 ((sumF ns : Int) + (costN s d : Int))), (13, 10, .int .i64 ((ns.length : Int) + 1))] ∧ (Below w1.heap.size w1 w')) HT_.out HW_.out (by kernel_rfl) (by kernel_rfl) ?_ ?_ ?_
  · exact ⟨by simp only [putSel, Bool.false_eq_true, if_false], HB.out⟩
  · skip
    clear HB
    refine steps_cons ?_ ?_
    · rintro b a w' ⟨ha, Q_HB⟩ hb_ hon hoff
      refine ⟨_, rfl, fun K hK => ?_⟩
      have e0 : a.tmps[0]? = some (.pointer (some ⟨g, 0, none⟩)) := by rw [ha]; exact (putSel_off rfl).trans rfl
      replace ha := Aside0.mk ha
      refine value_ (w1 := w') (v := .pointer (some ⟨g, 0, none⟩)) (by rfl) rfl ?_ ?_
      · go_simp
        try first | rfl | assumption
      refine hK.out _ _ ⟨(by rw [ha.out]; exact putSel_upk 0 hb_ rfl rfl rfl), Q_HB⟩
    refine steps_cons ?_ ?_
    · rintro b a w' ⟨ha, Q_HB⟩ hb_ hon hoff
      refine ⟨_, rfl, fun K hK => ?_⟩
      have e36 : a.tmps[36]? = some (.pointer (some ⟨g, 0, none⟩)) := by rw [ha]; exact putSel_on (e := (0, 36, .pointer (some ⟨g, 0, none⟩))) 0 rfl rfl (hon 0 (by kernel_rfl)) rfl
      replace ha := Aside0.mk ha
      have HB := Aside0.mk Q_HB
      refine goes_ Try.func37 (by kernel_rfl) rfl #[.pointer (some ⟨g, 0, none⟩)] (by rfl) rfl rfl (by first | (simp only [List.map_toArray, List.map_cons, List.map_nil, Act.eval, Array.getD_eq_getD_getElem?, Option.getD_some, e36]; done) | (simp only [List.map_toArray, List.map_cons, List.map_nil, Act.eval, Array.getD_eq_getD_getElem?, Option.getD_some, e36]; rfl)) ?_
      with_reducible refine (HSi.out w' HB.out).mono ?_
      rintro e wq ⟨rfl, hb⟩
      refine ⟨_, rfl, ?_⟩
      refine hK.out _ _ ⟨(by rw [ha.out]; exact putSel_upk 1 hb_ rfl rfl rfl), HB.out.trans (hb.mono HB.out.size)⟩
    refine steps_cons ?_ ?_
    · rintro b a w' ⟨ha, Q_HB⟩ hb_ hon hoff
      refine ⟨_, rfl, fun K hK => ?_⟩
      have e1 : a.tmps[1]? = some (.string s) := by rw [ha]; exact (putSel_off rfl).trans rfl
      replace ha := Aside0.mk ha
      refine value_ (w1 := w') (v := .string s) (by rfl) rfl ?_ ?_
      · go_simp
        try first | rfl | assumption
      refine hK.out _ _ ⟨(by rw [ha.out]; exact putSel_upk 2 hb_ rfl rfl rfl), Q_HB⟩
    refine steps_cons ?_ ?_
    · rintro b a w' ⟨ha, Q_HB⟩ hb_ hon hoff
      refine ⟨_, rfl, fun K hK => ?_⟩
      have e2 : a.tmps[2]? = some (.slice A d.size c) := by rw [ha]; exact (putSel_off rfl).trans rfl
      replace ha := Aside0.mk ha
      refine value_ (w1 := w') (v := .slice A d.size c) (by rfl) rfl ?_ ?_
      · go_simp
        try first | rfl | assumption
      refine hK.out _ _ ⟨(by rw [ha.out]; exact putSel_upk 3 hb_ rfl rfl rfl), Q_HB⟩
    refine steps_cons ?_ ?_
    · rintro b a w' ⟨ha, Q_HB⟩ hb_ hon hoff
      refine ⟨_, rfl, fun K hK => ?_⟩
      have e38 : a.tmps[38]? = some (.string s) := by rw [ha]; exact putSel_on (e := (2, 38, .string s)) 2 rfl rfl (hon 2 (by kernel_rfl)) rfl
      have e39 : a.tmps[39]? = some (.slice A d.size c) := by rw [ha]; exact putSel_on (e := (3, 39, .slice A d.size c)) 3 rfl rfl (hon 3 (by kernel_rfl)) rfl
      replace ha := Aside0.mk ha
      have HB := Aside0.mk Q_HB
      refine goes_ Try.func53 (by kernel_rfl) rfl #[.string s, .slice A d.size c] (by rfl) rfl rfl (by first | (simp only [List.map_toArray, List.map_cons, List.map_nil, Act.eval, Array.getD_eq_getD_getElem?, Option.getD_some, e38, e39]; done) | (simp only [List.map_toArray, List.map_cons, List.map_nil, Act.eval, Array.getD_eq_getD_getElem?, Option.getD_some, e38, e39]; rfl)) ?_
      with_reducible refine (cost_calls s A c d w' (Kd.C_below (Kd.C_below HC.out HB1.out) HB.out) Hc.out (by have := HSZ.out; omega) (by have := HSZ.out; omega)).mono ?_
      rintro e wq ⟨rfl, hb⟩
      refine ⟨_, rfl, ?_⟩
      refine hK.out _ _ ⟨(by rw [ha.out]; exact putSel_upk 4 hb_ rfl rfl rfl), HB.out.trans (hb.mono HB.out.size)⟩
    refine steps_cons ?_ ?_
    · rintro b a w' ⟨ha, Q_HB⟩ hb_ hon hoff
      refine ⟨_, rfl, fun K hK => ?_⟩
      have e37 : a.tmps[37]? = some (.int .i64 (sumF ns : Int)) := by rw [ha]; exact putSel_on (e := (1, 37, .int .i64 (sumF ns : Int))) 1 rfl rfl (hon 1 (by kernel_rfl)) rfl
      have e40 : a.tmps[40]? = some (.int .i64 (costN s d : Int)) := by rw [ha]; exact putSel_on (e := (4, 40, .int .i64 (costN s d : Int))) 4 rfl rfl (hon 4 (by kernel_rfl)) rfl
      replace ha := Aside0.mk ha
      have hs : IntKind.i64.wrap ((sumF ns : Int) + (costN s d : Int)) = (sumF ns : Int) + (costN s d : Int) := by rw [IntKind.wrap_i64]; omega
      refine value_ (w1 := w') (v := .int .i64 ((sumF ns : Int) + (costN s d : Int))) (by rfl) rfl ?_ ?_
      · go_simp
        (try simp only [i64_w])
        try first | rfl | assumption
      refine hK.out _ _ ⟨(by rw [ha.out]; exact putSel_upk 5 hb_ rfl rfl rfl), Q_HB⟩
    refine steps_cons ?_ ?_
    · rintro b a w' ⟨ha, Q_HB⟩ hb_ hon hoff
      refine ⟨_, rfl, fun K hK => ?_⟩
      have e0 : a.tmps[0]? = some (.pointer (some ⟨g, 0, none⟩)) := by rw [ha]; exact (putSel_off rfl).trans rfl
      replace ha := Aside0.mk ha
      refine value_ (w1 := w') (v := .pointer (some ⟨g, 0, none⟩)) (by rfl) rfl ?_ ?_
      · go_simp
        try first | rfl | assumption
      refine hK.out _ _ ⟨(by rw [ha.out]; exact putSel_upk 6 hb_ rfl rfl rfl), Q_HB⟩
    refine steps_cons ?_ ?_
    · rintro b a w' ⟨ha, Q_HB⟩ hb_ hon hoff
      refine ⟨_, rfl, fun K hK => ?_⟩
      have e42 : a.tmps[42]? = some (.pointer (some ⟨g, 0, none⟩)) := by rw [ha]; exact putSel_on (e := (6, 42, .pointer (some ⟨g, 0, none⟩))) 6 rfl rfl (hon 6 (by kernel_rfl)) rfl
      replace ha := Aside0.mk ha
      refine value_ (w1 := w') (v := .pointer (some ⟨g, 0, none⟩)) (by rfl) rfl ?_ ?_
      · go_simp
        try first | rfl | assumption
      refine hK.out _ _ ⟨(by rw [ha.out]; exact putSel_upk 7 hb_ rfl rfl rfl), Q_HB⟩
    refine steps_cons ?_ ?_
    · rintro b a w' ⟨ha, Q_HB⟩ hb_ hon hoff
      refine ⟨_, rfl, fun K hK => ?_⟩
      have e43 : a.tmps[43]? = some (.pointer (some ⟨g, 0, none⟩)) := by rw [ha]; exact putSel_on (e := (7, 43, .pointer (some ⟨g, 0, none⟩))) 7 rfl rfl (hon 7 (by kernel_rfl)) rfl
      replace ha := Aside0.mk ha
      refine value_ (w1 := w') (v := .pointer (some ⟨g, 2, none⟩)) (by rfl) rfl ?_ ?_
      · go_simp
        try first | rfl | assumption
      refine hK.out _ _ ⟨(by rw [ha.out]; exact putSel_upk 8 hb_ rfl rfl rfl), Q_HB⟩
    refine steps_cons ?_ ?_
    · rintro b a w' ⟨ha, Q_HB⟩ hb_ hon hoff
      refine ⟨_, rfl, fun K hK => ?_⟩
      have e44 : a.tmps[44]? = some (.pointer (some ⟨g, 2, none⟩)) := by rw [ha]; exact putSel_on (e := (8, 44, .pointer (some ⟨g, 2, none⟩))) 8 rfl rfl (hon 8 (by kernel_rfl)) rfl
      replace ha := Aside0.mk ha
      have HB := Aside0.mk Q_HB
      have hc2 := rack_c (H1.out.below HB.out) 2; unfold RS.cs at hc2; rw [HQ.out.2.1] at hc2
      refine value_ (w1 := w') (v := .map (some bn)) (by rfl) rfl ?_ ?_
      · go_simp
        try first | rfl | assumption
      refine hK.out _ _ ⟨(by rw [ha.out]; exact putSel_upk 9 hb_ rfl rfl rfl), Q_HB⟩
    refine steps_cons ?_ ?_
    · rintro b a w' ⟨ha, Q_HB⟩ hb_ hon hoff
      refine ⟨_, rfl, fun K hK => ?_⟩
      have e45 : a.tmps[45]? = some (.map (some bn)) := by rw [ha]; exact putSel_on (e := (9, 45, .map (some bn))) 9 rfl rfl (hon 9 (by kernel_rfl)) rfl
      replace ha := Aside0.mk ha
      have HB := Aside0.mk Q_HB
      have hlr := len_run (HF1.out.below HB.out) 3
      refine value_ (w1 := w') (v := .int .i64 (ns.length : Int)) (by rfl) rfl ?_ ?_
      · go_simp
        (try simp only [i64_w])
        try first | rfl | assumption
      refine hK.out _ _ ⟨(by rw [ha.out]; exact putSel_upk 10 hb_ rfl rfl rfl), Q_HB⟩
    refine steps_cons ?_ ?_
    · rintro b a w' ⟨ha, Q_HB⟩ hb_ hon hoff
      refine ⟨_, rfl, fun K hK => ?_⟩
      have e46 : a.tmps[46]? = some (.int .i64 (ns.length : Int)) := by rw [ha]; exact putSel_on (e := (10, 46, .int .i64 (ns.length : Int))) 10 rfl rfl (hon 10 (by kernel_rfl)) rfl
      replace ha := Aside0.mk ha
      have hs : IntKind.i64.wrap ((ns.length : Int) + 1) = (ns.length : Int) + 1 := by rw [IntKind.wrap_i64]; omega
      refine value_ (w1 := w') (v := .int .i64 ((ns.length : Int) + 1)) (by rfl) rfl ?_ ?_
      · go_simp
        (try simp only [i64_w])
        try first | rfl | assumption
      refine hK.out _ _ ⟨(by rw [ha.out]; exact putSel_upk 11 hb_ rfl rfl rfl), Q_HB⟩
    refine steps_cons ?_ ?_
    · rintro b a w' ⟨ha, Q_HB⟩ hb_ hon hoff
      refine ⟨_, rfl, fun K hK => ?_⟩
      have e41 : a.tmps[41]? = some (.int .i64 ((sumF ns : Int) + (costN s d : Int))) := by rw [ha]; exact putSel_on (e := (5, 41, .int .i64 ((sumF ns : Int) + (costN s d : Int)))) 5 rfl rfl (hon 5 (by kernel_rfl)) rfl
      replace ha := Aside0.mk ha
      refine value_ (w1 := w') (v := .int .i64 ((sumF ns : Int) + (costN s d : Int))) (by rfl) rfl ?_ ?_
      · go_simp
        (try simp only [i64_w])
        try first | rfl | assumption
      refine hK.out _ _ ⟨(by rw [ha.out]; exact putSel_upk 12 hb_ rfl rfl rfl), Q_HB⟩
    refine steps_cons ?_ ?_
    · rintro b a w' ⟨ha, Q_HB⟩ hb_ hon hoff
      refine ⟨_, rfl, fun K hK => ?_⟩
      have e47 : a.tmps[47]? = some (.int .i64 ((ns.length : Int) + 1)) := by rw [ha]; exact putSel_on (e := (11, 47, .int .i64 ((ns.length : Int) + 1))) 11 rfl rfl (hon 11 (by kernel_rfl)) rfl
      replace ha := Aside0.mk ha
      refine value_ (w1 := w') (v := .int .i64 ((ns.length : Int) + 1)) (by rfl) rfl ?_ ?_
      · go_simp
        (try simp only [i64_w])
        try first | rfl | assumption
      refine hK.out _ _ ⟨(by rw [ha.out]; exact putSel_upk 13 hb_ rfl rfl rfl), Q_HB⟩
    exact steps_nil
  rintro b a w2 hall ⟨ha, Q_HB⟩
  clear HB
  have hb0_ := hall 0 (by kernel_rfl)
  have hb1_ := hall 1 (by kernel_rfl)
  have hb2_ := hall 2 (by kernel_rfl)
  have hb3_ := hall 3 (by kernel_rfl)
  have hb4_ := hall 4 (by kernel_rfl)
  have hb5_ := hall 5 (by kernel_rfl)
  have hb6_ := hall 6 (by kernel_rfl)
  have hb7_ := hall 7 (by kernel_rfl)
  have hb8_ := hall 8 (by kernel_rfl)
  have hb9_ := hall 9 (by kernel_rfl)
  have hb10_ := hall 10 (by kernel_rfl)
  have hb11_ := hall 11 (by kernel_rfl)
  have hb12_ := hall 12 (by kernel_rfl)
  have hb13_ := hall 13 (by kernel_rfl)
  subst ha
  simp only [putSel, hb0_, hb1_, hb2_, hb3_, hb4_, hb5_, hb6_, hb7_, hb8_, hb9_, hb10_, hb11_, hb12_, hb13_, if_true, Act.put, List.setIfInBounds_toArray, List.set_cons_zero, List.set_cons_succ]
  have HB := Aside0.mk Q_HB
  clear Q_HB
  clear hall hb0_ hb1_ hb2_ hb3_ hb4_ hb5_ hb6_ hb7_ hb8_ hb9_ hb10_ hb11_ hb12_ hb13_
  have HB2 := Aside0.mk (HB1.out.trans (HB.out.mono HB1.out.size))
  clear HB HF1 H1
  go_upto_region 9 with fail
  have H2 := Aside0.mk (H.out.below HB2.out)
  have c0 := rack_c H2.out 0
  unfold RS.cs at c0
  rw [HQ.out.2.2] at c0
  by_cases h40 : 40 < (ns.length + 1)
  · have hd1 : decide (40 < (ns.length : Int) + 1) = true := decide_eq_true (by omega)
    have HP := Aside0.mk (show GoF w0 w g r s d (ns.length + 1) ((sumF ns : Int) + (costN s d : Int)) (.returned (.int .i64 4)) w2 from ⟨Kept.of_below HB2.out _, .inl ⟨.inl h40, rfl, H2.out⟩⟩)
    go_wp2_with fail
    go_ret
    exact HP.out
  · have hd1 : decide (40 < (ns.length : Int) + 1) = false := decide_eq_false (by omega)
    by_cases hrs : room < ((sumF ns : Int) + (costN s d : Int))
    · have hd2 : decide (room < ((sumF ns : Int) + (costN s d : Int))) = true := decide_eq_true hrs
      have HP := Aside0.mk (show GoF w0 w g r s d (ns.length + 1) ((sumF ns : Int) + (costN s d : Int)) (.returned (.int .i64 4)) w2 from ⟨Kept.of_below HB2.out _, .inl ⟨.inr (by rw [HQ.out.2.2]; exact hrs), rfl, H2.out⟩⟩)
      go_wp2_with fail
      go_ret
      exact HP.out
    · have hd2 : decide (room < ((sumF ns : Int) + (costN s d : Int))) = false := decide_eq_false hrs
      have HNo := Aside0.mk (show ¬ (40 < (ns.length + 1) ∨ r.room < ((sumF ns : Int) + (costN s d : Int))) by rw [HQ.out.2.2]; exact fun h => h.elim h40 hrs)
      clear hrs h40
      by_cases hfu : r.fuse = 0
      · have HFu := Aside0.mk hfu
        clear hfu
        go_wp2_with (first
          | (go_at_call 55; refine (clone_calls A c d _ (Kd.C_below HC.out HB2.out) Hc.out (by have := HSZ.out; omega)).mono ?_; rintro e_ w4 ⟨A', c', rfl, hcp, hC', hap, hb⟩; have HB4 := Aside0.mk (HB2.out.trans (hb.mono HB2.out.size)); have H4 := Aside0.mk (H2.out.below hb); have HDk := Aside0.mk (show s.size ≤ 100 ∧ DOk w4 (r.S g) A' c' d from ⟨by have := HSZ.out; omega, hcp, HSZ.out.2, hC', fun ad ha => ⟨(hap ad ha).2, fun hs => by have h1_ := S_lt H2.out _ hs; have h2_ := (hap ad ha).1; omega⟩⟩); have HAp := Aside0.mk (fun ad ha => Nat.le_trans HB2.out.size (hap ad ha).1); clear hcp hC' hap hb HB2 c0; skip)
          | (go_at_call 54; refine (goes_calls w0 g r ⟨s, false, A', c', d⟩ _ H4.out HDk.out (by have := HNL.out; omega) (by have := HNL.out; omega) HNL.out.2.2).mono ?_; intro e_ w5 hG; rcases hG with ⟨h1, rfl, h3, h4⟩ | ⟨h1, _⟩; (case inr => exact absurd HFu.out h1); have HP := Aside0.mk (show GoF w0 w g r s d (ns.length + 1) ((sumF ns : Int) + (costN s d : Int)) (.returned (.int .i64 5)) w5 from ⟨(Kept.of_below HB4.out _).then_ h4 (fun k hk => .inl hk), .inr (.inl ⟨HNo.out, HFu.out, rfl, h3⟩)⟩); clear h1 h3 h4; skip))
        go_ret
        exact HP.out
      · have HFu := Aside0.mk hfu
        clear hfu
        go_wp2_with (first
          | (go_at_call 55; refine (clone_calls A c d _ (Kd.C_below HC.out HB2.out) Hc.out (by have := HSZ.out; omega)).mono ?_; rintro e_ w4 ⟨A', c', rfl, hcp, hC', hap, hb⟩; have HB4 := Aside0.mk (HB2.out.trans (hb.mono HB2.out.size)); have H4 := Aside0.mk (H2.out.below hb); have HDk := Aside0.mk (show s.size ≤ 100 ∧ DOk w4 (r.S g) A' c' d from ⟨by have := HSZ.out; omega, hcp, HSZ.out.2, hC', fun ad ha => ⟨(hap ad ha).2, fun hs => by have h1_ := S_lt H2.out _ hs; have h2_ := (hap ad ha).1; omega⟩⟩); have HAp := Aside0.mk (fun ad ha => Nat.le_trans HB2.out.size (hap ad ha).1); clear hcp hC' hap hb HB2 c0; skip)
          | (go_at_call 54; refine (goes_calls w0 g r ⟨s, false, A', c', d⟩ _ H4.out HDk.out (by have := HNL.out; omega) (by have := HNL.out; omega) HNL.out.2.2).mono ?_; intro e_ w5 hG; rcases hG with ⟨h1, _⟩ | ⟨h1, rfl, h3, h4⟩; (case inl => exact absurd h1 HFu.out); have HP := Aside0.mk (show GoF w0 w g r s d (ns.length + 1) ((sumF ns : Int) + (costN s d : Int)) (.returned (.int .i64 0)) w5 from ⟨(Kept.of_below HB4.out _).then_ h4 (fun k hk => .inl hk), .inr (.inr ⟨HNo.out, HFu.out, rfl, (by obtain ⟨v, hr, hat⟩ := h3; exact ⟨v, A', c', hr, hat.imp id (fun ⟨q, e, hq⟩ => ⟨q, e, Nat.le_trans HB4.out.size hq⟩), HAp.out⟩)⟩)⟩); clear h1 h3 h4; skip))
        go_ret
        exact HP.out
set_option maxRecDepth 100000 in
set_option maxHeartbeats 8000000 in
theorem writeF_some (w0 : World) (g : Nat) (r : RS) (s : ByteArray) (A : Option Addr) (c : Nat) (d : ByteArray) (w : World) (h : RackAt w0 w g r) (hnm : namedB s = true) (hz : d.size ≤ 200000) (hdn : r.down = false) (hC : Kd.C (Kd.int .u8) w A d.size (bytesOf d)) (hc : d.size ≤ c) (hn : r.ns.length ≤ 99999) (hl : r.ls.length ≤ 99999) (hw : 0 ≤ r.writes ∧ r.writes ≤ 4611686018427387904) (f : FE) (hf : findF r.ns s = some f) :
    Calls Try.prog 16 #[.pointer (some ⟨g, 0, none⟩), .string s, .slice A d.size c] w (GoF w0 w g r s d r.ns.length ((sumF r.ns : Int) + (costN s d : Int) - (costN s f.d : Int))) := by
  have H := Aside0.mk h
  have HNm := Aside0.mk (fun W => named_calls s W)
  rw [hnm] at HNm
  have hss : s.size ≤ 24 := by unfold namedB at hnm; simp at hnm; exact hnm.2
  have hmx : s.size ≤ maxLen := by unfold maxLen; omega
  have hT : sumF r.ns ≤ 99999 * 200200 := Nat.le_trans (sumF_le (fs := r.ns) (m := 200200) (fun x hx => by
    obtain ⟨h1, h2⟩ := h.dn x hx
    have := h2.size
    unfold costN
    omega)) (Nat.mul_le_mul_right 200200 hn)
  have hcd : costN s d ≤ 200100 := by unfold costN; omega
  have hfm := find_some hf
  have hfd := h.dn f hfm.1
  have hcf : costN s f.d ≤ 200100 := by have := hfd.2.size; unfold costN; omega
  have hcf2 : costN s f.d ≤ sumF r.ns := by have := sumF_drop h.nm.srt hfm.1; rw [hfm.2] at this; omega
  have HFd := Aside0.mk hfd
  have hcf1 : (costN s f.d : Int) ≤ 200100 := by omega
  have hcf3 : (costN s f.d : Int) ≤ (sumF r.ns : Int) := by omega
  clear hfm hfd hcf hcf2
  have hT1 : (sumF r.ns : Int) ≤ 20019999800 := by omega
  have hT2 : (costN s d : Int) ≤ 200100 := by omega
  have hn1 : (r.ns.length : Int) ≤ 99999 := by omega
  have HDn := Aside0.mk hdn
  have HNL := Aside0.mk (And.intro hn (And.intro hl hw))
  have HC := Aside0.mk hC
  have Hc := Aside0.mk hc
  have HSZ := Aside0.mk (show s.size ≤ 24 ∧ d.size ≤ 200000 from ⟨hss, hz⟩)
  have hdz : decide (200000 < (d.size : Int)) = false := decide_eq_false (by omega)
  have hrm := h.rm
  clear h hnm hz hdn hC hc hn hl hw hT hcd hss
  obtain ⟨ns, hns⟩ : ∃ ns, r.ns = ns := ⟨_, rfl⟩
  obtain ⟨bn, hbn⟩ : ∃ bn, r.bn = bn := ⟨_, rfl⟩
  obtain ⟨room, hroom⟩ : ∃ room, r.room = room := ⟨_, rfl⟩
  have HQ := Aside0.mk (And.intro hns (And.intro hbn hroom))
  rw [hns] at hT1 hn1 hf ⊢
  rw [hroom] at hrm
  clear hns hbn hroom
  go_enter Try.func16, Try.ntmps16
  go_upto_region 3 with (go_at_call 52; refine (HNm.out _).mono ?_; rintro e_ w1 ⟨rfl, hb⟩; have HB1 := Aside0.mk hb; clear hb HNm; skip)
  have H1 := Aside0.mk (H.out.below HB1.out)
  have c5 := rack_c H1.out 5
  have c2 := rack_c H1.out 2
  unfold RS.cs at c5 c2
  rw [HDn.out] at c5
  rw [HQ.out.2.1] at c2
  have HF1 := Aside0.mk (show FM w1 bn ns.length ns by have := H1.out.nm; rwa [HQ.out.1, HQ.out.2.1] at this)
  go_upto_region 6 with ((with_reducible refine gate_dst (N := 33) rfl ?_); refine look_event rfl _ _ rfl bn ns.length ns s rfl HF1.out rfl hmx f hf ?_; skip)
  clear c5 c2
  have HB : Aside0 (Below w1.heap.size w1 w1) := ⟨Below.refl _ _⟩
  have HSi := Aside0.mk (fun (W : World) (hb : Below w1.heap.size w1 W) => size_calls w0 g r W (H1.out.below hb) (by have := HNL.out.1; omega))
  rw [HQ.out.1] at HSi
  refine start_ (n := 14) (S := fun w' => True) (ds := []) #[false, false, false, false, false, false, false, false, false, false, false, false, false, false] (by kernel_rfl) rfl rfl trivial (fun hHeld => ?_)
  refine with_tabW t_rack_Rack_Write.tab6 t_rack_Rack_Write.bits6 (fun HT_ HW_ => ?_)
  have hd_ := (below_drew1 (Below.refl w1.heap.size w1))
  have n_HB := Aside0.mk (HB.out.drew)
  clear HB
  have HB := n_HB
  clear n_HB
  generalize w1.drew = w_d at *
  clear hd_
  refine inv_at [0, 1, 2, 3, 4, 5, 6, 7, 8, 9, 10, 11, 12, 13] (fun a0_ b a w' => a = putSel a0_ b [(0, 36, .pointer (some ⟨g, 0, none⟩)), (1, 37, .int .i64 (sumF ns : Int)), (2, 38, .string s), (3, 39, .slice A d.size c), (4, 40, .int .i64 (costN s d : Int)), (5, 41, .int .i64 ((sumF ns : Int) + (costN s d : Int))), (6, 42, .pointer (some ⟨g, 0, none⟩)), (7, 43, .pointer (some ⟨g, 0, none⟩)), (8, 44, .pointer (some ⟨g, 2, none⟩)), (9, 45, .map (some bn)), (10, 46, .int .i64 (ns.length : Int)), (11, 47, .int .i64 ((ns.length : Int) + 1)), (12, 9, .int .i64 ((sumF ns : Int) + (costN s d : Int))), (13, 10, .int .i64 ((ns.length : Int) + 1))] ∧ (Below w1.heap.size w1 w')) HT_.out HW_.out (by kernel_rfl) (by kernel_rfl) ?_ ?_ ?_
  · exact ⟨by simp only [putSel, Bool.false_eq_true, if_false], HB.out⟩
  · skip
    clear HB
    refine steps_cons ?_ ?_
    · rintro b a w' ⟨ha, Q_HB⟩ hb_ hon hoff
      refine ⟨_, rfl, fun K hK => ?_⟩
      have e0 : a.tmps[0]? = some (.pointer (some ⟨g, 0, none⟩)) := by rw [ha]; exact (putSel_off rfl).trans rfl
      replace ha := Aside0.mk ha
      refine value_ (w1 := w') (v := .pointer (some ⟨g, 0, none⟩)) (by rfl) rfl ?_ ?_
      · go_simp
        try first | rfl | assumption
      refine hK.out _ _ ⟨(by rw [ha.out]; exact putSel_upk 0 hb_ rfl rfl rfl), Q_HB⟩
    refine steps_cons ?_ ?_
    · rintro b a w' ⟨ha, Q_HB⟩ hb_ hon hoff
      refine ⟨_, rfl, fun K hK => ?_⟩
      have e36 : a.tmps[36]? = some (.pointer (some ⟨g, 0, none⟩)) := by rw [ha]; exact putSel_on (e := (0, 36, .pointer (some ⟨g, 0, none⟩))) 0 rfl rfl (hon 0 (by kernel_rfl)) rfl
      replace ha := Aside0.mk ha
      have HB := Aside0.mk Q_HB
      refine goes_ Try.func37 (by kernel_rfl) rfl #[.pointer (some ⟨g, 0, none⟩)] (by rfl) rfl rfl (by first | (simp only [List.map_toArray, List.map_cons, List.map_nil, Act.eval, Array.getD_eq_getD_getElem?, Option.getD_some, e36]; done) | (simp only [List.map_toArray, List.map_cons, List.map_nil, Act.eval, Array.getD_eq_getD_getElem?, Option.getD_some, e36]; rfl)) ?_
      with_reducible refine (HSi.out w' HB.out).mono ?_
      rintro e wq ⟨rfl, hb⟩
      refine ⟨_, rfl, ?_⟩
      refine hK.out _ _ ⟨(by rw [ha.out]; exact putSel_upk 1 hb_ rfl rfl rfl), HB.out.trans (hb.mono HB.out.size)⟩
    refine steps_cons ?_ ?_
    · rintro b a w' ⟨ha, Q_HB⟩ hb_ hon hoff
      refine ⟨_, rfl, fun K hK => ?_⟩
      have e1 : a.tmps[1]? = some (.string s) := by rw [ha]; exact (putSel_off rfl).trans rfl
      replace ha := Aside0.mk ha
      refine value_ (w1 := w') (v := .string s) (by rfl) rfl ?_ ?_
      · go_simp
        try first | rfl | assumption
      refine hK.out _ _ ⟨(by rw [ha.out]; exact putSel_upk 2 hb_ rfl rfl rfl), Q_HB⟩
    refine steps_cons ?_ ?_
    · rintro b a w' ⟨ha, Q_HB⟩ hb_ hon hoff
      refine ⟨_, rfl, fun K hK => ?_⟩
      have e2 : a.tmps[2]? = some (.slice A d.size c) := by rw [ha]; exact (putSel_off rfl).trans rfl
      replace ha := Aside0.mk ha
      refine value_ (w1 := w') (v := .slice A d.size c) (by rfl) rfl ?_ ?_
      · go_simp
        try first | rfl | assumption
      refine hK.out _ _ ⟨(by rw [ha.out]; exact putSel_upk 3 hb_ rfl rfl rfl), Q_HB⟩
    refine steps_cons ?_ ?_
    · rintro b a w' ⟨ha, Q_HB⟩ hb_ hon hoff
      refine ⟨_, rfl, fun K hK => ?_⟩
      have e38 : a.tmps[38]? = some (.string s) := by rw [ha]; exact putSel_on (e := (2, 38, .string s)) 2 rfl rfl (hon 2 (by kernel_rfl)) rfl
      have e39 : a.tmps[39]? = some (.slice A d.size c) := by rw [ha]; exact putSel_on (e := (3, 39, .slice A d.size c)) 3 rfl rfl (hon 3 (by kernel_rfl)) rfl
      replace ha := Aside0.mk ha
      have HB := Aside0.mk Q_HB
      refine goes_ Try.func53 (by kernel_rfl) rfl #[.string s, .slice A d.size c] (by rfl) rfl rfl (by first | (simp only [List.map_toArray, List.map_cons, List.map_nil, Act.eval, Array.getD_eq_getD_getElem?, Option.getD_some, e38, e39]; done) | (simp only [List.map_toArray, List.map_cons, List.map_nil, Act.eval, Array.getD_eq_getD_getElem?, Option.getD_some, e38, e39]; rfl)) ?_
      with_reducible refine (cost_calls s A c d w' (Kd.C_below (Kd.C_below HC.out HB1.out) HB.out) Hc.out (by have := HSZ.out; omega) (by have := HSZ.out; omega)).mono ?_
      rintro e wq ⟨rfl, hb⟩
      refine ⟨_, rfl, ?_⟩
      refine hK.out _ _ ⟨(by rw [ha.out]; exact putSel_upk 4 hb_ rfl rfl rfl), HB.out.trans (hb.mono HB.out.size)⟩
    refine steps_cons ?_ ?_
    · rintro b a w' ⟨ha, Q_HB⟩ hb_ hon hoff
      refine ⟨_, rfl, fun K hK => ?_⟩
      have e37 : a.tmps[37]? = some (.int .i64 (sumF ns : Int)) := by rw [ha]; exact putSel_on (e := (1, 37, .int .i64 (sumF ns : Int))) 1 rfl rfl (hon 1 (by kernel_rfl)) rfl
      have e40 : a.tmps[40]? = some (.int .i64 (costN s d : Int)) := by rw [ha]; exact putSel_on (e := (4, 40, .int .i64 (costN s d : Int))) 4 rfl rfl (hon 4 (by kernel_rfl)) rfl
      replace ha := Aside0.mk ha
      have hs : IntKind.i64.wrap ((sumF ns : Int) + (costN s d : Int)) = (sumF ns : Int) + (costN s d : Int) := by rw [IntKind.wrap_i64]; omega
      refine value_ (w1 := w') (v := .int .i64 ((sumF ns : Int) + (costN s d : Int))) (by rfl) rfl ?_ ?_
      · go_simp
        (try simp only [i64_w])
        try first | rfl | assumption
      refine hK.out _ _ ⟨(by rw [ha.out]; exact putSel_upk 5 hb_ rfl rfl rfl), Q_HB⟩
    refine steps_cons ?_ ?_
    · rintro b a w' ⟨ha, Q_HB⟩ hb_ hon hoff
      refine ⟨_, rfl, fun K hK => ?_⟩
      have e0 : a.tmps[0]? = some (.pointer (some ⟨g, 0, none⟩)) := by rw [ha]; exact (putSel_off rfl).trans rfl
      replace ha := Aside0.mk ha
      refine value_ (w1 := w') (v := .pointer (some ⟨g, 0, none⟩)) (by rfl) rfl ?_ ?_
      · go_simp
        try first | rfl | assumption
      refine hK.out _ _ ⟨(by rw [ha.out]; exact putSel_upk 6 hb_ rfl rfl rfl), Q_HB⟩
    refine steps_cons ?_ ?_
    · rintro b a w' ⟨ha, Q_HB⟩ hb_ hon hoff
      refine ⟨_, rfl, fun K hK => ?_⟩
      have e42 : a.tmps[42]? = some (.pointer (some ⟨g, 0, none⟩)) := by rw [ha]; exact putSel_on (e := (6, 42, .pointer (some ⟨g, 0, none⟩))) 6 rfl rfl (hon 6 (by kernel_rfl)) rfl
      replace ha := Aside0.mk ha
      refine value_ (w1 := w') (v := .pointer (some ⟨g, 0, none⟩)) (by rfl) rfl ?_ ?_
      · go_simp
        try first | rfl | assumption
      refine hK.out _ _ ⟨(by rw [ha.out]; exact putSel_upk 7 hb_ rfl rfl rfl), Q_HB⟩
    refine steps_cons ?_ ?_
    · rintro b a w' ⟨ha, Q_HB⟩ hb_ hon hoff
      refine ⟨_, rfl, fun K hK => ?_⟩
      have e43 : a.tmps[43]? = some (.pointer (some ⟨g, 0, none⟩)) := by rw [ha]; exact putSel_on (e := (7, 43, .pointer (some ⟨g, 0, none⟩))) 7 rfl rfl (hon 7 (by kernel_rfl)) rfl
      replace ha := Aside0.mk ha
      refine value_ (w1 := w') (v := .pointer (some ⟨g, 2, none⟩)) (by rfl) rfl ?_ ?_
      · go_simp
        try first | rfl | assumption
      refine hK.out _ _ ⟨(by rw [ha.out]; exact putSel_upk 8 hb_ rfl rfl rfl), Q_HB⟩
    refine steps_cons ?_ ?_
    · rintro b a w' ⟨ha, Q_HB⟩ hb_ hon hoff
      refine ⟨_, rfl, fun K hK => ?_⟩
      have e44 : a.tmps[44]? = some (.pointer (some ⟨g, 2, none⟩)) := by rw [ha]; exact putSel_on (e := (8, 44, .pointer (some ⟨g, 2, none⟩))) 8 rfl rfl (hon 8 (by kernel_rfl)) rfl
      replace ha := Aside0.mk ha
      have HB := Aside0.mk Q_HB
      have hc2 := rack_c (H1.out.below HB.out) 2; unfold RS.cs at hc2; rw [HQ.out.2.1] at hc2
      refine value_ (w1 := w') (v := .map (some bn)) (by rfl) rfl ?_ ?_
      · go_simp
        try first | rfl | assumption
      refine hK.out _ _ ⟨(by rw [ha.out]; exact putSel_upk 9 hb_ rfl rfl rfl), Q_HB⟩
    refine steps_cons ?_ ?_
    · rintro b a w' ⟨ha, Q_HB⟩ hb_ hon hoff
      refine ⟨_, rfl, fun K hK => ?_⟩
      have e45 : a.tmps[45]? = some (.map (some bn)) := by rw [ha]; exact putSel_on (e := (9, 45, .map (some bn))) 9 rfl rfl (hon 9 (by kernel_rfl)) rfl
      replace ha := Aside0.mk ha
      have HB := Aside0.mk Q_HB
      have hlr := len_run (HF1.out.below HB.out) 3
      refine value_ (w1 := w') (v := .int .i64 (ns.length : Int)) (by rfl) rfl ?_ ?_
      · go_simp
        (try simp only [i64_w])
        try first | rfl | assumption
      refine hK.out _ _ ⟨(by rw [ha.out]; exact putSel_upk 10 hb_ rfl rfl rfl), Q_HB⟩
    refine steps_cons ?_ ?_
    · rintro b a w' ⟨ha, Q_HB⟩ hb_ hon hoff
      refine ⟨_, rfl, fun K hK => ?_⟩
      have e46 : a.tmps[46]? = some (.int .i64 (ns.length : Int)) := by rw [ha]; exact putSel_on (e := (10, 46, .int .i64 (ns.length : Int))) 10 rfl rfl (hon 10 (by kernel_rfl)) rfl
      replace ha := Aside0.mk ha
      have hs : IntKind.i64.wrap ((ns.length : Int) + 1) = (ns.length : Int) + 1 := by rw [IntKind.wrap_i64]; omega
      refine value_ (w1 := w') (v := .int .i64 ((ns.length : Int) + 1)) (by rfl) rfl ?_ ?_
      · go_simp
        (try simp only [i64_w])
        try first | rfl | assumption
      refine hK.out _ _ ⟨(by rw [ha.out]; exact putSel_upk 11 hb_ rfl rfl rfl), Q_HB⟩
    refine steps_cons ?_ ?_
    · rintro b a w' ⟨ha, Q_HB⟩ hb_ hon hoff
      refine ⟨_, rfl, fun K hK => ?_⟩
      have e41 : a.tmps[41]? = some (.int .i64 ((sumF ns : Int) + (costN s d : Int))) := by rw [ha]; exact putSel_on (e := (5, 41, .int .i64 ((sumF ns : Int) + (costN s d : Int)))) 5 rfl rfl (hon 5 (by kernel_rfl)) rfl
      replace ha := Aside0.mk ha
      refine value_ (w1 := w') (v := .int .i64 ((sumF ns : Int) + (costN s d : Int))) (by rfl) rfl ?_ ?_
      · go_simp
        (try simp only [i64_w])
        try first | rfl | assumption
      refine hK.out _ _ ⟨(by rw [ha.out]; exact putSel_upk 12 hb_ rfl rfl rfl), Q_HB⟩
    refine steps_cons ?_ ?_
    · rintro b a w' ⟨ha, Q_HB⟩ hb_ hon hoff
      refine ⟨_, rfl, fun K hK => ?_⟩
      have e47 : a.tmps[47]? = some (.int .i64 ((ns.length : Int) + 1)) := by rw [ha]; exact putSel_on (e := (11, 47, .int .i64 ((ns.length : Int) + 1))) 11 rfl rfl (hon 11 (by kernel_rfl)) rfl
      replace ha := Aside0.mk ha
      refine value_ (w1 := w') (v := .int .i64 ((ns.length : Int) + 1)) (by rfl) rfl ?_ ?_
      · go_simp
        (try simp only [i64_w])
        try first | rfl | assumption
      refine hK.out _ _ ⟨(by rw [ha.out]; exact putSel_upk 13 hb_ rfl rfl rfl), Q_HB⟩
    exact steps_nil
  rintro b a w2 hall ⟨ha, Q_HB⟩
  clear HB
  have hb0_ := hall 0 (by kernel_rfl)
  have hb1_ := hall 1 (by kernel_rfl)
  have hb2_ := hall 2 (by kernel_rfl)
  have hb3_ := hall 3 (by kernel_rfl)
  have hb4_ := hall 4 (by kernel_rfl)
  have hb5_ := hall 5 (by kernel_rfl)
  have hb6_ := hall 6 (by kernel_rfl)
  have hb7_ := hall 7 (by kernel_rfl)
  have hb8_ := hall 8 (by kernel_rfl)
  have hb9_ := hall 9 (by kernel_rfl)
  have hb10_ := hall 10 (by kernel_rfl)
  have hb11_ := hall 11 (by kernel_rfl)
  have hb12_ := hall 12 (by kernel_rfl)
  have hb13_ := hall 13 (by kernel_rfl)
  subst ha
  simp only [putSel, hb0_, hb1_, hb2_, hb3_, hb4_, hb5_, hb6_, hb7_, hb8_, hb9_, hb10_, hb11_, hb12_, hb13_, if_true, Act.put, List.setIfInBounds_toArray, List.set_cons_zero, List.set_cons_succ]
  have HB := Aside0.mk Q_HB
  clear Q_HB
  clear hall hb0_ hb1_ hb2_ hb3_ hb4_ hb5_ hb6_ hb7_ hb8_ hb9_ hb10_ hb11_ hb12_ hb13_
  have HB2 := Aside0.mk (HB1.out.trans (HB.out.mono HB1.out.size))
  clear HB HF1 H1
  go_upto_region 9 with (go_at_call 53; refine (cost_calls s f.A f.c f.d _ (Kd.C_below HFd.out.2.C HB2.out) HFd.out.2.cap (by have := HSZ.out; omega) (by have := HFd.out.2.size; omega)).mono ?_; rintro e_ w3 ⟨rfl, hb⟩; have HB2' := HB2; have HB3 := Aside0.mk (HB2.out.trans (hb.mono HB2.out.size)); clear hb HB2 HB2'; skip)
  have HB2 := HB3
  have H2 := Aside0.mk (H.out.below HB2.out)
  have c0 := rack_c H2.out 0
  unfold RS.cs at c0
  rw [HQ.out.2.2] at c0
  by_cases h40 : 40 < ns.length
  · have hd1 : decide (40 < (ns.length : Int) + 1 - 1) = true := decide_eq_true (by omega)
    have hd3 : decide (40 < (ns.length : Int)) = true := decide_eq_true (by omega)
    have HP := Aside0.mk (show GoF w0 w g r s d ns.length ((sumF ns : Int) + (costN s d : Int) - (costN s f.d : Int)) (.returned (.int .i64 4)) w3 from ⟨Kept.of_below HB2.out _, .inl ⟨.inl h40, rfl, H2.out⟩⟩)
    go_wp2_with fail
    go_ret
    exact HP.out
  · have hd1 : decide (40 < (ns.length : Int) + 1 - 1) = false := decide_eq_false (by omega)
    have hd3 : decide (40 < (ns.length : Int)) = false := decide_eq_false (by omega)
    by_cases hrs : room < ((sumF ns : Int) + (costN s d : Int) - (costN s f.d : Int))
    · have hd2 : decide (room < ((sumF ns : Int) + (costN s d : Int) - (costN s f.d : Int))) = true := decide_eq_true hrs
      have HP := Aside0.mk (show GoF w0 w g r s d ns.length ((sumF ns : Int) + (costN s d : Int) - (costN s f.d : Int)) (.returned (.int .i64 4)) w3 from ⟨Kept.of_below HB2.out _, .inl ⟨.inr (by rw [HQ.out.2.2]; exact hrs), rfl, H2.out⟩⟩)
      go_wp2_with fail
      go_ret
      exact HP.out
    · have hd2 : decide (room < ((sumF ns : Int) + (costN s d : Int) - (costN s f.d : Int))) = false := decide_eq_false hrs
      have HNo := Aside0.mk (show ¬ (40 < ns.length ∨ r.room < ((sumF ns : Int) + (costN s d : Int) - (costN s f.d : Int))) by rw [HQ.out.2.2]; exact fun h => h.elim h40 hrs)
      clear hrs h40
      by_cases hfu : r.fuse = 0
      · have HFu := Aside0.mk hfu
        clear hfu
        go_wp2_with (first
          | (go_at_call 55; refine (clone_calls A c d _ (Kd.C_below HC.out HB2.out) Hc.out (by have := HSZ.out; omega)).mono ?_; rintro e_ w4 ⟨A', c', rfl, hcp, hC', hap, hb⟩; have HB4 := Aside0.mk (HB2.out.trans (hb.mono HB2.out.size)); have H4 := Aside0.mk (H2.out.below hb); have HDk := Aside0.mk (show s.size ≤ 100 ∧ DOk w4 (r.S g) A' c' d from ⟨by have := HSZ.out; omega, hcp, HSZ.out.2, hC', fun ad ha => ⟨(hap ad ha).2, fun hs => by have h1_ := S_lt H2.out _ hs; have h2_ := (hap ad ha).1; omega⟩⟩); have HAp := Aside0.mk (fun ad ha => Nat.le_trans HB2.out.size (hap ad ha).1); clear hcp hC' hap hb HB2 c0; skip)
          | (go_at_call 54; refine (goes_calls w0 g r ⟨s, false, A', c', d⟩ _ H4.out HDk.out (by have := HNL.out; omega) (by have := HNL.out; omega) HNL.out.2.2).mono ?_; intro e_ w5 hG; rcases hG with ⟨h1, rfl, h3, h4⟩ | ⟨h1, _⟩; (case inr => exact absurd HFu.out h1); have HP := Aside0.mk (show GoF w0 w g r s d ns.length ((sumF ns : Int) + (costN s d : Int) - (costN s f.d : Int)) (.returned (.int .i64 5)) w5 from ⟨(Kept.of_below HB4.out _).then_ h4 (fun k hk => .inl hk), .inr (.inl ⟨HNo.out, HFu.out, rfl, h3⟩)⟩); clear h1 h3 h4; skip))
        go_ret
        exact HP.out
      · have HFu := Aside0.mk hfu
        clear hfu
        go_wp2_with (first
          | (go_at_call 55; refine (clone_calls A c d _ (Kd.C_below HC.out HB2.out) Hc.out (by have := HSZ.out; omega)).mono ?_; rintro e_ w4 ⟨A', c', rfl, hcp, hC', hap, hb⟩; have HB4 := Aside0.mk (HB2.out.trans (hb.mono HB2.out.size)); have H4 := Aside0.mk (H2.out.below hb); have HDk := Aside0.mk (show s.size ≤ 100 ∧ DOk w4 (r.S g) A' c' d from ⟨by have := HSZ.out; omega, hcp, HSZ.out.2, hC', fun ad ha => ⟨(hap ad ha).2, fun hs => by have h1_ := S_lt H2.out _ hs; have h2_ := (hap ad ha).1; omega⟩⟩); have HAp := Aside0.mk (fun ad ha => Nat.le_trans HB2.out.size (hap ad ha).1); clear hcp hC' hap hb HB2 c0; skip)
          | (go_at_call 54; refine (goes_calls w0 g r ⟨s, false, A', c', d⟩ _ H4.out HDk.out (by have := HNL.out; omega) (by have := HNL.out; omega) HNL.out.2.2).mono ?_; intro e_ w5 hG; rcases hG with ⟨h1, _⟩ | ⟨h1, rfl, h3, h4⟩; (case inl => exact absurd h1 HFu.out); have HP := Aside0.mk (show GoF w0 w g r s d ns.length ((sumF ns : Int) + (costN s d : Int) - (costN s f.d : Int)) (.returned (.int .i64 0)) w5 from ⟨(Kept.of_below HB4.out _).then_ h4 (fun k hk => .inl hk), .inr (.inr ⟨HNo.out, HFu.out, rfl, (by obtain ⟨v, hr, hat⟩ := h3; exact ⟨v, A', c', hr, hat.imp id (fun ⟨q, e, hq⟩ => ⟨q, e, Nat.le_trans HB4.out.size hq⟩), HAp.out⟩)⟩)⟩); clear h1 h3 h4; skip))
        go_ret
        exact HP.out
def WriteF (w0 w : World) (g : Nat) (r : RS) (s d : ByteArray) (e : Ending) (w' : World) : Prop :=
  WriteP w0 w g r s d e w' ∧ (writeE r s d = 0 → ∃ v A c, RackAt w0 w' g (stepRS r ⟨s, false, A, c, d⟩ v) ∧ (v.ownBlock = r.lv.ownBlock ∨ ∃ k, v.ownBlock = some k ∧ w.heap.size ≤ k) ∧ ∀ ad, A = some ad → w.heap.size ≤ ad.block)
theorem writeF_of {w0 w : World} {g : Nat} {r : RS} {s d : ByteArray} (hn : namedB s = true) (hz : d.size ≤ 200000) (hdn : r.down = false) {e : Ending} {w' : World} (h : GoF w0 w g r s d (numW r.ns s) (sumW r.ns s d) e w') : WriteF w0 w g r s d e w' := by
  have e0 : writeE r s d = if 40 < numW r.ns s ∨ r.room < sumW r.ns s d then 4 else if r.fuse = 0 then 5 else 0 := by
    unfold writeE
    rw [if_neg (by rw [hn]; simp; omega), if_neg (by rw [hdn]; simp)]
  obtain ⟨hk, h | h | h⟩ := h
  · obtain ⟨h1, rfl, h3⟩ := h
    have e1 : writeE r s d = 4 := by rw [e0, if_pos h1]
    exact ⟨writeP_of hn hz hdn ⟨hk, .inl ⟨h1, rfl, h3⟩⟩, fun h => by omega⟩
  · obtain ⟨h1, h2, rfl, h3⟩ := h
    have e1 : writeE r s d = 5 := by rw [e0, if_neg h1, if_pos h2]
    exact ⟨writeP_of hn hz hdn ⟨hk, .inr (.inl ⟨h1, h2, rfl, h3⟩)⟩, fun h => by omega⟩
  · obtain ⟨h1, h2, rfl, v, A, c, h3, h4, h5⟩ := h
    exact ⟨writeP_of hn hz hdn ⟨hk, .inr (.inr ⟨h1, h2, rfl, v, A, c, h3, h4⟩)⟩, fun _ => ⟨v, A, c, h3, h4, h5⟩⟩
theorem writeF_calls (w0 : World) (g : Nat) (r : RS) (s : ByteArray) (A : Option Addr) (c : Nat) (d : ByteArray) (w : World) (h : RackAt w0 w g r) (hC : Kd.C (Kd.int .u8) w A d.size (bytesOf d)) (hc : d.size ≤ c) (hn : r.ns.length ≤ 99999) (hl : r.ls.length ≤ 99999) (hw : 0 ≤ r.writes ∧ r.writes ≤ 4611686018427387904) :
    Calls Try.prog 16 #[.pointer (some ⟨g, 0, none⟩), .string s, .slice A d.size c] w (WriteF w0 w g r s d) := by
  by_cases h1 : namedB s = false ∨ 200000 < d.size
  · exact (write_arg w0 g r s A c d w h h1).mono (fun e w' hp => ⟨hp, fun h0 => by unfold writeE at h0; rw [if_pos h1] at h0; exact absurd h0 (by decide)⟩)
  · have hnm : namedB s = true := by
      cases hb : namedB s
      · exact absurd (.inl hb) h1
      · rfl
    have hz : d.size ≤ 200000 := by
      refine Nat.le_of_not_lt (fun h2 => h1 (.inr h2))
    by_cases hdn : r.down = true
    · exact (write_down w0 g r s A c d w h hnm hz hdn).mono (fun e w' hp => ⟨hp, fun h0 => by unfold writeE at h0; rw [if_neg h1, if_pos hdn] at h0; exact absurd h0 (by decide)⟩)
    · replace hdn : r.down = false := by simpa using hdn
      cases hf : findF r.ns s with
      | none =>
        refine (writeF_none w0 g r s A c d w h hnm hz hdn hC hc hn hl hw hf).mono (fun e w' hp => writeF_of hnm hz hdn ?_)
        rw [show numW r.ns s = r.ns.length + 1 by unfold numW; rw [hf]; rfl, show sumW r.ns s d = (sumF r.ns : Int) + (costN s d : Int) by unfold sumW; rw [hf]; simp]
        exact hp
      | some f =>
        refine (writeF_some w0 g r s A c d w h hnm hz hdn hC hc hn hl hw f hf).mono (fun e w' hp => writeF_of hnm hz hdn ?_)
        rw [show numW r.ns s = r.ns.length by unfold numW; rw [hf]; rfl, show sumW r.ns s d = (sumF r.ns : Int) + (costN s d : Int) - (costN s f.d : Int) by unfold sumW; rw [hf]]
        exact hp
end Go.Proofs.Ytjljgcceapkdcaa.RpI
end
section
namespace Go.Proofs.Ytjljgcceapkdcaa.RpC
open Go.RowKit Go.Proofs.YtjljgcceapkdcaaW.PrintWords Go.Proofs.YtjljgcceapkdcaaW.PrintLast Go.Proofs.YtjljgcceapkdcaaW.PrintMore Go.Proofs.Ytjljgcceapkdcaa.PkH Go.Proofs.Ytjljgcceapkdcaa.RkA Go.Proofs.Ytjljgcceapkdcaa.RkB Go.Proofs.Ytjljgcceapkdcaa.RkC Go.Proofs.Ytjljgcceapkdcaa.RkD Go.Proofs.Ytjljgcceapkdcaa.RkE Go.Proofs.Ytjljgcceapkdcaa.RkF Go.Proofs.Ytjljgcceapkdcaa.RkG Go.Proofs.Ytjljgcceapkdcaa.RkK Go.Proofs.Ytjljgcceapkdcaa.RkL Go.Proofs.Ytjljgcceapkdcaa.RkQ Go.Proofs.Ytjljgcceapkdcaa.RkS Go.Proofs.Ytjljgcceapkdcaa.RkU Go.Proofs.Ytjljgcceapkdcaa.RkV Go.Proofs.Ytjljgcceapkdcaa.SfA Go.Proofs.Ytjljgcceapkdcaa.SfB Go.Proofs.Ytjljgcceapkdcaa.SfP Go.Proofs.Ytjljgcceapkdcaa.SfQ Go.Proofs.Ytjljgcceapkdcaa.SfX Go.Proofs.Ytjljgcceapkdcaa.RpA Go.Proofs.Ytjljgcceapkdcaa.RpB Go.Proofs.Ytjljgcceapkdcaa.Rw
set_option linter.unusedVariables false
set_option linter.unusedSimpArgs false
structure RR where
  mx : Int
  nA : Option Addr
  nn : Nat
  nc : Nat
  nf : List FE
  sA : Option Addr
  sn : Nat
  sc : Nat
  sf : List FE
  lv : Value
  ll : List WR
  left : Int
  dark : Bool
  cnt : Int
def RR.cs (q : RR) : Array Value := #[.int .i64 q.mx, .slice q.nA q.nn q.nc, .slice q.sA q.sn q.sc, q.lv, .int .i64 q.left, .bool q.dark, .int .i64 q.cnt]
def RR.T (gq : Nat) (q : RR) (k : Nat) : Prop := k = gq ∨ some k = q.lv.ownBlock
def RR.U (S : Nat → Prop) (gq : Nat) (q : RR) (k : Nat) : Prop := S k ∨ q.T gq k
def FZ (fs : List FE) : Prop := ∀ x ∈ fs, x.nm.size ≤ 100 ∧ x.d.size ≤ 200000
structure RefAt (w0 w : World) (S : Nat → Prop) (gq : Nat) (q : RR) : Prop where
  blk : w.heap[gq]? = some (.cells q.cs 92 (0, 0))
  now : WA w (q.U S gq) q.nA q.nn q.nf
  nc : q.nn ≤ q.nc
  sure : WA w (q.U S gq) q.sA q.sn q.sf
  sc : q.sn ≤ q.sc
  row : Tg kW 64 w w0.heap.size q.lv q.ll
  ds : ∀ x ∈ q.ll, DX w (q.U S gq) x
  lowg : w0.heap.size ≤ gq
  bel : Below w0.heap.size w0 w
  sep : ∀ k, q.T gq k → ¬ S k
  zn : FZ q.nf
  zs : FZ q.sf
  zl : ∀ x ∈ q.ll, x.nm.size ≤ 100 ∧ x.d.size ≤ 200000
theorem RefAt.T_lt {w0 w : World} {S : Nat → Prop} {gq : Nat} {q : RR} (h : RefAt w0 w S gq q) : ∀ k, q.T gq k → k < w.heap.size := fun k hk => by
  rcases hk with rfl | hk
  · exact blk_lt h.blk
  · exact Kd.R_lt h.row _ hk.symm
theorem RefAt.own_ne {w0 w : World} {S : Nat → Prop} {gq : Nat} {q : RR} (h : RefAt w0 w S gq q) : ¬ some gq = q.lv.ownBlock := Kd.R_ne h.row h.blk (by decide)
theorem RefAt.slc {w0 w : World} {S : Nat → Prop} {gq : Nat} {q : RR} (h : RefAt w0 w S gq q) : ∃ A n c, q.lv = .slice A n c ∧ n = q.ll.length ∧ n ≤ c ∧ Kd.C kW w A n q.ll := by
  have hr := h.row
  obtain ⟨A, n, c, e⟩ := RkH.slc hr
  rw [e] at hr
  have h2 := Kd.R_reads' hr
  exact ⟨A, n, c, e, h2.1, h2.2.1, by rw [h2.1]; exact h2.2.2⟩
theorem RefAt.other {w0 w w1 : World} {S S' : Nat → Prop} {gq : Nat} {q : RR} (h : RefAt w0 w S gq q) (hk : Kept w w1 S) (hb : Below w0.heap.size w0 w1) (hS : ∀ k, S' k → S k ∨ w.heap.size ≤ k) : RefAt w0 w1 S' gq q := by
  have hU : ∀ k, q.U S' gq k → q.U S gq k ∨ w.heap.size ≤ k := fun k hk => by
    rcases hk with hk | hk
    · exact (hS k hk).imp .inl id
    · exact .inl (.inr hk)
  refine ⟨(hk.2 gq (blk_lt h.blk) (h.sep gq (.inl rfl))).trans h.blk, h.now.kept hk (fun k h => .inl h) hU, h.nc, h.sure.kept hk (fun k h => .inl h) hU, h.sc, Kd.R_kept h.row hk (fun k ho => h.sep k (.inr ho)), fun x hx => (h.ds x hx).kept hk (fun k h => .inl h) hU, h.lowg, hb, fun k hk hs => ?_, h.zn, h.zs, h.zl⟩
  rcases hS k hs with hs | hs
  · exact h.sep k hk hs
  · have := h.T_lt k hk
    omega
theorem RefAt.below {w0 w w1 : World} {S : Nat → Prop} {gq : Nat} {q : RR} (h : RefAt w0 w S gq q) (hb : Below w.heap.size w w1) : RefAt w0 w1 S gq q := h.other (Kept.of_below hb S) (h.bel.trans (hb.mono h.bel.size)) (fun k h => .inl h)
theorem cell_kept (w : World) (g i : Nat) (v : Value) : Kept w (w.setCell ⟨g, i, none⟩ v) (fun k => k = g) := kept_cell i v
theorem RefAt.set {w0 w : World} {S : Nat → Prop} {gq : Nat} {q : RR} (h : RefAt w0 w S gq q) (q' : RR) (i : Nat) (v : Value) (hcs : (w.setCell ⟨gq, i, none⟩ v).heap[gq]? = some (.cells q'.cs 92 (0, 0))) (hlv : q'.lv = q.lv) (hll : q'.ll = q.ll)
    (hn : WA w (q.U S gq) q'.nA q'.nn q'.nf) (hnc : q'.nn ≤ q'.nc) (hs : WA w (q.U S gq) q'.sA q'.sn q'.sf) (hsc : q'.sn ≤ q'.sc) (zn : FZ q'.nf) (zs : FZ q'.sf) : RefAt w0 (w.setCell ⟨gq, i, none⟩ v) S gq q' ∧ Kept w (w.setCell ⟨gq, i, none⟩ v) (q.T gq) := by
  have hk := cell_kept w gq i v
  have hkT : Kept w (w.setCell ⟨gq, i, none⟩ v) (q.T gq) := ⟨hk.1, fun k hk1 hk2 => hk.2 k hk1 (fun e => hk2 (.inl e))⟩
  have hU : ∀ k, q'.U S gq k → q.U S gq k ∨ w.heap.size ≤ k := fun k hk => by
    unfold RR.U RR.T at hk ⊢
    rw [hlv] at hk
    exact .inl hk
  have h1 : ∀ k, k = gq → q.U S gq k := fun k e => .inr (.inl e)
  refine ⟨⟨hcs, hn.kept hk h1 hU, hnc, hs.kept hk h1 hU, hsc, ?_, ?_, h.lowg, h.bel.setCell h.lowg _, ?_, zn, zs, ?_⟩, hkT⟩
  · rw [hlv, hll]
    exact Kd.R_kept h.row hk (fun k ho e => by subst e; exact h.own_ne ho)
  · rw [hll]
    exact fun x hx => (h.ds x hx).kept hk h1 hU
  · intro k hk2
    unfold RR.T at hk2
    rw [hlv] at hk2
    exact h.sep k hk2
  · rw [hll]
    exact h.zl
theorem RefAt.late {w0 w w9 : World} {S : Nat → Prop} {gq : Nat} {q : RR} {v9 : Value} {x : WR} (h : RefAt w0 w S gq q) (hS : ∀ k, S k → k < w.heap.size) (hR : Kd.R kW 64 w9 w0.heap.size (fun _ => True) v9 (q.ll ++ [x])) (hb : Below w0.heap.size w0 w9) (hg : w.grownBy w9 q.lv.ownBlock)
    (hat : v9.ownBlock = q.lv.ownBlock ∨ ∃ b, v9.ownBlock = some b ∧ w.heap.size ≤ b) (hx : DX w (q.U S gq) x) (hz : x.nm.size ≤ 100 ∧ x.d.size ≤ 200000) :
    RefAt w0 (w9.setCell ⟨gq, 3, none⟩ v9) S gq { q with lv := v9, ll := q.ll ++ [x] } ∧ Kept w (w9.setCell ⟨gq, 3, none⟩ v9) (q.T gq) := by
  have hk2 : Kept w w9 (fun k => some k = q.lv.ownBlock) := Kept.of_grown hg (Kept.refl _ _) (fun k hk => .inl hk.symm)
  have hk3 := cell_kept w9 gq 3 v9
  have hk : Kept w (w9.setCell ⟨gq, 3, none⟩ v9) (q.T gq) := ⟨Nat.le_trans hk2.1 hk3.1, fun k h1 h2 => (hk3.2 k (Nat.lt_of_lt_of_le h1 hk2.1) (fun e => h2 (.inl e))).trans (hk2.2 k h1 (fun e => h2 (.inr e)))⟩
  have hU : ∀ k, RR.U S gq { q with lv := v9, ll := q.ll ++ [x] } k → q.U S gq k ∨ w.heap.size ≤ k := fun k hk => by
    rcases hk with hk | hk | hk
    · exact .inl (.inl hk)
    · exact .inl (.inr (.inl hk))
    · replace hk : some k = v9.ownBlock := hk
      rcases hat with e | ⟨b, e, hb⟩
      · exact .inl (.inr (.inr (hk.trans e)))
      · rw [e] at hk
        injection hk with hk
        exact .inr (by omega)
  have h1 : ∀ k, q.T gq k → q.U S gq k := fun k e => .inr e
  have hlt := blk_lt h.blk
  have hb9 : w9.heap[gq]? = some (.cells q.cs 92 (0, 0)) := (hk2.2 gq hlt h.own_ne).trans h.blk
  refine ⟨⟨blk_put hb9 3 _ rfl, h.now.kept hk h1 hU, h.nc, h.sure.kept hk h1 hU, h.sc, ?_, fun y hy => ?_, h.lowg, hb.setCell h.lowg _, fun k hk2 hs => ?_, h.zn, h.zs, fun y hy => ?_⟩, hk⟩
  · have hT : Tg kW 64 w9 w0.heap.size v9 (q.ll ++ [x]) := Tg.of (d := kW) rfl hR
    exact (Kd.R_kept hT hk3 (fun k ho e => by
      subst e
      rcases hat with e | ⟨b, e, hbb⟩
      · exact h.own_ne (ho.trans e)
      · rw [e] at ho
        injection ho with ho
        omega))
  · rcases List.mem_append.1 hy with hy | hy
    · exact (h.ds y hy).kept hk h1 hU
    · obtain rfl : y = x := by simpa using hy
      exact hx.kept hk h1 hU
  · rcases hk2 with hk2 | hk2
    · exact h.sep k (.inl hk2) hs
    · replace hk2 : some k = v9.ownBlock := hk2
      rcases hat with e | ⟨b, e, hbb⟩
      · exact h.sep k (.inr (hk2.trans e)) hs
      · rw [e] at hk2
        injection hk2 with hk2
        have := hS k hs
        omega
  · rcases List.mem_append.1 hy with hy | hy
    · exact h.zl y hy
    · obtain rfl : y = x := by simpa using hy
      exact hz
theorem ref_c {w0 w : World} {S : Nat → Prop} {gq : Nat} {q : RR} (h : RefAt w0 w S gq q) (i : Nat) : w.cell? ⟨gq, i, none⟩ = q.cs[i]? := blk_cell h.blk i
def RStep (w0 w w' : World) (S : Nat → Prop) (gq : Nat) (q : RR) (P : RR → Prop) : Prop := ∃ q', RefAt w0 w' S gq q' ∧ P q' ∧ Kept w w' (q.T gq) ∧ ∀ k, q'.T gq k → q.T gq k ∨ w.heap.size ≤ k
end Go.Proofs.Ytjljgcceapkdcaa.RpC
end
section
namespace Go.Proofs.Ytjljgcceapkdcaa.RpD
open Go.RowKit Go.Proofs.YtjljgcceapkdcaaW.PrintWords Go.Proofs.YtjljgcceapkdcaaW.PrintLast Go.Proofs.YtjljgcceapkdcaaW.PrintMore Go.Proofs.Ytjljgcceapkdcaa.RkM Go.Proofs.Ytjljgcceapkdcaa.PkH Go.Proofs.Ytjljgcceapkdcaa.RkA Go.Proofs.Ytjljgcceapkdcaa.RkB Go.Proofs.Ytjljgcceapkdcaa.RkC Go.Proofs.Ytjljgcceapkdcaa.RkD Go.Proofs.Ytjljgcceapkdcaa.RkE Go.Proofs.Ytjljgcceapkdcaa.RkF Go.Proofs.Ytjljgcceapkdcaa.RkG Go.Proofs.Ytjljgcceapkdcaa.RkK Go.Proofs.Ytjljgcceapkdcaa.RkL Go.Proofs.Ytjljgcceapkdcaa.RkQ Go.Proofs.Ytjljgcceapkdcaa.RkS Go.Proofs.Ytjljgcceapkdcaa.RkU Go.Proofs.Ytjljgcceapkdcaa.RkV Go.Proofs.Ytjljgcceapkdcaa.SfA Go.Proofs.Ytjljgcceapkdcaa.SfB Go.Proofs.Ytjljgcceapkdcaa.SfP Go.Proofs.Ytjljgcceapkdcaa.SfQ Go.Proofs.Ytjljgcceapkdcaa.SfX Go.Proofs.Ytjljgcceapkdcaa.RpA Go.Proofs.Ytjljgcceapkdcaa.RpB Go.Proofs.Ytjljgcceapkdcaa.RpC Go.Proofs.Ytjljgcceapkdcaa.Rw
set_option linter.unusedVariables false
set_option linter.unusedSimpArgs false
section
variable {w0 w : World} {S : Nat → Prop} {gq : Nat} {q : RR}
theorem ref_setLeft (h : RefAt w0 w S gq q) (z : Int) : RefAt w0 (w.setCell ⟨gq, 4, none⟩ (.int .i64 z)) S gq { q with left := z } ∧ Kept w (w.setCell ⟨gq, 4, none⟩ (.int .i64 z)) (q.T gq) := h.set { q with left := z } 4 _ (blk_put h.blk 4 _ rfl) rfl rfl h.now h.nc h.sure h.sc h.zn h.zs
theorem ref_setDark (h : RefAt w0 w S gq q) (z : Bool) : RefAt w0 (w.setCell ⟨gq, 5, none⟩ (.bool z)) S gq { q with dark := z } ∧ Kept w (w.setCell ⟨gq, 5, none⟩ (.bool z)) (q.T gq) := h.set { q with dark := z } 5 _ (blk_put h.blk 5 _ rfl) rfl rfl h.now h.nc h.sure h.sc h.zn h.zs
theorem ref_setCnt (h : RefAt w0 w S gq q) (z : Int) : RefAt w0 (w.setCell ⟨gq, 6, none⟩ (.int .i64 z)) S gq { q with cnt := z } ∧ Kept w (w.setCell ⟨gq, 6, none⟩ (.int .i64 z)) (q.T gq) := h.set { q with cnt := z } 6 _ (blk_put h.blk 6 _ rfl) rfl rfl h.now h.nc h.sure h.sc h.zn h.zs
theorem ref_setNow (h : RefAt w0 w S gq q) (A : Option Addr) (n c : Nat) (fs : List FE) (hw : WA w (q.U S gq) A n fs) (hc : n ≤ c) (hz : FZ fs) : RefAt w0 (w.setCell ⟨gq, 1, none⟩ (.slice A n c)) S gq { q with nA := A, nn := n, nc := c, nf := fs } ∧ Kept w (w.setCell ⟨gq, 1, none⟩ (.slice A n c)) (q.T gq) := h.set { q with nA := A, nn := n, nc := c, nf := fs } 1 _ (blk_put h.blk 1 _ rfl) rfl rfl hw hc h.sure h.sc hz h.zs
theorem ref_setSure (h : RefAt w0 w S gq q) (A : Option Addr) (n c : Nat) (fs : List FE) (hw : WA w (q.U S gq) A n fs) (hc : n ≤ c) (hz : FZ fs) : RefAt w0 (w.setCell ⟨gq, 2, none⟩ (.slice A n c)) S gq { q with sA := A, sn := n, sc := c, sf := fs } ∧ Kept w (w.setCell ⟨gq, 2, none⟩ (.slice A n c)) (q.T gq) := h.set { q with sA := A, sn := n, sc := c, sf := fs } 2 _ (blk_put h.blk 2 _ rfl) rfl rfl h.now h.nc hw hc h.zn hz
theorem ref_noLate (h : RefAt w0 w S gq q) : RefAt w0 (w.setCell ⟨gq, 3, none⟩ (.slice none 0 0)) S gq { q with lv := .slice none 0 0, ll := [] } ∧ Kept w (w.setCell ⟨gq, 3, none⟩ (.slice none 0 0)) (q.T gq) := by
  have hk := cell_kept w gq 3 (.slice none 0 0)
  have hU : ∀ k, RR.U S gq { q with lv := .slice none 0 0, ll := [] } k → q.U S gq k ∨ w.heap.size ≤ k := fun k hk => by
    rcases hk with hk | hk | hk
    · exact .inl (.inl hk)
    · exact .inl (.inr (.inl hk))
    · cases hk
  have h1 : ∀ k, k = gq → q.U S gq k := fun k e => .inr (.inl e)
  refine ⟨⟨blk_put h.blk 3 _ rfl, h.now.kept hk h1 hU, h.nc, h.sure.kept hk h1 hU, h.sc, Tg.nil _ _ _ _, fun x hx => (by cases hx), h.lowg, h.bel.setCell h.lowg _, fun k hk2 hs => ?_, h.zn, h.zs, fun x hx => (by cases hx)⟩, ⟨hk.1, fun k hk1 hk2 => hk.2 k hk1 (fun e => hk2 (.inl e))⟩⟩
  rcases hk2 with hk2 | hk2
  · exact h.sep k (.inl hk2) hs
  · cases hk2
def burnB (q : RR) : Bool := decide (q.left = 0 ∨ 1 < q.left)
def burnQ (q : RR) : RR := if q.left = 0 then q else if 1 < q.left then { q with left := q.left - 1 } else { q with left := q.left - 1, dark := true }
def RefP (w0 w : World) (S : Nat → Prop) (gq : Nat) (q : RR) (v : Value) (P : RR → Prop) (e : Ending) (w' : World) : Prop := e = .returned v ∧ RStep w0 w w' S gq q P
theorem step_one {w1 : World} {q1 : RR} {P : RR → Prop} (h : RefAt w0 w1 S gq q1) (hk : Kept w w1 (q.T gq)) (hT : ∀ k, q1.T gq k → q.T gq k ∨ w.heap.size ≤ k) (hP : P q1) : RStep w0 w w1 S gq q P := ⟨q1, h, hP, hk, hT⟩
theorem rburns_calls (h : RefAt w0 w S gq q) (hl : 0 ≤ q.left ∧ q.left ≤ 4611686018427387904) : Calls Try.prog 63 #[.pointer (some ⟨gq, 0, none⟩)] w (RefP w0 w S gq q (.bool (burnB q)) (fun q' => q' = burnQ q)) := by
  have c4 := ref_c h 4
  have f4 := blk_frozen h.blk 4
  unfold RR.cs at c4
  have H := Aside0.mk h
  obtain ⟨z, hz⟩ : ∃ z, q.left = z := ⟨_, rfl⟩
  rw [hz] at c4 hl
  have HZ := Aside0.mk hz
  clear h hz
  go_enter Try.func63, Try.ntmps63
  by_cases h0 : z = 0
  · have HP := Aside0.mk (show RefP w0 w S gq q (.bool (burnB q)) (fun q' => q' = burnQ q) (.returned (.bool true)) w from ⟨by rw [show burnB q = true from by unfold burnB; rw [HZ.out]; exact decide_eq_true (.inl h0)], step_one H.out (Kept.refl _ _) (fun k h => .inl h) (by unfold burnQ; rw [if_pos (by rw [HZ.out]; exact h0)])⟩)
    have e1 : (z == 0) = true := by rw [h0]; rfl
    have e2 : decide (z = 0) = true := decide_eq_true h0
    clear h0
    go_wp2_with fail
    go_ret
    exact HP.out
  have e1 : (z == 0) = false := beq_eq_false_iff_ne.2 h0
  have e2 : decide (z = 0) = false := decide_eq_false h0
  obtain ⟨H1, HK1⟩ := ref_setLeft H.out (z - 1)
  have g4 := ref_c H1 4
  have g5 := blk_frozen H1.blk 5
  unfold RR.cs at g4
  replace g4 : (w.setCell ⟨gq, 4, none⟩ (.int .i64 (z - 1))).cell? ⟨gq, 4, none⟩ = some (.int .i64 (z - 1)) := g4
  have g5c := ref_c H1 5
  replace g5c : (w.setCell ⟨gq, 4, none⟩ (.int .i64 (z - 1))).cell? ⟨gq, 5, none⟩ = some (.bool q.dark) := g5c
  have H1 := Aside0.mk H1
  have HK1 := Aside0.mk HK1
  by_cases h1 : 1 < z
  · have d1 : decide (1 < z) = true := decide_eq_true (by omega)
    have HP := Aside0.mk (show RefP w0 w S gq q (.bool (burnB q)) (fun q' => q' = burnQ q) (.returned (.bool true)) (w.setCell ⟨gq, 4, none⟩ (.int .i64 (z - 1))) from ⟨by rw [show burnB q = true from by unfold burnB; rw [HZ.out]; exact decide_eq_true (.inr h1)], step_one H1.out HK1.out (fun k h => .inl h) (by unfold burnQ; rw [if_neg (by rw [HZ.out]; exact h0), if_pos (by rw [HZ.out]; exact h1), HZ.out])⟩)
    go_upto_region 4 with fail
    generalize w.setCell ⟨gq, 4, none⟩ (.int .i64 (z - 1)) = w1 at *
    clear h0 h1
    go_wp2_with fail
    go_ret
    exact HP.out
  · have d1 : decide (1 < z) = false := decide_eq_false (by omega)
    obtain ⟨H2, HK2⟩ := ref_setDark H1.out true
    have HP := Aside0.mk (show RefP w0 w S gq q (.bool (burnB q)) (fun q' => q' = burnQ q) (.returned (.bool false)) ((w.setCell ⟨gq, 4, none⟩ (.int .i64 (z - 1))).setCell ⟨gq, 5, none⟩ (.bool true)) from ⟨by rw [show burnB q = false from by unfold burnB; rw [HZ.out]; exact decide_eq_false (fun h => h.elim h0 h1)], step_one H2 (HK1.out.then_ HK2 (fun k h => .inl h)) (fun k h => .inl h) (by unfold burnQ; rw [if_neg (by rw [HZ.out]; exact h0), if_neg (by rw [HZ.out]; exact h1), HZ.out])⟩)
    clear H2 HK2
    go_upto_region 4 with fail
    generalize w.setCell ⟨gq, 4, none⟩ (.int .i64 (z - 1)) = w1 at *
    clear h0 h1
    go_wp2_with fail
    go_ret
    exact HP.out
def fuseQ (q : RR) (n : Int) : RR := { q with left := if 0 ≤ n ∧ n < 1099511627776 then n + 1 else 0 }
theorem rfuse_calls (h : RefAt w0 w S gq q) (n : Int) : Calls Try.prog 34 #[.pointer (some ⟨gq, 0, none⟩), .int .i64 n] w (RefP w0 w S gq q (.tuple #[]) (fun q' => q' = fuseQ q n)) := by
  have f4 := blk_frozen h.blk 4
  have c4 := ref_c h 4
  replace c4 : w.cell? ⟨gq, 4, none⟩ = some (.int .i64 q.left) := c4
  obtain ⟨H1, HK1⟩ := ref_setLeft h 0
  have g4 := blk_frozen H1.blk 4
  have g4c := ref_c H1 4
  replace g4c : (w.setCell ⟨gq, 4, none⟩ (.int .i64 0)).cell? ⟨gq, 4, none⟩ = some (.int .i64 0) := g4c
  go_enter Try.func34, Try.ntmps34
  by_cases hn : 0 ≤ n ∧ n < 1099511627776
  · obtain ⟨H2, HK2⟩ := ref_setLeft H1 (n + 1)
    have HP := Aside0.mk (show RefP w0 w S gq q (.tuple #[]) (fun q' => q' = fuseQ q n) (.returned (.tuple #[])) ((w.setCell ⟨gq, 4, none⟩ (.int .i64 0)).setCell ⟨gq, 4, none⟩ (.int .i64 (n + 1))) from ⟨rfl, step_one H2 (HK1.then_ HK2 (fun k h => .inl h)) (fun k h => .inl h) (by unfold fuseQ; rw [if_pos hn])⟩)
    have hn1 : 0 ≤ n := hn.1
    have hn2 : n < 1099511627776 := hn.2
    have d1 : decide (0 ≤ n) = true := decide_eq_true hn1
    have d2 : decide (n < 1099511627776) = true := decide_eq_true hn2
    clear h H1 HK1 H2 HK2 hn
    go_upto_region 1 with fail
    generalize w.setCell ⟨gq, 4, none⟩ (.int .i64 0) = w1 at *
    go_wp2_with fail
    first | go_end0 | ((try simp only [Exit.inBlock, Exit.then]); refine bodyPost_ret (results_none rfl _ _ _) rfl ?_)
    exact HP.out
  · have HP := Aside0.mk (show RefP w0 w S gq q (.tuple #[]) (fun q' => q' = fuseQ q n) (.returned (.tuple #[])) (w.setCell ⟨gq, 4, none⟩ (.int .i64 0)) from ⟨rfl, step_one H1 HK1 (fun k h => .inl h) (by unfold fuseQ; rw [if_neg hn])⟩)
    clear h H1 HK1
    go_upto_region 1 with fail
    generalize w.setCell ⟨gq, 4, none⟩ (.int .i64 0) = w1 at *
    by_cases hn1 : 0 ≤ n
    · have hn2 : ¬ n < 1099511627776 := fun h => hn ⟨hn1, h⟩
      have d1 : decide (0 ≤ n) = true := decide_eq_true hn1
      have d2 : decide (n < 1099511627776) = false := decide_eq_false hn2
      clear hn hn1 hn2
      go_wp2_with fail
      first | go_end0 | ((try simp only [Exit.inBlock, Exit.then]); refine bodyPost_ret (results_none rfl _ _ _) rfl ?_)
      exact HP.out
    · have d1 : decide (0 ≤ n) = false := decide_eq_false hn1
      clear hn hn1
      go_wp2_with fail
      first | go_end0 | ((try simp only [Exit.inBlock, Exit.then]); refine bodyPost_ret (results_none rfl _ _ _) rfl ?_)
      exact HP.out
end
end Go.Proofs.Ytjljgcceapkdcaa.RpD
end
