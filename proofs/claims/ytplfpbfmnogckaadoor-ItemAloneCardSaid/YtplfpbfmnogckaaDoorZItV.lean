-- Printed by prune.py: the used part of a text.
import Derived.Test.YtplfpbfmnogckaaDoorZItS
namespace Go.Proofs.YtplfpbfmnogckaaDoor.ItV
open Go.RowKit Go.Proofs.YtplfpbfmnogckaaDoorW.PrintWords Go.Proofs.YtplfpbfmnogckaaDoorW.PrintLast Go.Proofs.YtplfpbfmnogckaaDoorW.PrintMore Go.Proofs.YtplfpbfmnogckaaDoor.TdG Go.Proofs.YtplfpbfmnogckaaDoor.TdM Go.Proofs.YtplfpbfmnogckaaDoor.TdP Go.Proofs.YtplfpbfmnogckaaDoor.ItF Go.Proofs.YtplfpbfmnogckaaDoor.ItT Go.Proofs.YtplfpbfmnogckaaDoor.ItO Go.Proofs.YtplfpbfmnogckaaDoor.WdA Go.Proofs.YtplfpbfmnogckaaDoor.WdC Go.Proofs.YtplfpbfmnogckaaDoor.WdD Go.Proofs.YtplfpbfmnogckaaDoor.WdE Go.Proofs.YtplfpbfmnogckaaDoor.ItP Go.Proofs.YtplfpbfmnogckaaDoor.ItQ Go.Proofs.YtplfpbfmnogckaaDoor.ItR Go.Proofs.YtplfpbfmnogckaaDoor.ItS
set_option linter.unusedVariables false
theorem rem7 (n : Int) : ∃ i : Fin 7, (IntKind.u64.wrap n).tmod 7 = (i.val : Int) := by
  have e1 : IntKind.u64.wrap n = n % 18446744073709551616 := by simp [IntKind.wrap, IntKind.bits, IntKind.signed]
  rw [e1, Int.tmod_eq_emod_of_nonneg (Int.emod_nonneg _ (by decide))]
  generalize n % 18446744073709551616 = q
  exact ⟨⟨(q % 7).toNat, by omega⟩, by simp; omega⟩
theorem pow7 : ∀ i : Fin 7, ((2 : Int) ^ i.val) = 1 ∨ ((2 : Int) ^ i.val) = 2 ∨ ((2 : Int) ^ i.val) = 4 ∨ ((2 : Int) ^ i.val) = 8 ∨ ((2 : Int) ^ i.val) = 16 ∨ ((2 : Int) ^ i.val) = 32 ∨ ((2 : Int) ^ i.val) = 64 := by decide
def t_mailsacklaw21_ItemAlone.T6 : Bool × List (List Nat × List Nat) := (true, [([], []), ([], []), ([1], [1]), ([2], [2]), ([0, 3], [0, 3]), ([4], [4]), ([], []), ([], []), ([7], [7]), ([8], [8]), ([6, 9], [6, 9]), ([5, 10], [5, 10]), ([11], [11]), ([12], [12]), ([13], [13]), ([13], [13]), ([14, 12, 0, 1, 2, 3, 4, 5, 6, 7, 8, 9, 10, 11, 12, 13, 14], [14]), ([15, 16, 0, 1, 2, 3, 4, 5, 6, 7, 8, 9, 10, 11, 12, 13, 14, 15, 16], [15])])
def t_mailsacklaw21_ItemAlone.B6 : List Nat := [0, 0, 2, 6, 15, 31, 0, 0, 128, 384, 960, 2047, 4095, 8191, 16383, 16383, 32767, 131071]
theorem t_mailsacklaw21_ItemAlone.tab6 : rtab .any (opsOf Tryd.f10 6) = t_mailsacklaw21_ItemAlone.T6 := by kernel_rfl
theorem t_mailsacklaw21_ItemAlone.bits6 : waitsOk t_mailsacklaw21_ItemAlone.T6.2 t_mailsacklaw21_ItemAlone.B6 = true := by kernel_rfl
set_option maxRecDepth 100000 in
set_option maxHeartbeats 8000000 in
theorem alone_calls (n m : Int) (w : World) (ht : Tab w) : Calls Tryd.prog 10 #[.int .i64 n, .int .i64 m] w fun e w' => e = .returned (.bool true) ∧ Below w.heap.size w w' := by
  obtain ⟨i, hi⟩ := rem7 n
  obtain ⟨j, hj⟩ := rem7 m
  have hbi := pow7 i
  have hbj := pow7 j
  have HN1 := Aside0.mk (fun W => names_calls (2 ^ i.val) W)
  have HN2 := Aside0.mk (fun W => names_calls (2 ^ j.val) W)
  obtain ⟨a1, a2, a3⟩ := one_text i
  obtain ⟨b1, b2, b3⟩ := one_text j
  have HS1 := Aside0.mk (fun (u : ByteArray) (hu : u = nmI i.val) W => split_calls u [wd (nmI i.val)] (by rw [hu]; exact one_size i) (by rw [hu]; exact one_items i) W)
  have HS2 := Aside0.mk (fun (u : ByteArray) (hu : u = (nmI i.val ++ ⟨#[32]⟩) ++ nmI j.val) W => split_calls u [wd (nmI i.val), wd (nmI j.val)] (by rw [hu]; exact two_size i j) (by rw [hu]; exact two_items i j) W)
  have HP1 := Aside0.mk (fun A c W hC hc => parse_one A c (wd (nmI i.val)) [wd (nmI i.val)] W rfl hC hc rfl (one_all i).1 (one_all i).2 (one_ok i))
  rw [one_fold] at HP1
  have HAw := Aside0.mk (fun W (hW : Below w.heap.size w W) => awake_calls W (ht.below hW))
  have HM0 := Aside0.mk (Below.refl w.heap.size w)
  have H3a := Aside0.mk a3
  have H3b := Aside0.mk b3
  clear a3 b3
  have Hst := Aside0.mk (one_size i)
  have Hsj := Aside0.mk (one_size j)
  generalize ofP (2 ^ i.val) nmI = sa at *
  generalize ofP (2 ^ j.val) nmI = sb at *
  generalize nmI j.val = tj at *
  generalize nmI i.val = ti at *
  have pa1 : (1 : Int) ≤ (sa.size : Int) - 1 := by omega
  have pa2 : (sa.size : Int) - 1 ≤ (sa.size : Int) := by omega
  have pb1 : (1 : Int) ≤ (sb.size : Int) - 1 := by omega
  have pb2 : (sb.size : Int) - 1 ≤ (sb.size : Int) := by omega
  clear ht
  go_enter Tryd.func10, Tryd.ntmps10
  go_wp2_with (first
    | (go_at_call 21; have HMx := HM0.out; refine (HN1.out _).mono ?_; clear HMx; rintro e_ w1 ⟨rfl, hb⟩; have HM1 := Aside0.mk (HM0.out.trans hb); clear hb HM0 HN1; skip)
    | (go_at_call 21; have HMx := HM1.out; refine (HN2.out _).mono ?_; clear HMx; rintro e_ w2 ⟨rfl, hb⟩; have HM2 := Aside0.mk (HM1.out.trans (hb.mono HM1.out.size)); clear hb HM1 HN2; skip)
    | (go_at_call 22; have HMx := HM2.out; refine (HS1.out _ H3a.out _).mono ?_; clear HMx; rintro e_ w3 ⟨A1, n1, c1, rfl, hn, hc, hC, hb⟩; have HM3 := Aside0.mk (HM2.out.trans (hb.mono HM2.out.size)); have HC1 := Aside0.mk hC; have Hc1 := Aside0.mk hc; subst hn; clear hb hC hc HM2 HS1; skip))
  have e3a : sa.extract 1 (sa.size - 1) = ti := H3a.out
  have e3b : sb.extract 1 (sb.size - 1) = tj := H3b.out
  have st := Hst.out
  have sj := Hsj.out
  have p1 : ¬ 9223372036854775807 < ti.size + 1 := by omega
  have p2 : ¬ 9223372036854775807 < ti.size + 1 + tj.size := by omega
  have HB := HM3
  have HC := HC1
  refine start_ (n := 18) (S := fun w' => True) (ds := []) #[false, false, false, false, false, false, false, false, false, false, false, false, false, false, false, false, false, false] (by kernel_rfl) rfl rfl trivial (fun hHeld => ?_)
  refine with_tabW t_mailsacklaw21_ItemAlone.tab6 t_mailsacklaw21_ItemAlone.bits6 (fun HT_ HW_ => ?_)
  have hd_ := (below_drew1 (Below.refl w3.heap.size w3))
  have n_HB := Aside0.mk (HM3.out.drew)
  have n_HC := Aside0.mk (Kd.C_below HC1.out (below_drew (Below.refl _ _)))
  clear HB
  have HB := n_HB
  clear n_HB
  clear HC
  have HC := n_HC
  clear n_HC
  generalize w3.drew = w_d at *
  clear hd_
  refine inv_at [0, 1, 2, 3, 4, 5, 6, 7, 8, 9, 10, 11, 12, 13, 14, 15, 16, 17] (fun a0_ b a w' => ∃ (AW : Option Addr) (cW : Nat) (nW : Nat) (m12_ : Value) (m13_ : Value) (m14_ : Value) (m16_ : Value), a = putSel a0_ b [(0, 45, .string sa), (1, 46, .string sa), (2, 47, .int .i64 (sa.size : Int)), (3, 48, .int .i64 ((sa.size : Int) - 1)), (4, 49, .string ti), (5, 50, .string (ti ++ (⟨#[32]⟩ : ByteArray))), (6, 51, .string sb), (7, 52, .string sb), (8, 53, .int .i64 (sb.size : Int)), (9, 54, .int .i64 ((sb.size : Int) - 1)), (10, 55, .string tj), (11, 56, .string ((ti ++ (⟨#[32]⟩ : ByteArray)) ++ tj)), (12, 57, m12_), (13, 44, m13_), (14, 58, m14_), (15, 59, .int .i64 0), (16, 9, m16_), (17, 10, .int .i64 0)] ∧ (Below w.heap.size w w') ∧ (Kd.C k60 w' A1 [wd ti].length [wd ti]) ∧ (b 12 = true → nW = [wd ti, wd tj].length) ∧ (b 12 = true → (m12_ : Value) = .tuple #[.slice AW nW cW, .int .i64 0]) ∧ (b 13 = true → (m13_ : Value) = .tuple #[.slice AW nW cW, .int .i64 0]) ∧ (b 14 = true → (m14_ : Value) = .slice AW nW cW) ∧ (b 16 = true → (m16_ : Value) = .slice AW nW cW)) HT_.out HW_.out (by kernel_rfl) (by kernel_rfl) ?_ ?_ ?_
  · exact ⟨none, 0, 0, .bool false, .bool false, .bool false, .bool false, by simp only [putSel, Bool.false_eq_true, if_false], HB.out, HC.out, fun h_ => absurd h_ (by decide), fun h_ => absurd h_ (by decide), fun h_ => absurd h_ (by decide), fun h_ => absurd h_ (by decide), fun h_ => absurd h_ (by decide)⟩
  · skip
    clear HB HC
    refine steps_cons ?_ ?_
    · rintro b a w' ⟨AW, cW, nW, m12_, m13_, m14_, m16_, ha, Q_HB, Q_HC, Q_HN, Q_X12_, Q_X13_, Q_X14_, Q_X16_⟩ hb_ hon hoff
      refine ⟨_, rfl, fun K hK => ?_⟩
      have e5 : a.tmps[5]? = some (.string sa) := by rw [ha]; exact (putSel_off rfl).trans rfl
      replace ha := Aside0.mk ha
      refine value_ (w1 := w') (v := .string sa) (by rfl) rfl ?_ ?_
      · go_simp
        try first | rfl | assumption
      refine hK.out _ _ ⟨AW, cW, nW, m12_, m13_, m14_, m16_, (by rw [ha.out]; exact putSel_upk 0 hb_ rfl rfl rfl), Q_HB, Q_HC, fun h0_ => absurd ((hoff 12 (by kernel_rfl)).symm.trans h0_) (by decide), fun h0_ => absurd ((hoff 12 (by kernel_rfl)).symm.trans h0_) (by decide), fun h0_ => absurd ((hoff 13 (by kernel_rfl)).symm.trans h0_) (by decide), fun h0_ => absurd ((hoff 14 (by kernel_rfl)).symm.trans h0_) (by decide), fun h0_ => absurd ((hoff 16 (by kernel_rfl)).symm.trans h0_) (by decide)⟩
    refine steps_cons ?_ ?_
    · rintro b a w' ⟨AW, cW, nW, m12_, m13_, m14_, m16_, ha, Q_HB, Q_HC, Q_HN, Q_X12_, Q_X13_, Q_X14_, Q_X16_⟩ hb_ hon hoff
      refine ⟨_, rfl, fun K hK => ?_⟩
      have e5 : a.tmps[5]? = some (.string sa) := by rw [ha]; exact (putSel_off rfl).trans rfl
      replace ha := Aside0.mk ha
      refine value_ (w1 := w') (v := .string sa) (by rfl) rfl ?_ ?_
      · go_simp
        try first | rfl | assumption
      refine hK.out _ _ ⟨AW, cW, nW, m12_, m13_, m14_, m16_, (by rw [ha.out]; exact putSel_upk 1 hb_ rfl rfl rfl), Q_HB, Q_HC, fun h0_ => absurd ((hoff 12 (by kernel_rfl)).symm.trans h0_) (by decide), fun h0_ => absurd ((hoff 12 (by kernel_rfl)).symm.trans h0_) (by decide), fun h0_ => absurd ((hoff 13 (by kernel_rfl)).symm.trans h0_) (by decide), fun h0_ => absurd ((hoff 14 (by kernel_rfl)).symm.trans h0_) (by decide), fun h0_ => absurd ((hoff 16 (by kernel_rfl)).symm.trans h0_) (by decide)⟩
    refine steps_cons ?_ ?_
    · rintro b a w' ⟨AW, cW, nW, m12_, m13_, m14_, m16_, ha, Q_HB, Q_HC, Q_HN, Q_X12_, Q_X13_, Q_X14_, Q_X16_⟩ hb_ hon hoff
      refine ⟨_, rfl, fun K hK => ?_⟩
      have e46 : a.tmps[46]? = some (.string sa) := by rw [ha]; exact putSel_on (e := (1, 46, .string sa)) 1 rfl rfl (hon 1 (by kernel_rfl)) rfl
      replace ha := Aside0.mk ha
      refine value_ (w1 := w') (v := .int .i64 (sa.size : Int)) (by rfl) rfl ?_ ?_
      · go_simp
        (try simp only [i64_w])
        try first | rfl | assumption
      refine hK.out _ _ ⟨AW, cW, nW, m12_, m13_, m14_, m16_, (by rw [ha.out]; exact putSel_upk 2 hb_ rfl rfl rfl), Q_HB, Q_HC, fun h0_ => absurd ((hoff 12 (by kernel_rfl)).symm.trans h0_) (by decide), fun h0_ => absurd ((hoff 12 (by kernel_rfl)).symm.trans h0_) (by decide), fun h0_ => absurd ((hoff 13 (by kernel_rfl)).symm.trans h0_) (by decide), fun h0_ => absurd ((hoff 14 (by kernel_rfl)).symm.trans h0_) (by decide), fun h0_ => absurd ((hoff 16 (by kernel_rfl)).symm.trans h0_) (by decide)⟩
    refine steps_cons ?_ ?_
    · rintro b a w' ⟨AW, cW, nW, m12_, m13_, m14_, m16_, ha, Q_HB, Q_HC, Q_HN, Q_X12_, Q_X13_, Q_X14_, Q_X16_⟩ hb_ hon hoff
      refine ⟨_, rfl, fun K hK => ?_⟩
      have e47 : a.tmps[47]? = some (.int .i64 (sa.size : Int)) := by rw [ha]; exact putSel_on (e := (2, 47, .int .i64 (sa.size : Int))) 2 rfl rfl (hon 2 (by kernel_rfl)) rfl
      replace ha := Aside0.mk ha
      have hs : IntKind.i64.wrap ((sa.size : Int) - 1) = (sa.size : Int) - 1 := by rw [IntKind.wrap_i64]; omega
      refine value_ (w1 := w') (v := .int .i64 ((sa.size : Int) - 1)) (by rfl) rfl ?_ ?_
      · go_simp
        (try simp only [i64_w])
        try first | rfl | assumption
      refine hK.out _ _ ⟨AW, cW, nW, m12_, m13_, m14_, m16_, (by rw [ha.out]; exact putSel_upk 3 hb_ rfl rfl rfl), Q_HB, Q_HC, fun h0_ => absurd ((hoff 12 (by kernel_rfl)).symm.trans h0_) (by decide), fun h0_ => absurd ((hoff 12 (by kernel_rfl)).symm.trans h0_) (by decide), fun h0_ => absurd ((hoff 13 (by kernel_rfl)).symm.trans h0_) (by decide), fun h0_ => absurd ((hoff 14 (by kernel_rfl)).symm.trans h0_) (by decide), fun h0_ => absurd ((hoff 16 (by kernel_rfl)).symm.trans h0_) (by decide)⟩
    refine steps_cons ?_ ?_
    · rintro b a w' ⟨AW, cW, nW, m12_, m13_, m14_, m16_, ha, Q_HB, Q_HC, Q_HN, Q_X12_, Q_X13_, Q_X14_, Q_X16_⟩ hb_ hon hoff
      refine ⟨_, rfl, fun K hK => ?_⟩
      have e45 : a.tmps[45]? = some (.string sa) := by rw [ha]; exact putSel_on (e := (0, 45, .string sa)) 0 rfl rfl (hon 0 (by kernel_rfl)) rfl
      have e48 : a.tmps[48]? = some (.int .i64 ((sa.size : Int) - 1)) := by rw [ha]; exact putSel_on (e := (3, 48, .int .i64 ((sa.size : Int) - 1))) 3 rfl rfl (hon 3 (by kernel_rfl)) rfl
      replace ha := Aside0.mk ha
      refine value_ (w1 := w') (v := .string ti) (by rfl) rfl ?_ ?_
      · go_simp
        try first | rfl | assumption
      refine hK.out _ _ ⟨AW, cW, nW, m12_, m13_, m14_, m16_, (by rw [ha.out]; exact putSel_upk 4 hb_ rfl rfl rfl), Q_HB, Q_HC, fun h0_ => absurd ((hoff 12 (by kernel_rfl)).symm.trans h0_) (by decide), fun h0_ => absurd ((hoff 12 (by kernel_rfl)).symm.trans h0_) (by decide), fun h0_ => absurd ((hoff 13 (by kernel_rfl)).symm.trans h0_) (by decide), fun h0_ => absurd ((hoff 14 (by kernel_rfl)).symm.trans h0_) (by decide), fun h0_ => absurd ((hoff 16 (by kernel_rfl)).symm.trans h0_) (by decide)⟩
    refine steps_cons ?_ ?_
    · rintro b a w' ⟨AW, cW, nW, m12_, m13_, m14_, m16_, ha, Q_HB, Q_HC, Q_HN, Q_X12_, Q_X13_, Q_X14_, Q_X16_⟩ hb_ hon hoff
      refine ⟨_, rfl, fun K hK => ?_⟩
      have e49 : a.tmps[49]? = some (.string ti) := by rw [ha]; exact putSel_on (e := (4, 49, .string ti)) 4 rfl rfl (hon 4 (by kernel_rfl)) rfl
      replace ha := Aside0.mk ha
      refine value_ (w1 := w') (v := .string (ti ++ (⟨#[32]⟩ : ByteArray))) (by rfl) rfl ?_ ?_
      · go_simp
        try first | rfl | assumption
      refine hK.out _ _ ⟨AW, cW, nW, m12_, m13_, m14_, m16_, (by rw [ha.out]; exact putSel_upk 5 hb_ rfl rfl rfl), Q_HB, Q_HC, fun h0_ => absurd ((hoff 12 (by kernel_rfl)).symm.trans h0_) (by decide), fun h0_ => absurd ((hoff 12 (by kernel_rfl)).symm.trans h0_) (by decide), fun h0_ => absurd ((hoff 13 (by kernel_rfl)).symm.trans h0_) (by decide), fun h0_ => absurd ((hoff 14 (by kernel_rfl)).symm.trans h0_) (by decide), fun h0_ => absurd ((hoff 16 (by kernel_rfl)).symm.trans h0_) (by decide)⟩
    refine steps_cons ?_ ?_
    · rintro b a w' ⟨AW, cW, nW, m12_, m13_, m14_, m16_, ha, Q_HB, Q_HC, Q_HN, Q_X12_, Q_X13_, Q_X14_, Q_X16_⟩ hb_ hon hoff
      refine ⟨_, rfl, fun K hK => ?_⟩
      have e6 : a.tmps[6]? = some (.string sb) := by rw [ha]; exact (putSel_off rfl).trans rfl
      replace ha := Aside0.mk ha
      refine value_ (w1 := w') (v := .string sb) (by rfl) rfl ?_ ?_
      · go_simp
        try first | rfl | assumption
      refine hK.out _ _ ⟨AW, cW, nW, m12_, m13_, m14_, m16_, (by rw [ha.out]; exact putSel_upk 6 hb_ rfl rfl rfl), Q_HB, Q_HC, fun h0_ => absurd ((hoff 12 (by kernel_rfl)).symm.trans h0_) (by decide), fun h0_ => absurd ((hoff 12 (by kernel_rfl)).symm.trans h0_) (by decide), fun h0_ => absurd ((hoff 13 (by kernel_rfl)).symm.trans h0_) (by decide), fun h0_ => absurd ((hoff 14 (by kernel_rfl)).symm.trans h0_) (by decide), fun h0_ => absurd ((hoff 16 (by kernel_rfl)).symm.trans h0_) (by decide)⟩
    refine steps_cons ?_ ?_
    · rintro b a w' ⟨AW, cW, nW, m12_, m13_, m14_, m16_, ha, Q_HB, Q_HC, Q_HN, Q_X12_, Q_X13_, Q_X14_, Q_X16_⟩ hb_ hon hoff
      refine ⟨_, rfl, fun K hK => ?_⟩
      have e6 : a.tmps[6]? = some (.string sb) := by rw [ha]; exact (putSel_off rfl).trans rfl
      replace ha := Aside0.mk ha
      refine value_ (w1 := w') (v := .string sb) (by rfl) rfl ?_ ?_
      · go_simp
        try first | rfl | assumption
      refine hK.out _ _ ⟨AW, cW, nW, m12_, m13_, m14_, m16_, (by rw [ha.out]; exact putSel_upk 7 hb_ rfl rfl rfl), Q_HB, Q_HC, fun h0_ => absurd ((hoff 12 (by kernel_rfl)).symm.trans h0_) (by decide), fun h0_ => absurd ((hoff 12 (by kernel_rfl)).symm.trans h0_) (by decide), fun h0_ => absurd ((hoff 13 (by kernel_rfl)).symm.trans h0_) (by decide), fun h0_ => absurd ((hoff 14 (by kernel_rfl)).symm.trans h0_) (by decide), fun h0_ => absurd ((hoff 16 (by kernel_rfl)).symm.trans h0_) (by decide)⟩
    refine steps_cons ?_ ?_
    · rintro b a w' ⟨AW, cW, nW, m12_, m13_, m14_, m16_, ha, Q_HB, Q_HC, Q_HN, Q_X12_, Q_X13_, Q_X14_, Q_X16_⟩ hb_ hon hoff
      refine ⟨_, rfl, fun K hK => ?_⟩
      have e52 : a.tmps[52]? = some (.string sb) := by rw [ha]; exact putSel_on (e := (7, 52, .string sb)) 7 rfl rfl (hon 7 (by kernel_rfl)) rfl
      replace ha := Aside0.mk ha
      refine value_ (w1 := w') (v := .int .i64 (sb.size : Int)) (by rfl) rfl ?_ ?_
      · go_simp
        (try simp only [i64_w])
        try first | rfl | assumption
      refine hK.out _ _ ⟨AW, cW, nW, m12_, m13_, m14_, m16_, (by rw [ha.out]; exact putSel_upk 8 hb_ rfl rfl rfl), Q_HB, Q_HC, fun h0_ => absurd ((hoff 12 (by kernel_rfl)).symm.trans h0_) (by decide), fun h0_ => absurd ((hoff 12 (by kernel_rfl)).symm.trans h0_) (by decide), fun h0_ => absurd ((hoff 13 (by kernel_rfl)).symm.trans h0_) (by decide), fun h0_ => absurd ((hoff 14 (by kernel_rfl)).symm.trans h0_) (by decide), fun h0_ => absurd ((hoff 16 (by kernel_rfl)).symm.trans h0_) (by decide)⟩
    refine steps_cons ?_ ?_
    · rintro b a w' ⟨AW, cW, nW, m12_, m13_, m14_, m16_, ha, Q_HB, Q_HC, Q_HN, Q_X12_, Q_X13_, Q_X14_, Q_X16_⟩ hb_ hon hoff
      refine ⟨_, rfl, fun K hK => ?_⟩
      have e53 : a.tmps[53]? = some (.int .i64 (sb.size : Int)) := by rw [ha]; exact putSel_on (e := (8, 53, .int .i64 (sb.size : Int))) 8 rfl rfl (hon 8 (by kernel_rfl)) rfl
      replace ha := Aside0.mk ha
      have hs : IntKind.i64.wrap ((sb.size : Int) - 1) = (sb.size : Int) - 1 := by rw [IntKind.wrap_i64]; omega
      refine value_ (w1 := w') (v := .int .i64 ((sb.size : Int) - 1)) (by rfl) rfl ?_ ?_
      · go_simp
        (try simp only [i64_w])
        try first | rfl | assumption
      refine hK.out _ _ ⟨AW, cW, nW, m12_, m13_, m14_, m16_, (by rw [ha.out]; exact putSel_upk 9 hb_ rfl rfl rfl), Q_HB, Q_HC, fun h0_ => absurd ((hoff 12 (by kernel_rfl)).symm.trans h0_) (by decide), fun h0_ => absurd ((hoff 12 (by kernel_rfl)).symm.trans h0_) (by decide), fun h0_ => absurd ((hoff 13 (by kernel_rfl)).symm.trans h0_) (by decide), fun h0_ => absurd ((hoff 14 (by kernel_rfl)).symm.trans h0_) (by decide), fun h0_ => absurd ((hoff 16 (by kernel_rfl)).symm.trans h0_) (by decide)⟩
    refine steps_cons ?_ ?_
    · rintro b a w' ⟨AW, cW, nW, m12_, m13_, m14_, m16_, ha, Q_HB, Q_HC, Q_HN, Q_X12_, Q_X13_, Q_X14_, Q_X16_⟩ hb_ hon hoff
      refine ⟨_, rfl, fun K hK => ?_⟩
      have e51 : a.tmps[51]? = some (.string sb) := by rw [ha]; exact putSel_on (e := (6, 51, .string sb)) 6 rfl rfl (hon 6 (by kernel_rfl)) rfl
      have e54 : a.tmps[54]? = some (.int .i64 ((sb.size : Int) - 1)) := by rw [ha]; exact putSel_on (e := (9, 54, .int .i64 ((sb.size : Int) - 1))) 9 rfl rfl (hon 9 (by kernel_rfl)) rfl
      replace ha := Aside0.mk ha
      refine value_ (w1 := w') (v := .string tj) (by rfl) rfl ?_ ?_
      · go_simp
        try first | rfl | assumption
      refine hK.out _ _ ⟨AW, cW, nW, m12_, m13_, m14_, m16_, (by rw [ha.out]; exact putSel_upk 10 hb_ rfl rfl rfl), Q_HB, Q_HC, fun h0_ => absurd ((hoff 12 (by kernel_rfl)).symm.trans h0_) (by decide), fun h0_ => absurd ((hoff 12 (by kernel_rfl)).symm.trans h0_) (by decide), fun h0_ => absurd ((hoff 13 (by kernel_rfl)).symm.trans h0_) (by decide), fun h0_ => absurd ((hoff 14 (by kernel_rfl)).symm.trans h0_) (by decide), fun h0_ => absurd ((hoff 16 (by kernel_rfl)).symm.trans h0_) (by decide)⟩
    refine steps_cons ?_ ?_
    · rintro b a w' ⟨AW, cW, nW, m12_, m13_, m14_, m16_, ha, Q_HB, Q_HC, Q_HN, Q_X12_, Q_X13_, Q_X14_, Q_X16_⟩ hb_ hon hoff
      refine ⟨_, rfl, fun K hK => ?_⟩
      have e50 : a.tmps[50]? = some (.string (ti ++ (⟨#[32]⟩ : ByteArray))) := by rw [ha]; exact putSel_on (e := (5, 50, .string (ti ++ (⟨#[32]⟩ : ByteArray)))) 5 rfl rfl (hon 5 (by kernel_rfl)) rfl
      have e55 : a.tmps[55]? = some (.string tj) := by rw [ha]; exact putSel_on (e := (10, 55, .string tj)) 10 rfl rfl (hon 10 (by kernel_rfl)) rfl
      replace ha := Aside0.mk ha
      refine value_ (w1 := w') (v := .string ((ti ++ (⟨#[32]⟩ : ByteArray)) ++ tj)) (by rfl) rfl ?_ ?_
      · go_simp
        try first | rfl | assumption
      refine hK.out _ _ ⟨AW, cW, nW, m12_, m13_, m14_, m16_, (by rw [ha.out]; exact putSel_upk 11 hb_ rfl rfl rfl), Q_HB, Q_HC, fun h0_ => absurd ((hoff 12 (by kernel_rfl)).symm.trans h0_) (by decide), fun h0_ => absurd ((hoff 12 (by kernel_rfl)).symm.trans h0_) (by decide), fun h0_ => absurd ((hoff 13 (by kernel_rfl)).symm.trans h0_) (by decide), fun h0_ => absurd ((hoff 14 (by kernel_rfl)).symm.trans h0_) (by decide), fun h0_ => absurd ((hoff 16 (by kernel_rfl)).symm.trans h0_) (by decide)⟩
    refine steps_cons ?_ ?_
    · rintro b a w' ⟨AW, cW, nW, m12_, m13_, m14_, m16_, ha, Q_HB, Q_HC, Q_HN, Q_X12_, Q_X13_, Q_X14_, Q_X16_⟩ hb_ hon hoff
      refine ⟨_, rfl, fun K hK => ?_⟩
      have e56 : a.tmps[56]? = some (.string ((ti ++ (⟨#[32]⟩ : ByteArray)) ++ tj)) := by rw [ha]; exact putSel_on (e := (11, 56, .string ((ti ++ (⟨#[32]⟩ : ByteArray)) ++ tj))) 11 rfl rfl (hon 11 (by kernel_rfl)) rfl
      replace ha := Aside0.mk ha
      have HB := Aside0.mk Q_HB
      have HC := Aside0.mk Q_HC
      refine goes_ Tryd.func22 (by kernel_rfl) rfl #[.string ((ti ++ (⟨#[32]⟩ : ByteArray)) ++ tj)] (by rfl) rfl rfl (by first | (simp only [List.map_toArray, List.map_cons, List.map_nil, Act.eval, Array.getD_eq_getD_getElem?, Option.getD_some, e56]; done) | (simp only [List.map_toArray, List.map_cons, List.map_nil, Act.eval, Array.getD_eq_getD_getElem?, Option.getD_some, e56]; rfl)) ?_
      with_reducible refine (HS2.out _ rfl w').mono ?_
      rintro e wq ⟨A9, n9, c9, rfl, hn, hc, hC, hb⟩
      refine ⟨_, rfl, ?_⟩
      refine hK.out _ _ ⟨A9, c9, n9, (.tuple #[.slice A9 n9 c9, .int .i64 0]), m13_, m14_, m16_, (by rw [ha.out]; exact putSel_upk 12 hb_ rfl rfl rfl), HB.out.trans (hb.mono HB.out.size), Kd.C_below HC.out hb, fun _ => hn, fun _ => rfl, fun h0_ => absurd ((hoff 13 (by kernel_rfl)).symm.trans h0_) (by decide), fun h0_ => absurd ((hoff 14 (by kernel_rfl)).symm.trans h0_) (by decide), fun h0_ => absurd ((hoff 16 (by kernel_rfl)).symm.trans h0_) (by decide)⟩
    refine steps_cons ?_ ?_
    · rintro b a w' ⟨AW, cW, nW, m12_, m13_, m14_, m16_, ha, Q_HB, Q_HC, Q_HN, Q_X12_, Q_X13_, Q_X14_, Q_X16_⟩ hb_ hon hoff
      refine ⟨_, rfl, fun K hK => ?_⟩
      have e57 : a.tmps[57]? = some (m12_) := by rw [ha]; exact putSel_on (e := (12, 57, m12_)) 12 rfl rfl (hon 12 (by kernel_rfl)) rfl
      rw [Q_X12_ (hon 12 (by kernel_rfl))] at e57
      replace ha := Aside0.mk ha
      refine value_ (w1 := w') (v := .tuple #[.slice AW nW cW, .int .i64 0]) (by rfl) rfl ?_ ?_
      · go_simp
        try first | rfl | assumption
      refine hK.out _ _ ⟨AW, cW, nW, m12_, (.tuple #[.slice AW nW cW, .int .i64 0]), m14_, m16_, (by rw [ha.out]; exact putSel_upk 13 hb_ rfl rfl rfl), Q_HB, Q_HC, Q_HN, Q_X12_, fun _ => rfl, fun h0_ => absurd ((hoff 14 (by kernel_rfl)).symm.trans h0_) (by decide), fun h0_ => absurd ((hoff 16 (by kernel_rfl)).symm.trans h0_) (by decide)⟩
    refine steps_cons ?_ ?_
    · rintro b a w' ⟨AW, cW, nW, m12_, m13_, m14_, m16_, ha, Q_HB, Q_HC, Q_HN, Q_X12_, Q_X13_, Q_X14_, Q_X16_⟩ hb_ hon hoff
      refine ⟨_, rfl, fun K hK => ?_⟩
      have e44 : a.tmps[44]? = some (m13_) := by rw [ha]; exact putSel_on (e := (13, 44, m13_)) 13 rfl rfl (hon 13 (by kernel_rfl)) rfl
      rw [Q_X13_ (hon 13 (by kernel_rfl))] at e44
      replace ha := Aside0.mk ha
      refine value_ (w1 := w') (v := .slice AW nW cW) (by rfl) rfl ?_ ?_
      · go_simp
        try first | rfl | assumption
      refine hK.out _ _ ⟨AW, cW, nW, m12_, m13_, (.slice AW nW cW), m16_, (by rw [ha.out]; exact putSel_upk 14 hb_ rfl rfl rfl), Q_HB, Q_HC, Q_HN, Q_X12_, Q_X13_, fun _ => rfl, fun h0_ => absurd ((hoff 16 (by kernel_rfl)).symm.trans h0_) (by decide)⟩
    refine steps_cons ?_ ?_
    · rintro b a w' ⟨AW, cW, nW, m12_, m13_, m14_, m16_, ha, Q_HB, Q_HC, Q_HN, Q_X12_, Q_X13_, Q_X14_, Q_X16_⟩ hb_ hon hoff
      refine ⟨_, rfl, fun K hK => ?_⟩
      have e44 : a.tmps[44]? = some (m13_) := by rw [ha]; exact putSel_on (e := (13, 44, m13_)) 13 rfl rfl (hon 13 (by kernel_rfl)) rfl
      rw [Q_X13_ (hon 13 (by kernel_rfl))] at e44
      replace ha := Aside0.mk ha
      refine value_ (w1 := w') (v := .int .i64 0) (by rfl) rfl ?_ ?_
      · go_simp
        (try simp only [i64_w])
        try first | rfl | assumption
      refine hK.out _ _ ⟨AW, cW, nW, m12_, m13_, m14_, m16_, (by rw [ha.out]; exact putSel_upk 15 hb_ rfl rfl rfl), Q_HB, Q_HC, Q_HN, Q_X12_, Q_X13_, Q_X14_, Q_X16_⟩
    refine steps_cons ?_ ?_
    · rintro b a w' ⟨AW, cW, nW, m12_, m13_, m14_, m16_, ha, Q_HB, Q_HC, Q_HN, Q_X12_, Q_X13_, Q_X14_, Q_X16_⟩ hb_ hon hoff
      refine ⟨_, rfl, fun K hK => ?_⟩
      have e58 : a.tmps[58]? = some (m14_) := by rw [ha]; exact putSel_on (e := (14, 58, m14_)) 14 rfl rfl (hon 14 (by kernel_rfl)) rfl
      rw [Q_X14_ (hon 14 (by kernel_rfl))] at e58
      replace ha := Aside0.mk ha
      refine value_ (w1 := w') (v := .slice AW nW cW) (by rfl) rfl ?_ ?_
      · go_simp
        try first | rfl | assumption
      refine hK.out _ _ ⟨AW, cW, nW, m12_, m13_, m14_, (.slice AW nW cW), (by rw [ha.out]; exact putSel_upk 16 hb_ rfl rfl rfl), Q_HB, Q_HC, Q_HN, Q_X12_, Q_X13_, Q_X14_, fun _ => rfl⟩
    refine steps_cons ?_ ?_
    · rintro b a w' ⟨AW, cW, nW, m12_, m13_, m14_, m16_, ha, Q_HB, Q_HC, Q_HN, Q_X12_, Q_X13_, Q_X14_, Q_X16_⟩ hb_ hon hoff
      refine ⟨_, rfl, fun K hK => ?_⟩
      have e59 : a.tmps[59]? = some (.int .i64 0) := by rw [ha]; exact putSel_on (e := (15, 59, .int .i64 0)) 15 rfl rfl (hon 15 (by kernel_rfl)) rfl
      replace ha := Aside0.mk ha
      refine value_ (w1 := w') (v := .int .i64 0) (by rfl) rfl ?_ ?_
      · go_simp
        (try simp only [i64_w])
        try first | rfl | assumption
      refine hK.out _ _ ⟨AW, cW, nW, m12_, m13_, m14_, m16_, (by rw [ha.out]; exact putSel_upk 17 hb_ rfl rfl rfl), Q_HB, Q_HC, Q_HN, Q_X12_, Q_X13_, Q_X14_, Q_X16_⟩
    exact steps_nil
  rintro b a w_9 hall ⟨AW, cW, nW, m12_, m13_, m14_, m16_, ha, Q_HB, Q_HC, Q_HN, Q_X12_, Q_X13_, Q_X14_, Q_X16_⟩
  clear HB HC
  have hb0_ := hall 0 (by kernel_rfl)
  have hb1_ := hall 1 (by kernel_rfl)
  have hb2_ := hall 2 (by kernel_rfl)
  have hb3_ := hall 3 (by kernel_rfl)
  have hb4_ := hall 4 (by kernel_rfl)
  have hb5_ := hall 5 (by kernel_rfl)
  have hb6_ := hall 6 (by kernel_rfl)
  have hb7_ := hall 7 (by kernel_rfl)
  have hb8_ := hall 8 (by kernel_rfl)
  have hb9_ := hall 9 (by kernel_rfl)
  have hb10_ := hall 10 (by kernel_rfl)
  have hb11_ := hall 11 (by kernel_rfl)
  have hb12_ := hall 12 (by kernel_rfl)
  have hb13_ := hall 13 (by kernel_rfl)
  have hb14_ := hall 14 (by kernel_rfl)
  have hb15_ := hall 15 (by kernel_rfl)
  have hb16_ := hall 16 (by kernel_rfl)
  have hb17_ := hall 17 (by kernel_rfl)
  subst ha
  obtain rfl := Q_X12_ hb12_
  obtain rfl := Q_X13_ hb13_
  obtain rfl := Q_X14_ hb14_
  obtain rfl := Q_X16_ hb16_
  simp only [putSel, hb0_, hb1_, hb2_, hb3_, hb4_, hb5_, hb6_, hb7_, hb8_, hb9_, hb10_, hb11_, hb12_, hb13_, hb14_, hb15_, hb16_, hb17_, if_true, Act.put, List.setIfInBounds_toArray, List.set_cons_zero, List.set_cons_succ]
  have HB := Aside0.mk Q_HB
  clear Q_HB
  have HC := Aside0.mk Q_HC
  clear Q_HC
  have HN := Aside0.mk (Q_HN hb12_)
  clear Q_HN
  clear hall hb0_ hb1_ hb2_ hb3_ hb4_ hb5_ hb6_ hb7_ hb8_ hb9_ hb10_ hb11_ hb12_ hb13_ hb14_ hb15_ hb16_ hb17_
  have HM4 := HB
  have HC2 := HC
  go_wp2_with (first
    | (go_at_call 23; have HMx := HM4.out; refine (HP1.out _ _ _ HC2.out Hc1.out).mono ?_; clear HMx; rintro e_ w5 ⟨rfl, hb⟩; have HM5 := Aside0.mk (HM4.out.trans (hb.mono HM4.out.size)); clear hb HM4 HC2; skip)
    | (go_at_call 23; have HMx := HM5.out; refine (parse_two _ _ _ _ HN.out).mono ?_; clear HMx; rintro e_ w6 ⟨rfl, hb⟩; have HM6 := Aside0.mk (HM5.out.trans (hb.mono HM5.out.size)); clear hb HM5; skip)
    | (go_at_call 24; have HMx := HM6.out; refine (HAw.out _ HM6.out).mono ?_; clear HMx; rintro e_ w7 ⟨rfl, hb⟩; have HM7 := Aside0.mk (HM6.out.trans (hb.mono HM6.out.size)); clear hb HM6; skip))
  go_ret
  exact ⟨rfl, HM7.out⟩
end Go.Proofs.YtplfpbfmnogckaaDoor.ItV
