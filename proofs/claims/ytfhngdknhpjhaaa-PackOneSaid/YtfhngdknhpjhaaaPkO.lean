import Derived.Test.YtfhngdknhpjhaaaPkB
/-! PackOne: a number has one form. -/
namespace Go.Proofs.Ytfhngdknhpjhaaa.PkO
open Go.RowKit Go.Proofs.YtfhngdknhpjhaaaW.PrintWords Go.Proofs.YtfhngdknhpjhaaaW.PrintLast Go.Proofs.YtfhngdknhpjhaaaW.PrintMore Go.Proofs.Ytfhngdknhpjhaaa.PkM Go.Proofs.Ytfhngdknhpjhaaa.PkP Go.Proofs.Ytfhngdknhpjhaaa.PkQ Go.Proofs.Ytfhngdknhpjhaaa.PkH Go.Proofs.Ytfhngdknhpjhaaa.PkR Go.Proofs.Ytfhngdknhpjhaaa.PkC Go.Proofs.Ytfhngdknhpjhaaa.PkL Go.Proofs.Ytfhngdknhpjhaaa.PkB
set_option linter.unusedVariables false
set_option linter.unusedSimpArgs false
def t_mailsacklaw5_PackOne.T8 : Bool × List (List Nat × List Nat) := (true, [([], []), ([0], [0]), ([1], [1]), ([2], [2]), ([3], [3]), ([4, 3], [3, 4]), ([3], [3]), ([6, 3], [3, 6]), ([5, 7, 3], [3, 5, 7]), ([3, 8], [3, 8]), ([9, 3], [9]), ([10], [10]), ([11, 10], [10, 11]), ([10], [10]), ([13, 10], [10, 13]), ([10], [10]), ([15, 10, 10], [10, 15]), ([14, 16, 10], [10, 14, 16]), ([12, 17, 10], [10, 12, 17]), ([10, 18], [10, 18]), ([19, 16], [19]), ([20], [20]), ([21, 20], [20, 21]), ([20], [20]), ([20], [20]), ([24, 20], [20, 24]), ([23, 25, 20], [20, 23, 25]), ([26, 20], [20, 26]), ([22, 27, 20], [20, 22, 27]), ([20, 28], [20, 28]), ([29, 20], [29]), ([30, 30], [30]), ([30, 31], [30, 31]), ([32, 31, 0, 1, 2, 3, 4, 5, 6, 7, 8, 9, 10, 11, 12, 13, 14, 15, 16, 17, 18, 19, 20, 21, 22, 23, 24, 25, 26, 27, 28, 29, 30, 31, 32], [32])])
def t_mailsacklaw5_PackOne.B8 : List Nat := [0, 1, 3, 7, 15, 31, 15, 79, 255, 511, 1023, 2047, 4095, 2047, 10239, 2047, 34815, 124927, 262143, 524287, 1048575, 2097151, 4194303, 2097151, 2097151, 18874367, 60817407, 127926271, 268435455, 536870911, 1073741823, 2147483647, 4294967295, 8589934591]
theorem t_mailsacklaw5_PackOne.tab8 : rtab .any (opsOf Try.f4 8) = t_mailsacklaw5_PackOne.T8 := by kernel_rfl
theorem t_mailsacklaw5_PackOne.bits8 : waitsOk t_mailsacklaw5_PackOne.T8.2 t_mailsacklaw5_PackOne.B8 = true := by kernel_rfl
/-- What NewReader's first Number tells of the bytes. -/
theorem rNum_cases (l : List Int) (hb : Bytes l) : (∃ e, e ≠ 0 ∧ rNum l 0 = (0, l, e)) ∨ ∃ x, enc x = l.take (enc x).length ∧ (enc x).length ≤ l.length ∧ rNum l 0 = (x, l.drop (enc x).length, 0) := by
  unfold rNum
  rw [if_neg (by simp)]
  by_cases h : (num l).2.2 = 0
  · right
    rw [if_neg (by simpa using h)]
    obtain ⟨h1, h2, h3, h4, h5⟩ := num_one (n := (num l).1) (sz := (num l).2.1) hb (by rw [← h])
    exact ⟨(num l).1, h4, h5, by rw [h3]; simp⟩
  · left
    rw [if_pos h]
    exact ⟨_, h, rfl⟩
set_option maxRecDepth 100000 in
set_option maxHeartbeats 1000000 in
theorem packOne_calls (A0 : Option Addr) (c0 : Nat) (l0 : List Int) (w : World) (hl0 : l0.length ≤ c0) (hC0 : Kd.C (Kd.int .u8) w A0 l0.length l0) (hb : Bytes l0) :
    Calls Try.prog 4 #[.slice A0 l0.length c0] w fun e w' => e = .returned (.bool true) ∧ Below w.heap.size w w' := by
  have HW := Aside0.mk (fun W => awake_calls W)
  obtain ⟨n, hn⟩ : ∃ n, n = l0.length := ⟨_, rfl⟩
  have Hs : Aside0 (Sl w A0 n c0 l0) := ⟨⟨hn, by omega, by rw [hn]; exact hC0⟩⟩
  have Hn := Aside0.mk hn
  rw [← hn] at hl0 ⊢
  clear hC0 hn
  have Hby := Aside0.mk hb
  clear hb
  by_cases h20 : (n : Int) > 20
  · go_enter Try.func4, Try.ntmps4
    go_wp2_with (go_at_call 12; refine (HW.out _).mono ?_; rintro e w1 ⟨rfl, hb⟩; have Hb := Aside0.mk hb; clear hb)
    go_ret
    exact ⟨rfl, Hb.out⟩
  · have H1 := Aside0.mk (newReader Hs.out Hby.out (by have := Hn.out; omega))
    go_enter Try.func4, Try.ntmps4
    go_wp2_with fail
    refine H1.out.mono ?_
    rintro e w1 ⟨g, rfl, hr1, hb1, hg⟩
    have Hb1 := Aside0.mk hb1
    have H2 := Aside0.mk (rnum (B := w.heap.size) hr1 hg)
    clear hr1 hb1 H1 hg
    rcases rNum_cases l0 Hby.out with ⟨e, he, h⟩ | ⟨x, hx1, hx2, h⟩
    · rw [h] at H2
      clear h
      have heb : (e != 0) = true := by simpa using he
      clear he
      have hln : ((l0.length : Int) == (n : Int)) = true := by rw [Hn.out]; simp
      go_wp2_with fail
      refine H2.out.mono ?_
      rintro e w2 ⟨rfl, hr2, hb2⟩
      have H3 := Aside0.mk (rerr hr2)
      have H4 := Aside0.mk (rleft hr2)
      have Hb2 := Aside0.mk (Hb1.out.trans hb2)
      clear hr2 hb2 H2
      go_wp2_with (first | (go_at_call 18; refine H4.out.mono ?_; rintro e w6 ⟨rfl, rfl⟩) | (go_at_call 19; refine H3.out.mono ?_; rintro e w6 ⟨rfl, rfl⟩) | (go_at_call 12; refine (HW.out _).mono ?_; rintro e w7 ⟨rfl, hb7⟩; have Hb7 := Aside0.mk hb7; clear hb7))
      go_ret
      exact ⟨rfl, Hb2.out.trans (Hb7.out.mono Hb2.out.size)⟩
    · rw [h] at H2
      clear h
      have Hx1 := Aside0.mk hx1
      have Hx2 := Aside0.mk hx2
      have Hx6 := Aside0.mk (enc_len x)
      clear hx1 hx2
      go_wp2_with fail
      refine H2.out.mono ?_
      rintro e w2 ⟨rfl, hr2, hb2⟩
      have H3 := Aside0.mk (rerr hr2)
      have HR := Aside0.mk hr2
      have Hb2 := Aside0.mk (Hb1.out.trans hb2)
      clear hr2 hb2 H2
      have H4 := Aside0.mk (number (x := x) (Sl.nil w2) (by have := Hx6.out; simp; omega))
      go_wp2_with (first | (go_at_call 19; refine H3.out.mono ?_; rintro e w6 ⟨rfl, rfl⟩))
      refine H4.out.mono ?_
      rintro e w3 ⟨A5, n5, c5, rfl, ho3, hb3⟩
      have HS := Aside0.mk ho3.sl
      have HR3 := Aside0.mk (HR.out.below hb3)
      have HB := Aside0.mk (Hb2.out.trans (hb3.mono Hb2.out.size))
      clear ho3 hb3 HR Hb2 Hb1 H3 H4
      simp only [List.nil_append] at HS
      have hn5 : n5 = (enc x).length := HS.out.len
      have h6 : (n5 : Int) ≤ 6 := by have := Hx6.out; omega
      have h7 : (n5 : Int) ≤ (n : Int) := by have := Hx2.out; have := Hn.out; omega
      have h8 : (n5 : Int) ≤ (c0 : Int) := by omega
      have Hn5 := Aside0.mk hn5
      have hsub : wrap64 ((n : Int) - ((l0.drop (enc x).length).length : Int)) = (n5 : Int) := by
        have := Hx2.out
        have := Hn.out
        rw [List.length_drop, w64 (by omega) (by omega)]
        omega
      clear hn5
      generalize l0.drop (enc x).length = rest at *
      have HT : Aside0 (l0.take n5 = enc x) := ⟨by rw [Hn5.out]; exact Hx1.out.symm⟩
      go_wp2_with fail
      refine start_ (n := 34) (S := fun w' => True) (ds := []) #[false, false, false, false, false, false, false, false, false, false, false, false, false, false, false, false, false, false, false, false, false, false, false, false, false, false, false, false, false, false, false, false, false, false] (by kernel_rfl) rfl rfl trivial (fun hHeld => ?_)
      refine with_tabW t_mailsacklaw5_PackOne.tab8 t_mailsacklaw5_PackOne.bits8 (fun HT_ HW_ => ?_)
      have hd_ := (below_drew1 (Below.refl w3.heap.size w3))
      have n_HB := Aside0.mk (HB.out.trans (hd_.mono HB.out.size))
      have n_HR3 := Aside0.mk (HR3.out.below hd_)
      have n_HS := Aside0.mk (HS.out.below hd_)
      clear HB
      have HB := n_HB
      clear n_HB
      clear HR3
      have HR3 := n_HR3
      clear n_HR3
      clear HS
      have HS := n_HS
      clear n_HS
      generalize w3.drew = w_d at *
      clear hd_
      refine inv_at [0, 1, 2, 3, 4, 5, 6, 7, 8, 9, 10, 11, 12, 13, 14, 15, 16, 17, 18, 19, 20, 21, 22, 23, 24, 25, 26, 27, 28, 29, 30, 31, 32, 33] (fun a0_ b a w' => a = putSel a0_ b [(0, 31, .slice A5 n5 c5), (1, 32, .int .i64 (n5 : Int)), (2, 33, .bool true), (3, 34, .bool true), (4, 35, .slice A5 n5 c5), (5, 36, .int .i64 (n5 : Int)), (6, 37, .slice A0 n c0), (7, 38, .int .i64 (n : Int)), (8, 39, .bool true), (9, 40, .bool true), (10, 41, .bool true), (11, 42, .slice A5 n5 c5), (12, 43, .int .i64 (n5 : Int)), (13, 44, .slice A0 n c0), (14, 45, .int .i64 (n : Int)), (15, 46, .pointer (some ⟨g, 0, none⟩)), (16, 47, .int .i64 (rest.length : Int)), (17, 48, .int .i64 (n5 : Int)), (18, 49, .bool true), (19, 50, .bool true), (20, 51, .bool true), (21, 52, .slice A5 n5 c5), (22, 53, .string (strOfNums (enc x))), (23, 54, .slice A0 n c0), (24, 55, .slice A5 n5 c5), (25, 56, .int .i64 (n5 : Int)), (26, 57, .slice A0 n5 c0), (27, 58, .string (strOfNums (enc x))), (28, 59, .bool true), (29, 60, .bool true), (30, 61, .bool true), (31, 62, .bool true), (32, 63, .bool true), (33, 2, .bool true)] ∧ (Below w.heap.size w w') ∧ (b 31 = false → Rd w' g rest 0) ∧ (b 31 = false → Sl w' A5 n5 c5 (enc x))) HT_.out HW_.out (by kernel_rfl) (by kernel_rfl) ?_ ?_ ?_
      · exact ⟨by simp only [putSel, Bool.false_eq_true, if_false], HB.out, fun _ => HR3.out, fun _ => HS.out⟩
      · skip
        clear HB HR3 HS
        refine steps_cons ?_ ?_
        · rintro b a w' ⟨ha, Q_HB, Q_HR3, Q_HS⟩ hb_ hon hoff
          refine ⟨_, rfl, fun K hK => ?_⟩
          have e5 : a.tmps[5]? = some (.slice A5 n5 c5) := by rw [ha]; exact (putSel_off rfl).trans rfl
          replace ha := Aside0.mk ha
          have HB := Aside0.mk Q_HB
          have HR3 := Aside0.mk (Q_HR3 (hoff 31 (by kernel_rfl)))
          have HS := Aside0.mk (Q_HS (hoff 31 (by kernel_rfl)))
          refine value_ (w1 := w') (v := .slice A5 n5 c5) (by rfl) rfl ?_ ?_
          · go_simp
            (try simp only [i64_w])
            try first | rfl | assumption
          refine hK.out _ _ ⟨(by rw [ha.out]; exact putSel_upk 0 hb_ rfl rfl rfl), Q_HB, Q_HR3, Q_HS⟩
        refine steps_cons ?_ ?_
        · rintro b a w' ⟨ha, Q_HB, Q_HR3, Q_HS⟩ hb_ hon hoff
          refine ⟨_, rfl, fun K hK => ?_⟩
          have e31 : a.tmps[31]? = some (.slice A5 n5 c5) := by rw [ha]; exact putSel_on (e := (0, 31, .slice A5 n5 c5)) 0 rfl rfl (hon 0 (by kernel_rfl)) rfl
          replace ha := Aside0.mk ha
          have HB := Aside0.mk Q_HB
          have HR3 := Aside0.mk (Q_HR3 (hoff 31 (by kernel_rfl)))
          have HS := Aside0.mk (Q_HS (hoff 31 (by kernel_rfl)))
          refine value_ (w1 := w') (v := .int .i64 (n5 : Int)) (by rfl) rfl ?_ ?_
          · go_simp
            (try simp only [i64_w])
            try first | rfl | assumption
          refine hK.out _ _ ⟨(by rw [ha.out]; exact putSel_upk 1 hb_ rfl rfl rfl), Q_HB, Q_HR3, Q_HS⟩
        refine steps_cons ?_ ?_
        · rintro b a w' ⟨ha, Q_HB, Q_HR3, Q_HS⟩ hb_ hon hoff
          refine ⟨_, rfl, fun K hK => ?_⟩
          have e32 : a.tmps[32]? = some (.int .i64 (n5 : Int)) := by rw [ha]; exact putSel_on (e := (1, 32, .int .i64 (n5 : Int))) 1 rfl rfl (hon 1 (by kernel_rfl)) rfl
          replace ha := Aside0.mk ha
          have HB := Aside0.mk Q_HB
          have HR3 := Aside0.mk (Q_HR3 (hoff 31 (by kernel_rfl)))
          have HS := Aside0.mk (Q_HS (hoff 31 (by kernel_rfl)))
          refine value_ (w1 := w') (v := .bool true) (by rfl) rfl ?_ ?_
          · go_simp
            (try simp only [i64_w])
            try first | rfl | assumption
          refine hK.out _ _ ⟨(by rw [ha.out]; exact putSel_upk 2 hb_ rfl rfl rfl), Q_HB, Q_HR3, Q_HS⟩
        refine steps_cons ?_ ?_
        · rintro b a w' ⟨ha, Q_HB, Q_HR3, Q_HS⟩ hb_ hon hoff
          refine ⟨_, rfl, fun K hK => ?_⟩
          have e33 : a.tmps[33]? = some (.bool true) := by rw [ha]; exact putSel_on (e := (2, 33, .bool true)) 2 rfl rfl (hon 2 (by kernel_rfl)) rfl
          replace ha := Aside0.mk ha
          have HB := Aside0.mk Q_HB
          have HR3 := Aside0.mk (Q_HR3 (hoff 31 (by kernel_rfl)))
          have HS := Aside0.mk (Q_HS (hoff 31 (by kernel_rfl)))
          refine value_ (w1 := w') (v := .bool true) (by rfl) rfl ?_ ?_
          · go_simp
            (try simp only [i64_w])
            try first | rfl | assumption
          refine hK.out _ _ ⟨(by rw [ha.out]; exact putSel_upk 3 hb_ rfl rfl rfl), Q_HB, Q_HR3, Q_HS⟩
        refine steps_cons ?_ ?_
        · rintro b a w' ⟨ha, Q_HB, Q_HR3, Q_HS⟩ hb_ hon hoff
          refine ⟨_, rfl, fun K hK => ?_⟩
          have e5 : a.tmps[5]? = some (.slice A5 n5 c5) := by rw [ha]; exact (putSel_off rfl).trans rfl
          have e34 : a.tmps[34]? = some (.bool true) := by rw [ha]; exact putSel_on (e := (3, 34, .bool true)) 3 rfl rfl (hon 3 (by kernel_rfl)) rfl
          replace ha := Aside0.mk ha
          have HB := Aside0.mk Q_HB
          have HR3 := Aside0.mk (Q_HR3 (hoff 31 (by kernel_rfl)))
          have HS := Aside0.mk (Q_HS (hoff 31 (by kernel_rfl)))
          refine value_ (w1 := w') (v := .slice A5 n5 c5) (wanted_on rfl rfl rfl (e34.trans (by first | rfl | (simp [*]; done)))) rfl ?_ ?_
          · go_simp
            (try simp only [i64_w])
            try first | rfl | assumption
          refine hK.out _ _ ⟨(by rw [ha.out]; exact putSel_upk 4 hb_ rfl rfl rfl), Q_HB, Q_HR3, Q_HS⟩
        refine steps_cons ?_ ?_
        · rintro b a w' ⟨ha, Q_HB, Q_HR3, Q_HS⟩ hb_ hon hoff
          refine ⟨_, rfl, fun K hK => ?_⟩
          have e35 : a.tmps[35]? = some (.slice A5 n5 c5) := by rw [ha]; exact putSel_on (e := (4, 35, .slice A5 n5 c5)) 4 rfl rfl (hon 4 (by kernel_rfl)) rfl
          have e34 : a.tmps[34]? = some (.bool true) := by rw [ha]; exact putSel_on (e := (3, 34, .bool true)) 3 rfl rfl (hon 3 (by kernel_rfl)) rfl
          replace ha := Aside0.mk ha
          have HB := Aside0.mk Q_HB
          have HR3 := Aside0.mk (Q_HR3 (hoff 31 (by kernel_rfl)))
          have HS := Aside0.mk (Q_HS (hoff 31 (by kernel_rfl)))
          refine value_ (w1 := w') (v := .int .i64 (n5 : Int)) (wanted_on rfl rfl rfl (e34.trans (by first | rfl | (simp [*]; done)))) rfl ?_ ?_
          · go_simp
            (try simp only [i64_w])
            try first | rfl | assumption
          refine hK.out _ _ ⟨(by rw [ha.out]; exact putSel_upk 5 hb_ rfl rfl rfl), Q_HB, Q_HR3, Q_HS⟩
        refine steps_cons ?_ ?_
        · rintro b a w' ⟨ha, Q_HB, Q_HR3, Q_HS⟩ hb_ hon hoff
          refine ⟨_, rfl, fun K hK => ?_⟩
          have e0 : a.tmps[0]? = some (.slice A0 n c0) := by rw [ha]; exact (putSel_off rfl).trans rfl
          have e34 : a.tmps[34]? = some (.bool true) := by rw [ha]; exact putSel_on (e := (3, 34, .bool true)) 3 rfl rfl (hon 3 (by kernel_rfl)) rfl
          replace ha := Aside0.mk ha
          have HB := Aside0.mk Q_HB
          have HR3 := Aside0.mk (Q_HR3 (hoff 31 (by kernel_rfl)))
          have HS := Aside0.mk (Q_HS (hoff 31 (by kernel_rfl)))
          refine value_ (w1 := w') (v := .slice A0 n c0) (wanted_on rfl rfl rfl (e34.trans (by first | rfl | (simp [*]; done)))) rfl ?_ ?_
          · go_simp
            (try simp only [i64_w])
            try first | rfl | assumption
          refine hK.out _ _ ⟨(by rw [ha.out]; exact putSel_upk 6 hb_ rfl rfl rfl), Q_HB, Q_HR3, Q_HS⟩
        refine steps_cons ?_ ?_
        · rintro b a w' ⟨ha, Q_HB, Q_HR3, Q_HS⟩ hb_ hon hoff
          refine ⟨_, rfl, fun K hK => ?_⟩
          have e37 : a.tmps[37]? = some (.slice A0 n c0) := by rw [ha]; exact putSel_on (e := (6, 37, .slice A0 n c0)) 6 rfl rfl (hon 6 (by kernel_rfl)) rfl
          have e34 : a.tmps[34]? = some (.bool true) := by rw [ha]; exact putSel_on (e := (3, 34, .bool true)) 3 rfl rfl (hon 3 (by kernel_rfl)) rfl
          replace ha := Aside0.mk ha
          have HB := Aside0.mk Q_HB
          have HR3 := Aside0.mk (Q_HR3 (hoff 31 (by kernel_rfl)))
          have HS := Aside0.mk (Q_HS (hoff 31 (by kernel_rfl)))
          refine value_ (w1 := w') (v := .int .i64 (n : Int)) (wanted_on rfl rfl rfl (e34.trans (by first | rfl | (simp [*]; done)))) rfl ?_ ?_
          · go_simp
            (try simp only [i64_w])
            try first | rfl | assumption
          refine hK.out _ _ ⟨(by rw [ha.out]; exact putSel_upk 7 hb_ rfl rfl rfl), Q_HB, Q_HR3, Q_HS⟩
        refine steps_cons ?_ ?_
        · rintro b a w' ⟨ha, Q_HB, Q_HR3, Q_HS⟩ hb_ hon hoff
          refine ⟨_, rfl, fun K hK => ?_⟩
          have e36 : a.tmps[36]? = some (.int .i64 (n5 : Int)) := by rw [ha]; exact putSel_on (e := (5, 36, .int .i64 (n5 : Int))) 5 rfl rfl (hon 5 (by kernel_rfl)) rfl
          have e38 : a.tmps[38]? = some (.int .i64 (n : Int)) := by rw [ha]; exact putSel_on (e := (7, 38, .int .i64 (n : Int))) 7 rfl rfl (hon 7 (by kernel_rfl)) rfl
          have e34 : a.tmps[34]? = some (.bool true) := by rw [ha]; exact putSel_on (e := (3, 34, .bool true)) 3 rfl rfl (hon 3 (by kernel_rfl)) rfl
          replace ha := Aside0.mk ha
          have HB := Aside0.mk Q_HB
          have HR3 := Aside0.mk (Q_HR3 (hoff 31 (by kernel_rfl)))
          have HS := Aside0.mk (Q_HS (hoff 31 (by kernel_rfl)))
          refine value_ (w1 := w') (v := .bool true) (wanted_on rfl rfl rfl (e34.trans (by first | rfl | (simp [*]; done)))) rfl ?_ ?_
          · go_simp
            (try simp only [i64_w])
            try first | rfl | assumption
          refine hK.out _ _ ⟨(by rw [ha.out]; exact putSel_upk 8 hb_ rfl rfl rfl), Q_HB, Q_HR3, Q_HS⟩
        refine steps_cons ?_ ?_
        · rintro b a w' ⟨ha, Q_HB, Q_HR3, Q_HS⟩ hb_ hon hoff
          refine ⟨_, rfl, fun K hK => ?_⟩
          have e34 : a.tmps[34]? = some (.bool true) := by rw [ha]; exact putSel_on (e := (3, 34, .bool true)) 3 rfl rfl (hon 3 (by kernel_rfl)) rfl
          have e39 : a.tmps[39]? = some (.bool true) := by rw [ha]; exact putSel_on (e := (8, 39, .bool true)) 8 rfl rfl (hon 8 (by kernel_rfl)) rfl
          replace ha := Aside0.mk ha
          have HB := Aside0.mk Q_HB
          have HR3 := Aside0.mk (Q_HR3 (hoff 31 (by kernel_rfl)))
          have HS := Aside0.mk (Q_HS (hoff 31 (by kernel_rfl)))
          refine value_ (w1 := w') (v := .bool true) (by rfl) rfl ?_ ?_
          · go_simp
            (try simp only [i64_w])
            try first | rfl | assumption
          refine hK.out _ _ ⟨(by rw [ha.out]; exact putSel_upk 9 hb_ rfl rfl rfl), Q_HB, Q_HR3, Q_HS⟩
        refine steps_cons ?_ ?_
        · rintro b a w' ⟨ha, Q_HB, Q_HR3, Q_HS⟩ hb_ hon hoff
          refine ⟨_, rfl, fun K hK => ?_⟩
          have e40 : a.tmps[40]? = some (.bool true) := by rw [ha]; exact putSel_on (e := (9, 40, .bool true)) 9 rfl rfl (hon 9 (by kernel_rfl)) rfl
          replace ha := Aside0.mk ha
          have HB := Aside0.mk Q_HB
          have HR3 := Aside0.mk (Q_HR3 (hoff 31 (by kernel_rfl)))
          have HS := Aside0.mk (Q_HS (hoff 31 (by kernel_rfl)))
          refine value_ (w1 := w') (v := .bool true) (by rfl) rfl ?_ ?_
          · go_simp
            (try simp only [i64_w])
            try first | rfl | assumption
          refine hK.out _ _ ⟨(by rw [ha.out]; exact putSel_upk 10 hb_ rfl rfl rfl), Q_HB, Q_HR3, Q_HS⟩
        refine steps_cons ?_ ?_
        · rintro b a w' ⟨ha, Q_HB, Q_HR3, Q_HS⟩ hb_ hon hoff
          refine ⟨_, rfl, fun K hK => ?_⟩
          have e5 : a.tmps[5]? = some (.slice A5 n5 c5) := by rw [ha]; exact (putSel_off rfl).trans rfl
          have e41 : a.tmps[41]? = some (.bool true) := by rw [ha]; exact putSel_on (e := (10, 41, .bool true)) 10 rfl rfl (hon 10 (by kernel_rfl)) rfl
          replace ha := Aside0.mk ha
          have HB := Aside0.mk Q_HB
          have HR3 := Aside0.mk (Q_HR3 (hoff 31 (by kernel_rfl)))
          have HS := Aside0.mk (Q_HS (hoff 31 (by kernel_rfl)))
          refine value_ (w1 := w') (v := .slice A5 n5 c5) (wanted_on rfl rfl rfl (e41.trans (by first | rfl | (simp [*]; done)))) rfl ?_ ?_
          · go_simp
            (try simp only [i64_w])
            try first | rfl | assumption
          refine hK.out _ _ ⟨(by rw [ha.out]; exact putSel_upk 11 hb_ rfl rfl rfl), Q_HB, Q_HR3, Q_HS⟩
        refine steps_cons ?_ ?_
        · rintro b a w' ⟨ha, Q_HB, Q_HR3, Q_HS⟩ hb_ hon hoff
          refine ⟨_, rfl, fun K hK => ?_⟩
          have e42 : a.tmps[42]? = some (.slice A5 n5 c5) := by rw [ha]; exact putSel_on (e := (11, 42, .slice A5 n5 c5)) 11 rfl rfl (hon 11 (by kernel_rfl)) rfl
          have e41 : a.tmps[41]? = some (.bool true) := by rw [ha]; exact putSel_on (e := (10, 41, .bool true)) 10 rfl rfl (hon 10 (by kernel_rfl)) rfl
          replace ha := Aside0.mk ha
          have HB := Aside0.mk Q_HB
          have HR3 := Aside0.mk (Q_HR3 (hoff 31 (by kernel_rfl)))
          have HS := Aside0.mk (Q_HS (hoff 31 (by kernel_rfl)))
          refine value_ (w1 := w') (v := .int .i64 (n5 : Int)) (wanted_on rfl rfl rfl (e41.trans (by first | rfl | (simp [*]; done)))) rfl ?_ ?_
          · go_simp
            (try simp only [i64_w])
            try first | rfl | assumption
          refine hK.out _ _ ⟨(by rw [ha.out]; exact putSel_upk 12 hb_ rfl rfl rfl), Q_HB, Q_HR3, Q_HS⟩
        refine steps_cons ?_ ?_
        · rintro b a w' ⟨ha, Q_HB, Q_HR3, Q_HS⟩ hb_ hon hoff
          refine ⟨_, rfl, fun K hK => ?_⟩
          have e0 : a.tmps[0]? = some (.slice A0 n c0) := by rw [ha]; exact (putSel_off rfl).trans rfl
          have e41 : a.tmps[41]? = some (.bool true) := by rw [ha]; exact putSel_on (e := (10, 41, .bool true)) 10 rfl rfl (hon 10 (by kernel_rfl)) rfl
          replace ha := Aside0.mk ha
          have HB := Aside0.mk Q_HB
          have HR3 := Aside0.mk (Q_HR3 (hoff 31 (by kernel_rfl)))
          have HS := Aside0.mk (Q_HS (hoff 31 (by kernel_rfl)))
          refine value_ (w1 := w') (v := .slice A0 n c0) (wanted_on rfl rfl rfl (e41.trans (by first | rfl | (simp [*]; done)))) rfl ?_ ?_
          · go_simp
            (try simp only [i64_w])
            try first | rfl | assumption
          refine hK.out _ _ ⟨(by rw [ha.out]; exact putSel_upk 13 hb_ rfl rfl rfl), Q_HB, Q_HR3, Q_HS⟩
        refine steps_cons ?_ ?_
        · rintro b a w' ⟨ha, Q_HB, Q_HR3, Q_HS⟩ hb_ hon hoff
          refine ⟨_, rfl, fun K hK => ?_⟩
          have e44 : a.tmps[44]? = some (.slice A0 n c0) := by rw [ha]; exact putSel_on (e := (13, 44, .slice A0 n c0)) 13 rfl rfl (hon 13 (by kernel_rfl)) rfl
          have e41 : a.tmps[41]? = some (.bool true) := by rw [ha]; exact putSel_on (e := (10, 41, .bool true)) 10 rfl rfl (hon 10 (by kernel_rfl)) rfl
          replace ha := Aside0.mk ha
          have HB := Aside0.mk Q_HB
          have HR3 := Aside0.mk (Q_HR3 (hoff 31 (by kernel_rfl)))
          have HS := Aside0.mk (Q_HS (hoff 31 (by kernel_rfl)))
          refine value_ (w1 := w') (v := .int .i64 (n : Int)) (wanted_on rfl rfl rfl (e41.trans (by first | rfl | (simp [*]; done)))) rfl ?_ ?_
          · go_simp
            (try simp only [i64_w])
            try first | rfl | assumption
          refine hK.out _ _ ⟨(by rw [ha.out]; exact putSel_upk 14 hb_ rfl rfl rfl), Q_HB, Q_HR3, Q_HS⟩
        refine steps_cons ?_ ?_
        · rintro b a w' ⟨ha, Q_HB, Q_HR3, Q_HS⟩ hb_ hon hoff
          refine ⟨_, rfl, fun K hK => ?_⟩
          have e3 : a.tmps[3]? = some (.pointer (some ⟨g, 0, none⟩)) := by rw [ha]; exact (putSel_off rfl).trans rfl
          have e41 : a.tmps[41]? = some (.bool true) := by rw [ha]; exact putSel_on (e := (10, 41, .bool true)) 10 rfl rfl (hon 10 (by kernel_rfl)) rfl
          replace ha := Aside0.mk ha
          have HB := Aside0.mk Q_HB
          have HR3 := Aside0.mk (Q_HR3 (hoff 31 (by kernel_rfl)))
          have HS := Aside0.mk (Q_HS (hoff 31 (by kernel_rfl)))
          refine value_ (w1 := w') (v := .pointer (some ⟨g, 0, none⟩)) (wanted_on rfl rfl rfl (e41.trans (by first | rfl | (simp [*]; done)))) rfl ?_ ?_
          · go_simp
            (try simp only [i64_w])
            try first | rfl | assumption
          refine hK.out _ _ ⟨(by rw [ha.out]; exact putSel_upk 15 hb_ rfl rfl rfl), Q_HB, Q_HR3, Q_HS⟩
        refine steps_cons ?_ ?_
        · rintro b a w' ⟨ha, Q_HB, Q_HR3, Q_HS⟩ hb_ hon hoff
          refine ⟨_, rfl, fun K hK => ?_⟩
          have e46 : a.tmps[46]? = some (.pointer (some ⟨g, 0, none⟩)) := by rw [ha]; exact putSel_on (e := (15, 46, .pointer (some ⟨g, 0, none⟩))) 15 rfl rfl (hon 15 (by kernel_rfl)) rfl
          have e41 : a.tmps[41]? = some (.bool true) := by rw [ha]; exact putSel_on (e := (10, 41, .bool true)) 10 rfl rfl (hon 10 (by kernel_rfl)) rfl
          replace ha := Aside0.mk ha
          have HB := Aside0.mk Q_HB
          have HR3 := Aside0.mk (Q_HR3 (hoff 31 (by kernel_rfl)))
          have HS := Aside0.mk (Q_HS (hoff 31 (by kernel_rfl)))
          refine goes_ Try.func18 (by kernel_rfl) rfl #[.pointer (some ⟨g, 0, none⟩)] (wanted_on rfl rfl rfl (e41.trans (by first | rfl | (simp [*]; done)))) rfl rfl (by first | (simp only [List.map_toArray, List.map_cons, List.map_nil, Act.eval, Array.getD_eq_getD_getElem?, Option.getD_some, e46, e41]; done) | (simp only [List.map_toArray, List.map_cons, List.map_nil, Act.eval, Array.getD_eq_getD_getElem?, Option.getD_some, e46, e41]; rfl)) ?_
          with_reducible refine (rleft HR3.out).mono ?_
          rintro e w4 ⟨rfl, rfl⟩
          refine ⟨_, rfl, ?_⟩
          refine hK.out _ _ ⟨(by rw [ha.out]; exact putSel_upk 16 hb_ rfl rfl rfl), HB.out, fun _ => HR3.out, fun _ => HS.out⟩
        refine steps_cons ?_ ?_
        · rintro b a w' ⟨ha, Q_HB, Q_HR3, Q_HS⟩ hb_ hon hoff
          refine ⟨_, rfl, fun K hK => ?_⟩
          have e45 : a.tmps[45]? = some (.int .i64 (n : Int)) := by rw [ha]; exact putSel_on (e := (14, 45, .int .i64 (n : Int))) 14 rfl rfl (hon 14 (by kernel_rfl)) rfl
          have e47 : a.tmps[47]? = some (.int .i64 (rest.length : Int)) := by rw [ha]; exact putSel_on (e := (16, 47, .int .i64 (rest.length : Int))) 16 rfl rfl (hon 16 (by kernel_rfl)) rfl
          have e41 : a.tmps[41]? = some (.bool true) := by rw [ha]; exact putSel_on (e := (10, 41, .bool true)) 10 rfl rfl (hon 10 (by kernel_rfl)) rfl
          replace ha := Aside0.mk ha
          have HB := Aside0.mk Q_HB
          have HR3 := Aside0.mk (Q_HR3 (hoff 31 (by kernel_rfl)))
          have HS := Aside0.mk (Q_HS (hoff 31 (by kernel_rfl)))
          refine value_ (w1 := w') (v := .int .i64 (n5 : Int)) (wanted_on rfl rfl rfl (e41.trans (by first | rfl | (simp [*]; done)))) rfl ?_ ?_
          · go_simp
            (try simp only [i64_w])
            try first | rfl | assumption
          refine hK.out _ _ ⟨(by rw [ha.out]; exact putSel_upk 17 hb_ rfl rfl rfl), Q_HB, Q_HR3, Q_HS⟩
        refine steps_cons ?_ ?_
        · rintro b a w' ⟨ha, Q_HB, Q_HR3, Q_HS⟩ hb_ hon hoff
          refine ⟨_, rfl, fun K hK => ?_⟩
          have e43 : a.tmps[43]? = some (.int .i64 (n5 : Int)) := by rw [ha]; exact putSel_on (e := (12, 43, .int .i64 (n5 : Int))) 12 rfl rfl (hon 12 (by kernel_rfl)) rfl
          have e48 : a.tmps[48]? = some (.int .i64 (n5 : Int)) := by rw [ha]; exact putSel_on (e := (17, 48, .int .i64 (n5 : Int))) 17 rfl rfl (hon 17 (by kernel_rfl)) rfl
          have e41 : a.tmps[41]? = some (.bool true) := by rw [ha]; exact putSel_on (e := (10, 41, .bool true)) 10 rfl rfl (hon 10 (by kernel_rfl)) rfl
          replace ha := Aside0.mk ha
          have HB := Aside0.mk Q_HB
          have HR3 := Aside0.mk (Q_HR3 (hoff 31 (by kernel_rfl)))
          have HS := Aside0.mk (Q_HS (hoff 31 (by kernel_rfl)))
          refine value_ (w1 := w') (v := .bool true) (wanted_on rfl rfl rfl (e41.trans (by first | rfl | (simp [*]; done)))) rfl ?_ ?_
          · go_simp
            (try simp only [i64_w])
            try first | rfl | assumption
          refine hK.out _ _ ⟨(by rw [ha.out]; exact putSel_upk 18 hb_ rfl rfl rfl), Q_HB, Q_HR3, Q_HS⟩
        refine steps_cons ?_ ?_
        · rintro b a w' ⟨ha, Q_HB, Q_HR3, Q_HS⟩ hb_ hon hoff
          refine ⟨_, rfl, fun K hK => ?_⟩
          have e41 : a.tmps[41]? = some (.bool true) := by rw [ha]; exact putSel_on (e := (10, 41, .bool true)) 10 rfl rfl (hon 10 (by kernel_rfl)) rfl
          have e49 : a.tmps[49]? = some (.bool true) := by rw [ha]; exact putSel_on (e := (18, 49, .bool true)) 18 rfl rfl (hon 18 (by kernel_rfl)) rfl
          replace ha := Aside0.mk ha
          have HB := Aside0.mk Q_HB
          have HR3 := Aside0.mk (Q_HR3 (hoff 31 (by kernel_rfl)))
          have HS := Aside0.mk (Q_HS (hoff 31 (by kernel_rfl)))
          refine value_ (w1 := w') (v := .bool true) (by rfl) rfl ?_ ?_
          · go_simp
            (try simp only [i64_w])
            try first | rfl | assumption
          refine hK.out _ _ ⟨(by rw [ha.out]; exact putSel_upk 19 hb_ rfl rfl rfl), Q_HB, Q_HR3, Q_HS⟩
        refine steps_cons ?_ ?_
        · rintro b a w' ⟨ha, Q_HB, Q_HR3, Q_HS⟩ hb_ hon hoff
          refine ⟨_, rfl, fun K hK => ?_⟩
          have e50 : a.tmps[50]? = some (.bool true) := by rw [ha]; exact putSel_on (e := (19, 50, .bool true)) 19 rfl rfl (hon 19 (by kernel_rfl)) rfl
          replace ha := Aside0.mk ha
          have HB := Aside0.mk Q_HB
          have HR3 := Aside0.mk (Q_HR3 (hoff 31 (by kernel_rfl)))
          have HS := Aside0.mk (Q_HS (hoff 31 (by kernel_rfl)))
          refine value_ (w1 := w') (v := .bool true) (by rfl) rfl ?_ ?_
          · go_simp
            (try simp only [i64_w])
            try first | rfl | assumption
          refine hK.out _ _ ⟨(by rw [ha.out]; exact putSel_upk 20 hb_ rfl rfl rfl), Q_HB, Q_HR3, Q_HS⟩
        refine steps_cons ?_ ?_
        · rintro b a w' ⟨ha, Q_HB, Q_HR3, Q_HS⟩ hb_ hon hoff
          refine ⟨_, rfl, fun K hK => ?_⟩
          have e5 : a.tmps[5]? = some (.slice A5 n5 c5) := by rw [ha]; exact (putSel_off rfl).trans rfl
          have e51 : a.tmps[51]? = some (.bool true) := by rw [ha]; exact putSel_on (e := (20, 51, .bool true)) 20 rfl rfl (hon 20 (by kernel_rfl)) rfl
          replace ha := Aside0.mk ha
          have HB := Aside0.mk Q_HB
          have HR3 := Aside0.mk (Q_HR3 (hoff 31 (by kernel_rfl)))
          have HS := Aside0.mk (Q_HS (hoff 31 (by kernel_rfl)))
          refine value_ (w1 := w') (v := .slice A5 n5 c5) (wanted_on rfl rfl rfl (e51.trans (by first | rfl | (simp [*]; done)))) rfl ?_ ?_
          · go_simp
            (try simp only [i64_w])
            try first | rfl | assumption
          refine hK.out _ _ ⟨(by rw [ha.out]; exact putSel_upk 21 hb_ rfl rfl rfl), Q_HB, Q_HR3, Q_HS⟩
        refine steps_cons ?_ ?_
        · rintro b a w' ⟨ha, Q_HB, Q_HR3, Q_HS⟩ hb_ hon hoff
          refine ⟨_, rfl, fun K hK => ?_⟩
          have e52 : a.tmps[52]? = some (.slice A5 n5 c5) := by rw [ha]; exact putSel_on (e := (21, 52, .slice A5 n5 c5)) 21 rfl rfl (hon 21 (by kernel_rfl)) rfl
          have e51 : a.tmps[51]? = some (.bool true) := by rw [ha]; exact putSel_on (e := (20, 51, .bool true)) 20 rfl rfl (hon 20 (by kernel_rfl)) rfl
          replace ha := Aside0.mk ha
          have HB := Aside0.mk Q_HB
          have HR3 := Aside0.mk (Q_HR3 (hoff 31 (by kernel_rfl)))
          have HS := Aside0.mk (Q_HS (hoff 31 (by kernel_rfl)))
          have hs := string_of HS.out
          refine value_ (w1 := w') (v := .string (strOfNums (enc x))) (wanted_on rfl rfl rfl (e51.trans (by first | rfl | (simp [*]; done)))) rfl ?_ ?_
          · go_simp
            (try simp only [i64_w])
            try first | rfl | assumption
          refine hK.out _ _ ⟨(by rw [ha.out]; exact putSel_upk 22 hb_ rfl rfl rfl), Q_HB, Q_HR3, Q_HS⟩
        refine steps_cons ?_ ?_
        · rintro b a w' ⟨ha, Q_HB, Q_HR3, Q_HS⟩ hb_ hon hoff
          refine ⟨_, rfl, fun K hK => ?_⟩
          have e0 : a.tmps[0]? = some (.slice A0 n c0) := by rw [ha]; exact (putSel_off rfl).trans rfl
          have e51 : a.tmps[51]? = some (.bool true) := by rw [ha]; exact putSel_on (e := (20, 51, .bool true)) 20 rfl rfl (hon 20 (by kernel_rfl)) rfl
          replace ha := Aside0.mk ha
          have HB := Aside0.mk Q_HB
          have HR3 := Aside0.mk (Q_HR3 (hoff 31 (by kernel_rfl)))
          have HS := Aside0.mk (Q_HS (hoff 31 (by kernel_rfl)))
          refine value_ (w1 := w') (v := .slice A0 n c0) (wanted_on rfl rfl rfl (e51.trans (by first | rfl | (simp [*]; done)))) rfl ?_ ?_
          · go_simp
            (try simp only [i64_w])
            try first | rfl | assumption
          refine hK.out _ _ ⟨(by rw [ha.out]; exact putSel_upk 23 hb_ rfl rfl rfl), Q_HB, Q_HR3, Q_HS⟩
        refine steps_cons ?_ ?_
        · rintro b a w' ⟨ha, Q_HB, Q_HR3, Q_HS⟩ hb_ hon hoff
          refine ⟨_, rfl, fun K hK => ?_⟩
          have e5 : a.tmps[5]? = some (.slice A5 n5 c5) := by rw [ha]; exact (putSel_off rfl).trans rfl
          have e51 : a.tmps[51]? = some (.bool true) := by rw [ha]; exact putSel_on (e := (20, 51, .bool true)) 20 rfl rfl (hon 20 (by kernel_rfl)) rfl
          replace ha := Aside0.mk ha
          have HB := Aside0.mk Q_HB
          have HR3 := Aside0.mk (Q_HR3 (hoff 31 (by kernel_rfl)))
          have HS := Aside0.mk (Q_HS (hoff 31 (by kernel_rfl)))
          refine value_ (w1 := w') (v := .slice A5 n5 c5) (wanted_on rfl rfl rfl (e51.trans (by first | rfl | (simp [*]; done)))) rfl ?_ ?_
          · go_simp
            (try simp only [i64_w])
            try first | rfl | assumption
          refine hK.out _ _ ⟨(by rw [ha.out]; exact putSel_upk 24 hb_ rfl rfl rfl), Q_HB, Q_HR3, Q_HS⟩
        refine steps_cons ?_ ?_
        · rintro b a w' ⟨ha, Q_HB, Q_HR3, Q_HS⟩ hb_ hon hoff
          refine ⟨_, rfl, fun K hK => ?_⟩
          have e55 : a.tmps[55]? = some (.slice A5 n5 c5) := by rw [ha]; exact putSel_on (e := (24, 55, .slice A5 n5 c5)) 24 rfl rfl (hon 24 (by kernel_rfl)) rfl
          have e51 : a.tmps[51]? = some (.bool true) := by rw [ha]; exact putSel_on (e := (20, 51, .bool true)) 20 rfl rfl (hon 20 (by kernel_rfl)) rfl
          replace ha := Aside0.mk ha
          have HB := Aside0.mk Q_HB
          have HR3 := Aside0.mk (Q_HR3 (hoff 31 (by kernel_rfl)))
          have HS := Aside0.mk (Q_HS (hoff 31 (by kernel_rfl)))
          refine value_ (w1 := w') (v := .int .i64 (n5 : Int)) (wanted_on rfl rfl rfl (e51.trans (by first | rfl | (simp [*]; done)))) rfl ?_ ?_
          · go_simp
            (try simp only [i64_w])
            try first | rfl | assumption
          refine hK.out _ _ ⟨(by rw [ha.out]; exact putSel_upk 25 hb_ rfl rfl rfl), Q_HB, Q_HR3, Q_HS⟩
        refine steps_cons ?_ ?_
        · rintro b a w' ⟨ha, Q_HB, Q_HR3, Q_HS⟩ hb_ hon hoff
          refine ⟨_, rfl, fun K hK => ?_⟩
          have e54 : a.tmps[54]? = some (.slice A0 n c0) := by rw [ha]; exact putSel_on (e := (23, 54, .slice A0 n c0)) 23 rfl rfl (hon 23 (by kernel_rfl)) rfl
          have e56 : a.tmps[56]? = some (.int .i64 (n5 : Int)) := by rw [ha]; exact putSel_on (e := (25, 56, .int .i64 (n5 : Int))) 25 rfl rfl (hon 25 (by kernel_rfl)) rfl
          have e51 : a.tmps[51]? = some (.bool true) := by rw [ha]; exact putSel_on (e := (20, 51, .bool true)) 20 rfl rfl (hon 20 (by kernel_rfl)) rfl
          replace ha := Aside0.mk ha
          have HB := Aside0.mk Q_HB
          have HR3 := Aside0.mk (Q_HR3 (hoff 31 (by kernel_rfl)))
          have HS := Aside0.mk (Q_HS (hoff 31 (by kernel_rfl)))
          refine value_ (w1 := w') (v := .slice A0 n5 c0) (wanted_on rfl rfl rfl (e51.trans (by first | rfl | (simp [*]; done)))) rfl ?_ ?_
          · go_simp
            (try simp only [i64_w])
            try first | rfl | assumption
          refine hK.out _ _ ⟨(by rw [ha.out]; exact putSel_upk 26 hb_ rfl rfl rfl), Q_HB, Q_HR3, Q_HS⟩
        refine steps_cons ?_ ?_
        · rintro b a w' ⟨ha, Q_HB, Q_HR3, Q_HS⟩ hb_ hon hoff
          refine ⟨_, rfl, fun K hK => ?_⟩
          have e57 : a.tmps[57]? = some (.slice A0 n5 c0) := by rw [ha]; exact putSel_on (e := (26, 57, .slice A0 n5 c0)) 26 rfl rfl (hon 26 (by kernel_rfl)) rfl
          have e51 : a.tmps[51]? = some (.bool true) := by rw [ha]; exact putSel_on (e := (20, 51, .bool true)) 20 rfl rfl (hon 20 (by kernel_rfl)) rfl
          replace ha := Aside0.mk ha
          have HB := Aside0.mk Q_HB
          have HR3 := Aside0.mk (Q_HR3 (hoff 31 (by kernel_rfl)))
          have HS := Aside0.mk (Q_HS (hoff 31 (by kernel_rfl)))
          have hs := string_of (sl_take (Hs.out.below HB.out) (m := n5) (by omega))
          rw [HT.out] at hs
          refine value_ (w1 := w') (v := .string (strOfNums (enc x))) (wanted_on rfl rfl rfl (e51.trans (by first | rfl | (simp [*]; done)))) rfl ?_ ?_
          · go_simp
            (try simp only [i64_w])
            try first | rfl | assumption
          refine hK.out _ _ ⟨(by rw [ha.out]; exact putSel_upk 27 hb_ rfl rfl rfl), Q_HB, Q_HR3, Q_HS⟩
        refine steps_cons ?_ ?_
        · rintro b a w' ⟨ha, Q_HB, Q_HR3, Q_HS⟩ hb_ hon hoff
          refine ⟨_, rfl, fun K hK => ?_⟩
          have e53 : a.tmps[53]? = some (.string (strOfNums (enc x))) := by rw [ha]; exact putSel_on (e := (22, 53, .string (strOfNums (enc x)))) 22 rfl rfl (hon 22 (by kernel_rfl)) rfl
          have e58 : a.tmps[58]? = some (.string (strOfNums (enc x))) := by rw [ha]; exact putSel_on (e := (27, 58, .string (strOfNums (enc x)))) 27 rfl rfl (hon 27 (by kernel_rfl)) rfl
          have e51 : a.tmps[51]? = some (.bool true) := by rw [ha]; exact putSel_on (e := (20, 51, .bool true)) 20 rfl rfl (hon 20 (by kernel_rfl)) rfl
          replace ha := Aside0.mk ha
          have HB := Aside0.mk Q_HB
          have HR3 := Aside0.mk (Q_HR3 (hoff 31 (by kernel_rfl)))
          have HS := Aside0.mk (Q_HS (hoff 31 (by kernel_rfl)))
          refine value_ (w1 := w') (v := .bool true) (wanted_on rfl rfl rfl (e51.trans (by first | rfl | (simp [*]; done)))) rfl ?_ ?_
          · go_simp
            (try simp only [i64_w])
            try first | rfl | assumption
          refine hK.out _ _ ⟨(by rw [ha.out]; exact putSel_upk 28 hb_ rfl rfl rfl), Q_HB, Q_HR3, Q_HS⟩
        refine steps_cons ?_ ?_
        · rintro b a w' ⟨ha, Q_HB, Q_HR3, Q_HS⟩ hb_ hon hoff
          refine ⟨_, rfl, fun K hK => ?_⟩
          have e51 : a.tmps[51]? = some (.bool true) := by rw [ha]; exact putSel_on (e := (20, 51, .bool true)) 20 rfl rfl (hon 20 (by kernel_rfl)) rfl
          have e59 : a.tmps[59]? = some (.bool true) := by rw [ha]; exact putSel_on (e := (28, 59, .bool true)) 28 rfl rfl (hon 28 (by kernel_rfl)) rfl
          replace ha := Aside0.mk ha
          have HB := Aside0.mk Q_HB
          have HR3 := Aside0.mk (Q_HR3 (hoff 31 (by kernel_rfl)))
          have HS := Aside0.mk (Q_HS (hoff 31 (by kernel_rfl)))
          refine value_ (w1 := w') (v := .bool true) (by rfl) rfl ?_ ?_
          · go_simp
            (try simp only [i64_w])
            try first | rfl | assumption
          refine hK.out _ _ ⟨(by rw [ha.out]; exact putSel_upk 29 hb_ rfl rfl rfl), Q_HB, Q_HR3, Q_HS⟩
        refine steps_cons ?_ ?_
        · rintro b a w' ⟨ha, Q_HB, Q_HR3, Q_HS⟩ hb_ hon hoff
          refine ⟨_, rfl, fun K hK => ?_⟩
          have e60 : a.tmps[60]? = some (.bool true) := by rw [ha]; exact putSel_on (e := (29, 60, .bool true)) 29 rfl rfl (hon 29 (by kernel_rfl)) rfl
          replace ha := Aside0.mk ha
          have HB := Aside0.mk Q_HB
          have HR3 := Aside0.mk (Q_HR3 (hoff 31 (by kernel_rfl)))
          have HS := Aside0.mk (Q_HS (hoff 31 (by kernel_rfl)))
          refine value_ (w1 := w') (v := .bool true) (by rfl) rfl ?_ ?_
          · go_simp
            (try simp only [i64_w])
            try first | rfl | assumption
          refine hK.out _ _ ⟨(by rw [ha.out]; exact putSel_upk 30 hb_ rfl rfl rfl), Q_HB, Q_HR3, Q_HS⟩
        refine steps_cons ?_ ?_
        · rintro b a w' ⟨ha, Q_HB, Q_HR3, Q_HS⟩ hb_ hon hoff
          refine ⟨_, rfl, fun K hK => ?_⟩
          have e61 : a.tmps[61]? = some (.bool true) := by rw [ha]; exact putSel_on (e := (30, 61, .bool true)) 30 rfl rfl (hon 30 (by kernel_rfl)) rfl
          replace ha := Aside0.mk ha
          have HB := Aside0.mk Q_HB
          have HR3 := Aside0.mk (Q_HR3 hb_)
          have HS := Aside0.mk (Q_HS hb_)
          refine goes_ Try.func12 (by kernel_rfl) rfl #[] (wanted_on rfl rfl rfl (e61.trans (by first | rfl | (simp [*]; done)))) rfl rfl (by first | (simp only [List.map_toArray, List.map_cons, List.map_nil, Act.eval, Array.getD_eq_getD_getElem?, Option.getD_some, e61]; done) | (simp only [List.map_toArray, List.map_cons, List.map_nil, Act.eval, Array.getD_eq_getD_getElem?, Option.getD_some, e61]; rfl)) ?_
          with_reducible refine (HW.out _).mono ?_
          rintro e w4 ⟨rfl, hb⟩
          refine ⟨_, rfl, ?_⟩
          refine hK.out _ _ ⟨(by rw [ha.out]; exact putSel_upk 31 hb_ rfl rfl rfl), HB.out.trans (hb.mono HB.out.size), fun h0_ => absurd ((up_self b 31).symm.trans h0_) (by decide), fun h0_ => absurd ((up_self b 31).symm.trans h0_) (by decide)⟩
        refine steps_cons ?_ ?_
        · rintro b a w' ⟨ha, Q_HB, Q_HR3, Q_HS⟩ hb_ hon hoff
          refine ⟨_, rfl, fun K hK => ?_⟩
          have e61 : a.tmps[61]? = some (.bool true) := by rw [ha]; exact putSel_on (e := (30, 61, .bool true)) 30 rfl rfl (hon 30 (by kernel_rfl)) rfl
          have e62 : a.tmps[62]? = some (.bool true) := by rw [ha]; exact putSel_on (e := (31, 62, .bool true)) 31 rfl rfl (hon 31 (by kernel_rfl)) rfl
          replace ha := Aside0.mk ha
          have HB := Aside0.mk Q_HB
          refine value_ (w1 := w') (v := .bool true) (by rfl) rfl ?_ ?_
          · go_simp
            (try simp only [i64_w])
            try first | rfl | assumption
          refine hK.out _ _ ⟨(by rw [ha.out]; exact putSel_upk 32 hb_ rfl rfl rfl), Q_HB, fun h0_ => absurd ((hon 31 (by kernel_rfl)).symm.trans h0_) (by decide), fun h0_ => absurd ((hon 31 (by kernel_rfl)).symm.trans h0_) (by decide)⟩
        refine steps_cons ?_ ?_
        · rintro b a w' ⟨ha, Q_HB, Q_HR3, Q_HS⟩ hb_ hon hoff
          refine ⟨_, rfl, fun K hK => ?_⟩
          have e63 : a.tmps[63]? = some (.bool true) := by rw [ha]; exact putSel_on (e := (32, 63, .bool true)) 32 rfl rfl (hon 32 (by kernel_rfl)) rfl
          replace ha := Aside0.mk ha
          have HB := Aside0.mk Q_HB
          refine value_ (w1 := w') (v := .bool true) (by rfl) rfl ?_ ?_
          · go_simp
            (try simp only [i64_w])
            try first | rfl | assumption
          refine hK.out _ _ ⟨(by rw [ha.out]; exact putSel_upk 33 hb_ rfl rfl rfl), Q_HB, fun h0_ => absurd ((hon 31 (by kernel_rfl)).symm.trans h0_) (by decide), fun h0_ => absurd ((hon 31 (by kernel_rfl)).symm.trans h0_) (by decide)⟩
        exact steps_nil
      rintro b a w4 hall ⟨ha, Q_HB, Q_HR3, Q_HS⟩
      clear HB HR3 HS
      have hb0_ := hall 0 (by kernel_rfl)
      have hb1_ := hall 1 (by kernel_rfl)
      have hb2_ := hall 2 (by kernel_rfl)
      have hb3_ := hall 3 (by kernel_rfl)
      have hb4_ := hall 4 (by kernel_rfl)
      have hb5_ := hall 5 (by kernel_rfl)
      have hb6_ := hall 6 (by kernel_rfl)
      have hb7_ := hall 7 (by kernel_rfl)
      have hb8_ := hall 8 (by kernel_rfl)
      have hb9_ := hall 9 (by kernel_rfl)
      have hb10_ := hall 10 (by kernel_rfl)
      have hb11_ := hall 11 (by kernel_rfl)
      have hb12_ := hall 12 (by kernel_rfl)
      have hb13_ := hall 13 (by kernel_rfl)
      have hb14_ := hall 14 (by kernel_rfl)
      have hb15_ := hall 15 (by kernel_rfl)
      have hb16_ := hall 16 (by kernel_rfl)
      have hb17_ := hall 17 (by kernel_rfl)
      have hb18_ := hall 18 (by kernel_rfl)
      have hb19_ := hall 19 (by kernel_rfl)
      have hb20_ := hall 20 (by kernel_rfl)
      have hb21_ := hall 21 (by kernel_rfl)
      have hb22_ := hall 22 (by kernel_rfl)
      have hb23_ := hall 23 (by kernel_rfl)
      have hb24_ := hall 24 (by kernel_rfl)
      have hb25_ := hall 25 (by kernel_rfl)
      have hb26_ := hall 26 (by kernel_rfl)
      have hb27_ := hall 27 (by kernel_rfl)
      have hb28_ := hall 28 (by kernel_rfl)
      have hb29_ := hall 29 (by kernel_rfl)
      have hb30_ := hall 30 (by kernel_rfl)
      have hb31_ := hall 31 (by kernel_rfl)
      have hb32_ := hall 32 (by kernel_rfl)
      have hb33_ := hall 33 (by kernel_rfl)
      subst ha
      simp only [putSel, hb0_, hb1_, hb2_, hb3_, hb4_, hb5_, hb6_, hb7_, hb8_, hb9_, hb10_, hb11_, hb12_, hb13_, hb14_, hb15_, hb16_, hb17_, hb18_, hb19_, hb20_, hb21_, hb22_, hb23_, hb24_, hb25_, hb26_, hb27_, hb28_, hb29_, hb30_, hb31_, hb32_, hb33_, if_true, Act.put, List.setIfInBounds_toArray, List.set_cons_zero, List.set_cons_succ]
      have HB := Aside0.mk Q_HB
      clear Q_HB
      clear Q_HR3
      clear Q_HS
      clear hall hb0_ hb1_ hb2_ hb3_ hb4_ hb5_ hb6_ hb7_ hb8_ hb9_ hb10_ hb11_ hb12_ hb13_ hb14_ hb15_ hb16_ hb17_ hb18_ hb19_ hb20_ hb21_ hb22_ hb23_ hb24_ hb25_ hb26_ hb27_ hb28_ hb29_ hb30_ hb31_ hb32_ hb33_
      go_wp2_with fail
      go_ret
      exact ⟨rfl, HB.out⟩
end Go.Proofs.Ytfhngdknhpjhaaa.PkO
