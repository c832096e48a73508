-- The used parts of 1 texts, laid together by merge.py.
import Derived.Test.YtjljgcceapkdcaaZQ19
import Derived.Test.YtjljgcceapkdcaaZQ17
section
namespace Go.Proofs.Ytjljgcceapkdcaa.SfZ
open Go.RowKit Go.Proofs.YtjljgcceapkdcaaW.PrintWords Go.Proofs.YtjljgcceapkdcaaW.PrintLast Go.Proofs.YtjljgcceapkdcaaW.PrintMore Go.Proofs.Ytjljgcceapkdcaa.PkP Go.Proofs.Ytjljgcceapkdcaa.PkQ Go.Proofs.Ytjljgcceapkdcaa.PkH Go.Proofs.Ytjljgcceapkdcaa.PkC Go.Proofs.Ytjljgcceapkdcaa.RkA Go.Proofs.Ytjljgcceapkdcaa.RkB Go.Proofs.Ytjljgcceapkdcaa.RkC Go.Proofs.Ytjljgcceapkdcaa.RkL Go.Proofs.Ytjljgcceapkdcaa.RkU Go.Proofs.Ytjljgcceapkdcaa.SfA Go.Proofs.Ytjljgcceapkdcaa.SfB Go.Proofs.Ytjljgcceapkdcaa.SfC Go.Proofs.Ytjljgcceapkdcaa.SfE Go.Proofs.Ytjljgcceapkdcaa.SfH Go.Proofs.Ytjljgcceapkdcaa.SfI Go.Proofs.Ytjljgcceapkdcaa.SfJ Go.Proofs.Ytjljgcceapkdcaa.SfT Go.Proofs.Ytjljgcceapkdcaa.RfC Go.Proofs.Ytjljgcceapkdcaa.RfD Go.Proofs.Ytjljgcceapkdcaa.Rw
set_option linter.unusedVariables false
set_option linter.unusedSimpArgs false
def t_mailsacklaw14_SafeForms.T5 : Bool × List (List Nat × List Nat) := (true, [([], []), ([0], [0]), ([1], [1]), ([], []), ([3, 1], [3]), ([4], [4]), ([2, 5], [2, 5]), ([6, 4], [6]), ([7], [7]), ([7], [7]), ([8, 9, 7, 7], [7, 8, 9]), ([7, 10], [7, 10]), ([11, 10], [11]), ([12], [12]), ([12], [12]), ([13, 14, 12], [12, 13, 14]), ([12, 15], [12, 15]), ([16, 12], [16]), ([17, 17], [17]), ([17, 18], [17, 18]), ([19, 18, 0, 1, 2, 3, 4, 5, 6, 7, 8, 9, 10, 11, 12, 13, 14, 15, 16, 17, 18, 19], [19])])
def t_mailsacklaw14_SafeForms.B5 : List Nat := [0, 1, 3, 0, 11, 27, 63, 127, 255, 255, 1023, 2047, 4095, 8191, 8191, 32767, 65535, 131071, 262143, 524287, 1048575]
theorem t_mailsacklaw14_SafeForms.tab5 : rtab .any (opsOf Try.f8 5) = t_mailsacklaw14_SafeForms.T5 := by kernel_rfl
theorem t_mailsacklaw14_SafeForms.bits5 : waitsOk t_mailsacklaw14_SafeForms.T5.2 t_mailsacklaw14_SafeForms.B5 = true := by kernel_rfl
theorem bytesAt {w W : World} {A : Option Addr} {n c : Nat} {ls : List WR} (h : Kd.C kW w A n ls ∧ n ≤ c) (hd : ∀ x ∈ ls, DW w x) (hn : ls.length = n) (hl : (chsE ls).length ≤ 100000000) (hb : Below w.heap.size w W) : Calls Try.prog 43 #[.slice A n c] W (BytesP W (chsE ls)) := by
  subst hn
  exact bytes_calls A c ls W (Kd.C_below h.1 hb) h.2 (fun x hx => (hd x hx).below hb) (by omega)
theorem rbytesAt {w W : World} {A : Option Addr} {n c : Nat} {ls : List WR} (h : Kd.C kW w A n ls ∧ n ≤ c) (hd : ∀ x ∈ ls, DW w x) (hn : ls.length = n) (hl : (chsE ls).length ≤ 100000000) (hb : Below w.heap.size w W) : Calls Try.prog 44 #[.slice A n c] W (BytesP W (chsE ls)) := by
  subst hn
  exact rbytes_calls A c ls W (Kd.C_below h.1 hb) h.2 (fun x hx => (hd x hx).below hb) (by omega)
theorem sameAt {w W : World} {S : Nat → Prop} {A1 A2 : Option Addr} {n1 n2 c1 c2 : Nat} {xs ys : List WR} (h1 : ChgAt w S A1 n1 xs) (h2 : ChgAt w S A2 n2 ys) (hs : sameC xs ys = true) (hb : Below w.heap.size w W) : Calls Try.prog 45 #[.slice A1 n1 c1, .slice A2 n2 c2] W (BoolP W true) := by
  rw [← hs]
  exact same_calls A1 n1 c1 xs A2 n2 c2 ys W (Kd.C_below h1.C hb) (Kd.C_below h2.C hb) (fun x hx => (h1.ds x hx).dw.below hb) (fun x hx => (h2.ds x hx).dw.below hb)
set_option maxRecDepth 100000 in
set_option maxHeartbeats 8000000 in
theorem safeForms_calls (c1 : Nat) (l1 : List ChT) (A1 : Option Addr) (c2 : Nat) (bs : List Int) (A2 : Option Addr) (w : World) (ha1 : ArgOk l1) (hc1 : l1.length ≤ c1) (hC1 : Kd.C chD w A1 l1.length l1) (hc2 : bs.length ≤ c2) (hC2 : Kd.C (Kd.int .u8) w A2 bs.length bs) (hby : PkH.Bytes bs) :
    Calls Try.prog 8 #[.slice A1 l1.length c1, .slice A2 bs.length c2] w fun e w' => e = .returned (.bool true) ∧ Below w.heap.size w w' := by
  obtain ⟨r1, hr1, hr2, hr3, hh1⟩ := heavy14_calls l1 ha1
  obtain ⟨lsl, hCl, hDl, hKl⟩ := chg_open hC1 (fun x hx => (ha1.2 x hx).2.2)
  have HH1 := Aside0.mk (hh1 w A1 c1 hC1 hc1)
  have HZ1 := Aside0.mk (fun h => chs_len hKl (hr3 h).1 (hr3 h).2)
  have HCl := Aside0.mk (And.intro hCl hc1)
  have HDl := Aside0.mk hDl
  have HC2 := Aside0.mk (And.intro hC2 (And.intro hc2 hby))
  have hb9 : (bs.length : Int) ≤ 9223372036854775807 := by have := hC2.2.1; omega
  obtain ⟨n1, hn1⟩ : ∃ n1, l1.length = n1 := ⟨_, rfl⟩
  obtain ⟨n2, hn2⟩ : ∃ n2, bs.length = n2 := ⟨_, rfl⟩
  rw [hn1] at HH1 HCl HZ1 ⊢
  have HN1 := Aside0.mk (show lsl.length = n1 from HCl.out.1.1)
  have HN2 := Aside0.mk hn2
  rw [hn2] at hb9 ⊢
  clear ha1 hc1 hC1 hc2 hC2 hby hh1 hCl hDl hKl hr3 hn1 hn2
  go_enter Try.func8, Try.ntmps8
  by_cases hg : 0 < r1
  · have hd : decide (0 < r1) = true := decide_eq_true hg
    clear hg
    go_wp2_with (first
      | (go_at_call 39; have HHx := HH1.out; refine HHx.mono ?_; rintro e_ w1 ⟨rfl, hb⟩; have HB1 := Aside0.mk hb; clear hb HH1 HHx; skip)
      | (go_at_call 40; refine (awake_calls _).mono ?_; rintro e_ wa ⟨rfl, hb⟩; have HBa := Aside0.mk (HB1.out.trans (hb.mono HB1.out.size)); clear hb; skip))
    go_ret
    exact ⟨rfl, HBa.out⟩
  have hd : decide (0 < r1) = false := decide_eq_false hg
  by_cases hg2 : 3000 < n2
  · have hd2 : decide ((3000 : Int) < (n2 : Int)) = true := decide_eq_true (by omega)
    clear hg hg2
    go_wp2_with (first
      | (go_at_call 39; have HHx := HH1.out; refine HHx.mono ?_; rintro e_ w1 ⟨rfl, hb⟩; have HB1 := Aside0.mk hb; clear hb HH1 HHx; skip)
      | (go_at_call 40; refine (awake_calls _).mono ?_; rintro e_ wa ⟨rfl, hb⟩; have HBa := Aside0.mk (HB1.out.trans (hb.mono HB1.out.size)); clear hb; skip))
    go_ret
    exact ⟨rfl, HBa.out⟩
  have hd2 : decide ((3000 : Int) < (n2 : Int)) = false := decide_eq_false (by omega)
  have HL1 := Aside0.mk (HZ1.out (by omega))
  have HL2 := Aside0.mk (show n2 ≤ 3000 by omega)
  clear HZ1 hg hg2 hr1 hr2
  obtain ⟨E, hE⟩ : ∃ E, parseF bs = E := ⟨_, rfl⟩
  obtain ⟨EL, EE⟩ := E
  have HP1 := Aside0.mk (fun (W : World) (hb : Below w.heap.size w W) => show Calls Try.prog 41 #[.slice A2 n2 c2] W (ParseP W (EL, EE)) from by
    have h := parse_calls A2 c2 bs W (Kd.C_below HC2.out.1 hb) HC2.out.2.1 HC2.out.2.2 (by have := HN2.out; have := HL2.out; omega)
    rw [hE, HN2.out] at h
    exact h)
  have HP2 := Aside0.mk (fun (W : World) (hb : Below w.heap.size w W) => show Calls Try.prog 42 #[.slice A2 n2 c2] W (ParseP W (EL, EE)) from by
    have h := rparse_calls A2 c2 bs W (Kd.C_below HC2.out.1 hb) HC2.out.2.1 HC2.out.2.2 (by have := HN2.out; have := HL2.out; omega)
    rw [hE, HN2.out] at h
    exact h)
  clear hE
  go_upto_region 5 with (first
    | (go_at_call 39; have HHx := HH1.out; refine HHx.mono ?_; rintro e_ w1 ⟨rfl, hb⟩; have HB1 := Aside0.mk hb; clear hb HH1 HHx; skip)
    | (go_at_call 41; refine (HP1.out w1 HB1.out).mono ?_; rintro e_ w2 ⟨Ax, nx, cx, lx, rfl, hkx, hnx, hcx, hchx, hbx⟩; have HKx := Aside0.mk hkx; have HCx := Aside0.mk (hchx (fun _ => False) (fun _ h => h.elim)); have HBx := Aside0.mk (HB1.out.trans (hbx.mono HB1.out.size)); clear hkx hnx hcx hchx hbx HP1; skip)
    | (go_at_call 42; refine (HP2.out w2 HBx.out).mono ?_; rintro e_ w3 ⟨Ay, ny, cy, ly, rfl, hky, hny, hcy, hchy, hby⟩; have HKy := Aside0.mk hky; have HCy := Aside0.mk (hchy (fun _ => False) (fun _ h => h.elim)); have HCx3 := Aside0.mk (HCx.out.below hby); have HB3 := Aside0.mk (HBx.out.trans (hby.mono HBx.out.size)); clear hky hny hcy hchy hby HP2; skip))
  have HS := Aside0.mk (show sameC lx ly = true by unfold sameC; rw [HKx.out, HKy.out]; exact decide_eq_true rfl)
  have HB : Aside0 (Below w3.heap.size w3 w3) := ⟨Below.refl _ _⟩
  clear HB1 HBx HCx hd hd2
  obtain ⟨ST, hST⟩ : ∃ ST, strOfNums (chsE lsl) = ST := ⟨_, rfl⟩
  have HST := Aside0.mk hST
  clear hST
  refine start_ (n := 21) (S := fun w' => True) (ds := []) #[false, false, false, false, false, false, false, false, false, false, false, false, false, false, false, false, false, false, false, false, false] (by kernel_rfl) rfl rfl trivial (fun hHeld => ?_)
  refine with_tabW t_mailsacklaw14_SafeForms.tab5 t_mailsacklaw14_SafeForms.bits5 (fun HT_ HW_ => ?_)
  have hd_ := (below_drew1 (Below.refl w3.heap.size w3))
  have n_HB := Aside0.mk (HB.out.trans (hd_.mono HB.out.size))
  clear HB
  have HB := n_HB
  clear n_HB
  generalize w3.drew = w_d at *
  clear hd_
  refine inv_at [0, 1, 2, 3, 4, 5, 6, 7, 8, 9, 10, 11, 12, 13, 14, 15, 16, 17, 18, 19, 20] (fun a0_ b a w' => ∃ (A29 : Option Addr) (n29 : Nat) (c29 : Nat) (A32 : Option Addr) (n32 : Nat) (c32 : Nat) (m1_ : Value) (m4_ : Value), a = putSel a0_ b [(0, 28, .slice A1 n1 c1), (1, 29, m1_), (2, 30, .string ST), (3, 31, .slice A1 n1 c1), (4, 32, m4_), (5, 33, .string ST), (6, 34, .bool true), (7, 35, .bool true), (8, 36, .slice Ax nx cx), (9, 37, .slice Ay ny cy), (10, 38, .bool true), (11, 39, .bool true), (12, 40, .bool true), (13, 41, .int .i64 EE), (14, 42, .int .i64 EE), (15, 43, .bool true), (16, 44, .bool true), (17, 45, .bool true), (18, 46, .bool true), (19, 47, .bool true), (20, 4, .bool true)] ∧ (Below w3.heap.size w3 w') ∧ (b 1 = true → Sl w' A29 n29 c29 (chsE lsl)) ∧ (b 4 = true → Sl w' A32 n32 c32 (chsE lsl)) ∧ (b 1 = true → (m1_ : Value) = .slice A29 n29 c29) ∧ (b 4 = true → (m4_ : Value) = .slice A32 n32 c32)) HT_.out HW_.out (by kernel_rfl) (by kernel_rfl) ?_ ?_ ?_
  · exact ⟨none, 0, 0, none, 0, 0, .bool false, .bool false, by simp only [putSel, Bool.false_eq_true, if_false], HB.out, fun h_ => absurd h_ (by decide), fun h_ => absurd h_ (by decide), fun h_ => absurd h_ (by decide), fun h_ => absurd h_ (by decide)⟩
  · skip
    clear HB
    refine steps_cons ?_ ?_
    · rintro b a w' ⟨A29, n29, c29, A32, n32, c32, m1_, m4_, ha, Q_HB, Q_S29, Q_S32, Q_X1_, Q_X4_⟩ hb_ hon hoff
      refine ⟨_, rfl, fun K hK => ?_⟩
      have e0 : a.tmps[0]? = some (.slice A1 n1 c1) := by rw [ha]; exact (putSel_off rfl).trans rfl
      replace ha := Aside0.mk ha
      refine value_ (w1 := w') (v := .slice A1 n1 c1) (by rfl) rfl ?_ ?_
      · go_simp
        try first | rfl | assumption
      refine hK.out _ _ ⟨A29, n29, c29, A32, n32, c32, m1_, m4_, (by rw [ha.out]; exact putSel_upk 0 hb_ rfl rfl rfl), Q_HB, fun h0_ => absurd ((hoff 1 (by kernel_rfl)).symm.trans h0_) (by decide), fun h0_ => absurd ((hoff 4 (by kernel_rfl)).symm.trans h0_) (by decide), fun h0_ => absurd ((hoff 1 (by kernel_rfl)).symm.trans h0_) (by decide), fun h0_ => absurd ((hoff 4 (by kernel_rfl)).symm.trans h0_) (by decide)⟩
    refine steps_cons ?_ ?_
    · rintro b a w' ⟨A29, n29, c29, A32, n32, c32, m1_, m4_, ha, Q_HB, Q_S29, Q_S32, Q_X1_, Q_X4_⟩ hb_ hon hoff
      refine ⟨_, rfl, fun K hK => ?_⟩
      have e28 : a.tmps[28]? = some (.slice A1 n1 c1) := by rw [ha]; exact putSel_on (e := (0, 28, .slice A1 n1 c1)) 0 rfl rfl (hon 0 (by kernel_rfl)) rfl
      replace ha := Aside0.mk ha
      have HB := Aside0.mk Q_HB
      refine goes_ Try.func43 (by kernel_rfl) rfl #[.slice A1 n1 c1] (by rfl) rfl rfl (by first | (simp only [List.map_toArray, List.map_cons, List.map_nil, Act.eval, Array.getD_eq_getD_getElem?, Option.getD_some, e28]; done) | (simp only [List.map_toArray, List.map_cons, List.map_nil, Act.eval, Array.getD_eq_getD_getElem?, Option.getD_some, e28]; rfl)) ?_
      with_reducible refine (bytesAt HCl.out HDl.out HN1.out HL1.out.1 (HB3.out.trans (HB.out.mono HB3.out.size))).mono ?_
      rintro e wq ⟨Aq, nq, cq, rfl, ho, hb⟩
      refine ⟨_, rfl, ?_⟩
      refine hK.out _ _ ⟨Aq, nq, cq, A32, n32, c32, (.slice Aq nq cq), m4_, (by rw [ha.out]; exact putSel_upk 1 hb_ rfl rfl rfl), HB.out.trans (hb.mono HB.out.size), fun _ => ho.sl, fun h0_ => absurd ((hoff 4 (by kernel_rfl)).symm.trans h0_) (by decide), fun _ => rfl, fun h0_ => absurd ((hoff 4 (by kernel_rfl)).symm.trans h0_) (by decide)⟩
    refine steps_cons ?_ ?_
    · rintro b a w' ⟨A29, n29, c29, A32, n32, c32, m1_, m4_, ha, Q_HB, Q_S29, Q_S32, Q_X1_, Q_X4_⟩ hb_ hon hoff
      refine ⟨_, rfl, fun K hK => ?_⟩
      have e29 : a.tmps[29]? = some (m1_) := by rw [ha]; exact putSel_on (e := (1, 29, m1_)) 1 rfl rfl (hon 1 (by kernel_rfl)) rfl
      rw [Q_X1_ (hon 1 (by kernel_rfl))] at e29
      replace ha := Aside0.mk ha
      have S29 := Aside0.mk (Q_S29 (hon 1 (by kernel_rfl)))
      have hs := (string_of S29.out).trans (by rw [HST.out])
      refine value_ (w1 := w') (v := .string ST) (by rfl) rfl ?_ ?_
      · go_simp
        try first | rfl | assumption
      refine hK.out _ _ ⟨A29, n29, c29, A32, n32, c32, m1_, m4_, (by rw [ha.out]; exact putSel_upk 2 hb_ rfl rfl rfl), Q_HB, Q_S29, Q_S32, Q_X1_, Q_X4_⟩
    refine steps_cons ?_ ?_
    · rintro b a w' ⟨A29, n29, c29, A32, n32, c32, m1_, m4_, ha, Q_HB, Q_S29, Q_S32, Q_X1_, Q_X4_⟩ hb_ hon hoff
      refine ⟨_, rfl, fun K hK => ?_⟩
      have e0 : a.tmps[0]? = some (.slice A1 n1 c1) := by rw [ha]; exact (putSel_off rfl).trans rfl
      replace ha := Aside0.mk ha
      refine value_ (w1 := w') (v := .slice A1 n1 c1) (by rfl) rfl ?_ ?_
      · go_simp
        try first | rfl | assumption
      refine hK.out _ _ ⟨A29, n29, c29, A32, n32, c32, m1_, m4_, (by rw [ha.out]; exact putSel_upk 3 hb_ rfl rfl rfl), Q_HB, Q_S29, fun h0_ => absurd ((hoff 4 (by kernel_rfl)).symm.trans h0_) (by decide), Q_X1_, fun h0_ => absurd ((hoff 4 (by kernel_rfl)).symm.trans h0_) (by decide)⟩
    refine steps_cons ?_ ?_
    · rintro b a w' ⟨A29, n29, c29, A32, n32, c32, m1_, m4_, ha, Q_HB, Q_S29, Q_S32, Q_X1_, Q_X4_⟩ hb_ hon hoff
      refine ⟨_, rfl, fun K hK => ?_⟩
      have e31 : a.tmps[31]? = some (.slice A1 n1 c1) := by rw [ha]; exact putSel_on (e := (3, 31, .slice A1 n1 c1)) 3 rfl rfl (hon 3 (by kernel_rfl)) rfl
      replace ha := Aside0.mk ha
      have HB := Aside0.mk Q_HB
      have S29 := Aside0.mk (Q_S29 (hon 1 (by kernel_rfl)))
      refine goes_ Try.func44 (by kernel_rfl) rfl #[.slice A1 n1 c1] (by rfl) rfl rfl (by first | (simp only [List.map_toArray, List.map_cons, List.map_nil, Act.eval, Array.getD_eq_getD_getElem?, Option.getD_some, e31]; done) | (simp only [List.map_toArray, List.map_cons, List.map_nil, Act.eval, Array.getD_eq_getD_getElem?, Option.getD_some, e31]; rfl)) ?_
      with_reducible refine (rbytesAt HCl.out HDl.out HN1.out HL1.out.1 (HB3.out.trans (HB.out.mono HB3.out.size))).mono ?_
      rintro e wq ⟨Aq, nq, cq, rfl, ho, hb⟩
      refine ⟨_, rfl, ?_⟩
      refine hK.out _ _ ⟨A29, n29, c29, Aq, nq, cq, m1_, (.slice Aq nq cq), (by rw [ha.out]; exact putSel_upk 4 hb_ rfl rfl rfl), HB.out.trans (hb.mono HB.out.size), fun _ => S29.out.below hb, fun _ => ho.sl, Q_X1_, fun _ => rfl⟩
    refine steps_cons ?_ ?_
    · rintro b a w' ⟨A29, n29, c29, A32, n32, c32, m1_, m4_, ha, Q_HB, Q_S29, Q_S32, Q_X1_, Q_X4_⟩ hb_ hon hoff
      refine ⟨_, rfl, fun K hK => ?_⟩
      have e32 : a.tmps[32]? = some (m4_) := by rw [ha]; exact putSel_on (e := (4, 32, m4_)) 4 rfl rfl (hon 4 (by kernel_rfl)) rfl
      rw [Q_X4_ (hon 4 (by kernel_rfl))] at e32
      replace ha := Aside0.mk ha
      have S32 := Aside0.mk (Q_S32 (hon 4 (by kernel_rfl)))
      have hs := (string_of S32.out).trans (by rw [HST.out])
      refine value_ (w1 := w') (v := .string ST) (by rfl) rfl ?_ ?_
      · go_simp
        try first | rfl | assumption
      refine hK.out _ _ ⟨A29, n29, c29, A32, n32, c32, m1_, m4_, (by rw [ha.out]; exact putSel_upk 5 hb_ rfl rfl rfl), Q_HB, Q_S29, Q_S32, Q_X1_, Q_X4_⟩
    refine steps_cons ?_ ?_
    · rintro b a w' ⟨A29, n29, c29, A32, n32, c32, m1_, m4_, ha, Q_HB, Q_S29, Q_S32, Q_X1_, Q_X4_⟩ hb_ hon hoff
      refine ⟨_, rfl, fun K hK => ?_⟩
      have e30 : a.tmps[30]? = some (.string ST) := by rw [ha]; exact putSel_on (e := (2, 30, .string ST)) 2 rfl rfl (hon 2 (by kernel_rfl)) rfl
      have e33 : a.tmps[33]? = some (.string ST) := by rw [ha]; exact putSel_on (e := (5, 33, .string ST)) 5 rfl rfl (hon 5 (by kernel_rfl)) rfl
      replace ha := Aside0.mk ha
      refine value_ (w1 := w') (v := .bool true) (by rfl) rfl ?_ ?_
      · go_simp
        try first | rfl | assumption
      refine hK.out _ _ ⟨A29, n29, c29, A32, n32, c32, m1_, m4_, (by rw [ha.out]; exact putSel_upk 6 hb_ rfl rfl rfl), Q_HB, Q_S29, Q_S32, Q_X1_, Q_X4_⟩
    refine steps_cons ?_ ?_
    · rintro b a w' ⟨A29, n29, c29, A32, n32, c32, m1_, m4_, ha, Q_HB, Q_S29, Q_S32, Q_X1_, Q_X4_⟩ hb_ hon hoff
      refine ⟨_, rfl, fun K hK => ?_⟩
      have e34 : a.tmps[34]? = some (.bool true) := by rw [ha]; exact putSel_on (e := (6, 34, .bool true)) 6 rfl rfl (hon 6 (by kernel_rfl)) rfl
      replace ha := Aside0.mk ha
      refine value_ (w1 := w') (v := .bool true) (by rfl) rfl ?_ ?_
      · go_simp
        try first | rfl | assumption
      refine hK.out _ _ ⟨A29, n29, c29, A32, n32, c32, m1_, m4_, (by rw [ha.out]; exact putSel_upk 7 hb_ rfl rfl rfl), Q_HB, Q_S29, Q_S32, Q_X1_, Q_X4_⟩
    refine steps_cons ?_ ?_
    · rintro b a w' ⟨A29, n29, c29, A32, n32, c32, m1_, m4_, ha, Q_HB, Q_S29, Q_S32, Q_X1_, Q_X4_⟩ hb_ hon hoff
      refine ⟨_, rfl, fun K hK => ?_⟩
      have e5 : a.tmps[5]? = some (.slice Ax nx cx) := by rw [ha]; exact (putSel_off rfl).trans rfl
      have e35 : a.tmps[35]? = some (.bool true) := by rw [ha]; exact putSel_on (e := (7, 35, .bool true)) 7 rfl rfl (hon 7 (by kernel_rfl)) rfl
      replace ha := Aside0.mk ha
      refine value_ (w1 := w') (v := .slice Ax nx cx) (wanted_on rfl rfl rfl (e35.trans (by first | rfl | (simp [*]; done)))) rfl ?_ ?_
      · go_simp
        try first | rfl | assumption
      refine hK.out _ _ ⟨A29, n29, c29, A32, n32, c32, m1_, m4_, (by rw [ha.out]; exact putSel_upk 8 hb_ rfl rfl rfl), Q_HB, Q_S29, Q_S32, Q_X1_, Q_X4_⟩
    refine steps_cons ?_ ?_
    · rintro b a w' ⟨A29, n29, c29, A32, n32, c32, m1_, m4_, ha, Q_HB, Q_S29, Q_S32, Q_X1_, Q_X4_⟩ hb_ hon hoff
      refine ⟨_, rfl, fun K hK => ?_⟩
      have e7 : a.tmps[7]? = some (.slice Ay ny cy) := by rw [ha]; exact (putSel_off rfl).trans rfl
      have e35 : a.tmps[35]? = some (.bool true) := by rw [ha]; exact putSel_on (e := (7, 35, .bool true)) 7 rfl rfl (hon 7 (by kernel_rfl)) rfl
      replace ha := Aside0.mk ha
      refine value_ (w1 := w') (v := .slice Ay ny cy) (wanted_on rfl rfl rfl (e35.trans (by first | rfl | (simp [*]; done)))) rfl ?_ ?_
      · go_simp
        try first | rfl | assumption
      refine hK.out _ _ ⟨A29, n29, c29, A32, n32, c32, m1_, m4_, (by rw [ha.out]; exact putSel_upk 9 hb_ rfl rfl rfl), Q_HB, Q_S29, Q_S32, Q_X1_, Q_X4_⟩
    refine steps_cons ?_ ?_
    · rintro b a w' ⟨A29, n29, c29, A32, n32, c32, m1_, m4_, ha, Q_HB, Q_S29, Q_S32, Q_X1_, Q_X4_⟩ hb_ hon hoff
      refine ⟨_, rfl, fun K hK => ?_⟩
      have e36 : a.tmps[36]? = some (.slice Ax nx cx) := by rw [ha]; exact putSel_on (e := (8, 36, .slice Ax nx cx)) 8 rfl rfl (hon 8 (by kernel_rfl)) rfl
      have e37 : a.tmps[37]? = some (.slice Ay ny cy) := by rw [ha]; exact putSel_on (e := (9, 37, .slice Ay ny cy)) 9 rfl rfl (hon 9 (by kernel_rfl)) rfl
      have e35 : a.tmps[35]? = some (.bool true) := by rw [ha]; exact putSel_on (e := (7, 35, .bool true)) 7 rfl rfl (hon 7 (by kernel_rfl)) rfl
      replace ha := Aside0.mk ha
      have HB := Aside0.mk Q_HB
      have S29 := Aside0.mk (Q_S29 (hon 1 (by kernel_rfl)))
      have S32 := Aside0.mk (Q_S32 (hon 4 (by kernel_rfl)))
      refine goes_ Try.func45 (by kernel_rfl) rfl #[.slice Ax nx cx, .slice Ay ny cy] (wanted_on rfl rfl rfl (e35.trans (by first | rfl | (simp [*]; done)))) rfl rfl (by first | (simp only [List.map_toArray, List.map_cons, List.map_nil, Act.eval, Array.getD_eq_getD_getElem?, Option.getD_some, e36, e37, e35]; done) | (simp only [List.map_toArray, List.map_cons, List.map_nil, Act.eval, Array.getD_eq_getD_getElem?, Option.getD_some, e36, e37, e35]; rfl)) ?_
      with_reducible refine (sameAt HCx3.out HCy.out HS.out HB.out).mono ?_
      rintro e wq ⟨rfl, hb⟩
      refine ⟨_, rfl, ?_⟩
      refine hK.out _ _ ⟨A29, n29, c29, A32, n32, c32, m1_, m4_, (by rw [ha.out]; exact putSel_upk 10 hb_ rfl rfl rfl), HB.out.trans (hb.mono HB.out.size), fun _ => S29.out.below hb, fun _ => S32.out.below hb, Q_X1_, Q_X4_⟩
    refine steps_cons ?_ ?_
    · rintro b a w' ⟨A29, n29, c29, A32, n32, c32, m1_, m4_, ha, Q_HB, Q_S29, Q_S32, Q_X1_, Q_X4_⟩ hb_ hon hoff
      refine ⟨_, rfl, fun K hK => ?_⟩
      have e35 : a.tmps[35]? = some (.bool true) := by rw [ha]; exact putSel_on (e := (7, 35, .bool true)) 7 rfl rfl (hon 7 (by kernel_rfl)) rfl
      have e38 : a.tmps[38]? = some (.bool true) := by rw [ha]; exact putSel_on (e := (10, 38, .bool true)) 10 rfl rfl (hon 10 (by kernel_rfl)) rfl
      replace ha := Aside0.mk ha
      refine value_ (w1 := w') (v := .bool true) (by rfl) rfl ?_ ?_
      · go_simp
        try first | rfl | assumption
      refine hK.out _ _ ⟨A29, n29, c29, A32, n32, c32, m1_, m4_, (by rw [ha.out]; exact putSel_upk 11 hb_ rfl rfl rfl), Q_HB, Q_S29, Q_S32, Q_X1_, Q_X4_⟩
    refine steps_cons ?_ ?_
    · rintro b a w' ⟨A29, n29, c29, A32, n32, c32, m1_, m4_, ha, Q_HB, Q_S29, Q_S32, Q_X1_, Q_X4_⟩ hb_ hon hoff
      refine ⟨_, rfl, fun K hK => ?_⟩
      have e39 : a.tmps[39]? = some (.bool true) := by rw [ha]; exact putSel_on (e := (11, 39, .bool true)) 11 rfl rfl (hon 11 (by kernel_rfl)) rfl
      replace ha := Aside0.mk ha
      refine value_ (w1 := w') (v := .bool true) (by rfl) rfl ?_ ?_
      · go_simp
        try first | rfl | assumption
      refine hK.out _ _ ⟨A29, n29, c29, A32, n32, c32, m1_, m4_, (by rw [ha.out]; exact putSel_upk 12 hb_ rfl rfl rfl), Q_HB, Q_S29, Q_S32, Q_X1_, Q_X4_⟩
    refine steps_cons ?_ ?_
    · rintro b a w' ⟨A29, n29, c29, A32, n32, c32, m1_, m4_, ha, Q_HB, Q_S29, Q_S32, Q_X1_, Q_X4_⟩ hb_ hon hoff
      refine ⟨_, rfl, fun K hK => ?_⟩
      have e6 : a.tmps[6]? = some (.int .i64 EE) := by rw [ha]; exact (putSel_off rfl).trans rfl
      have e40 : a.tmps[40]? = some (.bool true) := by rw [ha]; exact putSel_on (e := (12, 40, .bool true)) 12 rfl rfl (hon 12 (by kernel_rfl)) rfl
      replace ha := Aside0.mk ha
      refine value_ (w1 := w') (v := .int .i64 EE) (wanted_on rfl rfl rfl (e40.trans (by first | rfl | (simp [*]; done)))) rfl ?_ ?_
      · go_simp
        (try simp only [i64_w])
        try first | rfl | assumption
      refine hK.out _ _ ⟨A29, n29, c29, A32, n32, c32, m1_, m4_, (by rw [ha.out]; exact putSel_upk 13 hb_ rfl rfl rfl), Q_HB, Q_S29, Q_S32, Q_X1_, Q_X4_⟩
    refine steps_cons ?_ ?_
    · rintro b a w' ⟨A29, n29, c29, A32, n32, c32, m1_, m4_, ha, Q_HB, Q_S29, Q_S32, Q_X1_, Q_X4_⟩ hb_ hon hoff
      refine ⟨_, rfl, fun K hK => ?_⟩
      have e8 : a.tmps[8]? = some (.int .i64 EE) := by rw [ha]; exact (putSel_off rfl).trans rfl
      have e40 : a.tmps[40]? = some (.bool true) := by rw [ha]; exact putSel_on (e := (12, 40, .bool true)) 12 rfl rfl (hon 12 (by kernel_rfl)) rfl
      replace ha := Aside0.mk ha
      refine value_ (w1 := w') (v := .int .i64 EE) (wanted_on rfl rfl rfl (e40.trans (by first | rfl | (simp [*]; done)))) rfl ?_ ?_
      · go_simp
        (try simp only [i64_w])
        try first | rfl | assumption
      refine hK.out _ _ ⟨A29, n29, c29, A32, n32, c32, m1_, m4_, (by rw [ha.out]; exact putSel_upk 14 hb_ rfl rfl rfl), Q_HB, Q_S29, Q_S32, Q_X1_, Q_X4_⟩
    refine steps_cons ?_ ?_
    · rintro b a w' ⟨A29, n29, c29, A32, n32, c32, m1_, m4_, ha, Q_HB, Q_S29, Q_S32, Q_X1_, Q_X4_⟩ hb_ hon hoff
      refine ⟨_, rfl, fun K hK => ?_⟩
      have e41 : a.tmps[41]? = some (.int .i64 EE) := by rw [ha]; exact putSel_on (e := (13, 41, .int .i64 EE)) 13 rfl rfl (hon 13 (by kernel_rfl)) rfl
      have e42 : a.tmps[42]? = some (.int .i64 EE) := by rw [ha]; exact putSel_on (e := (14, 42, .int .i64 EE)) 14 rfl rfl (hon 14 (by kernel_rfl)) rfl
      have e40 : a.tmps[40]? = some (.bool true) := by rw [ha]; exact putSel_on (e := (12, 40, .bool true)) 12 rfl rfl (hon 12 (by kernel_rfl)) rfl
      replace ha := Aside0.mk ha
      refine value_ (w1 := w') (v := .bool true) (wanted_on rfl rfl rfl (e40.trans (by first | rfl | (simp [*]; done)))) rfl ?_ ?_
      · go_simp
        try first | rfl | assumption
      refine hK.out _ _ ⟨A29, n29, c29, A32, n32, c32, m1_, m4_, (by rw [ha.out]; exact putSel_upk 15 hb_ rfl rfl rfl), Q_HB, Q_S29, Q_S32, Q_X1_, Q_X4_⟩
    refine steps_cons ?_ ?_
    · rintro b a w' ⟨A29, n29, c29, A32, n32, c32, m1_, m4_, ha, Q_HB, Q_S29, Q_S32, Q_X1_, Q_X4_⟩ hb_ hon hoff
      refine ⟨_, rfl, fun K hK => ?_⟩
      have e40 : a.tmps[40]? = some (.bool true) := by rw [ha]; exact putSel_on (e := (12, 40, .bool true)) 12 rfl rfl (hon 12 (by kernel_rfl)) rfl
      have e43 : a.tmps[43]? = some (.bool true) := by rw [ha]; exact putSel_on (e := (15, 43, .bool true)) 15 rfl rfl (hon 15 (by kernel_rfl)) rfl
      replace ha := Aside0.mk ha
      refine value_ (w1 := w') (v := .bool true) (by rfl) rfl ?_ ?_
      · go_simp
        try first | rfl | assumption
      refine hK.out _ _ ⟨A29, n29, c29, A32, n32, c32, m1_, m4_, (by rw [ha.out]; exact putSel_upk 16 hb_ rfl rfl rfl), Q_HB, Q_S29, Q_S32, Q_X1_, Q_X4_⟩
    refine steps_cons ?_ ?_
    · rintro b a w' ⟨A29, n29, c29, A32, n32, c32, m1_, m4_, ha, Q_HB, Q_S29, Q_S32, Q_X1_, Q_X4_⟩ hb_ hon hoff
      refine ⟨_, rfl, fun K hK => ?_⟩
      have e44 : a.tmps[44]? = some (.bool true) := by rw [ha]; exact putSel_on (e := (16, 44, .bool true)) 16 rfl rfl (hon 16 (by kernel_rfl)) rfl
      replace ha := Aside0.mk ha
      refine value_ (w1 := w') (v := .bool true) (by rfl) rfl ?_ ?_
      · go_simp
        try first | rfl | assumption
      refine hK.out _ _ ⟨A29, n29, c29, A32, n32, c32, m1_, m4_, (by rw [ha.out]; exact putSel_upk 17 hb_ rfl rfl rfl), Q_HB, Q_S29, Q_S32, Q_X1_, Q_X4_⟩
    refine steps_cons ?_ ?_
    · rintro b a w' ⟨A29, n29, c29, A32, n32, c32, m1_, m4_, ha, Q_HB, Q_S29, Q_S32, Q_X1_, Q_X4_⟩ hb_ hon hoff
      refine ⟨_, rfl, fun K hK => ?_⟩
      have e45 : a.tmps[45]? = some (.bool true) := by rw [ha]; exact putSel_on (e := (17, 45, .bool true)) 17 rfl rfl (hon 17 (by kernel_rfl)) rfl
      replace ha := Aside0.mk ha
      have HB := Aside0.mk Q_HB
      have S29 := Aside0.mk (Q_S29 (hon 1 (by kernel_rfl)))
      have S32 := Aside0.mk (Q_S32 (hon 4 (by kernel_rfl)))
      refine goes_ Try.func40 (by kernel_rfl) rfl #[] (wanted_on rfl rfl rfl (e45.trans (by first | rfl | (simp [*]; done)))) rfl rfl (by first | (simp only [List.map_toArray, List.map_cons, List.map_nil, Act.eval, Array.getD_eq_getD_getElem?, Option.getD_some, e45]; done) | (simp only [List.map_toArray, List.map_cons, List.map_nil, Act.eval, Array.getD_eq_getD_getElem?, Option.getD_some, e45]; rfl)) ?_
      with_reducible refine (awake_calls _).mono ?_
      rintro e wq ⟨rfl, hb⟩
      refine ⟨_, rfl, ?_⟩
      refine hK.out _ _ ⟨A29, n29, c29, A32, n32, c32, m1_, m4_, (by rw [ha.out]; exact putSel_upk 18 hb_ rfl rfl rfl), HB.out.trans (hb.mono HB.out.size), fun _ => S29.out.below hb, fun _ => S32.out.below hb, Q_X1_, Q_X4_⟩
    refine steps_cons ?_ ?_
    · rintro b a w' ⟨A29, n29, c29, A32, n32, c32, m1_, m4_, ha, Q_HB, Q_S29, Q_S32, Q_X1_, Q_X4_⟩ hb_ hon hoff
      refine ⟨_, rfl, fun K hK => ?_⟩
      have e45 : a.tmps[45]? = some (.bool true) := by rw [ha]; exact putSel_on (e := (17, 45, .bool true)) 17 rfl rfl (hon 17 (by kernel_rfl)) rfl
      have e46 : a.tmps[46]? = some (.bool true) := by rw [ha]; exact putSel_on (e := (18, 46, .bool true)) 18 rfl rfl (hon 18 (by kernel_rfl)) rfl
      replace ha := Aside0.mk ha
      refine value_ (w1 := w') (v := .bool true) (by rfl) rfl ?_ ?_
      · go_simp
        try first | rfl | assumption
      refine hK.out _ _ ⟨A29, n29, c29, A32, n32, c32, m1_, m4_, (by rw [ha.out]; exact putSel_upk 19 hb_ rfl rfl rfl), Q_HB, Q_S29, Q_S32, Q_X1_, Q_X4_⟩
    refine steps_cons ?_ ?_
    · rintro b a w' ⟨A29, n29, c29, A32, n32, c32, m1_, m4_, ha, Q_HB, Q_S29, Q_S32, Q_X1_, Q_X4_⟩ hb_ hon hoff
      refine ⟨_, rfl, fun K hK => ?_⟩
      have e47 : a.tmps[47]? = some (.bool true) := by rw [ha]; exact putSel_on (e := (19, 47, .bool true)) 19 rfl rfl (hon 19 (by kernel_rfl)) rfl
      replace ha := Aside0.mk ha
      refine value_ (w1 := w') (v := .bool true) (by rfl) rfl ?_ ?_
      · go_simp
        try first | rfl | assumption
      refine hK.out _ _ ⟨A29, n29, c29, A32, n32, c32, m1_, m4_, (by rw [ha.out]; exact putSel_upk 20 hb_ rfl rfl rfl), Q_HB, Q_S29, Q_S32, Q_X1_, Q_X4_⟩
    exact steps_nil
  rintro b a w5 hall ⟨A29, n29, c29, A32, n32, c32, m1_, m4_, ha, Q_HB, Q_S29, Q_S32, Q_X1_, Q_X4_⟩
  clear HB
  have hb0_ := hall 0 (by kernel_rfl)
  have hb1_ := hall 1 (by kernel_rfl)
  have hb2_ := hall 2 (by kernel_rfl)
  have hb3_ := hall 3 (by kernel_rfl)
  have hb4_ := hall 4 (by kernel_rfl)
  have hb5_ := hall 5 (by kernel_rfl)
  have hb6_ := hall 6 (by kernel_rfl)
  have hb7_ := hall 7 (by kernel_rfl)
  have hb8_ := hall 8 (by kernel_rfl)
  have hb9_ := hall 9 (by kernel_rfl)
  have hb10_ := hall 10 (by kernel_rfl)
  have hb11_ := hall 11 (by kernel_rfl)
  have hb12_ := hall 12 (by kernel_rfl)
  have hb13_ := hall 13 (by kernel_rfl)
  have hb14_ := hall 14 (by kernel_rfl)
  have hb15_ := hall 15 (by kernel_rfl)
  have hb16_ := hall 16 (by kernel_rfl)
  have hb17_ := hall 17 (by kernel_rfl)
  have hb18_ := hall 18 (by kernel_rfl)
  have hb19_ := hall 19 (by kernel_rfl)
  have hb20_ := hall 20 (by kernel_rfl)
  subst ha
  obtain rfl := Q_X1_ hb1_
  obtain rfl := Q_X4_ hb4_
  simp only [putSel, hb0_, hb1_, hb2_, hb3_, hb4_, hb5_, hb6_, hb7_, hb8_, hb9_, hb10_, hb11_, hb12_, hb13_, hb14_, hb15_, hb16_, hb17_, hb18_, hb19_, hb20_, if_true, Act.put, List.setIfInBounds_toArray, List.set_cons_zero, List.set_cons_succ]
  have HB := Aside0.mk Q_HB
  clear Q_HB
  have S29 := Aside0.mk (Q_S29 hb1_)
  clear Q_S29
  have S32 := Aside0.mk (Q_S32 hb4_)
  clear Q_S32
  clear hall hb0_ hb1_ hb2_ hb3_ hb4_ hb5_ hb6_ hb7_ hb8_ hb9_ hb10_ hb11_ hb12_ hb13_ hb14_ hb15_ hb16_ hb17_ hb18_ hb19_ hb20_
  have HF := Aside0.mk (HB3.out.trans (HB.out.mono HB3.out.size))
  go_wp2_with fail
  go_ret
  exact ⟨rfl, HF.out⟩
end Go.Proofs.Ytjljgcceapkdcaa.SfZ
end
