-- Printed by prune.py: the used part of a text.
import Derived.Test.YtplfpbfmnogckaaDoorZItN
import Derived.Test.YtplfpbfmnogckaaDoorZTg
import Derived.Test.YtplfpbfmnogckaaDoorZWRepsOne
namespace Go.Proofs.YtplfpbfmnogckaaDoor.ItK
open Go.RowKit Go.Proofs.YtplfpbfmnogckaaDoorW.PrintWords Go.Proofs.YtplfpbfmnogckaaDoorW.PrintLast Go.Proofs.YtplfpbfmnogckaaDoorW.PrintMore Go.Proofs.YtplfpbfmnogckaaDoor.TdG Go.Proofs.YtplfpbfmnogckaaDoor.TdM Go.Proofs.YtplfpbfmnogckaaDoor.TdP Go.Proofs.YtplfpbfmnogckaaDoor.ItF Go.Proofs.YtplfpbfmnogckaaDoor.ItT Go.Proofs.YtplfpbfmnogckaaDoor.ItO Go.Proofs.YtplfpbfmnogckaaDoor.WdA Go.Proofs.YtplfpbfmnogckaaDoor.WdB Go.Proofs.YtplfpbfmnogckaaDoor.WdC Go.Proofs.YtplfpbfmnogckaaDoor.WdD Go.Proofs.YtplfpbfmnogckaaDoor.WdE Go.Proofs.YtplfpbfmnogckaaDoor.ItP Go.Proofs.YtplfpbfmnogckaaDoor.ItQ Go.Proofs.YtplfpbfmnogckaaDoor.ItR Go.Proofs.YtplfpbfmnogckaaDoor.ItS Go.Proofs.YtplfpbfmnogckaaDoor.ItN Go.Proofs.YtplfpbfmnogckaaDoor.Rw
set_option linter.unusedVariables false
set_option linter.unusedSimpArgs false
theorem cut_word {w0 : World} (A : Option Addr) (n c : Nat) (l : List S60) (j : Nat) (hn : n = l.length) (hC : Kd.C k60 w0 A n l) (hc : n ≤ c) (hm : j ≤ n) :
    ∃ A' n' c', (∀ W : World, (Instr.slice 54 (.slice A n c) (some (.int .i64 (j : Int))) none none).run Tryd.prog W = .ok (.slice A' n' c') W) ∧ Aside0 (n' = (l.drop j).length) ∧ Aside0 (n' ≤ c') ∧ Aside0 (Kd.C k60 w0 A' n' (l.drop j)) := by
  subst hn
  obtain ⟨i0, hi, hzz⟩ := Option.map_eq_some_iff.1 info_word
  simp only [Prod.mk.injEq] at hzz
  have hd := Kd.C_drop hC (m := j) (c := c) (by omega) hc
  rw [show j * (k60).sz = j * 2 from rfl] at hd
  refine ⟨_, _, _, cut_from _ _ _ Tryd.underlying54 hi 2 hzz.2.1 A l.length c (j : Int) (by omega) (by omega), ⟨by simp⟩, ⟨by omega⟩, ⟨by rw [List.length_drop] at hd; simpa using hd⟩⟩
theorem to_word {w0 : World} (A : Option Addr) (n c : Nat) (l : List S60) (j : Nat) (hn : n = l.length) (hC : Kd.C k60 w0 A n l) (hc : n ≤ c) (hm : j ≤ n) :
    (∀ W : World, (Instr.slice 54 (.slice A n c) none (some (.int .i64 (j : Int))) none).run Tryd.prog W = .ok (.slice A j c) W) ∧ Aside0 (j = (l.take j).length) ∧ Aside0 (Kd.C k60 w0 A j (l.take j)) := by
  subst hn
  obtain ⟨i0, hi, hzz⟩ := Option.map_eq_some_iff.1 info_word
  simp only [Prod.mk.injEq] at hzz
  have hd := Kd.C_take hC (m := j) (by omega)
  have hl : (l.take j).length = j := by rw [List.length_take]; omega
  rw [hl] at hd
  refine ⟨?_, ⟨hl.symm⟩, ⟨hd⟩⟩
  have := cut_to 54 60 .i64 Tryd.underlying54 hi A l.length c (j : Int) (by omega) (by omega) hc
  simpa using this
theorem rem127 (n : Int) : ∃ z : Nat, z < 127 ∧ (IntKind.u64.wrap n).tmod 127 = (z : Int) := by
  have e1 : IntKind.u64.wrap n = n % 18446744073709551616 := by simp [IntKind.wrap, IntKind.bits, IntKind.signed]
  rw [e1, Int.tmod_eq_emod_of_nonneg (Int.emod_nonneg _ (by decide))]
  generalize n % 18446744073709551616 = q
  exact ⟨(q % 127).toNat, by omega, by omega⟩
theorem rem_n (x : Int) (n : Nat) (h : 1 ≤ n) : ∃ j : Nat, j < n ∧ (IntKind.u64.wrap x).tmod (n : Int) = (j : Int) := by
  have e1 : IntKind.u64.wrap x = x % 18446744073709551616 := by simp [IntKind.wrap, IntKind.bits, IntKind.signed]
  rw [e1, Int.tmod_eq_emod_of_nonneg (Int.emod_nonneg _ (by decide))]
  generalize x % 18446744073709551616 = q
  have h1 := Int.emod_nonneg q (show (n : Int) ≠ 0 by omega)
  have h2 := Int.emod_lt_of_pos q (show 0 < (n : Int) by omega)
  exact ⟨(q % (n : Int)).toNat, by omega, by omega⟩
theorem rem_at (x : Int) (n : Nat) (h : 3 ≤ n) : ∃ j kk : Nat, kk = j + 1 ∧ j < n - 2 ∧ (IntKind.u64.wrap x).tmod ((n : Int) - 2) = (j : Int) ∧ 1 + (j : Int) = (kk : Int) := by
  obtain ⟨j, h1, h2⟩ := rem_n x (n - 2) (by omega)
  rw [show ((n - 2 : Nat) : Int) = (n : Int) - 2 by omega] at h2
  exact ⟨j, j + 1, rfl, h1, h2, by omega⟩
theorem reps_word (w : World) (base : Nat) (ok : Nat → Prop) (x : S60) : Reps (Kd.M k60 w base ok) 2 [x] [.int .i64 x.f0, .string x.f1] := Reps.c2 (k60_mkM _ _ _ x) (Reps.none _ _)
def t_mailsacklaw21_ItemBack.T8 : Bool × List (List Nat × List Nat) := (true, [([], []), ([], []), ([], []), ([1, 2], [1, 2]), ([0, 3], [0, 3]), ([], []), ([], []), ([5, 6], [5, 6]), ([7], [7]), ([8], [8]), ([4, 9, 4], [4, 9]), ([], []), ([], []), ([11, 12], [11, 12]), ([10, 13, 10], [10, 13]), ([14, 14, 0, 1, 2, 3, 4, 5, 6, 7, 8, 9, 10, 11, 12, 13, 14], [14])])
def t_mailsacklaw21_ItemBack.B8 : List Nat := [0, 0, 0, 6, 15, 0, 0, 96, 224, 480, 1023, 0, 0, 6144, 16383, 32767]
theorem t_mailsacklaw21_ItemBack.tab8 : rtab .any (opsOf Tryd.f8 8) = t_mailsacklaw21_ItemBack.T8 := by kernel_rfl
theorem t_mailsacklaw21_ItemBack.bits8 : waitsOk t_mailsacklaw21_ItemBack.T8.2 t_mailsacklaw21_ItemBack.B8 = true := by kernel_rfl
set_option maxRecDepth 100000 in
set_option maxHeartbeats 8000000 in
theorem back_calls (items at_ : Int) (w : World) (ht : Tab w) : Calls Tryd.prog 8 #[.int .i64 items, .int .i64 at_] w fun e w' => e = .returned (.bool true) ∧ Below w.heap.size w w' := by
  obtain ⟨z, hz1, hz2⟩ := rem127 items
  have hn0 : z + 1 ≠ 0 := by omega
  have I1 := up_items ⟨z + 1, by omega⟩ hn0
  have I2 := low_items ⟨z + 1, by omega⟩ hn0
  have s1 := back_size ⟨z + 1, by omega⟩
  have l1 := (ids_len ⟨z + 1, by omega⟩).resolve_left hn0
  have f1 := ids_fold ⟨z + 1, by omega⟩
  have f2 := ids_twice ⟨z + 1, by omega⟩
  have HN := Aside0.mk (fun W => names_calls (((z + 1 : Nat)) : Int) W)
  simp only at I1 I2 s1 l1 f1 f2
  have hxz : 1 + (z : Int) = ((z + 1 : Nat) : Int) := by omega
  obtain ⟨ids, hids⟩ : ∃ ids, idsOf (z + 1) = ids := ⟨_, rfl⟩
  have hlt : ∀ i ∈ ids, i < 7 := hids ▸ ids_lt (z + 1)
  rw [hids] at I1 I2 l1 f1 f2
  generalize ofP ((z + 1 : Nat) : Int) nmI = s at *
  generalize ((z + 1 : Nat) : Int) = xi at *
  obtain ⟨T, hT⟩ : ∃ T, (ids.map nmI).map wd = T := ⟨_, rfl⟩
  obtain ⟨U, hU⟩ : ∃ U, (ids.map (fun i => lowB (nmI i))).map wd = U := ⟨_, rfl⟩
  have hTl : T.length = ids.length := by rw [← hT]; simp
  have hUl : U.length = ids.length := by rw [← hU]; simp
  have fT : foldB T = xi := by rw [← hT, foldB_ids nmI up_bit ids hlt, f1]
  have fU : foldB U = xi := by rw [← hU, foldB_ids (fun i => lowB (nmI i)) low_bit ids hlt, f1]
  have oT : ItOk T := hT ▸ itOk_ids nmI up_bit up_size ids hlt
  have oU : ItOk U := hU ▸ itOk_ids (fun i => lowB (nmI i)) low_bit low_size ids hlt
  have HTw := Aside0.mk (fun (j : Nat) (hj : j < 7) => show foldB (T.take j ++ (T.drop j).take 1 ++ T.drop j) = xi ∧ ItOk (T.take j ++ (T.drop j).take 1 ++ T.drop j) by
    have e : T.take j ++ (T.drop j).take 1 ++ T.drop j = ((ids.take j ++ (ids.drop j).take 1 ++ ids.drop j).map nmI).map wd := by
      rw [← hT]
      simp [List.map_take, List.map_drop]
    have hm : ∀ i ∈ ids.take j ++ (ids.drop j).take 1 ++ ids.drop j, i < 7 := fun i hi => by
      rcases List.mem_append.1 hi with h | h
      · rcases List.mem_append.1 h with h | h
        · exact hlt i (List.mem_of_mem_take h)
        · exact hlt i (List.mem_of_mem_drop (List.mem_of_mem_take h))
      · exact hlt i (List.mem_of_mem_drop h)
    rw [e]
    exact ⟨by rw [foldB_ids nmI up_bit _ hm]; exact f2 ⟨j, hj⟩, itOk_ids nmI up_bit up_size _ hm⟩)
  rw [hT] at I1
  rw [hU] at I2
  have HS1 := Aside0.mk (fun W => split_calls s _ (by omega) I1 W)
  have HS2 := Aside0.mk (fun W => split_calls (lowB s) _ (by rw [lowB_size]; omega) I2 W)
  have HP1 := Aside0.mk (fun A n c W hC hc => parse_list A n c wo wc T W hC hc rfl rfl (by omega) (by omega) oT)
  have HP2 := Aside0.mk (fun A n c W hC hc => parse_list A n c wo wc U W hC hc rfl rfl (by omega) (by omega) oU)
  have HP3 := Aside0.mk (fun (j : Nat) (hj : j < T.length) A n c W hC hc => parse_list A n c wo wc (T.take j ++ (T.drop j).take 1 ++ T.drop j) W hC hc rfl rfl (by simp; omega) (by simp; omega) (HTw.out j (by omega)).2)
  rw [fT] at HP1
  rw [fU] at HP2
  have HAw := Aside0.mk (fun W (hW : Below w.heap.size w W) => awake_calls W (ht.below hW))
  have HM0 := Aside0.mk (Below.refl w.heap.size w)
  have HTl := Aside0.mk (show 1 ≤ T.length ∧ T.length ≤ 7 by omega)
  have Hs9 := Aside0.mk s1
  have HLl := Aside0.mk (show ([wo] ++ T ++ [wc]).length = T.length + 2 by simp)
  clear ht I1 I2 s1 l1 f1 f2 hids hlt hTl hUl fT fU oT oU hT hU hn0
  go_enter Tryd.func8, Tryd.ntmps8
  go_wp2_with (first
    | (go_at_call 21; have HMx := HM0.out; refine (HN.out _).mono ?_; clear HMx; rintro e_ w1 ⟨rfl, hb⟩; have HM1 := Aside0.mk (HM0.out.trans hb); clear hb HM0 HN; skip)
    | (go_at_call 22; have HMx := HM1.out; refine (HS1.out _).mono ?_; clear HMx; rintro e_ w2 ⟨A1, n1, c1, rfl, hn, hc, hC, hb⟩; have HM2 := Aside0.mk (HM1.out.trans (hb.mono HM1.out.size)); have HC1 := Aside0.mk hC; have Hc1 := Aside0.mk hc; have Hn1 := Aside0.mk hn; have hnn : n1 = T.length + 2 := (hn.trans HLl.out); have hn3 : 3 ≤ n1 := (by have := HTl.out; omega); have hn9 : n1 ≤ 9 := (by have := HTl.out; omega); obtain ⟨j, kk, hkj, hj1, hj2, hj3⟩ := rem_at at_ n1 hn3; have hn3' : 3 ≤ (n1 : Int) := (by omega); have hn9' : (n1 : Int) ≤ 9 := (by omega); have hj9 : (j : Int) ≤ 7 := (by omega); have HJ := Aside0.mk (And.intro hkj (And.intro hj1 hnn)); clear hkj hj1 hnn hn3 hn9 hn hb hC hc HM1 HS1; skip)
    | (go_at_call 23; have HMx := HM2.out; refine (HP1.out _ _ _ _ HC1.out Hc1.out).mono ?_; clear HMx; rintro e_ w3 ⟨rfl, hb⟩; have HM3 := Aside0.mk (HM2.out.trans (hb.mono HM2.out.size)); have HC3 := Aside0.mk (Kd.C_below HC1.out hb); clear hb HM2 HP1 HC1; skip))
  obtain ⟨hkj, hj1, hnn⟩ := HJ.out
  obtain ⟨lw, hlw⟩ : ∃ lw, [wo] ++ T ++ [wc] = lw := ⟨_, rfl⟩
  have hll : lw.length = T.length + 2 := by rw [← hlw]; exact HLl.out
  have hkn : kk < lw.length := by omega
  have hTw := fun x hx => twice_row wo wc T lw j kk hlw.symm (by omega) hkj x hx
  rw [hlw] at HC3 Hn1
  obtain ⟨ad, e1, hx0, hx1⟩ := at_T60 HC3.out (kk : Int) (by omega) (by omega)
  subst e1
  rw [Int.toNat_natCast, rdw_nat lw hkn] at hx0 hx1
  have hlk : lw[kk]? = some lw[kk] := List.getElem?_eq_getElem hkn
  generalize lw[kk] = lk at *
  have HTw2 := Aside0.mk (hTw lk hlk)
  obtain ⟨A5, n5, c5, hcut, Hn5, Hc5, HC5⟩ := cut_word (some ad) n1 c1 lw kk Hn1.out HC3.out Hc1.out (by omega)
  obtain ⟨hto, Hn6, HC6⟩ := to_word (some ad) n1 c1 lw kk Hn1.out HC3.out Hc1.out (by omega)
  have HK9 := Aside0.mk (show kk ≤ 9 ∧ lw.length ≤ 9 by omega)
  have HX := Aside0.mk (And.intro hx0 hx1)
  have hk1 : (kk : Int) < (n1 : Int) := by omega
  have hk0 : (kk : Int) ≤ 9 := by omega
  have HBw := Aside0.mk (Below.refl w3.heap.size w3)
  have HJT := Aside0.mk (show j < T.length by omega)
  clear hTw hlk hx0 hx1 hkn hkj hj1 hnn hlw hll
  refine start_ (n := 16) (S := fun w' => True) (ds := []) #[false, false, false, false, false, false, false, false, false, false, false, false, false, false, false, false] (by kernel_rfl) rfl rfl trivial (fun hHeld => ?_)
  refine with_tabW t_mailsacklaw21_ItemBack.tab8 t_mailsacklaw21_ItemBack.bits8 (fun HT_ HW_ => ?_)
  have hd_ := (below_drew1 (Below.refl w3.heap.size w3))
  have n_HBw := Aside0.mk (HBw.out.trans (hd_.mono HBw.out.size))
  clear HBw
  have HBw := n_HBw
  clear n_HBw
  generalize w3.drew = w_d at *
  clear hd_
  refine inv_at [0, 1, 2, 3, 4, 5, 6, 7, 8, 9, 10, 11, 12, 13, 14, 15] (fun a0_ b a w' => ∃ (v63 : Value) (v67 : Value) (A72 : Option Addr) (n72 : Nat) (c72 : Nat) (v73 : Value) (A77 : Option Addr) (n77 : Nat) (c77 : Nat) (m9_ : Value) (m14_ : Value) (m15_ : Value), a = putSel a0_ b [(0, 63, v63), (1, 64, .slice (some ad) n1 c1), (2, 65, .int .i64 (kk : Int)), (3, 66, .slice (some ad) kk c1), (4, 67, v67), (5, 68, .slice (some ad) n1 c1), (6, 69, .int .i64 (kk : Int)), (7, 70, .pointer (some (ad.add (kk * 2)))), (8, 71, .agg #[.int .i64 lk.f0, .string lk.f1]), (9, 72, m9_), (10, 73, v73), (11, 74, .slice (some ad) n1 c1), (12, 75, .int .i64 (kk : Int)), (13, 76, .slice A5 n5 c5), (14, 77, m14_), (15, 11, m15_)] ∧ (Below w3.heap.size w3 w') ∧ (b 0 = true → b 4 = false → Tg k60 60 w' w3.heap.size v63 []) ∧ (b 4 = true → b 10 = false → Tg k60 60 w' w3.heap.size v67 (lw.take kk)) ∧ (b 9 = true → b 10 = false → Tg k60 60 w' w3.heap.size (.slice A72 n72 c72) [lk]) ∧ (b 10 = true → b 14 = false → Tg k60 60 w' w3.heap.size v73 (lw.take kk ++ [lk])) ∧ (b 14 = true → Tg k60 60 w' w3.heap.size (.slice A77 n77 c77) (lw.take kk ++ [lk] ++ lw.drop kk)) ∧ (b 0 = true → b 9 = true → b 4 = false → AP v63 (.slice A72 n72 c72)) ∧ (b 4 = true → b 9 = true → b 10 = false → AP v67 (.slice A72 n72 c72)) ∧ (b 9 = true → (m9_ : Value) = .slice A72 n72 c72) ∧ (b 14 = true → (m14_ : Value) = .slice A77 n77 c77) ∧ (b 15 = true → (m15_ : Value) = .slice A77 n77 c77)) HT_.out HW_.out (by kernel_rfl) (by kernel_rfl) ?_ ?_ ?_
  · exact ⟨.slice none 0 0, .slice none 0 0, none, 0, 0, .slice none 0 0, none, 0, 0, .bool false, .bool false, .bool false, by simp only [putSel, Bool.false_eq_true, if_false], HBw.out, fun h_ => absurd h_ (by decide), fun h_ => absurd h_ (by decide), fun h_ => absurd h_ (by decide), fun h_ => absurd h_ (by decide), fun h_ => absurd h_ (by decide), fun h_ => absurd h_ (by decide), fun h_ => absurd h_ (by decide), fun h_ => absurd h_ (by decide), fun h_ => absurd h_ (by decide), fun h_ => absurd h_ (by decide)⟩
  · skip
    clear HBw
    refine steps_cons ?_ ?_
    · rintro b a w' ⟨v63, v67, A72, n72, c72, v73, A77, n77, c77, m9_, m14_, m15_, ha, Q_HBw, Q_R63, Q_R67, Q_R72, Q_R73, Q_R77, Q_P1, Q_P2, Q_X9_, Q_X14_, Q_X15_⟩ hb_ hon hoff
      refine ⟨_, rfl, fun K hK => ?_⟩
      replace ha := Aside0.mk ha
      have HBw := Aside0.mk Q_HBw
      refine Kd.R_lit_step k60 (w0 := w3) (xs := []) (inner := []) (ok := fun _ => True) (okp := fun _ => False) w3.heap.size 60 (by rfl) rfl ?_ ⟨rfl, fun j p h => by simp at h⟩ (fun _ h => h.elim) trivial HBw.out HBw.out.size (by decide) ?_
      · go_simp
      intro v1 w1 ho hb hg hat
      refine hK.out _ _ ⟨v1, v67, A72, n72, c72, v73, A77, n77, c77, m9_, m14_, m15_, (by rw [ha.out]; exact putSel_upk 0 hb_ rfl rfl rfl), hb, fun _ _ => Tg.of (d := k60) rfl ho, fun h0_ _ => absurd ((hoff 4 (by kernel_rfl)).symm.trans h0_) (by decide), fun h0_ h1_ => (Q_R72 h0_ h1_).grown_none hg, fun h0_ _ => absurd ((hoff 10 (by kernel_rfl)).symm.trans h0_) (by decide), fun h0_ => absurd ((hoff 14 (by kernel_rfl)).symm.trans h0_) (by decide), fun _ h1_ _ => ((Q_R72 h1_ (hoff 10 (by kernel_rfl))).ap_right hat).symm, fun h0_ _ _ => absurd ((hoff 4 (by kernel_rfl)).symm.trans h0_) (by decide), Q_X9_, fun h0_ => absurd ((hoff 14 (by kernel_rfl)).symm.trans h0_) (by decide), fun h0_ => absurd ((hoff 15 (by kernel_rfl)).symm.trans h0_) (by decide)⟩
    refine steps_cons ?_ ?_
    · rintro b a w' ⟨v63, v67, A72, n72, c72, v73, A77, n77, c77, m9_, m14_, m15_, ha, Q_HBw, Q_R63, Q_R67, Q_R72, Q_R73, Q_R77, Q_P1, Q_P2, Q_X9_, Q_X14_, Q_X15_⟩ hb_ hon hoff
      refine ⟨_, rfl, fun K hK => ?_⟩
      have e6 : a.tmps[6]? = some (.slice (some ad) n1 c1) := by rw [ha]; exact (putSel_off rfl).trans rfl
      replace ha := Aside0.mk ha
      refine value_ (w1 := w') (v := .slice (some ad) n1 c1) (by rfl) rfl ?_ ?_
      · go_simp
        try first | rfl | assumption
      refine hK.out _ _ ⟨v63, v67, A72, n72, c72, v73, A77, n77, c77, m9_, m14_, m15_, (by rw [ha.out]; exact putSel_upk 1 hb_ rfl rfl rfl), Q_HBw, Q_R63, fun h0_ _ => absurd ((hoff 4 (by kernel_rfl)).symm.trans h0_) (by decide), Q_R72, fun h0_ _ => absurd ((hoff 10 (by kernel_rfl)).symm.trans h0_) (by decide), fun h0_ => absurd ((hoff 14 (by kernel_rfl)).symm.trans h0_) (by decide), Q_P1, fun h0_ _ _ => absurd ((hoff 4 (by kernel_rfl)).symm.trans h0_) (by decide), Q_X9_, fun h0_ => absurd ((hoff 14 (by kernel_rfl)).symm.trans h0_) (by decide), fun h0_ => absurd ((hoff 15 (by kernel_rfl)).symm.trans h0_) (by decide)⟩
    refine steps_cons ?_ ?_
    · rintro b a w' ⟨v63, v67, A72, n72, c72, v73, A77, n77, c77, m9_, m14_, m15_, ha, Q_HBw, Q_R63, Q_R67, Q_R72, Q_R73, Q_R77, Q_P1, Q_P2, Q_X9_, Q_X14_, Q_X15_⟩ hb_ hon hoff
      refine ⟨_, rfl, fun K hK => ?_⟩
      have e10 : a.tmps[10]? = some (.int .i64 (kk : Int)) := by rw [ha]; exact (putSel_off rfl).trans rfl
      replace ha := Aside0.mk ha
      refine value_ (w1 := w') (v := .int .i64 (kk : Int)) (by rfl) rfl ?_ ?_
      · go_simp
        (try simp only [i64_w])
        try first | rfl | assumption
      refine hK.out _ _ ⟨v63, v67, A72, n72, c72, v73, A77, n77, c77, m9_, m14_, m15_, (by rw [ha.out]; exact putSel_upk 2 hb_ rfl rfl rfl), Q_HBw, Q_R63, fun h0_ _ => absurd ((hoff 4 (by kernel_rfl)).symm.trans h0_) (by decide), Q_R72, fun h0_ _ => absurd ((hoff 10 (by kernel_rfl)).symm.trans h0_) (by decide), fun h0_ => absurd ((hoff 14 (by kernel_rfl)).symm.trans h0_) (by decide), Q_P1, fun h0_ _ _ => absurd ((hoff 4 (by kernel_rfl)).symm.trans h0_) (by decide), Q_X9_, fun h0_ => absurd ((hoff 14 (by kernel_rfl)).symm.trans h0_) (by decide), fun h0_ => absurd ((hoff 15 (by kernel_rfl)).symm.trans h0_) (by decide)⟩
    refine steps_cons ?_ ?_
    · rintro b a w' ⟨v63, v67, A72, n72, c72, v73, A77, n77, c77, m9_, m14_, m15_, ha, Q_HBw, Q_R63, Q_R67, Q_R72, Q_R73, Q_R77, Q_P1, Q_P2, Q_X9_, Q_X14_, Q_X15_⟩ hb_ hon hoff
      refine ⟨_, rfl, fun K hK => ?_⟩
      have e64 : a.tmps[64]? = some (.slice (some ad) n1 c1) := by rw [ha]; exact putSel_on (e := (1, 64, .slice (some ad) n1 c1)) 1 rfl rfl (hon 1 (by kernel_rfl)) rfl
      have e65 : a.tmps[65]? = some (.int .i64 (kk : Int)) := by rw [ha]; exact putSel_on (e := (2, 65, .int .i64 (kk : Int))) 2 rfl rfl (hon 2 (by kernel_rfl)) rfl
      replace ha := Aside0.mk ha
      refine value_ (w1 := w') (v := .slice (some ad) kk c1) (by rfl) rfl ?_ ?_
      · go_simp
        try first | rfl | assumption
      refine hK.out _ _ ⟨v63, v67, A72, n72, c72, v73, A77, n77, c77, m9_, m14_, m15_, (by rw [ha.out]; exact putSel_upk 3 hb_ rfl rfl rfl), Q_HBw, Q_R63, fun h0_ _ => absurd ((hoff 4 (by kernel_rfl)).symm.trans h0_) (by decide), Q_R72, fun h0_ _ => absurd ((hoff 10 (by kernel_rfl)).symm.trans h0_) (by decide), fun h0_ => absurd ((hoff 14 (by kernel_rfl)).symm.trans h0_) (by decide), Q_P1, fun h0_ _ _ => absurd ((hoff 4 (by kernel_rfl)).symm.trans h0_) (by decide), Q_X9_, fun h0_ => absurd ((hoff 14 (by kernel_rfl)).symm.trans h0_) (by decide), fun h0_ => absurd ((hoff 15 (by kernel_rfl)).symm.trans h0_) (by decide)⟩
    refine steps_cons ?_ ?_
    · rintro b a w' ⟨v63, v67, A72, n72, c72, v73, A77, n77, c77, m9_, m14_, m15_, ha, Q_HBw, Q_R63, Q_R67, Q_R72, Q_R73, Q_R77, Q_P1, Q_P2, Q_X9_, Q_X14_, Q_X15_⟩ hb_ hon hoff
      refine ⟨_, rfl, fun K hK => ?_⟩
      have e63 : a.tmps[63]? = some (v63) := by rw [ha]; exact putSel_on (e := (0, 63, v63)) 0 rfl rfl (hon 0 (by kernel_rfl)) rfl
      have e66 : a.tmps[66]? = some (.slice (some ad) kk c1) := by rw [ha]; exact putSel_on (e := (3, 66, .slice (some ad) kk c1)) 3 rfl rfl (hon 3 (by kernel_rfl)) rfl
      replace ha := Aside0.mk ha
      have HBw := Aside0.mk Q_HBw
      have R63 := Aside0.mk (Q_R63 (hon 0 (by kernel_rfl)) hb_)
      refine Kd.R_append_rows_step k60 (w0 := w3) w3.heap.size (by rfl) (.tmp 63) (.tmp 66) 54 60 (.agg #[.int .i64 0, .string ⟨#[]⟩]) 24 rfl Tryd.underlying54 info_word rfl (by decide) (by omega) v63 ([]) (lw.take kk) (some ad) kk c1 (fun _ => True) (fun _ => False) (eval_of e63) (eval_of e66) R63.out.any (Kd.C_below HC6.out HBw.out) (fun x cs h => by rw [k60_open h]; exact k60_mkM _ _ _ x) (fun _ h => h.elim) (fun _ _ => trivial) HBw.out HBw.out.size (by have := HK9.out; simp only [List.length_nil]; omega) ?_
      intro v1 w1 ho hb hg hat
      refine hK.out _ _ ⟨v63, v1, A72, n72, c72, v73, A77, n77, c77, m9_, m14_, m15_, (by rw [ha.out]; exact putSel_upk 4 hb_ rfl rfl rfl), hb, fun _ h1_ => absurd ((up_self b 4).symm.trans h1_) (by decide), fun _ _ => Tg.of (d := k60) rfl ho, fun h0_ h1_ => (Q_R72 h0_ h1_).grown hg (Q_P1 (hon 0 (by kernel_rfl)) h0_ hb_).symm, fun h0_ _ => absurd ((hoff 10 (by kernel_rfl)).symm.trans h0_) (by decide), fun h0_ => absurd ((hoff 14 (by kernel_rfl)).symm.trans h0_) (by decide), fun _ _ h2_ => absurd ((up_self b 4).symm.trans h2_) (by decide), fun _ h1_ _ => ((Q_R72 h1_ (hoff 10 (by kernel_rfl))).ap_step (Q_P1 (hon 0 (by kernel_rfl)) h1_ hb_).symm hat).symm, Q_X9_, fun h0_ => absurd ((hoff 14 (by kernel_rfl)).symm.trans h0_) (by decide), fun h0_ => absurd ((hoff 15 (by kernel_rfl)).symm.trans h0_) (by decide)⟩
    refine steps_cons ?_ ?_
    · rintro b a w' ⟨v63, v67, A72, n72, c72, v73, A77, n77, c77, m9_, m14_, m15_, ha, Q_HBw, Q_R63, Q_R67, Q_R72, Q_R73, Q_R77, Q_P1, Q_P2, Q_X9_, Q_X14_, Q_X15_⟩ hb_ hon hoff
      refine ⟨_, rfl, fun K hK => ?_⟩
      have e6 : a.tmps[6]? = some (.slice (some ad) n1 c1) := by rw [ha]; exact (putSel_off rfl).trans rfl
      replace ha := Aside0.mk ha
      refine value_ (w1 := w') (v := .slice (some ad) n1 c1) (by rfl) rfl ?_ ?_
      · go_simp
        try first | rfl | assumption
      refine hK.out _ _ ⟨v63, v67, A72, n72, c72, v73, A77, n77, c77, m9_, m14_, m15_, (by rw [ha.out]; exact putSel_upk 5 hb_ rfl rfl rfl), Q_HBw, Q_R63, Q_R67, fun h0_ _ => absurd ((hoff 9 (by kernel_rfl)).symm.trans h0_) (by decide), fun h0_ _ => absurd ((hoff 10 (by kernel_rfl)).symm.trans h0_) (by decide), fun h0_ => absurd ((hoff 14 (by kernel_rfl)).symm.trans h0_) (by decide), fun _ h1_ _ => absurd ((hoff 9 (by kernel_rfl)).symm.trans h1_) (by decide), fun _ h1_ _ => absurd ((hoff 9 (by kernel_rfl)).symm.trans h1_) (by decide), fun h0_ => absurd ((hoff 9 (by kernel_rfl)).symm.trans h0_) (by decide), fun h0_ => absurd ((hoff 14 (by kernel_rfl)).symm.trans h0_) (by decide), fun h0_ => absurd ((hoff 15 (by kernel_rfl)).symm.trans h0_) (by decide)⟩
    refine steps_cons ?_ ?_
    · rintro b a w' ⟨v63, v67, A72, n72, c72, v73, A77, n77, c77, m9_, m14_, m15_, ha, Q_HBw, Q_R63, Q_R67, Q_R72, Q_R73, Q_R77, Q_P1, Q_P2, Q_X9_, Q_X14_, Q_X15_⟩ hb_ hon hoff
      refine ⟨_, rfl, fun K hK => ?_⟩
      have e10 : a.tmps[10]? = some (.int .i64 (kk : Int)) := by rw [ha]; exact (putSel_off rfl).trans rfl
      replace ha := Aside0.mk ha
      refine value_ (w1 := w') (v := .int .i64 (kk : Int)) (by rfl) rfl ?_ ?_
      · go_simp
        (try simp only [i64_w])
        try first | rfl | assumption
      refine hK.out _ _ ⟨v63, v67, A72, n72, c72, v73, A77, n77, c77, m9_, m14_, m15_, (by rw [ha.out]; exact putSel_upk 6 hb_ rfl rfl rfl), Q_HBw, Q_R63, Q_R67, fun h0_ _ => absurd ((hoff 9 (by kernel_rfl)).symm.trans h0_) (by decide), fun h0_ _ => absurd ((hoff 10 (by kernel_rfl)).symm.trans h0_) (by decide), fun h0_ => absurd ((hoff 14 (by kernel_rfl)).symm.trans h0_) (by decide), fun _ h1_ _ => absurd ((hoff 9 (by kernel_rfl)).symm.trans h1_) (by decide), fun _ h1_ _ => absurd ((hoff 9 (by kernel_rfl)).symm.trans h1_) (by decide), fun h0_ => absurd ((hoff 9 (by kernel_rfl)).symm.trans h0_) (by decide), fun h0_ => absurd ((hoff 14 (by kernel_rfl)).symm.trans h0_) (by decide), fun h0_ => absurd ((hoff 15 (by kernel_rfl)).symm.trans h0_) (by decide)⟩
    refine steps_cons ?_ ?_
    · rintro b a w' ⟨v63, v67, A72, n72, c72, v73, A77, n77, c77, m9_, m14_, m15_, ha, Q_HBw, Q_R63, Q_R67, Q_R72, Q_R73, Q_R77, Q_P1, Q_P2, Q_X9_, Q_X14_, Q_X15_⟩ hb_ hon hoff
      refine ⟨_, rfl, fun K hK => ?_⟩
      have e68 : a.tmps[68]? = some (.slice (some ad) n1 c1) := by rw [ha]; exact putSel_on (e := (5, 68, .slice (some ad) n1 c1)) 5 rfl rfl (hon 5 (by kernel_rfl)) rfl
      have e69 : a.tmps[69]? = some (.int .i64 (kk : Int)) := by rw [ha]; exact putSel_on (e := (6, 69, .int .i64 (kk : Int))) 6 rfl rfl (hon 6 (by kernel_rfl)) rfl
      replace ha := Aside0.mk ha
      refine value_ (w1 := w') (v := .pointer (some (ad.add (kk * 2)))) (by rfl) rfl ?_ ?_
      · go_simp
        try first | rfl | assumption
      refine hK.out _ _ ⟨v63, v67, A72, n72, c72, v73, A77, n77, c77, m9_, m14_, m15_, (by rw [ha.out]; exact putSel_upk 7 hb_ rfl rfl rfl), Q_HBw, Q_R63, Q_R67, fun h0_ _ => absurd ((hoff 9 (by kernel_rfl)).symm.trans h0_) (by decide), fun h0_ _ => absurd ((hoff 10 (by kernel_rfl)).symm.trans h0_) (by decide), fun h0_ => absurd ((hoff 14 (by kernel_rfl)).symm.trans h0_) (by decide), fun _ h1_ _ => absurd ((hoff 9 (by kernel_rfl)).symm.trans h1_) (by decide), fun _ h1_ _ => absurd ((hoff 9 (by kernel_rfl)).symm.trans h1_) (by decide), fun h0_ => absurd ((hoff 9 (by kernel_rfl)).symm.trans h0_) (by decide), fun h0_ => absurd ((hoff 14 (by kernel_rfl)).symm.trans h0_) (by decide), fun h0_ => absurd ((hoff 15 (by kernel_rfl)).symm.trans h0_) (by decide)⟩
    refine steps_cons ?_ ?_
    · rintro b a w' ⟨v63, v67, A72, n72, c72, v73, A77, n77, c77, m9_, m14_, m15_, ha, Q_HBw, Q_R63, Q_R67, Q_R72, Q_R73, Q_R77, Q_P1, Q_P2, Q_X9_, Q_X14_, Q_X15_⟩ hb_ hon hoff
      refine ⟨_, rfl, fun K hK => ?_⟩
      have e70 : a.tmps[70]? = some (.pointer (some (ad.add (kk * 2)))) := by rw [ha]; exact putSel_on (e := (7, 70, .pointer (some (ad.add (kk * 2))))) 7 rfl rfl (hon 7 (by kernel_rfl)) rfl
      replace ha := Aside0.mk ha
      have HBw := Aside0.mk Q_HBw
      have hc0 := pw_cell_below HBw.out HX.out.1; have hc1 := pw_cell_below HBw.out HX.out.2
      refine value_ (w1 := w') (v := .agg #[.int .i64 lk.f0, .string lk.f1]) (by rfl) rfl ?_ ?_
      · go_simp
        try first | rfl | assumption
      refine hK.out _ _ ⟨v63, v67, A72, n72, c72, v73, A77, n77, c77, m9_, m14_, m15_, (by rw [ha.out]; exact putSel_upk 8 hb_ rfl rfl rfl), Q_HBw, Q_R63, Q_R67, fun h0_ _ => absurd ((hoff 9 (by kernel_rfl)).symm.trans h0_) (by decide), fun h0_ _ => absurd ((hoff 10 (by kernel_rfl)).symm.trans h0_) (by decide), fun h0_ => absurd ((hoff 14 (by kernel_rfl)).symm.trans h0_) (by decide), fun _ h1_ _ => absurd ((hoff 9 (by kernel_rfl)).symm.trans h1_) (by decide), fun _ h1_ _ => absurd ((hoff 9 (by kernel_rfl)).symm.trans h1_) (by decide), fun h0_ => absurd ((hoff 9 (by kernel_rfl)).symm.trans h0_) (by decide), fun h0_ => absurd ((hoff 14 (by kernel_rfl)).symm.trans h0_) (by decide), fun h0_ => absurd ((hoff 15 (by kernel_rfl)).symm.trans h0_) (by decide)⟩
    refine steps_cons ?_ ?_
    · rintro b a w' ⟨v63, v67, A72, n72, c72, v73, A77, n77, c77, m9_, m14_, m15_, ha, Q_HBw, Q_R63, Q_R67, Q_R72, Q_R73, Q_R77, Q_P1, Q_P2, Q_X9_, Q_X14_, Q_X15_⟩ hb_ hon hoff
      refine ⟨_, rfl, fun K hK => ?_⟩
      have e71 : a.tmps[71]? = some (.agg #[.int .i64 lk.f0, .string lk.f1]) := by rw [ha]; exact putSel_on (e := (8, 71, .agg #[.int .i64 lk.f0, .string lk.f1])) 8 rfl rfl (hon 8 (by kernel_rfl)) rfl
      replace ha := Aside0.mk ha
      have HBw := Aside0.mk Q_HBw
      refine Kd.R_lit_step k60 (w0 := w3) (xs := [lk]) (inner := [.int .i64 lk.f0, .string lk.f1]) (ok := fun _ => True) (okp := fun _ => False) w3.heap.size 60 (by rfl) rfl ?_ (reps_word _ _ _ lk) (fun _ h => h.elim) trivial HBw.out HBw.out.size (by simp) ?_
      · go_simp
      intro v1 w1 ho hb hg hat
      obtain ⟨A9', n9', c9', rfl⟩ := slc ho
      refine hK.out _ _ ⟨v63, v67, A9', n9', c9', v73, A77, n77, c77, (.slice A9' n9' c9'), m14_, m15_, (by rw [ha.out]; exact putSel_upk 9 hb_ rfl rfl rfl), hb, fun h0_ h1_ => (Q_R63 h0_ h1_).grown_none hg, fun h0_ h1_ => (Q_R67 h0_ h1_).grown_none hg, fun _ _ => Tg.of (d := k60) rfl ho, fun h0_ _ => absurd ((hoff 10 (by kernel_rfl)).symm.trans h0_) (by decide), fun h0_ => absurd ((hoff 14 (by kernel_rfl)).symm.trans h0_) (by decide), fun h0_ _ h2_ => (Q_R63 h0_ h2_).ap_right hat, fun h0_ _ h2_ => (Q_R67 h0_ h2_).ap_right hat, fun _ => rfl, fun h0_ => absurd ((hoff 14 (by kernel_rfl)).symm.trans h0_) (by decide), fun h0_ => absurd ((hoff 15 (by kernel_rfl)).symm.trans h0_) (by decide)⟩
    refine steps_cons ?_ ?_
    · rintro b a w' ⟨v63, v67, A72, n72, c72, v73, A77, n77, c77, m9_, m14_, m15_, ha, Q_HBw, Q_R63, Q_R67, Q_R72, Q_R73, Q_R77, Q_P1, Q_P2, Q_X9_, Q_X14_, Q_X15_⟩ hb_ hon hoff
      refine ⟨_, rfl, fun K hK => ?_⟩
      have e67 : a.tmps[67]? = some (v67) := by rw [ha]; exact putSel_on (e := (4, 67, v67)) 4 rfl rfl (hon 4 (by kernel_rfl)) rfl
      have e72 : a.tmps[72]? = some (m9_) := by rw [ha]; exact putSel_on (e := (9, 72, m9_)) 9 rfl rfl (hon 9 (by kernel_rfl)) rfl
      rw [Q_X9_ (hon 9 (by kernel_rfl))] at e72
      replace ha := Aside0.mk ha
      have HBw := Aside0.mk Q_HBw
      have R67 := Aside0.mk (Q_R67 (hon 4 (by kernel_rfl)) hb_)
      have R72 := Aside0.mk (Q_R72 (hon 9 (by kernel_rfl)) hb_)
      refine Kd.R_append_rows_step k60 (w0 := w3) w3.heap.size (by rfl) (.tmp 67) (.tmp 72) 54 60 (.agg #[.int .i64 0, .string ⟨#[]⟩]) 24 rfl Tryd.underlying54 info_word rfl (by decide) (by omega) v67 (lw.take kk) [lk] A72 n72 c72 (fun _ => True) (fun _ => False) (eval_of e67) (eval_of e72) R67.out.any (tg_C R72.out).2.2 (fun x cs h => by rw [k60_open h]; exact k60_mkM _ _ _ x) (fun _ h => h.elim) (fun _ _ => trivial) HBw.out HBw.out.size (by have := HK9.out; have h1_ := (tg_C R72.out).1; rw [List.length_singleton] at h1_; rw [List.length_take]; omega) ?_
      intro v1 w1 ho hb hg hat
      refine hK.out _ _ ⟨v63, v67, A72, n72, c72, v1, A77, n77, c77, m9_, m14_, m15_, (by rw [ha.out]; exact putSel_upk 10 hb_ rfl rfl rfl), hb, fun _ h1_ => absurd ((hon 4 (by kernel_rfl)).symm.trans h1_) (by decide), fun _ h1_ => absurd ((up_self b 10).symm.trans h1_) (by decide), fun _ h1_ => absurd ((up_self b 10).symm.trans h1_) (by decide), fun _ _ => Tg.of (d := k60) rfl ho, fun h0_ => absurd ((hoff 14 (by kernel_rfl)).symm.trans h0_) (by decide), fun _ _ h2_ => absurd ((hon 4 (by kernel_rfl)).symm.trans h2_) (by decide), fun _ _ h2_ => absurd ((up_self b 10).symm.trans h2_) (by decide), Q_X9_, fun h0_ => absurd ((hoff 14 (by kernel_rfl)).symm.trans h0_) (by decide), fun h0_ => absurd ((hoff 15 (by kernel_rfl)).symm.trans h0_) (by decide)⟩
    refine steps_cons ?_ ?_
    · rintro b a w' ⟨v63, v67, A72, n72, c72, v73, A77, n77, c77, m9_, m14_, m15_, ha, Q_HBw, Q_R63, Q_R67, Q_R72, Q_R73, Q_R77, Q_P1, Q_P2, Q_X9_, Q_X14_, Q_X15_⟩ hb_ hon hoff
      refine ⟨_, rfl, fun K hK => ?_⟩
      have e6 : a.tmps[6]? = some (.slice (some ad) n1 c1) := by rw [ha]; exact (putSel_off rfl).trans rfl
      replace ha := Aside0.mk ha
      refine value_ (w1 := w') (v := .slice (some ad) n1 c1) (by rfl) rfl ?_ ?_
      · go_simp
        try first | rfl | assumption
      refine hK.out _ _ ⟨v63, v67, A72, n72, c72, v73, A77, n77, c77, m9_, m14_, m15_, (by rw [ha.out]; exact putSel_upk 11 hb_ rfl rfl rfl), Q_HBw, Q_R63, Q_R67, Q_R72, Q_R73, fun h0_ => absurd ((hoff 14 (by kernel_rfl)).symm.trans h0_) (by decide), Q_P1, Q_P2, Q_X9_, fun h0_ => absurd ((hoff 14 (by kernel_rfl)).symm.trans h0_) (by decide), fun h0_ => absurd ((hoff 15 (by kernel_rfl)).symm.trans h0_) (by decide)⟩
    refine steps_cons ?_ ?_
    · rintro b a w' ⟨v63, v67, A72, n72, c72, v73, A77, n77, c77, m9_, m14_, m15_, ha, Q_HBw, Q_R63, Q_R67, Q_R72, Q_R73, Q_R77, Q_P1, Q_P2, Q_X9_, Q_X14_, Q_X15_⟩ hb_ hon hoff
      refine ⟨_, rfl, fun K hK => ?_⟩
      have e10 : a.tmps[10]? = some (.int .i64 (kk : Int)) := by rw [ha]; exact (putSel_off rfl).trans rfl
      replace ha := Aside0.mk ha
      refine value_ (w1 := w') (v := .int .i64 (kk : Int)) (by rfl) rfl ?_ ?_
      · go_simp
        (try simp only [i64_w])
        try first | rfl | assumption
      refine hK.out _ _ ⟨v63, v67, A72, n72, c72, v73, A77, n77, c77, m9_, m14_, m15_, (by rw [ha.out]; exact putSel_upk 12 hb_ rfl rfl rfl), Q_HBw, Q_R63, Q_R67, Q_R72, Q_R73, fun h0_ => absurd ((hoff 14 (by kernel_rfl)).symm.trans h0_) (by decide), Q_P1, Q_P2, Q_X9_, fun h0_ => absurd ((hoff 14 (by kernel_rfl)).symm.trans h0_) (by decide), fun h0_ => absurd ((hoff 15 (by kernel_rfl)).symm.trans h0_) (by decide)⟩
    refine steps_cons ?_ ?_
    · rintro b a w' ⟨v63, v67, A72, n72, c72, v73, A77, n77, c77, m9_, m14_, m15_, ha, Q_HBw, Q_R63, Q_R67, Q_R72, Q_R73, Q_R77, Q_P1, Q_P2, Q_X9_, Q_X14_, Q_X15_⟩ hb_ hon hoff
      refine ⟨_, rfl, fun K hK => ?_⟩
      have e74 : a.tmps[74]? = some (.slice (some ad) n1 c1) := by rw [ha]; exact putSel_on (e := (11, 74, .slice (some ad) n1 c1)) 11 rfl rfl (hon 11 (by kernel_rfl)) rfl
      have e75 : a.tmps[75]? = some (.int .i64 (kk : Int)) := by rw [ha]; exact putSel_on (e := (12, 75, .int .i64 (kk : Int))) 12 rfl rfl (hon 12 (by kernel_rfl)) rfl
      replace ha := Aside0.mk ha
      refine value_ (w1 := w') (v := .slice A5 n5 c5) (by rfl) rfl ?_ ?_
      · go_simp
        try first | rfl | assumption
      refine hK.out _ _ ⟨v63, v67, A72, n72, c72, v73, A77, n77, c77, m9_, m14_, m15_, (by rw [ha.out]; exact putSel_upk 13 hb_ rfl rfl rfl), Q_HBw, Q_R63, Q_R67, Q_R72, Q_R73, fun h0_ => absurd ((hoff 14 (by kernel_rfl)).symm.trans h0_) (by decide), Q_P1, Q_P2, Q_X9_, fun h0_ => absurd ((hoff 14 (by kernel_rfl)).symm.trans h0_) (by decide), fun h0_ => absurd ((hoff 15 (by kernel_rfl)).symm.trans h0_) (by decide)⟩
    refine steps_cons ?_ ?_
    · rintro b a w' ⟨v63, v67, A72, n72, c72, v73, A77, n77, c77, m9_, m14_, m15_, ha, Q_HBw, Q_R63, Q_R67, Q_R72, Q_R73, Q_R77, Q_P1, Q_P2, Q_X9_, Q_X14_, Q_X15_⟩ hb_ hon hoff
      refine ⟨_, rfl, fun K hK => ?_⟩
      have e73 : a.tmps[73]? = some (v73) := by rw [ha]; exact putSel_on (e := (10, 73, v73)) 10 rfl rfl (hon 10 (by kernel_rfl)) rfl
      have e76 : a.tmps[76]? = some (.slice A5 n5 c5) := by rw [ha]; exact putSel_on (e := (13, 76, .slice A5 n5 c5)) 13 rfl rfl (hon 13 (by kernel_rfl)) rfl
      replace ha := Aside0.mk ha
      have HBw := Aside0.mk Q_HBw
      have R73 := Aside0.mk (Q_R73 (hon 10 (by kernel_rfl)) hb_)
      refine Kd.R_append_rows_step k60 (w0 := w3) w3.heap.size (by rfl) (.tmp 73) (.tmp 76) 54 60 (.agg #[.int .i64 0, .string ⟨#[]⟩]) 24 rfl Tryd.underlying54 info_word rfl (by decide) (by omega) v73 (lw.take kk ++ [lk]) (lw.drop kk) A5 n5 c5 (fun _ => True) (fun _ => False) (eval_of e73) (eval_of e76) R73.out.any (Kd.C_below HC5.out HBw.out) (fun x cs h => by rw [k60_open h]; exact k60_mkM _ _ _ x) (fun _ h => h.elim) (fun _ _ => trivial) HBw.out HBw.out.size (by have := HK9.out; have h1_ := Hn5.out; rw [List.length_drop] at h1_; rw [List.length_append, List.length_take, List.length_singleton]; omega) ?_
      intro v1 w1 ho hb hg hat
      obtain ⟨A9', n9', c9', rfl⟩ := slc ho
      refine hK.out _ _ ⟨v63, v67, A72, n72, c72, v73, A9', n9', c9', m9_, (.slice A9' n9' c9'), m15_, (by rw [ha.out]; exact putSel_upk 14 hb_ rfl rfl rfl), hb, fun _ h1_ => absurd ((hon 4 (by kernel_rfl)).symm.trans h1_) (by decide), fun _ h1_ => absurd ((hon 10 (by kernel_rfl)).symm.trans h1_) (by decide), fun _ h1_ => absurd ((hon 10 (by kernel_rfl)).symm.trans h1_) (by decide), fun _ h1_ => absurd ((up_self b 14).symm.trans h1_) (by decide), fun _ => Tg.of (d := k60) rfl ho, fun _ _ h2_ => absurd ((hon 4 (by kernel_rfl)).symm.trans h2_) (by decide), fun _ _ h2_ => absurd ((hon 10 (by kernel_rfl)).symm.trans h2_) (by decide), Q_X9_, fun _ => rfl, fun h0_ => absurd ((hoff 15 (by kernel_rfl)).symm.trans h0_) (by decide)⟩
    refine steps_cons ?_ ?_
    · rintro b a w' ⟨v63, v67, A72, n72, c72, v73, A77, n77, c77, m9_, m14_, m15_, ha, Q_HBw, Q_R63, Q_R67, Q_R72, Q_R73, Q_R77, Q_P1, Q_P2, Q_X9_, Q_X14_, Q_X15_⟩ hb_ hon hoff
      refine ⟨_, rfl, fun K hK => ?_⟩
      have e77 : a.tmps[77]? = some (m14_) := by rw [ha]; exact putSel_on (e := (14, 77, m14_)) 14 rfl rfl (hon 14 (by kernel_rfl)) rfl
      rw [Q_X14_ (hon 14 (by kernel_rfl))] at e77
      replace ha := Aside0.mk ha
      refine value_ (w1 := w') (v := .slice A77 n77 c77) (by rfl) rfl ?_ ?_
      · go_simp
        try first | rfl | assumption
      refine hK.out _ _ ⟨v63, v67, A72, n72, c72, v73, A77, n77, c77, m9_, m14_, (.slice A77 n77 c77), (by rw [ha.out]; exact putSel_upk 15 hb_ rfl rfl rfl), Q_HBw, fun _ h1_ => absurd ((hon 4 (by kernel_rfl)).symm.trans h1_) (by decide), fun _ h1_ => absurd ((hon 10 (by kernel_rfl)).symm.trans h1_) (by decide), fun _ h1_ => absurd ((hon 10 (by kernel_rfl)).symm.trans h1_) (by decide), fun _ h1_ => absurd ((hon 14 (by kernel_rfl)).symm.trans h1_) (by decide), Q_R77, fun _ _ h2_ => absurd ((hon 4 (by kernel_rfl)).symm.trans h2_) (by decide), fun _ _ h2_ => absurd ((hon 10 (by kernel_rfl)).symm.trans h2_) (by decide), Q_X9_, Q_X14_, fun _ => rfl⟩
    exact steps_nil
  rintro b a w_8 hall ⟨v63, v67, A72, n72, c72, v73, A77, n77, c77, m9_, m14_, m15_, ha, Q_HBw, Q_R63, Q_R67, Q_R72, Q_R73, Q_R77, Q_P1, Q_P2, Q_X9_, Q_X14_, Q_X15_⟩
  clear HBw
  have hb0_ := hall 0 (by kernel_rfl)
  have hb1_ := hall 1 (by kernel_rfl)
  have hb2_ := hall 2 (by kernel_rfl)
  have hb3_ := hall 3 (by kernel_rfl)
  have hb4_ := hall 4 (by kernel_rfl)
  have hb5_ := hall 5 (by kernel_rfl)
  have hb6_ := hall 6 (by kernel_rfl)
  have hb7_ := hall 7 (by kernel_rfl)
  have hb8_ := hall 8 (by kernel_rfl)
  have hb9_ := hall 9 (by kernel_rfl)
  have hb10_ := hall 10 (by kernel_rfl)
  have hb11_ := hall 11 (by kernel_rfl)
  have hb12_ := hall 12 (by kernel_rfl)
  have hb13_ := hall 13 (by kernel_rfl)
  have hb14_ := hall 14 (by kernel_rfl)
  have hb15_ := hall 15 (by kernel_rfl)
  subst ha
  obtain rfl := Q_X9_ hb9_
  obtain rfl := Q_X14_ hb14_
  obtain rfl := Q_X15_ hb15_
  simp only [putSel, hb0_, hb1_, hb2_, hb3_, hb4_, hb5_, hb6_, hb7_, hb8_, hb9_, hb10_, hb11_, hb12_, hb13_, hb14_, hb15_, if_true, Act.put, List.setIfInBounds_toArray, List.set_cons_zero, List.set_cons_succ]
  have HBw := Aside0.mk Q_HBw
  clear Q_HBw
  clear Q_R63
  clear Q_R67
  clear Q_R72
  clear Q_R73
  have R77 := Aside0.mk (Q_R77 hb14_)
  clear Q_R77
  clear Q_P1
  clear Q_P2
  clear hall hb0_ hb1_ hb2_ hb3_ hb4_ hb5_ hb6_ hb7_ hb8_ hb9_ hb10_ hb11_ hb12_ hb13_ hb14_ hb15_
  have HC77 := Aside0.mk (show n77 ≤ c77 ∧ Kd.C k60 w_8 A77 n77 ([wo] ++ (T.take j ++ (T.drop j).take 1 ++ T.drop j) ++ [wc]) by
    obtain ⟨_, h2, h3⟩ := tg_C R77.out
    rw [HTw2.out] at h3
    exact ⟨h2, h3⟩)
  have HM8 := Aside0.mk (HM3.out.trans (HBw.out.mono HM3.out.size))
  clear R77 HTw2 HBw HM3 HC3 HC5 HC6 Hn5 Hc5 Hn6 hcut hto hk1 hk0 HX HK9 Hn1 Hc1 HJ
  obtain ⟨g, nb, cb, w_9, hcv, Hnb, hI, hB, hg⟩ := bytes_of s w_8
  have HI := Aside0.mk hI
  have HB := Aside0.mk hB
  have HG := Aside0.mk hg
  have hnb9 : (nb : Int) ≤ 100 := by have := Hnb.out; have := Hs9.out; omega
  clear hI hB hg
  go_wp2_with fail
  clear hcv
  go_loopw [82] (fun i wr => ∃ k : Nat, k ≤ nb ∧ i = .int .i64 k ∧ Aside0 (IsB wr g (half (bytesOf s) k)) ∧ Aside0 (Below w_8.heap.size w_8 wr)) (fun i _ => nb - (intOf i).toNat)
  case atStart => exact ⟨0, Nat.zero_le _, rfl, ⟨by have := HI.out; simpa [half] using this⟩, HB⟩
  case round =>
    clear HI HB
    obtain ⟨k, hk, rfl, HI, HB⟩ := hrel
    by_cases hlt : k < nb
    · obtain ⟨x, hx⟩ : ∃ x, (bytesOf s)[k]? = some x := ⟨_, List.getElem?_eq_getElem (by rw [bytesOf_length]; have := Hnb.out; omega)⟩
      have hc := HI.out.cell (half_get _ k x hx)
      have hf : wr.frozen? ⟨g, k, none⟩ = false := HI.out.free (by rw [half_len, bytesOf_length]; have := Hnb.out; omega)
      have hb := bytes_lt s k x hx
      have Hx := Aside0.mk hx
      clear hx
      by_cases h1 : 65 ≤ x
      · by_cases h2 : x ≤ 90
        · have e2 : IntKind.u8.wrap (x + 32) = x + 32 := by simp [IntKind.wrap, IntKind.bits, IntKind.signed]; omega
          go_wp2_with fail
          go_roundw
          case rel => exact ⟨k + 1, by omega, by go_num, ⟨by rw [half_set _ k x Hx.out, show lowI x = x + 32 by unfold lowI; rw [if_pos ⟨h1, h2⟩]]; exact HI.out.set k _⟩, ⟨HB.out.setCell (by exact HG.out) _⟩⟩
          case measure => simp [intOf]; omega
        · go_wp2_with fail
          go_roundw
          case rel => exact ⟨k + 1, by omega, by go_num, ⟨by rw [half_same _ k x Hx.out (by unfold lowI; rw [if_neg (by omega)])]; exact HI.out⟩, HB⟩
          case measure => simp [intOf]; omega
      · go_wp2_with fail
        go_roundw
        case rel => exact ⟨k + 1, by omega, by go_num, ⟨by rw [half_same _ k x Hx.out (by unfold lowI; rw [if_neg (by omega)])]; exact HI.out⟩, HB⟩
        case measure => simp [intOf]; omega
    · have hke : k = nb := by omega
      subst hke
      have hst := string_of_reads (src := 61) (dst := 9) (c := cb) Tryd.underlying61 Tryd.underlying5 Tryd.underlying9 (HI.out.reads (n := k) (by rw [half_len, bytesOf_length]; exact Hnb.out) (by rw [half_len, bytesOf_length]; have := Hs9.out; omega))
      have e1 : half (bytesOf s) k = (bytesOf s).map lowI := by
        unfold half
        rw [List.take_of_length_le (by rw [bytesOf_length, Hnb.out]; exact Nat.le_refl _), List.drop_of_length_le (by rw [bytesOf_length, Hnb.out]; exact Nat.le_refl _), List.append_nil]
      rw [e1, show strOfNums ((bytesOf s).map lowI) = lowB s from rfl] at hst
      clear e1
      have HPt := Aside0.mk (HP3.out j HJT.out)
      rw [(HTw.out j (by have := HTl.out; have := HJT.out; omega)).1] at HPt
      have HM9 := Aside0.mk (HM8.out.trans (HB.out.mono HM8.out.size))
      have HCt := Aside0.mk (And.intro HC77.out.1 (Kd.C_below HC77.out.2 HB.out))
      clear HC77 HM8
      go_wp2_with (first
        | (go_at_call 22; have HMx := HM9.out; refine (HS2.out _).mono ?_; clear HMx; rintro e_ w2 ⟨A2, n2, c2, rfl, hn, hc, hC, hb⟩; have HM10 := Aside0.mk (HM9.out.trans (hb.mono HM9.out.size)); have HCm := Aside0.mk (And.intro hc hC); have HCu := Aside0.mk (And.intro HCt.out.1 (Kd.C_below HCt.out.2 hb)); clear hn hb hC hc HM9 HS2 HCt hst; skip)
        | (go_at_call 23; have HMx := HM10.out; refine (HPt.out _ _ _ _ HCu.out.2 HCu.out.1).mono ?_; clear HMx; rintro e_ w3 ⟨rfl, hb⟩; have HM11 := Aside0.mk (HM10.out.trans (hb.mono HM10.out.size)); have HCn := Aside0.mk (And.intro HCm.out.1 (Kd.C_below HCm.out.2 hb)); clear hb HM10 HPt HCm HCu; skip)
        | (go_at_call 23; have HMx := HM11.out; refine (HP2.out _ _ _ _ HCn.out.2 HCn.out.1).mono ?_; clear HMx; rintro e_ w4 ⟨rfl, hb⟩; have HM12 := Aside0.mk (HM11.out.trans (hb.mono HM11.out.size)); clear hb HM11 HP2 HCn; skip)
        | (go_at_call 24; refine (HAw.out _ HM12.out).mono ?_; rintro e_ w5 ⟨rfl, hb⟩; have HM13 := Aside0.mk (HM12.out.trans (hb.mono HM12.out.size)); clear hb HM12; skip))
      go_ret
      exact ⟨rfl, HM13.out⟩
end Go.Proofs.YtplfpbfmnogckaaDoor.ItK
