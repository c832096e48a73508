-- The used parts of 1 texts, laid together by merge.py.
import Derived.Test.YtjljgcceapkdcaaZQ25
section
namespace Go.Proofs.Ytjljgcceapkdcaa.RpN
open Go.RowKit Go.Proofs.YtjljgcceapkdcaaW.PrintWords Go.Proofs.YtjljgcceapkdcaaW.PrintLast Go.Proofs.YtjljgcceapkdcaaW.PrintMore Go.Proofs.Ytjljgcceapkdcaa.PkH Go.Proofs.Ytjljgcceapkdcaa.RkA Go.Proofs.Ytjljgcceapkdcaa.RkB Go.Proofs.Ytjljgcceapkdcaa.RkC Go.Proofs.Ytjljgcceapkdcaa.RkD Go.Proofs.Ytjljgcceapkdcaa.RkE Go.Proofs.Ytjljgcceapkdcaa.RkF Go.Proofs.Ytjljgcceapkdcaa.RkG Go.Proofs.Ytjljgcceapkdcaa.RkI Go.Proofs.Ytjljgcceapkdcaa.RkJ Go.Proofs.Ytjljgcceapkdcaa.RkK Go.Proofs.Ytjljgcceapkdcaa.RkL Go.Proofs.Ytjljgcceapkdcaa.RkQ Go.Proofs.Ytjljgcceapkdcaa.RkS Go.Proofs.Ytjljgcceapkdcaa.RkU Go.Proofs.Ytjljgcceapkdcaa.RkV Go.Proofs.Ytjljgcceapkdcaa.SfA Go.Proofs.Ytjljgcceapkdcaa.SfB Go.Proofs.Ytjljgcceapkdcaa.SfP Go.Proofs.Ytjljgcceapkdcaa.SfQ Go.Proofs.Ytjljgcceapkdcaa.SfX Go.Proofs.Ytjljgcceapkdcaa.RpA Go.Proofs.Ytjljgcceapkdcaa.RpB Go.Proofs.Ytjljgcceapkdcaa.RpC Go.Proofs.Ytjljgcceapkdcaa.RpD Go.Proofs.Ytjljgcceapkdcaa.RpE Go.Proofs.Ytjljgcceapkdcaa.RpF Go.Proofs.Ytjljgcceapkdcaa.RpG Go.Proofs.Ytjljgcceapkdcaa.RpH Go.Proofs.Ytjljgcceapkdcaa.RpI Go.Proofs.Ytjljgcceapkdcaa.RpJ Go.Proofs.Ytjljgcceapkdcaa.RkO Go.Proofs.Ytjljgcceapkdcaa.RpK Go.Proofs.Ytjljgcceapkdcaa.RkM Go.Proofs.Ytjljgcceapkdcaa.RpL Go.Proofs.Ytjljgcceapkdcaa.RpM Go.Proofs.Ytjljgcceapkdcaa.Rw
set_option linter.unusedVariables false
set_option linter.unusedSimpArgs false
def t_mailsacklaw13_RackPlays.T15 : Bool × List (List Nat × List Nat) := (true, [([], []), ([], []), ([1], [1]), ([], []), ([3], [3]), ([0, 2, 4], [0, 2, 4]), ([], []), ([], []), ([7], [7]), ([], []), ([9], [9]), ([6, 8, 10, 5], [6, 8, 10]), ([5, 11], [5, 11]), ([12, 11, 0, 1, 2, 3, 4, 5, 6, 7, 8, 9, 10, 11, 12], [12])])
def t_mailsacklaw13_RackPlays.B15 : List Nat := [0, 0, 2, 0, 8, 31, 0, 0, 128, 0, 512, 2047, 4095, 8191]
theorem t_mailsacklaw13_RackPlays.tab15 : rtab .any (opsOf Try.f6 15) = t_mailsacklaw13_RackPlays.T15 := by kernel_rfl
theorem t_mailsacklaw13_RackPlays.bits15 : waitsOk t_mailsacklaw13_RackPlays.T15.2 t_mailsacklaw13_RackPlays.B15 = true := by kernel_rfl
def t_mailsacklaw13_RackPlays.T17 : Bool × List (List Nat × List Nat) := (true, [([], []), ([], []), ([1], [1]), ([0, 2], [0, 2]), ([], []), ([], []), ([5], [5]), ([4, 6, 3], [4, 6]), ([3, 7], [3, 7]), ([8, 7, 0, 1, 2, 3, 4, 5, 6, 7, 8], [8])])
def t_mailsacklaw13_RackPlays.B17 : List Nat := [0, 0, 2, 7, 0, 0, 32, 127, 255, 511]
theorem t_mailsacklaw13_RackPlays.tab17 : rtab .any (opsOf Try.f6 17) = t_mailsacklaw13_RackPlays.T17 := by kernel_rfl
theorem t_mailsacklaw13_RackPlays.bits17 : waitsOk t_mailsacklaw13_RackPlays.T17.2 t_mailsacklaw13_RackPlays.B17 = true := by kernel_rfl
theorem start_two {w w2 w3 : World} {g gq b1 b2 : Nat} {room : Int} {q : RR} (h1 : RackAt w w2 g (newRS room b1 b2)) (h2 : ∀ S : Nat → Prop, (∀ k, S k → k < w2.heap.size) → RefAt w w3 S gq q) (hb : Below w2.heap.size w2 w3) (ha : absR q = ⟨max 0 (min room 1000000), [], [], [], 0, false, 0⟩) : At w w3 g gq 0 := by
  refine ⟨newRS room b1 b2, q, ⟨h1.below hb, h2 _ (fun k hk => RkI.S_lt h1 k hk), fun A hA => ?_⟩, ?_, ?_⟩
  · rcases hA with ⟨x, hx, _⟩ | ⟨x, hx, _⟩ | ⟨x, hx, _⟩ <;> cases hx
  · rw [ha]
    refine ⟨?_, rfl, rfl, rfl, rfl, rfl, .inr (.inl ⟨rfl, rfl⟩), ⟨Int.le_refl 0, (by decide : (0 : Int) ≤ 1099511627777)⟩, srt_nil, srt_nil⟩
    show max 0 (min room 1000000) = clampR room
    unfold clampR
    (repeat' split) <;> omega
  · exact ⟨Nat.le_refl 0, Nat.le_refl 0, Int.le_refl 0, Int.le_refl 0⟩
set_option maxRecDepth 100000 in
set_option maxHeartbeats 16000000 in
theorem rackPlays_calls (room : Int) (Al : Option Addr) (cl : Nat) (l : List S45) (w : World) (hCl : Kd.C k45 w Al l.length l) (hcl : l.length ≤ cl) (hbl : ∀ x ∈ l, Bts x.f3 ∧ Bts x.f4 ∧ x.f1 ≤ 9223372036854775807 ∧ x.f2.size ≤ 140737488355328) (hl6 : l.length ≤ 4611686018427387904) :
    Calls Try.prog 6 #[.int .i64 room, .slice Al l.length cl] w fun e w' => e = .returned (.bool true) ∧ Below w.heap.size w w' := by
  have hu45 := Try.underlying45
  have HCl := Aside0.mk (And.intro hcl hCl)
  have HBy := Aside0.mk hbl
  obtain ⟨r1, hr1, hr2, hr3, hh1⟩ := heavy_calls l hl6
  have HH1 := Aside0.mk hh1
  have HZ1 := Aside0.mk hr3
  have HNw := Aside0.mk (fun W (hb : Below w.heap.size w W) => new_calls w room W hb)
  have HNr := Aside0.mk (fun W (hb : Below w.heap.size w W) => rnew_calls w room W hb)
  obtain ⟨n, hn⟩ : ∃ n, l.length = n := ⟨_, rfl⟩
  have HN := Aside0.mk hn
  rw [hn] at HCl HZ1 ⊢
  have HH1 := Aside0.mk (show Calls Try.prog 27 #[.slice Al n cl] w (HeavyP w l r1) from by
    have h := HH1.out w Al cl (by rw [HN.out]; exact HCl.out.2) (by rw [HN.out]; exact HCl.out.1)
    rwa [HN.out] at h)
  clear hcl hCl hbl hh1 hr3 hl6 hn
  go_enter Try.func6, Try.ntmps6
  by_cases hgt : 0 < r1
  · have hd : decide (0 < r1) = true := decide_eq_true hgt
    go_wp2_with (first
      | (go_at_call 27; refine HH1.out.mono ?_; rintro e_ wh1 ⟨rfl, hb⟩; have HBh1 := Aside0.mk hb; clear hb HH1; skip)
      | (go_at_call 14; refine (awake_calls _).mono ?_; rintro e_ wa ⟨rfl, hb⟩; have HBa := Aside0.mk (HBh1.out.trans (hb.mono HBh1.out.size)); clear hb; skip))
    go_ret
    exact ⟨rfl, HBa.out⟩
  have hd : decide (0 < r1) = false := decide_eq_false hgt
  have hn100 : n ≤ 100 := HZ1.out (by omega)
  clear hgt
  go_upto_region 6 with (first
    | (go_at_call 27; refine HH1.out.mono ?_; rintro e_ wh1 ⟨rfl, hb⟩; have HBh1 := Aside0.mk hb; clear hb HH1; skip)
    | (go_at_call 15; refine (HNw.out _ HBh1.out).mono ?_; rintro e_ w2 ⟨g, b1, b2, rfl, hR, hb⟩; have HRn := Aside0.mk hR; have HB2 := Aside0.mk (HBh1.out.trans (hb.mono HBh1.out.size)); clear hR hb HNw; skip)
    | (go_at_call 29; refine (HNr.out _ HB2.out).mono ?_; rintro e_ w3 ⟨gq, q0, rfl, hQ, ha, hgq, hb⟩; have HS := Aside0.mk (start_two HRn.out hQ hb ha); clear hQ ha hgq hb HNr HRn; skip))
  clear hd hr1 hr2
  go_wp2_with fail
  go_loopw [26] (fun i wr => ∃ k : Nat, k ≤ n ∧ i = .int .i64 k ∧ Aside0 (At w wr g gq k)) (fun i _ => n - (intOf i).toNat)
  case atStart => exact ⟨0, Nat.zero_le _, rfl, HS⟩
  case round =>
    clear HS
    obtain ⟨k, hk, rfl, HS⟩ := hrel
    obtain ⟨r, q, hT, hRel, hBd⟩ := HS.out
    clear HS
    by_cases hlt : k < n
    · obtain ⟨ad, A3, c3, A4, c4, e1, x0, x1, x2, x3, x4, l3, g3, l4, g4⟩ := at_T45 HCl.out.2 (k : Int) (by omega) (by omega)
      obtain ⟨x, hx⟩ : ∃ x, l[k]? = some x := ⟨_, List.getElem?_eq_getElem (by rw [HN.out]; exact hlt)⟩
      have hrd : rd_T45 l (k : Int) = x := by
        unfold rd_T45
        rw [Int.toNat_natCast, List.getD_eq_getElem?_getD, hx]
        rfl
      rw [hrd] at x0 x1 x2 x3 x4 l3 g3 l4 g4
      rw [Int.toNat_natCast] at x0 x1 x2 x3 x4
      have hbx := HBy.out x (List.mem_of_getElem? hx)
      subst e1
      rw [← nums_size] at x3 l3
      have HD3 := Aside0.mk (fun (W : World) (hb : Below w.heap.size w W) => Kd.C_below (C_bts g3 hbx.1) hb)
      have HL3 := Aside0.mk l3
      have HD4 := Aside0.mk (And.intro g4 (And.intro l4 hbx.2.1))
      have HF1 := Aside0.mk hbx.2.2.1
      have HF2 := Aside0.mk hbx.2.2.2
      have hbel := hT.ra.bel
      replace x0 := pw_cell_below hbel x0
      replace x1 := pw_cell_below hbel x1
      replace x2 := pw_cell_below hbel x2
      replace x3 := pw_cell_below hbel x3
      replace x4 := pw_cell_below hbel x4
      have HTw := Aside0.mk hT
      have HRe := Aside0.mk hRel
      have HBd := Aside0.mk hBd
      have HQb := Aside0.mk (q_bd hRel hBd (by omega))
      have HRb := Aside0.mk (show r.ns.length ≤ 100 ∧ r.ls.length ≤ 100 ∧ r.ss.length ≤ 100 ∧ 0 ≤ r.writes ∧ r.writes ≤ 100 by have h := hBd.r; omega)
      clear hx hrd l3 g3 l4 g4 hbx hbel hT hRel hBd
      have M0_0 := Aside0.mk (Below.refl wr.heap.size wr)
      go_upto_region 14 with ((with_reducible refine gate_dst (N := 8) rfl ?_); refine box_event ?hgY8 (N := 8) ?hdY8 (cs := #[.int .i64 0, .int .i64 0, .string (⟨#[]⟩ : ByteArray), .slice none 0 0, .slice none 0 0]) (t := 45) ?hrY8 ?_; (case hdY8 => rfl); (case hgY8 => rfl); (case hrY8 => first | (go_simp; done) | (go_simp; rfl)); intro g_Y hg_ w_1 hbx_ hb_; have L0_Y := Aside0.mk (show wr.heap.size ≤ g_Y by have := M0_0.out.size; omega); have M0_1 := Aside0.mk (M0_0.out.trans (hb_.mono M0_0.out.size)); have Y_1 := Aside0.mk hbx_; clear hg_ hbx_ hb_ M0_0; have zY0 := blk_cell Y_1.out 0; have yY0 := blk_frozen Y_1.out 0; have zY1 := blk_cell Y_1.out 1; have yY1 := blk_frozen Y_1.out 1; have zY2 := blk_cell Y_1.out 2; have yY2 := blk_frozen Y_1.out 2; have zY3 := blk_cell Y_1.out 3; have yY3 := blk_frozen Y_1.out 3; have zY4 := blk_cell Y_1.out 4; have yY4 := blk_frozen Y_1.out 4; skip)
      obtain ⟨w2, e2, GY2, HB2⟩ := fresh5 M0_1.out L0_Y.out Y_1.out (.int .i64 x.f0) (.int .i64 x.f1) (.string x.f2) (.slice A3 (strOfNums x.f3).size c3) (.slice A4 x.f4.length c4)
      rw [e2]
      have HNs := Aside0.mk (show ¬ r.S g g_Y from fun hs => by have h1 := RkI.S_lt HTw.out.ra _ hs; have h2 := L0_Y.out; omega)
      have HNt := Aside0.mk (show ¬ q.T gq g_Y from fun hs => by have h1 := HTw.out.rf.T_lt _ hs; have h2 := L0_Y.out; omega)
      clear e2 zY0 zY1 zY2 zY3 zY4 yY0 yY1 yY2 yY3 yY4 x0 x1 x2 x3 x4
      have y0 := blk_cell GY2 0
      have HT0 := Aside0.mk (HTw.out.below HB2)
      have GY := Aside0.mk GY2
      clear GY2 HB2
      obtain ⟨d3, hd3⟩ : ∃ d3, strOfNums x.f3 = d3 := ⟨_, rfl⟩
      rw [hd3] at HD3 HL3 GY y0
      clear hd3
      by_cases h0 : x.f0 = 0
      · have hz : rwE (absR q) x.f2 d3 = wErr (abs r) x.f2 d3 := (HRe.out.write (by omega) x.f2 d3).1
        obtain ⟨z, hze⟩ : ∃ z, wErr (abs r) x.f2 d3 = z := ⟨_, rfl⟩
        have n0 : (x.f0 == 0) = true := by rw [h0]; rfl
        have m0 : decide (x.f0 = 0) = true := decide_eq_true h0
        obtain ⟨P1, hP1⟩ : ∃ P1, opK (wErr (abs r) x.f2 d3) (abs r) (x.f2, false, d3) = P1 := ⟨_, rfl⟩
        obtain ⟨Q1, hQ1⟩ : ∃ Q1, rwQ (absR q) x.f2 d3 = Q1 := ⟨_, rfl⟩
        have HRl := Aside0.mk (show Rel (k + 1) P1 Q1 from by rw [← hP1, ← hQ1]; exact (HRe.out.write (by omega) x.f2 d3).2)
        have HBl1 := Aside0.mk (show Bd P1 (k + 1) from by rw [← hP1]; exact HBd.out.op _ _)
        have HW1 := Aside0.mk (fun (W : World) (hT : Two w W g r gq q) => show Calls Try.prog 16 #[.pointer (some ⟨g, 0, none⟩), .string x.f2, .slice A3 d3.size c3] W (fun e w' => e = .returned (.int .i64 z) ∧ Kept W w' (r.S g) ∧ ∃ r', abs r' = P1 ∧ Two w w' g r' gq q) from by
          have h := c_write x.f2 A3 c3 d3 hT (HD3.out W hT.ra.bel) HL3.out HRb.out
          rw [hP1, hze] at h
          exact h)
        have HW2 := Aside0.mk (fun (W : World) (hT : ∃ r', abs r' = P1 ∧ Two w W g r' gq q) => show Calls Try.prog 30 #[.pointer (some ⟨gq, 0, none⟩), .string x.f2, .slice A3 d3.size c3] W (fun e w' => e = .returned (.int .i64 z) ∧ Kept W w' (q.T gq) ∧ ∃ r' q', abs r' = P1 ∧ absR q' = Q1 ∧ Two w w' g r' gq q') from by
          have h := c_rwrite x.f2 A3 c3 d3 hT (HD3.out W (by obtain ⟨_, _, h⟩ := hT; exact h.ra.bel)) HL3.out HQb.out
          rw [hz, hze, hQ1] at h
          exact h)
        clear hz hze hP1 hQ1 h0
        go_upto_region 15 with fail
        clear y0
        refine start_ (n := 14) (S := fun w' => True) (ds := []) #[false, false, false, false, false, false, false, false, false, false, false, false, false, false] (by kernel_rfl) rfl rfl trivial (fun hHeld => ?_)
        refine with_tabW t_mailsacklaw13_RackPlays.tab15 t_mailsacklaw13_RackPlays.bits15 (fun HT_ HW_ => ?_)
        have hd_ := (below_drew1 (Below.refl w2.heap.size w2))
        have n_HT0 := Aside0.mk (Two.below HT0.out hd_)
        have n_GY := Aside0.mk ((show w2.drew.heap[g_Y]? = _ from GY.out))
        clear HT0
        have HT0 := n_HT0
        clear n_HT0
        clear GY
        have GY := n_GY
        clear n_GY
        generalize w2.drew = w_d at *
        clear hd_
        refine inv_at [0, 1, 2, 3, 4, 5, 6, 7, 8, 9, 10, 11, 12, 13] (fun a0_ b a w' => a = putSel a0_ b [(0, 58, .pointer (some ⟨g, 0, none⟩)), (1, 59, .pointer (some ⟨g_Y, 2, none⟩)), (2, 60, .string x.f2), (3, 61, .pointer (some ⟨g_Y, 3, none⟩)), (4, 62, .slice A3 d3.size c3), (5, 63, .int .i64 z), (6, 64, .pointer (some ⟨gq, 0, none⟩)), (7, 65, .pointer (some ⟨g_Y, 2, none⟩)), (8, 66, .string x.f2), (9, 67, .pointer (some ⟨g_Y, 3, none⟩)), (10, 68, .slice A3 d3.size c3), (11, 69, .int .i64 z), (12, 70, .bool true), (13, 9, .bool true)] ∧ (b 5 = false → Two w w' g r gq q) ∧ (b 11 = false → w'.heap[g_Y]? = some (.cells #[.int .i64 x.f0, .int .i64 x.f1, .string x.f2, .slice A3 d3.size c3, .slice A4 x.f4.length c4] 45 (0, 0))) ∧ (b 5 = true → b 11 = false → ∃ r', abs r' = P1 ∧ Two w w' g r' gq q) ∧ (b 11 = true → ∃ r' q', abs r' = P1 ∧ absR q' = Q1 ∧ Two w w' g r' gq q')) HT_.out HW_.out (by kernel_rfl) (by kernel_rfl) ?_ ?_ ?_
        · exact ⟨by simp only [putSel, Bool.false_eq_true, if_false], fun _ => HT0.out, fun _ => GY.out, fun h_ => absurd h_ (by decide), fun h_ => absurd h_ (by decide)⟩
        · skip
          clear GY HT0
          refine steps_cons ?_ ?_
          · rintro b a w' ⟨ha, Q_HT0, Q_GY, Q_HT1, Q_HT2⟩ hb_ hon hoff
            refine ⟨_, rfl, fun K hK => ?_⟩
            have e5 : a.tmps[5]? = some (.pointer (some ⟨g, 0, none⟩)) := by rw [ha]; exact (putSel_off rfl).trans rfl
            replace ha := Aside0.mk ha
            refine value_ (w1 := w') (v := .pointer (some ⟨g, 0, none⟩)) (by rfl) rfl ?_ ?_
            · go_simp
              try first | rfl | assumption
            refine hK.out _ _ ⟨(by rw [ha.out]; exact putSel_upk 0 hb_ rfl rfl rfl), Q_HT0, Q_GY, fun h0_ _ => absurd ((hoff 5 (by kernel_rfl)).symm.trans h0_) (by decide), fun h0_ => absurd ((hoff 11 (by kernel_rfl)).symm.trans h0_) (by decide)⟩
          refine steps_cons ?_ ?_
          · rintro b a w' ⟨ha, Q_HT0, Q_GY, Q_HT1, Q_HT2⟩ hb_ hon hoff
            refine ⟨_, rfl, fun K hK => ?_⟩
            have e8 : a.tmps[8]? = some (.pointer (some ⟨g_Y, 0, none⟩)) := by rw [ha]; exact (putSel_off rfl).trans rfl
            replace ha := Aside0.mk ha
            refine value_ (w1 := w') (v := .pointer (some ⟨g_Y, 2, none⟩)) (by rfl) rfl ?_ ?_
            · go_simp
              try first | rfl | assumption
            refine hK.out _ _ ⟨(by rw [ha.out]; exact putSel_upk 1 hb_ rfl rfl rfl), Q_HT0, Q_GY, fun h0_ _ => absurd ((hoff 5 (by kernel_rfl)).symm.trans h0_) (by decide), fun h0_ => absurd ((hoff 11 (by kernel_rfl)).symm.trans h0_) (by decide)⟩
          refine steps_cons ?_ ?_
          · rintro b a w' ⟨ha, Q_HT0, Q_GY, Q_HT1, Q_HT2⟩ hb_ hon hoff
            refine ⟨_, rfl, fun K hK => ?_⟩
            have e59 : a.tmps[59]? = some (.pointer (some ⟨g_Y, 2, none⟩)) := by rw [ha]; exact putSel_on (e := (1, 59, .pointer (some ⟨g_Y, 2, none⟩))) 1 rfl rfl (hon 1 (by kernel_rfl)) rfl
            replace ha := Aside0.mk ha
            have GY := Aside0.mk (Q_GY (hoff 11 (by kernel_rfl)))
            have hc0 := blk_cell GY.out 2
            refine value_ (w1 := w') (v := .string x.f2) (by rfl) rfl ?_ ?_
            · go_simp
              try first | rfl | assumption
            refine hK.out _ _ ⟨(by rw [ha.out]; exact putSel_upk 2 hb_ rfl rfl rfl), Q_HT0, Q_GY, fun h0_ _ => absurd ((hoff 5 (by kernel_rfl)).symm.trans h0_) (by decide), fun h0_ => absurd ((hoff 11 (by kernel_rfl)).symm.trans h0_) (by decide)⟩
          refine steps_cons ?_ ?_
          · rintro b a w' ⟨ha, Q_HT0, Q_GY, Q_HT1, Q_HT2⟩ hb_ hon hoff
            refine ⟨_, rfl, fun K hK => ?_⟩
            have e8 : a.tmps[8]? = some (.pointer (some ⟨g_Y, 0, none⟩)) := by rw [ha]; exact (putSel_off rfl).trans rfl
            replace ha := Aside0.mk ha
            refine value_ (w1 := w') (v := .pointer (some ⟨g_Y, 3, none⟩)) (by rfl) rfl ?_ ?_
            · go_simp
              try first | rfl | assumption
            refine hK.out _ _ ⟨(by rw [ha.out]; exact putSel_upk 3 hb_ rfl rfl rfl), Q_HT0, Q_GY, fun h0_ _ => absurd ((hoff 5 (by kernel_rfl)).symm.trans h0_) (by decide), fun h0_ => absurd ((hoff 11 (by kernel_rfl)).symm.trans h0_) (by decide)⟩
          refine steps_cons ?_ ?_
          · rintro b a w' ⟨ha, Q_HT0, Q_GY, Q_HT1, Q_HT2⟩ hb_ hon hoff
            refine ⟨_, rfl, fun K hK => ?_⟩
            have e61 : a.tmps[61]? = some (.pointer (some ⟨g_Y, 3, none⟩)) := by rw [ha]; exact putSel_on (e := (3, 61, .pointer (some ⟨g_Y, 3, none⟩))) 3 rfl rfl (hon 3 (by kernel_rfl)) rfl
            replace ha := Aside0.mk ha
            have GY := Aside0.mk (Q_GY (hoff 11 (by kernel_rfl)))
            have hc0 := blk_cell GY.out 3
            refine value_ (w1 := w') (v := .slice A3 d3.size c3) (by rfl) rfl ?_ ?_
            · go_simp
              try first | rfl | assumption
            refine hK.out _ _ ⟨(by rw [ha.out]; exact putSel_upk 4 hb_ rfl rfl rfl), Q_HT0, Q_GY, fun h0_ _ => absurd ((hoff 5 (by kernel_rfl)).symm.trans h0_) (by decide), fun h0_ => absurd ((hoff 11 (by kernel_rfl)).symm.trans h0_) (by decide)⟩
          refine steps_cons ?_ ?_
          · rintro b a w' ⟨ha, Q_HT0, Q_GY, Q_HT1, Q_HT2⟩ hb_ hon hoff
            refine ⟨_, rfl, fun K hK => ?_⟩
            have e58 : a.tmps[58]? = some (.pointer (some ⟨g, 0, none⟩)) := by rw [ha]; exact putSel_on (e := (0, 58, .pointer (some ⟨g, 0, none⟩))) 0 rfl rfl (hon 0 (by kernel_rfl)) rfl
            have e60 : a.tmps[60]? = some (.string x.f2) := by rw [ha]; exact putSel_on (e := (2, 60, .string x.f2)) 2 rfl rfl (hon 2 (by kernel_rfl)) rfl
            have e62 : a.tmps[62]? = some (.slice A3 d3.size c3) := by rw [ha]; exact putSel_on (e := (4, 62, .slice A3 d3.size c3)) 4 rfl rfl (hon 4 (by kernel_rfl)) rfl
            replace ha := Aside0.mk ha
            have HT0 := Aside0.mk (Q_HT0 hb_)
            have GY := Aside0.mk (Q_GY (hoff 11 (by kernel_rfl)))
            refine goes_ Try.func16 (by kernel_rfl) rfl #[.pointer (some ⟨g, 0, none⟩), .string x.f2, .slice A3 d3.size c3] (by rfl) rfl rfl (by first | (simp only [List.map_toArray, List.map_cons, List.map_nil, Act.eval, Array.getD_eq_getD_getElem?, Option.getD_some, e58, e60, e62]; done) | (simp only [List.map_toArray, List.map_cons, List.map_nil, Act.eval, Array.getD_eq_getD_getElem?, Option.getD_some, e58, e60, e62]; rfl)) ?_
            with_reducible refine (HW1.out w' HT0.out).mono ?_
            rintro e wq ⟨rfl, hk, hh⟩
            refine ⟨_, rfl, ?_⟩
            refine hK.out _ _ ⟨(by rw [ha.out]; exact putSel_upk 5 hb_ rfl rfl rfl), fun h0_ => absurd ((up_self b 5).symm.trans h0_) (by decide), fun _ => (hk.2 g_Y (blk_lt GY.out) HNs.out).trans GY.out, fun _ _ => hh, fun h0_ => absurd ((hoff 11 (by kernel_rfl)).symm.trans h0_) (by decide)⟩
          refine steps_cons ?_ ?_
          · rintro b a w' ⟨ha, Q_HT0, Q_GY, Q_HT1, Q_HT2⟩ hb_ hon hoff
            refine ⟨_, rfl, fun K hK => ?_⟩
            have e6 : a.tmps[6]? = some (.pointer (some ⟨gq, 0, none⟩)) := by rw [ha]; exact (putSel_off rfl).trans rfl
            replace ha := Aside0.mk ha
            refine value_ (w1 := w') (v := .pointer (some ⟨gq, 0, none⟩)) (by rfl) rfl ?_ ?_
            · go_simp
              try first | rfl | assumption
            refine hK.out _ _ ⟨(by rw [ha.out]; exact putSel_upk 6 hb_ rfl rfl rfl), Q_HT0, Q_GY, Q_HT1, fun h0_ => absurd ((hoff 11 (by kernel_rfl)).symm.trans h0_) (by decide)⟩
          refine steps_cons ?_ ?_
          · rintro b a w' ⟨ha, Q_HT0, Q_GY, Q_HT1, Q_HT2⟩ hb_ hon hoff
            refine ⟨_, rfl, fun K hK => ?_⟩
            have e8 : a.tmps[8]? = some (.pointer (some ⟨g_Y, 0, none⟩)) := by rw [ha]; exact (putSel_off rfl).trans rfl
            replace ha := Aside0.mk ha
            refine value_ (w1 := w') (v := .pointer (some ⟨g_Y, 2, none⟩)) (by rfl) rfl ?_ ?_
            · go_simp
              try first | rfl | assumption
            refine hK.out _ _ ⟨(by rw [ha.out]; exact putSel_upk 7 hb_ rfl rfl rfl), Q_HT0, Q_GY, Q_HT1, fun h0_ => absurd ((hoff 11 (by kernel_rfl)).symm.trans h0_) (by decide)⟩
          refine steps_cons ?_ ?_
          · rintro b a w' ⟨ha, Q_HT0, Q_GY, Q_HT1, Q_HT2⟩ hb_ hon hoff
            refine ⟨_, rfl, fun K hK => ?_⟩
            have e65 : a.tmps[65]? = some (.pointer (some ⟨g_Y, 2, none⟩)) := by rw [ha]; exact putSel_on (e := (7, 65, .pointer (some ⟨g_Y, 2, none⟩))) 7 rfl rfl (hon 7 (by kernel_rfl)) rfl
            replace ha := Aside0.mk ha
            have GY := Aside0.mk (Q_GY (hoff 11 (by kernel_rfl)))
            have hc0 := blk_cell GY.out 2
            refine value_ (w1 := w') (v := .string x.f2) (by rfl) rfl ?_ ?_
            · go_simp
              try first | rfl | assumption
            refine hK.out _ _ ⟨(by rw [ha.out]; exact putSel_upk 8 hb_ rfl rfl rfl), Q_HT0, Q_GY, Q_HT1, fun h0_ => absurd ((hoff 11 (by kernel_rfl)).symm.trans h0_) (by decide)⟩
          refine steps_cons ?_ ?_
          · rintro b a w' ⟨ha, Q_HT0, Q_GY, Q_HT1, Q_HT2⟩ hb_ hon hoff
            refine ⟨_, rfl, fun K hK => ?_⟩
            have e8 : a.tmps[8]? = some (.pointer (some ⟨g_Y, 0, none⟩)) := by rw [ha]; exact (putSel_off rfl).trans rfl
            replace ha := Aside0.mk ha
            refine value_ (w1 := w') (v := .pointer (some ⟨g_Y, 3, none⟩)) (by rfl) rfl ?_ ?_
            · go_simp
              try first | rfl | assumption
            refine hK.out _ _ ⟨(by rw [ha.out]; exact putSel_upk 9 hb_ rfl rfl rfl), Q_HT0, Q_GY, Q_HT1, fun h0_ => absurd ((hoff 11 (by kernel_rfl)).symm.trans h0_) (by decide)⟩
          refine steps_cons ?_ ?_
          · rintro b a w' ⟨ha, Q_HT0, Q_GY, Q_HT1, Q_HT2⟩ hb_ hon hoff
            refine ⟨_, rfl, fun K hK => ?_⟩
            have e67 : a.tmps[67]? = some (.pointer (some ⟨g_Y, 3, none⟩)) := by rw [ha]; exact putSel_on (e := (9, 67, .pointer (some ⟨g_Y, 3, none⟩))) 9 rfl rfl (hon 9 (by kernel_rfl)) rfl
            replace ha := Aside0.mk ha
            have GY := Aside0.mk (Q_GY (hoff 11 (by kernel_rfl)))
            have hc0 := blk_cell GY.out 3
            refine value_ (w1 := w') (v := .slice A3 d3.size c3) (by rfl) rfl ?_ ?_
            · go_simp
              try first | rfl | assumption
            refine hK.out _ _ ⟨(by rw [ha.out]; exact putSel_upk 10 hb_ rfl rfl rfl), Q_HT0, Q_GY, Q_HT1, fun h0_ => absurd ((hoff 11 (by kernel_rfl)).symm.trans h0_) (by decide)⟩
          refine steps_cons ?_ ?_
          · rintro b a w' ⟨ha, Q_HT0, Q_GY, Q_HT1, Q_HT2⟩ hb_ hon hoff
            refine ⟨_, rfl, fun K hK => ?_⟩
            have e64 : a.tmps[64]? = some (.pointer (some ⟨gq, 0, none⟩)) := by rw [ha]; exact putSel_on (e := (6, 64, .pointer (some ⟨gq, 0, none⟩))) 6 rfl rfl (hon 6 (by kernel_rfl)) rfl
            have e66 : a.tmps[66]? = some (.string x.f2) := by rw [ha]; exact putSel_on (e := (8, 66, .string x.f2)) 8 rfl rfl (hon 8 (by kernel_rfl)) rfl
            have e68 : a.tmps[68]? = some (.slice A3 d3.size c3) := by rw [ha]; exact putSel_on (e := (10, 68, .slice A3 d3.size c3)) 10 rfl rfl (hon 10 (by kernel_rfl)) rfl
            replace ha := Aside0.mk ha
            have HT1 := Aside0.mk (Q_HT1 (hon 5 (by kernel_rfl)) hb_)
            refine goes_ Try.func30 (by kernel_rfl) rfl #[.pointer (some ⟨gq, 0, none⟩), .string x.f2, .slice A3 d3.size c3] (by rfl) rfl rfl (by first | (simp only [List.map_toArray, List.map_cons, List.map_nil, Act.eval, Array.getD_eq_getD_getElem?, Option.getD_some, e64, e66, e68]; done) | (simp only [List.map_toArray, List.map_cons, List.map_nil, Act.eval, Array.getD_eq_getD_getElem?, Option.getD_some, e64, e66, e68]; rfl)) ?_
            with_reducible refine (HW2.out w' HT1.out).mono ?_
            rintro e wq ⟨rfl, hk, hh⟩
            refine ⟨_, rfl, ?_⟩
            refine hK.out _ _ ⟨(by rw [ha.out]; exact putSel_upk 11 hb_ rfl rfl rfl), fun h0_ => absurd ((hon 5 (by kernel_rfl)).symm.trans h0_) (by decide), fun h0_ => absurd ((up_self b 11).symm.trans h0_) (by decide), fun _ h1_ => absurd ((up_self b 11).symm.trans h1_) (by decide), fun _ => hh⟩
          refine steps_cons ?_ ?_
          · rintro b a w' ⟨ha, Q_HT0, Q_GY, Q_HT1, Q_HT2⟩ hb_ hon hoff
            refine ⟨_, rfl, fun K hK => ?_⟩
            have e63 : a.tmps[63]? = some (.int .i64 z) := by rw [ha]; exact putSel_on (e := (5, 63, .int .i64 z)) 5 rfl rfl (hon 5 (by kernel_rfl)) rfl
            have e69 : a.tmps[69]? = some (.int .i64 z) := by rw [ha]; exact putSel_on (e := (11, 69, .int .i64 z)) 11 rfl rfl (hon 11 (by kernel_rfl)) rfl
            replace ha := Aside0.mk ha
            refine value_ (w1 := w') (v := .bool true) (by rfl) rfl ?_ ?_
            · go_simp
              try first | rfl | assumption
            refine hK.out _ _ ⟨(by rw [ha.out]; exact putSel_upk 12 hb_ rfl rfl rfl), fun h0_ => absurd ((hon 5 (by kernel_rfl)).symm.trans h0_) (by decide), fun h0_ => absurd ((hon 11 (by kernel_rfl)).symm.trans h0_) (by decide), fun _ h1_ => absurd ((hon 11 (by kernel_rfl)).symm.trans h1_) (by decide), Q_HT2⟩
          refine steps_cons ?_ ?_
          · rintro b a w' ⟨ha, Q_HT0, Q_GY, Q_HT1, Q_HT2⟩ hb_ hon hoff
            refine ⟨_, rfl, fun K hK => ?_⟩
            have e70 : a.tmps[70]? = some (.bool true) := by rw [ha]; exact putSel_on (e := (12, 70, .bool true)) 12 rfl rfl (hon 12 (by kernel_rfl)) rfl
            replace ha := Aside0.mk ha
            refine value_ (w1 := w') (v := .bool true) (by rfl) rfl ?_ ?_
            · go_simp
              try first | rfl | assumption
            refine hK.out _ _ ⟨(by rw [ha.out]; exact putSel_upk 13 hb_ rfl rfl rfl), fun h0_ => absurd ((hon 5 (by kernel_rfl)).symm.trans h0_) (by decide), fun h0_ => absurd ((hon 11 (by kernel_rfl)).symm.trans h0_) (by decide), fun _ h1_ => absurd ((hon 11 (by kernel_rfl)).symm.trans h1_) (by decide), Q_HT2⟩
          exact steps_nil
        rintro b a w5 hall ⟨ha, Q_HT0, Q_GY, Q_HT1, Q_HT2⟩
        clear GY HT0
        have hb0_ := hall 0 (by kernel_rfl)
        have hb1_ := hall 1 (by kernel_rfl)
        have hb2_ := hall 2 (by kernel_rfl)
        have hb3_ := hall 3 (by kernel_rfl)
        have hb4_ := hall 4 (by kernel_rfl)
        have hb5_ := hall 5 (by kernel_rfl)
        have hb6_ := hall 6 (by kernel_rfl)
        have hb7_ := hall 7 (by kernel_rfl)
        have hb8_ := hall 8 (by kernel_rfl)
        have hb9_ := hall 9 (by kernel_rfl)
        have hb10_ := hall 10 (by kernel_rfl)
        have hb11_ := hall 11 (by kernel_rfl)
        have hb12_ := hall 12 (by kernel_rfl)
        have hb13_ := hall 13 (by kernel_rfl)
        subst ha
        simp only [putSel, hb0_, hb1_, hb2_, hb3_, hb4_, hb5_, hb6_, hb7_, hb8_, hb9_, hb10_, hb11_, hb12_, hb13_, if_true, Act.put, List.setIfInBounds_toArray, List.set_cons_zero, List.set_cons_succ]
        clear Q_HT0
        clear Q_GY
        clear Q_HT1
        have HT2 := Aside0.mk (Q_HT2 hb11_)
        clear Q_HT2
        clear hall hb0_ hb1_ hb2_ hb3_ hb4_ hb5_ hb6_ hb7_ hb8_ hb9_ hb10_ hb11_ hb12_ hb13_
        have HX := Aside0.mk (show At w w5 g gq (k + 1) by
          obtain ⟨r', q', e1, e2, hT⟩ := HT2.out
          exact ⟨r', q', hT, by rw [e1, e2]; exact HRl.out, by rw [e1]; exact HBl1.out⟩)
        obtain ⟨r9, q9, hT9, hR9, hB9⟩ := HX.out
        have HLk := Aside0.mk (like_calls hT9.ra hT9.rf hR9 (by have := hB9.r; omega) (by have := hB9.r; omega) (by have := hB9.r; omega))
        have HT9 := Aside0.mk (And.intro hT9 (And.intro hR9 hB9))
        clear hT9 hR9 hB9
        go_wp2_with (go_at_call 36; refine HLk.out.mono ?_; rintro e_ wl ⟨rfl, hb⟩; have HBl := Aside0.mk hb; clear hb HLk; skip)
        go_roundw
        case rel => exact ⟨k + 1, by omega, by go_num, ⟨⟨r9, q9, HT9.out.1.below HBl.out, HT9.out.2.1, HT9.out.2.2⟩⟩⟩
        case measure => simp [intOf]; omega
      by_cases h1 : x.f0 = 1
      · have hz : rcE (absR q) x.f2 = cErr (abs r) x.f2 := (HRe.out.cut (by omega) x.f2).1
        obtain ⟨z, hze⟩ : ∃ z, cErr (abs r) x.f2 = z := ⟨_, rfl⟩
        have n0 : (x.f0 == 0) = false := beq_eq_false_iff_ne.2 h0
        have m0 : decide (x.f0 = 0) = false := decide_eq_false h0
        have n1 : (x.f0 == 1) = true := by rw [h1]; rfl
        have m1 : decide (x.f0 = 1) = true := decide_eq_true h1
        obtain ⟨P1, hP1⟩ : ∃ P1, opK (cErr (abs r) x.f2) (abs r) (x.f2, true, ⟨#[]⟩) = P1 := ⟨_, rfl⟩
        obtain ⟨Q1, hQ1⟩ : ∃ Q1, rcQ (absR q) x.f2 = Q1 := ⟨_, rfl⟩
        have HRl := Aside0.mk (show Rel (k + 1) P1 Q1 from by rw [← hP1, ← hQ1]; exact (HRe.out.cut (by omega) x.f2).2)
        have HBl1 := Aside0.mk (show Bd P1 (k + 1) from by rw [← hP1]; exact HBd.out.op _ _)
        have HW1 := Aside0.mk (fun (W : World) (hT : Two w W g r gq q) => show Calls Try.prog 24 #[.pointer (some ⟨g, 0, none⟩), .string x.f2] W (fun e w' => e = .returned (.int .i64 z) ∧ Kept W w' (r.S g) ∧ ∃ r', abs r' = P1 ∧ Two w w' g r' gq q) from by
          have h := c_cut x.f2 hT HRb.out
          rw [hP1, hze] at h
          exact h)
        have HW2 := Aside0.mk (fun (W : World) (hT : ∃ r', abs r' = P1 ∧ Two w W g r' gq q) => show Calls Try.prog 31 #[.pointer (some ⟨gq, 0, none⟩), .string x.f2] W (fun e w' => e = .returned (.int .i64 z) ∧ Kept W w' (q.T gq) ∧ ∃ r' q', abs r' = P1 ∧ absR q' = Q1 ∧ Two w w' g r' gq q') from by
          have h := c_rcut x.f2 hT HQb.out
          rw [hz, hze, hQ1] at h
          exact h)
        clear hz hze hP1 hQ1 h0 h1
        go_upto_region 17 with fail
        clear y0
        refine start_ (n := 10) (S := fun w' => True) (ds := []) #[false, false, false, false, false, false, false, false, false, false] (by kernel_rfl) rfl rfl trivial (fun hHeld => ?_)
        refine with_tabW t_mailsacklaw13_RackPlays.tab17 t_mailsacklaw13_RackPlays.bits17 (fun HT_ HW_ => ?_)
        have hd_ := (below_drew1 (Below.refl w2.heap.size w2))
        have n_HT0 := Aside0.mk (Two.below HT0.out hd_)
        have n_GY := Aside0.mk ((show w2.drew.heap[g_Y]? = _ from GY.out))
        clear HT0
        have HT0 := n_HT0
        clear n_HT0
        clear GY
        have GY := n_GY
        clear n_GY
        generalize w2.drew = w_d at *
        clear hd_
        refine inv_at [0, 1, 2, 3, 4, 5, 6, 7, 8, 9] (fun a0_ b a w' => a = putSel a0_ b [(0, 73, .pointer (some ⟨g, 0, none⟩)), (1, 74, .pointer (some ⟨g_Y, 2, none⟩)), (2, 75, .string x.f2), (3, 76, .int .i64 z), (4, 77, .pointer (some ⟨gq, 0, none⟩)), (5, 78, .pointer (some ⟨g_Y, 2, none⟩)), (6, 79, .string x.f2), (7, 80, .int .i64 z), (8, 81, .bool true), (9, 9, .bool true)] ∧ (b 3 = false → Two w w' g r gq q) ∧ (b 7 = false → w'.heap[g_Y]? = some (.cells #[.int .i64 x.f0, .int .i64 x.f1, .string x.f2, .slice A3 d3.size c3, .slice A4 x.f4.length c4] 45 (0, 0))) ∧ (b 3 = true → b 7 = false → ∃ r', abs r' = P1 ∧ Two w w' g r' gq q) ∧ (b 7 = true → ∃ r' q', abs r' = P1 ∧ absR q' = Q1 ∧ Two w w' g r' gq q')) HT_.out HW_.out (by kernel_rfl) (by kernel_rfl) ?_ ?_ ?_
        · exact ⟨by simp only [putSel, Bool.false_eq_true, if_false], fun _ => HT0.out, fun _ => GY.out, fun h_ => absurd h_ (by decide), fun h_ => absurd h_ (by decide)⟩
        · skip
          clear GY HT0
          refine steps_cons ?_ ?_
          · rintro b a w' ⟨ha, Q_HT0, Q_GY, Q_HT1, Q_HT2⟩ hb_ hon hoff
            refine ⟨_, rfl, fun K hK => ?_⟩
            have e5 : a.tmps[5]? = some (.pointer (some ⟨g, 0, none⟩)) := by rw [ha]; exact (putSel_off rfl).trans rfl
            replace ha := Aside0.mk ha
            refine value_ (w1 := w') (v := .pointer (some ⟨g, 0, none⟩)) (by rfl) rfl ?_ ?_
            · go_simp
              try first | rfl | assumption
            refine hK.out _ _ ⟨(by rw [ha.out]; exact putSel_upk 0 hb_ rfl rfl rfl), Q_HT0, Q_GY, fun h0_ _ => absurd ((hoff 3 (by kernel_rfl)).symm.trans h0_) (by decide), fun h0_ => absurd ((hoff 7 (by kernel_rfl)).symm.trans h0_) (by decide)⟩
          refine steps_cons ?_ ?_
          · rintro b a w' ⟨ha, Q_HT0, Q_GY, Q_HT1, Q_HT2⟩ hb_ hon hoff
            refine ⟨_, rfl, fun K hK => ?_⟩
            have e8 : a.tmps[8]? = some (.pointer (some ⟨g_Y, 0, none⟩)) := by rw [ha]; exact (putSel_off rfl).trans rfl
            replace ha := Aside0.mk ha
            refine value_ (w1 := w') (v := .pointer (some ⟨g_Y, 2, none⟩)) (by rfl) rfl ?_ ?_
            · go_simp
              try first | rfl | assumption
            refine hK.out _ _ ⟨(by rw [ha.out]; exact putSel_upk 1 hb_ rfl rfl rfl), Q_HT0, Q_GY, fun h0_ _ => absurd ((hoff 3 (by kernel_rfl)).symm.trans h0_) (by decide), fun h0_ => absurd ((hoff 7 (by kernel_rfl)).symm.trans h0_) (by decide)⟩
          refine steps_cons ?_ ?_
          · rintro b a w' ⟨ha, Q_HT0, Q_GY, Q_HT1, Q_HT2⟩ hb_ hon hoff
            refine ⟨_, rfl, fun K hK => ?_⟩
            have e74 : a.tmps[74]? = some (.pointer (some ⟨g_Y, 2, none⟩)) := by rw [ha]; exact putSel_on (e := (1, 74, .pointer (some ⟨g_Y, 2, none⟩))) 1 rfl rfl (hon 1 (by kernel_rfl)) rfl
            replace ha := Aside0.mk ha
            have GY := Aside0.mk (Q_GY (hoff 7 (by kernel_rfl)))
            have hc0 := blk_cell GY.out 2
            refine value_ (w1 := w') (v := .string x.f2) (by rfl) rfl ?_ ?_
            · go_simp
              try first | rfl | assumption
            refine hK.out _ _ ⟨(by rw [ha.out]; exact putSel_upk 2 hb_ rfl rfl rfl), Q_HT0, Q_GY, fun h0_ _ => absurd ((hoff 3 (by kernel_rfl)).symm.trans h0_) (by decide), fun h0_ => absurd ((hoff 7 (by kernel_rfl)).symm.trans h0_) (by decide)⟩
          refine steps_cons ?_ ?_
          · rintro b a w' ⟨ha, Q_HT0, Q_GY, Q_HT1, Q_HT2⟩ hb_ hon hoff
            refine ⟨_, rfl, fun K hK => ?_⟩
            have e73 : a.tmps[73]? = some (.pointer (some ⟨g, 0, none⟩)) := by rw [ha]; exact putSel_on (e := (0, 73, .pointer (some ⟨g, 0, none⟩))) 0 rfl rfl (hon 0 (by kernel_rfl)) rfl
            have e75 : a.tmps[75]? = some (.string x.f2) := by rw [ha]; exact putSel_on (e := (2, 75, .string x.f2)) 2 rfl rfl (hon 2 (by kernel_rfl)) rfl
            replace ha := Aside0.mk ha
            have HT0 := Aside0.mk (Q_HT0 hb_)
            have GY := Aside0.mk (Q_GY (hoff 7 (by kernel_rfl)))
            refine goes_ Try.func24 (by kernel_rfl) rfl #[.pointer (some ⟨g, 0, none⟩), .string x.f2] (by rfl) rfl rfl (by first | (simp only [List.map_toArray, List.map_cons, List.map_nil, Act.eval, Array.getD_eq_getD_getElem?, Option.getD_some, e73, e75]; done) | (simp only [List.map_toArray, List.map_cons, List.map_nil, Act.eval, Array.getD_eq_getD_getElem?, Option.getD_some, e73, e75]; rfl)) ?_
            with_reducible refine (HW1.out w' HT0.out).mono ?_
            rintro e wq ⟨rfl, hk, hh⟩
            refine ⟨_, rfl, ?_⟩
            refine hK.out _ _ ⟨(by rw [ha.out]; exact putSel_upk 3 hb_ rfl rfl rfl), fun h0_ => absurd ((up_self b 3).symm.trans h0_) (by decide), fun _ => (hk.2 g_Y (blk_lt GY.out) HNs.out).trans GY.out, fun _ _ => hh, fun h0_ => absurd ((hoff 7 (by kernel_rfl)).symm.trans h0_) (by decide)⟩
          refine steps_cons ?_ ?_
          · rintro b a w' ⟨ha, Q_HT0, Q_GY, Q_HT1, Q_HT2⟩ hb_ hon hoff
            refine ⟨_, rfl, fun K hK => ?_⟩
            have e6 : a.tmps[6]? = some (.pointer (some ⟨gq, 0, none⟩)) := by rw [ha]; exact (putSel_off rfl).trans rfl
            replace ha := Aside0.mk ha
            refine value_ (w1 := w') (v := .pointer (some ⟨gq, 0, none⟩)) (by rfl) rfl ?_ ?_
            · go_simp
              try first | rfl | assumption
            refine hK.out _ _ ⟨(by rw [ha.out]; exact putSel_upk 4 hb_ rfl rfl rfl), Q_HT0, Q_GY, Q_HT1, fun h0_ => absurd ((hoff 7 (by kernel_rfl)).symm.trans h0_) (by decide)⟩
          refine steps_cons ?_ ?_
          · rintro b a w' ⟨ha, Q_HT0, Q_GY, Q_HT1, Q_HT2⟩ hb_ hon hoff
            refine ⟨_, rfl, fun K hK => ?_⟩
            have e8 : a.tmps[8]? = some (.pointer (some ⟨g_Y, 0, none⟩)) := by rw [ha]; exact (putSel_off rfl).trans rfl
            replace ha := Aside0.mk ha
            refine value_ (w1 := w') (v := .pointer (some ⟨g_Y, 2, none⟩)) (by rfl) rfl ?_ ?_
            · go_simp
              try first | rfl | assumption
            refine hK.out _ _ ⟨(by rw [ha.out]; exact putSel_upk 5 hb_ rfl rfl rfl), Q_HT0, Q_GY, Q_HT1, fun h0_ => absurd ((hoff 7 (by kernel_rfl)).symm.trans h0_) (by decide)⟩
          refine steps_cons ?_ ?_
          · rintro b a w' ⟨ha, Q_HT0, Q_GY, Q_HT1, Q_HT2⟩ hb_ hon hoff
            refine ⟨_, rfl, fun K hK => ?_⟩
            have e78 : a.tmps[78]? = some (.pointer (some ⟨g_Y, 2, none⟩)) := by rw [ha]; exact putSel_on (e := (5, 78, .pointer (some ⟨g_Y, 2, none⟩))) 5 rfl rfl (hon 5 (by kernel_rfl)) rfl
            replace ha := Aside0.mk ha
            have GY := Aside0.mk (Q_GY (hoff 7 (by kernel_rfl)))
            have hc0 := blk_cell GY.out 2
            refine value_ (w1 := w') (v := .string x.f2) (by rfl) rfl ?_ ?_
            · go_simp
              try first | rfl | assumption
            refine hK.out _ _ ⟨(by rw [ha.out]; exact putSel_upk 6 hb_ rfl rfl rfl), Q_HT0, Q_GY, Q_HT1, fun h0_ => absurd ((hoff 7 (by kernel_rfl)).symm.trans h0_) (by decide)⟩
          refine steps_cons ?_ ?_
          · rintro b a w' ⟨ha, Q_HT0, Q_GY, Q_HT1, Q_HT2⟩ hb_ hon hoff
            refine ⟨_, rfl, fun K hK => ?_⟩
            have e77 : a.tmps[77]? = some (.pointer (some ⟨gq, 0, none⟩)) := by rw [ha]; exact putSel_on (e := (4, 77, .pointer (some ⟨gq, 0, none⟩))) 4 rfl rfl (hon 4 (by kernel_rfl)) rfl
            have e79 : a.tmps[79]? = some (.string x.f2) := by rw [ha]; exact putSel_on (e := (6, 79, .string x.f2)) 6 rfl rfl (hon 6 (by kernel_rfl)) rfl
            replace ha := Aside0.mk ha
            have HT1 := Aside0.mk (Q_HT1 (hon 3 (by kernel_rfl)) hb_)
            refine goes_ Try.func31 (by kernel_rfl) rfl #[.pointer (some ⟨gq, 0, none⟩), .string x.f2] (by rfl) rfl rfl (by first | (simp only [List.map_toArray, List.map_cons, List.map_nil, Act.eval, Array.getD_eq_getD_getElem?, Option.getD_some, e77, e79]; done) | (simp only [List.map_toArray, List.map_cons, List.map_nil, Act.eval, Array.getD_eq_getD_getElem?, Option.getD_some, e77, e79]; rfl)) ?_
            with_reducible refine (HW2.out w' HT1.out).mono ?_
            rintro e wq ⟨rfl, hk, hh⟩
            refine ⟨_, rfl, ?_⟩
            refine hK.out _ _ ⟨(by rw [ha.out]; exact putSel_upk 7 hb_ rfl rfl rfl), fun h0_ => absurd ((hon 3 (by kernel_rfl)).symm.trans h0_) (by decide), fun h0_ => absurd ((up_self b 7).symm.trans h0_) (by decide), fun _ h1_ => absurd ((up_self b 7).symm.trans h1_) (by decide), fun _ => hh⟩
          refine steps_cons ?_ ?_
          · rintro b a w' ⟨ha, Q_HT0, Q_GY, Q_HT1, Q_HT2⟩ hb_ hon hoff
            refine ⟨_, rfl, fun K hK => ?_⟩
            have e76 : a.tmps[76]? = some (.int .i64 z) := by rw [ha]; exact putSel_on (e := (3, 76, .int .i64 z)) 3 rfl rfl (hon 3 (by kernel_rfl)) rfl
            have e80 : a.tmps[80]? = some (.int .i64 z) := by rw [ha]; exact putSel_on (e := (7, 80, .int .i64 z)) 7 rfl rfl (hon 7 (by kernel_rfl)) rfl
            replace ha := Aside0.mk ha
            refine value_ (w1 := w') (v := .bool true) (by rfl) rfl ?_ ?_
            · go_simp
              try first | rfl | assumption
            refine hK.out _ _ ⟨(by rw [ha.out]; exact putSel_upk 8 hb_ rfl rfl rfl), fun h0_ => absurd ((hon 3 (by kernel_rfl)).symm.trans h0_) (by decide), fun h0_ => absurd ((hon 7 (by kernel_rfl)).symm.trans h0_) (by decide), fun _ h1_ => absurd ((hon 7 (by kernel_rfl)).symm.trans h1_) (by decide), Q_HT2⟩
          refine steps_cons ?_ ?_
          · rintro b a w' ⟨ha, Q_HT0, Q_GY, Q_HT1, Q_HT2⟩ hb_ hon hoff
            refine ⟨_, rfl, fun K hK => ?_⟩
            have e81 : a.tmps[81]? = some (.bool true) := by rw [ha]; exact putSel_on (e := (8, 81, .bool true)) 8 rfl rfl (hon 8 (by kernel_rfl)) rfl
            replace ha := Aside0.mk ha
            refine value_ (w1 := w') (v := .bool true) (by rfl) rfl ?_ ?_
            · go_simp
              try first | rfl | assumption
            refine hK.out _ _ ⟨(by rw [ha.out]; exact putSel_upk 9 hb_ rfl rfl rfl), fun h0_ => absurd ((hon 3 (by kernel_rfl)).symm.trans h0_) (by decide), fun h0_ => absurd ((hon 7 (by kernel_rfl)).symm.trans h0_) (by decide), fun _ h1_ => absurd ((hon 7 (by kernel_rfl)).symm.trans h1_) (by decide), Q_HT2⟩
          exact steps_nil
        rintro b a w5 hall ⟨ha, Q_HT0, Q_GY, Q_HT1, Q_HT2⟩
        clear GY HT0
        have hb0_ := hall 0 (by kernel_rfl)
        have hb1_ := hall 1 (by kernel_rfl)
        have hb2_ := hall 2 (by kernel_rfl)
        have hb3_ := hall 3 (by kernel_rfl)
        have hb4_ := hall 4 (by kernel_rfl)
        have hb5_ := hall 5 (by kernel_rfl)
        have hb6_ := hall 6 (by kernel_rfl)
        have hb7_ := hall 7 (by kernel_rfl)
        have hb8_ := hall 8 (by kernel_rfl)
        have hb9_ := hall 9 (by kernel_rfl)
        subst ha
        simp only [putSel, hb0_, hb1_, hb2_, hb3_, hb4_, hb5_, hb6_, hb7_, hb8_, hb9_, if_true, Act.put, List.setIfInBounds_toArray, List.set_cons_zero, List.set_cons_succ]
        clear Q_HT0
        clear Q_GY
        clear Q_HT1
        have HT2 := Aside0.mk (Q_HT2 hb7_)
        clear Q_HT2
        clear hall hb0_ hb1_ hb2_ hb3_ hb4_ hb5_ hb6_ hb7_ hb8_ hb9_
        have HX := Aside0.mk (show At w w5 g gq (k + 1) by
          obtain ⟨r', q', e1, e2, hT⟩ := HT2.out
          exact ⟨r', q', hT, by rw [e1, e2]; exact HRl.out, by rw [e1]; exact HBl1.out⟩)
        obtain ⟨r9, q9, hT9, hR9, hB9⟩ := HX.out
        have HLk := Aside0.mk (like_calls hT9.ra hT9.rf hR9 (by have := hB9.r; omega) (by have := hB9.r; omega) (by have := hB9.r; omega))
        have HT9 := Aside0.mk (And.intro hT9 (And.intro hR9 hB9))
        clear hT9 hR9 hB9
        go_wp2_with (go_at_call 36; refine HLk.out.mono ?_; rintro e_ wl ⟨rfl, hb⟩; have HBl := Aside0.mk hb; clear hb HLk; skip)
        go_roundw
        case rel => exact ⟨k + 1, by omega, by go_num, ⟨⟨r9, q9, HT9.out.1.below HBl.out, HT9.out.2.1, HT9.out.2.2⟩⟩⟩
        case measure => simp [intOf]; omega
      by_cases h2 : x.f0 = 2
      · have hz : (flushK (absR q)).1 = (flushK (abs r)).1 := HRe.out.flush.1
        obtain ⟨z, hze⟩ : ∃ z, (flushK (abs r)).1 = z := ⟨_, rfl⟩
        have n0 : (x.f0 == 0) = false := beq_eq_false_iff_ne.2 h0
        have m0 : decide (x.f0 = 0) = false := decide_eq_false h0
        have n1 : (x.f0 == 1) = false := beq_eq_false_iff_ne.2 h1
        have m1 : decide (x.f0 = 1) = false := decide_eq_false h1
        have n2 : (x.f0 == 2) = true := by rw [h2]; rfl
        have m2 : decide (x.f0 = 2) = true := decide_eq_true h2
        obtain ⟨P1, hP1⟩ : ∃ P1, (flushK (abs r)).2 = P1 := ⟨_, rfl⟩
        obtain ⟨Q1, hQ1⟩ : ∃ Q1, (flushK (absR q)).2 = Q1 := ⟨_, rfl⟩
        have HRl := Aside0.mk (show Rel (k + 1) P1 Q1 from by rw [← hP1, ← hQ1]; exact HRe.out.flush.2)
        have HBl1 := Aside0.mk (show Bd P1 (k + 1) from by rw [← hP1]; exact HBd.out.flush.more (Nat.le_succ _))
        have HW1 := Aside0.mk (show Calls Try.prog 25 #[.pointer (some ⟨g, 0, none⟩)] w2 (fun e w' => e = .returned (.int .i64 z) ∧ ∃ r', abs r' = P1 ∧ Two w w' g r' gq q) from
          (flush_calls (h := HT0.out.ra)).mono fun e w' hp => by
            have h := HT0.out.flush hp
            rw [hP1, hze] at h
            exact h)
        have HW2 := Aside0.mk (fun (W : World) (hT : ∃ r', abs r' = P1 ∧ Two w W g r' gq q) => show Calls Try.prog 32 #[.pointer (some ⟨gq, 0, none⟩)] W (fun e w' => e = .returned (.int .i64 z) ∧ Kept W w' (q.T gq) ∧ ∃ r' q', abs r' = P1 ∧ absR q' = Q1 ∧ Two w w' g r' gq q') from by
          have h := c_rflush hT HQb.out.1
          rw [hz, hze, hQ1] at h
          exact h)
        clear hz hze hP1 hQ1 h0 h1 h2
        go_upto_region 26 with (first
          | (go_at_call 25; refine HW1.out.mono ?_; rintro e_ w8 ⟨rfl, hh⟩; have HT1 := Aside0.mk hh; clear hh HW1; skip)
          | (go_at_call 32; refine (HW2.out _ HT1.out).mono ?_; rintro e_ w9 ⟨rfl, _, hh⟩; have HT2 := Aside0.mk hh; clear hh HW2 HT1; skip))
        have HX := Aside0.mk (show At w w9 g gq (k + 1) by
          obtain ⟨r', q', e1, e2, hT⟩ := HT2.out
          exact ⟨r', q', hT, by rw [e1, e2]; exact HRl.out, by rw [e1]; exact HBl1.out⟩)
        obtain ⟨r9, q9, hT9, hR9, hB9⟩ := HX.out
        have HLk := Aside0.mk (like_calls hT9.ra hT9.rf hR9 (by have := hB9.r; omega) (by have := hB9.r; omega) (by have := hB9.r; omega))
        have HT9 := Aside0.mk (And.intro hT9 (And.intro hR9 hB9))
        clear hT9 hR9 hB9
        go_wp2_with (go_at_call 36; refine HLk.out.mono ?_; rintro e_ wl ⟨rfl, hb⟩; have HBl := Aside0.mk hb; clear hb HLk; skip)
        go_roundw
        case rel => exact ⟨k + 1, by omega, by go_num, ⟨⟨r9, q9, HT9.out.1.below HBl.out, HT9.out.2.1, HT9.out.2.2⟩⟩⟩
        case measure => simp [intOf]; omega
      by_cases h3 : x.f0 = 3
      · have y4 := blk_cell GY.out 4
        have n0 : (x.f0 == 0) = false := beq_eq_false_iff_ne.2 h0
        have m0 : decide (x.f0 = 0) = false := decide_eq_false h0
        have n1 : (x.f0 == 1) = false := beq_eq_false_iff_ne.2 h1
        have m1 : decide (x.f0 = 1) = false := decide_eq_false h1
        have n2 : (x.f0 == 2) = false := beq_eq_false_iff_ne.2 h2
        have m2 : decide (x.f0 = 2) = false := decide_eq_false h2
        have n3 : (x.f0 == 3) = true := by rw [h3]; rfl
        have m3 : decide (x.f0 = 3) = true := decide_eq_true h3
        obtain ⟨P1, hP1⟩ : ∃ P1, crashK (abs r) x.f4 = P1 := ⟨_, rfl⟩
        obtain ⟨Q1, hQ1⟩ : ∃ Q1, crashR (absR q) x.f4 = Q1 := ⟨_, rfl⟩
        have HRl := Aside0.mk (show Rel (k + 1) P1 Q1 from by rw [← hP1, ← hQ1]; exact HRe.out.crash x.f4)
        have HBl1 := Aside0.mk (show Bd P1 (k + 1) from by rw [← hP1]; exact (HBd.out.crash _).more (Nat.le_succ _))
        have HW1 := Aside0.mk (show Calls Try.prog 19 #[.pointer (some ⟨g, 0, none⟩), .slice A4 x.f4.length c4] w2 (fun e w' => e = .returned (.tuple #[]) ∧ Kept w2 w' (r.S g) ∧ ∃ r', abs r' = P1 ∧ Two w w' g r' gq q) from
          (crash_calls w g r x.f4 A4 c4 w2 HT0.out.ra (Kd.C_below HD4.out.1 HT0.out.ra.bel) HD4.out.2.1 (fun ad e h0 => low_S HT0.out _ (C_lt HD4.out.1 ad e h0)) (by have := HRb.out; omega) (by have := HRb.out; omega)).mono fun e w' hp => by
            have h := HT0.out.crash hp
            rw [hP1] at h
            exact ⟨h.1, hp.2.1, h.2⟩)
        have HW2 := Aside0.mk (fun (W : World) (hT : ∃ r', abs r' = P1 ∧ Two w W g r' gq q) => show Calls Try.prog 33 #[.pointer (some ⟨gq, 0, none⟩), .slice A4 x.f4.length c4] W (fun e w' => e = .returned (.tuple #[]) ∧ Kept W w' (q.T gq) ∧ ∃ r' q', abs r' = P1 ∧ absR q' = Q1 ∧ Two w w' g r' gq q') from by
          have hT2 := hT
          obtain ⟨r', _, hT'⟩ := hT2
          have h := c_rcrash x.f4 A4 c4 hT (Kd.C_below HD4.out.1 hT'.ra.bel) HD4.out.2.1 (fun ad e h0 => low_T hT' _ (C_lt HD4.out.1 ad e h0)) HD4.out.2.2 (by have := HQb.out; omega)
          rw [hQ1] at h
          exact h)
        clear hP1 hQ1 h0 h1 h2 h3
        go_upto_region 26 with (first
          | (go_at_call 19; refine HW1.out.mono ?_; rintro e_ w8 ⟨rfl, hk, hh⟩; have HT1 := Aside0.mk hh; have GY8 := Aside0.mk ((hk.2 g_Y (blk_lt GY.out) HNs.out).trans GY.out); have u4 := blk_cell GY8.out 4; clear hk hh HW1 y4 y0; skip)
          | (go_at_call 33; refine (HW2.out _ HT1.out).mono ?_; rintro e_ w9 ⟨rfl, _, hh⟩; have HT2 := Aside0.mk hh; clear hh HW2 HT1 u4; skip))
        have HX := Aside0.mk (show At w w9 g gq (k + 1) by
          obtain ⟨r', q', e1, e2, hT⟩ := HT2.out
          exact ⟨r', q', hT, by rw [e1, e2]; exact HRl.out, by rw [e1]; exact HBl1.out⟩)
        obtain ⟨r9, q9, hT9, hR9, hB9⟩ := HX.out
        have HLk := Aside0.mk (like_calls hT9.ra hT9.rf hR9 (by have := hB9.r; omega) (by have := hB9.r; omega) (by have := hB9.r; omega))
        have HT9 := Aside0.mk (And.intro hT9 (And.intro hR9 hB9))
        clear hT9 hR9 hB9
        go_wp2_with (go_at_call 36; refine HLk.out.mono ?_; rintro e_ wl ⟨rfl, hb⟩; have HBl := Aside0.mk hb; clear hb HLk; skip)
        go_roundw
        case rel => exact ⟨k + 1, by omega, by go_num, ⟨⟨r9, q9, HT9.out.1.below HBl.out, HT9.out.2.1, HT9.out.2.2⟩⟩⟩
        case measure => simp [intOf]; omega
      by_cases h4 : x.f0 = 4
      · have y1 := blk_cell GY.out 1
        have n0 : (x.f0 == 0) = false := beq_eq_false_iff_ne.2 h0
        have m0 : decide (x.f0 = 0) = false := decide_eq_false h0
        have n1 : (x.f0 == 1) = false := beq_eq_false_iff_ne.2 h1
        have m1 : decide (x.f0 = 1) = false := decide_eq_false h1
        have n2 : (x.f0 == 2) = false := beq_eq_false_iff_ne.2 h2
        have m2 : decide (x.f0 = 2) = false := decide_eq_false h2
        have n3 : (x.f0 == 3) = false := beq_eq_false_iff_ne.2 h3
        have m3 : decide (x.f0 = 3) = false := decide_eq_false h3
        have n4 : (x.f0 == 4) = true := by rw [h4]; rfl
        have m4 : decide (x.f0 = 4) = true := decide_eq_true h4
        obtain ⟨P1, hP1⟩ : ∃ P1, fuseK (abs r) x.f1 = P1 := ⟨_, rfl⟩
        obtain ⟨Q1, hQ1⟩ : ∃ Q1, fuseR (absR q) x.f1 = Q1 := ⟨_, rfl⟩
        have HRl := Aside0.mk (show Rel (k + 1) P1 Q1 from by rw [← hP1, ← hQ1]; exact HRe.out.fuse x.f1)
        have HBl1 := Aside0.mk (show Bd P1 (k + 1) from by rw [← hP1]; exact (HBd.out.fuse _).more (Nat.le_succ _))
        have HW1 := Aside0.mk (show Calls Try.prog 21 #[.pointer (some ⟨g, 0, none⟩), .int .i64 x.f1] w2 (fun e w' => e = .returned (.tuple #[]) ∧ Kept w2 w' (r.S g) ∧ ∃ r', abs r' = P1 ∧ Two w w' g r' gq q) from
          (fuse_calls (n := x.f1) (h := HT0.out.ra) (hn := HF1.out)).mono fun e w' hp => by
            have h := HT0.out.fuse hp
            rw [hP1] at h
            exact ⟨h.1, hp.2.1, h.2⟩)
        have HW2 := Aside0.mk (fun (W : World) (hT : ∃ r', abs r' = P1 ∧ Two w W g r' gq q) => show Calls Try.prog 34 #[.pointer (some ⟨gq, 0, none⟩), .int .i64 x.f1] W (fun e w' => e = .returned (.tuple #[]) ∧ Kept W w' (q.T gq) ∧ ∃ r' q', abs r' = P1 ∧ absR q' = Q1 ∧ Two w w' g r' gq q') from by
          have h := c_rfuse x.f1 hT
          rw [hQ1] at h
          exact h)
        clear hP1 hQ1 h0 h1 h2 h3 h4
        go_upto_region 26 with (first
          | (go_at_call 21; refine HW1.out.mono ?_; rintro e_ w8 ⟨rfl, hk, hh⟩; have HT1 := Aside0.mk hh; have GY8 := Aside0.mk ((hk.2 g_Y (blk_lt GY.out) HNs.out).trans GY.out); have u1 := blk_cell GY8.out 1; clear hk hh HW1 y1 y0; skip)
          | (go_at_call 34; refine (HW2.out _ HT1.out).mono ?_; rintro e_ w9 ⟨rfl, _, hh⟩; have HT2 := Aside0.mk hh; clear hh HW2 HT1 u1; skip))
        have HX := Aside0.mk (show At w w9 g gq (k + 1) by
          obtain ⟨r', q', e1, e2, hT⟩ := HT2.out
          exact ⟨r', q', hT, by rw [e1, e2]; exact HRl.out, by rw [e1]; exact HBl1.out⟩)
        obtain ⟨r9, q9, hT9, hR9, hB9⟩ := HX.out
        have HLk := Aside0.mk (like_calls hT9.ra hT9.rf hR9 (by have := hB9.r; omega) (by have := hB9.r; omega) (by have := hB9.r; omega))
        have HT9 := Aside0.mk (And.intro hT9 (And.intro hR9 hB9))
        clear hT9 hR9 hB9
        go_wp2_with (go_at_call 36; refine HLk.out.mono ?_; rintro e_ wl ⟨rfl, hb⟩; have HBl := Aside0.mk hb; clear hb HLk; skip)
        go_roundw
        case rel => exact ⟨k + 1, by omega, by go_num, ⟨⟨r9, q9, HT9.out.1.below HBl.out, HT9.out.2.1, HT9.out.2.2⟩⟩⟩
        case measure => simp [intOf]; omega
      have n0 : (x.f0 == 0) = false := beq_eq_false_iff_ne.2 h0
      have m0 : decide (x.f0 = 0) = false := decide_eq_false h0
      have n1 : (x.f0 == 1) = false := beq_eq_false_iff_ne.2 h1
      have m1 : decide (x.f0 = 1) = false := decide_eq_false h1
      have n2 : (x.f0 == 2) = false := beq_eq_false_iff_ne.2 h2
      have m2 : decide (x.f0 = 2) = false := decide_eq_false h2
      have n3 : (x.f0 == 3) = false := beq_eq_false_iff_ne.2 h3
      have m3 : decide (x.f0 = 3) = false := decide_eq_false h3
      have n4 : (x.f0 == 4) = false := beq_eq_false_iff_ne.2 h4
      have m4 : decide (x.f0 = 4) = false := decide_eq_false h4
      have y2 := blk_cell GY.out 2
      have HRd := Aside0.mk (show readD r x.f2 = readK (absR q) x.f2 by
        rw [read_key]
        unfold readK
        rw [HRe.out.down, HRe.out.ns])
      have HSrt := Aside0.mk (show SrtK (absR q).ns by rw [HRe.out.ns]; exact HRe.out.sn)
      obtain ⟨o, ho⟩ : ∃ o, readK (absR q) x.f2 = o := ⟨_, rfl⟩
      obtain ⟨dd, hdd⟩ : ∃ dd, o.getD ⟨#[]⟩ = dd := ⟨_, rfl⟩
      obtain ⟨bb, hbb⟩ : ∃ bb, o.isSome = bb := ⟨_, rfl⟩
      have HW1 := Aside0.mk (show Calls Try.prog 23 #[.pointer (some ⟨g, 0, none⟩), .string x.f2] w2 (fun e w' => ∃ A c, e = .returned (.tuple #[.slice A dd.size c, .bool bb]) ∧ (dd.size ≤ c ∧ Kd.C (Kd.int .u8) w' A dd.size (bytesOf dd)) ∧ Below w2.heap.size w2 w') from
        (read_calls (s := x.f2) (h := HT0.out.ra) (hs := HF2.out)).mono fun e w' hp => by
          obtain ⟨A, c, rfl, h1, h2, _, hb⟩ := hp
          rw [HRd.out, ho, hdd] at h1 h2 ⊢
          rw [hbb]
          exact ⟨A, c, rfl, ⟨h1, h2⟩, hb⟩)
      have HW2 := Aside0.mk (fun (W : World) (hT : Two w W g r gq q) => show Calls Try.prog 35 #[.pointer (some ⟨gq, 0, none⟩), .string x.f2] W (fun e w' => ∃ A c, e = .returned (.tuple #[.slice A dd.size c, .bool bb]) ∧ (dd.size ≤ c ∧ Kd.C (Kd.int .u8) w' A dd.size (bytesOf dd)) ∧ Below W.heap.size W w') from
        (rread_calls hT.rf x.f2 HSrt.out (by have := HQb.out; omega)).mono fun e w' hp => by
          obtain ⟨hb, A, c, rfl, h1, h2⟩ := hp
          rw [ho, hdd] at h1 h2 ⊢
          rw [hbb]
          exact ⟨A, c, rfl, ⟨h1, h2⟩, hb⟩)
      clear ho hdd hbb h0 h1 h2 h3 h4
      go_upto_region 26 with (first
        | (go_at_call 23; refine HW1.out.mono ?_; rintro e_ w8 ⟨Aa, ca, rfl, hda, hb⟩; have HT8 := Aside0.mk (HT0.out.below hb); have HDa := Aside0.mk hda; have GY8 := Aside0.mk (blk_below GY.out hb); have u2 := blk_cell GY8.out 2; clear hda hb HW1 y0 y2; skip)
        | (go_at_call 35; refine (HW2.out _ HT8.out).mono ?_; rintro e_ w9 ⟨Ab, cb, rfl, hdb, hb⟩; have HT9 := Aside0.mk (HT8.out.below hb); have hsa := DB.str (x := ⟨x.f2, Aa, ca, dd⟩) (DB.below ⟨HDa.out.1, HDa.out.2⟩ hb); have hsb := DB.str (x := ⟨x.f2, Ab, cb, dd⟩) ⟨hdb.1, hdb.2⟩; clear hdb hb HW2 u2; skip))
      clear hsa hsb
      have HX := Aside0.mk (show At w w9 g gq (k + 1) from ⟨r, q, HT9.out, HRe.out.more, HBd.out.more (Nat.le_succ _)⟩)
      obtain ⟨r9, q9, hT9, hR9, hB9⟩ := HX.out
      have HLk := Aside0.mk (like_calls hT9.ra hT9.rf hR9 (by have := hB9.r; omega) (by have := hB9.r; omega) (by have := hB9.r; omega))
      have HT9 := Aside0.mk (And.intro hT9 (And.intro hR9 hB9))
      clear hT9 hR9 hB9
      go_wp2_with (go_at_call 36; refine HLk.out.mono ?_; rintro e_ wl ⟨rfl, hb⟩; have HBl := Aside0.mk hb; clear hb HLk; skip)
      go_roundw
      case rel => exact ⟨k + 1, by omega, by go_num, ⟨⟨r9, q9, HT9.out.1.below HBl.out, HT9.out.2.1, HT9.out.2.2⟩⟩⟩
      case measure => simp [intOf]; omega
    · obtain rfl : k = n := by omega
      have HB := Aside0.mk hT.ra.bel
      clear hT hRel hBd
      go_wp2_with (go_at_call 14; refine (awake_calls _).mono ?_; rintro e_ wa ⟨rfl, hb⟩; have HBa := Aside0.mk (HB.out.trans (hb.mono HB.out.size)); clear hb; skip)
      go_ret
      exact ⟨rfl, HBa.out⟩
theorem rackPlays_open (room : Int) (Al : Option Addr) (cl : Nat) (l : List CallT) (w : World) (hl : l.length ≤ cl) (hCl : Kd.C callD w Al l.length l) (h3 : ∀ x ∈ l, Bts x.2.2.2.1) (h4 : ∀ x ∈ l, Bts x.2.2.2.2) (h1 : ∀ x ∈ l, x.2.1 ≤ 9223372036854775807) (h2 : ∀ x ∈ l, x.2.2.1.size ≤ 140737488355328) (hl6 : l.length ≤ 4611686018427387904) :
    Calls Try.prog 6 #[.int .i64 room, .slice Al l.length cl] w fun e w' => e = .returned (.bool true) ∧ Below w.heap.size w w' := by
  have h := rackPlays_calls room Al cl (l.map mkC) w (by rw [List.length_map]; exact C_calls hCl) (by rw [List.length_map]; exact hl) (fun x hx => by obtain ⟨y, hy, rfl⟩ := List.mem_map.1 hx; exact ⟨h3 y hy, h4 y hy, h1 y hy, h2 y hy⟩) (by rw [List.length_map]; exact hl6)
  rwa [List.length_map] at h
end Go.Proofs.Ytjljgcceapkdcaa.RpN
end
