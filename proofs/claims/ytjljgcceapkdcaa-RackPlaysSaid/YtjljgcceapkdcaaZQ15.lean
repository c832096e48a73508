-- The used parts of 5 texts, laid together by merge.py.
import Derived.Test.YtjljgcceapkdcaaZQ14
section
namespace Go.Proofs.Ytjljgcceapkdcaa.SfD
open Go.RowKit Go.Proofs.YtjljgcceapkdcaaW.PrintWords Go.Proofs.YtjljgcceapkdcaaW.PrintLast Go.Proofs.YtjljgcceapkdcaaW.PrintMore Go.Proofs.Ytjljgcceapkdcaa.RkA Go.Proofs.Ytjljgcceapkdcaa.RkB Go.Proofs.Ytjljgcceapkdcaa.RkC Go.Proofs.Ytjljgcceapkdcaa.RkD Go.Proofs.Ytjljgcceapkdcaa.RkG Go.Proofs.Ytjljgcceapkdcaa.RkI Go.Proofs.Ytjljgcceapkdcaa.RkJ Go.Proofs.Ytjljgcceapkdcaa.RkK Go.Proofs.Ytjljgcceapkdcaa.RkL Go.Proofs.Ytjljgcceapkdcaa.SfA Go.Proofs.Ytjljgcceapkdcaa.SfB Go.Proofs.Ytjljgcceapkdcaa.SfP Go.Proofs.Ytjljgcceapkdcaa.SfQ Go.Proofs.Ytjljgcceapkdcaa.SfR Go.Proofs.Ytjljgcceapkdcaa.Rw
set_option linter.unusedVariables false
set_option linter.unusedSimpArgs false
def DoneP (w0 w : World) (g : Nat) (r : RS) (ls : List WR) (e : Ending) (w' : World) : Prop := e = .returned (.int .i64 (doneE (abs r) (ls.map keyW)).1) ∧ Step w0 w w' g r (doneE (abs r) (ls.map keyW)).2
theorem Bd.chg {p : PS} {M : Nat} (h : Bd p M) (c : CK) : Bd (chgE p c).2 (M + 1) := by
  unfold chgE
  split
  · split
    · exact h.op _ _
    · exact h.more (Nat.le_succ _)
  · exact h.op _ _
structure DAt (w0 w wr : World) (g : Nat) (r rk : RS) (k M : Nat) (A : Option Addr) (n : Nat) (ls : List WR) : Prop where
  ra : RackAt w0 wr g rk
  kp : Kept w wr (r.S g)
  sb : ∀ k, rk.S g k → r.S g k ∨ w.heap.size ≤ k
  bd : Bd (abs rk) M
  ch : ChgAt wr (rk.S g) A n ls
  eq : doneE (abs r) (ls.map keyW) = doneE (abs rk) ((ls.drop k).map keyW)
section
variable {w0 w wr w' : World} {g : Nat} {r rk : RS} {k M : Nat} {A : Option Addr} {n : Nat} {ls : List WR} {x : WR}
theorem drop_at (hx : ls[k]? = some x) : ls.drop k = x :: ls.drop (k + 1) := by
  obtain ⟨h1, h2⟩ := List.getElem?_eq_some_iff.1 hx
  rw [List.drop_eq_getElem_cons h1, h2]
theorem DAt.next (h : DAt w0 w wr g r rk k M A n ls) (hx : ls[k]? = some x) (h0 : (chgE (abs rk) (keyW x)).1 = 0) (hs : Step w0 wr w' g rk (chgE (abs rk) (keyW x)).2) : ∃ rk', DAt w0 w w' g r rk' (k + 1) (M + 1) A n ls := by
  obtain ⟨r2, hR, he, hk, hS⟩ := hs
  refine ⟨r2, hR, h.kp.then_ hk h.sb, fun q hq => ?_, by rw [he]; exact Bd.chg h.bd _, h.ch.kept hk (fun _ h => h) hS, ?_⟩
  · rcases hS q hq with h1 | h1
    · exact h.sb q h1
    · exact .inr (Nat.le_trans h.kp.1 h1)
  · rw [h.eq, drop_at hx, List.map_cons, doneE, if_neg (by rw [h0]; decide), he]
theorem DAt.bad (h : DAt w0 w wr g r rk k M A n ls) (hx : ls[k]? = some x) {e : Int} (h0 : (chgE (abs rk) (keyW x)).1 = e) (he : e ≠ 0) (hs : Step w0 wr w' g rk (chgE (abs rk) (keyW x)).2) : DoneP w0 w g r ls (.returned (.int .i64 e)) w' := by
  have h1 : doneE (abs r) (ls.map keyW) = chgE (abs rk) (keyW x) := by
    rw [h.eq, drop_at hx, List.map_cons, doneE, if_pos (by rw [h0]; exact he)]
  unfold DoneP
  rw [h1, h0]
  exact ⟨rfl, Step.trans h.kp h.sb hs⟩
theorem DAt.fin (h : DAt w0 w wr g r rk ls.length M A n ls) {e : Ending} (hf : FlushP w0 wr g rk e w') : DoneP w0 w g r ls e w' := by
  obtain ⟨h1, h2⟩ := flush_step hf
  have h3 : doneE (abs r) (ls.map keyW) = flushK (abs rk) := by
    rw [h.eq, List.drop_length, List.map_nil, doneE]
  unfold DoneP
  rw [h3]
  exact ⟨h1, Step.trans h.kp h.sb h2⟩
theorem chg_cut (hc : x.cut = true) (ht : (readK (abs rk) x.nm).isSome = true ∨ (abs rk).down = true) : chgE (abs rk) (keyW x) = (cErr (abs rk) x.nm, opK (cErr (abs rk) x.nm) (abs rk) (x.nm, true, ⟨#[]⟩)) := by
  unfold chgE
  rw [show (keyW x).2.1 = x.cut from rfl, hc, if_pos rfl]
  exact if_pos ht
theorem chg_skip (hc : x.cut = true) (ht : (readK (abs rk) x.nm).isSome = false) (hd : (abs rk).down = false) : chgE (abs rk) (keyW x) = (0, abs rk) := by
  unfold chgE
  rw [show (keyW x).2.1 = x.cut from rfl, hc, if_pos rfl]
  refine if_neg ?_
  rw [hd]
  rintro (h | h)
  · rw [show (keyW x).1 = x.nm from rfl, ht] at h
    cases h
  · cases h
theorem chg_put (hc : x.cut = false) : chgE (abs rk) (keyW x) = (wErr (abs rk) x.nm x.d, opK (wErr (abs rk) x.nm x.d) (abs rk) (x.nm, false, x.d)) := by
  unfold chgE
  rw [show (keyW x).2.1 = x.cut from rfl, hc]
  rfl
end
section
variable (w0 : World) (g : Nat) (r : RS) (w : World)
set_option maxRecDepth 100000 in
set_option maxHeartbeats 8000000 in
theorem done_calls (A : Option Addr) (c : Nat) (ls : List WR) (M : Nat) (h : RackAt w0 w g r) (hc : ChgAt w (r.S g) A ls.length ls) (hbd : Bd (abs r) M) (hM : M + ls.length ≤ 30000) (hnm : ∀ x ∈ ls, x.nm.size ≤ 1000000000) :
    Calls Try.prog 78 #[.pointer (some ⟨g, 0, none⟩), .slice A ls.length c] w (DoneP w0 w g r ls) := by
  have hu64 := Try.underlying64
  have HD0 := Aside0.mk (show DAt w0 w w g r r 0 (M + 0) A ls.length ls from ⟨h, Kept.refl _ _, fun k h => .inl h, hbd, hc, rfl⟩)
  have HM := Aside0.mk hM
  have HNs := Aside0.mk hnm
  obtain ⟨n, hn⟩ : ∃ n, ls.length = n := ⟨_, rfl⟩
  have HNn := Aside0.mk hn
  have hn9 : (n : Int) ≤ 30000 := by omega
  rw [hn] at HD0 ⊢
  clear h hc hbd hM hnm hn
  go_enter Try.func78, Try.ntmps78
  go_wp2_with fail
  go_loopw [12] (fun i wr => ∃ k : Nat, k ≤ n ∧ i = .int .i64 k ∧ Aside0 (∃ rk, DAt w0 w wr g r rk k (M + k) A n ls)) (fun i _ => n - (intOf i).toNat)
  case atStart => exact ⟨0, Nat.zero_le _, rfl, ⟨_, HD0.out⟩⟩
  case round =>
    clear HD0
    obtain ⟨k, hk, rfl, HE⟩ := hrel
    obtain ⟨rk, hD⟩ := HE.out
    have HD := Aside0.mk hD
    clear HE hD
    by_cases hlt : k < n
    · obtain ⟨x, hx⟩ : ∃ x, ls[k]? = some x := ⟨_, List.getElem?_eq_getElem (by rw [HNn.out]; exact hlt)⟩
      obtain ⟨ad, e1, x0, x1, x2⟩ := at_W HD.out.ch.C k hlt x hx
      cases e1
      have HX := Aside0.mk hx
      have HNm := Aside0.mk (show x.nm.size ≤ 140737488355328 by have := HNs.out x (List.mem_of_getElem? hx); omega)
      have HDx := Aside0.mk ((HD.out.ch.ds x (List.mem_of_getElem? hx)).dw)
      have HBd := Aside0.mk (show rk.ns.length ≤ 99999 ∧ rk.ls.length ≤ 99999 ∧ 0 ≤ rk.writes ∧ rk.writes ≤ 4611686018427387904 by
        have h1 := HD.out.bd.r
        have h2 := HM.out
        have h3 := HNn.out
        omega)
      clear hx
      have M0_0 := Aside0.mk (Below.refl wr.heap.size wr)
      go_upto_region 5 with ((with_reducible refine gate_dst (N := 6) rfl ?_); refine box_event ?hgY6 (N := 6) ?hdY6 (cs := #[.string (⟨#[]⟩ : ByteArray), .bool false, .slice none 0 0]) (t := 64) ?hrY6 ?_; (case hdY6 => rfl); (case hgY6 => rfl); (case hrY6 => first | (go_simp; done) | (go_simp; rfl)); intro g_Y hg_ w_1 hbx_ hb_; have L0_Y := Aside0.mk (show wr.heap.size ≤ g_Y by have := M0_0.out.size; omega); have M0_1 := Aside0.mk (M0_0.out.trans (hb_.mono M0_0.out.size)); have Y_1 := Aside0.mk hbx_; clear hg_ hbx_ hb_ M0_0; have zY0 := blk_cell Y_1.out 0; have yY0 := blk_frozen Y_1.out 0; have zY1 := blk_cell Y_1.out 1; have yY1 := blk_frozen Y_1.out 1; have zY2 := blk_cell Y_1.out 2; have yY2 := blk_frozen Y_1.out 2; skip)
      obtain ⟨w2, e2, GY2, HB2'⟩ := fresh3 M0_1.out L0_Y.out Y_1.out x
      rw [e2]
      clear e2 zY0 zY1 zY2 yY0 yY1 yY2 x0 x1 x2
      have HR2 := Aside0.mk (HD.out.ra.below HB2')
      have HX2 := Aside0.mk (HDx.out.below HB2')
      have HB2 := Aside0.mk HB2'
      have hc0 := blk_cell GY2 0
      have hc1 := blk_cell GY2 1
      have hc2 := blk_cell GY2 2
      clear GY2 HB2'
      by_cases hcut : x.cut = true
      · by_cases hth : (readK (abs rk) x.nm).isSome = true
        · obtain ⟨e, he⟩ : ∃ e, cErr (abs rk) x.nm = e := ⟨_, rfl⟩
          have HC := Aside0.mk (show chgE (abs rk) (keyW x) = (e, opK e (abs rk) (x.nm, true, ⟨#[]⟩)) by rw [chg_cut hcut (.inl hth), he])
          have HEq := Aside0.mk he
          have hrd : (readD rk x.nm).isSome = true := by rw [read_key]; exact hth
          clear he hth
          go_upto_region 10 with (first
            | (go_at_call 23; refine (read_calls w0 g rk _ x.nm HR2.out HNm.out).mono ?_; rintro e_ w3 ⟨A3, c3, rfl, _, _, _, hb⟩; have HB3 := Aside0.mk (HB2.out.trans (hb.mono HB2.out.size)); have HR3 := Aside0.mk (HR2.out.below hb); have HX3 := Aside0.mk (HX2.out.below hb); have hc0 := pw_cell_below hb hc0; have hc1 := pw_cell_below hb hc1; have hc2 := pw_cell_below hb hc2; clear hb HR2; skip)
            | (go_at_call 24; refine (cut_calls w0 g rk x.nm _ HR3.out (by have := HBd.out.1; omega) (by have := HBd.out.2.1; omega) HBd.out.2.2).mono ?_; intro e_ w4 hp; obtain ⟨h1, h2⟩ := cut_step hp; rw [HEq.out] at h1 h2; subst h1; have HSt := Aside0.mk (Step.pre HB3.out h2); clear hp h2 hc0 hc1 hc2 HR3; skip))
          by_cases he : e = 0
          · have HN := Aside0.mk (HD.out.next HX.out (by rw [HC.out]; exact he) (by rw [HC.out]; exact HSt.out))
            have hE1 : (e == 0) = true := by rw [he]; rfl
            have hE2 : decide (e = 0) = true := decide_eq_true he
            have hE3 : (e != 0) = false := by rw [he]; rfl
            clear he
            go_wp2_with fail
            go_roundw
            case rel => exact ⟨k + 1, by omega, by go_num, HN⟩
            case measure => simp [intOf]; omega
          · have HP := Aside0.mk (HD.out.bad HX.out (show (chgE (abs rk) (keyW x)).1 = e by rw [HC.out]) he (by rw [HC.out]; exact HSt.out))
            have hE1 : (e == 0) = false := beq_eq_false_iff_ne.2 he
            have hE2 : decide (e = 0) = false := decide_eq_false he
            have hE3 : (e != 0) = true := by rw [bne, hE1]; rfl
            clear he
            go_wp2_with fail
            go_ret
            exact HP.out
        · replace hth : (readK (abs rk) x.nm).isSome = false := by simpa using hth
          have hrd : (readD rk x.nm).isSome = false := by rw [read_key]; exact hth
          by_cases hdn : rk.down = true
          · have HDn := Aside0.mk hdn
            obtain ⟨e, he⟩ : ∃ e, cErr (abs rk) x.nm = e := ⟨_, rfl⟩
            have HC := Aside0.mk (show chgE (abs rk) (keyW x) = (e, opK e (abs rk) (x.nm, true, ⟨#[]⟩)) by rw [chg_cut hcut (.inr hdn), he])
            have HEq := Aside0.mk he
            clear he hth hdn
            go_upto_region 10 with (first
              | (go_at_call 23; refine (read_calls w0 g rk _ x.nm HR2.out HNm.out).mono ?_; rintro e_ w3 ⟨A3, c3, rfl, _, _, _, hb⟩; have HB3 := Aside0.mk (HB2.out.trans (hb.mono HB2.out.size)); have HR3 := Aside0.mk (HR2.out.below hb); have HX3 := Aside0.mk (HX2.out.below hb); have hc0 := pw_cell_below hb hc0; have hc1 := pw_cell_below hb hc1; have hc2 := pw_cell_below hb hc2; clear hb HR2; skip)
              | (go_at_call 22; refine (show Calls Try.prog 22 #[.pointer (some ⟨g, 0, none⟩)] _ (BoolP _ true) from HDn.out ▸ down_calls w0 g rk _ HR3.out).mono ?_; rintro e_ w3b ⟨rfl, hb⟩; have HB3 := Aside0.mk (HB3.out.trans (hb.mono HB3.out.size)); have HR3 := Aside0.mk (HR3.out.below hb); have hc0 := pw_cell_below hb hc0; have hc1 := pw_cell_below hb hc1; have hc2 := pw_cell_below hb hc2; clear hb; skip)
              | (go_at_call 24; refine (cut_calls w0 g rk x.nm _ HR3.out (by have := HBd.out.1; omega) (by have := HBd.out.2.1; omega) HBd.out.2.2).mono ?_; intro e_ w4 hp; obtain ⟨h1, h2⟩ := cut_step hp; rw [HEq.out] at h1 h2; subst h1; have HSt := Aside0.mk (Step.pre HB3.out h2); clear hp h2 hc0 hc1 hc2 HR3; skip))
            by_cases he : e = 0
            · have HN := Aside0.mk (HD.out.next HX.out (by rw [HC.out]; exact he) (by rw [HC.out]; exact HSt.out))
              have hE1 : (e == 0) = true := by rw [he]; rfl
              have hE2 : decide (e = 0) = true := decide_eq_true he
              have hE3 : (e != 0) = false := by rw [he]; rfl
              clear he
              go_wp2_with fail
              go_roundw
              case rel => exact ⟨k + 1, by omega, by go_num, HN⟩
              case measure => simp [intOf]; omega
            · have HP := Aside0.mk (HD.out.bad HX.out (show (chgE (abs rk) (keyW x)).1 = e by rw [HC.out]) he (by rw [HC.out]; exact HSt.out))
              have hE1 : (e == 0) = false := beq_eq_false_iff_ne.2 he
              have hE2 : decide (e = 0) = false := decide_eq_false he
              have hE3 : (e != 0) = true := by rw [bne, hE1]; rfl
              clear he
              go_wp2_with fail
              go_ret
              exact HP.out
          · replace hdn : rk.down = false := by simpa using hdn
            have HDn := Aside0.mk hdn
            have HC := Aside0.mk (show chgE (abs rk) (keyW x) = (0, abs rk) from chg_skip hcut hth hdn)
            clear hth hdn
            go_wp2_with (first
              | (go_at_call 23; refine (read_calls w0 g rk _ x.nm HR2.out HNm.out).mono ?_; rintro e_ w3 ⟨A3, c3, rfl, _, _, _, hb⟩; have HB3 := Aside0.mk (HB2.out.trans (hb.mono HB2.out.size)); have HR3 := Aside0.mk (HR2.out.below hb); have HX3 := Aside0.mk (HX2.out.below hb); have hc0 := pw_cell_below hb hc0; have hc1 := pw_cell_below hb hc1; have hc2 := pw_cell_below hb hc2; clear hb HR2; skip)
              | (go_at_call 22; refine (show Calls Try.prog 22 #[.pointer (some ⟨g, 0, none⟩)] _ (BoolP _ false) from HDn.out ▸ down_calls w0 g rk _ HR3.out).mono ?_; rintro e_ w3b ⟨rfl, hb⟩; have HB3 := Aside0.mk (HB3.out.trans (hb.mono HB3.out.size)); have HR3 := Aside0.mk (HR3.out.below hb); have hc0 := pw_cell_below hb hc0; have hc1 := pw_cell_below hb hc1; have hc2 := pw_cell_below hb hc2; clear hb; skip))
            have HN := Aside0.mk (HD.out.next HX.out (by rw [HC.out]) (by rw [HC.out]; exact Step.below HD.out.ra HB3.out))
            go_roundw
            case rel => exact ⟨k + 1, by omega, by go_num, HN⟩
            case measure => simp [intOf]; omega
      · replace hcut : x.cut = false := by simpa using hcut
        obtain ⟨e, he⟩ : ∃ e, wErr (abs rk) x.nm x.d = e := ⟨_, rfl⟩
        have HC := Aside0.mk (show chgE (abs rk) (keyW x) = (e, opK e (abs rk) (x.nm, false, x.d)) by rw [chg_put hcut, he])
        have HEq := Aside0.mk he
        clear he
        go_upto_region 10 with (first
          | (go_at_call 23; refine (read_calls w0 g rk _ x.nm HR2.out HNm.out).mono ?_; rintro e_ w3 ⟨A3, c3, rfl, _, _, _, hb⟩; have HB3 := Aside0.mk (HB2.out.trans (hb.mono HB2.out.size)); have HR3 := Aside0.mk (HR2.out.below hb); have HX3 := Aside0.mk (HX2.out.below hb); have hc0 := pw_cell_below hb hc0; have hc1 := pw_cell_below hb hc1; have hc2 := pw_cell_below hb hc2; clear hb HR2; skip)
          | (go_at_call 16; refine (write_calls w0 g rk x.nm x.A x.c x.d _ HR3.out HX3.out.C HX3.out.cap (by have := HBd.out.1; omega) (by have := HBd.out.2.1; omega) HBd.out.2.2).mono ?_; intro e_ w4 hp; obtain ⟨h1, h2⟩ := write_step hp; rw [HEq.out] at h1 h2; subst h1; have HSt := Aside0.mk (Step.pre HB3.out h2); clear hp h2 hc0 hc1 hc2 HR3; skip))
        by_cases he : e = 0
        · have HN := Aside0.mk (HD.out.next HX.out (by rw [HC.out]; exact he) (by rw [HC.out]; exact HSt.out))
          have hE1 : (e == 0) = true := by rw [he]; rfl
          have hE2 : decide (e = 0) = true := decide_eq_true he
          have hE3 : (e != 0) = false := by rw [he]; rfl
          clear he
          go_wp2_with fail
          go_roundw
          case rel => exact ⟨k + 1, by omega, by go_num, HN⟩
          case measure => simp [intOf]; omega
        · have HP := Aside0.mk (HD.out.bad HX.out (show (chgE (abs rk) (keyW x)).1 = e by rw [HC.out]) he (by rw [HC.out]; exact HSt.out))
          have hE1 : (e == 0) = false := beq_eq_false_iff_ne.2 he
          have hE2 : decide (e = 0) = false := decide_eq_false he
          have hE3 : (e != 0) = true := by rw [bne, hE1]; rfl
          clear he
          go_wp2_with fail
          go_ret
          exact HP.out
    · obtain rfl : k = n := by omega
      have HF := Aside0.mk (HD.out)
      go_wp2_with (go_at_call 25; refine (flush_calls w0 g rk _ HD.out.ra).mono ?_; intro e_ w4 hp; have HP := Aside0.mk (DAt.fin (HNn.out ▸ HD.out) hp); obtain ⟨rfl, _⟩ := flush_step hp; clear hp; skip)
      go_ret
      exact HP.out
def EndsP (w0 w : World) (g : Nat) (r : RS) (e : Ending) (w' : World) : Prop := e = .returned (.int .i64 (endsE (abs r)).1) ∧ Step w0 w w' g r (endsE (abs r)).2
set_option maxRecDepth 100000 in
set_option maxHeartbeats 4000000 in
theorem ends_calls (M : Nat) (h : RackAt w0 w g r) (hbd : Bd (abs r) M) (hM : M ≤ 30000) : Calls Try.prog 79 #[.pointer (some ⟨g, 0, none⟩)] w (EndsP w0 w g r) := by
  have HBd := Aside0.mk (show r.ns.length ≤ 99999 ∧ r.ls.length ≤ 99999 ∧ 0 ≤ r.writes ∧ r.writes ≤ 4611686018427387904 by
    have h1 := hbd.r
    omega)
  have HC := Aside0.mk (cut_calls w0 g r redoB w h HBd.out.1 HBd.out.2.1 HBd.out.2.2)
  obtain ⟨e, he⟩ : ∃ e, cErr (abs r) redoB = e := ⟨_, rfl⟩
  have HEq := Aside0.mk he
  clear h hbd hM he
  go_enter Try.func79, Try.ntmps79
  by_cases he : e = 0
  · have hE1 : (e == 0) = true := by rw [he]; rfl
    have hE2 : decide (e = 0) = true := decide_eq_true he
    have hE3 : (e != 0) = false := by rw [he]; rfl
    have HE0 := Aside0.mk he
    clear he
    go_wp2_with (first
      | (go_at_call 24; refine HC.out.mono ?_; intro e_ w4 hp; obtain ⟨h1, h2⟩ := cut_step hp; rw [HEq.out] at h1 h2; subst h1; obtain ⟨r4, hr4, hs4⟩ := h2; have HR4 := Aside0.mk hr4; have HS4 := Aside0.mk hs4; clear hp hr4 hs4 HC; skip)
      | (go_at_call 25; refine (flush_calls w0 g r4 _ HR4.out).mono ?_; intro e_ w5 hp; have HP := Aside0.mk (show EndsP w0 w g r e_ w5 by (obtain ⟨h1, h2⟩ := flush_step hp; unfold EndsP endsE; rw [HEq.out, if_neg (by rw [HE0.out]; decide), ← HS4.out.1]; exact ⟨h1, Step.trans HS4.out.2.1 HS4.out.2.2 h2⟩)); obtain ⟨rfl, _⟩ := flush_step hp; clear hp; skip))
    go_ret
    exact HP.out
  · have hE1 : (e == 0) = false := beq_eq_false_iff_ne.2 he
    have hE2 : decide (e = 0) = false := decide_eq_false he
    have hE3 : (e != 0) = true := by rw [bne, hE1]; rfl
    have HE0 := Aside0.mk he
    clear he
    go_wp2_with (go_at_call 24; refine HC.out.mono ?_; intro e_ w4 hp; obtain ⟨h1, h2⟩ := cut_step hp; rw [HEq.out] at h1 h2; subst h1; have HP := Aside0.mk (show EndsP w0 w g r (.returned (.int .i64 e)) w4 by (unfold EndsP endsE; rw [HEq.out, if_pos HE0.out]; exact ⟨rfl, h2⟩)); clear hp h2 HC; skip)
    go_ret
    exact HP.out
end
end Go.Proofs.Ytjljgcceapkdcaa.SfD
end
section
namespace Go.Proofs.Ytjljgcceapkdcaa.SfE
open Go.RowKit Go.Proofs.YtjljgcceapkdcaaW.PrintWords Go.Proofs.YtjljgcceapkdcaaW.PrintLast Go.Proofs.YtjljgcceapkdcaaW.PrintMore Go.Proofs.Ytjljgcceapkdcaa.PkH Go.Proofs.Ytjljgcceapkdcaa.RkA Go.Proofs.Ytjljgcceapkdcaa.RkB Go.Proofs.Ytjljgcceapkdcaa.RkC Go.Proofs.Ytjljgcceapkdcaa.RkD Go.Proofs.Ytjljgcceapkdcaa.RkG Go.Proofs.Ytjljgcceapkdcaa.RkI Go.Proofs.Ytjljgcceapkdcaa.RkJ Go.Proofs.Ytjljgcceapkdcaa.RkK Go.Proofs.Ytjljgcceapkdcaa.RkL Go.Proofs.Ytjljgcceapkdcaa.RkS Go.Proofs.Ytjljgcceapkdcaa.SfA Go.Proofs.Ytjljgcceapkdcaa.SfB Go.Proofs.Ytjljgcceapkdcaa.SfC Go.Proofs.Ytjljgcceapkdcaa.SfD Go.Proofs.Ytjljgcceapkdcaa.SfP Go.Proofs.Ytjljgcceapkdcaa.SfQ Go.Proofs.Ytjljgcceapkdcaa.SfR Go.Proofs.Ytjljgcceapkdcaa.Rw
set_option linter.unusedVariables false
set_option linter.unusedSimpArgs false
theorem S_lt {w0 w : World} {g : Nat} {r : RS} (h : RackAt w0 w g r) : ∀ k, r.S g k → k < w.heap.size := fun k hk => by
  rcases hk with rfl | rfl | rfl | hk
  · exact blk_lt h.blk
  · exact h.sm.lt
  · exact h.nm.lt
  · exact (h.lv_ne k hk).2.2.2.1
def SafeAt (w : World) (S : Nat → Prop) (q g : Nat) : Prop := w.heap[q]? = some (.cells #[.pointer (some ⟨g, 0, none⟩)] 109 (0, 0)) ∧ ¬ S q
theorem SafeAt.kept {w w1 : World} {S S1 S' : Nat → Prop} {q g : Nat} (h : SafeAt w S q g) (hk : Kept w w1 S1) (h1 : ∀ k, S1 k → S k) (hS : ∀ k, S' k → S k ∨ w.heap.size ≤ k) : SafeAt w1 S' q g :=
  ⟨(hk.2 q (blk_lt h.1) (fun e => h.2 (h1 _ e))).trans h.1, fun e => (hS q e).elim h.2 (fun h2 => by have := blk_lt h.1; omega)⟩
theorem SafeAt.below {w w1 : World} {S : Nat → Prop} {q g : Nat} (h : SafeAt w S q g) (hb : Below w.heap.size w w1) : SafeAt w1 S q g := h.kept (Kept.of_below hb S) (fun _ h => h) (fun _ h => .inl h)
def pfB (b : ByteArray) : List CK × Int := parseF (bytesOf b)
def OpenP (w0 w : World) (g : Nat) (r : RS) (e : Ending) (w' : World) : Prop :=
  ((openE pfB (abs r)).1 = 0 ∧ ∃ q, e = .returned (.tuple #[.pointer (some ⟨q, 0, none⟩), .int .i64 0]) ∧ w.heap.size ≤ q ∧ ∃ r', RackAt w0 w' g r' ∧ abs r' = (openE pfB (abs r)).2 ∧ Kept w w' (r.S g) ∧ (∀ k, r'.S g k → r.S g k ∨ w.heap.size ≤ k) ∧ SafeAt w' (r'.S g) q g) ∨
  ((openE pfB (abs r)).1 ≠ 0 ∧ e = .returned (.tuple #[.pointer none, .int .i64 (openE pfB (abs r)).1]) ∧ Step w0 w w' g r (openE pfB (abs r)).2)
theorem open_ok {w0 w wx w9 : World} {g q : Nat} {r r' : RS} (hr : RackAt w0 wx g r') (hk : Kept w wx (r.S g)) (hS : ∀ k, r'.S g k → r.S g k ∨ w.heap.size ≤ k) (ho : openE pfB (abs r) = (0, abs r')) (hq : q = wx.heap.size) (hbx : w9.heap[q]? = some (.cells #[.pointer (some ⟨g, 0, none⟩)] 109 (0, 0))) (hb : Below wx.heap.size wx w9) :
    OpenP w0 w g r (.returned (.tuple #[.pointer (some ⟨q, 0, none⟩), .int .i64 0])) w9 := by
  unfold OpenP
  rw [ho]
  exact .inl ⟨rfl, q, rfl, by rw [hq]; exact hk.1, r', hr.below hb, rfl, hk.then_ (Kept.of_below hb (r.S g)) (fun k h => .inl h), hS, hbx, fun e => by have := S_lt hr q e; omega⟩
theorem open_bad {w0 w w' : World} {g : Nat} {r : RS} {e : Int} {p : PS} (ho : openE pfB (abs r) = (e, p)) (he : e ≠ 0) (hs : Step w0 w w' g r p) : OpenP w0 w g r (.returned (.tuple #[.pointer none, .int .i64 e])) w' := by
  unfold OpenP
  rw [ho]
  exact .inr ⟨he, rfl, hs⟩
theorem bytes_of (s : ByteArray) : Bytes (bytesOf s) := fun b hb => by
  unfold bytesOf at hb
  obtain ⟨x, _, rfl⟩ := List.mem_map.1 hb
  have := x.toNat_lt
  exact ⟨by omega, by omega⟩
def RedoOk (p : PS) (m : Nat) : Prop := ∀ b, findK p.ns redoB = some b → (pfB b).1.length ≤ m ∧ ∀ c ∈ (pfB b).1, c.1.size ≤ 1000000000
theorem Bd.done {p : PS} {M : Nat} (h : Bd p M) : ∀ (l : List CK), Bd (doneE p l).2 (M + l.length)
  | [] => h.flush
  | c :: l => by
    rw [doneE]
    split
    · exact (Bd.chg h c).more (by rw [List.length_cons]; omega)
    · exact (Bd.done (Bd.chg h c) l).more (by rw [List.length_cons]; omega)
section
variable (w0 : World) (g : Nat) (r : RS) (w : World)
set_option maxRecDepth 100000 in
set_option maxHeartbeats 8000000 in
theorem open_calls (M m : Nat) (h : RackAt w0 w g r) (hbd : Bd (abs r) M) (hM : M + m ≤ 29999) (hro : RedoOk (abs r) m) : Calls Try.prog 46 #[.pointer (some ⟨g, 0, none⟩)] w (OpenP w0 w g r) := by
  have H := Aside0.mk h
  have HBd := Aside0.mk hbd
  have HM := Aside0.mk hM
  have HRo := Aside0.mk hro
  cases hdn : r.down with
  | true =>
    have HDn := Aside0.mk (show Calls Try.prog 22 #[.pointer (some ⟨g, 0, none⟩)] w (BoolP w true) from hdn ▸ down_calls w0 g r w h)
    have HP := Aside0.mk (fun (W : World) (hb : Below w.heap.size w W) => open_bad (show openE pfB (abs r) = (5, abs r) by unfold openE; rw [if_pos (show (abs r).down = true from hdn)]) (by decide) (Step.below (w0 := w0) H.out hb))
    clear h hbd hM hro hdn
    go_enter Try.func46, Try.ntmps46
    go_wp2_with (go_at_call 22; refine HDn.out.mono ?_; rintro e_ w1 ⟨rfl, hb⟩; have HP1 := Aside0.mk (HP.out w1 hb); clear hb; skip)
    go_ret2
    exact HP1.out
  | false =>
    have HDn := Aside0.mk (show Calls Try.prog 22 #[.pointer (some ⟨g, 0, none⟩)] w (BoolP w false) from hdn ▸ down_calls w0 g r w h)
    have HOp := Aside0.mk (show openE pfB (abs r) = match findK (abs r).ns redoB with | none => (0, abs r) | some b => openK (abs r) (pfB b) by unfold openE; rw [if_neg (by rw [show (abs r).down = r.down from rfl, hdn]; decide)]; cases findK (abs r).ns redoB <;> rfl)
    have hrd : readD r redoB = findK (abs r).ns redoB := by
      rw [read_key]
      unfold readK
      rw [show (abs r).down = r.down from rfl, hdn]
      rfl
    cases hf : findK (abs r).ns redoB with
    | none =>
      rw [hf] at hrd
      have HO := Aside0.mk (show openE pfB (abs r) = (0, abs r) by rw [HOp.out, hf])
      have HRd := Aside0.mk (fun (W : World) (hb : Below w.heap.size w W) => show Calls Try.prog 23 #[.pointer (some ⟨g, 0, none⟩), .string redoB] W (fun e w' => ∃ A c, e = .returned (.tuple #[.slice A 0 c, .bool false]) ∧ Below W.heap.size W w') from (read_calls w0 g r W redoB (H.out.below hb) (by decide)).mono (by
        rintro e w' ⟨A, c, rfl, h1, h2, h3, h4⟩
        rw [hrd]
        exact ⟨A, c, rfl, h4⟩))
      clear h hbd hM hro hdn hrd hf
      go_enter Try.func46, Try.ntmps46
      go_wp2_with (first
        | (go_at_call 22; refine HDn.out.mono ?_; rintro e_ w1 ⟨rfl, hb⟩; have HB1 := Aside0.mk hb; clear hb; skip)
        | (go_at_call 23; refine (HRd.out _ HB1.out).mono ?_; rintro e_ w2 ⟨A2, c2, rfl, hb⟩; have HB2 := Aside0.mk (HB1.out.trans (hb.mono HB1.out.size)); clear hb HB1; skip)
        | ((with_reducible refine gate_dst (N := 39) rfl ?_); refine box_event ?hgZ (N := 39) ?hdZ (cs := #[.pointer (some ⟨g, 0, none⟩)]) (t := 109) ?hrZ ?_; (case hdZ => rfl); (case hgZ => rfl); (case hrZ => first | (go_simp; done) | (go_simp; rfl)); intro q hq_ w9 hbx_ hb_; have HP := Aside0.mk (open_ok (H.out.below HB2.out) (Kept.of_below HB2.out _) (fun k h => .inl h) HO.out hq_ hbx_ hb_); clear hq_ hbx_ hb_; skip))
      go_ret2
      exact HP.out
    | some b =>
      rw [hf] at hrd
      have hsz : b.size ≤ 200000 := by
        have h1 := find_key r.ns redoB
        rw [show r.ns.map keyD = (abs r).ns from rfl, hf] at h1
        obtain ⟨f, hf1, rfl⟩ := Option.map_eq_some_iff.1 h1.symm
        exact (h.dn f (find_some hf1).1).2.size
      have HRd := Aside0.mk (fun (W : World) (hb : Below w.heap.size w W) => show Calls Try.prog 23 #[.pointer (some ⟨g, 0, none⟩), .string redoB] W (fun e w' => ∃ A c, e = .returned (.tuple #[.slice A (bytesOf b).length c, .bool true]) ∧ (bytesOf b).length ≤ c ∧ Kd.C (Kd.int .u8) w' A (bytesOf b).length (bytesOf b) ∧ Below W.heap.size W w') from (read_calls w0 g r W redoB (H.out.below hb) (by decide)).mono (by
        rintro e w' ⟨A, c, rfl, h1, h2, h3, h4⟩
        rw [hrd] at h1 h2 ⊢
        simp only [Option.getD_some, Option.isSome_some] at h1 h2 ⊢
        rw [bytesOf_length]
        exact ⟨A, c, rfl, h1, h2, h4⟩))
      have HBb := Aside0.mk (bytes_of b)
      have HLb := Aside0.mk (show (bytesOf b).length ≤ 100000000000 by rw [bytesOf_length]; omega)
      obtain ⟨hro1, hro2⟩ := hro b hf
      have HRl := Aside0.mk (And.intro hro1 hro2)
      have HOk := Aside0.mk (show openE pfB (abs r) = openK (abs r) (pfB b) by rw [HOp.out, hf])
      obtain ⟨L, e, hL⟩ : ∃ L e, pfB b = (L, e) := ⟨_, _, rfl⟩
      rw [hL] at HRl HOk
      have HPs := Aside0.mk (show parseF (bytesOf b) = (L, e) from hL)
      obtain ⟨nb, hnb⟩ : ∃ nb, (bytesOf b).length = nb := ⟨_, rfl⟩
      have HNb := Aside0.mk hnb
      rw [hnb] at HRd HLb
      clear h hbd hM hro hdn hrd hf hsz hro1 hro2 hL hnb
      go_enter Try.func46, Try.ntmps46
      by_cases he : e = 0
      · have hE1 : (e == 0) = true := by rw [he]; rfl
        have hE2 : decide (e = 0) = true := decide_eq_true he
        have hE3 : (e != 0) = false := by rw [he]; rfl
        have HO2 := Aside0.mk (show openE pfB (abs r) = runE (abs r) L by rw [HOk.out, he]; rfl)
        clear he
        obtain ⟨e2, he2⟩ : ∃ e2, (doneE (abs r) L).1 = e2 := ⟨_, rfl⟩
        have HE2 := Aside0.mk he2
        clear he2
        by_cases he : e2 = 0
        · have hF1 : (e2 == 0) = true := by rw [he]; rfl
          have hF2 : decide (e2 = 0) = true := decide_eq_true he
          have hF3 : (e2 != 0) = false := by rw [he]; rfl
          obtain ⟨e3, he3⟩ : ∃ e3, (endsE (doneE (abs r) L).2).1 = e3 := ⟨_, rfl⟩
          have HE3 := Aside0.mk he3
          have HO3 := Aside0.mk (show openE pfB (abs r) = endsE (doneE (abs r) L).2 by rw [HO2.out]; unfold runE; rw [if_neg (by rw [HE2.out, he]; decide)])
          clear he3 he
          by_cases he : e3 = 0
          · have hG1 : (e3 == 0) = true := by rw [he]; rfl
            have hG2 : decide (e3 = 0) = true := decide_eq_true he
            have hG3 : (e3 != 0) = false := by rw [he]; rfl
            have HO4 := Aside0.mk (show openE pfB (abs r) = (0, (endsE (doneE (abs r) L).2).2) by rw [HO3.out]; exact Prod.ext (by rw [HE3.out, he]) rfl)
            clear he
            go_wp2_with (first
              | (go_at_call 22; refine HDn.out.mono ?_; rintro e_ w1 ⟨rfl, hb⟩; have HB1 := Aside0.mk hb; clear hb; skip)
              | (go_at_call 23; refine (HRd.out _ HB1.out).mono ?_; rintro e_ w2 ⟨A2, c2, rfl, h1, h2, hb⟩; have HB2 := Aside0.mk (HB1.out.trans (hb.mono HB1.out.size)); have HC2 := Aside0.mk (And.intro h1 h2); clear h1 h2 hb HB1; skip)
              | (go_at_call 41; refine (show Calls Try.prog 41 #[.slice A2 nb c2] _ (ParseP _ (L, e)) from by (have h_ := parse_calls A2 c2 (bytesOf b) w2 (by rw [HNb.out]; exact HC2.out.2) (by rw [HNb.out]; exact HC2.out.1) HBb.out (by rw [HNb.out]; exact HLb.out); rwa [HNb.out, HPs.out] at h_)).mono ?_; rintro e_ w3 ⟨A3, n3, c3, ls, rfl, hls, hn3, hc3, hch, hb⟩; have HLs := Aside0.mk hls; have HB3 := Aside0.mk (HB2.out.trans (hb.mono HB2.out.size)); have HR3 := Aside0.mk (H.out.below HB3.out); subst hn3; have HCh := Aside0.mk (hch (r.S g) (S_lt (H.out.below HB2.out))); clear hls hc3 hch hb HB2 HC2; skip)
              | (go_at_call 78; refine (done_calls w0 g r _ A3 c3 ls M HR3.out HCh.out HBd.out (by have h1 := HM.out; have h2 := HRl.out.1; rw [← HLs.out, List.length_map] at h2; omega) (fun x hx => HRl.out.2 _ (by rw [← HLs.out]; exact List.mem_map_of_mem hx))).mono ?_; rintro e_ w4 ⟨rfl, hs⟩; rw [HLs.out] at hs ⊢; rw [HE2.out]; obtain ⟨r4, hr4, hs4⟩ := hs; have HR4 := Aside0.mk hr4; have HS4 := Aside0.mk hs4; have HK4 := Aside0.mk ((Kept.of_below HB3.out (r.S g)).then_ hs4.2.1 (fun k h => .inl h)); have HSS := Aside0.mk (show ∀ k, r4.S g k → r.S g k ∨ w.heap.size ≤ k from fun k hk => (hs4.2.2 k hk).imp id (fun h => Nat.le_trans HB3.out.size h)); have HB4 := Aside0.mk (show Bd (abs r4) (M + m) by (rw [hs4.1]; exact (Bd.done HBd.out L).more (by have := HRl.out.1; omega))); clear hr4 hs4 HCh HR3; skip)
              | (go_at_call 79; refine (ends_calls w0 g r4 _ (M + m) HR4.out HB4.out (by have := HM.out; omega)).mono ?_; rintro e_ w5 ⟨rfl, hs⟩; rw [HS4.out.1] at hs ⊢; rw [HE3.out]; obtain ⟨r5, hr5, hs5⟩ := Step.trans HK4.out HSS.out hs; have HR5 := Aside0.mk hr5; have HS5 := Aside0.mk hs5; clear hr5 hs5 hs HR4; skip)
              | ((with_reducible refine gate_dst (N := 39) rfl ?_); refine box_event ?hgY (N := 39) ?hdY (cs := #[.pointer (some ⟨g, 0, none⟩)]) (t := 109) ?hrY ?_; (case hdY => rfl); (case hgY => rfl); (case hrY => first | (go_simp; done) | (go_simp; rfl)); intro q hq_ w9 hbx_ hb_; have HP := Aside0.mk (open_ok HR5.out HS5.out.2.1 HS5.out.2.2 (by rw [HO4.out, HS5.out.1]) hq_ hbx_ hb_); clear hq_ hbx_ hb_; skip))
            go_ret2
            exact HP.out
          · have hG1 : (e3 == 0) = false := beq_eq_false_iff_ne.2 he
            have hG2 : decide (e3 = 0) = false := decide_eq_false he
            have hG3 : (e3 != 0) = true := by rw [bne, hG1]; rfl
            have HO4 := Aside0.mk (And.intro (show openE pfB (abs r) = (e3, (endsE (doneE (abs r) L).2).2) by rw [HO3.out]; exact Prod.ext HE3.out rfl) he)
            clear he
            go_wp2_with (first
              | (go_at_call 22; refine HDn.out.mono ?_; rintro e_ w1 ⟨rfl, hb⟩; have HB1 := Aside0.mk hb; clear hb; skip)
              | (go_at_call 23; refine (HRd.out _ HB1.out).mono ?_; rintro e_ w2 ⟨A2, c2, rfl, h1, h2, hb⟩; have HB2 := Aside0.mk (HB1.out.trans (hb.mono HB1.out.size)); have HC2 := Aside0.mk (And.intro h1 h2); clear h1 h2 hb HB1; skip)
              | (go_at_call 41; refine (show Calls Try.prog 41 #[.slice A2 nb c2] _ (ParseP _ (L, e)) from by (have h_ := parse_calls A2 c2 (bytesOf b) w2 (by rw [HNb.out]; exact HC2.out.2) (by rw [HNb.out]; exact HC2.out.1) HBb.out (by rw [HNb.out]; exact HLb.out); rwa [HNb.out, HPs.out] at h_)).mono ?_; rintro e_ w3 ⟨A3, n3, c3, ls, rfl, hls, hn3, hc3, hch, hb⟩; have HLs := Aside0.mk hls; have HB3 := Aside0.mk (HB2.out.trans (hb.mono HB2.out.size)); have HR3 := Aside0.mk (H.out.below HB3.out); subst hn3; have HCh := Aside0.mk (hch (r.S g) (S_lt (H.out.below HB2.out))); clear hls hc3 hch hb HB2 HC2; skip)
              | (go_at_call 78; refine (done_calls w0 g r _ A3 c3 ls M HR3.out HCh.out HBd.out (by have h1 := HM.out; have h2 := HRl.out.1; rw [← HLs.out, List.length_map] at h2; omega) (fun x hx => HRl.out.2 _ (by rw [← HLs.out]; exact List.mem_map_of_mem hx))).mono ?_; rintro e_ w4 ⟨rfl, hs⟩; rw [HLs.out] at hs ⊢; rw [HE2.out]; obtain ⟨r4, hr4, hs4⟩ := hs; have HR4 := Aside0.mk hr4; have HS4 := Aside0.mk hs4; have HK4 := Aside0.mk ((Kept.of_below HB3.out (r.S g)).then_ hs4.2.1 (fun k h => .inl h)); have HSS := Aside0.mk (show ∀ k, r4.S g k → r.S g k ∨ w.heap.size ≤ k from fun k hk => (hs4.2.2 k hk).imp id (fun h => Nat.le_trans HB3.out.size h)); have HB4 := Aside0.mk (show Bd (abs r4) (M + m) by (rw [hs4.1]; exact (Bd.done HBd.out L).more (by have := HRl.out.1; omega))); clear hr4 hs4 HCh HR3; skip)
              | (go_at_call 79; refine (ends_calls w0 g r4 _ (M + m) HR4.out HB4.out (by have := HM.out; omega)).mono ?_; rintro e_ w5 ⟨rfl, hs⟩; rw [HS4.out.1] at hs ⊢; rw [HE3.out]; have HP := Aside0.mk (open_bad HO4.out.1 HO4.out.2 (Step.trans HK4.out HSS.out hs)); clear hs HR4; skip))
            go_ret2
            exact HP.out
        · have hF1 : (e2 == 0) = false := beq_eq_false_iff_ne.2 he
          have hF2 : decide (e2 = 0) = false := decide_eq_false he
          have hF3 : (e2 != 0) = true := by rw [bne, hF1]; rfl
          have HO4 := Aside0.mk (And.intro (show openE pfB (abs r) = (e2, (doneE (abs r) L).2) by rw [HO2.out]; unfold runE; rw [if_pos (by rw [HE2.out]; exact he)]; exact Prod.ext HE2.out rfl) he)
          clear he
          go_wp2_with (first
            | (go_at_call 22; refine HDn.out.mono ?_; rintro e_ w1 ⟨rfl, hb⟩; have HB1 := Aside0.mk hb; clear hb; skip)
            | (go_at_call 23; refine (HRd.out _ HB1.out).mono ?_; rintro e_ w2 ⟨A2, c2, rfl, h1, h2, hb⟩; have HB2 := Aside0.mk (HB1.out.trans (hb.mono HB1.out.size)); have HC2 := Aside0.mk (And.intro h1 h2); clear h1 h2 hb HB1; skip)
            | (go_at_call 41; refine (show Calls Try.prog 41 #[.slice A2 nb c2] _ (ParseP _ (L, e)) from by (have h_ := parse_calls A2 c2 (bytesOf b) w2 (by rw [HNb.out]; exact HC2.out.2) (by rw [HNb.out]; exact HC2.out.1) HBb.out (by rw [HNb.out]; exact HLb.out); rwa [HNb.out, HPs.out] at h_)).mono ?_; rintro e_ w3 ⟨A3, n3, c3, ls, rfl, hls, hn3, hc3, hch, hb⟩; have HLs := Aside0.mk hls; have HB3 := Aside0.mk (HB2.out.trans (hb.mono HB2.out.size)); have HR3 := Aside0.mk (H.out.below HB3.out); subst hn3; have HCh := Aside0.mk (hch (r.S g) (S_lt (H.out.below HB2.out))); clear hls hc3 hch hb HB2 HC2; skip)
            | (go_at_call 78; refine (done_calls w0 g r _ A3 c3 ls M HR3.out HCh.out HBd.out (by have h1 := HM.out; have h2 := HRl.out.1; rw [← HLs.out, List.length_map] at h2; omega) (fun x hx => HRl.out.2 _ (by rw [← HLs.out]; exact List.mem_map_of_mem hx))).mono ?_; rintro e_ w4 ⟨rfl, hs⟩; rw [HLs.out] at hs ⊢; rw [HE2.out]; have HP := Aside0.mk (open_bad HO4.out.1 HO4.out.2 (Step.pre HB3.out hs)); clear hs HCh HR3; skip))
          go_ret2
          exact HP.out
      · have hE1 : (e == 0) = false := beq_eq_false_iff_ne.2 he
        have hE2 : decide (e = 0) = false := decide_eq_false he
        have hE3 : (e != 0) = true := by rw [bne, hE1]; rfl
        have HO4 := Aside0.mk (And.intro (show openE pfB (abs r) = (e, abs r) by rw [HOk.out]; unfold openK; rw [if_pos he]) he)
        clear he
        go_wp2_with (first
          | (go_at_call 22; refine HDn.out.mono ?_; rintro e_ w1 ⟨rfl, hb⟩; have HB1 := Aside0.mk hb; clear hb; skip)
          | (go_at_call 23; refine (HRd.out _ HB1.out).mono ?_; rintro e_ w2 ⟨A2, c2, rfl, h1, h2, hb⟩; have HB2 := Aside0.mk (HB1.out.trans (hb.mono HB1.out.size)); have HC2 := Aside0.mk (And.intro h1 h2); clear h1 h2 hb HB1; skip)
          | (go_at_call 41; refine (show Calls Try.prog 41 #[.slice A2 nb c2] _ (ParseP _ (L, e)) from by (have h_ := parse_calls A2 c2 (bytesOf b) w2 (by rw [HNb.out]; exact HC2.out.2) (by rw [HNb.out]; exact HC2.out.1) HBb.out (by rw [HNb.out]; exact HLb.out); rwa [HNb.out, HPs.out] at h_)).mono ?_; rintro e_ w3 ⟨A3, n3, c3, ls, rfl, hls, hn3, hc3, hch, hb⟩; have HP := Aside0.mk (open_bad HO4.out.1 HO4.out.2 (Step.below H.out (HB2.out.trans (hb.mono HB2.out.size)))); clear hls hn3 hc3 hch hb HB2 HC2; skip))
        go_ret2
        exact HP.out
end
end Go.Proofs.Ytjljgcceapkdcaa.SfE
end
section
namespace Go.Proofs.Ytjljgcceapkdcaa.SfF
open Go.RowKit Go.Proofs.YtjljgcceapkdcaaW.PrintWords Go.Proofs.YtjljgcceapkdcaaW.PrintLast Go.Proofs.YtjljgcceapkdcaaW.PrintMore Go.Proofs.Ytjljgcceapkdcaa.PkH Go.Proofs.Ytjljgcceapkdcaa.RkA Go.Proofs.Ytjljgcceapkdcaa.RkB Go.Proofs.Ytjljgcceapkdcaa.RkC Go.Proofs.Ytjljgcceapkdcaa.RkD Go.Proofs.Ytjljgcceapkdcaa.RkE Go.Proofs.Ytjljgcceapkdcaa.RkG Go.Proofs.Ytjljgcceapkdcaa.RkH Go.Proofs.Ytjljgcceapkdcaa.RkI Go.Proofs.Ytjljgcceapkdcaa.RkJ Go.Proofs.Ytjljgcceapkdcaa.RkK Go.Proofs.Ytjljgcceapkdcaa.RkL Go.Proofs.Ytjljgcceapkdcaa.RkS Go.Proofs.Ytjljgcceapkdcaa.RkU Go.Proofs.Ytjljgcceapkdcaa.SfA Go.Proofs.Ytjljgcceapkdcaa.SfB Go.Proofs.Ytjljgcceapkdcaa.SfC Go.Proofs.Ytjljgcceapkdcaa.SfD Go.Proofs.Ytjljgcceapkdcaa.SfE Go.Proofs.Ytjljgcceapkdcaa.SfP Go.Proofs.Ytjljgcceapkdcaa.SfQ Go.Proofs.Ytjljgcceapkdcaa.SfR Go.Proofs.Ytjljgcceapkdcaa.Rw
set_option linter.unusedVariables false
set_option linter.unusedSimpArgs false
theorem redo_list : redoB.toList = [61, 114, 101, 100, 111] := by rw [ByteArray.toList_eq]; rfl
theorem redo_eq : (redoB.toList == [61, 114, 101, 100, 111]) = true := by rw [redo_list]; rfl
theorem redo_ne {s : ByteArray} (h : s ≠ redoB) : (s.toList == [61, 114, 101, 100, 111]) = false := beq_eq_false_iff_ne.2 fun e => h (ba_ext (e.trans redo_list.symm))
section
variable (w0 : World) (q g : Nat) (r : RS) (w : World)
def sreadK (p : PS) (s : ByteArray) : Option ByteArray := if s = redoB then none else readK p s
def SReadP (w : World) (p : PS) (s : ByteArray) (e : Ending) (w' : World) : Prop := ∃ A c, e = .returned (.tuple #[.slice A ((sreadK p s).getD ⟨#[]⟩).size c, .bool (sreadK p s).isSome]) ∧ ((sreadK p s).getD ⟨#[]⟩).size ≤ c ∧ Kd.C (Kd.int .u8) w' A ((sreadK p s).getD ⟨#[]⟩).size (bytesOf ((sreadK p s).getD ⟨#[]⟩)) ∧ (∀ ad, A = some ad → w.heap.size ≤ ad.block ∧ ad.block < w'.heap.size) ∧ Below w.heap.size w w'
set_option maxRecDepth 100000 in
theorem sread_calls (s : ByteArray) (h : RackAt w0 w g r) (hq : SafeAt w (r.S g) q g) (hs : s.size ≤ 140737488355328) : Calls Try.prog 47 #[.pointer (some ⟨q, 0, none⟩), .string s] w (SReadP w (abs r) s) := by
  have hc := blk_cell hq.1 0
  by_cases hs0 : s = redoB
  · have HP := Aside0.mk (show SReadP w (abs r) s (.returned (.tuple #[.slice none 0 0, .bool false])) w by
      unfold SReadP sreadK
      rw [if_pos hs0]
      exact ⟨none, 0, rfl, Nat.le_refl _, (dok_nil w (fun _ => False)).C, fun ad e => (by cases e), Below.refl _ _⟩)
    have hst : (s.toList == [61, 114, 101, 100, 111]) = true := by rw [hs0]; exact redo_eq
    clear h hq hs hs0
    go_enter Try.func47, Try.ntmps47
    go_wp2_with fail
    go_ret2
    exact HP.out
  · have HR := Aside0.mk (show Calls Try.prog 23 #[.pointer (some ⟨g, 0, none⟩), .string s] w (fun e w' => ∃ A n c b, e = .returned (.tuple #[.slice A n c, .bool b]) ∧ SReadP w (abs r) s e w') from (read_calls w0 g r w s h hs).mono (by
      rintro e w' ⟨A, c, rfl, h1⟩
      refine ⟨_, _, _, _, rfl, A, c, ?_⟩
      unfold sreadK
      rw [if_neg hs0, ← read_key]
      exact ⟨rfl, h1⟩))
    have hst := redo_ne hs0
    clear h hq hs hs0
    go_enter Try.func47, Try.ntmps47
    go_wp2_with (go_at_call 23; refine HR.out.mono ?_; rintro e_ w1 ⟨A1, n1, c1, b1, rfl, hp⟩; have HP := Aside0.mk hp; clear hp; skip)
    go_ret2
    exact HP.out
end
theorem scost_calls (s : ByteArray) (n : Int) (hs : s.size ≤ 140737488355328) (hn : 0 ≤ n ∧ n ≤ 140737488355328) (w : World) : Calls Try.prog 81 #[.string s, .int .i64 n] w (IntP w ((s.size : Int) + n + 8)) := by
  have hw1 : IntKind.i64.wrap ((s.size : Int) + n) = (s.size : Int) + n := by rw [IntKind.wrap_i64]; omega
  have hw2 : IntKind.i64.wrap ((s.size : Int) + n + 8) = (s.size : Int) + n + 8 := by rw [IntKind.wrap_i64]; omega
  go_enter Try.func81, Try.ntmps81
  go_wp2_with fail
  go_ret
  exact ⟨rfl, Below.refl _ _⟩
theorem nm1_calls (s : ByteArray) (h : s ≠ redoB) (w : World) : Calls Try.prog 83 #[.string s] w (BoolP w false) := by
  have hst := redo_ne h
  clear h
  go_enter Try.func83, Try.ntmps83
  go_wp2_with fail
  go_ret
  exact ⟨rfl, Below.refl _ _⟩
set_option maxRecDepth 100000 in
theorem nmix_calls (A : Option Addr) (c : Nat) (l : List ByteArray) (w : World) (hC : Kd.string.C w A l.length l) (hr : ∀ s ∈ l, s ≠ redoB) : Calls Try.prog 96 #[.slice A l.length c, .func (.func 83) #[] #[]] w (IntP w (-1)) := by
  have eg : ∀ args w, (callFunc 83 args).run Try.prog w = .ok (.enter 83 args) w := fun args w => enters_ Try.func83 (by kernel_rfl) rfl args w
  have HC := Aside0.mk hC
  have HR := Aside0.mk hr
  obtain ⟨n, hn⟩ : ∃ n, l.length = n := ⟨_, rfl⟩
  have hn9 : (n : Int) ≤ 9223372036854775807 := by have := hC.2.1; omega
  have HN := Aside0.mk hn
  rw [hn] at HC ⊢
  clear hC hr hn
  go_enter Try.func96, Try.ntmps96
  go_wp2_with fail
  go_loopw [8] (fun i wr => ∃ k : Nat, k ≤ n ∧ i = .int .i64 k ∧ Aside0 (Below w.heap.size w wr)) (fun i _ => n - (intOf i).toNat)
  case atStart => exact ⟨0, by omega, rfl, ⟨Below.refl _ _⟩⟩
  case round =>
    obtain ⟨k, hk, rfl, HB⟩ := hrel
    by_cases hlt : k < n
    · obtain ⟨ad, e1, hx⟩ := Kd.at_string (Kd.C_below HC.out HB.out) (k : Int) (by omega) (by omega)
      subst e1
      rw [Int.toNat_natCast] at hx
      obtain ⟨s, hs⟩ : ∃ s, rdOf ByteArray.empty l (k : Int) = s := ⟨_, rfl⟩
      rw [hs] at hx
      have HSn := Aside0.mk (show s ≠ redoB from HR.out s (by
        rw [← hs]
        unfold rdOf
        rw [Int.toNat_natCast, List.getD_eq_getElem?_getD, List.getElem?_eq_getElem (by rw [HN.out]; exact hlt)]
        exact List.getElem_mem _))
      clear hs
      go_wp2_with (go_at_call 83; refine (nm1_calls s HSn.out _).mono ?_; rintro e_ w3 ⟨rfl, hb3⟩; have HB3 := Aside0.mk (HB.out.trans (hb3.mono HB.out.size)); clear hb3 hx; skip)
      go_roundw
      case rel => exact ⟨k + 1, by omega, by go_num, HB3⟩
      case measure => simp [intOf]; omega
    · obtain rfl : k = n := by omega
      go_wp2_with fail
      go_ret
      exact ⟨rfl, HB.out⟩
set_option maxRecDepth 100000 in
theorem nmdel_calls (A : Option Addr) (c : Nat) (l : List ByteArray) (w : World) (hC : Kd.string.C w A l.length l) (hr : ∀ s ∈ l, s ≠ redoB) : Calls Try.prog 82 #[.slice A l.length c, .func (.func 83) #[] #[]] w (fun e w' => e = .returned (.slice A l.length c) ∧ Below w.heap.size w w') := by
  have HI := Aside0.mk (nmix_calls A c l w hC hr)
  obtain ⟨n, hn⟩ : ∃ n, l.length = n := ⟨_, rfl⟩
  rw [hn] at HI ⊢
  clear hC hr hn
  go_enter Try.func82, Try.ntmps82
  go_wp2_with (go_at_call 96; refine HI.out.mono ?_; rintro e_ w3 ⟨rfl, hb3⟩; have HB3 := Aside0.mk hb3; clear hb3; skip)
  go_ret
  exact ⟨rfl, HB3.out⟩
def SNamesP (w : World) (l : List ByteArray) (e : Ending) (w' : World) : Prop := ∃ A c, e = .returned (.slice A l.length c) ∧ l.length ≤ c ∧ Kd.string.C w' A l.length l ∧ Below w.heap.size w w'
section
variable (w0 : World) (q g : Nat) (r : RS) (w : World)
set_option maxRecDepth 100000 in
theorem snames_calls (h : RackAt w0 w g r) (hq : SafeAt w (r.S g) q g) (hl : r.ns.length ≤ 100000) (hf : findK (abs r).ns redoB = none) : Calls Try.prog 50 #[.pointer (some ⟨q, 0, none⟩)] w (SNamesP w (namesF r.ns)) := by
  have hc := blk_cell hq.1 0
  have HN := Aside0.mk (names_calls w0 g r w h hl)
  have HF := Aside0.mk (show ∀ s ∈ namesF r.ns, s ≠ redoB from fun s hs => by
    obtain ⟨x, hx, rfl⟩ := List.mem_map.1 hs
    exact find_none.1 hf (keyD x) (List.mem_map_of_mem hx))
  clear h hq hl hf
  go_enter Try.func50, Try.ntmps50
  go_wp2_with (first
    | (go_at_call 20; refine HN.out.mono ?_; rintro e_ w1 ⟨v1, rfl, hR, hb⟩; obtain ⟨A1, n1, c1, rfl⟩ := slc hR; have hr1 := Kd.R_reads' hR; obtain rfl : n1 = (namesF r.ns).length := hr1.1; have HC1 := Aside0.mk hr1.2; have HB1 := Aside0.mk hb; clear hR hb hr1 hc; skip)
    | (go_at_call 82; refine (nmdel_calls A1 c1 (namesF r.ns) w1 HC1.out.2 HF.out).mono ?_; rintro e_ w2 ⟨rfl, hb⟩; have HB2 := Aside0.mk hb; clear hb; skip))
  go_ret
  exact ⟨A1, c1, rfl, HC1.out.1, Kd.C_below HC1.out.2 HB2.out, HB1.out.trans (HB2.out.mono HB1.out.size)⟩
end
end Go.Proofs.Ytjljgcceapkdcaa.SfF
end
section
namespace Go.Proofs.Ytjljgcceapkdcaa.SfW
open Go.RowKit Go.Proofs.YtjljgcceapkdcaaW.PrintWords Go.Proofs.YtjljgcceapkdcaaW.PrintLast Go.Proofs.YtjljgcceapkdcaaW.PrintMore Go.Proofs.Ytjljgcceapkdcaa.RkA Go.Proofs.Ytjljgcceapkdcaa.RkB Go.Proofs.Ytjljgcceapkdcaa.RkC Go.Proofs.Ytjljgcceapkdcaa.RkL Go.Proofs.Ytjljgcceapkdcaa.RkU Go.Proofs.Ytjljgcceapkdcaa.SfP Go.Proofs.Ytjljgcceapkdcaa.SfR Go.Proofs.Ytjljgcceapkdcaa.SfF Go.Proofs.Ytjljgcceapkdcaa.Rw
set_option linter.unusedVariables false
set_option linter.unusedSimpArgs false
def wrongB (c : CK) (ahead : List CK) : Bool := decide (c.1 = redoB) || decide (c.1.size < 1) || decide (24 < c.1.size) || decide (200000 < c.2.2.size) || ahead.any (fun d => decide (d.1 = c.1))
set_option maxRecDepth 100000 in
theorem wr1_calls (x : WR) (cb : Nat) (nm : ByteArray) (w : World) (hc : w.cell? ⟨cb, 0, none⟩ = some (.string nm)) :
    Calls Try.prog 95 #[.agg #[.string x.nm, .bool x.cut, .slice x.A x.d.size x.c], .pointer (some ⟨cb, 0, none⟩)] w (BoolP w (decide (x.nm = nm))) := by
  have hu64 := Try.underlying64
  by_cases h : x.nm = nm
  · have hst : (x.nm.toList == nm.toList) = true := by rw [h]; exact beq_self_eq_true _
    have HE := Aside0.mk (show decide (x.nm = nm) = true from decide_eq_true h)
    clear h
    go_enter Try.func95, Try.ntmps95
    go_wp2_with ((with_reducible refine gate_dst (N := 2) rfl ?_); refine box_event ?hgb1 (N := 2) ?hdb1 (cs := #[.string x.nm, .bool x.cut, .slice x.A x.d.size x.c]) (t := 64) ?hrb1 ?_; (case hdb1 => rfl); (case hgb1 => rfl); (case hrb1 => first | (go_simp; done) | (go_simp; rfl)); intro gS hg_ w1 hbx hb1; have HB1 := Aside0.mk hb1; have z0 := blk_cell hbx 0; have hc := pw_cell_below hb1 hc; clear hg_ hbx hb1; skip)
    go_ret
    exact ⟨by rw [HE.out]; rfl, HB1.out⟩
  · have hst : (x.nm.toList == nm.toList) = false := beq_eq_false_iff_ne.2 fun e => h (ba_ext e)
    have HE := Aside0.mk (show decide (x.nm = nm) = false from decide_eq_false h)
    clear h
    go_enter Try.func95, Try.ntmps95
    go_wp2_with ((with_reducible refine gate_dst (N := 2) rfl ?_); refine box_event ?hgb2 (N := 2) ?hdb2 (cs := #[.string x.nm, .bool x.cut, .slice x.A x.d.size x.c]) (t := 64) ?hrb2 ?_; (case hdb2 => rfl); (case hgb2 => rfl); (case hrb2 => first | (go_simp; done) | (go_simp; rfl)); intro gS hg_ w1 hbx hb1; have HB1 := Aside0.mk hb1; have z0 := blk_cell hbx 0; have hc := pw_cell_below hb1 hc; clear hg_ hbx hb1; skip)
    go_ret
    exact ⟨by rw [HE.out]; rfl, HB1.out⟩
set_option maxRecDepth 100000 in
set_option maxHeartbeats 4000000 in
theorem wrix_calls (A : Option Addr) (c : Nat) (ls : List WR) (cb : Nat) (nm : ByteArray) (w : World) (hC : Kd.C kW w A ls.length ls) (hc : w.cell? ⟨cb, 0, none⟩ = some (.string nm)) :
    Calls Try.prog 100 #[.slice A ls.length c, .func (.func 95) #[] #[.pointer (some ⟨cb, 0, none⟩)]] w fun e w' => ∃ z, IntP w z e w' ∧ (decide (0 ≤ z) = ls.any (fun x => decide (x.nm = nm))) := by
  have hu64 := Try.underlying64
  have eg : ∀ args w, (callFunc 95 args).run Try.prog w = .ok (.enter 95 args) w := fun args w => enters_ Try.func95 (by kernel_rfl) rfl args w
  have HC := Aside0.mk hC
  have HCc := Aside0.mk (fun W (hW : Below w.heap.size w W) => pw_cell_below hW hc)
  obtain ⟨n, hn⟩ : ∃ n, ls.length = n := ⟨_, rfl⟩
  have hn9 : (n : Int) ≤ 9223372036854775807 := by have := hC.2.1; omega
  have HN := Aside0.mk hn
  rw [hn] at HC ⊢
  clear hC hc hn
  go_enter Try.func100, Try.ntmps100
  go_wp2_with fail
  go_loopw [8] (fun i wr => ∃ k : Nat, k ≤ n ∧ i = .int .i64 k ∧ Aside0 ((ls.take k).any (fun x => decide (x.nm = nm)) = false) ∧ Aside0 (Below w.heap.size w wr)) (fun i _ => n - (intOf i).toNat)
  case atStart => exact ⟨0, by omega, rfl, ⟨rfl⟩, ⟨Below.refl _ _⟩⟩
  case round =>
    obtain ⟨k, hk, rfl, HF, HB⟩ := hrel
    by_cases hlt : k < n
    · obtain ⟨x, hx⟩ : ∃ x, ls[k]? = some x := ⟨_, List.getElem?_eq_getElem (by rw [HN.out]; exact hlt)⟩
      obtain ⟨ad, e1, x0, x1, x2⟩ := at_W (Kd.C_below HC.out HB.out) k hlt x hx
      cases e1
      have HX := Aside0.mk hx
      clear hx
      by_cases h : x.nm = nm
      · have HW := Aside0.mk (show Calls Try.prog 95 #[.agg #[.string x.nm, .bool x.cut, .slice x.A x.d.size x.c], .pointer (some ⟨cb, 0, none⟩)] wr (BoolP wr true) from decide_eq_true h ▸ wr1_calls x cb nm wr (HCc.out wr HB.out))
        have HA := Aside0.mk (show ls.any (fun x => decide (x.nm = nm)) = true from List.any_eq_true.2 ⟨x, List.mem_of_getElem? HX.out, decide_eq_true h⟩)
        clear h
        go_wp2_with (go_at_call 95; refine HW.out.mono ?_; rintro e_ w3 ⟨rfl, hb3⟩; have HB3 := Aside0.mk (HB.out.trans (hb3.mono HB.out.size)); clear hb3 x0 x1 x2; skip)
        go_ret
        exact ⟨_, ⟨rfl, HB3.out⟩, by rw [HA.out]; exact decide_eq_true (by omega)⟩
      · have HW := Aside0.mk (show Calls Try.prog 95 #[.agg #[.string x.nm, .bool x.cut, .slice x.A x.d.size x.c], .pointer (some ⟨cb, 0, none⟩)] wr (BoolP wr false) from decide_eq_false h ▸ wr1_calls x cb nm wr (HCc.out wr HB.out))
        have HA := Aside0.mk (show (ls.take (k + 1)).any (fun x => decide (x.nm = nm)) = false by
          rw [List.take_add_one, HX.out, List.any_append, HF.out]
          simpa using h)
        clear h
        go_wp2_with (go_at_call 95; refine HW.out.mono ?_; rintro e_ w3 ⟨rfl, hb3⟩; have HB3 := Aside0.mk (HB.out.trans (hb3.mono HB.out.size)); clear hb3 x0 x1 x2; skip)
        go_roundw
        case rel => exact ⟨k + 1, by omega, by go_num, HA, HB3⟩
        case measure => simp [intOf]; omega
    · obtain rfl : k = n := by omega
      have HA := Aside0.mk (show ls.any (fun x => decide (x.nm = nm)) = false by have h := HF.out; rwa [← HN.out, List.take_length] at h)
      go_wp2_with fail
      go_ret
      exact ⟨-1, ⟨rfl, HB.out⟩, by rw [HA.out]; rfl⟩
set_option maxRecDepth 100000 in
theorem wrhas_calls (A : Option Addr) (c : Nat) (ls : List WR) (cb : Nat) (nm : ByteArray) (w : World) (hC : Kd.C kW w A ls.length ls) (hc : w.cell? ⟨cb, 0, none⟩ = some (.string nm)) :
    Calls Try.prog 94 #[.slice A ls.length c, .func (.func 95) #[] #[.pointer (some ⟨cb, 0, none⟩)]] w (BoolP w (ls.any (fun x => decide (x.nm = nm)))) := by
  have HI := Aside0.mk (wrix_calls A c ls cb nm w hC hc)
  obtain ⟨n, hn⟩ : ∃ n, ls.length = n := ⟨_, rfl⟩
  rw [hn] at HI ⊢
  clear hC hc hn
  go_enter Try.func94, Try.ntmps94
  go_wp2_with (go_at_call 100; refine HI.out.mono ?_; rintro e_ w3 ⟨z, ⟨rfl, hb3⟩, hz⟩; have HB3 := Aside0.mk hb3; have HZ := Aside0.mk hz; clear hb3 hz; skip)
  go_ret
  exact ⟨by rw [← HZ.out]; rfl, HB3.out⟩
theorem any_key (ls : List WR) (nm : ByteArray) : ls.any (fun x => decide (x.nm = nm)) = (ls.map keyW).any (fun d => decide (d.1 = nm)) := by
  rw [List.any_map]
  rfl
set_option maxRecDepth 100000 in
set_option maxHeartbeats 4000000 in
theorem wrong_calls (x : WR) (A : Option Addr) (c : Nat) (ls : List WR) (w : World) (hC : Kd.C kW w A ls.length ls) :
    Calls Try.prog 80 #[.agg #[.string x.nm, .bool x.cut, .slice x.A x.d.size x.c], .slice A ls.length c] w (BoolP w (wrongB (keyW x) (ls.map keyW))) := by
  have hu64 := Try.underlying64
  have HC := Aside0.mk hC
  have HW : wrongB (keyW x) (ls.map keyW) = (decide (x.nm = redoB) || decide (x.nm.size < 1) || decide (24 < x.nm.size) || decide (200000 < x.d.size) || ls.any (fun d => decide (d.nm = x.nm))) := by rw [any_key]; rfl
  rw [HW]
  obtain ⟨n, hn⟩ : ∃ n, ls.length = n := ⟨_, rfl⟩
  have HN := Aside0.mk hn
  rw [hn] at HC ⊢
  clear hC hn HW
  by_cases h0 : x.nm = redoB
  · have hst : (x.nm.toList == [61, 114, 101, 100, 111]) = true := by rw [h0]; exact redo_eq
    rw [decide_eq_true h0]
    simp only [Bool.true_or]
    clear h0
    go_enter Try.func80, Try.ntmps80
    go_wp2_with ((with_reducible refine gate_dst (N := 2) rfl ?_); refine box_event ?hga (N := 2) ?hda (cs := #[.string x.nm, .bool x.cut, .slice x.A x.d.size x.c]) (t := 64) ?hra ?_; (case hda => rfl); (case hga => rfl); (case hra => first | (go_simp; done) | (go_simp; rfl)); intro gS hg_ w1 hbx hb1; have HB1 := Aside0.mk hb1; have GS1 := Aside0.mk hbx; have z0 := blk_cell hbx 0; have z1 := blk_cell hbx 1; have z2 := blk_cell hbx 2; clear hg_ hbx hb1; skip)
    go_ret
    exact ⟨rfl, HB1.out⟩
  have hst := redo_ne h0
  rw [decide_eq_false h0, Bool.false_or]
  clear h0
  by_cases h1 : x.nm.size < 1
  · have hd1 : decide ((x.nm.size : Int) < 1) = true := decide_eq_true (by omega)
    rw [decide_eq_true h1]
    simp only [Bool.true_or]
    clear h1
    go_enter Try.func80, Try.ntmps80
    go_wp2_with ((with_reducible refine gate_dst (N := 2) rfl ?_); refine box_event ?hgb (N := 2) ?hdb (cs := #[.string x.nm, .bool x.cut, .slice x.A x.d.size x.c]) (t := 64) ?hrb ?_; (case hdb => rfl); (case hgb => rfl); (case hrb => first | (go_simp; done) | (go_simp; rfl)); intro gS hg_ w1 hbx hb1; have HB1 := Aside0.mk hb1; have GS1 := Aside0.mk hbx; have z0 := blk_cell hbx 0; have z1 := blk_cell hbx 1; have z2 := blk_cell hbx 2; clear hg_ hbx hb1; skip)
    go_ret
    exact ⟨rfl, HB1.out⟩
  have hd1 : decide ((x.nm.size : Int) < 1) = false := decide_eq_false (by omega)
  rw [decide_eq_false h1, Bool.false_or]
  clear h1
  by_cases h2 : 24 < x.nm.size
  · have hd2 : decide ((24 : Int) < (x.nm.size : Int)) = true := decide_eq_true (by omega)
    rw [decide_eq_true h2]
    simp only [Bool.true_or]
    clear h2
    go_enter Try.func80, Try.ntmps80
    go_wp2_with ((with_reducible refine gate_dst (N := 2) rfl ?_); refine box_event ?hgc (N := 2) ?hdc (cs := #[.string x.nm, .bool x.cut, .slice x.A x.d.size x.c]) (t := 64) ?hrc ?_; (case hdc => rfl); (case hgc => rfl); (case hrc => first | (go_simp; done) | (go_simp; rfl)); intro gS hg_ w1 hbx hb1; have HB1 := Aside0.mk hb1; have GS1 := Aside0.mk hbx; have z0 := blk_cell hbx 0; have z1 := blk_cell hbx 1; have z2 := blk_cell hbx 2; clear hg_ hbx hb1; skip)
    go_ret
    exact ⟨rfl, HB1.out⟩
  have hd2 : decide ((24 : Int) < (x.nm.size : Int)) = false := decide_eq_false (by omega)
  rw [decide_eq_false h2, Bool.false_or]
  clear h2
  by_cases h3 : 200000 < x.d.size
  · have hd3 : decide ((200000 : Int) < (x.d.size : Int)) = true := decide_eq_true (by omega)
    rw [decide_eq_true h3]
    simp only [Bool.true_or]
    clear h3
    go_enter Try.func80, Try.ntmps80
    go_wp2_with ((with_reducible refine gate_dst (N := 2) rfl ?_); refine box_event ?hgd (N := 2) ?hdd (cs := #[.string x.nm, .bool x.cut, .slice x.A x.d.size x.c]) (t := 64) ?hrd ?_; (case hdd => rfl); (case hgd => rfl); (case hrd => first | (go_simp; done) | (go_simp; rfl)); intro gS hg_ w1 hbx hb1; have HB1 := Aside0.mk hb1; have GS1 := Aside0.mk hbx; have z0 := blk_cell hbx 0; have z1 := blk_cell hbx 1; have z2 := blk_cell hbx 2; clear hg_ hbx hb1; skip)
    go_ret
    exact ⟨rfl, HB1.out⟩
  have hd3 : decide ((200000 : Int) < (x.d.size : Int)) = false := decide_eq_false (by omega)
  rw [decide_eq_false h3, Bool.false_or]
  clear h3
  obtain ⟨b, hb⟩ : ∃ b, ls.any (fun d => decide (d.nm = x.nm)) = b := ⟨_, rfl⟩
  have HBb := Aside0.mk hb
  rw [hb]
  clear hb
  go_enter Try.func80, Try.ntmps80
  go_wp2_with (first
    | ((with_reducible refine gate_dst (N := 2) rfl ?_); refine box_event ?hge (N := 2) ?hde (cs := #[.string x.nm, .bool x.cut, .slice x.A x.d.size x.c]) (t := 64) ?hre ?_; (case hde => rfl); (case hge => rfl); (case hre => first | (go_simp; done) | (go_simp; rfl)); intro gS hg_ w1 hbx hb1; have HB1 := Aside0.mk hb1; have GS1 := Aside0.mk hbx; have z0 := blk_cell hbx 0; have z1 := blk_cell hbx 1; have z2 := blk_cell hbx 2; clear hg_ hbx hb1; skip)
    | (go_at_call 94; refine (show Calls Try.prog 94 #[.slice A n c, .func (.func 95) #[] #[.pointer (some ⟨gS, 0, none⟩)]] w1 (BoolP w1 b) from (by have h_ := wrhas_calls A c ls gS x.nm w1 (by rw [HN.out]; exact Kd.C_below HC.out HB1.out) (blk_cell GS1.out 0); rwa [HN.out, HBb.out] at h_)).mono ?_; rintro e_ w2 ⟨rfl, hb⟩; have HB2 := Aside0.mk (HB1.out.trans (hb.mono HB1.out.size)); clear hb z0 z1 z2; skip))
  go_ret
  exact ⟨rfl, HB2.out⟩
def okK : List CK → List CK → Bool
  | _, [] => true
  | a, x :: r => !wrongB x a && okK (a ++ [x]) r
theorem okK_iff : ∀ (l a : List CK), okK a l = true ↔ ∀ k x, l[k]? = some x → wrongB x (a ++ l.take k) = false
  | [], a => by simp [okK]
  | y :: l, a => by
    rw [okK, Bool.and_eq_true, okK_iff l (a ++ [y])]
    constructor
    · rintro ⟨h1, h2⟩ k x hx
      cases k with
      | zero =>
        have : y = x := by simpa using hx
        subst this
        simpa using h1
      | succ k =>
        have := h2 k x (by simpa using hx)
        simpa using this
    · intro h
      refine ⟨by have := h 0 y rfl; simpa using this, fun k x hx => ?_⟩
      have := h (k + 1) x (by simpa using hx)
      simpa using this
theorem okK_all {l : List CK} (h : okK [] l = true) : l.Pairwise (fun x y => x.1 ≠ y.1) ∧ ∀ c ∈ l, RkD.namedB c.1 = true ∧ c.1 ≠ redoB ∧ c.2.2.size ≤ 200000 := by
  have h1 := (okK_iff l []).1 h
  constructor
  · rw [List.pairwise_iff_getElem]
    intro i j hi hj hij e
    have h2 := h1 j l[j] (List.getElem?_eq_getElem hj)
    unfold wrongB at h2
    simp only [Bool.or_eq_false_iff, List.nil_append] at h2
    have h3 := List.any_eq_false.1 h2.2 l[i] (List.mem_take_iff_getElem.2 ⟨i, by omega, rfl⟩)
    simp only [decide_eq_true_eq] at h3
    exact h3 e
  · intro c hc
    obtain ⟨k, hk⟩ := List.getElem?_of_mem hc
    have h2 := h1 k c hk
    unfold wrongB at h2
    simp only [Bool.or_eq_false_iff, decide_eq_false_iff_not] at h2
    unfold RkD.namedB
    refine ⟨?_, h2.1.1.1.1, by omega⟩
    simp
    omega
end Go.Proofs.Ytjljgcceapkdcaa.SfW
end
section
namespace Go.Proofs.Ytjljgcceapkdcaa.SfV
open Go.RowKit Go.Proofs.YtjljgcceapkdcaaW.PrintWords Go.Proofs.Ytjljgcceapkdcaa.PkP Go.Proofs.Ytjljgcceapkdcaa.PkQ Go.Proofs.Ytjljgcceapkdcaa.RkB Go.Proofs.Ytjljgcceapkdcaa.RkD Go.Proofs.Ytjljgcceapkdcaa.RkS Go.Proofs.Ytjljgcceapkdcaa.RkV Go.Proofs.Ytjljgcceapkdcaa.SfA Go.Proofs.Ytjljgcceapkdcaa.SfP Go.Proofs.Ytjljgcceapkdcaa.SfQ Go.Proofs.Ytjljgcceapkdcaa.SfR Go.Proofs.Ytjljgcceapkdcaa.SfW
set_option linter.unusedVariables false
set_option linter.unusedSimpArgs false
def chK (c : CK) : List Int := enc (if c.2.1 then 1 else 0) ++ encT (bytesOf c.1) ++ (if c.2.1 then [] else encT (bytesOf c.2.2))
theorem chsE_key (ls : List WR) : chsE ls = (ls.map keyW).flatMap chK := by
  unfold chsE
  rw [List.flatMap_map]
  rfl
def rdK (l : List CK) : ByteArray := strOfNums (l.flatMap chK)
theorem rd_size (l : List CK) : (rdK l).size = (l.flatMap chK).length := nums_size _
def fitsK (p : PS) (l : List CK) : Int :=
  if okK [] l = false then 1 else if 200000 < (rdK l).size then 4 else if 40 < (allK p.ns (rdK l) l).length ∨ p.room < (sumK (allK p.ns (rdK l) l) : Int) then 4 else 0
def upK (ns : List KV) (l : List CK) (k : Nat) : List KV := allK ns (rdK l) (l.take k)
theorem rd_take (ns : List KV) (l : List CK) : upK ns l l.length = allK ns (rdK l) l := by unfold upK; rw [List.take_length]
def grow1 (ns : List KV) (rd : ByteArray) (l : List CK) (k : Nat) : List KV := (l.take k).foldl growK (putK ns (redoB, rd))
theorem grow1_succ {ns : List KV} {rd : ByteArray} {l : List CK} {k : Nat} {c : CK} (h : l[k]? = some c) : grow1 ns rd l (k + 1) = growK (grow1 ns rd l k) c := by
  have hk := (List.getElem?_eq_some_iff.1 h).1
  unfold grow1
  rw [List.take_succ_eq_append_getElem hk, List.foldl_append, (List.getElem?_eq_some_iff.1 h).2]
  rfl
section
variable {ns : List KV} {l : List CK} {k : Nat} {c : CK}
theorem up_succ (h : l[k]? = some c) : upK ns l (k + 1) = growK (upK ns l k) c := grow1_succ h
theorem up_srt (h : SrtK ns) : SrtK (upK ns l k) := growF_srt _ (srt_put h _)
theorem up_find (ho : okK [] l = true) (h : l[k]? = some c) : findK (upK ns l k) c.1 = findK ns c.1 := by
  have hc := List.mem_of_getElem? h
  obtain ⟨hd, hn⟩ := okK_all ho
  have hk := (List.getElem?_eq_some_iff.1 h).1
  have hck := (List.getElem?_eq_some_iff.1 h).2
  unfold upK allK
  rw [growF_out, find_put, if_neg (hn c hc).2.1]
  intro x hx
  obtain ⟨i, hi, rfl⟩ := List.mem_take_iff_getElem.1 hx
  rw [List.pairwise_iff_getElem] at hd
  have := hd i k (by omega) hk (by omega)
  rw [hck] at this
  exact this
theorem up_cut (h : l[k]? = some c) (hc : c.2.1 = true) : (upK ns l (k + 1)).length = (upK ns l k).length ∧ sumK (upK ns l (k + 1)) = sumK (upK ns l k) := by
  rw [up_succ h]
  unfold growK
  rw [hc, if_pos rfl]
  exact ⟨rfl, rfl⟩
theorem up_new (hs : SrtK ns) (ho : okK [] l = true) (h : l[k]? = some c) (hc : c.2.1 = false) (hf : findK ns c.1 = none) : (upK ns l (k + 1)).length = (upK ns l k).length + 1 ∧ sumK (upK ns l (k + 1)) = sumK (upK ns l k) + (c.1.size + c.2.2.size + 8) := by
  have h1 := up_find (ns := ns) ho h
  rw [hf] at h1
  have h2 := put_sum (up_srt (l := l) (k := k) hs) c.1 c.2.2
  unfold sumWK numK at h2
  rw [h1] at h2
  rw [up_succ h]
  unfold growK
  rw [hc, if_neg (by decide), h1]
  refine ⟨h2.2, ?_⟩
  have h3 := h2.1
  unfold costN at h3
  simp only at h3 ⊢
  omega
theorem up_old (hs : SrtK ns) (ho : okK [] l = true) (h : l[k]? = some c) (hc : c.2.1 = false) {f : ByteArray} (hf : findK ns c.1 = some f) : (upK ns l (k + 1)).length = (upK ns l k).length ∧ (sumK (upK ns l (k + 1)) : Int) = (sumK (upK ns l k) : Int) + (if f.size < c.2.2.size then (c.2.2.size : Int) - (f.size : Int) else 0) := by
  have h1 := up_find (ns := ns) ho h
  rw [hf] at h1
  have h2 := put_sum (up_srt (l := l) (k := k) hs) c.1 c.2.2
  unfold sumWK numK at h2
  rw [h1] at h2
  rw [up_succ h]
  unfold growK
  rw [hc, if_neg (by decide), h1]
  simp only
  by_cases hlt : f.size < c.2.2.size
  · rw [if_pos hlt, if_pos hlt]
    refine ⟨h2.2, ?_⟩
    have h3 := h2.1
    unfold costN at h3
    simp only at h3
    omega
  · rw [if_neg hlt, if_neg hlt]
    exact ⟨rfl, by omega⟩
theorem up_zero (hs : SrtK ns) (hr : findK ns redoB = none) : (upK ns l 0).length = ns.length + 1 ∧ sumK (upK ns l 0) = sumK ns + (5 + (rdK l).size + 8) := by
  have h2 := put_sum hs redoB (rdK l)
  unfold sumWK numK at h2
  rw [hr] at h2
  unfold upK allK
  rw [List.take_zero, List.foldl_nil]
  refine ⟨h2.2, ?_⟩
  have h3 := h2.1
  unfold costN at h3
  rw [show redoB.size = 5 from rfl] at h3
  simp only at h3
  omega
end
theorem up_bound {ns : List KV} {l : List CK} (hs : SrtK ns) (ho : okK [] l = true) (hr : findK ns redoB = none) (hrd : (rdK l).size ≤ 200000) : ∀ k, k ≤ l.length → (upK ns l k).length ≤ ns.length + 1 + k ∧ sumK (upK ns l k) ≤ sumK ns + 200013 + k * 200032
  | 0, _ => by
    have := up_zero (l := l) hs hr
    omega
  | k + 1, hk => by
    obtain ⟨c, hc⟩ : ∃ c, l[k]? = some c := ⟨_, List.getElem?_eq_getElem hk⟩
    have ih := up_bound hs ho hr hrd k (by omega)
    obtain ⟨hn, hz, hd⟩ := (okK_all ho).2 c (List.mem_of_getElem? hc)
    have hn2 : c.1.size ≤ 24 := by unfold namedB at hn; simp at hn; exact hn.2
    cases hcut : c.2.1 with
    | true =>
      have := up_cut (ns := ns) hc hcut
      omega
    | false =>
      cases hf : findK ns c.1 with
      | none =>
        have := up_new hs ho hc hcut hf
        omega
      | some f =>
        have := up_old hs ho hc hcut hf
        split at this <;> omega
theorem fits_com {p : PS} {l : List CK} (hs : SrtK p.ns) (hr : findK p.ns redoB = none) (hf : fitsK p l = 0) : Com p.room p.ns l (rdK l) := by
  unfold fitsK at hf
  by_cases ho : okK [] l = false
  · rw [if_pos ho] at hf
    exact absurd hf (by decide)
  · rw [if_neg ho] at hf
    by_cases hz : 200000 < (rdK l).size
    · rw [if_pos hz] at hf
      exact absurd hf (by decide)
    · rw [if_neg hz] at hf
      by_cases hn : 40 < (allK p.ns (rdK l) l).length ∨ p.room < (sumK (allK p.ns (rdK l) l) : Int)
      · rw [if_pos hn] at hf
        exact absurd hf (by decide)
      · obtain ⟨hd, hm⟩ := okK_all (by simpa using ho)
        exact ⟨hs, hr, hd, hm, by omega, by omega, by omega⟩
end Go.Proofs.Ytjljgcceapkdcaa.SfV
end
