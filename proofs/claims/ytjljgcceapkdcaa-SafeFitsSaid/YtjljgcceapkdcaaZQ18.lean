-- The used parts of 1 texts, laid together by merge.py.
import Derived.Test.YtjljgcceapkdcaaZQ17
section
namespace Go.Proofs.Ytjljgcceapkdcaa.SfO
open Go.RowKit Go.Proofs.YtjljgcceapkdcaaW.PrintWords Go.Proofs.YtjljgcceapkdcaaW.PrintLast Go.Proofs.YtjljgcceapkdcaaW.PrintMore Go.Proofs.Ytjljgcceapkdcaa.PkH Go.Proofs.Ytjljgcceapkdcaa.RkA Go.Proofs.Ytjljgcceapkdcaa.RkB Go.Proofs.Ytjljgcceapkdcaa.RkC Go.Proofs.Ytjljgcceapkdcaa.RkD Go.Proofs.Ytjljgcceapkdcaa.RkG Go.Proofs.Ytjljgcceapkdcaa.RkK Go.Proofs.Ytjljgcceapkdcaa.RkL Go.Proofs.Ytjljgcceapkdcaa.RkS Go.Proofs.Ytjljgcceapkdcaa.RkU Go.Proofs.Ytjljgcceapkdcaa.RkV Go.Proofs.Ytjljgcceapkdcaa.SfA Go.Proofs.Ytjljgcceapkdcaa.SfB Go.Proofs.Ytjljgcceapkdcaa.SfE Go.Proofs.Ytjljgcceapkdcaa.SfF Go.Proofs.Ytjljgcceapkdcaa.SfG Go.Proofs.Ytjljgcceapkdcaa.SfH Go.Proofs.Ytjljgcceapkdcaa.SfI Go.Proofs.Ytjljgcceapkdcaa.SfJ Go.Proofs.Ytjljgcceapkdcaa.SfN Go.Proofs.Ytjljgcceapkdcaa.SfT Go.Proofs.Ytjljgcceapkdcaa.SfP Go.Proofs.Ytjljgcceapkdcaa.SfQ Go.Proofs.Ytjljgcceapkdcaa.SfR Go.Proofs.Ytjljgcceapkdcaa.SfV Go.Proofs.Ytjljgcceapkdcaa.Rw
set_option linter.unusedVariables false
set_option linter.unusedSimpArgs false
theorem at_sl {α : Type} {e : Nat} {d : Kd α} {w : World} {A : Option Addr} {n : Nat} {ll : List (List α)} (h : Kd.C (Kd.slice e d) w A n ll) (k : Nat) (hk : k < n) : ∃ ad x A' c', A = some ad ∧ ll[k]? = some x ∧ w.cell? (ad.add k) = some (.slice A' x.length c') ∧ x.length ≤ c' ∧ Kd.C d w A' x.length x := by
  obtain ⟨h1, _, h3⟩ := h
  obtain ⟨ad, e1, h4⟩ := h3 (by omega)
  obtain ⟨c, hc, hK, h5⟩ := h4 k (ll[k]'(by omega)) (List.getElem?_eq_getElem _)
  obtain ⟨A', c', rfl, hl, hC⟩ := hK
  refine ⟨ad, _, A', c', e1, List.getElem?_eq_getElem (by omega), ?_, hl, hC⟩
  have h6 := h5 0 _ rfl
  rw [show k * (Kd.slice e d).sz + 0 = k by show k * 1 + 0 = k; omega] at h6
  exact h6
structure FAt (w wr : World) (g q : Nat) (r : RS) (room : Int) (M : Nat) : Prop where
  ra : RackAt w wr g r
  sa : SafeAt wr (r.S g) q g
  cl : ∃ X, Cln room X (abs r) ∧ SrtK X ∧ findK X redoB = none
  fu : (abs r).fuse = -1
  bd : Bd (abs r) M
theorem FAt.below {w wr w1 : World} {g q : Nat} {r : RS} {room : Int} {M : Nat} (h : FAt w wr g q r room M) (hb : Below wr.heap.size wr w1) : FAt w w1 g q r room M := ⟨h.ra.below hb, h.sa.below hb, h.cl, h.fu, h.bd⟩
theorem FAt.free {w wr : World} {g q : Nat} {r : RS} {room : Int} {M : Nat} (h : FAt w wr g q r room M) : findK (abs r).ns redoB = none ∧ SrtK (abs r).ns ∧ (abs r).down = false := by
  obtain ⟨X, h1, h2, h3⟩ := h.cl
  rw [h1.ns]
  exact ⟨h3, h2, h1.on⟩
theorem FAt.loose {w wr : World} {g q : Nat} {r : RS} {room : Int} {M : Nat} (h : FAt w wr g q r room M) : (r.ls.length : Int) = 0 := by
  obtain ⟨X, h1, _, _⟩ := h.cl
  exact loose0 rfl h1.ls
theorem FAt.commit {w wr w1 : World} {g q : Nat} {r : RS} {room : Int} {M : Nat} {L : List CK} {e : Ending} (h : FAt w wr g q r room M) (hp : CommitP w wr g r L e w1) :
    e = .returned (.int .i64 (fitsK (abs r) L)) ∧ ∃ r', FAt w w1 g q r' room (M + L.length + 2) ∧ (fitsK (abs r) L ≠ 0 → abs r' = abs r) ∧ (fitsK (abs r) L = 0 → ∀ c ∈ L, sreadK (abs r') c.1 = valC c) ∧ Kept wr w1 (r.S g) ∧ (∀ k, r'.S g k → r.S g k ∨ wr.heap.size ≤ k) := by
  obtain ⟨he, r', hR, hr', hk, hS⟩ := hp
  obtain ⟨X, hX1, hX2, hX3⟩ := h.cl
  have hbd := Bd.commit h.bd L (rdK L) (fitsK (abs r) L)
  by_cases hf : fitsK (abs r) L = 0
  · have hc : Com room X L (rdK L) := by
      have h1 := fits_com h.free.2.1 h.free.1 hf
      rw [hX1.ns, hX1.rm] at h1
      exact h1
    rw [hf] at he hr' hbd
    rcases hc.commit hX1 with ⟨h1, h2, h3⟩ | ⟨_, _, h3⟩
    · rw [h1] at he
      refine ⟨by rw [he, hf], r', ⟨hR, h.sa.kept hk (fun _ h => h) hS, ⟨_, by rw [hr']; exact h2, hc.want_srt, hc.want_free⟩, by rw [hr']; exact h3 h.fu, by rw [hr']; exact hbd⟩, fun hne => absurd hf hne, fun _ c hm => ?_, hk, hS⟩
      unfold sreadK readK
      rw [if_neg (hc.nms c hm).2.1, hr', h2.on, h2.ns]
      exact hc.want_in hm
    · exact absurd h.fu h3
  · have h1 : commitE (abs r) L (rdK L) (fitsK (abs r) L) = (fitsK (abs r) L, abs r) := by
      unfold commitE
      rw [if_neg (by rw [h.free.2.2]; decide), if_pos (.inl hf)]
    rw [h1] at he hr' hbd
    exact ⟨he, r', ⟨hR, h.sa.kept hk (fun _ h => h) hS, ⟨X, by rw [hr']; exact hX1, hX2, hX3⟩, by rw [hr']; exact h.fu, by rw [hr']; exact hbd⟩, fun _ => hr', fun e => absurd e hf, hk, hS⟩
theorem sread_some {w w' : World} {p : PS} {s d : ByteArray} {e : Ending} (hd : sreadK p s = some d) (h : SReadP w p s e w') : ∃ A c, e = .returned (.tuple #[.slice A d.size c, .bool true]) ∧ DW w' ⟨s, false, A, c, d⟩ ∧ Below w.heap.size w w' := by
  obtain ⟨A, c, he, h1, h2, h3, h4⟩ := h
  rw [hd] at he h1 h2
  exact ⟨A, c, he, ⟨h1, h2⟩, h4⟩
theorem sread_none {w w' : World} {p : PS} {s : ByteArray} {e : Ending} (hd : sreadK p s = none) (h : SReadP w p s e w') : ∃ A c, e = .returned (.tuple #[.slice A 0 c, .bool false]) ∧ Below w.heap.size w w' := by
  obtain ⟨A, c, he, h1, h2, h3, h4⟩ := h
  rw [hd] at he
  exact ⟨A, c, he, h4⟩
theorem sread_any {w w' : World} {p : PS} {s : ByteArray} {e : Ending} (h : SReadP w p s e w') : ∃ A n c b, e = .returned (.tuple #[.slice A n c, .bool b]) ∧ Below w.heap.size w w' := by
  obtain ⟨A, c, he, h1, h2, h3, h4⟩ := h
  exact ⟨A, _, c, _, he, h4⟩
set_option maxRecDepth 100000 in
set_option maxHeartbeats 16000000 in
theorem safeFits_calls (room : Int) (c : Nat) (ll : List (List ChT)) (A : Option Addr) (w : World) (ha : ∀ l ∈ ll, ArgOk l) (hc : ll.length ≤ c) (hC : Kd.C (Kd.slice 64 chD) w A ll.length ll) :
    Calls Try.prog 12 #[.int .i64 room, .slice A ll.length c] w fun e w' => e = .returned (.bool true) ∧ Below w.heap.size w w' := by
  have hu64 := Try.underlying64
  have HC := Aside0.mk hC
  have HA := Aside0.mk ha
  obtain ⟨n, hn⟩ : ∃ n, ll.length = n := ⟨_, rfl⟩
  have HN := Aside0.mk hn
  rw [hn] at HC ⊢
  have hn9 : (n : Int) ≤ 9223372036854775807 := by have := hC.2.1; omega
  clear ha hc hC hn
  go_enter Try.func12, Try.ntmps12
  by_cases h10 : 10 < n
  · have hd : decide ((10 : Int) < (n : Int)) = true := decide_eq_true (by omega)
    have hd' : decide (10 < n) = true := decide_eq_true h10
    go_wp2_with (go_at_call 40; refine (awake_calls _).mono ?_; rintro e_ wa ⟨rfl, hb⟩; have HBa := Aside0.mk hb; clear hb; skip)
    go_ret
    exact ⟨rfl, HBa.out⟩
  have hd : decide ((10 : Int) < (n : Int)) = false := decide_eq_false (by omega)
  have hd' : decide (10 < n) = false := decide_eq_false h10
  have hn10 : (n : Int) ≤ 10 := by omega
  go_wp2_with (first
    | (go_at_call 15; refine (new_calls w room w (Below.refl _ _)).mono ?_; rintro e_ w2 ⟨g, b1, b2, rfl, hR, _⟩; have HR2 := Aside0.mk hR; clear hR; skip)
    | (go_at_call 46; have HMx := HR2.out; refine (open_calls w g _ _ 0 0 HR2.out (p0_bd room) (by decide) (redo_none rfl 0)).mono ?_; clear HMx; intro e_ w3 hp; obtain ⟨q, rfl, _, r3, hR, hp3, _, _, hs⟩ := opened hp (open_free (p := p0 room) rfl rfl); have HF3 := Aside0.mk (show FAt w w3 g q r3 (clampR room) (0 * 70) from ⟨hR, hs, ⟨[], by rw [hp3]; exact p0_cln room, srt_nil, rfl⟩, by rw [hp3]; rfl, by rw [hp3]; exact p0_bd room⟩); clear hp hR hp3 hs HR2; skip))
  clear hd hd' h10
  go_loopw [36] (fun i wr => ∃ k : Nat, k ≤ n ∧ i = .int .i64 k ∧ Aside0 (∃ r, FAt w wr g q r (clampR room) (k * 70))) (fun i _ => n - (intOf i).toNat)
  case atStart => exact ⟨0, Nat.zero_le _, rfl, ⟨_, HF3.out⟩⟩
  case round =>
    clear HF3
    obtain ⟨k, hk, rfl, HF⟩ := hrel
    obtain ⟨r, hF⟩ := HF.out
    have HF := Aside0.mk hF
    clear hF
    by_cases hlt : k < n
    · obtain ⟨ad, l, A1, c1, e1, hl, hcell, hc1, hCl⟩ := at_sl (Kd.C_below HC.out HF.out.ra.bel) k hlt
      cases e1
      have hal := HA.out l (List.mem_of_getElem? hl)
      obtain ⟨rh, hr1, hr2, hr3, hh⟩ := heavy14_calls l hal
      obtain ⟨ls, hCk, hDk, hKk⟩ := chg_open (show Kd.C chD wr A1 l.length l from hCl) (fun x hx => (hal.2 x hx).2.2)
      obtain ⟨ad0, l0, A0, c0, e0, hl0, hcell0, hc00, hCl0⟩ := at_sl HC.out k hlt
      cases e0
      obtain rfl : l0 = l := Option.some.inj (hl0.symm.trans hl)
      have hAA := pw_cell_below HF.out.ra.bel hcell0
      rw [hcell] at hAA
      injection hAA with hAA
      injection hAA with hA1 _ hc1'
      subst hA1
      subst hc1'
      obtain ⟨ls, hCk, hDk, hKk⟩ := chg_open (show Kd.C chD w A1 l0.length l0 from hCl0) (fun x hx => (hal.2 x hx).2.2)
      have HH := Aside0.mk (hh wr A1 c1 hCl hc1)
      have HZ := Aside0.mk (fun h => chs_len hKk (hr3 h).1 (hr3 h).2)
      have HY := Aside0.mk (fun h => (hr3 h).1)
      have HCk := Aside0.mk hCk
      have HCc := Aside0.mk hc1
      have HD := Aside0.mk hDk
      obtain ⟨m, hm⟩ : ∃ m, l0.length = m := ⟨_, rfl⟩
      rw [hm] at HH HCk HCc HY HZ hcell
      have HM0 := Aside0.mk (show ls.length = m from HCk.out.1)
      clear hal hh hCk hDk hKk hCl hCl0 hcell0 hl hl0 hc1 hc00 hr3 hm
      by_cases hg : 0 < rh
      · have hd : decide (0 < rh) = true := decide_eq_true hg
        go_wp2_with (first
          | (go_at_call 39; refine HH.out.mono ?_; rintro e_ w1 ⟨rfl, hb⟩; have HB1 := Aside0.mk (HF.out.ra.below hb).bel; clear hb; skip)
          | (go_at_call 40; refine (awake_calls _).mono ?_; rintro e_ wa ⟨rfl, hb⟩; have HBa := Aside0.mk (HB1.out.trans (hb.mono HB1.out.size)); clear hb; skip))
        go_ret
        exact ⟨rfl, HBa.out⟩
      have hd : decide (0 < rh) = false := decide_eq_false hg
      have HL := Aside0.mk (HZ.out (by omega))
      have HM := Aside0.mk (HY.out (by omega))
      clear HZ HY hg
      obtain ⟨L, hL⟩ : ∃ L, ls.map keyW = L := ⟨_, rfl⟩
      have HLk := Aside0.mk hL
      have HLn := Aside0.mk (show L.length = m by rw [← hL, List.length_map]; exact HM0.out)
      obtain ⟨fit, hfit⟩ : ∃ fit, fitsK (abs r) L = fit := ⟨_, rfl⟩
      have HFt := Aside0.mk hfit
      have hm9 : (m : Int) ≤ 60 := by have := HM.out; omega
      clear hL hfit
      obtain ⟨bf, hbf⟩ : ∃ bf : Bool, decide (fit = 0) = bf := ⟨_, rfl⟩
      have hf1 : (fit == 0) = bf := by rw [← hbf]; rfl
      have hf3 : (fit != 0) = !bf := by rw [bne, hf1]
      have hf4 : (fit == fit) = true := beq_self_eq_true _
      have hf5 : (fit != fit) = false := bne_self_eq_false _
      have hf6 : decide (fit = fit) = true := decide_eq_true rfl
      have HBf := Aside0.mk hbf
      cases bf with
      | true =>
        have HF0 := Aside0.mk (of_decide_eq_true HBf.out)
        go_wp2_with (first
          | (go_at_call 39; refine HH.out.mono ?_; rintro e_ w1 ⟨rfl, hb⟩; have HF1 := Aside0.mk (HF.out.below hb); clear hb hcell HH; skip)
          | (go_at_call 18; have HMx := HF1.out; refine (sure_calls w g r _ HF1.out.ra (by have := HF1.out.bd.r; omega)).mono ?_; clear HMx; intro e_ w2 hp; obtain ⟨v2, fs2, rfl, hfs, hk2, hb⟩ := sureP_files hp; have HFs := Aside0.mk (hfs (r.S g) (SfE.S_lt HF1.out.ra)); have HK2 := Aside0.mk (show fs2.map keyD = (abs r).ss from hk2); have HF2 := Aside0.mk (HF1.out.below hb); obtain ⟨A2, n2, c2, hv2, _, _⟩ := HFs.out.slice; subst hv2; clear hp hfs hk2 hb HF1; skip)
          | (go_at_call 49; have HMx := HF2.out; refine (show Calls Try.prog 49 #[.pointer (some ⟨q, 0, none⟩), .slice A1 m c1] w2 (IntP w2 fit) from (by have h1_ := fits_calls w q g r w2 A1 c1 ls HF2.out.ra HF2.out.sa (by rw [HM0.out]; exact Kd.C_below HCk.out HF2.out.ra.bel) (by rw [HM0.out]; exact HCc.out) (fun x hx => (HD.out x hx).below HF2.out.ra.bel) (by have := HL.out.1; omega) (by have := HM.out; have := HM0.out; omega) (by have := HF2.out.bd.r; omega) (HF2.out.free.2.2) HF2.out.free.1 (fun x hx => by have := HL.out.2.2 x hx; omega); unfold FitsP at h1_; rwa [HLk.out, HFt.out, HM0.out] at h1_)).mono ?_; clear HMx; rintro e_ w3 ⟨rfl, hb⟩; have HF3 := Aside0.mk (HF2.out.below hb); have HFs3 := Aside0.mk (HFs.out.below hb); clear hb HF2 HFs; skip)
          | (go_at_call 48; have HMx := HF3.out; refine (show Calls Try.prog 48 #[.pointer (some ⟨q, 0, none⟩), .slice A1 m c1] w3 (CommitP w w3 g r L) from (by have h_ := commit_calls w q g r w3 A1 c1 ls (k * 70) HF3.out.ra HF3.out.sa (by rw [HM0.out]; exact chg_at HCk.out HD.out HF3.out.ra.bel (S_ge HF3.out.ra)) (by rw [HM0.out]; exact HCc.out) (by have := HL.out.1; omega) HF3.out.bd (by have := HM.out; have := HM0.out; omega) (fun _ => HF3.out.free.1) (fun x hx => by have := HL.out.2.2 x hx; omega); rwa [HLk.out, HM0.out] at h_)).mono ?_; clear HMx; intro e_ w4 hp; obtain ⟨he4, r4, hF4, hs4, hr4, hk4, hS4⟩ := HF3.out.commit hp; rw [HFt.out] at he4 hs4 hr4; subst he4; have HF4 := Aside0.mk hF4; have HS4 := Aside0.mk hs4; have HR4 := Aside0.mk hr4; have HFs4 := Aside0.mk (HFs3.out.kept hk4 (fun _ h => h) hS4); have HB4 := Aside0.mk (show Bd (abs r4) ((k + 1) * 70) from hF4.bd.more (by have := HLn.out; have := HM.out; omega)); clear hp hF4 hs4 hr4 hk4 hS4 HF3 HFs3; skip)
          | (go_at_call 17; have HMx := HF4.out; refine (show Calls Try.prog 17 #[.pointer (some ⟨g, 0, none⟩)] _ (IntP _ 0) from (by have h_ := loose_calls w g r4 _ HF4.out.ra; rwa [HF4.out.loose] at h_)).mono ?_; clear HMx; rintro e_ w7 ⟨rfl, hb⟩; have HF7 := Aside0.mk (HF4.out.below hb); clear hb HF4; skip))
        clear hr1 hr2 hd
        go_loopw [71] (fun i wr => ∃ j : Nat, j ≤ m ∧ i = .int .i64 j ∧ Aside0 (FAt w wr g q r4 (clampR room) (k * 70 + L.length + 2))) (fun i _ => m - (intOf i).toNat)
        case atStart => exact ⟨0, Nat.zero_le _, rfl, HF7⟩
        case round =>
          clear HF7
          obtain ⟨j, hj, rfl, HFj⟩ := hrel
          by_cases hjm : j < m
          · obtain ⟨x, hx⟩ : ∃ x, ls[j]? = some x := ⟨_, List.getElem?_eq_getElem (by rw [HM0.out]; exact hjm)⟩
            obtain ⟨ad, e1, x0, x1, x2⟩ := at_W (Kd.C_below HCk.out HFj.out.ra.bel) j hjm x hx
            cases e1
            have HX := Aside0.mk hx
            have HXn := Aside0.mk (show x.nm.size ≤ 140737488355328 by have := HL.out.2.2 x (List.mem_of_getElem? hx); omega)
            have HXm := Aside0.mk (show keyW x ∈ L by rw [← HLk.out]; exact List.mem_map_of_mem (List.mem_of_getElem? hx))
            have HXd := Aside0.mk ((HD.out x (List.mem_of_getElem? hx)).below HFj.out.ra.bel)
            clear hx
            have M0_0 := Aside0.mk (Below.refl wr.heap.size wr)
            go_upto_region 22 with ((with_reducible refine gate_dst (N := 14) rfl ?_); refine box_event ?hgY14 (N := 14) ?hdY14 (cs := #[.string (⟨#[]⟩ : ByteArray), .bool false, .slice none 0 0]) (t := 64) ?hrY14 ?_; (case hdY14 => rfl); (case hgY14 => rfl); (case hrY14 => first | (go_simp; done) | (go_simp; rfl)); intro g_Y hg_ w_1 hbx_ hb_; have L0_Y := Aside0.mk (show wr.heap.size ≤ g_Y by have := M0_0.out.size; omega); have M0_1 := Aside0.mk (M0_0.out.trans (hb_.mono M0_0.out.size)); have Y_1 := Aside0.mk hbx_; clear hg_ hbx_ hb_ M0_0; have zY0 := blk_cell Y_1.out 0; have yY0 := blk_frozen Y_1.out 0; have zY1 := blk_cell Y_1.out 1; have yY1 := blk_frozen Y_1.out 1; have zY2 := blk_cell Y_1.out 2; have yY2 := blk_frozen Y_1.out 2; skip)
            obtain ⟨w8, e2, GY2, HB8⟩ := fresh3 M0_1.out L0_Y.out Y_1.out x
            rw [e2]
            clear e2 zY0 zY1 zY2 yY0 yY1 yY2 x0 x1 x2
            have HF8 := Aside0.mk (HFj.out.below HB8)
            have HXd8 := Aside0.mk (HXd.out.below HB8)
            have hc0 := blk_cell GY2 0
            have GY := Aside0.mk GY2
            clear GY2 HB8 HFj HXd
            have HRd := Aside0.mk (sread_calls w q g r4 w8 x.nm HF8.out.ra HF8.out.sa HXn.out)
            have HV := Aside0.mk (HR4.out HF0.out _ HXm.out)
            by_cases hcut : x.cut = true
            · have HV0 := Aside0.mk (show sreadK (abs r4) x.nm = none by rw [show x.nm = (keyW x).1 from rfl, HV.out]; unfold valC; exact if_pos hcut)
              go_wp2_with (go_at_call 47; refine HRd.out.mono ?_; intro e_ w9 hp; obtain ⟨A9, c9, rfl, hb⟩ := sread_none HV0.out hp; have HF9 := Aside0.mk (HF8.out.below hb); have hc1 := blk_cell (blk_below GY.out hb) 1; clear hp hb hc0 HF8 HRd; skip)
              go_roundw
              case rel => exact ⟨j + 1, by omega, by go_num, HF9⟩
              case measure => simp [intOf]; omega
            · replace hcut : x.cut = false := by simpa using hcut
              have HV1 := Aside0.mk (show sreadK (abs r4) x.nm = some x.d by rw [show x.nm = (keyW x).1 from rfl, HV.out]; unfold valC; exact if_neg (by rw [show (keyW x).2.1 = x.cut from rfl, hcut]; decide))
              have hst : (x.d.toList == x.d.toList) = true := beq_self_eq_true _
              have hst2 : (x.d.toList != x.d.toList) = false := bne_self_eq_false _
              go_wp2_with (go_at_call 47; refine HRd.out.mono ?_; intro e_ w9 hp; obtain ⟨A9, c9, rfl, hdw, hb⟩ := sread_some HV1.out hp; have HF9 := Aside0.mk (HF8.out.below hb); have hc1 := blk_cell (blk_below GY.out hb) 1; have hc2 := blk_cell (blk_below GY.out hb) 2; have hcv1 := hdw.str; have hcv2 := (HXd8.out.below hb).str; clear hp hb hc0 hdw HF8 HRd; skip)
              go_roundw
              case rel => exact ⟨j + 1, by omega, by go_num, HF9⟩
              case measure => simp [intOf]; omega
          · obtain rfl : j = m := by omega
            have HFz := Aside0.mk (show FAt w wr g q r4 (clampR room) ((k + 1) * 70) from ⟨HFj.out.ra, HFj.out.sa, HFj.out.cl, HFj.out.fu, HB4.out⟩)
            clear HFj
            go_wp2_with fail
            go_roundw
            case rel => exact ⟨k + 1, by omega, by go_num, ⟨_, HFz.out⟩⟩
            case measure => simp [intOf]; omega
      | false =>
        have HF0 := Aside0.mk (of_decide_eq_false HBf.out)
        go_wp2_with (first
          | (go_at_call 39; refine HH.out.mono ?_; rintro e_ w1 ⟨rfl, hb⟩; have HF1 := Aside0.mk (HF.out.below hb); clear hb hcell HH; skip)
          | (go_at_call 18; have HMx := HF1.out; refine (sure_calls w g r _ HF1.out.ra (by have := HF1.out.bd.r; omega)).mono ?_; clear HMx; intro e_ w2 hp; obtain ⟨v2, fs2, rfl, hfs, hk2, hb⟩ := sureP_files hp; have HFs := Aside0.mk (hfs (r.S g) (SfE.S_lt HF1.out.ra)); have HK2 := Aside0.mk (show fs2.map keyD = (abs r).ss from hk2); have HF2 := Aside0.mk (HF1.out.below hb); obtain ⟨A2, n2, c2, hv2, _, _⟩ := HFs.out.slice; subst hv2; clear hp hfs hk2 hb HF1; skip)
          | (go_at_call 49; have HMx := HF2.out; refine (show Calls Try.prog 49 #[.pointer (some ⟨q, 0, none⟩), .slice A1 m c1] w2 (IntP w2 fit) from (by have h1_ := fits_calls w q g r w2 A1 c1 ls HF2.out.ra HF2.out.sa (by rw [HM0.out]; exact Kd.C_below HCk.out HF2.out.ra.bel) (by rw [HM0.out]; exact HCc.out) (fun x hx => (HD.out x hx).below HF2.out.ra.bel) (by have := HL.out.1; omega) (by have := HM.out; have := HM0.out; omega) (by have := HF2.out.bd.r; omega) (HF2.out.free.2.2) HF2.out.free.1 (fun x hx => by have := HL.out.2.2 x hx; omega); unfold FitsP at h1_; rwa [HLk.out, HFt.out, HM0.out] at h1_)).mono ?_; clear HMx; rintro e_ w3 ⟨rfl, hb⟩; have HF3 := Aside0.mk (HF2.out.below hb); have HFs3 := Aside0.mk (HFs.out.below hb); clear hb HF2 HFs; skip)
          | (go_at_call 48; have HMx := HF3.out; refine (show Calls Try.prog 48 #[.pointer (some ⟨q, 0, none⟩), .slice A1 m c1] w3 (CommitP w w3 g r L) from (by have h_ := commit_calls w q g r w3 A1 c1 ls (k * 70) HF3.out.ra HF3.out.sa (by rw [HM0.out]; exact chg_at HCk.out HD.out HF3.out.ra.bel (S_ge HF3.out.ra)) (by rw [HM0.out]; exact HCc.out) (by have := HL.out.1; omega) HF3.out.bd (by have := HM.out; have := HM0.out; omega) (fun _ => HF3.out.free.1) (fun x hx => by have := HL.out.2.2 x hx; omega); rwa [HLk.out, HM0.out] at h_)).mono ?_; clear HMx; intro e_ w4 hp; obtain ⟨he4, r4, hF4, hs4, hr4, hk4, hS4⟩ := HF3.out.commit hp; rw [HFt.out] at he4 hs4 hr4; subst he4; have HF4 := Aside0.mk hF4; have HS4 := Aside0.mk hs4; have HR4 := Aside0.mk hr4; have HFs4 := Aside0.mk (HFs3.out.kept hk4 (fun _ h => h) hS4); have HB4 := Aside0.mk (show Bd (abs r4) ((k + 1) * 70) from hF4.bd.more (by have := HLn.out; have := HM.out; omega)); clear hp hF4 hs4 hr4 hk4 hS4 HF3 HFs3; skip)
          | (go_at_call 18; have HMx := HF4.out; refine (sure_calls w g r4 _ HF4.out.ra (by have := HF4.out.bd.r; have := HLn.out; have := HM.out; omega)).mono ?_; clear HMx; intro e_ w5 hp; obtain ⟨v5, fs5, rfl, hfs, hk5, hb⟩ := sureP_files hp; have HFs5 := Aside0.mk (hfs (r4.S g) (SfE.S_lt HF4.out.ra)); have HK5 := Aside0.mk (show fs5.map keyD = (abs r4).ss from hk5); have HF5 := Aside0.mk (HF4.out.below hb); have HFs4b := Aside0.mk (HFs4.out.below hb); obtain ⟨A5, n5, c5, hv5, _, _⟩ := HFs5.out.slice; subst hv5; clear hp hfs hk5 hb HF4 HFs4; skip)
          | (go_at_call 28; have HMx := HF5.out; refine (show Calls Try.prog 28 #[.slice A5 n5 c5, .slice A2 n2 c2] w5 (BoolP w5 true) from (by obtain ⟨A', n', c', e1, h1, h2⟩ := HFs5.out.slice; cases e1; obtain ⟨A'', n'', c'', e3, h3, h4⟩ := HFs4b.out.slice; cases e3; have h_ := RkU.same_calls A5 n5 c5 fs5 A2 n2 c2 fs2 w5 h1 h3 h2 h4; rwa [same_key HK5.out HK2.out (congrArg PS.ss (HS4.out HF0.out))] at h_)).mono ?_; clear HMx; rintro e_ w6 ⟨rfl, hb⟩; have HF6 := Aside0.mk (HF5.out.below hb); clear hb HF5 HFs5 HFs4b; skip)
          | (go_at_call 17; have HMx := HF6.out; refine (show Calls Try.prog 17 #[.pointer (some ⟨g, 0, none⟩)] _ (IntP _ 0) from (by have h_ := loose_calls w g r4 _ HF6.out.ra; rwa [HF6.out.loose] at h_)).mono ?_; clear HMx; rintro e_ w7 ⟨rfl, hb⟩; have HF7 := Aside0.mk (HF6.out.below hb); clear hb HF6; skip))
        clear hr1 hr2 hd
        go_loopw [71] (fun i wr => ∃ j : Nat, j ≤ m ∧ i = .int .i64 j ∧ Aside0 (FAt w wr g q r4 (clampR room) (k * 70 + L.length + 2))) (fun i _ => m - (intOf i).toNat)
        case atStart => exact ⟨0, Nat.zero_le _, rfl, HF7⟩
        case round =>
          clear HF7
          obtain ⟨j, hj, rfl, HFj⟩ := hrel
          by_cases hjm : j < m
          · obtain ⟨x, hx⟩ : ∃ x, ls[j]? = some x := ⟨_, List.getElem?_eq_getElem (by rw [HM0.out]; exact hjm)⟩
            obtain ⟨ad, e1, x0, x1, x2⟩ := at_W (Kd.C_below HCk.out HFj.out.ra.bel) j hjm x hx
            cases e1
            have HX := Aside0.mk hx
            have HXn := Aside0.mk (show x.nm.size ≤ 140737488355328 by have := HL.out.2.2 x (List.mem_of_getElem? hx); omega)
            have HXm := Aside0.mk (show keyW x ∈ L by rw [← HLk.out]; exact List.mem_map_of_mem (List.mem_of_getElem? hx))
            have HXd := Aside0.mk ((HD.out x (List.mem_of_getElem? hx)).below HFj.out.ra.bel)
            clear hx
            have M0_0 := Aside0.mk (Below.refl wr.heap.size wr)
            go_upto_region 22 with ((with_reducible refine gate_dst (N := 14) rfl ?_); refine box_event ?hgY14 (N := 14) ?hdY14 (cs := #[.string (⟨#[]⟩ : ByteArray), .bool false, .slice none 0 0]) (t := 64) ?hrY14 ?_; (case hdY14 => rfl); (case hgY14 => rfl); (case hrY14 => first | (go_simp; done) | (go_simp; rfl)); intro g_Y hg_ w_1 hbx_ hb_; have L0_Y := Aside0.mk (show wr.heap.size ≤ g_Y by have := M0_0.out.size; omega); have M0_1 := Aside0.mk (M0_0.out.trans (hb_.mono M0_0.out.size)); have Y_1 := Aside0.mk hbx_; clear hg_ hbx_ hb_ M0_0; have zY0 := blk_cell Y_1.out 0; have yY0 := blk_frozen Y_1.out 0; have zY1 := blk_cell Y_1.out 1; have yY1 := blk_frozen Y_1.out 1; have zY2 := blk_cell Y_1.out 2; have yY2 := blk_frozen Y_1.out 2; skip)
            obtain ⟨w8, e2, GY2, HB8⟩ := fresh3 M0_1.out L0_Y.out Y_1.out x
            rw [e2]
            clear e2 zY0 zY1 zY2 yY0 yY1 yY2 x0 x1 x2
            have HF8 := Aside0.mk (HFj.out.below HB8)
            have HXd8 := Aside0.mk (HXd.out.below HB8)
            have hc0 := blk_cell GY2 0
            have GY := Aside0.mk GY2
            clear GY2 HB8 HFj HXd
            have HRd := Aside0.mk (sread_calls w q g r4 w8 x.nm HF8.out.ra HF8.out.sa HXn.out)
            go_wp2_with (go_at_call 47; refine HRd.out.mono ?_; intro e_ w9 hp; obtain ⟨A9, n9, c9, b9, rfl, hb⟩ := sread_any hp; have HF9 := Aside0.mk (HF8.out.below hb); clear hp hb hc0 HF8 HRd; skip)
            go_roundw
            case rel => exact ⟨j + 1, by omega, by go_num, HF9⟩
            case measure => simp [intOf]; omega
          · obtain rfl : j = m := by omega
            have HFz := Aside0.mk (show FAt w wr g q r4 (clampR room) ((k + 1) * 70) from ⟨HFj.out.ra, HFj.out.sa, HFj.out.cl, HFj.out.fu, HB4.out⟩)
            clear HFj
            go_wp2_with fail
            go_roundw
            case rel => exact ⟨k + 1, by omega, by go_num, ⟨_, HFz.out⟩⟩
            case measure => simp [intOf]; omega
    · obtain rfl : k = n := by omega
      go_wp2_with (go_at_call 40; refine (awake_calls _).mono ?_; rintro e_ wa ⟨rfl, hb⟩; have HBa := Aside0.mk (HF.out.ra.bel.trans (hb.mono HF.out.ra.bel.size)); clear hb; skip)
      go_ret
      exact ⟨rfl, HBa.out⟩
end Go.Proofs.Ytjljgcceapkdcaa.SfO
end
