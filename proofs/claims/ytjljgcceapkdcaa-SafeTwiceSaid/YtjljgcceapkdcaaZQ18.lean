-- The used parts of 1 texts, laid together by merge.py.
import Derived.Test.YtjljgcceapkdcaaZQ17
section
namespace Go.Proofs.Ytjljgcceapkdcaa.SfN
open Go.RowKit Go.Proofs.YtjljgcceapkdcaaW.PrintWords Go.Proofs.YtjljgcceapkdcaaW.PrintLast Go.Proofs.YtjljgcceapkdcaaW.PrintMore Go.Proofs.Ytjljgcceapkdcaa.PkH Go.Proofs.Ytjljgcceapkdcaa.RkA Go.Proofs.Ytjljgcceapkdcaa.RkB Go.Proofs.Ytjljgcceapkdcaa.RkC Go.Proofs.Ytjljgcceapkdcaa.RkD Go.Proofs.Ytjljgcceapkdcaa.RkG Go.Proofs.Ytjljgcceapkdcaa.RkK Go.Proofs.Ytjljgcceapkdcaa.RkL Go.Proofs.Ytjljgcceapkdcaa.RkS Go.Proofs.Ytjljgcceapkdcaa.RkU Go.Proofs.Ytjljgcceapkdcaa.RkV Go.Proofs.Ytjljgcceapkdcaa.SfA Go.Proofs.Ytjljgcceapkdcaa.SfB Go.Proofs.Ytjljgcceapkdcaa.SfE Go.Proofs.Ytjljgcceapkdcaa.SfG Go.Proofs.Ytjljgcceapkdcaa.SfH Go.Proofs.Ytjljgcceapkdcaa.SfI Go.Proofs.Ytjljgcceapkdcaa.SfJ Go.Proofs.Ytjljgcceapkdcaa.SfT Go.Proofs.Ytjljgcceapkdcaa.SfP Go.Proofs.Ytjljgcceapkdcaa.SfQ Go.Proofs.Ytjljgcceapkdcaa.SfR Go.Proofs.Ytjljgcceapkdcaa.SfV Go.Proofs.Ytjljgcceapkdcaa.Rw
set_option linter.unusedVariables false
set_option linter.unusedSimpArgs false
theorem S_ge {w0 w : World} {g : Nat} {r : RS} (h : RackAt w0 w g r) : ∀ k, r.S g k → w0.heap.size ≤ k := fun k hk => by
  rcases hk with rfl | rfl | rfl | hk
  · exact h.lowg
  · exact h.lows
  · exact h.lown
  · exact (h.lv_ne k hk).2.2.2.2
theorem rem70 (n : Int) : ∃ z : Nat, z < 70 ∧ (IntKind.u64.wrap n).tmod 70 = (z : Int) := by
  have e1 : IntKind.u64.wrap n = n % 18446744073709551616 := by simp [IntKind.wrap, IntKind.bits, IntKind.signed]
  rw [e1, Int.tmod_eq_emod_of_nonneg (Int.emod_nonneg _ (by decide))]
  generalize n % 18446744073709551616 = q
  exact ⟨(q % 70).toNat, by omega, by omega⟩
section
variable {room : Int} {was : List KV} {L : List CK} {p : PS}
theorem commit_crash (hc : Com room was L (rdK L)) (hp : Cln room was p) (q : List Int) : ∃ X, Mid was L (rdK L) X ∧ Cln room X (crashK (commitE p L (rdK L) 0).2 q) ∧ (crashK (commitE p L (rdK L) 0).2 q).fuse = -1 ∧ ((commitE p L (rdK L) 0).1 = 0 → X = wantK was L) ∧ ((commitE p L (rdK L) 0).1 = 0 ∨ (commitE p L (rdK L) 0).1 = 5) := by
  rcases hc.commit hp with ⟨h1, h2, _⟩ | ⟨h1, h2, _⟩
  · exact ⟨_, .inr (.inl rfl), (h2.crash q).1, (h2.crash q).2, fun _ => rfl, .inl h1⟩
  · obtain ⟨X, h3, h4, h5⟩ := hc.crash h2 q
    exact ⟨X, h3, h4, h5, fun e => (by rw [h1] at e; cases e), .inr h1⟩
theorem com_sizes (hc : Com room was L (rdK L)) : ∀ c ∈ L, c.1.size ≤ 24 ∧ (c.2.1 = false → c.2.2.size ≤ 200000) := fun c h => by
  obtain ⟨h1, _, h3⟩ := hc.nms c h
  unfold namedB at h1
  simp at h1
  exact ⟨h1.2, fun _ => h3⟩
theorem com_pf (hc : Com room was L (rdK L)) : pfB (rdK L) = (L.map normC, 0) := pf_rd L (com_sizes hc)
theorem mid_redo (hc : Com room was L (rdK L)) {X : List KV} (hX : Mid was L (rdK L) X) (hn : p.ns = X) : RedoOk p L.length := fun b hb => by
  rw [hn] at hb
  rcases hX with rfl | rfl | h
  · rw [hc.free] at hb
    cases hb
  · rw [hc.want_free] at hb
    cases hb
  · rw [h.redo] at hb
    injection hb with hb
    subst hb
    rw [com_pf hc]
    refine ⟨by rw [List.length_map]; exact Nat.le_refl _, fun c h => ?_⟩
    obtain ⟨x, hx, rfl⟩ := List.mem_map.1 h
    rw [norm_nm]
    have := (com_sizes hc x hx).1
    omega
theorem open_on (hc : Com room was L (rdK L)) {X : List KV} (hX : Mid was L (rdK L) X) (hp : Cln room X p) (hf : p.fuse = -1) : (openE pfB p).1 = 0 ∧ (openE pfB p).2.fuse = -1 ∧ ∃ X', (X' = was ∨ X' = wantK was L) ∧ (X = wantK was L → X' = wantK was L) ∧ Cln room X' (openE pfB p).2 ∧ findK X' redoB = none := by
  rcases hc.openz (com_pf hc) hX hp with ⟨h1, h2, h3⟩ | ⟨_, _, h3, _⟩
  · refine ⟨h1, h3 hf, ?_⟩
    rcases h2 with ⟨e, h⟩ | h
    · refine ⟨was, .inl rfl, fun e2 => e.symm.trans e2, ?_, hc.free⟩
      rw [h, ← e]
      exact hp
    · exact ⟨_, .inr rfl, fun _ => rfl, h, hc.want_free⟩
  · exact absurd hf h3
theorem cln_fuse {X : List KV} (hp : Cln room X p) (m : Int) : Cln room X (fuseK p m) := ⟨hp.rm, hp.on, by show -1 ≤ max m (-1); omega, hp.ss, hp.ns, hp.ls⟩
end
theorem loose0 {r : RS} {p : PS} (h : abs r = p) (hl : p.ls = []) : (r.ls.length : Int) = 0 := by
  have h1 : (abs r).ls = [] := by rw [h]; exact hl
  have h2 : r.ls.map keyW = [] := h1
  rw [List.map_eq_nil_iff.1 h2]
  rfl
theorem same_key {xs ys : List FE} {a b : List KV} (h1 : xs.map keyD = a) (h2 : ys.map keyD = b) (h : a = b) : sameFs xs ys = true := decide_eq_true (by rw [h1, h2, h])
theorem pair_eq {α β : Type} {x : α × β} {a : α} (h : x.1 = a) : x = (a, x.2) := by rw [← h]
set_option maxRecDepth 100000 in
set_option maxHeartbeats 16000000 in
theorem safeTwice_calls (c : Nat) (l : List ChT) (A : Option Addr) (fz : Int) (cp : Nat) (p : List Int) (Ap : Option Addr) (w : World) (ha : ArgOk l) (hc : l.length ≤ c) (hC : Kd.C chD w A l.length l) (hcp : p.length ≤ cp) (hCp : Kd.C (Kd.int .u8) w Ap p.length p) :
    Calls Try.prog 13 #[.slice A l.length c, .int .i64 fz, .slice Ap p.length cp] w fun e w' => e = .returned (.bool true) ∧ Below w.heap.size w w' := by
  obtain ⟨r, hr1, hr2, hr3, hh⟩ := heavy14_calls l ha
  obtain ⟨ls, hCl, hDl, hKl⟩ := chg_open hC (fun x hx => (ha.2 x hx).2.2)
  have HH := Aside0.mk (hh w A c hC hc)
  have HZ := Aside0.mk (fun h => chs_len hKl (hr3 h).1 (hr3 h).2)
  have HY := Aside0.mk (fun h => (hr3 h).1)
  have HC := Aside0.mk hCl
  have HCc := Aside0.mk hc
  have HD := Aside0.mk hDl
  have HP := Aside0.mk (And.intro hcp hCp)
  obtain ⟨n, hn⟩ : ∃ n, l.length = n := ⟨_, rfl⟩
  rw [hn] at HH HC HCc HY HZ ⊢
  have HN := Aside0.mk (show ls.length = n from HC.out.1)
  have hp9 : (p.length : Int) ≤ 9223372036854775807 := by have := hCp.2.1; omega
  obtain ⟨z, hz1, hz2⟩ := rem70 fz
  clear ha hc hC hcp hCp hh hCl hDl hKl hr3 hn
  go_enter Try.func13, Try.ntmps13
  by_cases hg : 0 < r
  · have hd : decide (0 < r) = true := decide_eq_true hg
    go_wp2_with (first
      | (go_at_call 39; refine HH.out.mono ?_; rintro e_ w1 ⟨rfl, hb⟩; have HB1 := Aside0.mk hb; clear hb; skip)
      | (go_at_call 40; refine (awake_calls _).mono ?_; rintro e_ wa ⟨rfl, hb⟩; have HBa := Aside0.mk (HB1.out.trans (hb.mono HB1.out.size)); clear hb; skip))
    go_ret
    exact ⟨rfl, HBa.out⟩
  have hd : decide (0 < r) = false := decide_eq_false hg
  have HL := Aside0.mk (HZ.out (by omega))
  have HM := Aside0.mk (HY.out (by omega))
  clear HZ HY hg
  by_cases hp2 : 200 < p.length
  · have hd2 : decide ((200 : Int) < (p.length : Int)) = true := decide_eq_true (by omega)
    clear hp2
    go_wp2_with (first
      | (go_at_call 39; refine HH.out.mono ?_; rintro e_ w1 ⟨rfl, hb⟩; have HB1 := Aside0.mk hb; clear hb; skip)
      | (go_at_call 40; refine (awake_calls _).mono ?_; rintro e_ wa ⟨rfl, hb⟩; have HBa := Aside0.mk (HB1.out.trans (hb.mono HB1.out.size)); clear hb; skip))
    go_ret
    exact ⟨rfl, HBa.out⟩
  have hd2 : decide ((200 : Int) < (p.length : Int)) = false := decide_eq_false (by omega)
  clear hp2
  obtain ⟨L, hL⟩ : ∃ L, ls.map keyW = L := ⟨_, rfl⟩
  have HLk := Aside0.mk hL
  have HLn := Aside0.mk (show L.length = n by rw [← hL, List.length_map]; exact HN.out)
  obtain ⟨fit, hfit⟩ : ∃ fit, fitsK (p0 1000000) L = fit := ⟨_, rfl⟩
  have HFt := Aside0.mk hfit
  have HFc := Aside0.mk (fun (W : World) (q g : Nat) (r : RS) (hR : RackAt w W g r) (hq : SafeAt W (r.S g) q g) (e : abs r = p0 1000000) => show Calls Try.prog 49 #[.pointer (some ⟨q, 0, none⟩), .slice A n c] W (IntP W fit) from by
    have h1 := fits_calls w q g r W A c ls hR hq (by rw [HN.out]; exact Kd.C_below HC.out hR.bel) (by rw [HN.out]; exact HCc.out) (fun x hx => (HD.out x hx).below hR.bel) (by have := HL.out.1; omega) (by have := HM.out; have := HN.out; omega) (by have h_ := (show Bd (abs r) 0 by rw [e]; exact p0_bd _).r; omega) (by have h_ : (abs r).down = false := (by rw [e]; rfl); exact h_) (by rw [e]; rfl) (fun x hx => by have := HL.out.2.2 x hx; omega)
    unfold FitsP at h1
    rw [e, hL, hfit, HN.out] at h1
    exact h1)
  clear hL hfit
  by_cases hf : fit = 0
  · have hf1 : (fit == 0) = true := by rw [hf]; rfl
    have hf2 : decide (fit = 0) = true := decide_eq_true hf
    have hf3 : (fit != 0) = false := by rw [hf]; rfl
    have HCo := Aside0.mk (show Com 1000000 [] L (rdK L) from fits_com (p := p0 1000000) srt_nil rfl (by rw [HFt.out, hf]))
    have HF0 := Aside0.mk hf
    clear hf
    go_wp2_with (first
      | (go_at_call 39; refine HH.out.mono ?_; rintro e_ w1 ⟨rfl, hb⟩; have HB1 := Aside0.mk hb; clear hb HH; skip)
      | (go_at_call 15; refine (new_calls w 1000000 w1 HB1.out).mono ?_; rintro e_ w2 ⟨g, b1, b2, rfl, hR, _⟩; have HR2 := Aside0.mk hR; clear hR HB1; skip)
      | (go_at_call 46; have HMx := HR2.out; refine (open_calls w g _ _ 0 0 HR2.out (p0_bd 1000000) (by decide) (redo_none rfl 0)).mono ?_; clear HMx; intro e_ w3 hp; obtain ⟨q, rfl, _, r3, hR, hp3, _, _, hs⟩ := opened hp (open_free (p := p0 1000000) rfl rfl); have HR3 := Aside0.mk hR; have HP3 := Aside0.mk hp3; have HS3 := Aside0.mk hs; clear hp hR hp3 hs HR2; skip)
      | (go_at_call 49; have HMx := HR3.out; refine (HFc.out w3 q g r3 HR3.out HS3.out HP3.out).mono ?_; clear HMx; rintro e_ w4 ⟨rfl, hb⟩; have HR4 := Aside0.mk (HR3.out.below hb); have HS4 := Aside0.mk (HS3.out.below hb); clear hb HR3 HS3 HFc; skip)
      | (go_at_call 21; have HMx := HR4.out; refine (fuse_calls w g r3 _ (z : Int) HR4.out (by omega)).mono ?_; clear HMx; intro e_ w5 hp; obtain ⟨rfl, r5, hR, he5, hk, hS⟩ := fuse_step hp; have HR5 := Aside0.mk hR; have HS5 := Aside0.mk (HS4.out.kept hk (fun _ h => h) hS); have HC5 := Aside0.mk (show Cln 1000000 [] (abs r5) by rw [he5, HP3.out]; exact cln_fuse (p0_cln 1000000) _); have HB5 := Aside0.mk (show Bd (abs r5) 0 by rw [he5, HP3.out]; exact (p0_bd 1000000).fuse _); have HFx := Aside0.mk (show fitsK (abs r5) L = 0 by rw [he5, HP3.out]; exact HFt.out.trans HF0.out); clear hp hR he5 hk hS HR4 HS4 HP3; skip)
      | (go_at_call 48; have HMx := HR5.out; refine (show Calls Try.prog 48 #[.pointer (some ⟨q, 0, none⟩), .slice A n c] w5 (CommitP w w5 g r5 L) from (by have h_ := commit_calls w q g r5 w5 A c ls 0 HR5.out HS5.out (by rw [HN.out]; exact chg_at HC.out HD.out HR5.out.bel (S_ge HR5.out)) (by rw [HN.out]; exact HCc.out) (by have := HL.out.1; omega) HB5.out (by have := HM.out; have := HN.out; omega) (fun _ => by rw [HC5.out.ns]; rfl) (fun x hx => by have := HL.out.2.2 x hx; omega); rwa [HLk.out, HN.out] at h_)).mono ?_; clear HMx; intro e_ w6 hp; obtain ⟨rfl, r6, hR, he6, _, _⟩ := hp; have HR6 := Aside0.mk hR; have HE6 := Aside0.mk (show abs r6 = (commitE (abs r5) L (rdK L) 0).2 by rw [he6, HFx.out]); have HB6 := Aside0.mk (show Bd (abs r6) 100 by rw [he6]; exact (Bd.commit HB5.out L _ _).more (by have := HLn.out; have := HM.out; omega)); clear hR he6 HR5 HS5; skip)
      | (go_at_call 19; have HMx := HR6.out; refine (crash_calls w g r6 p Ap cp _ HR6.out (Kd.C_below HP.out.2 HR6.out.bel) HP.out.1 (fun ad e h0 hs => by subst e; have h1_ := Kd.C_lt HP.out.2 h0 (by decide); have h2_ := S_ge HR6.out _ hs; omega) (by have := HB6.out.r; omega) (by have := HB6.out.r; omega)).mono ?_; clear HMx; intro e_ w7 hp; obtain ⟨rfl, r7, hR, he7, _, _⟩ := crash_step hp; have HR7 := Aside0.mk hR; have HB7 := Aside0.mk (show Bd (abs r7) 100 by rw [he7]; exact HB6.out.crash p); obtain ⟨X, hX, hc7, hf7, _, _⟩ := commit_crash HCo.out HC5.out p; rw [← HE6.out, ← he7] at hc7 hf7; have HX := Aside0.mk hX; have HC7 := Aside0.mk hc7; have HO7 := Aside0.mk (open_on HCo.out hX hc7 hf7); clear hp hR he7 hX hc7 hf7 HR6 HB6 HE6; skip)
      | (go_at_call 46; have HMx := HR7.out; refine (open_calls w g r7 _ 100 n HR7.out HB7.out (by have := HM.out; omega) (by rw [← HLn.out]; exact mid_redo HCo.out HX.out HC7.out.ns)).mono ?_; clear HMx; intro e_ w8 hp; obtain ⟨h1, _, X8, _, _, hc8, hf8⟩ := HO7.out; obtain ⟨q8, rfl, _, r8, hR, hp8, _, _, _⟩ := opened hp (pair_eq h1); have HR8 := Aside0.mk hR; have HC8 := Aside0.mk (show Cln 1000000 X8 (abs r8) by rw [hp8]; exact hc8); have HF8 := Aside0.mk (show findK (abs r8).ns redoB = none by rw [HC8.out.ns]; exact hf8); have HB8 := Aside0.mk (show Bd (abs r8) 200 by rw [hp8]; exact (Bd.openz HB7.out (m := n) (by rw [← HLn.out]; exact mid_redo HCo.out HX.out HC7.out.ns)).more (by have := HM.out; omega)); clear hp h1 hR hp8 hc8 hf8 HR7 HB7 HC7 HO7 HX; skip)
      | (go_at_call 18; have HMx := HR8.out; refine (sure_calls w g r8 _ HR8.out (by have := HB8.out.r; omega)).mono ?_; clear HMx; intro e_ w9 hp; obtain ⟨v9, fs9, rfl, hfs, hk9, hb⟩ := sureP_files hp; have HF9 := Aside0.mk (hfs (r8.S g) (SfE.S_lt HR8.out)); have HK9 := Aside0.mk (show fs9.map keyD = (abs r8).ss from hk9); have HR9 := Aside0.mk (HR8.out.below hb); obtain ⟨A9, n9, c9, hv9, _, _⟩ := HF9.out.slice; subst hv9; clear hp hfs hk9 hb HR8; skip)
      | (go_at_call 26; have HMx := HR9.out; refine (writes_calls w g r8 _ HR9.out).mono ?_; clear HMx; rintro e_ w10 ⟨rfl, hb⟩; have HR10 := Aside0.mk (HR9.out.below hb); have HF10 := Aside0.mk (HF9.out.below hb); clear hb HR9 HF9; skip)
      | (go_at_call 46; have HMx := HR10.out; refine (open_calls w g r8 _ 200 0 HR10.out HB8.out (by decide) (redo_none HF8.out 0)).mono ?_; clear HMx; intro e_ w11 hp; obtain ⟨q11, rfl, _, r11, hR, hp11, hk, hS, _⟩ := opened hp (open_free HC8.out.on HF8.out); have HR11 := Aside0.mk hR; have HP11 := Aside0.mk hp11; have HF11 := Aside0.mk (HF10.out.kept hk (fun _ h => h) hS); clear hp hR hp11 hk hS HR10 HF10; skip)
      | (go_at_call 18; have HMx := HR11.out; refine (sure_calls w g r11 _ HR11.out (by have h_ := (show Bd (abs r11) 200 by rw [HP11.out]; exact HB8.out).r; omega)).mono ?_; clear HMx; intro e_ w12 hp; obtain ⟨v12, fs12, rfl, hfs, hk12, hb⟩ := sureP_files hp; have HF12 := Aside0.mk (hfs (r11.S g) (SfE.S_lt HR11.out)); have HK12 := Aside0.mk (show fs12.map keyD = (abs r11).ss from hk12); have HR12 := Aside0.mk (HR11.out.below hb); have HF9b := Aside0.mk (HF11.out.below hb); obtain ⟨A12, n12, c12, hv12, _, _⟩ := HF12.out.slice; subst hv12; clear hp hfs hk12 hb HR11 HF11; skip)
      | (go_at_call 28; have HMx := HR12.out; refine (show Calls Try.prog 28 #[.slice A9 n9 c9, .slice A12 n12 c12] w12 (BoolP w12 true) from (by obtain ⟨A', n', c', e1, h1, h2⟩ := HF9b.out.slice; cases e1; obtain ⟨A'', n'', c'', e3, h3, h4⟩ := HF12.out.slice; cases e3; have h_ := RkU.same_calls A9 n9 c9 fs9 A12 n12 c12 fs12 w12 h1 h3 h2 h4; rwa [same_key HK9.out HK12.out (by rw [HP11.out])] at h_)).mono ?_; clear HMx; rintro e_ w13 ⟨rfl, hb⟩; have HR13 := Aside0.mk (HR12.out.below hb); clear hb HR12 HF9b HF12; skip)
      | (go_at_call 26; have HMx := HR13.out; refine (show Calls Try.prog 26 #[.pointer (some ⟨g, 0, none⟩)] w13 (IntP w13 r8.writes) from (by have h_ := writes_calls w g r11 _ HR13.out; rwa [show r11.writes = r8.writes from congrArg PS.writes HP11.out] at h_)).mono ?_; clear HMx; rintro e_ w14 ⟨rfl, hb⟩; have HR14 := Aside0.mk (HR13.out.below hb); clear hb HR13; skip)
      | (go_at_call 17; have HMx := HR14.out; refine (show Calls Try.prog 17 #[.pointer (some ⟨g, 0, none⟩)] w14 (IntP w14 0) from (by have h_ := loose_calls w g r11 _ HR14.out; rwa [loose0 HP11.out HC8.out.ls] at h_)).mono ?_; clear HMx; rintro e_ w15 ⟨rfl, hb⟩; have HB15 := Aside0.mk (HR14.out.below hb).bel; clear hb HR14; skip)
      | (go_at_call 40; have HMx := HB15.out; refine (awake_calls _).mono ?_; clear HMx; rintro e_ wa ⟨rfl, hb⟩; have HBa := Aside0.mk (HB15.out.trans (hb.mono HB15.out.size)); clear hb; skip))
    go_ret
    exact ⟨rfl, HBa.out⟩
  · have hf1 : (fit == 0) = false := beq_eq_false_iff_ne.2 hf
    have hf2 : decide (fit = 0) = false := decide_eq_false hf
    have hf3 : (fit != 0) = true := by rw [bne, hf1]; rfl
    clear hf
    go_wp2_with (first
      | (go_at_call 39; refine HH.out.mono ?_; rintro e_ w1 ⟨rfl, hb⟩; have HB1 := Aside0.mk hb; clear hb HH; skip)
      | (go_at_call 15; refine (new_calls w 1000000 w1 HB1.out).mono ?_; rintro e_ w2 ⟨g, b1, b2, rfl, hR, _⟩; have HR2 := Aside0.mk hR; clear hR HB1; skip)
      | (go_at_call 46; have HMx := HR2.out; refine (open_calls w g _ _ 0 0 HR2.out (p0_bd 1000000) (by decide) (redo_none rfl 0)).mono ?_; clear HMx; intro e_ w3 hp; obtain ⟨q, rfl, _, r3, hR, hp3, _, _, hs⟩ := opened hp (open_free (p := p0 1000000) rfl rfl); have HR3 := Aside0.mk hR; have HP3 := Aside0.mk hp3; have HS3 := Aside0.mk hs; clear hp hR hp3 hs HR2; skip)
      | (go_at_call 49; have HMx := HR3.out; refine (HFc.out w3 q g r3 HR3.out HS3.out HP3.out).mono ?_; clear HMx; rintro e_ w4 ⟨rfl, hb⟩; have HB4 := Aside0.mk (HR3.out.below hb).bel; clear hb HR3 HS3 HFc; skip)
      | (go_at_call 40; have HMx := HB4.out; refine (awake_calls _).mono ?_; clear HMx; rintro e_ wa ⟨rfl, hb⟩; have HBa := Aside0.mk (HB4.out.trans (hb.mono HB4.out.size)); clear hb; skip))
    go_ret
    exact ⟨rfl, HBa.out⟩
end Go.Proofs.Ytjljgcceapkdcaa.SfN
end
