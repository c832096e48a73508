-- The used parts of 1 texts, laid together by merge.py.
import Derived.Test.YtjljgcceapkdcaaZQ18
section
namespace Go.Proofs.Ytjljgcceapkdcaa.SfY
open Go.RowKit Go.Proofs.YtjljgcceapkdcaaW.PrintWords Go.Proofs.YtjljgcceapkdcaaW.PrintLast Go.Proofs.YtjljgcceapkdcaaW.PrintMore Go.Proofs.Ytjljgcceapkdcaa.PkH Go.Proofs.Ytjljgcceapkdcaa.RkA Go.Proofs.Ytjljgcceapkdcaa.RkB Go.Proofs.Ytjljgcceapkdcaa.RkC Go.Proofs.Ytjljgcceapkdcaa.RkD Go.Proofs.Ytjljgcceapkdcaa.RkF Go.Proofs.Ytjljgcceapkdcaa.RkG Go.Proofs.Ytjljgcceapkdcaa.RkK Go.Proofs.Ytjljgcceapkdcaa.RkL Go.Proofs.Ytjljgcceapkdcaa.RkQ Go.Proofs.Ytjljgcceapkdcaa.RkS Go.Proofs.Ytjljgcceapkdcaa.RkU Go.Proofs.Ytjljgcceapkdcaa.RkV Go.Proofs.Ytjljgcceapkdcaa.SfA Go.Proofs.Ytjljgcceapkdcaa.SfB Go.Proofs.Ytjljgcceapkdcaa.SfE Go.Proofs.Ytjljgcceapkdcaa.SfG Go.Proofs.Ytjljgcceapkdcaa.SfH Go.Proofs.Ytjljgcceapkdcaa.SfI Go.Proofs.Ytjljgcceapkdcaa.SfJ Go.Proofs.Ytjljgcceapkdcaa.SfN Go.Proofs.Ytjljgcceapkdcaa.SfO Go.Proofs.Ytjljgcceapkdcaa.SfT Go.Proofs.Ytjljgcceapkdcaa.SfX Go.Proofs.Ytjljgcceapkdcaa.SfP Go.Proofs.Ytjljgcceapkdcaa.SfQ Go.Proofs.Ytjljgcceapkdcaa.SfR Go.Proofs.Ytjljgcceapkdcaa.SfV Go.Proofs.Ytjljgcceapkdcaa.Rw
set_option linter.unusedVariables false
set_option linter.unusedSimpArgs false
def t_mailsacklaw14_SafeAll.T25 : Bool × List (List Nat × List Nat) := (true, [([], []), ([], []), ([], []), ([1, 2], [1, 2]), ([0, 3], [0, 3]), ([], []), ([5], [5]), ([], []), ([7], [7]), ([6, 8], [6, 8]), ([9], [9]), ([4, 10, 4], [4, 10]), ([], []), ([], []), ([12, 13], [12, 13]), ([11, 14, 11], [11, 14]), ([15, 15, 0, 1, 2, 3, 4, 5, 6, 7, 8, 9, 10, 11, 12, 13, 14, 15], [1, 12, 15])])
def t_mailsacklaw14_SafeAll.B25 : List Nat := [0, 0, 0, 6, 15, 0, 32, 0, 128, 480, 992, 2047, 0, 0, 12288, 32767, 65535]
theorem t_mailsacklaw14_SafeAll.tab25 : rtab .any (opsOf Try.f11 25) = t_mailsacklaw14_SafeAll.T25 := by kernel_rfl
theorem t_mailsacklaw14_SafeAll.bits25 : waitsOk t_mailsacklaw14_SafeAll.T25.2 t_mailsacklaw14_SafeAll.B25 = true := by kernel_rfl
theorem hb_gr {w w1 : World} {q : Nat} {o : Obj} (h : w.heap[q]? = some o) (hg : w.grownBy w1 none) : w1.heap[q]? = some o := by
  have hk : Kept w w1 (fun _ => False) := Kept.of_grown hg (Kept.refl _ _) (fun k hk => by cases hk)
  exact (hk.2 q (Array.getElem?_eq_some_iff.1 h).1 (fun e => e)).trans h
theorem hb_own {w w1 : World} {q B : Nat} {o : Obj} {v : Value} (h : w.heap[q]? = some o) (hg : w.grownBy w1 v.ownBlock) (hb : ∀ k, v.ownBlock = some k → B ≤ k) (hq : q < B) : w1.heap[q]? = some o := by
  have hk : Kept w w1 (fun k => some k = v.ownBlock) := Kept.of_grown hg (Kept.refl _ _) (fun k hk => .inl hk.symm)
  exact (hk.2 q (Array.getElem?_eq_some_iff.1 h).1 (fun e => by have := hb q e.symm; omega)).trans h
theorem _root_.Go.Proofs.Ytjljgcceapkdcaa.SfX.ZAt.step2 {w wr w' : World} {g : Nat} {r : RS} {A1 A2 : Option Addr} {n1 n2 : Nat} {f1 f2 : List FE} {p : PS} (h : ZAt w wr g r A1 n1 f1 A2 n2 f2) (hs : Step w wr w' g r p) : ∃ r', abs r' = p ∧ ZAt w w' g r' A1 n1 f1 A2 n2 f2 ∧ Kept wr w' (r.S g) ∧ ∀ k, r'.S g k → r.S g k ∨ wr.heap.size ≤ k := by
  obtain ⟨r', hR, he, hk, hS⟩ := hs
  exact ⟨r', he, ⟨hR, h.w1.kept hk (fun _ h => h) hS, h.w2.kept hk (fun _ h => h) hS⟩, hk, hS⟩
structure NAt (w8 wr : World) (v : Value) (F : List FE) (ls : List WR) (k : Nat) : Prop where
  row : Kd.R kF 48 wr w8.heap.size (fun _ => True) v (doAll F (ls.take k))
  bel : Below w8.heap.size w8 wr
set_option maxRecDepth 100000 in
set_option maxHeartbeats 32000000 in
theorem safeAll_calls (c1 : Nat) (l1 : List ChT) (A1 : Option Addr) (c2 : Nat) (l2 : List ChT) (A2 : Option Addr) (fz az : Int) (cp : Nat) (p : List Int) (Ap : Option Addr) (cm : Nat) (m : List Int) (Am : Option Addr) (w : World) (ha1 : ArgOk l1) (hc1 : l1.length ≤ c1) (hC1 : Kd.C chD w A1 l1.length l1) (ha2 : ArgOk l2) (hc2 : l2.length ≤ c2) (hC2 : Kd.C chD w A2 l2.length l2) (hcp : p.length ≤ cp) (hCp : Kd.C (Kd.int .u8) w Ap p.length p) (hp7 : p.length ≤ 140737488355328) (hcm : m.length ≤ cm) (hCm : Kd.C (Kd.int .u8) w Am m.length m) (hm7 : m.length ≤ 140737488355328) :
    Calls Try.prog 11 #[.slice A1 l1.length c1, .slice A2 l2.length c2, .int .i64 fz, .int .i64 az, .slice Ap p.length cp, .slice Am m.length cm] w fun e w' => e = .returned (.bool true) ∧ Below w.heap.size w w' := by
  have hu64 := Try.underlying64
  have hu48 := Try.underlying48
  obtain ⟨rh1, hr1, hr2, hr3, hh1⟩ := heavy14_calls l1 ha1
  obtain ⟨rh2, hr4, hr5, hr6, hh2⟩ := heavy14_calls l2 ha2
  obtain ⟨ls1, hCl, hDl, hKl⟩ := chg_open hC1 (fun x hx => (ha1.2 x hx).2.2)
  obtain ⟨ls2, hCk, hDk, hKk⟩ := chg_open hC2 (fun x hx => (ha2.2 x hx).2.2)
  have HH1 := Aside0.mk (hh1 w A1 c1 hC1 hc1)
  have HH2 := Aside0.mk (fun W (h_ : Below w.heap.size w W) => hh2 W A2 c2 (Kd.C_below hC2 h_) hc2)
  have HZ1 := Aside0.mk (fun h => chs_len hKl (hr3 h).1 (hr3 h).2)
  have HZ2 := Aside0.mk (fun h => chs_len hKk (hr6 h).1 (hr6 h).2)
  have HY1 := Aside0.mk (fun h => (hr3 h).1)
  have HY2 := Aside0.mk (fun h => (hr6 h).1)
  have HC1 := Aside0.mk hCl
  have HC2 := Aside0.mk hCk
  have HCc1 := Aside0.mk hc1
  have HCc2 := Aside0.mk hc2
  have HD1 := Aside0.mk hDl
  have HD2 := Aside0.mk hDk
  have HPk := Aside0.mk (And.intro hcp hCp)
  have HMo := Aside0.mk (And.intro hcm hCm)
  obtain ⟨n1, hn1⟩ : ∃ n1, l1.length = n1 := ⟨_, rfl⟩
  obtain ⟨n2, hn2⟩ : ∃ n2, l2.length = n2 := ⟨_, rfl⟩
  rw [hn1] at HH1 HC1 HCc1 HY1 HZ1 ⊢
  rw [hn2] at HH2 HC2 HCc2 HY2 HZ2 ⊢
  have HN1 := Aside0.mk (show ls1.length = n1 from HC1.out.1)
  have HN2 := Aside0.mk (show ls2.length = n2 from HC2.out.1)
  obtain ⟨z, hz1, hz2⟩ := rem70 fz
  obtain ⟨z', hz3, hz4⟩ := rem70 az
  clear ha1 hc1 hC1 ha2 hc2 hC2 hcp hCp hcm hCm hh1 hh2 hCl hDl hKl hCk hDk hKk hr3 hr6 hn1 hn2
  have hw1 : IntKind.i64.wrap (rh1 + rh2) = rh1 + rh2 := by rw [IntKind.wrap_i64]; omega
  have hw2 : IntKind.i64.wrap ((p.length : Int) + (m.length : Int)) = (p.length : Int) + (m.length : Int) := by rw [IntKind.wrap_i64]; omega
  go_enter Try.func11, Try.ntmps11
  by_cases hg : 0 < rh1 + rh2
  · have hd : decide (0 < rh1 + rh2) = true := decide_eq_true hg
    go_wp2_with (first
      | (go_at_call 39; have HHx := HH1.out; refine HHx.mono ?_; rintro e_ w1 ⟨rfl, hb⟩; have HB1 := Aside0.mk hb; clear hb HH1 HHx; skip)
      | (go_at_call 39; have HHx := HH2.out w1 HB1.out; refine HHx.mono ?_; rintro e_ w2 ⟨rfl, hb⟩; have HB2 := Aside0.mk (HB1.out.trans (hb.mono HB1.out.size)); clear hb HHx; skip)
      | (go_at_call 40; have HMx := HB2.out; refine (awake_calls _).mono ?_; clear HMx; rintro e_ wa ⟨rfl, hb⟩; have HBa := Aside0.mk (HB2.out.trans (hb.mono HB2.out.size)); clear hb; skip))
    go_ret
    exact ⟨rfl, HBa.out⟩
  have hd : decide (0 < rh1 + rh2) = false := decide_eq_false hg
  have HL1 := Aside0.mk (HZ1.out (by omega))
  have HL2 := Aside0.mk (HZ2.out (by omega))
  have HM1 := Aside0.mk (HY1.out (by omega))
  have HM2 := Aside0.mk (HY2.out (by omega))
  clear HZ1 HZ2 HY1 HY2 hg
  by_cases h500 : 500 < (p.length : Int) + (m.length : Int)
  · have hd2 : decide (500 < (p.length : Int) + (m.length : Int)) = true := decide_eq_true h500
    go_wp2_with (first
      | (go_at_call 39; have HHx := HH1.out; refine HHx.mono ?_; rintro e_ w1 ⟨rfl, hb⟩; have HB1 := Aside0.mk hb; clear hb HH1 HHx; skip)
      | (go_at_call 39; have HHx := HH2.out w1 HB1.out; refine HHx.mono ?_; rintro e_ w2 ⟨rfl, hb⟩; have HB2 := Aside0.mk (HB1.out.trans (hb.mono HB1.out.size)); clear hb HHx; skip)
      | (go_at_call 40; have HMx := HB2.out; refine (awake_calls _).mono ?_; clear HMx; rintro e_ wa ⟨rfl, hb⟩; have HBa := Aside0.mk (HB2.out.trans (hb.mono HB2.out.size)); clear hb; skip))
    go_ret
    exact ⟨rfl, HBa.out⟩
  have hd2 : decide (500 < (p.length : Int) + (m.length : Int)) = false := decide_eq_false h500
  clear h500
  obtain ⟨L1, hL1⟩ : ∃ L1, ls1.map keyW = L1 := ⟨_, rfl⟩
  obtain ⟨L2, hL2⟩ : ∃ L2, ls2.map keyW = L2 := ⟨_, rfl⟩
  have HLk1 := Aside0.mk hL1
  have HLk2 := Aside0.mk hL2
  have HLn1 := Aside0.mk (show L1.length = n1 by rw [← hL1, List.length_map]; exact HN1.out)
  have HLn2 := Aside0.mk (show L2.length = n2 by rw [← hL2, List.length_map]; exact HN2.out)
  obtain ⟨fit1, hfit1⟩ : ∃ fit1, fitsK (p0 1000000) L1 = fit1 := ⟨_, rfl⟩
  have HFt1 := Aside0.mk (show ∀ r : RS, abs r = p0 1000000 → fitsK (abs r) L1 = fit1 from fun r e => by rw [e]; exact hfit1)
  clear hL1 hL2 hfit1
  by_cases hf1 : fit1 = 0
  · skip
    have hf11 : (fit1 == 0) = true := by rw [hf1]; rfl
    have hf12 : decide (fit1 = 0) = true := decide_eq_true hf1
    have hf13 : (fit1 != 0) = false := by rw [hf1]; rfl
    clear hf1
    go_upto_region 7 with (first
      | (go_at_call 39; have HHx := HH1.out; refine HHx.mono ?_; rintro e_ w1 ⟨rfl, hb⟩; have HB1 := Aside0.mk hb; clear hb HH1 HHx; skip)
      | (go_at_call 39; have HHx := HH2.out w1 HB1.out; refine HHx.mono ?_; rintro e_ w2 ⟨rfl, hb⟩; have HB2 := Aside0.mk (HB1.out.trans (hb.mono HB1.out.size)); clear hb HHx; skip)
      | (go_at_call 15; have HMx := HB2.out; refine (new_calls w 1000000 w2 HB2.out).mono ?_; clear HMx; rintro e_ w3 ⟨g, b1, b2, rfl, hR, _⟩; have HR3 := Aside0.mk hR; clear hR HB2; skip)
      | (go_at_call 46; have HMx := HR3.out; refine (open_calls w g _ _ 0 0 HR3.out (p0_bd 1000000) (by decide) (redo_none rfl 0)).mono ?_; clear HMx; intro e_ w4 hp; obtain ⟨q, rfl, _, r4, hR, hp4, _, _, hs⟩ := opened hp (open_free (p := p0 1000000) rfl rfl); have HF4 := Aside0.mk (show FAt w w4 g q r4 1000000 0 from ⟨hR, hs, ⟨[], by rw [hp4]; exact p0_cln 1000000, srt_nil, rfl⟩, by rw [hp4]; rfl, by rw [hp4]; exact p0_bd 1000000⟩); have HP4 := Aside0.mk hp4; clear hp hR hp4 hs HR3; skip)
      | (go_at_call 48; have HMx := HF4.out; refine (show Calls Try.prog 48 #[.pointer (some ⟨q, 0, none⟩), .slice A1 n1 c1] w4 (CommitP w w4 g r4 L1) from (by have h_ := commit_calls w q g r4 w4 A1 c1 ls1 0 HF4.out.ra HF4.out.sa (by rw [HN1.out]; exact chg_at HC1.out HD1.out HF4.out.ra.bel (S_ge HF4.out.ra)) (by rw [HN1.out]; exact HCc1.out) (by have := HL1.out.1; omega) HF4.out.bd (by have := HM1.out; have := HN1.out; omega) (fun _ => HF4.out.free.1) (fun x hx => by have := HL1.out.2.2 x hx; omega); rwa [HLk1.out, HN1.out] at h_)).mono ?_; clear HMx; intro e_ w5 hp; obtain ⟨he5, r5, hF5, hs5, _, _, _⟩ := HF4.out.commit hp; rw [HFt1.out r4 HP4.out] at he5 hs5; subst he5; have HF5 := Aside0.mk (show FAt w w5 g q r5 1000000 100 from ⟨hF5.ra, hF5.sa, hF5.cl, hF5.fu, hF5.bd.more (by have := HLn1.out; have := HM1.out; omega)⟩); have HS5 := Aside0.mk hs5; clear hp hF5 hs5 HF4; skip))
    have HF6 := HF5
    clear HF5
    obtain ⟨w6, hw6⟩ : ∃ w6, w6 = w5 := ⟨_, rfl⟩
    subst hw6
    obtain ⟨fit2, hfit2⟩ : ∃ fit2, fitsK (abs r5) L2 = fit2 := ⟨_, rfl⟩
    have HFt2 := Aside0.mk hfit2
    clear hfit2 hd hd2 hw1 hw2 hr1 hr2 hr4 hr5 hp7 hm7 hf11 hf12 hf13 HS5
    by_cases hf2 : fit2 = 0
    · have hf21 : (fit2 == 0) = true := by rw [hf2]; rfl
      have hf22 : decide (fit2 = 0) = true := decide_eq_true hf2
      have hf23 : (fit2 != 0) = false := by rw [hf2]; rfl
      have HFz2 := Aside0.mk hf2
      clear hf2
      go_upto_region 10 with (first
        | (go_at_call 18; have HMx := HF6.out; refine (sure_calls w g r5 _ HF6.out.ra (by have := HF6.out.bd.r; omega)).mono ?_; clear HMx; intro e_ w7 hp; obtain ⟨v7, fs7, rfl, hfs, hk_, hb⟩ := sureP_files hp; have HFs7 := Aside0.mk (hfs (r5.S g) (SfE.S_lt HF6.out.ra)); have HK7 := Aside0.mk (show fs7.map keyD = (abs r5).ss from hk_); have HF7 := Aside0.mk (HF6.out.below hb); obtain ⟨Aw7, nw7, cw7, hv_, _, _⟩ := HFs7.out.slice; subst hv_; clear hp hfs hk_ hb HF6; skip)
        | (go_at_call 49; have HMx := HF7.out; refine (show Calls Try.prog 49 #[.pointer (some ⟨q, 0, none⟩), .slice A2 n2 c2] w7 (IntP w7 fit2) from (by have h1_ := fits_calls w q g r5 w7 A2 c2 ls2 HF7.out.ra HF7.out.sa (by rw [HN2.out]; exact Kd.C_below HC2.out HF7.out.ra.bel) (by rw [HN2.out]; exact HCc2.out) (fun x hx => (HD2.out x hx).below HF7.out.ra.bel) (by have := HL2.out.1; omega) (by have := HM2.out; have := HN2.out; omega) (by have := HF7.out.bd.r; omega) (HF7.out.free.2.2) HF7.out.free.1 (fun x hx => by have := HL2.out.2.2 x hx; omega); unfold FitsP at h1_; rwa [HLk2.out, HFt2.out, HN2.out] at h1_)).mono ?_; clear HMx; rintro e_ w8 ⟨rfl, hb⟩; have HF8 := Aside0.mk (HF7.out.below hb); have HWa := Aside0.mk ((wa_files HFs7.out).below hb); clear hb HF7 HFs7; skip))
      have HW7 := Aside0.mk (show nw7 = fs7.length ∧ fs7.length ≤ 100 from ⟨HWa.out.C.1.symm, by have h1_ := congrArg List.length HK7.out; have h2_ := HF8.out.bd.r; unfold abs at h1_; simp only [List.length_map] at h1_; omega⟩)
      have HSl := Aside0.mk (SfE.S_lt HF8.out.ra)
      have HChX := Aside0.mk (show ChgAt w8 (r5.S g) A2 n2 ls2 from chg_at HC2.out HD2.out HF8.out.ra.bel (S_ge HF8.out.ra))
      have HDa := Aside0.mk (fun (k : Nat) => doAll_df (w := w8) (S := r5.S g) (ls2.take k) fs7 HWa.out.ds (fun x hx => HChX.out.ds x (List.mem_of_mem_take hx)))
      have HLa := Aside0.mk (show ∀ k, (doAll fs7 (ls2.take k)).length ≤ 200 from fun k => by
        have h1 := doAll_len (ls2.take k) fs7
        have h2 := HW7.out.2
        have h3 := HN2.out
        have h4 := HM2.out
        rw [List.length_take] at h1
        omega)
      have hn29 : (n2 : Int) ≤ 60 := by have := HM2.out; omega
      go_wp2_with (first
        | ((with_reducible refine gate_dst (N := 87) rfl ?_); refine Kd.R_lit kF (w0 := w8) w8.heap.size 48 rfl rfl (xs := []) (inner := []) (ok := fun _ => True) (okp := fun _ => False) ?hr87 ⟨rfl, fun j p h => by simp at h⟩ (fun _ h => h.elim) trivial (Below.refl w8.heap.size w8) (Nat.le_refl _) (by decide) ?_; (case hr87 => first | (go_simp; done) | (go_simp; rfl)); intro v87 w87 ho hb hg hat; have HR87 := Aside0.mk ho; have HB87 := Aside0.mk hb; clear ho hb hg hat; skip)
        | ((with_reducible refine gate_builtin (b := .append) (xs := #[.tmp 87, .tmp 88]) rfl ?_); at_builtin; refine Kd.R_append_rows kF (w0 := w8) w8.heap.size rfl (.tmp 87) (.tmp 88) 30 48 (.agg #[.string ⟨#[]⟩, .slice none 0 0]) 40 rfl Try.underlying30 info_file rfl (by decide) (by omega) v87 [] fs7 Aw7 nw7 cw7 (fun _ => True) (fun _ => False) rfl rfl HR87.out (Kd.C_below HWa.out.C HB87.out) (fun _ _ h => h) (fun _ h => h.elim) (fun _ _ => trivial) HB87.out HB87.out.size (by have h1_ := HW7.out; simp only [List.length_nil]; omega) ?_; intro v89 w89 ho hb hg hat; rw [List.nil_append] at ho; have HR89 := Aside0.mk ho; have HB89 := Aside0.mk hb; clear ho hb hg hat HR87 HB87; skip))
      go_loopw [17, 92] (fun v i wr => ∃ (k : Nat) (v' : Value), k ≤ n2 ∧ i = .int .i64 k ∧ v = v' ∧ Aside0 (NAt w8 wr v' fs7 ls2 k)) (fun _ i _ => n2 - (intOf i).toNat)
      case atStart => exact ⟨0, _, Nat.zero_le _, rfl, rfl, ⟨HR89.out, HB89.out⟩⟩
      case round =>
        clear HR89 HB89
        obtain ⟨k, v, hk, rfl, rfl, HNt⟩ := hrel
        obtain ⟨Au, nu, cu, rfl⟩ := RkH.slc HNt.out.row
        by_cases hlt : k < n2
        · obtain ⟨x, hx⟩ : ∃ x, ls2[k]? = some x := ⟨_, List.getElem?_eq_getElem (by rw [HN2.out]; exact hlt)⟩
          obtain ⟨ad, e1, x0, x1, x2⟩ := at_W (Kd.C_below HChX.out.C HNt.out.bel) k hlt x hx
          cases e1
          have HX := Aside0.mk hx
          obtain ⟨FW, hFW⟩ : ∃ FW, doAll fs7 (ls2.take k) = FW := ⟨_, rfl⟩
          have HFW := Aside0.mk hFW
          have HRu := Aside0.mk (show Kd.R kF 48 wr w8.heap.size (fun _ => True) (.slice Au nu cu) FW by rw [← hFW]; exact HNt.out.row)
          have HBu := Aside0.mk HNt.out.bel
          have HFl := Aside0.mk (show nu = FW.length ∧ FW.length ≤ 200 from ⟨(Kd.R_reads' HRu.out).1, by rw [← hFW]; exact HLa.out k⟩)
          have HNx := Aside0.mk (show doAll fs7 (ls2.take (k + 1)) = doF FW x by rw [do_next hx, hFW])
          clear hx hFW HNt
          have M0_0 := Aside0.mk (Below.refl wr.heap.size wr)
          go_upto_region 14 with ((with_reducible refine gate_dst (N := 19) rfl ?_); refine box_event ?hgY19 (N := 19) ?hdY19 (cs := #[.string (⟨#[]⟩ : ByteArray), .bool false, .slice none 0 0]) (t := 64) ?hrY19 ?_; (case hdY19 => rfl); (case hgY19 => rfl); (case hrY19 => first | (go_simp; done) | (go_simp; rfl)); intro g_Y hg_ w_1 hbx_ hb_; have L0_Y := Aside0.mk (show wr.heap.size ≤ g_Y by have := M0_0.out.size; omega); have M0_1 := Aside0.mk (M0_0.out.trans (hb_.mono M0_0.out.size)); have Y_1 := Aside0.mk hbx_; clear hg_ hbx_ hb_ M0_0; have zY0 := blk_cell Y_1.out 0; have yY0 := blk_frozen Y_1.out 0; have zY1 := blk_cell Y_1.out 1; have yY1 := blk_frozen Y_1.out 1; have zY2 := blk_cell Y_1.out 2; have yY2 := blk_frozen Y_1.out 2; skip)
          obtain ⟨wc, e2, GC2, HBc'⟩ := fresh3 M0_1.out L0_Y.out Y_1.out x
          rw [e2]
          clear e2 zY0 zY1 zY2 yY0 yY1 yY2 x0 x1 x2
          have GC := Aside0.mk GC2
          have HBc := Aside0.mk (HBu.out.trans (HBc'.mono HBu.out.size))
          have HCu := Aside0.mk (show Kd.C kF wc Au nu FW by have h_ := Kd.R_reads' (Kd.R_below HRu.out HBc'); rw [h_.1]; exact h_.2.2)
          have hnu9 : (nu : Int) ≤ 200 := by have := HFl.out; omega
          clear GC2 HBc' HRu
          go_wp2_with fail
          go_loopw [20, 98] (fun v i wz => ∃ (j : Nat) (v' : Value), j ≤ nu ∧ i = .int .i64 j ∧ v = v' ∧ Aside0 (Kd.R kF 48 wz wc.heap.size (fun _ => True) v' (dropF (FW.take j) x.nm)) ∧ Aside0 (Below wc.heap.size wc wz)) (fun _ i _ => nu - (intOf i).toNat)
          case atStart => exact ⟨0, _, Nat.zero_le _, rfl, rfl, ⟨Kd.R_nil _ _ _ _ _⟩, ⟨Below.refl _ _⟩⟩
          case round =>
            obtain ⟨j, v2, hj, rfl, rfl, HRv, HBv⟩ := hrel
            obtain ⟨Av, nv, cv, rfl⟩ := RkH.slc HRv.out
            by_cases hjn : j < nu
            · obtain ⟨f, hf⟩ : ∃ f, FW[j]? = some f := ⟨_, List.getElem?_eq_getElem (by have := HFl.out.1; omega)⟩
              obtain ⟨af, e3, f0, f1⟩ := at_F (Kd.C_below HCu.out HBv.out) j hjn f hf
              cases e3
              have HDt := Aside0.mk (drop_take (fs := FW) x.nm hf)
              have HLv := Aside0.mk (show (dropF (FW.take j) x.nm).length ≤ 200 by have h_ : (dropF (FW.take j) x.nm).length ≤ (FW.take j).length := List.length_filter_le _ _; rw [List.length_take] at h_; have := HFl.out.2; omega)
              clear hf
              have M0_0 := Aside0.mk (Below.refl wr.heap.size wr)
              go_upto_region 18 with ((with_reducible refine gate_dst (N := 22) rfl ?_); refine box_event ?hgZ22 (N := 22) ?hdZ22 (cs := #[.string (⟨#[]⟩ : ByteArray), .slice none 0 0]) (t := 48) ?hrZ22 ?_; (case hdZ22 => rfl); (case hgZ22 => rfl); (case hrZ22 => first | (go_simp; done) | (go_simp; rfl)); intro g_Z hg_ w_1 hbx_ hb_; have L0_Z := Aside0.mk (show wr.heap.size ≤ g_Z by have := M0_0.out.size; omega); have M0_1 := Aside0.mk (M0_0.out.trans (hb_.mono M0_0.out.size)); have Z_1 := Aside0.mk hbx_; clear hg_ hbx_ hb_ M0_0; have zZ0 := blk_cell Z_1.out 0; have yZ0 := blk_frozen Z_1.out 0; have zZ1 := blk_cell Z_1.out 1; have yZ1 := blk_frozen Z_1.out 1; skip)
              obtain ⟨wg, e4, GF2, HBg'⟩ := fresh2 M0_1.out L0_Z.out Z_1.out (.string f.nm) (.slice f.A f.d.size f.c)
              rw [e4]
              clear e4 zZ0 zZ1 yZ0 yZ1 f0 f1
              have HBg := Aside0.mk (HBv.out.trans (HBg'.mono HBv.out.size))
              have HRg := Aside0.mk (Kd.R_below HRv.out HBg')
              have gf0 := blk_cell GF2 0
              have gf1 := blk_cell GF2 1
              have gc0 := blk_cell (blk_below GC.out HBg.out) 0
              clear GF2 HBg' HRv
              by_cases hne : f.nm = x.nm
              · have hst : (f.nm.toList == x.nm.toList) = true := by rw [hne]; exact beq_self_eq_true _
                have HDn := Aside0.mk (show dropF (FW.take (j + 1)) x.nm = dropF (FW.take j) x.nm by rw [HDt.out, if_neg (by simpa using hne), List.append_nil])
                clear hne
                go_wp2_with fail
                go_roundw
                case rel => exact ⟨j + 1, _, by omega, by go_num, rfl, by rw [HDn.out]; exact HRg, HBg⟩
                case measure => simp [intOf]; omega
              · have hst : (f.nm.toList == x.nm.toList) = false := beq_eq_false_iff_ne.2 fun e => hne (ba_ext e)
                have HDn := Aside0.mk (show dropF (FW.take (j + 1)) x.nm = dropF (FW.take j) x.nm ++ [f] by rw [HDt.out, if_pos hne])
                clear hne
                go_wp2_with ((with_reducible refine gate_builtin (b := .append) (xs := #[.tmp 107, .tmp 109]) rfl ?_); at_builtin; refine Kd.R_append kF (w0 := wc) wc.heap.size rfl (.tmp 107) (.tmp 109) 30 48 (.agg #[.string ⟨#[]⟩, .slice none 0 0]) 40 rfl Try.underlying30 info_file rfl (by decide) (by omega) (.slice Av nv cv) (dropF (FW.take j) x.nm) f [.string f.nm, .slice f.A f.d.size f.c] (fun _ => True) (fun _ => False) rfl rfl ?aP (fun _ hk => hk.elim) ?aF ?aO ?aB ?aS ?aL ?_; (case aP => exact rfl); (case aF => exact (fun _ _ => trivial)); (case aO => exact HRg.out); (case aB => exact HBg.out); (case aS => exact HBg.out.size); (case aL => have h1_ := HLv.out; omega); intro v8 w9 ho hb8 hg hat; rw [← HDn.out] at ho; have HR9 := Aside0.mk ho; have HB9 := Aside0.mk hb8; clear ho hb8 hg hat gf0 gf1 gc0; skip)
                go_roundw
                case rel => exact ⟨j + 1, _, by omega, by go_num, rfl, HR9, HB9⟩
                case measure => simp [intOf]; omega
            · obtain rfl : j = nu := by omega
              obtain ⟨wf, hwf⟩ : ∃ wf, wf = wr := ⟨_, rfl⟩
              subst hwf
              obtain ⟨NX, hNX⟩ : ∃ NX, dropF FW x.nm = NX := ⟨_, rfl⟩
              have HRn := Aside0.mk (show Kd.R kF 48 wf wc.heap.size (fun _ => True) (.slice Av nv cv) NX by have h_ := HRv.out; rw [HFl.out.1, List.take_length, hNX] at h_; exact h_)
              have GCf := Aside0.mk (blk_below GC.out HBv.out)
              have HBf := Aside0.mk (HBc.out.trans (HBv.out.mono HBc.out.size))
              have HCw := Aside0.mk (show nv = NX.length ∧ nv ≤ cv from ⟨(Kd.R_reads' HRn.out).1, (Kd.R_reads' HRn.out).2.1⟩)
              have HNl := Aside0.mk (show NX.length ≤ 200 by rw [← hNX]; exact Nat.le_trans (List.length_filter_le _ _) HFl.out.2)
              have HNe := Aside0.mk (show ∀ y ∈ NX, y.nm ≠ x.nm by rw [← hNX]; exact dropF_ne FW x.nm)
              have HNX := Aside0.mk hNX
              have hnv9 : (nv : Int) ≤ 200 := by have := HCw.out.1; have := HNl.out; omega
              have gc1 := blk_cell GCf.out 1
              have gc0 := blk_cell GCf.out 0
              clear hNX HRv
              by_cases hcut : x.cut = true
              · have HN9 := Aside0.mk (show NAt w8 wf (.slice Av nv cv) fs7 ls2 (k + 1) from ⟨by rw [HNx.out]; unfold doF; rw [if_pos hcut, HNX.out]; exact Kd.R_lower HRn.out HBc.out.size, HBf.out⟩)
                go_wp2_with fail
                go_roundw
                case rel => exact ⟨k + 1, _, by omega, by go_num, rfl, HN9⟩
                case measure => simp [intOf]; omega
              · replace hcut : x.cut = false := by simpa using hcut
                have HPut := Aside0.mk (show doAll fs7 (ls2.take (k + 1)) = NX.take (posF x.nm NX) ++ [wfe x] ++ NX.drop (posF x.nm NX) by
                  rw [HNx.out]
                  unfold doF putF
                  rw [if_neg (by rw [hcut]; decide), show (wfe x).nm = x.nm from rfl, HNX.out]
                  exact insF_pos (wfe x) NX HNe.out)
                have HCwC := Aside0.mk (fun W (hW : Below wf.heap.size wf W) => show Kd.C kF W Av nv NX from by
                  have h_ := Kd.R_reads' HRn.out
                  rw [h_.1]
                  exact Kd.C_below h_.2.2 hW)
                have HGY := Aside0.mk (show g_Y < wf.heap.size from blk_lt GCf.out)
                go_wp2_with fail
                go_loopw [23] (fun i wy => ∃ t : Nat, t ≤ posF x.nm NX ∧ i = .int .i64 t ∧ Aside0 (Below wf.heap.size wf wy)) (fun i _ => nv - (intOf i).toNat)
                case atStart => exact ⟨0, Nat.zero_le _, rfl, ⟨Below.refl _ _⟩⟩
                case round =>
                  obtain ⟨t, ht, rfl, HBy⟩ := hrel
                  have hpl := posF_le x.nm NX
                  have htl : t ≤ nv := by have := HCw.out.1; omega
                  have GCy := Aside0.mk (blk_below GCf.out HBy.out)
                  have gc0 := blk_cell GCy.out 0
                  by_cases htn : t < nv
                  · have htL : t < NX.length := by have := HCw.out.1; omega
                    have hps := posF_step x.nm NX t htL ht
                    obtain ⟨av, e3, hxv, _⟩ := at_F (HCwC.out wr HBy.out) t htn NX[t] (List.getElem?_eq_getElem htL)
                    cases e3
                    generalize (NX[t]'htL).nm = u at hxv hps
                    have hdt : decide ((t : Int) < (nv : Int)) = true := decide_eq_true (by omega)
                    by_cases hlt2 : ltS u x.nm = true
                    · have hb1 : Op.bytesLess u.toList x.nm.toList = true := hlt2
                      have hq2 := hps.1 hlt2
                      clear hps hlt2
                      go_upto_region 23 with fail
                      repeat (go_quiet (fail); try go_wp2)
                      go_wp2_with fail
                      go_roundw
                      case rel => exact ⟨t + 1, by omega, by go_num, ⟨by repeat (first | exact HBy.out | apply pw_below_drewN | apply below_drew)⟩⟩
                      case measure => simp [intOf]; omega
                    · have hb1 : Op.bytesLess u.toList x.nm.toList = false := by simpa [ltS] using hlt2
                      have HPos := Aside0.mk (show t = posF x.nm NX by have := mt hps.2 hlt2; omega)
                      clear hps hlt2 hpl
                      go_upto_region 23 with fail
                      repeat (go_quiet (fail); try go_wp2)
                      have HBq : Aside0 (Below wf.heap.size wf (wr.drewN nq)) := ⟨pw_below_drewN HBy.out nq⟩
                      have GCq : Aside0 ((wr.drewN nq).heap[g_Y]? = some (.cells #[.string x.nm, .bool x.cut, .slice x.A x.d.size x.c] 64 (0, 0))) := ⟨GCy.out⟩
                      clear HBy GCy gc0
                      generalize wr.drewN nq = wy at *
                      have hkl : t ≤ nv := by omega
                      have HGq := Aside0.mk (show g_Y < wy.heap.size from Nat.lt_of_lt_of_le HGY.out HBq.out.size)
                      obtain ⟨hto2, Hm6, HD6⟩ := to_F (some av) nv cv NX t HCw.out.1 (HCwC.out wy HBq.out) HCw.out.2 hkl
                      obtain ⟨A5, n5, c5, hcut5, Hm5, Hd5, HD5⟩ := cut_F (some av) nv cv NX t HCw.out.1 (HCwC.out wy HBq.out) HCw.out.2 hkl
                      have HBw := Aside0.mk (Below.refl wy.heap.size wy)
                      have hk0 : (t : Int) ≤ 200 := by have := HCw.out; have := HNl.out; omega
                      go_upto_region 25 with fail
                      refine start_ (n := 17) (S := fun w' => True) (ds := []) #[false, false, false, false, false, false, false, false, false, false, false, false, false, false, false, false, false] (by kernel_rfl) rfl rfl trivial (fun hHeld => ?_)
                      refine with_tabW t_mailsacklaw14_SafeAll.tab25 t_mailsacklaw14_SafeAll.bits25 (fun HT_ HW_ => ?_)
                      have hd_ := (below_drew1 (Below.refl wy.heap.size wy))
                      have n_HBw := Aside0.mk (HBw.out.trans (hd_.mono HBw.out.size))
                      have n_GCq := Aside0.mk ((show wy.drew.heap[g_Y]? = _ from GCq.out))
                      clear HBw
                      have HBw := n_HBw
                      clear n_HBw
                      clear GCq
                      have GCq := n_GCq
                      clear n_GCq
                      generalize wy.drew = w_d at *
                      clear hd_
                      refine inv_at [0, 1, 2, 3, 4, 5, 6, 7, 8, 9, 10, 11, 12, 13, 14, 15, 16] (fun a0_ b a w' => ∃ (v131 : Value) (v135 : Value) (A141 : Option Addr) (n141 : Nat) (c141 : Nat) (v142 : Value) (A146 : Option Addr) (n146 : Nat) (c146 : Nat) (m10_ : Value) (m15_ : Value) (m16_ : Value), a = putSel a0_ b [(0, 131, v131), (1, 132, .slice (some av) nv cv), (2, 133, .int .i64 (t : Int)), (3, 134, .slice (some av) t cv), (4, 135, v135), (5, 136, .pointer (some ⟨g_Y, 0, none⟩)), (6, 137, .string x.nm), (7, 138, .pointer (some ⟨g_Y, 2, none⟩)), (8, 139, .slice x.A x.d.size x.c), (9, 140, .agg #[.string x.nm, .slice x.A x.d.size x.c]), (10, 141, m10_), (11, 142, v142), (12, 143, .slice (some av) nv cv), (13, 144, .int .i64 (t : Int)), (14, 145, .slice A5 n5 c5), (15, 146, m15_), (16, 20, m16_)] ∧ (Below wy.heap.size wy w') ∧ (w'.heap[g_Y]? = some (.cells #[.string x.nm, .bool x.cut, .slice x.A x.d.size x.c] 64 (0, 0))) ∧ (b 0 = true → b 4 = false → Tg kF 48 w' wy.heap.size v131 []) ∧ (b 4 = true → b 11 = false → Tg kF 48 w' wy.heap.size v135 (NX.take t)) ∧ (b 10 = true → b 11 = false → Tg kF 48 w' wy.heap.size (.slice A141 n141 c141) [wfe x]) ∧ (b 11 = true → b 15 = false → Tg kF 48 w' wy.heap.size v142 (NX.take t ++ [wfe x])) ∧ (b 15 = true → Tg kF 48 w' wy.heap.size (.slice A146 n146 c146) (NX.take t ++ [wfe x] ++ NX.drop t)) ∧ (b 0 = true → b 10 = true → b 4 = false → AP v131 (.slice A141 n141 c141)) ∧ (b 4 = true → b 10 = true → b 11 = false → AP v135 (.slice A141 n141 c141)) ∧ (b 10 = true → (m10_ : Value) = .slice A141 n141 c141) ∧ (b 15 = true → (m15_ : Value) = .slice A146 n146 c146) ∧ (b 16 = true → (m16_ : Value) = .slice A146 n146 c146)) HT_.out HW_.out (by kernel_rfl) (by kernel_rfl) ?_ ?_ ?_
                      · exact ⟨.slice none 0 0, .slice none 0 0, none, 0, 0, .slice none 0 0, none, 0, 0, .bool false, .bool false, .bool false, by simp only [putSel, Bool.false_eq_true, if_false], HBw.out, GCq.out, fun h_ => absurd h_ (by decide), fun h_ => absurd h_ (by decide), fun h_ => absurd h_ (by decide), fun h_ => absurd h_ (by decide), fun h_ => absurd h_ (by decide), fun h_ => absurd h_ (by decide), fun h_ => absurd h_ (by decide), fun h_ => absurd h_ (by decide), fun h_ => absurd h_ (by decide), fun h_ => absurd h_ (by decide)⟩
                      · skip
                        clear GCq HBw
                        refine steps_cons ?_ ?_
                        · rintro b a w' ⟨v131, v135, A141, n141, c141, v142, A146, n146, c146, m10_, m15_, m16_, ha, Q_HBw, Q_GCq, Q_R131, Q_R135, Q_R141, Q_R142, Q_R146, Q_P1, Q_P2, Q_X10_, Q_X15_, Q_X16_⟩ hb_ hon hoff
                          refine ⟨_, rfl, fun K hK => ?_⟩
                          replace ha := Aside0.mk ha
                          have HBw := Aside0.mk Q_HBw
                          have GCq := Aside0.mk Q_GCq
                          refine Kd.R_lit_step kF (w0 := wy) (xs := []) (inner := []) (ok := fun _ => True) (okp := fun _ => False) wy.heap.size 48 (by rfl) rfl ?_ ⟨rfl, fun j p h => by simp at h⟩ (fun _ h => h.elim) trivial HBw.out HBw.out.size (by decide) ?_
                          · go_simp
                          intro v1 w1 ho hb hg hat
                          refine hK.out _ _ ⟨v1, v135, A141, n141, c141, v142, A146, n146, c146, m10_, m15_, m16_, (by rw [ha.out]; exact putSel_upk 0 hb_ rfl rfl rfl), hb, (hb_gr GCq.out hg), fun _ _ => Tg.of (d := kF) rfl ho, fun h0_ _ => absurd ((hoff 4 (by kernel_rfl)).symm.trans h0_) (by decide), fun h0_ h1_ => (Q_R141 h0_ h1_).grown_none hg, fun h0_ _ => absurd ((hoff 11 (by kernel_rfl)).symm.trans h0_) (by decide), fun h0_ => absurd ((hoff 15 (by kernel_rfl)).symm.trans h0_) (by decide), fun _ h1_ _ => ((Q_R141 h1_ (hoff 11 (by kernel_rfl))).ap_right hat).symm, fun h0_ _ _ => absurd ((hoff 4 (by kernel_rfl)).symm.trans h0_) (by decide), Q_X10_, fun h0_ => absurd ((hoff 15 (by kernel_rfl)).symm.trans h0_) (by decide), fun h0_ => absurd ((hoff 16 (by kernel_rfl)).symm.trans h0_) (by decide)⟩
                        refine steps_cons ?_ ?_
                        · rintro b a w' ⟨v131, v135, A141, n141, c141, v142, A146, n146, c146, m10_, m15_, m16_, ha, Q_HBw, Q_GCq, Q_R131, Q_R135, Q_R141, Q_R142, Q_R146, Q_P1, Q_P2, Q_X10_, Q_X15_, Q_X16_⟩ hb_ hon hoff
                          refine ⟨_, rfl, fun K hK => ?_⟩
                          have e20 : a.tmps[20]? = some (.slice (some av) nv cv) := by rw [ha]; exact (putSel_not (hoff 16 (by kernel_rfl)) rfl).trans rfl
                          replace ha := Aside0.mk ha
                          refine value_ (w1 := w') (v := .slice (some av) nv cv) (by rfl) rfl ?_ ?_
                          · go_simp
                            try first | rfl | assumption
                          refine hK.out _ _ ⟨v131, v135, A141, n141, c141, v142, A146, n146, c146, m10_, m15_, m16_, (by rw [ha.out]; exact putSel_upk 1 hb_ rfl rfl rfl), Q_HBw, Q_GCq, Q_R131, fun h0_ _ => absurd ((hoff 4 (by kernel_rfl)).symm.trans h0_) (by decide), Q_R141, fun h0_ _ => absurd ((hoff 11 (by kernel_rfl)).symm.trans h0_) (by decide), fun h0_ => absurd ((hoff 15 (by kernel_rfl)).symm.trans h0_) (by decide), Q_P1, fun h0_ _ _ => absurd ((hoff 4 (by kernel_rfl)).symm.trans h0_) (by decide), Q_X10_, fun h0_ => absurd ((hoff 15 (by kernel_rfl)).symm.trans h0_) (by decide), fun h0_ => absurd ((hoff 16 (by kernel_rfl)).symm.trans h0_) (by decide)⟩
                        refine steps_cons ?_ ?_
                        · rintro b a w' ⟨v131, v135, A141, n141, c141, v142, A146, n146, c146, m10_, m15_, m16_, ha, Q_HBw, Q_GCq, Q_R131, Q_R135, Q_R141, Q_R142, Q_R146, Q_P1, Q_P2, Q_X10_, Q_X15_, Q_X16_⟩ hb_ hon hoff
                          refine ⟨_, rfl, fun K hK => ?_⟩
                          have e23 : a.tmps[23]? = some (.int .i64 (t : Int)) := by rw [ha]; exact (putSel_off rfl).trans rfl
                          replace ha := Aside0.mk ha
                          refine value_ (w1 := w') (v := .int .i64 (t : Int)) (by rfl) rfl ?_ ?_
                          · go_simp
                            (try simp only [i64_w])
                            try first | rfl | assumption
                          refine hK.out _ _ ⟨v131, v135, A141, n141, c141, v142, A146, n146, c146, m10_, m15_, m16_, (by rw [ha.out]; exact putSel_upk 2 hb_ rfl rfl rfl), Q_HBw, Q_GCq, Q_R131, fun h0_ _ => absurd ((hoff 4 (by kernel_rfl)).symm.trans h0_) (by decide), Q_R141, fun h0_ _ => absurd ((hoff 11 (by kernel_rfl)).symm.trans h0_) (by decide), fun h0_ => absurd ((hoff 15 (by kernel_rfl)).symm.trans h0_) (by decide), Q_P1, fun h0_ _ _ => absurd ((hoff 4 (by kernel_rfl)).symm.trans h0_) (by decide), Q_X10_, fun h0_ => absurd ((hoff 15 (by kernel_rfl)).symm.trans h0_) (by decide), fun h0_ => absurd ((hoff 16 (by kernel_rfl)).symm.trans h0_) (by decide)⟩
                        refine steps_cons ?_ ?_
                        · rintro b a w' ⟨v131, v135, A141, n141, c141, v142, A146, n146, c146, m10_, m15_, m16_, ha, Q_HBw, Q_GCq, Q_R131, Q_R135, Q_R141, Q_R142, Q_R146, Q_P1, Q_P2, Q_X10_, Q_X15_, Q_X16_⟩ hb_ hon hoff
                          refine ⟨_, rfl, fun K hK => ?_⟩
                          have e132 : a.tmps[132]? = some (.slice (some av) nv cv) := by rw [ha]; exact putSel_on (e := (1, 132, .slice (some av) nv cv)) 1 rfl rfl (hon 1 (by kernel_rfl)) rfl
                          have e133 : a.tmps[133]? = some (.int .i64 (t : Int)) := by rw [ha]; exact putSel_on (e := (2, 133, .int .i64 (t : Int))) 2 rfl rfl (hon 2 (by kernel_rfl)) rfl
                          replace ha := Aside0.mk ha
                          refine value_ (w1 := w') (v := .slice (some av) t cv) (by rfl) rfl ?_ ?_
                          · go_simp
                            try first | rfl | assumption
                          refine hK.out _ _ ⟨v131, v135, A141, n141, c141, v142, A146, n146, c146, m10_, m15_, m16_, (by rw [ha.out]; exact putSel_upk 3 hb_ rfl rfl rfl), Q_HBw, Q_GCq, Q_R131, fun h0_ _ => absurd ((hoff 4 (by kernel_rfl)).symm.trans h0_) (by decide), Q_R141, fun h0_ _ => absurd ((hoff 11 (by kernel_rfl)).symm.trans h0_) (by decide), fun h0_ => absurd ((hoff 15 (by kernel_rfl)).symm.trans h0_) (by decide), Q_P1, fun h0_ _ _ => absurd ((hoff 4 (by kernel_rfl)).symm.trans h0_) (by decide), Q_X10_, fun h0_ => absurd ((hoff 15 (by kernel_rfl)).symm.trans h0_) (by decide), fun h0_ => absurd ((hoff 16 (by kernel_rfl)).symm.trans h0_) (by decide)⟩
                        refine steps_cons ?_ ?_
                        · rintro b a w' ⟨v131, v135, A141, n141, c141, v142, A146, n146, c146, m10_, m15_, m16_, ha, Q_HBw, Q_GCq, Q_R131, Q_R135, Q_R141, Q_R142, Q_R146, Q_P1, Q_P2, Q_X10_, Q_X15_, Q_X16_⟩ hb_ hon hoff
                          refine ⟨_, rfl, fun K hK => ?_⟩
                          have e131 : a.tmps[131]? = some (v131) := by rw [ha]; exact putSel_on (e := (0, 131, v131)) 0 rfl rfl (hon 0 (by kernel_rfl)) rfl
                          have e134 : a.tmps[134]? = some (.slice (some av) t cv) := by rw [ha]; exact putSel_on (e := (3, 134, .slice (some av) t cv)) 3 rfl rfl (hon 3 (by kernel_rfl)) rfl
                          replace ha := Aside0.mk ha
                          have HBw := Aside0.mk Q_HBw
                          have GCq := Aside0.mk Q_GCq
                          have R131 := Aside0.mk (Q_R131 (hon 0 (by kernel_rfl)) hb_)
                          refine Kd.R_append_rows_step kF (w0 := wy) wy.heap.size (by rfl) (.tmp 131) (.tmp 134) 30 48 (.agg #[.string ⟨#[]⟩, .slice none 0 0]) 40 rfl Try.underlying30 info_file rfl (by decide) (by omega) v131 ([]) (NX.take t) (some av) t cv (fun _ => True) (fun _ => False) (eval_of e131) (eval_of e134) R131.out.any (Kd.C_below HD6.out HBw.out) (fun _ _ h => h) (fun _ h => h.elim) (fun _ _ => trivial) HBw.out HBw.out.size (by simp only [List.length_nil]; omega) ?_
                          intro v1 w1 ho hb hg hat
                          refine hK.out _ _ ⟨v131, v1, A141, n141, c141, v142, A146, n146, c146, m10_, m15_, m16_, (by rw [ha.out]; exact putSel_upk 4 hb_ rfl rfl rfl), hb, (hb_own GCq.out hg (Kd.R_base R131.out) HGq.out), fun _ h1_ => absurd ((up_self b 4).symm.trans h1_) (by decide), fun _ _ => Tg.of (d := kF) rfl ho, fun h0_ h1_ => (Q_R141 h0_ h1_).grown hg (Q_P1 (hon 0 (by kernel_rfl)) h0_ hb_).symm, fun h0_ _ => absurd ((hoff 11 (by kernel_rfl)).symm.trans h0_) (by decide), fun h0_ => absurd ((hoff 15 (by kernel_rfl)).symm.trans h0_) (by decide), fun _ _ h2_ => absurd ((up_self b 4).symm.trans h2_) (by decide), fun _ h1_ _ => ((Q_R141 h1_ (hoff 11 (by kernel_rfl))).ap_step (Q_P1 (hon 0 (by kernel_rfl)) h1_ hb_).symm hat).symm, Q_X10_, fun h0_ => absurd ((hoff 15 (by kernel_rfl)).symm.trans h0_) (by decide), fun h0_ => absurd ((hoff 16 (by kernel_rfl)).symm.trans h0_) (by decide)⟩
                        refine steps_cons ?_ ?_
                        · rintro b a w' ⟨v131, v135, A141, n141, c141, v142, A146, n146, c146, m10_, m15_, m16_, ha, Q_HBw, Q_GCq, Q_R131, Q_R135, Q_R141, Q_R142, Q_R146, Q_P1, Q_P2, Q_X10_, Q_X15_, Q_X16_⟩ hb_ hon hoff
                          refine ⟨_, rfl, fun K hK => ?_⟩
                          have e19 : a.tmps[19]? = some (.pointer (some ⟨g_Y, 0, none⟩)) := by rw [ha]; exact (putSel_off rfl).trans rfl
                          replace ha := Aside0.mk ha
                          refine value_ (w1 := w') (v := .pointer (some ⟨g_Y, 0, none⟩)) (by rfl) rfl ?_ ?_
                          · go_simp
                            try first | rfl | assumption
                          refine hK.out _ _ ⟨v131, v135, A141, n141, c141, v142, A146, n146, c146, m10_, m15_, m16_, (by rw [ha.out]; exact putSel_upk 5 hb_ rfl rfl rfl), Q_HBw, Q_GCq, Q_R131, Q_R135, fun h0_ _ => absurd ((hoff 10 (by kernel_rfl)).symm.trans h0_) (by decide), fun h0_ _ => absurd ((hoff 11 (by kernel_rfl)).symm.trans h0_) (by decide), fun h0_ => absurd ((hoff 15 (by kernel_rfl)).symm.trans h0_) (by decide), fun _ h1_ _ => absurd ((hoff 10 (by kernel_rfl)).symm.trans h1_) (by decide), fun _ h1_ _ => absurd ((hoff 10 (by kernel_rfl)).symm.trans h1_) (by decide), fun h0_ => absurd ((hoff 10 (by kernel_rfl)).symm.trans h0_) (by decide), fun h0_ => absurd ((hoff 15 (by kernel_rfl)).symm.trans h0_) (by decide), fun h0_ => absurd ((hoff 16 (by kernel_rfl)).symm.trans h0_) (by decide)⟩
                        refine steps_cons ?_ ?_
                        · rintro b a w' ⟨v131, v135, A141, n141, c141, v142, A146, n146, c146, m10_, m15_, m16_, ha, Q_HBw, Q_GCq, Q_R131, Q_R135, Q_R141, Q_R142, Q_R146, Q_P1, Q_P2, Q_X10_, Q_X15_, Q_X16_⟩ hb_ hon hoff
                          refine ⟨_, rfl, fun K hK => ?_⟩
                          have e136 : a.tmps[136]? = some (.pointer (some ⟨g_Y, 0, none⟩)) := by rw [ha]; exact putSel_on (e := (5, 136, .pointer (some ⟨g_Y, 0, none⟩))) 5 rfl rfl (hon 5 (by kernel_rfl)) rfl
                          replace ha := Aside0.mk ha
                          have GCq := Aside0.mk Q_GCq
                          have hc0 := blk_cell GCq.out 0
                          refine value_ (w1 := w') (v := .string x.nm) (by rfl) rfl ?_ ?_
                          · go_simp
                            try first | rfl | assumption
                          refine hK.out _ _ ⟨v131, v135, A141, n141, c141, v142, A146, n146, c146, m10_, m15_, m16_, (by rw [ha.out]; exact putSel_upk 6 hb_ rfl rfl rfl), Q_HBw, Q_GCq, Q_R131, Q_R135, fun h0_ _ => absurd ((hoff 10 (by kernel_rfl)).symm.trans h0_) (by decide), fun h0_ _ => absurd ((hoff 11 (by kernel_rfl)).symm.trans h0_) (by decide), fun h0_ => absurd ((hoff 15 (by kernel_rfl)).symm.trans h0_) (by decide), fun _ h1_ _ => absurd ((hoff 10 (by kernel_rfl)).symm.trans h1_) (by decide), fun _ h1_ _ => absurd ((hoff 10 (by kernel_rfl)).symm.trans h1_) (by decide), fun h0_ => absurd ((hoff 10 (by kernel_rfl)).symm.trans h0_) (by decide), fun h0_ => absurd ((hoff 15 (by kernel_rfl)).symm.trans h0_) (by decide), fun h0_ => absurd ((hoff 16 (by kernel_rfl)).symm.trans h0_) (by decide)⟩
                        refine steps_cons ?_ ?_
                        · rintro b a w' ⟨v131, v135, A141, n141, c141, v142, A146, n146, c146, m10_, m15_, m16_, ha, Q_HBw, Q_GCq, Q_R131, Q_R135, Q_R141, Q_R142, Q_R146, Q_P1, Q_P2, Q_X10_, Q_X15_, Q_X16_⟩ hb_ hon hoff
                          refine ⟨_, rfl, fun K hK => ?_⟩
                          have e19 : a.tmps[19]? = some (.pointer (some ⟨g_Y, 0, none⟩)) := by rw [ha]; exact (putSel_off rfl).trans rfl
                          replace ha := Aside0.mk ha
                          refine value_ (w1 := w') (v := .pointer (some ⟨g_Y, 2, none⟩)) (by rfl) rfl ?_ ?_
                          · go_simp
                            try first | rfl | assumption
                          refine hK.out _ _ ⟨v131, v135, A141, n141, c141, v142, A146, n146, c146, m10_, m15_, m16_, (by rw [ha.out]; exact putSel_upk 7 hb_ rfl rfl rfl), Q_HBw, Q_GCq, Q_R131, Q_R135, fun h0_ _ => absurd ((hoff 10 (by kernel_rfl)).symm.trans h0_) (by decide), fun h0_ _ => absurd ((hoff 11 (by kernel_rfl)).symm.trans h0_) (by decide), fun h0_ => absurd ((hoff 15 (by kernel_rfl)).symm.trans h0_) (by decide), fun _ h1_ _ => absurd ((hoff 10 (by kernel_rfl)).symm.trans h1_) (by decide), fun _ h1_ _ => absurd ((hoff 10 (by kernel_rfl)).symm.trans h1_) (by decide), fun h0_ => absurd ((hoff 10 (by kernel_rfl)).symm.trans h0_) (by decide), fun h0_ => absurd ((hoff 15 (by kernel_rfl)).symm.trans h0_) (by decide), fun h0_ => absurd ((hoff 16 (by kernel_rfl)).symm.trans h0_) (by decide)⟩
                        refine steps_cons ?_ ?_
                        · rintro b a w' ⟨v131, v135, A141, n141, c141, v142, A146, n146, c146, m10_, m15_, m16_, ha, Q_HBw, Q_GCq, Q_R131, Q_R135, Q_R141, Q_R142, Q_R146, Q_P1, Q_P2, Q_X10_, Q_X15_, Q_X16_⟩ hb_ hon hoff
                          refine ⟨_, rfl, fun K hK => ?_⟩
                          have e138 : a.tmps[138]? = some (.pointer (some ⟨g_Y, 2, none⟩)) := by rw [ha]; exact putSel_on (e := (7, 138, .pointer (some ⟨g_Y, 2, none⟩))) 7 rfl rfl (hon 7 (by kernel_rfl)) rfl
                          replace ha := Aside0.mk ha
                          have GCq := Aside0.mk Q_GCq
                          have hc0 := blk_cell GCq.out 2
                          refine value_ (w1 := w') (v := .slice x.A x.d.size x.c) (by rfl) rfl ?_ ?_
                          · go_simp
                            try first | rfl | assumption
                          refine hK.out _ _ ⟨v131, v135, A141, n141, c141, v142, A146, n146, c146, m10_, m15_, m16_, (by rw [ha.out]; exact putSel_upk 8 hb_ rfl rfl rfl), Q_HBw, Q_GCq, Q_R131, Q_R135, fun h0_ _ => absurd ((hoff 10 (by kernel_rfl)).symm.trans h0_) (by decide), fun h0_ _ => absurd ((hoff 11 (by kernel_rfl)).symm.trans h0_) (by decide), fun h0_ => absurd ((hoff 15 (by kernel_rfl)).symm.trans h0_) (by decide), fun _ h1_ _ => absurd ((hoff 10 (by kernel_rfl)).symm.trans h1_) (by decide), fun _ h1_ _ => absurd ((hoff 10 (by kernel_rfl)).symm.trans h1_) (by decide), fun h0_ => absurd ((hoff 10 (by kernel_rfl)).symm.trans h0_) (by decide), fun h0_ => absurd ((hoff 15 (by kernel_rfl)).symm.trans h0_) (by decide), fun h0_ => absurd ((hoff 16 (by kernel_rfl)).symm.trans h0_) (by decide)⟩
                        refine steps_cons ?_ ?_
                        · rintro b a w' ⟨v131, v135, A141, n141, c141, v142, A146, n146, c146, m10_, m15_, m16_, ha, Q_HBw, Q_GCq, Q_R131, Q_R135, Q_R141, Q_R142, Q_R146, Q_P1, Q_P2, Q_X10_, Q_X15_, Q_X16_⟩ hb_ hon hoff
                          refine ⟨_, rfl, fun K hK => ?_⟩
                          have e137 : a.tmps[137]? = some (.string x.nm) := by rw [ha]; exact putSel_on (e := (6, 137, .string x.nm)) 6 rfl rfl (hon 6 (by kernel_rfl)) rfl
                          have e139 : a.tmps[139]? = some (.slice x.A x.d.size x.c) := by rw [ha]; exact putSel_on (e := (8, 139, .slice x.A x.d.size x.c)) 8 rfl rfl (hon 8 (by kernel_rfl)) rfl
                          replace ha := Aside0.mk ha
                          refine value_ (w1 := w') (v := .agg #[.string x.nm, .slice x.A x.d.size x.c]) (by rfl) rfl ?_ ?_
                          · go_simp
                            try first | rfl | assumption
                          refine hK.out _ _ ⟨v131, v135, A141, n141, c141, v142, A146, n146, c146, m10_, m15_, m16_, (by rw [ha.out]; exact putSel_upk 9 hb_ rfl rfl rfl), Q_HBw, Q_GCq, Q_R131, Q_R135, fun h0_ _ => absurd ((hoff 10 (by kernel_rfl)).symm.trans h0_) (by decide), fun h0_ _ => absurd ((hoff 11 (by kernel_rfl)).symm.trans h0_) (by decide), fun h0_ => absurd ((hoff 15 (by kernel_rfl)).symm.trans h0_) (by decide), fun _ h1_ _ => absurd ((hoff 10 (by kernel_rfl)).symm.trans h1_) (by decide), fun _ h1_ _ => absurd ((hoff 10 (by kernel_rfl)).symm.trans h1_) (by decide), fun h0_ => absurd ((hoff 10 (by kernel_rfl)).symm.trans h0_) (by decide), fun h0_ => absurd ((hoff 15 (by kernel_rfl)).symm.trans h0_) (by decide), fun h0_ => absurd ((hoff 16 (by kernel_rfl)).symm.trans h0_) (by decide)⟩
                        refine steps_cons ?_ ?_
                        · rintro b a w' ⟨v131, v135, A141, n141, c141, v142, A146, n146, c146, m10_, m15_, m16_, ha, Q_HBw, Q_GCq, Q_R131, Q_R135, Q_R141, Q_R142, Q_R146, Q_P1, Q_P2, Q_X10_, Q_X15_, Q_X16_⟩ hb_ hon hoff
                          refine ⟨_, rfl, fun K hK => ?_⟩
                          have e140 : a.tmps[140]? = some (.agg #[.string x.nm, .slice x.A x.d.size x.c]) := by rw [ha]; exact putSel_on (e := (9, 140, .agg #[.string x.nm, .slice x.A x.d.size x.c])) 9 rfl rfl (hon 9 (by kernel_rfl)) rfl
                          replace ha := Aside0.mk ha
                          have HBw := Aside0.mk Q_HBw
                          have GCq := Aside0.mk Q_GCq
                          refine Kd.R_lit_step kF (w0 := wy) (xs := [wfe x]) (inner := [.string x.nm, .slice x.A x.d.size x.c]) (ok := fun _ => True) (okp := fun _ => False) wy.heap.size 48 (by rfl) rfl ?_ (reps_file _ _ _ (wfe x)) (fun _ h => h.elim) trivial HBw.out HBw.out.size (by simp) ?_
                          · go_simp
                          intro v1 w1 ho hb hg hat
                          obtain ⟨A9', n9', c9', rfl⟩ := RkH.slc ho
                          refine hK.out _ _ ⟨v131, v135, A9', n9', c9', v142, A146, n146, c146, (.slice A9' n9' c9'), m15_, m16_, (by rw [ha.out]; exact putSel_upk 10 hb_ rfl rfl rfl), hb, (hb_gr GCq.out hg), fun h0_ h1_ => (Q_R131 h0_ h1_).grown_none hg, fun h0_ h1_ => (Q_R135 h0_ h1_).grown_none hg, fun _ _ => Tg.of (d := kF) rfl ho, fun h0_ _ => absurd ((hoff 11 (by kernel_rfl)).symm.trans h0_) (by decide), fun h0_ => absurd ((hoff 15 (by kernel_rfl)).symm.trans h0_) (by decide), fun h0_ _ h2_ => (Q_R131 h0_ h2_).ap_right hat, fun h0_ _ h2_ => (Q_R135 h0_ h2_).ap_right hat, fun _ => rfl, fun h0_ => absurd ((hoff 15 (by kernel_rfl)).symm.trans h0_) (by decide), fun h0_ => absurd ((hoff 16 (by kernel_rfl)).symm.trans h0_) (by decide)⟩
                        refine steps_cons ?_ ?_
                        · rintro b a w' ⟨v131, v135, A141, n141, c141, v142, A146, n146, c146, m10_, m15_, m16_, ha, Q_HBw, Q_GCq, Q_R131, Q_R135, Q_R141, Q_R142, Q_R146, Q_P1, Q_P2, Q_X10_, Q_X15_, Q_X16_⟩ hb_ hon hoff
                          refine ⟨_, rfl, fun K hK => ?_⟩
                          have e135 : a.tmps[135]? = some (v135) := by rw [ha]; exact putSel_on (e := (4, 135, v135)) 4 rfl rfl (hon 4 (by kernel_rfl)) rfl
                          have e141 : a.tmps[141]? = some (m10_) := by rw [ha]; exact putSel_on (e := (10, 141, m10_)) 10 rfl rfl (hon 10 (by kernel_rfl)) rfl
                          rw [Q_X10_ (hon 10 (by kernel_rfl))] at e141
                          replace ha := Aside0.mk ha
                          have HBw := Aside0.mk Q_HBw
                          have GCq := Aside0.mk Q_GCq
                          have R135 := Aside0.mk (Q_R135 (hon 4 (by kernel_rfl)) hb_)
                          have R141 := Aside0.mk (Q_R141 (hon 10 (by kernel_rfl)) hb_)
                          refine Kd.R_append_rows_step kF (w0 := wy) wy.heap.size (by rfl) (.tmp 135) (.tmp 141) 30 48 (.agg #[.string ⟨#[]⟩, .slice none 0 0]) 40 rfl Try.underlying30 info_file rfl (by decide) (by omega) v135 (NX.take t) [wfe x] A141 n141 c141 (fun _ => True) (fun _ => False) (eval_of e135) (eval_of e141) R135.out.any (tg_C R141.out).2.2 (fun _ _ h => h) (fun _ h => h.elim) (fun _ _ => trivial) HBw.out HBw.out.size (by have h1_ := (tg_C R141.out).1; rw [List.length_singleton] at h1_; rw [List.length_take]; omega) ?_
                          intro v1 w1 ho hb hg hat
                          refine hK.out _ _ ⟨v131, v135, A141, n141, c141, v1, A146, n146, c146, m10_, m15_, m16_, (by rw [ha.out]; exact putSel_upk 11 hb_ rfl rfl rfl), hb, (hb_own GCq.out hg (Kd.R_base R135.out) HGq.out), fun _ h1_ => absurd ((hon 4 (by kernel_rfl)).symm.trans h1_) (by decide), fun _ h1_ => absurd ((up_self b 11).symm.trans h1_) (by decide), fun _ h1_ => absurd ((up_self b 11).symm.trans h1_) (by decide), fun _ _ => Tg.of (d := kF) rfl ho, fun h0_ => absurd ((hoff 15 (by kernel_rfl)).symm.trans h0_) (by decide), fun _ _ h2_ => absurd ((hon 4 (by kernel_rfl)).symm.trans h2_) (by decide), fun _ _ h2_ => absurd ((up_self b 11).symm.trans h2_) (by decide), Q_X10_, fun h0_ => absurd ((hoff 15 (by kernel_rfl)).symm.trans h0_) (by decide), fun h0_ => absurd ((hoff 16 (by kernel_rfl)).symm.trans h0_) (by decide)⟩
                        refine steps_cons ?_ ?_
                        · rintro b a w' ⟨v131, v135, A141, n141, c141, v142, A146, n146, c146, m10_, m15_, m16_, ha, Q_HBw, Q_GCq, Q_R131, Q_R135, Q_R141, Q_R142, Q_R146, Q_P1, Q_P2, Q_X10_, Q_X15_, Q_X16_⟩ hb_ hon hoff
                          refine ⟨_, rfl, fun K hK => ?_⟩
                          have e20 : a.tmps[20]? = some (.slice (some av) nv cv) := by rw [ha]; exact (putSel_not (hoff 16 (by kernel_rfl)) rfl).trans rfl
                          replace ha := Aside0.mk ha
                          refine value_ (w1 := w') (v := .slice (some av) nv cv) (by rfl) rfl ?_ ?_
                          · go_simp
                            try first | rfl | assumption
                          refine hK.out _ _ ⟨v131, v135, A141, n141, c141, v142, A146, n146, c146, m10_, m15_, m16_, (by rw [ha.out]; exact putSel_upk 12 hb_ rfl rfl rfl), Q_HBw, Q_GCq, Q_R131, Q_R135, Q_R141, Q_R142, fun h0_ => absurd ((hoff 15 (by kernel_rfl)).symm.trans h0_) (by decide), Q_P1, Q_P2, Q_X10_, fun h0_ => absurd ((hoff 15 (by kernel_rfl)).symm.trans h0_) (by decide), fun h0_ => absurd ((hoff 16 (by kernel_rfl)).symm.trans h0_) (by decide)⟩
                        refine steps_cons ?_ ?_
                        · rintro b a w' ⟨v131, v135, A141, n141, c141, v142, A146, n146, c146, m10_, m15_, m16_, ha, Q_HBw, Q_GCq, Q_R131, Q_R135, Q_R141, Q_R142, Q_R146, Q_P1, Q_P2, Q_X10_, Q_X15_, Q_X16_⟩ hb_ hon hoff
                          refine ⟨_, rfl, fun K hK => ?_⟩
                          have e23 : a.tmps[23]? = some (.int .i64 (t : Int)) := by rw [ha]; exact (putSel_off rfl).trans rfl
                          replace ha := Aside0.mk ha
                          refine value_ (w1 := w') (v := .int .i64 (t : Int)) (by rfl) rfl ?_ ?_
                          · go_simp
                            (try simp only [i64_w])
                            try first | rfl | assumption
                          refine hK.out _ _ ⟨v131, v135, A141, n141, c141, v142, A146, n146, c146, m10_, m15_, m16_, (by rw [ha.out]; exact putSel_upk 13 hb_ rfl rfl rfl), Q_HBw, Q_GCq, Q_R131, Q_R135, Q_R141, Q_R142, fun h0_ => absurd ((hoff 15 (by kernel_rfl)).symm.trans h0_) (by decide), Q_P1, Q_P2, Q_X10_, fun h0_ => absurd ((hoff 15 (by kernel_rfl)).symm.trans h0_) (by decide), fun h0_ => absurd ((hoff 16 (by kernel_rfl)).symm.trans h0_) (by decide)⟩
                        refine steps_cons ?_ ?_
                        · rintro b a w' ⟨v131, v135, A141, n141, c141, v142, A146, n146, c146, m10_, m15_, m16_, ha, Q_HBw, Q_GCq, Q_R131, Q_R135, Q_R141, Q_R142, Q_R146, Q_P1, Q_P2, Q_X10_, Q_X15_, Q_X16_⟩ hb_ hon hoff
                          refine ⟨_, rfl, fun K hK => ?_⟩
                          have e143 : a.tmps[143]? = some (.slice (some av) nv cv) := by rw [ha]; exact putSel_on (e := (12, 143, .slice (some av) nv cv)) 12 rfl rfl (hon 12 (by kernel_rfl)) rfl
                          have e144 : a.tmps[144]? = some (.int .i64 (t : Int)) := by rw [ha]; exact putSel_on (e := (13, 144, .int .i64 (t : Int))) 13 rfl rfl (hon 13 (by kernel_rfl)) rfl
                          replace ha := Aside0.mk ha
                          refine value_ (w1 := w') (v := .slice A5 n5 c5) (by rfl) rfl ?_ ?_
                          · go_simp
                            try first | rfl | assumption
                          refine hK.out _ _ ⟨v131, v135, A141, n141, c141, v142, A146, n146, c146, m10_, m15_, m16_, (by rw [ha.out]; exact putSel_upk 14 hb_ rfl rfl rfl), Q_HBw, Q_GCq, Q_R131, Q_R135, Q_R141, Q_R142, fun h0_ => absurd ((hoff 15 (by kernel_rfl)).symm.trans h0_) (by decide), Q_P1, Q_P2, Q_X10_, fun h0_ => absurd ((hoff 15 (by kernel_rfl)).symm.trans h0_) (by decide), fun h0_ => absurd ((hoff 16 (by kernel_rfl)).symm.trans h0_) (by decide)⟩
                        refine steps_cons ?_ ?_
                        · rintro b a w' ⟨v131, v135, A141, n141, c141, v142, A146, n146, c146, m10_, m15_, m16_, ha, Q_HBw, Q_GCq, Q_R131, Q_R135, Q_R141, Q_R142, Q_R146, Q_P1, Q_P2, Q_X10_, Q_X15_, Q_X16_⟩ hb_ hon hoff
                          refine ⟨_, rfl, fun K hK => ?_⟩
                          have e142 : a.tmps[142]? = some (v142) := by rw [ha]; exact putSel_on (e := (11, 142, v142)) 11 rfl rfl (hon 11 (by kernel_rfl)) rfl
                          have e145 : a.tmps[145]? = some (.slice A5 n5 c5) := by rw [ha]; exact putSel_on (e := (14, 145, .slice A5 n5 c5)) 14 rfl rfl (hon 14 (by kernel_rfl)) rfl
                          replace ha := Aside0.mk ha
                          have HBw := Aside0.mk Q_HBw
                          have GCq := Aside0.mk Q_GCq
                          have R142 := Aside0.mk (Q_R142 (hon 11 (by kernel_rfl)) hb_)
                          refine Kd.R_append_rows_step kF (w0 := wy) wy.heap.size (by rfl) (.tmp 142) (.tmp 145) 30 48 (.agg #[.string ⟨#[]⟩, .slice none 0 0]) 40 rfl Try.underlying30 info_file rfl (by decide) (by omega) v142 (NX.take t ++ [wfe x]) (NX.drop t) A5 n5 c5 (fun _ => True) (fun _ => False) (eval_of e142) (eval_of e145) R142.out.any (Kd.C_below HD5.out HBw.out) (fun _ _ h => h) (fun _ h => h.elim) (fun _ _ => trivial) HBw.out HBw.out.size (by have h1_ := Hm5.out; rw [List.length_drop] at h1_; have := HNl.out; rw [List.length_append, List.length_take, List.length_singleton]; omega) ?_
                          intro v1 w1 ho hb hg hat
                          obtain ⟨A9', n9', c9', rfl⟩ := RkH.slc ho
                          refine hK.out _ _ ⟨v131, v135, A141, n141, c141, v142, A9', n9', c9', m10_, (.slice A9' n9' c9'), m16_, (by rw [ha.out]; exact putSel_upk 15 hb_ rfl rfl rfl), hb, (hb_own GCq.out hg (Kd.R_base R142.out) HGq.out), fun _ h1_ => absurd ((hon 4 (by kernel_rfl)).symm.trans h1_) (by decide), fun _ h1_ => absurd ((hon 11 (by kernel_rfl)).symm.trans h1_) (by decide), fun _ h1_ => absurd ((hon 11 (by kernel_rfl)).symm.trans h1_) (by decide), fun _ h1_ => absurd ((up_self b 15).symm.trans h1_) (by decide), fun _ => Tg.of (d := kF) rfl ho, fun _ _ h2_ => absurd ((hon 4 (by kernel_rfl)).symm.trans h2_) (by decide), fun _ _ h2_ => absurd ((hon 11 (by kernel_rfl)).symm.trans h2_) (by decide), Q_X10_, fun _ => rfl, fun h0_ => absurd ((hoff 16 (by kernel_rfl)).symm.trans h0_) (by decide)⟩
                        refine steps_cons ?_ ?_
                        · rintro b a w' ⟨v131, v135, A141, n141, c141, v142, A146, n146, c146, m10_, m15_, m16_, ha, Q_HBw, Q_GCq, Q_R131, Q_R135, Q_R141, Q_R142, Q_R146, Q_P1, Q_P2, Q_X10_, Q_X15_, Q_X16_⟩ hb_ hon hoff
                          refine ⟨_, rfl, fun K hK => ?_⟩
                          have e146 : a.tmps[146]? = some (m15_) := by rw [ha]; exact putSel_on (e := (15, 146, m15_)) 15 rfl rfl (hon 15 (by kernel_rfl)) rfl
                          rw [Q_X15_ (hon 15 (by kernel_rfl))] at e146
                          replace ha := Aside0.mk ha
                          refine value_ (w1 := w') (v := .slice A146 n146 c146) (by rfl) rfl ?_ ?_
                          · go_simp
                            try first | rfl | assumption
                          refine hK.out _ _ ⟨v131, v135, A141, n141, c141, v142, A146, n146, c146, m10_, m15_, (.slice A146 n146 c146), (by rw [ha.out]; exact putSel_upk 16 hb_ rfl rfl rfl), Q_HBw, Q_GCq, fun _ h1_ => absurd ((hon 4 (by kernel_rfl)).symm.trans h1_) (by decide), fun _ h1_ => absurd ((hon 11 (by kernel_rfl)).symm.trans h1_) (by decide), fun _ h1_ => absurd ((hon 11 (by kernel_rfl)).symm.trans h1_) (by decide), fun _ h1_ => absurd ((hon 15 (by kernel_rfl)).symm.trans h1_) (by decide), Q_R146, fun _ _ h2_ => absurd ((hon 4 (by kernel_rfl)).symm.trans h2_) (by decide), fun _ _ h2_ => absurd ((hon 11 (by kernel_rfl)).symm.trans h2_) (by decide), Q_X10_, Q_X15_, fun _ => rfl⟩
                        exact steps_nil
                      rintro b a w_8 hall ⟨v131, v135, A141, n141, c141, v142, A146, n146, c146, m10_, m15_, m16_, ha, Q_HBw, Q_GCq, Q_R131, Q_R135, Q_R141, Q_R142, Q_R146, Q_P1, Q_P2, Q_X10_, Q_X15_, Q_X16_⟩
                      clear GCq HBw
                      have hb0_ := hall 0 (by kernel_rfl)
                      have hb1_ := hall 1 (by kernel_rfl)
                      have hb2_ := hall 2 (by kernel_rfl)
                      have hb3_ := hall 3 (by kernel_rfl)
                      have hb4_ := hall 4 (by kernel_rfl)
                      have hb5_ := hall 5 (by kernel_rfl)
                      have hb6_ := hall 6 (by kernel_rfl)
                      have hb7_ := hall 7 (by kernel_rfl)
                      have hb8_ := hall 8 (by kernel_rfl)
                      have hb9_ := hall 9 (by kernel_rfl)
                      have hb10_ := hall 10 (by kernel_rfl)
                      have hb11_ := hall 11 (by kernel_rfl)
                      have hb12_ := hall 12 (by kernel_rfl)
                      have hb13_ := hall 13 (by kernel_rfl)
                      have hb14_ := hall 14 (by kernel_rfl)
                      have hb15_ := hall 15 (by kernel_rfl)
                      have hb16_ := hall 16 (by kernel_rfl)
                      subst ha
                      obtain rfl := Q_X10_ hb10_
                      obtain rfl := Q_X15_ hb15_
                      obtain rfl := Q_X16_ hb16_
                      simp only [putSel, hb0_, hb1_, hb2_, hb3_, hb4_, hb5_, hb6_, hb7_, hb8_, hb9_, hb10_, hb11_, hb12_, hb13_, hb14_, hb15_, hb16_, if_true, Act.put, List.setIfInBounds_toArray, List.set_cons_zero, List.set_cons_succ]
                      have HBw := Aside0.mk Q_HBw
                      clear Q_HBw
                      have GCq := Aside0.mk Q_GCq
                      clear Q_GCq
                      clear Q_R131
                      clear Q_R135
                      clear Q_R141
                      clear Q_R142
                      have R146 := Aside0.mk (Q_R146 hb15_)
                      clear Q_R146
                      clear Q_P1
                      clear Q_P2
                      clear hall hb0_ hb1_ hb2_ hb3_ hb4_ hb5_ hb6_ hb7_ hb8_ hb9_ hb10_ hb11_ hb12_ hb13_ hb14_ hb15_ hb16_
                      have HN9 := Aside0.mk (show NAt w8 w_8 (.slice A146 n146 c146) fs7 ls2 (k + 1) from ⟨by
                        rw [HPut.out, ← HPos.out]
                        exact Kd.R_lower R146.out.any (Nat.le_trans HBf.out.size HBq.out.size), HBf.out.trans ((HBq.out.trans (HBw.out.mono HBq.out.size)).mono HBf.out.size)⟩)
                      clear R146 hto2 hcut5
                      go_wp2_with fail
                      go_roundw
                      case rel => exact ⟨k + 1, _, by omega, by go_num, rfl, HN9⟩
                      case measure => simp [intOf]; omega
                  · have HPos := Aside0.mk (show t = posF x.nm NX by have := HCw.out.1; omega)
                    have hdt : decide ((t : Int) < (nv : Int)) = false := decide_eq_false (by omega)
                    clear hpl
                    go_upto_region 23 with fail
                    repeat (go_quiet (fail); try go_wp2)
                    have HBq : Aside0 (Below wf.heap.size wf (wr.drewN nq)) := ⟨pw_below_drewN HBy.out nq⟩
                    have GCq : Aside0 ((wr.drewN nq).heap[g_Y]? = some (.cells #[.string x.nm, .bool x.cut, .slice x.A x.d.size x.c] 64 (0, 0))) := ⟨GCy.out⟩
                    clear HBy GCy gc0
                    generalize wr.drewN nq = wy at *
                    have hkl : t ≤ nv := by omega
                    have HGq := Aside0.mk (show g_Y < wy.heap.size from Nat.lt_of_lt_of_le HGY.out HBq.out.size)
                    obtain ⟨hto2, Hm6, HD6⟩ := to_F Av nv cv NX t HCw.out.1 (HCwC.out wy HBq.out) HCw.out.2 hkl
                    obtain ⟨A5, n5, c5, hcut5, Hm5, Hd5, HD5⟩ := cut_F Av nv cv NX t HCw.out.1 (HCwC.out wy HBq.out) HCw.out.2 hkl
                    have HBw := Aside0.mk (Below.refl wy.heap.size wy)
                    have hk0 : (t : Int) ≤ 200 := by have := HCw.out; have := HNl.out; omega
                    go_upto_region 25 with fail
                    refine start_ (n := 17) (S := fun w' => True) (ds := []) #[false, false, false, false, false, false, false, false, false, false, false, false, false, false, false, false, false] (by kernel_rfl) rfl rfl trivial (fun hHeld => ?_)
                    refine with_tabW t_mailsacklaw14_SafeAll.tab25 t_mailsacklaw14_SafeAll.bits25 (fun HT_ HW_ => ?_)
                    have hd_ := (below_drew1 (Below.refl wy.heap.size wy))
                    have n_HBw := Aside0.mk (HBw.out.trans (hd_.mono HBw.out.size))
                    have n_GCq := Aside0.mk ((show wy.drew.heap[g_Y]? = _ from GCq.out))
                    clear HBw
                    have HBw := n_HBw
                    clear n_HBw
                    clear GCq
                    have GCq := n_GCq
                    clear n_GCq
                    generalize wy.drew = w_d at *
                    clear hd_
                    refine inv_at [0, 1, 2, 3, 4, 5, 6, 7, 8, 9, 10, 11, 12, 13, 14, 15, 16] (fun a0_ b a w' => ∃ (v131 : Value) (v135 : Value) (A141 : Option Addr) (n141 : Nat) (c141 : Nat) (v142 : Value) (A146 : Option Addr) (n146 : Nat) (c146 : Nat) (m10_ : Value) (m15_ : Value) (m16_ : Value), a = putSel a0_ b [(0, 131, v131), (1, 132, .slice Av nv cv), (2, 133, .int .i64 (t : Int)), (3, 134, .slice Av t cv), (4, 135, v135), (5, 136, .pointer (some ⟨g_Y, 0, none⟩)), (6, 137, .string x.nm), (7, 138, .pointer (some ⟨g_Y, 2, none⟩)), (8, 139, .slice x.A x.d.size x.c), (9, 140, .agg #[.string x.nm, .slice x.A x.d.size x.c]), (10, 141, m10_), (11, 142, v142), (12, 143, .slice Av nv cv), (13, 144, .int .i64 (t : Int)), (14, 145, .slice A5 n5 c5), (15, 146, m15_), (16, 20, m16_)] ∧ (Below wy.heap.size wy w') ∧ (w'.heap[g_Y]? = some (.cells #[.string x.nm, .bool x.cut, .slice x.A x.d.size x.c] 64 (0, 0))) ∧ (b 0 = true → b 4 = false → Tg kF 48 w' wy.heap.size v131 []) ∧ (b 4 = true → b 11 = false → Tg kF 48 w' wy.heap.size v135 (NX.take t)) ∧ (b 10 = true → b 11 = false → Tg kF 48 w' wy.heap.size (.slice A141 n141 c141) [wfe x]) ∧ (b 11 = true → b 15 = false → Tg kF 48 w' wy.heap.size v142 (NX.take t ++ [wfe x])) ∧ (b 15 = true → Tg kF 48 w' wy.heap.size (.slice A146 n146 c146) (NX.take t ++ [wfe x] ++ NX.drop t)) ∧ (b 0 = true → b 10 = true → b 4 = false → AP v131 (.slice A141 n141 c141)) ∧ (b 4 = true → b 10 = true → b 11 = false → AP v135 (.slice A141 n141 c141)) ∧ (b 10 = true → (m10_ : Value) = .slice A141 n141 c141) ∧ (b 15 = true → (m15_ : Value) = .slice A146 n146 c146) ∧ (b 16 = true → (m16_ : Value) = .slice A146 n146 c146)) HT_.out HW_.out (by kernel_rfl) (by kernel_rfl) ?_ ?_ ?_
                    · exact ⟨.slice none 0 0, .slice none 0 0, none, 0, 0, .slice none 0 0, none, 0, 0, .bool false, .bool false, .bool false, by simp only [putSel, Bool.false_eq_true, if_false], HBw.out, GCq.out, fun h_ => absurd h_ (by decide), fun h_ => absurd h_ (by decide), fun h_ => absurd h_ (by decide), fun h_ => absurd h_ (by decide), fun h_ => absurd h_ (by decide), fun h_ => absurd h_ (by decide), fun h_ => absurd h_ (by decide), fun h_ => absurd h_ (by decide), fun h_ => absurd h_ (by decide), fun h_ => absurd h_ (by decide)⟩
                    · skip
                      clear GCq HBw
                      refine steps_cons ?_ ?_
                      · rintro b a w' ⟨v131, v135, A141, n141, c141, v142, A146, n146, c146, m10_, m15_, m16_, ha, Q_HBw, Q_GCq, Q_R131, Q_R135, Q_R141, Q_R142, Q_R146, Q_P1, Q_P2, Q_X10_, Q_X15_, Q_X16_⟩ hb_ hon hoff
                        refine ⟨_, rfl, fun K hK => ?_⟩
                        replace ha := Aside0.mk ha
                        have HBw := Aside0.mk Q_HBw
                        have GCq := Aside0.mk Q_GCq
                        refine Kd.R_lit_step kF (w0 := wy) (xs := []) (inner := []) (ok := fun _ => True) (okp := fun _ => False) wy.heap.size 48 (by rfl) rfl ?_ ⟨rfl, fun j p h => by simp at h⟩ (fun _ h => h.elim) trivial HBw.out HBw.out.size (by decide) ?_
                        · go_simp
                        intro v1 w1 ho hb hg hat
                        refine hK.out _ _ ⟨v1, v135, A141, n141, c141, v142, A146, n146, c146, m10_, m15_, m16_, (by rw [ha.out]; exact putSel_upk 0 hb_ rfl rfl rfl), hb, (hb_gr GCq.out hg), fun _ _ => Tg.of (d := kF) rfl ho, fun h0_ _ => absurd ((hoff 4 (by kernel_rfl)).symm.trans h0_) (by decide), fun h0_ h1_ => (Q_R141 h0_ h1_).grown_none hg, fun h0_ _ => absurd ((hoff 11 (by kernel_rfl)).symm.trans h0_) (by decide), fun h0_ => absurd ((hoff 15 (by kernel_rfl)).symm.trans h0_) (by decide), fun _ h1_ _ => ((Q_R141 h1_ (hoff 11 (by kernel_rfl))).ap_right hat).symm, fun h0_ _ _ => absurd ((hoff 4 (by kernel_rfl)).symm.trans h0_) (by decide), Q_X10_, fun h0_ => absurd ((hoff 15 (by kernel_rfl)).symm.trans h0_) (by decide), fun h0_ => absurd ((hoff 16 (by kernel_rfl)).symm.trans h0_) (by decide)⟩
                      refine steps_cons ?_ ?_
                      · rintro b a w' ⟨v131, v135, A141, n141, c141, v142, A146, n146, c146, m10_, m15_, m16_, ha, Q_HBw, Q_GCq, Q_R131, Q_R135, Q_R141, Q_R142, Q_R146, Q_P1, Q_P2, Q_X10_, Q_X15_, Q_X16_⟩ hb_ hon hoff
                        refine ⟨_, rfl, fun K hK => ?_⟩
                        have e20 : a.tmps[20]? = some (.slice Av nv cv) := by rw [ha]; exact (putSel_not (hoff 16 (by kernel_rfl)) rfl).trans rfl
                        replace ha := Aside0.mk ha
                        refine value_ (w1 := w') (v := .slice Av nv cv) (by rfl) rfl ?_ ?_
                        · go_simp
                          try first | rfl | assumption
                        refine hK.out _ _ ⟨v131, v135, A141, n141, c141, v142, A146, n146, c146, m10_, m15_, m16_, (by rw [ha.out]; exact putSel_upk 1 hb_ rfl rfl rfl), Q_HBw, Q_GCq, Q_R131, fun h0_ _ => absurd ((hoff 4 (by kernel_rfl)).symm.trans h0_) (by decide), Q_R141, fun h0_ _ => absurd ((hoff 11 (by kernel_rfl)).symm.trans h0_) (by decide), fun h0_ => absurd ((hoff 15 (by kernel_rfl)).symm.trans h0_) (by decide), Q_P1, fun h0_ _ _ => absurd ((hoff 4 (by kernel_rfl)).symm.trans h0_) (by decide), Q_X10_, fun h0_ => absurd ((hoff 15 (by kernel_rfl)).symm.trans h0_) (by decide), fun h0_ => absurd ((hoff 16 (by kernel_rfl)).symm.trans h0_) (by decide)⟩
                      refine steps_cons ?_ ?_
                      · rintro b a w' ⟨v131, v135, A141, n141, c141, v142, A146, n146, c146, m10_, m15_, m16_, ha, Q_HBw, Q_GCq, Q_R131, Q_R135, Q_R141, Q_R142, Q_R146, Q_P1, Q_P2, Q_X10_, Q_X15_, Q_X16_⟩ hb_ hon hoff
                        refine ⟨_, rfl, fun K hK => ?_⟩
                        have e23 : a.tmps[23]? = some (.int .i64 (t : Int)) := by rw [ha]; exact (putSel_off rfl).trans rfl
                        replace ha := Aside0.mk ha
                        refine value_ (w1 := w') (v := .int .i64 (t : Int)) (by rfl) rfl ?_ ?_
                        · go_simp
                          (try simp only [i64_w])
                          try first | rfl | assumption
                        refine hK.out _ _ ⟨v131, v135, A141, n141, c141, v142, A146, n146, c146, m10_, m15_, m16_, (by rw [ha.out]; exact putSel_upk 2 hb_ rfl rfl rfl), Q_HBw, Q_GCq, Q_R131, fun h0_ _ => absurd ((hoff 4 (by kernel_rfl)).symm.trans h0_) (by decide), Q_R141, fun h0_ _ => absurd ((hoff 11 (by kernel_rfl)).symm.trans h0_) (by decide), fun h0_ => absurd ((hoff 15 (by kernel_rfl)).symm.trans h0_) (by decide), Q_P1, fun h0_ _ _ => absurd ((hoff 4 (by kernel_rfl)).symm.trans h0_) (by decide), Q_X10_, fun h0_ => absurd ((hoff 15 (by kernel_rfl)).symm.trans h0_) (by decide), fun h0_ => absurd ((hoff 16 (by kernel_rfl)).symm.trans h0_) (by decide)⟩
                      refine steps_cons ?_ ?_
                      · rintro b a w' ⟨v131, v135, A141, n141, c141, v142, A146, n146, c146, m10_, m15_, m16_, ha, Q_HBw, Q_GCq, Q_R131, Q_R135, Q_R141, Q_R142, Q_R146, Q_P1, Q_P2, Q_X10_, Q_X15_, Q_X16_⟩ hb_ hon hoff
                        refine ⟨_, rfl, fun K hK => ?_⟩
                        have e132 : a.tmps[132]? = some (.slice Av nv cv) := by rw [ha]; exact putSel_on (e := (1, 132, .slice Av nv cv)) 1 rfl rfl (hon 1 (by kernel_rfl)) rfl
                        have e133 : a.tmps[133]? = some (.int .i64 (t : Int)) := by rw [ha]; exact putSel_on (e := (2, 133, .int .i64 (t : Int))) 2 rfl rfl (hon 2 (by kernel_rfl)) rfl
                        replace ha := Aside0.mk ha
                        refine value_ (w1 := w') (v := .slice Av t cv) (by rfl) rfl ?_ ?_
                        · go_simp
                          try first | rfl | assumption
                        refine hK.out _ _ ⟨v131, v135, A141, n141, c141, v142, A146, n146, c146, m10_, m15_, m16_, (by rw [ha.out]; exact putSel_upk 3 hb_ rfl rfl rfl), Q_HBw, Q_GCq, Q_R131, fun h0_ _ => absurd ((hoff 4 (by kernel_rfl)).symm.trans h0_) (by decide), Q_R141, fun h0_ _ => absurd ((hoff 11 (by kernel_rfl)).symm.trans h0_) (by decide), fun h0_ => absurd ((hoff 15 (by kernel_rfl)).symm.trans h0_) (by decide), Q_P1, fun h0_ _ _ => absurd ((hoff 4 (by kernel_rfl)).symm.trans h0_) (by decide), Q_X10_, fun h0_ => absurd ((hoff 15 (by kernel_rfl)).symm.trans h0_) (by decide), fun h0_ => absurd ((hoff 16 (by kernel_rfl)).symm.trans h0_) (by decide)⟩
                      refine steps_cons ?_ ?_
                      · rintro b a w' ⟨v131, v135, A141, n141, c141, v142, A146, n146, c146, m10_, m15_, m16_, ha, Q_HBw, Q_GCq, Q_R131, Q_R135, Q_R141, Q_R142, Q_R146, Q_P1, Q_P2, Q_X10_, Q_X15_, Q_X16_⟩ hb_ hon hoff
                        refine ⟨_, rfl, fun K hK => ?_⟩
                        have e131 : a.tmps[131]? = some (v131) := by rw [ha]; exact putSel_on (e := (0, 131, v131)) 0 rfl rfl (hon 0 (by kernel_rfl)) rfl
                        have e134 : a.tmps[134]? = some (.slice Av t cv) := by rw [ha]; exact putSel_on (e := (3, 134, .slice Av t cv)) 3 rfl rfl (hon 3 (by kernel_rfl)) rfl
                        replace ha := Aside0.mk ha
                        have HBw := Aside0.mk Q_HBw
                        have GCq := Aside0.mk Q_GCq
                        have R131 := Aside0.mk (Q_R131 (hon 0 (by kernel_rfl)) hb_)
                        refine Kd.R_append_rows_step kF (w0 := wy) wy.heap.size (by rfl) (.tmp 131) (.tmp 134) 30 48 (.agg #[.string ⟨#[]⟩, .slice none 0 0]) 40 rfl Try.underlying30 info_file rfl (by decide) (by omega) v131 ([]) (NX.take t) Av t cv (fun _ => True) (fun _ => False) (eval_of e131) (eval_of e134) R131.out.any (Kd.C_below HD6.out HBw.out) (fun _ _ h => h) (fun _ h => h.elim) (fun _ _ => trivial) HBw.out HBw.out.size (by simp only [List.length_nil]; omega) ?_
                        intro v1 w1 ho hb hg hat
                        refine hK.out _ _ ⟨v131, v1, A141, n141, c141, v142, A146, n146, c146, m10_, m15_, m16_, (by rw [ha.out]; exact putSel_upk 4 hb_ rfl rfl rfl), hb, (hb_own GCq.out hg (Kd.R_base R131.out) HGq.out), fun _ h1_ => absurd ((up_self b 4).symm.trans h1_) (by decide), fun _ _ => Tg.of (d := kF) rfl ho, fun h0_ h1_ => (Q_R141 h0_ h1_).grown hg (Q_P1 (hon 0 (by kernel_rfl)) h0_ hb_).symm, fun h0_ _ => absurd ((hoff 11 (by kernel_rfl)).symm.trans h0_) (by decide), fun h0_ => absurd ((hoff 15 (by kernel_rfl)).symm.trans h0_) (by decide), fun _ _ h2_ => absurd ((up_self b 4).symm.trans h2_) (by decide), fun _ h1_ _ => ((Q_R141 h1_ (hoff 11 (by kernel_rfl))).ap_step (Q_P1 (hon 0 (by kernel_rfl)) h1_ hb_).symm hat).symm, Q_X10_, fun h0_ => absurd ((hoff 15 (by kernel_rfl)).symm.trans h0_) (by decide), fun h0_ => absurd ((hoff 16 (by kernel_rfl)).symm.trans h0_) (by decide)⟩
                      refine steps_cons ?_ ?_
                      · rintro b a w' ⟨v131, v135, A141, n141, c141, v142, A146, n146, c146, m10_, m15_, m16_, ha, Q_HBw, Q_GCq, Q_R131, Q_R135, Q_R141, Q_R142, Q_R146, Q_P1, Q_P2, Q_X10_, Q_X15_, Q_X16_⟩ hb_ hon hoff
                        refine ⟨_, rfl, fun K hK => ?_⟩
                        have e19 : a.tmps[19]? = some (.pointer (some ⟨g_Y, 0, none⟩)) := by rw [ha]; exact (putSel_off rfl).trans rfl
                        replace ha := Aside0.mk ha
                        refine value_ (w1 := w') (v := .pointer (some ⟨g_Y, 0, none⟩)) (by rfl) rfl ?_ ?_
                        · go_simp
                          try first | rfl | assumption
                        refine hK.out _ _ ⟨v131, v135, A141, n141, c141, v142, A146, n146, c146, m10_, m15_, m16_, (by rw [ha.out]; exact putSel_upk 5 hb_ rfl rfl rfl), Q_HBw, Q_GCq, Q_R131, Q_R135, fun h0_ _ => absurd ((hoff 10 (by kernel_rfl)).symm.trans h0_) (by decide), fun h0_ _ => absurd ((hoff 11 (by kernel_rfl)).symm.trans h0_) (by decide), fun h0_ => absurd ((hoff 15 (by kernel_rfl)).symm.trans h0_) (by decide), fun _ h1_ _ => absurd ((hoff 10 (by kernel_rfl)).symm.trans h1_) (by decide), fun _ h1_ _ => absurd ((hoff 10 (by kernel_rfl)).symm.trans h1_) (by decide), fun h0_ => absurd ((hoff 10 (by kernel_rfl)).symm.trans h0_) (by decide), fun h0_ => absurd ((hoff 15 (by kernel_rfl)).symm.trans h0_) (by decide), fun h0_ => absurd ((hoff 16 (by kernel_rfl)).symm.trans h0_) (by decide)⟩
                      refine steps_cons ?_ ?_
                      · rintro b a w' ⟨v131, v135, A141, n141, c141, v142, A146, n146, c146, m10_, m15_, m16_, ha, Q_HBw, Q_GCq, Q_R131, Q_R135, Q_R141, Q_R142, Q_R146, Q_P1, Q_P2, Q_X10_, Q_X15_, Q_X16_⟩ hb_ hon hoff
                        refine ⟨_, rfl, fun K hK => ?_⟩
                        have e136 : a.tmps[136]? = some (.pointer (some ⟨g_Y, 0, none⟩)) := by rw [ha]; exact putSel_on (e := (5, 136, .pointer (some ⟨g_Y, 0, none⟩))) 5 rfl rfl (hon 5 (by kernel_rfl)) rfl
                        replace ha := Aside0.mk ha
                        have GCq := Aside0.mk Q_GCq
                        have hc0 := blk_cell GCq.out 0
                        refine value_ (w1 := w') (v := .string x.nm) (by rfl) rfl ?_ ?_
                        · go_simp
                          try first | rfl | assumption
                        refine hK.out _ _ ⟨v131, v135, A141, n141, c141, v142, A146, n146, c146, m10_, m15_, m16_, (by rw [ha.out]; exact putSel_upk 6 hb_ rfl rfl rfl), Q_HBw, Q_GCq, Q_R131, Q_R135, fun h0_ _ => absurd ((hoff 10 (by kernel_rfl)).symm.trans h0_) (by decide), fun h0_ _ => absurd ((hoff 11 (by kernel_rfl)).symm.trans h0_) (by decide), fun h0_ => absurd ((hoff 15 (by kernel_rfl)).symm.trans h0_) (by decide), fun _ h1_ _ => absurd ((hoff 10 (by kernel_rfl)).symm.trans h1_) (by decide), fun _ h1_ _ => absurd ((hoff 10 (by kernel_rfl)).symm.trans h1_) (by decide), fun h0_ => absurd ((hoff 10 (by kernel_rfl)).symm.trans h0_) (by decide), fun h0_ => absurd ((hoff 15 (by kernel_rfl)).symm.trans h0_) (by decide), fun h0_ => absurd ((hoff 16 (by kernel_rfl)).symm.trans h0_) (by decide)⟩
                      refine steps_cons ?_ ?_
                      · rintro b a w' ⟨v131, v135, A141, n141, c141, v142, A146, n146, c146, m10_, m15_, m16_, ha, Q_HBw, Q_GCq, Q_R131, Q_R135, Q_R141, Q_R142, Q_R146, Q_P1, Q_P2, Q_X10_, Q_X15_, Q_X16_⟩ hb_ hon hoff
                        refine ⟨_, rfl, fun K hK => ?_⟩
                        have e19 : a.tmps[19]? = some (.pointer (some ⟨g_Y, 0, none⟩)) := by rw [ha]; exact (putSel_off rfl).trans rfl
                        replace ha := Aside0.mk ha
                        refine value_ (w1 := w') (v := .pointer (some ⟨g_Y, 2, none⟩)) (by rfl) rfl ?_ ?_
                        · go_simp
                          try first | rfl | assumption
                        refine hK.out _ _ ⟨v131, v135, A141, n141, c141, v142, A146, n146, c146, m10_, m15_, m16_, (by rw [ha.out]; exact putSel_upk 7 hb_ rfl rfl rfl), Q_HBw, Q_GCq, Q_R131, Q_R135, fun h0_ _ => absurd ((hoff 10 (by kernel_rfl)).symm.trans h0_) (by decide), fun h0_ _ => absurd ((hoff 11 (by kernel_rfl)).symm.trans h0_) (by decide), fun h0_ => absurd ((hoff 15 (by kernel_rfl)).symm.trans h0_) (by decide), fun _ h1_ _ => absurd ((hoff 10 (by kernel_rfl)).symm.trans h1_) (by decide), fun _ h1_ _ => absurd ((hoff 10 (by kernel_rfl)).symm.trans h1_) (by decide), fun h0_ => absurd ((hoff 10 (by kernel_rfl)).symm.trans h0_) (by decide), fun h0_ => absurd ((hoff 15 (by kernel_rfl)).symm.trans h0_) (by decide), fun h0_ => absurd ((hoff 16 (by kernel_rfl)).symm.trans h0_) (by decide)⟩
                      refine steps_cons ?_ ?_
                      · rintro b a w' ⟨v131, v135, A141, n141, c141, v142, A146, n146, c146, m10_, m15_, m16_, ha, Q_HBw, Q_GCq, Q_R131, Q_R135, Q_R141, Q_R142, Q_R146, Q_P1, Q_P2, Q_X10_, Q_X15_, Q_X16_⟩ hb_ hon hoff
                        refine ⟨_, rfl, fun K hK => ?_⟩
                        have e138 : a.tmps[138]? = some (.pointer (some ⟨g_Y, 2, none⟩)) := by rw [ha]; exact putSel_on (e := (7, 138, .pointer (some ⟨g_Y, 2, none⟩))) 7 rfl rfl (hon 7 (by kernel_rfl)) rfl
                        replace ha := Aside0.mk ha
                        have GCq := Aside0.mk Q_GCq
                        have hc0 := blk_cell GCq.out 2
                        refine value_ (w1 := w') (v := .slice x.A x.d.size x.c) (by rfl) rfl ?_ ?_
                        · go_simp
                          try first | rfl | assumption
                        refine hK.out _ _ ⟨v131, v135, A141, n141, c141, v142, A146, n146, c146, m10_, m15_, m16_, (by rw [ha.out]; exact putSel_upk 8 hb_ rfl rfl rfl), Q_HBw, Q_GCq, Q_R131, Q_R135, fun h0_ _ => absurd ((hoff 10 (by kernel_rfl)).symm.trans h0_) (by decide), fun h0_ _ => absurd ((hoff 11 (by kernel_rfl)).symm.trans h0_) (by decide), fun h0_ => absurd ((hoff 15 (by kernel_rfl)).symm.trans h0_) (by decide), fun _ h1_ _ => absurd ((hoff 10 (by kernel_rfl)).symm.trans h1_) (by decide), fun _ h1_ _ => absurd ((hoff 10 (by kernel_rfl)).symm.trans h1_) (by decide), fun h0_ => absurd ((hoff 10 (by kernel_rfl)).symm.trans h0_) (by decide), fun h0_ => absurd ((hoff 15 (by kernel_rfl)).symm.trans h0_) (by decide), fun h0_ => absurd ((hoff 16 (by kernel_rfl)).symm.trans h0_) (by decide)⟩
                      refine steps_cons ?_ ?_
                      · rintro b a w' ⟨v131, v135, A141, n141, c141, v142, A146, n146, c146, m10_, m15_, m16_, ha, Q_HBw, Q_GCq, Q_R131, Q_R135, Q_R141, Q_R142, Q_R146, Q_P1, Q_P2, Q_X10_, Q_X15_, Q_X16_⟩ hb_ hon hoff
                        refine ⟨_, rfl, fun K hK => ?_⟩
                        have e137 : a.tmps[137]? = some (.string x.nm) := by rw [ha]; exact putSel_on (e := (6, 137, .string x.nm)) 6 rfl rfl (hon 6 (by kernel_rfl)) rfl
                        have e139 : a.tmps[139]? = some (.slice x.A x.d.size x.c) := by rw [ha]; exact putSel_on (e := (8, 139, .slice x.A x.d.size x.c)) 8 rfl rfl (hon 8 (by kernel_rfl)) rfl
                        replace ha := Aside0.mk ha
                        refine value_ (w1 := w') (v := .agg #[.string x.nm, .slice x.A x.d.size x.c]) (by rfl) rfl ?_ ?_
                        · go_simp
                          try first | rfl | assumption
                        refine hK.out _ _ ⟨v131, v135, A141, n141, c141, v142, A146, n146, c146, m10_, m15_, m16_, (by rw [ha.out]; exact putSel_upk 9 hb_ rfl rfl rfl), Q_HBw, Q_GCq, Q_R131, Q_R135, fun h0_ _ => absurd ((hoff 10 (by kernel_rfl)).symm.trans h0_) (by decide), fun h0_ _ => absurd ((hoff 11 (by kernel_rfl)).symm.trans h0_) (by decide), fun h0_ => absurd ((hoff 15 (by kernel_rfl)).symm.trans h0_) (by decide), fun _ h1_ _ => absurd ((hoff 10 (by kernel_rfl)).symm.trans h1_) (by decide), fun _ h1_ _ => absurd ((hoff 10 (by kernel_rfl)).symm.trans h1_) (by decide), fun h0_ => absurd ((hoff 10 (by kernel_rfl)).symm.trans h0_) (by decide), fun h0_ => absurd ((hoff 15 (by kernel_rfl)).symm.trans h0_) (by decide), fun h0_ => absurd ((hoff 16 (by kernel_rfl)).symm.trans h0_) (by decide)⟩
                      refine steps_cons ?_ ?_
                      · rintro b a w' ⟨v131, v135, A141, n141, c141, v142, A146, n146, c146, m10_, m15_, m16_, ha, Q_HBw, Q_GCq, Q_R131, Q_R135, Q_R141, Q_R142, Q_R146, Q_P1, Q_P2, Q_X10_, Q_X15_, Q_X16_⟩ hb_ hon hoff
                        refine ⟨_, rfl, fun K hK => ?_⟩
                        have e140 : a.tmps[140]? = some (.agg #[.string x.nm, .slice x.A x.d.size x.c]) := by rw [ha]; exact putSel_on (e := (9, 140, .agg #[.string x.nm, .slice x.A x.d.size x.c])) 9 rfl rfl (hon 9 (by kernel_rfl)) rfl
                        replace ha := Aside0.mk ha
                        have HBw := Aside0.mk Q_HBw
                        have GCq := Aside0.mk Q_GCq
                        refine Kd.R_lit_step kF (w0 := wy) (xs := [wfe x]) (inner := [.string x.nm, .slice x.A x.d.size x.c]) (ok := fun _ => True) (okp := fun _ => False) wy.heap.size 48 (by rfl) rfl ?_ (reps_file _ _ _ (wfe x)) (fun _ h => h.elim) trivial HBw.out HBw.out.size (by simp) ?_
                        · go_simp
                        intro v1 w1 ho hb hg hat
                        obtain ⟨A9', n9', c9', rfl⟩ := RkH.slc ho
                        refine hK.out _ _ ⟨v131, v135, A9', n9', c9', v142, A146, n146, c146, (.slice A9' n9' c9'), m15_, m16_, (by rw [ha.out]; exact putSel_upk 10 hb_ rfl rfl rfl), hb, (hb_gr GCq.out hg), fun h0_ h1_ => (Q_R131 h0_ h1_).grown_none hg, fun h0_ h1_ => (Q_R135 h0_ h1_).grown_none hg, fun _ _ => Tg.of (d := kF) rfl ho, fun h0_ _ => absurd ((hoff 11 (by kernel_rfl)).symm.trans h0_) (by decide), fun h0_ => absurd ((hoff 15 (by kernel_rfl)).symm.trans h0_) (by decide), fun h0_ _ h2_ => (Q_R131 h0_ h2_).ap_right hat, fun h0_ _ h2_ => (Q_R135 h0_ h2_).ap_right hat, fun _ => rfl, fun h0_ => absurd ((hoff 15 (by kernel_rfl)).symm.trans h0_) (by decide), fun h0_ => absurd ((hoff 16 (by kernel_rfl)).symm.trans h0_) (by decide)⟩
                      refine steps_cons ?_ ?_
                      · rintro b a w' ⟨v131, v135, A141, n141, c141, v142, A146, n146, c146, m10_, m15_, m16_, ha, Q_HBw, Q_GCq, Q_R131, Q_R135, Q_R141, Q_R142, Q_R146, Q_P1, Q_P2, Q_X10_, Q_X15_, Q_X16_⟩ hb_ hon hoff
                        refine ⟨_, rfl, fun K hK => ?_⟩
                        have e135 : a.tmps[135]? = some (v135) := by rw [ha]; exact putSel_on (e := (4, 135, v135)) 4 rfl rfl (hon 4 (by kernel_rfl)) rfl
                        have e141 : a.tmps[141]? = some (m10_) := by rw [ha]; exact putSel_on (e := (10, 141, m10_)) 10 rfl rfl (hon 10 (by kernel_rfl)) rfl
                        rw [Q_X10_ (hon 10 (by kernel_rfl))] at e141
                        replace ha := Aside0.mk ha
                        have HBw := Aside0.mk Q_HBw
                        have GCq := Aside0.mk Q_GCq
                        have R135 := Aside0.mk (Q_R135 (hon 4 (by kernel_rfl)) hb_)
                        have R141 := Aside0.mk (Q_R141 (hon 10 (by kernel_rfl)) hb_)
                        refine Kd.R_append_rows_step kF (w0 := wy) wy.heap.size (by rfl) (.tmp 135) (.tmp 141) 30 48 (.agg #[.string ⟨#[]⟩, .slice none 0 0]) 40 rfl Try.underlying30 info_file rfl (by decide) (by omega) v135 (NX.take t) [wfe x] A141 n141 c141 (fun _ => True) (fun _ => False) (eval_of e135) (eval_of e141) R135.out.any (tg_C R141.out).2.2 (fun _ _ h => h) (fun _ h => h.elim) (fun _ _ => trivial) HBw.out HBw.out.size (by have h1_ := (tg_C R141.out).1; rw [List.length_singleton] at h1_; rw [List.length_take]; omega) ?_
                        intro v1 w1 ho hb hg hat
                        refine hK.out _ _ ⟨v131, v135, A141, n141, c141, v1, A146, n146, c146, m10_, m15_, m16_, (by rw [ha.out]; exact putSel_upk 11 hb_ rfl rfl rfl), hb, (hb_own GCq.out hg (Kd.R_base R135.out) HGq.out), fun _ h1_ => absurd ((hon 4 (by kernel_rfl)).symm.trans h1_) (by decide), fun _ h1_ => absurd ((up_self b 11).symm.trans h1_) (by decide), fun _ h1_ => absurd ((up_self b 11).symm.trans h1_) (by decide), fun _ _ => Tg.of (d := kF) rfl ho, fun h0_ => absurd ((hoff 15 (by kernel_rfl)).symm.trans h0_) (by decide), fun _ _ h2_ => absurd ((hon 4 (by kernel_rfl)).symm.trans h2_) (by decide), fun _ _ h2_ => absurd ((up_self b 11).symm.trans h2_) (by decide), Q_X10_, fun h0_ => absurd ((hoff 15 (by kernel_rfl)).symm.trans h0_) (by decide), fun h0_ => absurd ((hoff 16 (by kernel_rfl)).symm.trans h0_) (by decide)⟩
                      refine steps_cons ?_ ?_
                      · rintro b a w' ⟨v131, v135, A141, n141, c141, v142, A146, n146, c146, m10_, m15_, m16_, ha, Q_HBw, Q_GCq, Q_R131, Q_R135, Q_R141, Q_R142, Q_R146, Q_P1, Q_P2, Q_X10_, Q_X15_, Q_X16_⟩ hb_ hon hoff
                        refine ⟨_, rfl, fun K hK => ?_⟩
                        have e20 : a.tmps[20]? = some (.slice Av nv cv) := by rw [ha]; exact (putSel_not (hoff 16 (by kernel_rfl)) rfl).trans rfl
                        replace ha := Aside0.mk ha
                        refine value_ (w1 := w') (v := .slice Av nv cv) (by rfl) rfl ?_ ?_
                        · go_simp
                          try first | rfl | assumption
                        refine hK.out _ _ ⟨v131, v135, A141, n141, c141, v142, A146, n146, c146, m10_, m15_, m16_, (by rw [ha.out]; exact putSel_upk 12 hb_ rfl rfl rfl), Q_HBw, Q_GCq, Q_R131, Q_R135, Q_R141, Q_R142, fun h0_ => absurd ((hoff 15 (by kernel_rfl)).symm.trans h0_) (by decide), Q_P1, Q_P2, Q_X10_, fun h0_ => absurd ((hoff 15 (by kernel_rfl)).symm.trans h0_) (by decide), fun h0_ => absurd ((hoff 16 (by kernel_rfl)).symm.trans h0_) (by decide)⟩
                      refine steps_cons ?_ ?_
                      · rintro b a w' ⟨v131, v135, A141, n141, c141, v142, A146, n146, c146, m10_, m15_, m16_, ha, Q_HBw, Q_GCq, Q_R131, Q_R135, Q_R141, Q_R142, Q_R146, Q_P1, Q_P2, Q_X10_, Q_X15_, Q_X16_⟩ hb_ hon hoff
                        refine ⟨_, rfl, fun K hK => ?_⟩
                        have e23 : a.tmps[23]? = some (.int .i64 (t : Int)) := by rw [ha]; exact (putSel_off rfl).trans rfl
                        replace ha := Aside0.mk ha
                        refine value_ (w1 := w') (v := .int .i64 (t : Int)) (by rfl) rfl ?_ ?_
                        · go_simp
                          (try simp only [i64_w])
                          try first | rfl | assumption
                        refine hK.out _ _ ⟨v131, v135, A141, n141, c141, v142, A146, n146, c146, m10_, m15_, m16_, (by rw [ha.out]; exact putSel_upk 13 hb_ rfl rfl rfl), Q_HBw, Q_GCq, Q_R131, Q_R135, Q_R141, Q_R142, fun h0_ => absurd ((hoff 15 (by kernel_rfl)).symm.trans h0_) (by decide), Q_P1, Q_P2, Q_X10_, fun h0_ => absurd ((hoff 15 (by kernel_rfl)).symm.trans h0_) (by decide), fun h0_ => absurd ((hoff 16 (by kernel_rfl)).symm.trans h0_) (by decide)⟩
                      refine steps_cons ?_ ?_
                      · rintro b a w' ⟨v131, v135, A141, n141, c141, v142, A146, n146, c146, m10_, m15_, m16_, ha, Q_HBw, Q_GCq, Q_R131, Q_R135, Q_R141, Q_R142, Q_R146, Q_P1, Q_P2, Q_X10_, Q_X15_, Q_X16_⟩ hb_ hon hoff
                        refine ⟨_, rfl, fun K hK => ?_⟩
                        have e143 : a.tmps[143]? = some (.slice Av nv cv) := by rw [ha]; exact putSel_on (e := (12, 143, .slice Av nv cv)) 12 rfl rfl (hon 12 (by kernel_rfl)) rfl
                        have e144 : a.tmps[144]? = some (.int .i64 (t : Int)) := by rw [ha]; exact putSel_on (e := (13, 144, .int .i64 (t : Int))) 13 rfl rfl (hon 13 (by kernel_rfl)) rfl
                        replace ha := Aside0.mk ha
                        refine value_ (w1 := w') (v := .slice A5 n5 c5) (by rfl) rfl ?_ ?_
                        · go_simp
                          try first | rfl | assumption
                        refine hK.out _ _ ⟨v131, v135, A141, n141, c141, v142, A146, n146, c146, m10_, m15_, m16_, (by rw [ha.out]; exact putSel_upk 14 hb_ rfl rfl rfl), Q_HBw, Q_GCq, Q_R131, Q_R135, Q_R141, Q_R142, fun h0_ => absurd ((hoff 15 (by kernel_rfl)).symm.trans h0_) (by decide), Q_P1, Q_P2, Q_X10_, fun h0_ => absurd ((hoff 15 (by kernel_rfl)).symm.trans h0_) (by decide), fun h0_ => absurd ((hoff 16 (by kernel_rfl)).symm.trans h0_) (by decide)⟩
                      refine steps_cons ?_ ?_
                      · rintro b a w' ⟨v131, v135, A141, n141, c141, v142, A146, n146, c146, m10_, m15_, m16_, ha, Q_HBw, Q_GCq, Q_R131, Q_R135, Q_R141, Q_R142, Q_R146, Q_P1, Q_P2, Q_X10_, Q_X15_, Q_X16_⟩ hb_ hon hoff
                        refine ⟨_, rfl, fun K hK => ?_⟩
                        have e142 : a.tmps[142]? = some (v142) := by rw [ha]; exact putSel_on (e := (11, 142, v142)) 11 rfl rfl (hon 11 (by kernel_rfl)) rfl
                        have e145 : a.tmps[145]? = some (.slice A5 n5 c5) := by rw [ha]; exact putSel_on (e := (14, 145, .slice A5 n5 c5)) 14 rfl rfl (hon 14 (by kernel_rfl)) rfl
                        replace ha := Aside0.mk ha
                        have HBw := Aside0.mk Q_HBw
                        have GCq := Aside0.mk Q_GCq
                        have R142 := Aside0.mk (Q_R142 (hon 11 (by kernel_rfl)) hb_)
                        refine Kd.R_append_rows_step kF (w0 := wy) wy.heap.size (by rfl) (.tmp 142) (.tmp 145) 30 48 (.agg #[.string ⟨#[]⟩, .slice none 0 0]) 40 rfl Try.underlying30 info_file rfl (by decide) (by omega) v142 (NX.take t ++ [wfe x]) (NX.drop t) A5 n5 c5 (fun _ => True) (fun _ => False) (eval_of e142) (eval_of e145) R142.out.any (Kd.C_below HD5.out HBw.out) (fun _ _ h => h) (fun _ h => h.elim) (fun _ _ => trivial) HBw.out HBw.out.size (by have h1_ := Hm5.out; rw [List.length_drop] at h1_; have := HNl.out; rw [List.length_append, List.length_take, List.length_singleton]; omega) ?_
                        intro v1 w1 ho hb hg hat
                        obtain ⟨A9', n9', c9', rfl⟩ := RkH.slc ho
                        refine hK.out _ _ ⟨v131, v135, A141, n141, c141, v142, A9', n9', c9', m10_, (.slice A9' n9' c9'), m16_, (by rw [ha.out]; exact putSel_upk 15 hb_ rfl rfl rfl), hb, (hb_own GCq.out hg (Kd.R_base R142.out) HGq.out), fun _ h1_ => absurd ((hon 4 (by kernel_rfl)).symm.trans h1_) (by decide), fun _ h1_ => absurd ((hon 11 (by kernel_rfl)).symm.trans h1_) (by decide), fun _ h1_ => absurd ((hon 11 (by kernel_rfl)).symm.trans h1_) (by decide), fun _ h1_ => absurd ((up_self b 15).symm.trans h1_) (by decide), fun _ => Tg.of (d := kF) rfl ho, fun _ _ h2_ => absurd ((hon 4 (by kernel_rfl)).symm.trans h2_) (by decide), fun _ _ h2_ => absurd ((hon 11 (by kernel_rfl)).symm.trans h2_) (by decide), Q_X10_, fun _ => rfl, fun h0_ => absurd ((hoff 16 (by kernel_rfl)).symm.trans h0_) (by decide)⟩
                      refine steps_cons ?_ ?_
                      · rintro b a w' ⟨v131, v135, A141, n141, c141, v142, A146, n146, c146, m10_, m15_, m16_, ha, Q_HBw, Q_GCq, Q_R131, Q_R135, Q_R141, Q_R142, Q_R146, Q_P1, Q_P2, Q_X10_, Q_X15_, Q_X16_⟩ hb_ hon hoff
                        refine ⟨_, rfl, fun K hK => ?_⟩
                        have e146 : a.tmps[146]? = some (m15_) := by rw [ha]; exact putSel_on (e := (15, 146, m15_)) 15 rfl rfl (hon 15 (by kernel_rfl)) rfl
                        rw [Q_X15_ (hon 15 (by kernel_rfl))] at e146
                        replace ha := Aside0.mk ha
                        refine value_ (w1 := w') (v := .slice A146 n146 c146) (by rfl) rfl ?_ ?_
                        · go_simp
                          try first | rfl | assumption
                        refine hK.out _ _ ⟨v131, v135, A141, n141, c141, v142, A146, n146, c146, m10_, m15_, (.slice A146 n146 c146), (by rw [ha.out]; exact putSel_upk 16 hb_ rfl rfl rfl), Q_HBw, Q_GCq, fun _ h1_ => absurd ((hon 4 (by kernel_rfl)).symm.trans h1_) (by decide), fun _ h1_ => absurd ((hon 11 (by kernel_rfl)).symm.trans h1_) (by decide), fun _ h1_ => absurd ((hon 11 (by kernel_rfl)).symm.trans h1_) (by decide), fun _ h1_ => absurd ((hon 15 (by kernel_rfl)).symm.trans h1_) (by decide), Q_R146, fun _ _ h2_ => absurd ((hon 4 (by kernel_rfl)).symm.trans h2_) (by decide), fun _ _ h2_ => absurd ((hon 11 (by kernel_rfl)).symm.trans h2_) (by decide), Q_X10_, Q_X15_, fun _ => rfl⟩
                      exact steps_nil
                    rintro b a w_8 hall ⟨v131, v135, A141, n141, c141, v142, A146, n146, c146, m10_, m15_, m16_, ha, Q_HBw, Q_GCq, Q_R131, Q_R135, Q_R141, Q_R142, Q_R146, Q_P1, Q_P2, Q_X10_, Q_X15_, Q_X16_⟩
                    clear GCq HBw
                    have hb0_ := hall 0 (by kernel_rfl)
                    have hb1_ := hall 1 (by kernel_rfl)
                    have hb2_ := hall 2 (by kernel_rfl)
                    have hb3_ := hall 3 (by kernel_rfl)
                    have hb4_ := hall 4 (by kernel_rfl)
                    have hb5_ := hall 5 (by kernel_rfl)
                    have hb6_ := hall 6 (by kernel_rfl)
                    have hb7_ := hall 7 (by kernel_rfl)
                    have hb8_ := hall 8 (by kernel_rfl)
                    have hb9_ := hall 9 (by kernel_rfl)
                    have hb10_ := hall 10 (by kernel_rfl)
                    have hb11_ := hall 11 (by kernel_rfl)
                    have hb12_ := hall 12 (by kernel_rfl)
                    have hb13_ := hall 13 (by kernel_rfl)
                    have hb14_ := hall 14 (by kernel_rfl)
                    have hb15_ := hall 15 (by kernel_rfl)
                    have hb16_ := hall 16 (by kernel_rfl)
                    subst ha
                    obtain rfl := Q_X10_ hb10_
                    obtain rfl := Q_X15_ hb15_
                    obtain rfl := Q_X16_ hb16_
                    simp only [putSel, hb0_, hb1_, hb2_, hb3_, hb4_, hb5_, hb6_, hb7_, hb8_, hb9_, hb10_, hb11_, hb12_, hb13_, hb14_, hb15_, hb16_, if_true, Act.put, List.setIfInBounds_toArray, List.set_cons_zero, List.set_cons_succ]
                    have HBw := Aside0.mk Q_HBw
                    clear Q_HBw
                    have GCq := Aside0.mk Q_GCq
                    clear Q_GCq
                    clear Q_R131
                    clear Q_R135
                    clear Q_R141
                    clear Q_R142
                    have R146 := Aside0.mk (Q_R146 hb15_)
                    clear Q_R146
                    clear Q_P1
                    clear Q_P2
                    clear hall hb0_ hb1_ hb2_ hb3_ hb4_ hb5_ hb6_ hb7_ hb8_ hb9_ hb10_ hb11_ hb12_ hb13_ hb14_ hb15_ hb16_
                    have HN9 := Aside0.mk (show NAt w8 w_8 (.slice A146 n146 c146) fs7 ls2 (k + 1) from ⟨by
                      rw [HPut.out, ← HPos.out]
                      exact Kd.R_lower R146.out.any (Nat.le_trans HBf.out.size HBq.out.size), HBf.out.trans ((HBq.out.trans (HBw.out.mono HBq.out.size)).mono HBf.out.size)⟩)
                    clear R146 hto2 hcut5
                    go_wp2_with fail
                    go_roundw
                    case rel => exact ⟨k + 1, _, by omega, by go_num, rfl, HN9⟩
                    case measure => simp [intOf]; omega
        · obtain rfl : k = n2 := by omega
          obtain ⟨X, hX1, hX2, hX3⟩ := HF8.out.cl
          have HCl8 := Aside0.mk hX1
          have HCo := Aside0.mk (show Com 1000000 X L2 (rdK L2) by
            have h1 := fits_com HF8.out.free.2.1 HF8.out.free.1 (HFt2.out.trans HFz2.out)
            rw [hX1.ns, hX1.rm] at h1
            exact h1)
          obtain ⟨FW, hFW⟩ : ∃ FW, doAll fs7 (ls2.take k) = FW := ⟨_, rfl⟩
          have HWk := Aside0.mk (show FW.map keyD = wantK X L2 by
            rw [← hFW, ← HN2.out, List.take_length, doAll_key, HK7.out, hX1.ss, HLk2.out])
          have HXk := Aside0.mk (show fs7.map keyD = X by rw [HK7.out, hX1.ss])
          have HZ8 := Aside0.mk (show ZAt w wr g r5 Aw7 nw7 fs7 Au nu FW from ⟨HF8.out.ra.below HNt.out.bel, HWa.out.below HNt.out.bel, wa_row (hFW ▸ HNt.out.row) HNt.out.bel HSl.out (hFW ▸ HDa.out k)⟩)
          have HS8 := Aside0.mk (HF8.out.sa.below HNt.out.bel)
          have HB8 := Aside0.mk HF8.out.bd
          have HFr := Aside0.mk HF8.out.free.1
          clear hX1 hX2 hX3 hFW HNt HF8 HWa hlt hk hf21 hf22 hf23 HChX HDa HLa HSl
          go_upto_region 33 with (first
            | (go_at_call 21; have HMx := HZ8.out; refine (fuse_calls w g r5 _ (z : Int) HZ8.out.ra (by omega)).mono ?_; clear HMx; intro e_ w9 hp; obtain ⟨rfl, hs⟩ := fuse_step hp; obtain ⟨r9, he9, hz9, hk9, hS9⟩ := HZ8.out.step2 hs; have HZ9 := Aside0.mk hz9; have HS9 := Aside0.mk (HS8.out.kept hk9 (fun _ h => h) hS9); have HC9 := Aside0.mk (show Cln 1000000 X (abs r9) by rw [he9]; exact cln_fuse HCl8.out _); have HB9 := Aside0.mk (show Bd (abs r9) 100 by rw [he9]; exact HB8.out.fuse _); have HFt9 := Aside0.mk (show fitsK (abs r9) L2 = 0 by rw [he9]; exact HFt2.out.trans HFz2.out); clear hp hs he9 hz9 hk9 hS9 HZ8 HS8 HB8; skip)
            | (go_at_call 48; have HMx := HZ9.out; refine (show Calls Try.prog 48 #[.pointer (some ⟨q, 0, none⟩), .slice A2 k c2] w9 (CommitP w w9 g r9 L2) from (by have h_ := commit_calls w q g r9 w9 A2 c2 ls2 100 HZ9.out.ra HS9.out (by rw [HN2.out]; exact chg_at HC2.out HD2.out HZ9.out.ra.bel (S_ge HZ9.out.ra)) (by rw [HN2.out]; exact HCc2.out) (by have := HL2.out.1; omega) HB9.out (by have := HM2.out; have := HN2.out; omega) (fun _ => by rw [HC9.out.ns]; exact HCo.out.free) (fun x hx => by have := HL2.out.2.2 x hx; omega); rwa [HLk2.out, HN2.out] at h_)).mono ?_; clear HMx; intro e_ w10 hp; obtain ⟨he10, hs⟩ := hp; rw [HFt9.out] at he10 hs; obtain ⟨d, hd⟩ : ∃ d, (commitE (abs r9) L2 (rdK L2) 0).1 = d := ⟨_, rfl⟩; rw [hd] at he10; subst he10; have HD := Aside0.mk hd; obtain ⟨r10, he10, hz10⟩ := HZ9.out.step hs; have HZ10 := Aside0.mk hz10; have HE10 := Aside0.mk he10; have HB10 := Aside0.mk (show Bd (abs r10) 200 by rw [he10]; exact (Bd.commit HB9.out L2 _ _).more (by have := HLn2.out; have := HM2.out; omega)); clear hs hd he10 hz10 HZ9 HS9 HB9; skip)
            | (go_at_call 19; have HMx := HZ10.out; refine (crash_calls w g r10 p Ap cp _ HZ10.out.ra (Kd.C_below HPk.out.2 HZ10.out.ra.bel) HPk.out.1 (fun ad e h0 hs => by subst e; have h1_ := Kd.C_lt HPk.out.2 h0 (by decide); have h2_ := S_ge HZ10.out.ra _ hs; omega) (by have := HB10.out.r; omega) (by have := HB10.out.r; omega)).mono ?_; clear HMx; intro e_ w11 hp; obtain ⟨rfl, hs⟩ := crash_step hp; obtain ⟨r11, he_, hz_⟩ := HZ10.out.step hs; have HZ11 := Aside0.mk hz_; obtain ⟨X11, h1, h2, h3, h4, h5⟩ := commit_crash HCo.out HC9.out p; rw [← HE10.out, ← he_] at h2 h3; rw [HD.out] at h4 h5; have HM11 := Aside0.mk (And.intro h1 h4); have HC11 := Aside0.mk h2; have HDv := Aside0.mk h5; have HB11 := Aside0.mk (show Bd (abs r11) 200 by rw [he_]; exact HB10.out.crash p); clear h1 h2 h3 h4 h5 HE10 HD HC9; clear hp hs he_ hz_ HZ10 HB10; skip)
            | (go_at_call 21; have HMx := HZ11.out; refine (fuse_calls w g r11 _ (z' : Int) HZ11.out.ra (by omega)).mono ?_; clear HMx; intro e_ w12 hp; obtain ⟨rfl, hs⟩ := fuse_step hp; obtain ⟨r12, he12, hz12⟩ := HZ11.out.step hs; have HZ12 := Aside0.mk hz12; have HC12 := Aside0.mk (show Cln 1000000 X11 (abs r12) by rw [he12]; exact cln_fuse HC11.out _); have HB12 := Aside0.mk (show Bd (abs r12) 200 by rw [he12]; exact HB11.out.fuse _); clear hp hs he12 hz12 HZ11 HC11 HB11; skip)
            | (go_at_call 46; have HMx := HZ12.out; refine (open_calls w g r12 _ 200 L2.length HZ12.out.ra HB12.out (by have := HLn2.out; have := HM2.out; omega) (mid_redo HCo.out HM11.out.1 HC12.out.ns)).mono ?_; clear HMx; intro e_ w13 hp; obtain ⟨ve, he, hs⟩ := open_any hp; obtain ⟨fv, hfv⟩ : ∃ fv, (openE pfB (abs r12)).1 = fv := ⟨_, rfl⟩; rw [hfv] at he; subst he; obtain ⟨h1, X14, h2⟩ := open_crash HCo.out HM11.out.1 HC12.out m; rw [hfv] at h1; have HFv := Aside0.mk h1; have HO13 := Aside0.mk h2; obtain ⟨r13, he13, hz13⟩ := HZ12.out.step hs; have HZ13 := Aside0.mk hz13; have HE13 := Aside0.mk he13; have HB13 := Aside0.mk (show Bd (abs r13) 300 by rw [he13]; exact (Bd.openz HB12.out (mid_redo HCo.out HM11.out.1 HC12.out.ns)).more (by have := HLn2.out; have := HM2.out; omega)); clear hp hs hfv h1 h2 he13 hz13 HZ12 HB12; skip))
          rcases HFv.out with hf0 | hf5
          · have hg1 : (fv == 0) = true := by rw [hf0]; rfl
            have hg2 : decide (fv = 0) = true := decide_eq_true hf0
            have hg3 : (fv != 0) = false := by rw [hf0]; rfl
            clear hf0
            rcases HDv.out with hd0 | hd5
            · have hi1 : (d == 0) = true := by rw [hd0]; rfl
              have hi2 : decide (d = 0) = true := decide_eq_true hd0
              have HD0 := Aside0.mk hd0
              clear hd0
              go_upto_region 40 with (first
                | (go_at_call 19; have HMx := HZ13.out; refine (crash_calls w g r13 m Am cm _ HZ13.out.ra (Kd.C_below HMo.out.2 HZ13.out.ra.bel) HMo.out.1 (fun ad e h0 hs => by subst e; have h1_ := Kd.C_lt HMo.out.2 h0 (by decide); have h2_ := S_ge HZ13.out.ra _ hs; omega) (by have := HB13.out.r; omega) (by have := HB13.out.r; omega)).mono ?_; clear HMx; intro e_ w14 hp; obtain ⟨rfl, hs⟩ := crash_step hp; obtain ⟨r14, he_, hz_⟩ := HZ13.out.step hs; have HZ14 := Aside0.mk hz_; obtain ⟨h1, h2, h3, h4⟩ := HO13.out; rw [← HE13.out, ← he_] at h2 h3; have HM14 := Aside0.mk (And.intro h1 h4); have HC14 := Aside0.mk h2; have HO14 := Aside0.mk (open_on HCo.out h1 h2 h3); have HB14 := Aside0.mk (show Bd (abs r14) 300 by rw [he_]; exact HB13.out.crash m); clear h1 h2 h3 h4 HE13; clear hp hs he_ hz_ HZ13 HB13; skip)
                | (go_at_call 46; have HMx := HZ14.out; refine (open_calls w g r14 _ 300 L2.length HZ14.out.ra HB14.out (by have := HLn2.out; have := HM2.out; omega) (mid_redo HCo.out HM14.out.1 HC14.out.ns)).mono ?_; clear HMx; intro e_ w15 hp; obtain ⟨h1, _, X15, h2, h3, h4, _⟩ := HO14.out; obtain ⟨q15, rfl, _, r15, hR, he15, hk15, hS15, _⟩ := opened hp (pair_eq h1); have HZ15 := Aside0.mk (show ZAt w w15 g r15 Aw7 nw7 fs7 Au nu FW from ⟨hR, HZ14.out.w1.kept hk15 (fun _ h => h) hS15, HZ14.out.w2.kept hk15 (fun _ h => h) hS15⟩); have HC15 := Aside0.mk (show Cln 1000000 X15 (abs r15) by rw [he15]; exact h4); have HX15 := Aside0.mk (And.intro h2 (fun e => h3 (HM14.out.2 (HM11.out.2 e)))); have HB15 := Aside0.mk (show Bd (abs r15) 400 by rw [he15]; exact (Bd.openz HB14.out (mid_redo HCo.out HM14.out.1 HC14.out.ns)).more (by have := HLn2.out; have := HM2.out; omega)); clear hp h1 h2 h3 h4 hR he15 hk15 hS15 HZ14 HB14; skip)
                | (go_at_call 18; have HMx := HZ15.out; refine (sure_calls w g r15 _ HZ15.out.ra (by have := HB15.out.r; omega)).mono ?_; clear HMx; intro e_ w16 hp; obtain ⟨v16, fs16, rfl, hfs, hk_, hb⟩ := sureP_files hp; have HFs16 := Aside0.mk (hfs (r15.S g) (SfE.S_lt HZ15.out.ra)); have HK16 := Aside0.mk (show fs16.map keyD = X15 by rw [← HC15.out.ss]; exact hk_); have HZ16 := Aside0.mk (HZ15.out.below hb); obtain ⟨A16, n16, c16, hv_, _, _⟩ := HFs16.out.slice; subst hv_; clear hp hfs hk_ hb HZ15; skip))
              have HWn := Aside0.mk (HX15.out.2 HD0.out)
              go_wp2_with (first
                | (go_at_call 28; have HMx := HZ16.out; refine (show Calls Try.prog 28 #[.slice A16 n16 c16, .slice Au nu cu] w16 (BoolP w16 true) from (by have h1_ := (wa_files HFs16.out); have h_ := RkU.same_calls A16 n16 c16 fs16 Au nu cu FW w16 h1_.C HZ16.out.w2.C h1_.db HZ16.out.w2.db; rwa [show sameFs fs16 FW = true from decide_eq_true (by rw [HK16.out, HWk.out]; exact HWn.out)] at h_)).mono ?_; clear HMx; rintro e_ w17 ⟨rfl, hb⟩; have HB16 := Aside0.mk hb; have HZ17 := Aside0.mk (HZ16.out.below hb); clear hb HZ16; skip)
                | (go_at_call 40; have HMx := HZ17.out.ra.bel; refine (awake_calls _).mono ?_; clear HMx; rintro e_ wa ⟨rfl, hb⟩; have HBa := Aside0.mk (HZ17.out.ra.bel.trans (hb.mono HZ17.out.ra.bel.size)); clear hb; skip))
              go_ret
              exact ⟨rfl, HBa.out⟩
            · have hi1 : (d == 0) = false := beq_eq_false_iff_ne.2 (by rw [hd5]; decide)
              have hi2 : decide (d = 0) = false := decide_eq_false (by rw [hd5]; decide)
              have hi3 : (d == 5) = true := by rw [hd5]; rfl
              have hi4 : decide (d = 5) = true := decide_eq_true hd5
              clear hd5
              go_upto_region 40 with (first
                | (go_at_call 19; have HMx := HZ13.out; refine (crash_calls w g r13 m Am cm _ HZ13.out.ra (Kd.C_below HMo.out.2 HZ13.out.ra.bel) HMo.out.1 (fun ad e h0 hs => by subst e; have h1_ := Kd.C_lt HMo.out.2 h0 (by decide); have h2_ := S_ge HZ13.out.ra _ hs; omega) (by have := HB13.out.r; omega) (by have := HB13.out.r; omega)).mono ?_; clear HMx; intro e_ w14 hp; obtain ⟨rfl, hs⟩ := crash_step hp; obtain ⟨r14, he_, hz_⟩ := HZ13.out.step hs; have HZ14 := Aside0.mk hz_; obtain ⟨h1, h2, h3, h4⟩ := HO13.out; rw [← HE13.out, ← he_] at h2 h3; have HM14 := Aside0.mk (And.intro h1 h4); have HC14 := Aside0.mk h2; have HO14 := Aside0.mk (open_on HCo.out h1 h2 h3); have HB14 := Aside0.mk (show Bd (abs r14) 300 by rw [he_]; exact HB13.out.crash m); clear h1 h2 h3 h4 HE13; clear hp hs he_ hz_ HZ13 HB13; skip)
                | (go_at_call 46; have HMx := HZ14.out; refine (open_calls w g r14 _ 300 L2.length HZ14.out.ra HB14.out (by have := HLn2.out; have := HM2.out; omega) (mid_redo HCo.out HM14.out.1 HC14.out.ns)).mono ?_; clear HMx; intro e_ w15 hp; obtain ⟨h1, _, X15, h2, h3, h4, _⟩ := HO14.out; obtain ⟨q15, rfl, _, r15, hR, he15, hk15, hS15, _⟩ := opened hp (pair_eq h1); have HZ15 := Aside0.mk (show ZAt w w15 g r15 Aw7 nw7 fs7 Au nu FW from ⟨hR, HZ14.out.w1.kept hk15 (fun _ h => h) hS15, HZ14.out.w2.kept hk15 (fun _ h => h) hS15⟩); have HC15 := Aside0.mk (show Cln 1000000 X15 (abs r15) by rw [he15]; exact h4); have HX15 := Aside0.mk (And.intro h2 (fun e => h3 (HM14.out.2 (HM11.out.2 e)))); have HB15 := Aside0.mk (show Bd (abs r15) 400 by rw [he15]; exact (Bd.openz HB14.out (mid_redo HCo.out HM14.out.1 HC14.out.ns)).more (by have := HLn2.out; have := HM2.out; omega)); clear hp h1 h2 h3 h4 hR he15 hk15 hS15 HZ14 HB14; skip)
                | (go_at_call 18; have HMx := HZ15.out; refine (sure_calls w g r15 _ HZ15.out.ra (by have := HB15.out.r; omega)).mono ?_; clear HMx; intro e_ w16 hp; obtain ⟨v16, fs16, rfl, hfs, hk_, hb⟩ := sureP_files hp; have HFs16 := Aside0.mk (hfs (r15.S g) (SfE.S_lt HZ15.out.ra)); have HK16 := Aside0.mk (show fs16.map keyD = X15 by rw [← HC15.out.ss]; exact hk_); have HZ16 := Aside0.mk (HZ15.out.below hb); obtain ⟨A16, n16, c16, hv_, _, _⟩ := HFs16.out.slice; subst hv_; clear hp hfs hk_ hb HZ15; skip))
              by_cases hWn : X15 = wantK X L2
              · have HWn := Aside0.mk hWn
                clear hWn
                go_wp2_with (first
                  | (go_at_call 28; have HMx := HZ16.out; refine (show Calls Try.prog 28 #[.slice A16 n16 c16, .slice Au nu cu] w16 (BoolP w16 true) from (by have h1_ := (wa_files HFs16.out); have h_ := RkU.same_calls A16 n16 c16 fs16 Au nu cu FW w16 h1_.C HZ16.out.w2.C h1_.db HZ16.out.w2.db; rwa [show sameFs fs16 FW = true from decide_eq_true (by rw [HK16.out, HWk.out]; exact HWn.out)] at h_)).mono ?_; clear HMx; rintro e_ w17 ⟨rfl, hb⟩; have HB16 := Aside0.mk hb; have HZ17 := Aside0.mk (HZ16.out.below hb); clear hb HZ16; skip)
                  | (go_at_call 40; have HMx := HZ17.out.ra.bel; refine (awake_calls _).mono ?_; clear HMx; rintro e_ wa ⟨rfl, hb⟩; have HBa := Aside0.mk (HZ17.out.ra.bel.trans (hb.mono HZ17.out.ra.bel.size)); clear hb; skip))
                go_ret
                exact ⟨rfl, HBa.out⟩
              · have HWo := Aside0.mk (HX15.out.1.resolve_right hWn)
                have HWn := Aside0.mk hWn
                clear hWn
                go_wp2_with (first
                  | (go_at_call 28; have HMx := HZ16.out; refine (show Calls Try.prog 28 #[.slice A16 n16 c16, .slice Au nu cu] w16 (BoolP w16 false) from (by have h1_ := (wa_files HFs16.out); have h_ := RkU.same_calls A16 n16 c16 fs16 Au nu cu FW w16 h1_.C HZ16.out.w2.C h1_.db HZ16.out.w2.db; rwa [show sameFs fs16 FW = false from decide_eq_false (by rw [HK16.out, HWk.out]; exact HWn.out)] at h_)).mono ?_; clear HMx; rintro e_ w17 ⟨rfl, hb⟩; have HB16 := Aside0.mk hb; have HZ17 := Aside0.mk (HZ16.out.below hb); clear hb HZ16; skip)
                  | (go_at_call 28; have HMx := HZ17.out; refine (show Calls Try.prog 28 #[.slice A16 n16 c16, .slice Aw7 nw7 cw7] w17 (BoolP w17 true) from (by have h1_ := (wa_files HFs16.out).below HB16.out; have h_ := RkU.same_calls A16 n16 c16 fs16 Aw7 nw7 cw7 fs7 w17 h1_.C HZ17.out.w1.C h1_.db HZ17.out.w1.db; rwa [show sameFs fs16 fs7 = true from decide_eq_true (by rw [HK16.out, HXk.out]; exact HWo.out)] at h_)).mono ?_; clear HMx; rintro e_ w18 ⟨rfl, hb⟩; have HB17 := Aside0.mk hb; have HZ18 := Aside0.mk (HZ17.out.below hb); clear hb HZ17; skip)
                  | (go_at_call 40; have HMx := HZ18.out.ra.bel; refine (awake_calls _).mono ?_; clear HMx; rintro e_ wa ⟨rfl, hb⟩; have HBa := Aside0.mk (HZ18.out.ra.bel.trans (hb.mono HZ18.out.ra.bel.size)); clear hb; skip))
                go_ret
                exact ⟨rfl, HBa.out⟩
          · have hg1 : (fv == 0) = false := beq_eq_false_iff_ne.2 (by rw [hf5]; decide)
            have hg2 : decide (fv = 0) = false := decide_eq_false (by rw [hf5]; decide)
            have hg3 : (fv != 0) = true := by rw [bne, hg1]; rfl
            have hg4 : (fv == 5) = true := by rw [hf5]; rfl
            have hg5 : decide (fv = 5) = true := decide_eq_true hf5
            have hg6 : (fv != 5) = false := by rw [hf5]; rfl
            clear hf5
            rcases HDv.out with hd0 | hd5
            · have hi1 : (d == 0) = true := by rw [hd0]; rfl
              have hi2 : decide (d = 0) = true := decide_eq_true hd0
              have HD0 := Aside0.mk hd0
              clear hd0
              go_upto_region 40 with (first
                | (go_at_call 19; have HMx := HZ13.out; refine (crash_calls w g r13 m Am cm _ HZ13.out.ra (Kd.C_below HMo.out.2 HZ13.out.ra.bel) HMo.out.1 (fun ad e h0 hs => by subst e; have h1_ := Kd.C_lt HMo.out.2 h0 (by decide); have h2_ := S_ge HZ13.out.ra _ hs; omega) (by have := HB13.out.r; omega) (by have := HB13.out.r; omega)).mono ?_; clear HMx; intro e_ w14 hp; obtain ⟨rfl, hs⟩ := crash_step hp; obtain ⟨r14, he_, hz_⟩ := HZ13.out.step hs; have HZ14 := Aside0.mk hz_; obtain ⟨h1, h2, h3, h4⟩ := HO13.out; rw [← HE13.out, ← he_] at h2 h3; have HM14 := Aside0.mk (And.intro h1 h4); have HC14 := Aside0.mk h2; have HO14 := Aside0.mk (open_on HCo.out h1 h2 h3); have HB14 := Aside0.mk (show Bd (abs r14) 300 by rw [he_]; exact HB13.out.crash m); clear h1 h2 h3 h4 HE13; clear hp hs he_ hz_ HZ13 HB13; skip)
                | (go_at_call 46; have HMx := HZ14.out; refine (open_calls w g r14 _ 300 L2.length HZ14.out.ra HB14.out (by have := HLn2.out; have := HM2.out; omega) (mid_redo HCo.out HM14.out.1 HC14.out.ns)).mono ?_; clear HMx; intro e_ w15 hp; obtain ⟨h1, _, X15, h2, h3, h4, _⟩ := HO14.out; obtain ⟨q15, rfl, _, r15, hR, he15, hk15, hS15, _⟩ := opened hp (pair_eq h1); have HZ15 := Aside0.mk (show ZAt w w15 g r15 Aw7 nw7 fs7 Au nu FW from ⟨hR, HZ14.out.w1.kept hk15 (fun _ h => h) hS15, HZ14.out.w2.kept hk15 (fun _ h => h) hS15⟩); have HC15 := Aside0.mk (show Cln 1000000 X15 (abs r15) by rw [he15]; exact h4); have HX15 := Aside0.mk (And.intro h2 (fun e => h3 (HM14.out.2 (HM11.out.2 e)))); have HB15 := Aside0.mk (show Bd (abs r15) 400 by rw [he15]; exact (Bd.openz HB14.out (mid_redo HCo.out HM14.out.1 HC14.out.ns)).more (by have := HLn2.out; have := HM2.out; omega)); clear hp h1 h2 h3 h4 hR he15 hk15 hS15 HZ14 HB14; skip)
                | (go_at_call 18; have HMx := HZ15.out; refine (sure_calls w g r15 _ HZ15.out.ra (by have := HB15.out.r; omega)).mono ?_; clear HMx; intro e_ w16 hp; obtain ⟨v16, fs16, rfl, hfs, hk_, hb⟩ := sureP_files hp; have HFs16 := Aside0.mk (hfs (r15.S g) (SfE.S_lt HZ15.out.ra)); have HK16 := Aside0.mk (show fs16.map keyD = X15 by rw [← HC15.out.ss]; exact hk_); have HZ16 := Aside0.mk (HZ15.out.below hb); obtain ⟨A16, n16, c16, hv_, _, _⟩ := HFs16.out.slice; subst hv_; clear hp hfs hk_ hb HZ15; skip))
              have HWn := Aside0.mk (HX15.out.2 HD0.out)
              go_wp2_with (first
                | (go_at_call 28; have HMx := HZ16.out; refine (show Calls Try.prog 28 #[.slice A16 n16 c16, .slice Au nu cu] w16 (BoolP w16 true) from (by have h1_ := (wa_files HFs16.out); have h_ := RkU.same_calls A16 n16 c16 fs16 Au nu cu FW w16 h1_.C HZ16.out.w2.C h1_.db HZ16.out.w2.db; rwa [show sameFs fs16 FW = true from decide_eq_true (by rw [HK16.out, HWk.out]; exact HWn.out)] at h_)).mono ?_; clear HMx; rintro e_ w17 ⟨rfl, hb⟩; have HB16 := Aside0.mk hb; have HZ17 := Aside0.mk (HZ16.out.below hb); clear hb HZ16; skip)
                | (go_at_call 40; have HMx := HZ17.out.ra.bel; refine (awake_calls _).mono ?_; clear HMx; rintro e_ wa ⟨rfl, hb⟩; have HBa := Aside0.mk (HZ17.out.ra.bel.trans (hb.mono HZ17.out.ra.bel.size)); clear hb; skip))
              go_ret
              exact ⟨rfl, HBa.out⟩
            · have hi1 : (d == 0) = false := beq_eq_false_iff_ne.2 (by rw [hd5]; decide)
              have hi2 : decide (d = 0) = false := decide_eq_false (by rw [hd5]; decide)
              have hi3 : (d == 5) = true := by rw [hd5]; rfl
              have hi4 : decide (d = 5) = true := decide_eq_true hd5
              clear hd5
              go_upto_region 40 with (first
                | (go_at_call 19; have HMx := HZ13.out; refine (crash_calls w g r13 m Am cm _ HZ13.out.ra (Kd.C_below HMo.out.2 HZ13.out.ra.bel) HMo.out.1 (fun ad e h0 hs => by subst e; have h1_ := Kd.C_lt HMo.out.2 h0 (by decide); have h2_ := S_ge HZ13.out.ra _ hs; omega) (by have := HB13.out.r; omega) (by have := HB13.out.r; omega)).mono ?_; clear HMx; intro e_ w14 hp; obtain ⟨rfl, hs⟩ := crash_step hp; obtain ⟨r14, he_, hz_⟩ := HZ13.out.step hs; have HZ14 := Aside0.mk hz_; obtain ⟨h1, h2, h3, h4⟩ := HO13.out; rw [← HE13.out, ← he_] at h2 h3; have HM14 := Aside0.mk (And.intro h1 h4); have HC14 := Aside0.mk h2; have HO14 := Aside0.mk (open_on HCo.out h1 h2 h3); have HB14 := Aside0.mk (show Bd (abs r14) 300 by rw [he_]; exact HB13.out.crash m); clear h1 h2 h3 h4 HE13; clear hp hs he_ hz_ HZ13 HB13; skip)
                | (go_at_call 46; have HMx := HZ14.out; refine (open_calls w g r14 _ 300 L2.length HZ14.out.ra HB14.out (by have := HLn2.out; have := HM2.out; omega) (mid_redo HCo.out HM14.out.1 HC14.out.ns)).mono ?_; clear HMx; intro e_ w15 hp; obtain ⟨h1, _, X15, h2, h3, h4, _⟩ := HO14.out; obtain ⟨q15, rfl, _, r15, hR, he15, hk15, hS15, _⟩ := opened hp (pair_eq h1); have HZ15 := Aside0.mk (show ZAt w w15 g r15 Aw7 nw7 fs7 Au nu FW from ⟨hR, HZ14.out.w1.kept hk15 (fun _ h => h) hS15, HZ14.out.w2.kept hk15 (fun _ h => h) hS15⟩); have HC15 := Aside0.mk (show Cln 1000000 X15 (abs r15) by rw [he15]; exact h4); have HX15 := Aside0.mk (And.intro h2 (fun e => h3 (HM14.out.2 (HM11.out.2 e)))); have HB15 := Aside0.mk (show Bd (abs r15) 400 by rw [he15]; exact (Bd.openz HB14.out (mid_redo HCo.out HM14.out.1 HC14.out.ns)).more (by have := HLn2.out; have := HM2.out; omega)); clear hp h1 h2 h3 h4 hR he15 hk15 hS15 HZ14 HB14; skip)
                | (go_at_call 18; have HMx := HZ15.out; refine (sure_calls w g r15 _ HZ15.out.ra (by have := HB15.out.r; omega)).mono ?_; clear HMx; intro e_ w16 hp; obtain ⟨v16, fs16, rfl, hfs, hk_, hb⟩ := sureP_files hp; have HFs16 := Aside0.mk (hfs (r15.S g) (SfE.S_lt HZ15.out.ra)); have HK16 := Aside0.mk (show fs16.map keyD = X15 by rw [← HC15.out.ss]; exact hk_); have HZ16 := Aside0.mk (HZ15.out.below hb); obtain ⟨A16, n16, c16, hv_, _, _⟩ := HFs16.out.slice; subst hv_; clear hp hfs hk_ hb HZ15; skip))
              by_cases hWn : X15 = wantK X L2
              · have HWn := Aside0.mk hWn
                clear hWn
                go_wp2_with (first
                  | (go_at_call 28; have HMx := HZ16.out; refine (show Calls Try.prog 28 #[.slice A16 n16 c16, .slice Au nu cu] w16 (BoolP w16 true) from (by have h1_ := (wa_files HFs16.out); have h_ := RkU.same_calls A16 n16 c16 fs16 Au nu cu FW w16 h1_.C HZ16.out.w2.C h1_.db HZ16.out.w2.db; rwa [show sameFs fs16 FW = true from decide_eq_true (by rw [HK16.out, HWk.out]; exact HWn.out)] at h_)).mono ?_; clear HMx; rintro e_ w17 ⟨rfl, hb⟩; have HB16 := Aside0.mk hb; have HZ17 := Aside0.mk (HZ16.out.below hb); clear hb HZ16; skip)
                  | (go_at_call 40; have HMx := HZ17.out.ra.bel; refine (awake_calls _).mono ?_; clear HMx; rintro e_ wa ⟨rfl, hb⟩; have HBa := Aside0.mk (HZ17.out.ra.bel.trans (hb.mono HZ17.out.ra.bel.size)); clear hb; skip))
                go_ret
                exact ⟨rfl, HBa.out⟩
              · have HWo := Aside0.mk (HX15.out.1.resolve_right hWn)
                have HWn := Aside0.mk hWn
                clear hWn
                go_wp2_with (first
                  | (go_at_call 28; have HMx := HZ16.out; refine (show Calls Try.prog 28 #[.slice A16 n16 c16, .slice Au nu cu] w16 (BoolP w16 false) from (by have h1_ := (wa_files HFs16.out); have h_ := RkU.same_calls A16 n16 c16 fs16 Au nu cu FW w16 h1_.C HZ16.out.w2.C h1_.db HZ16.out.w2.db; rwa [show sameFs fs16 FW = false from decide_eq_false (by rw [HK16.out, HWk.out]; exact HWn.out)] at h_)).mono ?_; clear HMx; rintro e_ w17 ⟨rfl, hb⟩; have HB16 := Aside0.mk hb; have HZ17 := Aside0.mk (HZ16.out.below hb); clear hb HZ16; skip)
                  | (go_at_call 28; have HMx := HZ17.out; refine (show Calls Try.prog 28 #[.slice A16 n16 c16, .slice Aw7 nw7 cw7] w17 (BoolP w17 true) from (by have h1_ := (wa_files HFs16.out).below HB16.out; have h_ := RkU.same_calls A16 n16 c16 fs16 Aw7 nw7 cw7 fs7 w17 h1_.C HZ17.out.w1.C h1_.db HZ17.out.w1.db; rwa [show sameFs fs16 fs7 = true from decide_eq_true (by rw [HK16.out, HXk.out]; exact HWo.out)] at h_)).mono ?_; clear HMx; rintro e_ w18 ⟨rfl, hb⟩; have HB17 := Aside0.mk hb; have HZ18 := Aside0.mk (HZ17.out.below hb); clear hb HZ17; skip)
                  | (go_at_call 40; have HMx := HZ18.out.ra.bel; refine (awake_calls _).mono ?_; clear HMx; rintro e_ wa ⟨rfl, hb⟩; have HBa := Aside0.mk (HZ18.out.ra.bel.trans (hb.mono HZ18.out.ra.bel.size)); clear hb; skip))
                go_ret
                exact ⟨rfl, HBa.out⟩
    · have hf21 : (fit2 == 0) = false := beq_eq_false_iff_ne.2 hf2
      have hf22 : decide (fit2 = 0) = false := decide_eq_false hf2
      have hf23 : (fit2 != 0) = true := by rw [bne, hf21]; rfl
      have hf24 : (fit2 == fit2) = true := beq_self_eq_true _
      have hf25 : decide (fit2 = fit2) = true := decide_eq_true rfl
      have HFn2 := Aside0.mk hf2
      clear hf2
      go_wp2_with (first
        | (go_at_call 18; have HMx := HF6.out; refine (sure_calls w g r5 _ HF6.out.ra (by have := HF6.out.bd.r; omega)).mono ?_; clear HMx; intro e_ w7 hp; obtain ⟨v7, fs7, rfl, hfs, hk_, hb⟩ := sureP_files hp; have HFs7 := Aside0.mk (hfs (r5.S g) (SfE.S_lt HF6.out.ra)); have HK7 := Aside0.mk (show fs7.map keyD = (abs r5).ss from hk_); have HF7 := Aside0.mk (HF6.out.below hb); obtain ⟨Aw7, nw7, cw7, hv_, _, _⟩ := HFs7.out.slice; subst hv_; clear hp hfs hk_ hb HF6; skip)
        | (go_at_call 49; have HMx := HF7.out; refine (show Calls Try.prog 49 #[.pointer (some ⟨q, 0, none⟩), .slice A2 n2 c2] w7 (IntP w7 fit2) from (by have h1_ := fits_calls w q g r5 w7 A2 c2 ls2 HF7.out.ra HF7.out.sa (by rw [HN2.out]; exact Kd.C_below HC2.out HF7.out.ra.bel) (by rw [HN2.out]; exact HCc2.out) (fun x hx => (HD2.out x hx).below HF7.out.ra.bel) (by have := HL2.out.1; omega) (by have := HM2.out; have := HN2.out; omega) (by have := HF7.out.bd.r; omega) (HF7.out.free.2.2) HF7.out.free.1 (fun x hx => by have := HL2.out.2.2 x hx; omega); unfold FitsP at h1_; rwa [HLk2.out, HFt2.out, HN2.out] at h1_)).mono ?_; clear HMx; rintro e_ w8 ⟨rfl, hb⟩; have HF8 := Aside0.mk (HF7.out.below hb); have HWa := Aside0.mk ((wa_files HFs7.out).below hb); clear hb HF7 HFs7; skip)
        | (go_at_call 48; have HMx := HF8.out; refine (show Calls Try.prog 48 #[.pointer (some ⟨q, 0, none⟩), .slice A2 n2 c2] w8 (CommitP w w8 g r5 L2) from (by have h_ := commit_calls w q g r5 w8 A2 c2 ls2 100 HF8.out.ra HF8.out.sa (by rw [HN2.out]; exact chg_at HC2.out HD2.out HF8.out.ra.bel (S_ge HF8.out.ra)) (by rw [HN2.out]; exact HCc2.out) (by have := HL2.out.1; omega) HF8.out.bd (by have := HM2.out; have := HN2.out; omega) (fun _ => HF8.out.free.1) (fun x hx => by have := HL2.out.2.2 x hx; omega); rwa [HLk2.out, HN2.out] at h_)).mono ?_; clear HMx; intro e_ w9 hp; obtain ⟨he9, r9, hF9, hs9, _, hk9, hS9⟩ := HF8.out.commit hp; rw [HFt2.out] at he9 hs9; subst he9; have HF9 := Aside0.mk (show FAt w w9 g q r9 1000000 300 from ⟨hF9.ra, hF9.sa, hF9.cl, hF9.fu, hF9.bd.more (by have := HLn2.out; have := HM2.out; omega)⟩); have HS9 := Aside0.mk (hs9 HFn2.out); have HWa9 := Aside0.mk (HWa.out.kept hk9 (fun _ h => h) hS9); clear hp hF9 hs9 hk9 hS9 HF8 HWa; skip)
        | (go_at_call 49; have HMx := HF9.out; refine (show Calls Try.prog 49 #[.pointer (some ⟨q, 0, none⟩), .slice A2 n2 c2] w9 (IntP w9 fit2) from (by have h1_ := fits_calls w q g r9 w9 A2 c2 ls2 HF9.out.ra HF9.out.sa (by rw [HN2.out]; exact Kd.C_below HC2.out HF9.out.ra.bel) (by rw [HN2.out]; exact HCc2.out) (fun x hx => (HD2.out x hx).below HF9.out.ra.bel) (by have := HL2.out.1; omega) (by have := HM2.out; have := HN2.out; omega) (by have := HF9.out.bd.r; omega) (HF9.out.free.2.2) HF9.out.free.1 (fun x hx => by have := HL2.out.2.2 x hx; omega); unfold FitsP at h1_; rwa [HLk2.out, (show fitsK (abs r9) L2 = fit2 by rw [HS9.out]; exact HFt2.out), HN2.out] at h1_)).mono ?_; clear HMx; rintro e_ w10 ⟨rfl, hb⟩; have HF10 := Aside0.mk (HF9.out.below hb); have HWa10 := Aside0.mk (HWa9.out.below hb); clear hb HF9 HWa9; skip)
        | (go_at_call 18; have HMx := HF10.out; refine (sure_calls w g r9 _ HF10.out.ra (by have := HF10.out.bd.r; omega)).mono ?_; clear HMx; intro e_ w11 hp; obtain ⟨v11, fs11, rfl, hfs, hk_, hb⟩ := sureP_files hp; have HFs11 := Aside0.mk (hfs (r9.S g) (SfE.S_lt HF10.out.ra)); have HK11 := Aside0.mk (show fs11.map keyD = (abs r9).ss from hk_); have HF11 := Aside0.mk (HF10.out.below hb); obtain ⟨Aw11, nw11, cw11, hv_, _, _⟩ := HFs11.out.slice; subst hv_; have HWa11 := Aside0.mk (HWa10.out.below hb); clear HWa10 hp hfs hk_ hb HF10; skip)
        | (go_at_call 28; have HMx := HF11.out; refine (show Calls Try.prog 28 #[.slice Aw11 nw11 cw11, .slice Aw7 nw7 cw7] w11 (BoolP w11 true) from (by have h1_ := wa_files HFs11.out; have h_ := RkU.same_calls Aw11 nw11 cw11 fs11 Aw7 nw7 cw7 fs7 w11 h1_.C HWa11.out.C h1_.db HWa11.out.db; rwa [same_key HK11.out HK7.out (congrArg PS.ss HS9.out)] at h_)).mono ?_; clear HMx; rintro e_ w12 ⟨rfl, hb⟩; have HB12 := Aside0.mk (HF11.out.below hb).ra.bel; clear hb HF11 HFs11 HWa11; skip)
        | (go_at_call 40; have HMx := HB12.out; refine (awake_calls _).mono ?_; clear HMx; rintro e_ wa ⟨rfl, hb⟩; have HBa := Aside0.mk (HB12.out.trans (hb.mono HB12.out.size)); clear hb; skip))
      go_ret
      exact ⟨rfl, HBa.out⟩
  · skip
    have hf11 : (fit1 == 0) = false := beq_eq_false_iff_ne.2 hf1
    have hf12 : decide (fit1 = 0) = false := decide_eq_false hf1
    have hf13 : (fit1 != 0) = true := by rw [bne, hf11]; rfl
    have HFn := Aside0.mk hf1
    clear hf1
    go_upto_region 7 with (first
      | (go_at_call 39; have HHx := HH1.out; refine HHx.mono ?_; rintro e_ w1 ⟨rfl, hb⟩; have HB1 := Aside0.mk hb; clear hb HH1 HHx; skip)
      | (go_at_call 39; have HHx := HH2.out w1 HB1.out; refine HHx.mono ?_; rintro e_ w2 ⟨rfl, hb⟩; have HB2 := Aside0.mk (HB1.out.trans (hb.mono HB1.out.size)); clear hb HHx; skip)
      | (go_at_call 15; have HMx := HB2.out; refine (new_calls w 1000000 w2 HB2.out).mono ?_; clear HMx; rintro e_ w3 ⟨g, b1, b2, rfl, hR, _⟩; have HR3 := Aside0.mk hR; clear hR HB2; skip)
      | (go_at_call 46; have HMx := HR3.out; refine (open_calls w g _ _ 0 0 HR3.out (p0_bd 1000000) (by decide) (redo_none rfl 0)).mono ?_; clear HMx; intro e_ w4 hp; obtain ⟨q, rfl, _, r4, hR, hp4, _, _, hs⟩ := opened hp (open_free (p := p0 1000000) rfl rfl); have HF4 := Aside0.mk (show FAt w w4 g q r4 1000000 0 from ⟨hR, hs, ⟨[], by rw [hp4]; exact p0_cln 1000000, srt_nil, rfl⟩, by rw [hp4]; rfl, by rw [hp4]; exact p0_bd 1000000⟩); have HP4 := Aside0.mk hp4; clear hp hR hp4 hs HR3; skip)
      | (go_at_call 48; have HMx := HF4.out; refine (show Calls Try.prog 48 #[.pointer (some ⟨q, 0, none⟩), .slice A1 n1 c1] w4 (CommitP w w4 g r4 L1) from (by have h_ := commit_calls w q g r4 w4 A1 c1 ls1 0 HF4.out.ra HF4.out.sa (by rw [HN1.out]; exact chg_at HC1.out HD1.out HF4.out.ra.bel (S_ge HF4.out.ra)) (by rw [HN1.out]; exact HCc1.out) (by have := HL1.out.1; omega) HF4.out.bd (by have := HM1.out; have := HN1.out; omega) (fun _ => HF4.out.free.1) (fun x hx => by have := HL1.out.2.2 x hx; omega); rwa [HLk1.out, HN1.out] at h_)).mono ?_; clear HMx; intro e_ w5 hp; obtain ⟨he5, r5, hF5, hs5, _, _, _⟩ := HF4.out.commit hp; rw [HFt1.out r4 HP4.out] at he5 hs5; subst he5; have HF5 := Aside0.mk (show FAt w w5 g q r5 1000000 100 from ⟨hF5.ra, hF5.sa, hF5.cl, hF5.fu, hF5.bd.more (by have := HLn1.out; have := HM1.out; omega)⟩); have HS5 := Aside0.mk hs5; clear hp hF5 hs5 HF4; skip)
      | (go_at_call 49; have HMx := HF5.out; refine (show Calls Try.prog 49 #[.pointer (some ⟨q, 0, none⟩), .slice A1 n1 c1] w5 (IntP w5 fit1) from (by have h1_ := fits_calls w q g r5 w5 A1 c1 ls1 HF5.out.ra HF5.out.sa (by rw [HN1.out]; exact Kd.C_below HC1.out HF5.out.ra.bel) (by rw [HN1.out]; exact HCc1.out) (fun x hx => (HD1.out x hx).below HF5.out.ra.bel) (by have := HL1.out.1; omega) (by have := HM1.out; have := HN1.out; omega) (by have := HF5.out.bd.r; omega) (HF5.out.free.2.2) HF5.out.free.1 (fun x hx => by have := HL1.out.2.2 x hx; omega); unfold FitsP at h1_; rwa [HLk1.out, (HFt1.out r5 ((HS5.out HFn.out).trans HP4.out)), HN1.out] at h1_)).mono ?_; clear HMx; rintro e_ w6 ⟨rfl, hb⟩; have HF6 := Aside0.mk (HF5.out.below hb); clear hb HF5; skip))
    clear HFn
    obtain ⟨fit2, hfit2⟩ : ∃ fit2, fitsK (abs r5) L2 = fit2 := ⟨_, rfl⟩
    have HFt2 := Aside0.mk hfit2
    clear hfit2 hd hd2 hw1 hw2 hr1 hr2 hr4 hr5 hp7 hm7 hf11 hf12 hf13 HS5
    by_cases hf2 : fit2 = 0
    · have hf21 : (fit2 == 0) = true := by rw [hf2]; rfl
      have hf22 : decide (fit2 = 0) = true := decide_eq_true hf2
      have hf23 : (fit2 != 0) = false := by rw [hf2]; rfl
      have HFz2 := Aside0.mk hf2
      clear hf2
      go_upto_region 10 with (first
        | (go_at_call 18; have HMx := HF6.out; refine (sure_calls w g r5 _ HF6.out.ra (by have := HF6.out.bd.r; omega)).mono ?_; clear HMx; intro e_ w7 hp; obtain ⟨v7, fs7, rfl, hfs, hk_, hb⟩ := sureP_files hp; have HFs7 := Aside0.mk (hfs (r5.S g) (SfE.S_lt HF6.out.ra)); have HK7 := Aside0.mk (show fs7.map keyD = (abs r5).ss from hk_); have HF7 := Aside0.mk (HF6.out.below hb); obtain ⟨Aw7, nw7, cw7, hv_, _, _⟩ := HFs7.out.slice; subst hv_; clear hp hfs hk_ hb HF6; skip)
        | (go_at_call 49; have HMx := HF7.out; refine (show Calls Try.prog 49 #[.pointer (some ⟨q, 0, none⟩), .slice A2 n2 c2] w7 (IntP w7 fit2) from (by have h1_ := fits_calls w q g r5 w7 A2 c2 ls2 HF7.out.ra HF7.out.sa (by rw [HN2.out]; exact Kd.C_below HC2.out HF7.out.ra.bel) (by rw [HN2.out]; exact HCc2.out) (fun x hx => (HD2.out x hx).below HF7.out.ra.bel) (by have := HL2.out.1; omega) (by have := HM2.out; have := HN2.out; omega) (by have := HF7.out.bd.r; omega) (HF7.out.free.2.2) HF7.out.free.1 (fun x hx => by have := HL2.out.2.2 x hx; omega); unfold FitsP at h1_; rwa [HLk2.out, HFt2.out, HN2.out] at h1_)).mono ?_; clear HMx; rintro e_ w8 ⟨rfl, hb⟩; have HF8 := Aside0.mk (HF7.out.below hb); have HWa := Aside0.mk ((wa_files HFs7.out).below hb); clear hb HF7 HFs7; skip))
      have HW7 := Aside0.mk (show nw7 = fs7.length ∧ fs7.length ≤ 100 from ⟨HWa.out.C.1.symm, by have h1_ := congrArg List.length HK7.out; have h2_ := HF8.out.bd.r; unfold abs at h1_; simp only [List.length_map] at h1_; omega⟩)
      have HSl := Aside0.mk (SfE.S_lt HF8.out.ra)
      have HChX := Aside0.mk (show ChgAt w8 (r5.S g) A2 n2 ls2 from chg_at HC2.out HD2.out HF8.out.ra.bel (S_ge HF8.out.ra))
      have HDa := Aside0.mk (fun (k : Nat) => doAll_df (w := w8) (S := r5.S g) (ls2.take k) fs7 HWa.out.ds (fun x hx => HChX.out.ds x (List.mem_of_mem_take hx)))
      have HLa := Aside0.mk (show ∀ k, (doAll fs7 (ls2.take k)).length ≤ 200 from fun k => by
        have h1 := doAll_len (ls2.take k) fs7
        have h2 := HW7.out.2
        have h3 := HN2.out
        have h4 := HM2.out
        rw [List.length_take] at h1
        omega)
      have hn29 : (n2 : Int) ≤ 60 := by have := HM2.out; omega
      go_wp2_with (first
        | ((with_reducible refine gate_dst (N := 87) rfl ?_); refine Kd.R_lit kF (w0 := w8) w8.heap.size 48 rfl rfl (xs := []) (inner := []) (ok := fun _ => True) (okp := fun _ => False) ?hr87x ⟨rfl, fun j p h => by simp at h⟩ (fun _ h => h.elim) trivial (Below.refl w8.heap.size w8) (Nat.le_refl _) (by decide) ?_; (case hr87x => first | (go_simp; done) | (go_simp; rfl)); intro v87 w87 ho hb hg hat; have HR87 := Aside0.mk ho; have HB87 := Aside0.mk hb; clear ho hb hg hat; skip)
        | ((with_reducible refine gate_builtin (b := .append) (xs := #[.tmp 87, .tmp 88]) rfl ?_); at_builtin; refine Kd.R_append_rows kF (w0 := w8) w8.heap.size rfl (.tmp 87) (.tmp 88) 30 48 (.agg #[.string ⟨#[]⟩, .slice none 0 0]) 40 rfl Try.underlying30 info_file rfl (by decide) (by omega) v87 [] fs7 Aw7 nw7 cw7 (fun _ => True) (fun _ => False) rfl rfl HR87.out (Kd.C_below HWa.out.C HB87.out) (fun _ _ h => h) (fun _ h => h.elim) (fun _ _ => trivial) HB87.out HB87.out.size (by have h1_ := HW7.out; simp only [List.length_nil]; omega) ?_; intro v89 w89 ho hb hg hat; rw [List.nil_append] at ho; have HR89 := Aside0.mk ho; have HB89 := Aside0.mk hb; clear ho hb hg hat HR87 HB87; skip))
      go_loopw [17, 92] (fun v i wr => ∃ (k : Nat) (v' : Value), k ≤ n2 ∧ i = .int .i64 k ∧ v = v' ∧ Aside0 (NAt w8 wr v' fs7 ls2 k)) (fun _ i _ => n2 - (intOf i).toNat)
      case atStart => exact ⟨0, _, Nat.zero_le _, rfl, rfl, ⟨HR89.out, HB89.out⟩⟩
      case round =>
        clear HR89 HB89
        obtain ⟨k, v, hk, rfl, rfl, HNt⟩ := hrel
        obtain ⟨Au, nu, cu, rfl⟩ := RkH.slc HNt.out.row
        by_cases hlt : k < n2
        · obtain ⟨x, hx⟩ : ∃ x, ls2[k]? = some x := ⟨_, List.getElem?_eq_getElem (by rw [HN2.out]; exact hlt)⟩
          obtain ⟨ad, e1, x0, x1, x2⟩ := at_W (Kd.C_below HChX.out.C HNt.out.bel) k hlt x hx
          cases e1
          have HX := Aside0.mk hx
          obtain ⟨FW, hFW⟩ : ∃ FW, doAll fs7 (ls2.take k) = FW := ⟨_, rfl⟩
          have HFW := Aside0.mk hFW
          have HRu := Aside0.mk (show Kd.R kF 48 wr w8.heap.size (fun _ => True) (.slice Au nu cu) FW by rw [← hFW]; exact HNt.out.row)
          have HBu := Aside0.mk HNt.out.bel
          have HFl := Aside0.mk (show nu = FW.length ∧ FW.length ≤ 200 from ⟨(Kd.R_reads' HRu.out).1, by rw [← hFW]; exact HLa.out k⟩)
          have HNx := Aside0.mk (show doAll fs7 (ls2.take (k + 1)) = doF FW x by rw [do_next hx, hFW])
          clear hx hFW HNt
          have M0_0 := Aside0.mk (Below.refl wr.heap.size wr)
          go_upto_region 14 with ((with_reducible refine gate_dst (N := 19) rfl ?_); refine box_event ?hgY19 (N := 19) ?hdY19 (cs := #[.string (⟨#[]⟩ : ByteArray), .bool false, .slice none 0 0]) (t := 64) ?hrY19 ?_; (case hdY19 => rfl); (case hgY19 => rfl); (case hrY19 => first | (go_simp; done) | (go_simp; rfl)); intro g_Y hg_ w_1 hbx_ hb_; have L0_Y := Aside0.mk (show wr.heap.size ≤ g_Y by have := M0_0.out.size; omega); have M0_1 := Aside0.mk (M0_0.out.trans (hb_.mono M0_0.out.size)); have Y_1 := Aside0.mk hbx_; clear hg_ hbx_ hb_ M0_0; have zY0 := blk_cell Y_1.out 0; have yY0 := blk_frozen Y_1.out 0; have zY1 := blk_cell Y_1.out 1; have yY1 := blk_frozen Y_1.out 1; have zY2 := blk_cell Y_1.out 2; have yY2 := blk_frozen Y_1.out 2; skip)
          obtain ⟨wc, e2, GC2, HBc'⟩ := fresh3 M0_1.out L0_Y.out Y_1.out x
          rw [e2]
          clear e2 zY0 zY1 zY2 yY0 yY1 yY2 x0 x1 x2
          have GC := Aside0.mk GC2
          have HBc := Aside0.mk (HBu.out.trans (HBc'.mono HBu.out.size))
          have HCu := Aside0.mk (show Kd.C kF wc Au nu FW by have h_ := Kd.R_reads' (Kd.R_below HRu.out HBc'); rw [h_.1]; exact h_.2.2)
          have hnu9 : (nu : Int) ≤ 200 := by have := HFl.out; omega
          clear GC2 HBc' HRu
          go_wp2_with fail
          go_loopw [20, 98] (fun v i wz => ∃ (j : Nat) (v' : Value), j ≤ nu ∧ i = .int .i64 j ∧ v = v' ∧ Aside0 (Kd.R kF 48 wz wc.heap.size (fun _ => True) v' (dropF (FW.take j) x.nm)) ∧ Aside0 (Below wc.heap.size wc wz)) (fun _ i _ => nu - (intOf i).toNat)
          case atStart => exact ⟨0, _, Nat.zero_le _, rfl, rfl, ⟨Kd.R_nil _ _ _ _ _⟩, ⟨Below.refl _ _⟩⟩
          case round =>
            obtain ⟨j, v2, hj, rfl, rfl, HRv, HBv⟩ := hrel
            obtain ⟨Av, nv, cv, rfl⟩ := RkH.slc HRv.out
            by_cases hjn : j < nu
            · obtain ⟨f, hf⟩ : ∃ f, FW[j]? = some f := ⟨_, List.getElem?_eq_getElem (by have := HFl.out.1; omega)⟩
              obtain ⟨af, e3, f0, f1⟩ := at_F (Kd.C_below HCu.out HBv.out) j hjn f hf
              cases e3
              have HDt := Aside0.mk (drop_take (fs := FW) x.nm hf)
              have HLv := Aside0.mk (show (dropF (FW.take j) x.nm).length ≤ 200 by have h_ : (dropF (FW.take j) x.nm).length ≤ (FW.take j).length := List.length_filter_le _ _; rw [List.length_take] at h_; have := HFl.out.2; omega)
              clear hf
              have M0_0 := Aside0.mk (Below.refl wr.heap.size wr)
              go_upto_region 18 with ((with_reducible refine gate_dst (N := 22) rfl ?_); refine box_event ?hgZ22 (N := 22) ?hdZ22 (cs := #[.string (⟨#[]⟩ : ByteArray), .slice none 0 0]) (t := 48) ?hrZ22 ?_; (case hdZ22 => rfl); (case hgZ22 => rfl); (case hrZ22 => first | (go_simp; done) | (go_simp; rfl)); intro g_Z hg_ w_1 hbx_ hb_; have L0_Z := Aside0.mk (show wr.heap.size ≤ g_Z by have := M0_0.out.size; omega); have M0_1 := Aside0.mk (M0_0.out.trans (hb_.mono M0_0.out.size)); have Z_1 := Aside0.mk hbx_; clear hg_ hbx_ hb_ M0_0; have zZ0 := blk_cell Z_1.out 0; have yZ0 := blk_frozen Z_1.out 0; have zZ1 := blk_cell Z_1.out 1; have yZ1 := blk_frozen Z_1.out 1; skip)
              obtain ⟨wg, e4, GF2, HBg'⟩ := fresh2 M0_1.out L0_Z.out Z_1.out (.string f.nm) (.slice f.A f.d.size f.c)
              rw [e4]
              clear e4 zZ0 zZ1 yZ0 yZ1 f0 f1
              have HBg := Aside0.mk (HBv.out.trans (HBg'.mono HBv.out.size))
              have HRg := Aside0.mk (Kd.R_below HRv.out HBg')
              have gf0 := blk_cell GF2 0
              have gf1 := blk_cell GF2 1
              have gc0 := blk_cell (blk_below GC.out HBg.out) 0
              clear GF2 HBg' HRv
              by_cases hne : f.nm = x.nm
              · have hst : (f.nm.toList == x.nm.toList) = true := by rw [hne]; exact beq_self_eq_true _
                have HDn := Aside0.mk (show dropF (FW.take (j + 1)) x.nm = dropF (FW.take j) x.nm by rw [HDt.out, if_neg (by simpa using hne), List.append_nil])
                clear hne
                go_wp2_with fail
                go_roundw
                case rel => exact ⟨j + 1, _, by omega, by go_num, rfl, by rw [HDn.out]; exact HRg, HBg⟩
                case measure => simp [intOf]; omega
              · have hst : (f.nm.toList == x.nm.toList) = false := beq_eq_false_iff_ne.2 fun e => hne (ba_ext e)
                have HDn := Aside0.mk (show dropF (FW.take (j + 1)) x.nm = dropF (FW.take j) x.nm ++ [f] by rw [HDt.out, if_pos hne])
                clear hne
                go_wp2_with ((with_reducible refine gate_builtin (b := .append) (xs := #[.tmp 107, .tmp 109]) rfl ?_); at_builtin; refine Kd.R_append kF (w0 := wc) wc.heap.size rfl (.tmp 107) (.tmp 109) 30 48 (.agg #[.string ⟨#[]⟩, .slice none 0 0]) 40 rfl Try.underlying30 info_file rfl (by decide) (by omega) (.slice Av nv cv) (dropF (FW.take j) x.nm) f [.string f.nm, .slice f.A f.d.size f.c] (fun _ => True) (fun _ => False) rfl rfl ?aPx (fun _ hk => hk.elim) ?aFx ?aOx ?aBx ?aSx ?aLx ?_; (case aPx => exact rfl); (case aFx => exact (fun _ _ => trivial)); (case aOx => exact HRg.out); (case aBx => exact HBg.out); (case aSx => exact HBg.out.size); (case aLx => have h1_ := HLv.out; omega); intro v8 w9 ho hb8 hg hat; rw [← HDn.out] at ho; have HR9 := Aside0.mk ho; have HB9 := Aside0.mk hb8; clear ho hb8 hg hat gf0 gf1 gc0; skip)
                go_roundw
                case rel => exact ⟨j + 1, _, by omega, by go_num, rfl, HR9, HB9⟩
                case measure => simp [intOf]; omega
            · obtain rfl : j = nu := by omega
              obtain ⟨wf, hwf⟩ : ∃ wf, wf = wr := ⟨_, rfl⟩
              subst hwf
              obtain ⟨NX, hNX⟩ : ∃ NX, dropF FW x.nm = NX := ⟨_, rfl⟩
              have HRn := Aside0.mk (show Kd.R kF 48 wf wc.heap.size (fun _ => True) (.slice Av nv cv) NX by have h_ := HRv.out; rw [HFl.out.1, List.take_length, hNX] at h_; exact h_)
              have GCf := Aside0.mk (blk_below GC.out HBv.out)
              have HBf := Aside0.mk (HBc.out.trans (HBv.out.mono HBc.out.size))
              have HCw := Aside0.mk (show nv = NX.length ∧ nv ≤ cv from ⟨(Kd.R_reads' HRn.out).1, (Kd.R_reads' HRn.out).2.1⟩)
              have HNl := Aside0.mk (show NX.length ≤ 200 by rw [← hNX]; exact Nat.le_trans (List.length_filter_le _ _) HFl.out.2)
              have HNe := Aside0.mk (show ∀ y ∈ NX, y.nm ≠ x.nm by rw [← hNX]; exact dropF_ne FW x.nm)
              have HNX := Aside0.mk hNX
              have hnv9 : (nv : Int) ≤ 200 := by have := HCw.out.1; have := HNl.out; omega
              have gc1 := blk_cell GCf.out 1
              have gc0 := blk_cell GCf.out 0
              clear hNX HRv
              by_cases hcut : x.cut = true
              · have HN9 := Aside0.mk (show NAt w8 wf (.slice Av nv cv) fs7 ls2 (k + 1) from ⟨by rw [HNx.out]; unfold doF; rw [if_pos hcut, HNX.out]; exact Kd.R_lower HRn.out HBc.out.size, HBf.out⟩)
                go_wp2_with fail
                go_roundw
                case rel => exact ⟨k + 1, _, by omega, by go_num, rfl, HN9⟩
                case measure => simp [intOf]; omega
              · replace hcut : x.cut = false := by simpa using hcut
                have HPut := Aside0.mk (show doAll fs7 (ls2.take (k + 1)) = NX.take (posF x.nm NX) ++ [wfe x] ++ NX.drop (posF x.nm NX) by
                  rw [HNx.out]
                  unfold doF putF
                  rw [if_neg (by rw [hcut]; decide), show (wfe x).nm = x.nm from rfl, HNX.out]
                  exact insF_pos (wfe x) NX HNe.out)
                have HCwC := Aside0.mk (fun W (hW : Below wf.heap.size wf W) => show Kd.C kF W Av nv NX from by
                  have h_ := Kd.R_reads' HRn.out
                  rw [h_.1]
                  exact Kd.C_below h_.2.2 hW)
                have HGY := Aside0.mk (show g_Y < wf.heap.size from blk_lt GCf.out)
                go_wp2_with fail
                go_loopw [23] (fun i wy => ∃ t : Nat, t ≤ posF x.nm NX ∧ i = .int .i64 t ∧ Aside0 (Below wf.heap.size wf wy)) (fun i _ => nv - (intOf i).toNat)
                case atStart => exact ⟨0, Nat.zero_le _, rfl, ⟨Below.refl _ _⟩⟩
                case round =>
                  obtain ⟨t, ht, rfl, HBy⟩ := hrel
                  have hpl := posF_le x.nm NX
                  have htl : t ≤ nv := by have := HCw.out.1; omega
                  have GCy := Aside0.mk (blk_below GCf.out HBy.out)
                  have gc0 := blk_cell GCy.out 0
                  by_cases htn : t < nv
                  · have htL : t < NX.length := by have := HCw.out.1; omega
                    have hps := posF_step x.nm NX t htL ht
                    obtain ⟨av, e3, hxv, _⟩ := at_F (HCwC.out wr HBy.out) t htn NX[t] (List.getElem?_eq_getElem htL)
                    cases e3
                    generalize (NX[t]'htL).nm = u at hxv hps
                    have hdt : decide ((t : Int) < (nv : Int)) = true := decide_eq_true (by omega)
                    by_cases hlt2 : ltS u x.nm = true
                    · have hb1 : Op.bytesLess u.toList x.nm.toList = true := hlt2
                      have hq2 := hps.1 hlt2
                      clear hps hlt2
                      go_upto_region 23 with fail
                      repeat (go_quiet (fail); try go_wp2)
                      go_wp2_with fail
                      go_roundw
                      case rel => exact ⟨t + 1, by omega, by go_num, ⟨by repeat (first | exact HBy.out | apply pw_below_drewN | apply below_drew)⟩⟩
                      case measure => simp [intOf]; omega
                    · have hb1 : Op.bytesLess u.toList x.nm.toList = false := by simpa [ltS] using hlt2
                      have HPos := Aside0.mk (show t = posF x.nm NX by have := mt hps.2 hlt2; omega)
                      clear hps hlt2 hpl
                      go_upto_region 23 with fail
                      repeat (go_quiet (fail); try go_wp2)
                      have HBq : Aside0 (Below wf.heap.size wf (wr.drewN nq)) := ⟨pw_below_drewN HBy.out nq⟩
                      have GCq : Aside0 ((wr.drewN nq).heap[g_Y]? = some (.cells #[.string x.nm, .bool x.cut, .slice x.A x.d.size x.c] 64 (0, 0))) := ⟨GCy.out⟩
                      clear HBy GCy gc0
                      generalize wr.drewN nq = wy at *
                      have hkl : t ≤ nv := by omega
                      have HGq := Aside0.mk (show g_Y < wy.heap.size from Nat.lt_of_lt_of_le HGY.out HBq.out.size)
                      obtain ⟨hto2, Hm6, HD6⟩ := to_F (some av) nv cv NX t HCw.out.1 (HCwC.out wy HBq.out) HCw.out.2 hkl
                      obtain ⟨A5, n5, c5, hcut5, Hm5, Hd5, HD5⟩ := cut_F (some av) nv cv NX t HCw.out.1 (HCwC.out wy HBq.out) HCw.out.2 hkl
                      have HBw := Aside0.mk (Below.refl wy.heap.size wy)
                      have hk0 : (t : Int) ≤ 200 := by have := HCw.out; have := HNl.out; omega
                      go_upto_region 25 with fail
                      refine start_ (n := 17) (S := fun w' => True) (ds := []) #[false, false, false, false, false, false, false, false, false, false, false, false, false, false, false, false, false] (by kernel_rfl) rfl rfl trivial (fun hHeld => ?_)
                      refine with_tabW t_mailsacklaw14_SafeAll.tab25 t_mailsacklaw14_SafeAll.bits25 (fun HT_ HW_ => ?_)
                      have hd_ := (below_drew1 (Below.refl wy.heap.size wy))
                      have n_HBw := Aside0.mk (HBw.out.trans (hd_.mono HBw.out.size))
                      have n_GCq := Aside0.mk ((show wy.drew.heap[g_Y]? = _ from GCq.out))
                      clear HBw
                      have HBw := n_HBw
                      clear n_HBw
                      clear GCq
                      have GCq := n_GCq
                      clear n_GCq
                      generalize wy.drew = w_d at *
                      clear hd_
                      refine inv_at [0, 1, 2, 3, 4, 5, 6, 7, 8, 9, 10, 11, 12, 13, 14, 15, 16] (fun a0_ b a w' => ∃ (v131 : Value) (v135 : Value) (A141 : Option Addr) (n141 : Nat) (c141 : Nat) (v142 : Value) (A146 : Option Addr) (n146 : Nat) (c146 : Nat) (m10_ : Value) (m15_ : Value) (m16_ : Value), a = putSel a0_ b [(0, 131, v131), (1, 132, .slice (some av) nv cv), (2, 133, .int .i64 (t : Int)), (3, 134, .slice (some av) t cv), (4, 135, v135), (5, 136, .pointer (some ⟨g_Y, 0, none⟩)), (6, 137, .string x.nm), (7, 138, .pointer (some ⟨g_Y, 2, none⟩)), (8, 139, .slice x.A x.d.size x.c), (9, 140, .agg #[.string x.nm, .slice x.A x.d.size x.c]), (10, 141, m10_), (11, 142, v142), (12, 143, .slice (some av) nv cv), (13, 144, .int .i64 (t : Int)), (14, 145, .slice A5 n5 c5), (15, 146, m15_), (16, 20, m16_)] ∧ (Below wy.heap.size wy w') ∧ (w'.heap[g_Y]? = some (.cells #[.string x.nm, .bool x.cut, .slice x.A x.d.size x.c] 64 (0, 0))) ∧ (b 0 = true → b 4 = false → Tg kF 48 w' wy.heap.size v131 []) ∧ (b 4 = true → b 11 = false → Tg kF 48 w' wy.heap.size v135 (NX.take t)) ∧ (b 10 = true → b 11 = false → Tg kF 48 w' wy.heap.size (.slice A141 n141 c141) [wfe x]) ∧ (b 11 = true → b 15 = false → Tg kF 48 w' wy.heap.size v142 (NX.take t ++ [wfe x])) ∧ (b 15 = true → Tg kF 48 w' wy.heap.size (.slice A146 n146 c146) (NX.take t ++ [wfe x] ++ NX.drop t)) ∧ (b 0 = true → b 10 = true → b 4 = false → AP v131 (.slice A141 n141 c141)) ∧ (b 4 = true → b 10 = true → b 11 = false → AP v135 (.slice A141 n141 c141)) ∧ (b 10 = true → (m10_ : Value) = .slice A141 n141 c141) ∧ (b 15 = true → (m15_ : Value) = .slice A146 n146 c146) ∧ (b 16 = true → (m16_ : Value) = .slice A146 n146 c146)) HT_.out HW_.out (by kernel_rfl) (by kernel_rfl) ?_ ?_ ?_
                      · exact ⟨.slice none 0 0, .slice none 0 0, none, 0, 0, .slice none 0 0, none, 0, 0, .bool false, .bool false, .bool false, by simp only [putSel, Bool.false_eq_true, if_false], HBw.out, GCq.out, fun h_ => absurd h_ (by decide), fun h_ => absurd h_ (by decide), fun h_ => absurd h_ (by decide), fun h_ => absurd h_ (by decide), fun h_ => absurd h_ (by decide), fun h_ => absurd h_ (by decide), fun h_ => absurd h_ (by decide), fun h_ => absurd h_ (by decide), fun h_ => absurd h_ (by decide), fun h_ => absurd h_ (by decide)⟩
                      · skip
                        clear GCq HBw
                        refine steps_cons ?_ ?_
                        · rintro b a w' ⟨v131, v135, A141, n141, c141, v142, A146, n146, c146, m10_, m15_, m16_, ha, Q_HBw, Q_GCq, Q_R131, Q_R135, Q_R141, Q_R142, Q_R146, Q_P1, Q_P2, Q_X10_, Q_X15_, Q_X16_⟩ hb_ hon hoff
                          refine ⟨_, rfl, fun K hK => ?_⟩
                          replace ha := Aside0.mk ha
                          have HBw := Aside0.mk Q_HBw
                          have GCq := Aside0.mk Q_GCq
                          refine Kd.R_lit_step kF (w0 := wy) (xs := []) (inner := []) (ok := fun _ => True) (okp := fun _ => False) wy.heap.size 48 (by rfl) rfl ?_ ⟨rfl, fun j p h => by simp at h⟩ (fun _ h => h.elim) trivial HBw.out HBw.out.size (by decide) ?_
                          · go_simp
                          intro v1 w1 ho hb hg hat
                          refine hK.out _ _ ⟨v1, v135, A141, n141, c141, v142, A146, n146, c146, m10_, m15_, m16_, (by rw [ha.out]; exact putSel_upk 0 hb_ rfl rfl rfl), hb, (hb_gr GCq.out hg), fun _ _ => Tg.of (d := kF) rfl ho, fun h0_ _ => absurd ((hoff 4 (by kernel_rfl)).symm.trans h0_) (by decide), fun h0_ h1_ => (Q_R141 h0_ h1_).grown_none hg, fun h0_ _ => absurd ((hoff 11 (by kernel_rfl)).symm.trans h0_) (by decide), fun h0_ => absurd ((hoff 15 (by kernel_rfl)).symm.trans h0_) (by decide), fun _ h1_ _ => ((Q_R141 h1_ (hoff 11 (by kernel_rfl))).ap_right hat).symm, fun h0_ _ _ => absurd ((hoff 4 (by kernel_rfl)).symm.trans h0_) (by decide), Q_X10_, fun h0_ => absurd ((hoff 15 (by kernel_rfl)).symm.trans h0_) (by decide), fun h0_ => absurd ((hoff 16 (by kernel_rfl)).symm.trans h0_) (by decide)⟩
                        refine steps_cons ?_ ?_
                        · rintro b a w' ⟨v131, v135, A141, n141, c141, v142, A146, n146, c146, m10_, m15_, m16_, ha, Q_HBw, Q_GCq, Q_R131, Q_R135, Q_R141, Q_R142, Q_R146, Q_P1, Q_P2, Q_X10_, Q_X15_, Q_X16_⟩ hb_ hon hoff
                          refine ⟨_, rfl, fun K hK => ?_⟩
                          have e20 : a.tmps[20]? = some (.slice (some av) nv cv) := by rw [ha]; exact (putSel_not (hoff 16 (by kernel_rfl)) rfl).trans rfl
                          replace ha := Aside0.mk ha
                          refine value_ (w1 := w') (v := .slice (some av) nv cv) (by rfl) rfl ?_ ?_
                          · go_simp
                            try first | rfl | assumption
                          refine hK.out _ _ ⟨v131, v135, A141, n141, c141, v142, A146, n146, c146, m10_, m15_, m16_, (by rw [ha.out]; exact putSel_upk 1 hb_ rfl rfl rfl), Q_HBw, Q_GCq, Q_R131, fun h0_ _ => absurd ((hoff 4 (by kernel_rfl)).symm.trans h0_) (by decide), Q_R141, fun h0_ _ => absurd ((hoff 11 (by kernel_rfl)).symm.trans h0_) (by decide), fun h0_ => absurd ((hoff 15 (by kernel_rfl)).symm.trans h0_) (by decide), Q_P1, fun h0_ _ _ => absurd ((hoff 4 (by kernel_rfl)).symm.trans h0_) (by decide), Q_X10_, fun h0_ => absurd ((hoff 15 (by kernel_rfl)).symm.trans h0_) (by decide), fun h0_ => absurd ((hoff 16 (by kernel_rfl)).symm.trans h0_) (by decide)⟩
                        refine steps_cons ?_ ?_
                        · rintro b a w' ⟨v131, v135, A141, n141, c141, v142, A146, n146, c146, m10_, m15_, m16_, ha, Q_HBw, Q_GCq, Q_R131, Q_R135, Q_R141, Q_R142, Q_R146, Q_P1, Q_P2, Q_X10_, Q_X15_, Q_X16_⟩ hb_ hon hoff
                          refine ⟨_, rfl, fun K hK => ?_⟩
                          have e23 : a.tmps[23]? = some (.int .i64 (t : Int)) := by rw [ha]; exact (putSel_off rfl).trans rfl
                          replace ha := Aside0.mk ha
                          refine value_ (w1 := w') (v := .int .i64 (t : Int)) (by rfl) rfl ?_ ?_
                          · go_simp
                            (try simp only [i64_w])
                            try first | rfl | assumption
                          refine hK.out _ _ ⟨v131, v135, A141, n141, c141, v142, A146, n146, c146, m10_, m15_, m16_, (by rw [ha.out]; exact putSel_upk 2 hb_ rfl rfl rfl), Q_HBw, Q_GCq, Q_R131, fun h0_ _ => absurd ((hoff 4 (by kernel_rfl)).symm.trans h0_) (by decide), Q_R141, fun h0_ _ => absurd ((hoff 11 (by kernel_rfl)).symm.trans h0_) (by decide), fun h0_ => absurd ((hoff 15 (by kernel_rfl)).symm.trans h0_) (by decide), Q_P1, fun h0_ _ _ => absurd ((hoff 4 (by kernel_rfl)).symm.trans h0_) (by decide), Q_X10_, fun h0_ => absurd ((hoff 15 (by kernel_rfl)).symm.trans h0_) (by decide), fun h0_ => absurd ((hoff 16 (by kernel_rfl)).symm.trans h0_) (by decide)⟩
                        refine steps_cons ?_ ?_
                        · rintro b a w' ⟨v131, v135, A141, n141, c141, v142, A146, n146, c146, m10_, m15_, m16_, ha, Q_HBw, Q_GCq, Q_R131, Q_R135, Q_R141, Q_R142, Q_R146, Q_P1, Q_P2, Q_X10_, Q_X15_, Q_X16_⟩ hb_ hon hoff
                          refine ⟨_, rfl, fun K hK => ?_⟩
                          have e132 : a.tmps[132]? = some (.slice (some av) nv cv) := by rw [ha]; exact putSel_on (e := (1, 132, .slice (some av) nv cv)) 1 rfl rfl (hon 1 (by kernel_rfl)) rfl
                          have e133 : a.tmps[133]? = some (.int .i64 (t : Int)) := by rw [ha]; exact putSel_on (e := (2, 133, .int .i64 (t : Int))) 2 rfl rfl (hon 2 (by kernel_rfl)) rfl
                          replace ha := Aside0.mk ha
                          refine value_ (w1 := w') (v := .slice (some av) t cv) (by rfl) rfl ?_ ?_
                          · go_simp
                            try first | rfl | assumption
                          refine hK.out _ _ ⟨v131, v135, A141, n141, c141, v142, A146, n146, c146, m10_, m15_, m16_, (by rw [ha.out]; exact putSel_upk 3 hb_ rfl rfl rfl), Q_HBw, Q_GCq, Q_R131, fun h0_ _ => absurd ((hoff 4 (by kernel_rfl)).symm.trans h0_) (by decide), Q_R141, fun h0_ _ => absurd ((hoff 11 (by kernel_rfl)).symm.trans h0_) (by decide), fun h0_ => absurd ((hoff 15 (by kernel_rfl)).symm.trans h0_) (by decide), Q_P1, fun h0_ _ _ => absurd ((hoff 4 (by kernel_rfl)).symm.trans h0_) (by decide), Q_X10_, fun h0_ => absurd ((hoff 15 (by kernel_rfl)).symm.trans h0_) (by decide), fun h0_ => absurd ((hoff 16 (by kernel_rfl)).symm.trans h0_) (by decide)⟩
                        refine steps_cons ?_ ?_
                        · rintro b a w' ⟨v131, v135, A141, n141, c141, v142, A146, n146, c146, m10_, m15_, m16_, ha, Q_HBw, Q_GCq, Q_R131, Q_R135, Q_R141, Q_R142, Q_R146, Q_P1, Q_P2, Q_X10_, Q_X15_, Q_X16_⟩ hb_ hon hoff
                          refine ⟨_, rfl, fun K hK => ?_⟩
                          have e131 : a.tmps[131]? = some (v131) := by rw [ha]; exact putSel_on (e := (0, 131, v131)) 0 rfl rfl (hon 0 (by kernel_rfl)) rfl
                          have e134 : a.tmps[134]? = some (.slice (some av) t cv) := by rw [ha]; exact putSel_on (e := (3, 134, .slice (some av) t cv)) 3 rfl rfl (hon 3 (by kernel_rfl)) rfl
                          replace ha := Aside0.mk ha
                          have HBw := Aside0.mk Q_HBw
                          have GCq := Aside0.mk Q_GCq
                          have R131 := Aside0.mk (Q_R131 (hon 0 (by kernel_rfl)) hb_)
                          refine Kd.R_append_rows_step kF (w0 := wy) wy.heap.size (by rfl) (.tmp 131) (.tmp 134) 30 48 (.agg #[.string ⟨#[]⟩, .slice none 0 0]) 40 rfl Try.underlying30 info_file rfl (by decide) (by omega) v131 ([]) (NX.take t) (some av) t cv (fun _ => True) (fun _ => False) (eval_of e131) (eval_of e134) R131.out.any (Kd.C_below HD6.out HBw.out) (fun _ _ h => h) (fun _ h => h.elim) (fun _ _ => trivial) HBw.out HBw.out.size (by simp only [List.length_nil]; omega) ?_
                          intro v1 w1 ho hb hg hat
                          refine hK.out _ _ ⟨v131, v1, A141, n141, c141, v142, A146, n146, c146, m10_, m15_, m16_, (by rw [ha.out]; exact putSel_upk 4 hb_ rfl rfl rfl), hb, (hb_own GCq.out hg (Kd.R_base R131.out) HGq.out), fun _ h1_ => absurd ((up_self b 4).symm.trans h1_) (by decide), fun _ _ => Tg.of (d := kF) rfl ho, fun h0_ h1_ => (Q_R141 h0_ h1_).grown hg (Q_P1 (hon 0 (by kernel_rfl)) h0_ hb_).symm, fun h0_ _ => absurd ((hoff 11 (by kernel_rfl)).symm.trans h0_) (by decide), fun h0_ => absurd ((hoff 15 (by kernel_rfl)).symm.trans h0_) (by decide), fun _ _ h2_ => absurd ((up_self b 4).symm.trans h2_) (by decide), fun _ h1_ _ => ((Q_R141 h1_ (hoff 11 (by kernel_rfl))).ap_step (Q_P1 (hon 0 (by kernel_rfl)) h1_ hb_).symm hat).symm, Q_X10_, fun h0_ => absurd ((hoff 15 (by kernel_rfl)).symm.trans h0_) (by decide), fun h0_ => absurd ((hoff 16 (by kernel_rfl)).symm.trans h0_) (by decide)⟩
                        refine steps_cons ?_ ?_
                        · rintro b a w' ⟨v131, v135, A141, n141, c141, v142, A146, n146, c146, m10_, m15_, m16_, ha, Q_HBw, Q_GCq, Q_R131, Q_R135, Q_R141, Q_R142, Q_R146, Q_P1, Q_P2, Q_X10_, Q_X15_, Q_X16_⟩ hb_ hon hoff
                          refine ⟨_, rfl, fun K hK => ?_⟩
                          have e19 : a.tmps[19]? = some (.pointer (some ⟨g_Y, 0, none⟩)) := by rw [ha]; exact (putSel_off rfl).trans rfl
                          replace ha := Aside0.mk ha
                          refine value_ (w1 := w') (v := .pointer (some ⟨g_Y, 0, none⟩)) (by rfl) rfl ?_ ?_
                          · go_simp
                            try first | rfl | assumption
                          refine hK.out _ _ ⟨v131, v135, A141, n141, c141, v142, A146, n146, c146, m10_, m15_, m16_, (by rw [ha.out]; exact putSel_upk 5 hb_ rfl rfl rfl), Q_HBw, Q_GCq, Q_R131, Q_R135, fun h0_ _ => absurd ((hoff 10 (by kernel_rfl)).symm.trans h0_) (by decide), fun h0_ _ => absurd ((hoff 11 (by kernel_rfl)).symm.trans h0_) (by decide), fun h0_ => absurd ((hoff 15 (by kernel_rfl)).symm.trans h0_) (by decide), fun _ h1_ _ => absurd ((hoff 10 (by kernel_rfl)).symm.trans h1_) (by decide), fun _ h1_ _ => absurd ((hoff 10 (by kernel_rfl)).symm.trans h1_) (by decide), fun h0_ => absurd ((hoff 10 (by kernel_rfl)).symm.trans h0_) (by decide), fun h0_ => absurd ((hoff 15 (by kernel_rfl)).symm.trans h0_) (by decide), fun h0_ => absurd ((hoff 16 (by kernel_rfl)).symm.trans h0_) (by decide)⟩
                        refine steps_cons ?_ ?_
                        · rintro b a w' ⟨v131, v135, A141, n141, c141, v142, A146, n146, c146, m10_, m15_, m16_, ha, Q_HBw, Q_GCq, Q_R131, Q_R135, Q_R141, Q_R142, Q_R146, Q_P1, Q_P2, Q_X10_, Q_X15_, Q_X16_⟩ hb_ hon hoff
                          refine ⟨_, rfl, fun K hK => ?_⟩
                          have e136 : a.tmps[136]? = some (.pointer (some ⟨g_Y, 0, none⟩)) := by rw [ha]; exact putSel_on (e := (5, 136, .pointer (some ⟨g_Y, 0, none⟩))) 5 rfl rfl (hon 5 (by kernel_rfl)) rfl
                          replace ha := Aside0.mk ha
                          have GCq := Aside0.mk Q_GCq
                          have hc0 := blk_cell GCq.out 0
                          refine value_ (w1 := w') (v := .string x.nm) (by rfl) rfl ?_ ?_
                          · go_simp
                            try first | rfl | assumption
                          refine hK.out _ _ ⟨v131, v135, A141, n141, c141, v142, A146, n146, c146, m10_, m15_, m16_, (by rw [ha.out]; exact putSel_upk 6 hb_ rfl rfl rfl), Q_HBw, Q_GCq, Q_R131, Q_R135, fun h0_ _ => absurd ((hoff 10 (by kernel_rfl)).symm.trans h0_) (by decide), fun h0_ _ => absurd ((hoff 11 (by kernel_rfl)).symm.trans h0_) (by decide), fun h0_ => absurd ((hoff 15 (by kernel_rfl)).symm.trans h0_) (by decide), fun _ h1_ _ => absurd ((hoff 10 (by kernel_rfl)).symm.trans h1_) (by decide), fun _ h1_ _ => absurd ((hoff 10 (by kernel_rfl)).symm.trans h1_) (by decide), fun h0_ => absurd ((hoff 10 (by kernel_rfl)).symm.trans h0_) (by decide), fun h0_ => absurd ((hoff 15 (by kernel_rfl)).symm.trans h0_) (by decide), fun h0_ => absurd ((hoff 16 (by kernel_rfl)).symm.trans h0_) (by decide)⟩
                        refine steps_cons ?_ ?_
                        · rintro b a w' ⟨v131, v135, A141, n141, c141, v142, A146, n146, c146, m10_, m15_, m16_, ha, Q_HBw, Q_GCq, Q_R131, Q_R135, Q_R141, Q_R142, Q_R146, Q_P1, Q_P2, Q_X10_, Q_X15_, Q_X16_⟩ hb_ hon hoff
                          refine ⟨_, rfl, fun K hK => ?_⟩
                          have e19 : a.tmps[19]? = some (.pointer (some ⟨g_Y, 0, none⟩)) := by rw [ha]; exact (putSel_off rfl).trans rfl
                          replace ha := Aside0.mk ha
                          refine value_ (w1 := w') (v := .pointer (some ⟨g_Y, 2, none⟩)) (by rfl) rfl ?_ ?_
                          · go_simp
                            try first | rfl | assumption
                          refine hK.out _ _ ⟨v131, v135, A141, n141, c141, v142, A146, n146, c146, m10_, m15_, m16_, (by rw [ha.out]; exact putSel_upk 7 hb_ rfl rfl rfl), Q_HBw, Q_GCq, Q_R131, Q_R135, fun h0_ _ => absurd ((hoff 10 (by kernel_rfl)).symm.trans h0_) (by decide), fun h0_ _ => absurd ((hoff 11 (by kernel_rfl)).symm.trans h0_) (by decide), fun h0_ => absurd ((hoff 15 (by kernel_rfl)).symm.trans h0_) (by decide), fun _ h1_ _ => absurd ((hoff 10 (by kernel_rfl)).symm.trans h1_) (by decide), fun _ h1_ _ => absurd ((hoff 10 (by kernel_rfl)).symm.trans h1_) (by decide), fun h0_ => absurd ((hoff 10 (by kernel_rfl)).symm.trans h0_) (by decide), fun h0_ => absurd ((hoff 15 (by kernel_rfl)).symm.trans h0_) (by decide), fun h0_ => absurd ((hoff 16 (by kernel_rfl)).symm.trans h0_) (by decide)⟩
                        refine steps_cons ?_ ?_
                        · rintro b a w' ⟨v131, v135, A141, n141, c141, v142, A146, n146, c146, m10_, m15_, m16_, ha, Q_HBw, Q_GCq, Q_R131, Q_R135, Q_R141, Q_R142, Q_R146, Q_P1, Q_P2, Q_X10_, Q_X15_, Q_X16_⟩ hb_ hon hoff
                          refine ⟨_, rfl, fun K hK => ?_⟩
                          have e138 : a.tmps[138]? = some (.pointer (some ⟨g_Y, 2, none⟩)) := by rw [ha]; exact putSel_on (e := (7, 138, .pointer (some ⟨g_Y, 2, none⟩))) 7 rfl rfl (hon 7 (by kernel_rfl)) rfl
                          replace ha := Aside0.mk ha
                          have GCq := Aside0.mk Q_GCq
                          have hc0 := blk_cell GCq.out 2
                          refine value_ (w1 := w') (v := .slice x.A x.d.size x.c) (by rfl) rfl ?_ ?_
                          · go_simp
                            try first | rfl | assumption
                          refine hK.out _ _ ⟨v131, v135, A141, n141, c141, v142, A146, n146, c146, m10_, m15_, m16_, (by rw [ha.out]; exact putSel_upk 8 hb_ rfl rfl rfl), Q_HBw, Q_GCq, Q_R131, Q_R135, fun h0_ _ => absurd ((hoff 10 (by kernel_rfl)).symm.trans h0_) (by decide), fun h0_ _ => absurd ((hoff 11 (by kernel_rfl)).symm.trans h0_) (by decide), fun h0_ => absurd ((hoff 15 (by kernel_rfl)).symm.trans h0_) (by decide), fun _ h1_ _ => absurd ((hoff 10 (by kernel_rfl)).symm.trans h1_) (by decide), fun _ h1_ _ => absurd ((hoff 10 (by kernel_rfl)).symm.trans h1_) (by decide), fun h0_ => absurd ((hoff 10 (by kernel_rfl)).symm.trans h0_) (by decide), fun h0_ => absurd ((hoff 15 (by kernel_rfl)).symm.trans h0_) (by decide), fun h0_ => absurd ((hoff 16 (by kernel_rfl)).symm.trans h0_) (by decide)⟩
                        refine steps_cons ?_ ?_
                        · rintro b a w' ⟨v131, v135, A141, n141, c141, v142, A146, n146, c146, m10_, m15_, m16_, ha, Q_HBw, Q_GCq, Q_R131, Q_R135, Q_R141, Q_R142, Q_R146, Q_P1, Q_P2, Q_X10_, Q_X15_, Q_X16_⟩ hb_ hon hoff
                          refine ⟨_, rfl, fun K hK => ?_⟩
                          have e137 : a.tmps[137]? = some (.string x.nm) := by rw [ha]; exact putSel_on (e := (6, 137, .string x.nm)) 6 rfl rfl (hon 6 (by kernel_rfl)) rfl
                          have e139 : a.tmps[139]? = some (.slice x.A x.d.size x.c) := by rw [ha]; exact putSel_on (e := (8, 139, .slice x.A x.d.size x.c)) 8 rfl rfl (hon 8 (by kernel_rfl)) rfl
                          replace ha := Aside0.mk ha
                          refine value_ (w1 := w') (v := .agg #[.string x.nm, .slice x.A x.d.size x.c]) (by rfl) rfl ?_ ?_
                          · go_simp
                            try first | rfl | assumption
                          refine hK.out _ _ ⟨v131, v135, A141, n141, c141, v142, A146, n146, c146, m10_, m15_, m16_, (by rw [ha.out]; exact putSel_upk 9 hb_ rfl rfl rfl), Q_HBw, Q_GCq, Q_R131, Q_R135, fun h0_ _ => absurd ((hoff 10 (by kernel_rfl)).symm.trans h0_) (by decide), fun h0_ _ => absurd ((hoff 11 (by kernel_rfl)).symm.trans h0_) (by decide), fun h0_ => absurd ((hoff 15 (by kernel_rfl)).symm.trans h0_) (by decide), fun _ h1_ _ => absurd ((hoff 10 (by kernel_rfl)).symm.trans h1_) (by decide), fun _ h1_ _ => absurd ((hoff 10 (by kernel_rfl)).symm.trans h1_) (by decide), fun h0_ => absurd ((hoff 10 (by kernel_rfl)).symm.trans h0_) (by decide), fun h0_ => absurd ((hoff 15 (by kernel_rfl)).symm.trans h0_) (by decide), fun h0_ => absurd ((hoff 16 (by kernel_rfl)).symm.trans h0_) (by decide)⟩
                        refine steps_cons ?_ ?_
                        · rintro b a w' ⟨v131, v135, A141, n141, c141, v142, A146, n146, c146, m10_, m15_, m16_, ha, Q_HBw, Q_GCq, Q_R131, Q_R135, Q_R141, Q_R142, Q_R146, Q_P1, Q_P2, Q_X10_, Q_X15_, Q_X16_⟩ hb_ hon hoff
                          refine ⟨_, rfl, fun K hK => ?_⟩
                          have e140 : a.tmps[140]? = some (.agg #[.string x.nm, .slice x.A x.d.size x.c]) := by rw [ha]; exact putSel_on (e := (9, 140, .agg #[.string x.nm, .slice x.A x.d.size x.c])) 9 rfl rfl (hon 9 (by kernel_rfl)) rfl
                          replace ha := Aside0.mk ha
                          have HBw := Aside0.mk Q_HBw
                          have GCq := Aside0.mk Q_GCq
                          refine Kd.R_lit_step kF (w0 := wy) (xs := [wfe x]) (inner := [.string x.nm, .slice x.A x.d.size x.c]) (ok := fun _ => True) (okp := fun _ => False) wy.heap.size 48 (by rfl) rfl ?_ (reps_file _ _ _ (wfe x)) (fun _ h => h.elim) trivial HBw.out HBw.out.size (by simp) ?_
                          · go_simp
                          intro v1 w1 ho hb hg hat
                          obtain ⟨A9', n9', c9', rfl⟩ := RkH.slc ho
                          refine hK.out _ _ ⟨v131, v135, A9', n9', c9', v142, A146, n146, c146, (.slice A9' n9' c9'), m15_, m16_, (by rw [ha.out]; exact putSel_upk 10 hb_ rfl rfl rfl), hb, (hb_gr GCq.out hg), fun h0_ h1_ => (Q_R131 h0_ h1_).grown_none hg, fun h0_ h1_ => (Q_R135 h0_ h1_).grown_none hg, fun _ _ => Tg.of (d := kF) rfl ho, fun h0_ _ => absurd ((hoff 11 (by kernel_rfl)).symm.trans h0_) (by decide), fun h0_ => absurd ((hoff 15 (by kernel_rfl)).symm.trans h0_) (by decide), fun h0_ _ h2_ => (Q_R131 h0_ h2_).ap_right hat, fun h0_ _ h2_ => (Q_R135 h0_ h2_).ap_right hat, fun _ => rfl, fun h0_ => absurd ((hoff 15 (by kernel_rfl)).symm.trans h0_) (by decide), fun h0_ => absurd ((hoff 16 (by kernel_rfl)).symm.trans h0_) (by decide)⟩
                        refine steps_cons ?_ ?_
                        · rintro b a w' ⟨v131, v135, A141, n141, c141, v142, A146, n146, c146, m10_, m15_, m16_, ha, Q_HBw, Q_GCq, Q_R131, Q_R135, Q_R141, Q_R142, Q_R146, Q_P1, Q_P2, Q_X10_, Q_X15_, Q_X16_⟩ hb_ hon hoff
                          refine ⟨_, rfl, fun K hK => ?_⟩
                          have e135 : a.tmps[135]? = some (v135) := by rw [ha]; exact putSel_on (e := (4, 135, v135)) 4 rfl rfl (hon 4 (by kernel_rfl)) rfl
                          have e141 : a.tmps[141]? = some (m10_) := by rw [ha]; exact putSel_on (e := (10, 141, m10_)) 10 rfl rfl (hon 10 (by kernel_rfl)) rfl
                          rw [Q_X10_ (hon 10 (by kernel_rfl))] at e141
                          replace ha := Aside0.mk ha
                          have HBw := Aside0.mk Q_HBw
                          have GCq := Aside0.mk Q_GCq
                          have R135 := Aside0.mk (Q_R135 (hon 4 (by kernel_rfl)) hb_)
                          have R141 := Aside0.mk (Q_R141 (hon 10 (by kernel_rfl)) hb_)
                          refine Kd.R_append_rows_step kF (w0 := wy) wy.heap.size (by rfl) (.tmp 135) (.tmp 141) 30 48 (.agg #[.string ⟨#[]⟩, .slice none 0 0]) 40 rfl Try.underlying30 info_file rfl (by decide) (by omega) v135 (NX.take t) [wfe x] A141 n141 c141 (fun _ => True) (fun _ => False) (eval_of e135) (eval_of e141) R135.out.any (tg_C R141.out).2.2 (fun _ _ h => h) (fun _ h => h.elim) (fun _ _ => trivial) HBw.out HBw.out.size (by have h1_ := (tg_C R141.out).1; rw [List.length_singleton] at h1_; rw [List.length_take]; omega) ?_
                          intro v1 w1 ho hb hg hat
                          refine hK.out _ _ ⟨v131, v135, A141, n141, c141, v1, A146, n146, c146, m10_, m15_, m16_, (by rw [ha.out]; exact putSel_upk 11 hb_ rfl rfl rfl), hb, (hb_own GCq.out hg (Kd.R_base R135.out) HGq.out), fun _ h1_ => absurd ((hon 4 (by kernel_rfl)).symm.trans h1_) (by decide), fun _ h1_ => absurd ((up_self b 11).symm.trans h1_) (by decide), fun _ h1_ => absurd ((up_self b 11).symm.trans h1_) (by decide), fun _ _ => Tg.of (d := kF) rfl ho, fun h0_ => absurd ((hoff 15 (by kernel_rfl)).symm.trans h0_) (by decide), fun _ _ h2_ => absurd ((hon 4 (by kernel_rfl)).symm.trans h2_) (by decide), fun _ _ h2_ => absurd ((up_self b 11).symm.trans h2_) (by decide), Q_X10_, fun h0_ => absurd ((hoff 15 (by kernel_rfl)).symm.trans h0_) (by decide), fun h0_ => absurd ((hoff 16 (by kernel_rfl)).symm.trans h0_) (by decide)⟩
                        refine steps_cons ?_ ?_
                        · rintro b a w' ⟨v131, v135, A141, n141, c141, v142, A146, n146, c146, m10_, m15_, m16_, ha, Q_HBw, Q_GCq, Q_R131, Q_R135, Q_R141, Q_R142, Q_R146, Q_P1, Q_P2, Q_X10_, Q_X15_, Q_X16_⟩ hb_ hon hoff
                          refine ⟨_, rfl, fun K hK => ?_⟩
                          have e20 : a.tmps[20]? = some (.slice (some av) nv cv) := by rw [ha]; exact (putSel_not (hoff 16 (by kernel_rfl)) rfl).trans rfl
                          replace ha := Aside0.mk ha
                          refine value_ (w1 := w') (v := .slice (some av) nv cv) (by rfl) rfl ?_ ?_
                          · go_simp
                            try first | rfl | assumption
                          refine hK.out _ _ ⟨v131, v135, A141, n141, c141, v142, A146, n146, c146, m10_, m15_, m16_, (by rw [ha.out]; exact putSel_upk 12 hb_ rfl rfl rfl), Q_HBw, Q_GCq, Q_R131, Q_R135, Q_R141, Q_R142, fun h0_ => absurd ((hoff 15 (by kernel_rfl)).symm.trans h0_) (by decide), Q_P1, Q_P2, Q_X10_, fun h0_ => absurd ((hoff 15 (by kernel_rfl)).symm.trans h0_) (by decide), fun h0_ => absurd ((hoff 16 (by kernel_rfl)).symm.trans h0_) (by decide)⟩
                        refine steps_cons ?_ ?_
                        · rintro b a w' ⟨v131, v135, A141, n141, c141, v142, A146, n146, c146, m10_, m15_, m16_, ha, Q_HBw, Q_GCq, Q_R131, Q_R135, Q_R141, Q_R142, Q_R146, Q_P1, Q_P2, Q_X10_, Q_X15_, Q_X16_⟩ hb_ hon hoff
                          refine ⟨_, rfl, fun K hK => ?_⟩
                          have e23 : a.tmps[23]? = some (.int .i64 (t : Int)) := by rw [ha]; exact (putSel_off rfl).trans rfl
                          replace ha := Aside0.mk ha
                          refine value_ (w1 := w') (v := .int .i64 (t : Int)) (by rfl) rfl ?_ ?_
                          · go_simp
                            (try simp only [i64_w])
                            try first | rfl | assumption
                          refine hK.out _ _ ⟨v131, v135, A141, n141, c141, v142, A146, n146, c146, m10_, m15_, m16_, (by rw [ha.out]; exact putSel_upk 13 hb_ rfl rfl rfl), Q_HBw, Q_GCq, Q_R131, Q_R135, Q_R141, Q_R142, fun h0_ => absurd ((hoff 15 (by kernel_rfl)).symm.trans h0_) (by decide), Q_P1, Q_P2, Q_X10_, fun h0_ => absurd ((hoff 15 (by kernel_rfl)).symm.trans h0_) (by decide), fun h0_ => absurd ((hoff 16 (by kernel_rfl)).symm.trans h0_) (by decide)⟩
                        refine steps_cons ?_ ?_
                        · rintro b a w' ⟨v131, v135, A141, n141, c141, v142, A146, n146, c146, m10_, m15_, m16_, ha, Q_HBw, Q_GCq, Q_R131, Q_R135, Q_R141, Q_R142, Q_R146, Q_P1, Q_P2, Q_X10_, Q_X15_, Q_X16_⟩ hb_ hon hoff
                          refine ⟨_, rfl, fun K hK => ?_⟩
                          have e143 : a.tmps[143]? = some (.slice (some av) nv cv) := by rw [ha]; exact putSel_on (e := (12, 143, .slice (some av) nv cv)) 12 rfl rfl (hon 12 (by kernel_rfl)) rfl
                          have e144 : a.tmps[144]? = some (.int .i64 (t : Int)) := by rw [ha]; exact putSel_on (e := (13, 144, .int .i64 (t : Int))) 13 rfl rfl (hon 13 (by kernel_rfl)) rfl
                          replace ha := Aside0.mk ha
                          refine value_ (w1 := w') (v := .slice A5 n5 c5) (by rfl) rfl ?_ ?_
                          · go_simp
                            try first | rfl | assumption
                          refine hK.out _ _ ⟨v131, v135, A141, n141, c141, v142, A146, n146, c146, m10_, m15_, m16_, (by rw [ha.out]; exact putSel_upk 14 hb_ rfl rfl rfl), Q_HBw, Q_GCq, Q_R131, Q_R135, Q_R141, Q_R142, fun h0_ => absurd ((hoff 15 (by kernel_rfl)).symm.trans h0_) (by decide), Q_P1, Q_P2, Q_X10_, fun h0_ => absurd ((hoff 15 (by kernel_rfl)).symm.trans h0_) (by decide), fun h0_ => absurd ((hoff 16 (by kernel_rfl)).symm.trans h0_) (by decide)⟩
                        refine steps_cons ?_ ?_
                        · rintro b a w' ⟨v131, v135, A141, n141, c141, v142, A146, n146, c146, m10_, m15_, m16_, ha, Q_HBw, Q_GCq, Q_R131, Q_R135, Q_R141, Q_R142, Q_R146, Q_P1, Q_P2, Q_X10_, Q_X15_, Q_X16_⟩ hb_ hon hoff
                          refine ⟨_, rfl, fun K hK => ?_⟩
                          have e142 : a.tmps[142]? = some (v142) := by rw [ha]; exact putSel_on (e := (11, 142, v142)) 11 rfl rfl (hon 11 (by kernel_rfl)) rfl
                          have e145 : a.tmps[145]? = some (.slice A5 n5 c5) := by rw [ha]; exact putSel_on (e := (14, 145, .slice A5 n5 c5)) 14 rfl rfl (hon 14 (by kernel_rfl)) rfl
                          replace ha := Aside0.mk ha
                          have HBw := Aside0.mk Q_HBw
                          have GCq := Aside0.mk Q_GCq
                          have R142 := Aside0.mk (Q_R142 (hon 11 (by kernel_rfl)) hb_)
                          refine Kd.R_append_rows_step kF (w0 := wy) wy.heap.size (by rfl) (.tmp 142) (.tmp 145) 30 48 (.agg #[.string ⟨#[]⟩, .slice none 0 0]) 40 rfl Try.underlying30 info_file rfl (by decide) (by omega) v142 (NX.take t ++ [wfe x]) (NX.drop t) A5 n5 c5 (fun _ => True) (fun _ => False) (eval_of e142) (eval_of e145) R142.out.any (Kd.C_below HD5.out HBw.out) (fun _ _ h => h) (fun _ h => h.elim) (fun _ _ => trivial) HBw.out HBw.out.size (by have h1_ := Hm5.out; rw [List.length_drop] at h1_; have := HNl.out; rw [List.length_append, List.length_take, List.length_singleton]; omega) ?_
                          intro v1 w1 ho hb hg hat
                          obtain ⟨A9', n9', c9', rfl⟩ := RkH.slc ho
                          refine hK.out _ _ ⟨v131, v135, A141, n141, c141, v142, A9', n9', c9', m10_, (.slice A9' n9' c9'), m16_, (by rw [ha.out]; exact putSel_upk 15 hb_ rfl rfl rfl), hb, (hb_own GCq.out hg (Kd.R_base R142.out) HGq.out), fun _ h1_ => absurd ((hon 4 (by kernel_rfl)).symm.trans h1_) (by decide), fun _ h1_ => absurd ((hon 11 (by kernel_rfl)).symm.trans h1_) (by decide), fun _ h1_ => absurd ((hon 11 (by kernel_rfl)).symm.trans h1_) (by decide), fun _ h1_ => absurd ((up_self b 15).symm.trans h1_) (by decide), fun _ => Tg.of (d := kF) rfl ho, fun _ _ h2_ => absurd ((hon 4 (by kernel_rfl)).symm.trans h2_) (by decide), fun _ _ h2_ => absurd ((hon 11 (by kernel_rfl)).symm.trans h2_) (by decide), Q_X10_, fun _ => rfl, fun h0_ => absurd ((hoff 16 (by kernel_rfl)).symm.trans h0_) (by decide)⟩
                        refine steps_cons ?_ ?_
                        · rintro b a w' ⟨v131, v135, A141, n141, c141, v142, A146, n146, c146, m10_, m15_, m16_, ha, Q_HBw, Q_GCq, Q_R131, Q_R135, Q_R141, Q_R142, Q_R146, Q_P1, Q_P2, Q_X10_, Q_X15_, Q_X16_⟩ hb_ hon hoff
                          refine ⟨_, rfl, fun K hK => ?_⟩
                          have e146 : a.tmps[146]? = some (m15_) := by rw [ha]; exact putSel_on (e := (15, 146, m15_)) 15 rfl rfl (hon 15 (by kernel_rfl)) rfl
                          rw [Q_X15_ (hon 15 (by kernel_rfl))] at e146
                          replace ha := Aside0.mk ha
                          refine value_ (w1 := w') (v := .slice A146 n146 c146) (by rfl) rfl ?_ ?_
                          · go_simp
                            try first | rfl | assumption
                          refine hK.out _ _ ⟨v131, v135, A141, n141, c141, v142, A146, n146, c146, m10_, m15_, (.slice A146 n146 c146), (by rw [ha.out]; exact putSel_upk 16 hb_ rfl rfl rfl), Q_HBw, Q_GCq, fun _ h1_ => absurd ((hon 4 (by kernel_rfl)).symm.trans h1_) (by decide), fun _ h1_ => absurd ((hon 11 (by kernel_rfl)).symm.trans h1_) (by decide), fun _ h1_ => absurd ((hon 11 (by kernel_rfl)).symm.trans h1_) (by decide), fun _ h1_ => absurd ((hon 15 (by kernel_rfl)).symm.trans h1_) (by decide), Q_R146, fun _ _ h2_ => absurd ((hon 4 (by kernel_rfl)).symm.trans h2_) (by decide), fun _ _ h2_ => absurd ((hon 11 (by kernel_rfl)).symm.trans h2_) (by decide), Q_X10_, Q_X15_, fun _ => rfl⟩
                        exact steps_nil
                      rintro b a w_8 hall ⟨v131, v135, A141, n141, c141, v142, A146, n146, c146, m10_, m15_, m16_, ha, Q_HBw, Q_GCq, Q_R131, Q_R135, Q_R141, Q_R142, Q_R146, Q_P1, Q_P2, Q_X10_, Q_X15_, Q_X16_⟩
                      clear GCq HBw
                      have hb0_ := hall 0 (by kernel_rfl)
                      have hb1_ := hall 1 (by kernel_rfl)
                      have hb2_ := hall 2 (by kernel_rfl)
                      have hb3_ := hall 3 (by kernel_rfl)
                      have hb4_ := hall 4 (by kernel_rfl)
                      have hb5_ := hall 5 (by kernel_rfl)
                      have hb6_ := hall 6 (by kernel_rfl)
                      have hb7_ := hall 7 (by kernel_rfl)
                      have hb8_ := hall 8 (by kernel_rfl)
                      have hb9_ := hall 9 (by kernel_rfl)
                      have hb10_ := hall 10 (by kernel_rfl)
                      have hb11_ := hall 11 (by kernel_rfl)
                      have hb12_ := hall 12 (by kernel_rfl)
                      have hb13_ := hall 13 (by kernel_rfl)
                      have hb14_ := hall 14 (by kernel_rfl)
                      have hb15_ := hall 15 (by kernel_rfl)
                      have hb16_ := hall 16 (by kernel_rfl)
                      subst ha
                      obtain rfl := Q_X10_ hb10_
                      obtain rfl := Q_X15_ hb15_
                      obtain rfl := Q_X16_ hb16_
                      simp only [putSel, hb0_, hb1_, hb2_, hb3_, hb4_, hb5_, hb6_, hb7_, hb8_, hb9_, hb10_, hb11_, hb12_, hb13_, hb14_, hb15_, hb16_, if_true, Act.put, List.setIfInBounds_toArray, List.set_cons_zero, List.set_cons_succ]
                      have HBw := Aside0.mk Q_HBw
                      clear Q_HBw
                      have GCq := Aside0.mk Q_GCq
                      clear Q_GCq
                      clear Q_R131
                      clear Q_R135
                      clear Q_R141
                      clear Q_R142
                      have R146 := Aside0.mk (Q_R146 hb15_)
                      clear Q_R146
                      clear Q_P1
                      clear Q_P2
                      clear hall hb0_ hb1_ hb2_ hb3_ hb4_ hb5_ hb6_ hb7_ hb8_ hb9_ hb10_ hb11_ hb12_ hb13_ hb14_ hb15_ hb16_
                      have HN9 := Aside0.mk (show NAt w8 w_8 (.slice A146 n146 c146) fs7 ls2 (k + 1) from ⟨by
                        rw [HPut.out, ← HPos.out]
                        exact Kd.R_lower R146.out.any (Nat.le_trans HBf.out.size HBq.out.size), HBf.out.trans ((HBq.out.trans (HBw.out.mono HBq.out.size)).mono HBf.out.size)⟩)
                      clear R146 hto2 hcut5
                      go_wp2_with fail
                      go_roundw
                      case rel => exact ⟨k + 1, _, by omega, by go_num, rfl, HN9⟩
                      case measure => simp [intOf]; omega
                  · have HPos := Aside0.mk (show t = posF x.nm NX by have := HCw.out.1; omega)
                    have hdt : decide ((t : Int) < (nv : Int)) = false := decide_eq_false (by omega)
                    clear hpl
                    go_upto_region 23 with fail
                    repeat (go_quiet (fail); try go_wp2)
                    have HBq : Aside0 (Below wf.heap.size wf (wr.drewN nq)) := ⟨pw_below_drewN HBy.out nq⟩
                    have GCq : Aside0 ((wr.drewN nq).heap[g_Y]? = some (.cells #[.string x.nm, .bool x.cut, .slice x.A x.d.size x.c] 64 (0, 0))) := ⟨GCy.out⟩
                    clear HBy GCy gc0
                    generalize wr.drewN nq = wy at *
                    have hkl : t ≤ nv := by omega
                    have HGq := Aside0.mk (show g_Y < wy.heap.size from Nat.lt_of_lt_of_le HGY.out HBq.out.size)
                    obtain ⟨hto2, Hm6, HD6⟩ := to_F Av nv cv NX t HCw.out.1 (HCwC.out wy HBq.out) HCw.out.2 hkl
                    obtain ⟨A5, n5, c5, hcut5, Hm5, Hd5, HD5⟩ := cut_F Av nv cv NX t HCw.out.1 (HCwC.out wy HBq.out) HCw.out.2 hkl
                    have HBw := Aside0.mk (Below.refl wy.heap.size wy)
                    have hk0 : (t : Int) ≤ 200 := by have := HCw.out; have := HNl.out; omega
                    go_upto_region 25 with fail
                    refine start_ (n := 17) (S := fun w' => True) (ds := []) #[false, false, false, false, false, false, false, false, false, false, false, false, false, false, false, false, false] (by kernel_rfl) rfl rfl trivial (fun hHeld => ?_)
                    refine with_tabW t_mailsacklaw14_SafeAll.tab25 t_mailsacklaw14_SafeAll.bits25 (fun HT_ HW_ => ?_)
                    have hd_ := (below_drew1 (Below.refl wy.heap.size wy))
                    have n_HBw := Aside0.mk (HBw.out.trans (hd_.mono HBw.out.size))
                    have n_GCq := Aside0.mk ((show wy.drew.heap[g_Y]? = _ from GCq.out))
                    clear HBw
                    have HBw := n_HBw
                    clear n_HBw
                    clear GCq
                    have GCq := n_GCq
                    clear n_GCq
                    generalize wy.drew = w_d at *
                    clear hd_
                    refine inv_at [0, 1, 2, 3, 4, 5, 6, 7, 8, 9, 10, 11, 12, 13, 14, 15, 16] (fun a0_ b a w' => ∃ (v131 : Value) (v135 : Value) (A141 : Option Addr) (n141 : Nat) (c141 : Nat) (v142 : Value) (A146 : Option Addr) (n146 : Nat) (c146 : Nat) (m10_ : Value) (m15_ : Value) (m16_ : Value), a = putSel a0_ b [(0, 131, v131), (1, 132, .slice Av nv cv), (2, 133, .int .i64 (t : Int)), (3, 134, .slice Av t cv), (4, 135, v135), (5, 136, .pointer (some ⟨g_Y, 0, none⟩)), (6, 137, .string x.nm), (7, 138, .pointer (some ⟨g_Y, 2, none⟩)), (8, 139, .slice x.A x.d.size x.c), (9, 140, .agg #[.string x.nm, .slice x.A x.d.size x.c]), (10, 141, m10_), (11, 142, v142), (12, 143, .slice Av nv cv), (13, 144, .int .i64 (t : Int)), (14, 145, .slice A5 n5 c5), (15, 146, m15_), (16, 20, m16_)] ∧ (Below wy.heap.size wy w') ∧ (w'.heap[g_Y]? = some (.cells #[.string x.nm, .bool x.cut, .slice x.A x.d.size x.c] 64 (0, 0))) ∧ (b 0 = true → b 4 = false → Tg kF 48 w' wy.heap.size v131 []) ∧ (b 4 = true → b 11 = false → Tg kF 48 w' wy.heap.size v135 (NX.take t)) ∧ (b 10 = true → b 11 = false → Tg kF 48 w' wy.heap.size (.slice A141 n141 c141) [wfe x]) ∧ (b 11 = true → b 15 = false → Tg kF 48 w' wy.heap.size v142 (NX.take t ++ [wfe x])) ∧ (b 15 = true → Tg kF 48 w' wy.heap.size (.slice A146 n146 c146) (NX.take t ++ [wfe x] ++ NX.drop t)) ∧ (b 0 = true → b 10 = true → b 4 = false → AP v131 (.slice A141 n141 c141)) ∧ (b 4 = true → b 10 = true → b 11 = false → AP v135 (.slice A141 n141 c141)) ∧ (b 10 = true → (m10_ : Value) = .slice A141 n141 c141) ∧ (b 15 = true → (m15_ : Value) = .slice A146 n146 c146) ∧ (b 16 = true → (m16_ : Value) = .slice A146 n146 c146)) HT_.out HW_.out (by kernel_rfl) (by kernel_rfl) ?_ ?_ ?_
                    · exact ⟨.slice none 0 0, .slice none 0 0, none, 0, 0, .slice none 0 0, none, 0, 0, .bool false, .bool false, .bool false, by simp only [putSel, Bool.false_eq_true, if_false], HBw.out, GCq.out, fun h_ => absurd h_ (by decide), fun h_ => absurd h_ (by decide), fun h_ => absurd h_ (by decide), fun h_ => absurd h_ (by decide), fun h_ => absurd h_ (by decide), fun h_ => absurd h_ (by decide), fun h_ => absurd h_ (by decide), fun h_ => absurd h_ (by decide), fun h_ => absurd h_ (by decide), fun h_ => absurd h_ (by decide)⟩
                    · skip
                      clear GCq HBw
                      refine steps_cons ?_ ?_
                      · rintro b a w' ⟨v131, v135, A141, n141, c141, v142, A146, n146, c146, m10_, m15_, m16_, ha, Q_HBw, Q_GCq, Q_R131, Q_R135, Q_R141, Q_R142, Q_R146, Q_P1, Q_P2, Q_X10_, Q_X15_, Q_X16_⟩ hb_ hon hoff
                        refine ⟨_, rfl, fun K hK => ?_⟩
                        replace ha := Aside0.mk ha
                        have HBw := Aside0.mk Q_HBw
                        have GCq := Aside0.mk Q_GCq
                        refine Kd.R_lit_step kF (w0 := wy) (xs := []) (inner := []) (ok := fun _ => True) (okp := fun _ => False) wy.heap.size 48 (by rfl) rfl ?_ ⟨rfl, fun j p h => by simp at h⟩ (fun _ h => h.elim) trivial HBw.out HBw.out.size (by decide) ?_
                        · go_simp
                        intro v1 w1 ho hb hg hat
                        refine hK.out _ _ ⟨v1, v135, A141, n141, c141, v142, A146, n146, c146, m10_, m15_, m16_, (by rw [ha.out]; exact putSel_upk 0 hb_ rfl rfl rfl), hb, (hb_gr GCq.out hg), fun _ _ => Tg.of (d := kF) rfl ho, fun h0_ _ => absurd ((hoff 4 (by kernel_rfl)).symm.trans h0_) (by decide), fun h0_ h1_ => (Q_R141 h0_ h1_).grown_none hg, fun h0_ _ => absurd ((hoff 11 (by kernel_rfl)).symm.trans h0_) (by decide), fun h0_ => absurd ((hoff 15 (by kernel_rfl)).symm.trans h0_) (by decide), fun _ h1_ _ => ((Q_R141 h1_ (hoff 11 (by kernel_rfl))).ap_right hat).symm, fun h0_ _ _ => absurd ((hoff 4 (by kernel_rfl)).symm.trans h0_) (by decide), Q_X10_, fun h0_ => absurd ((hoff 15 (by kernel_rfl)).symm.trans h0_) (by decide), fun h0_ => absurd ((hoff 16 (by kernel_rfl)).symm.trans h0_) (by decide)⟩
                      refine steps_cons ?_ ?_
                      · rintro b a w' ⟨v131, v135, A141, n141, c141, v142, A146, n146, c146, m10_, m15_, m16_, ha, Q_HBw, Q_GCq, Q_R131, Q_R135, Q_R141, Q_R142, Q_R146, Q_P1, Q_P2, Q_X10_, Q_X15_, Q_X16_⟩ hb_ hon hoff
                        refine ⟨_, rfl, fun K hK => ?_⟩
                        have e20 : a.tmps[20]? = some (.slice Av nv cv) := by rw [ha]; exact (putSel_not (hoff 16 (by kernel_rfl)) rfl).trans rfl
                        replace ha := Aside0.mk ha
                        refine value_ (w1 := w') (v := .slice Av nv cv) (by rfl) rfl ?_ ?_
                        · go_simp
                          try first | rfl | assumption
                        refine hK.out _ _ ⟨v131, v135, A141, n141, c141, v142, A146, n146, c146, m10_, m15_, m16_, (by rw [ha.out]; exact putSel_upk 1 hb_ rfl rfl rfl), Q_HBw, Q_GCq, Q_R131, fun h0_ _ => absurd ((hoff 4 (by kernel_rfl)).symm.trans h0_) (by decide), Q_R141, fun h0_ _ => absurd ((hoff 11 (by kernel_rfl)).symm.trans h0_) (by decide), fun h0_ => absurd ((hoff 15 (by kernel_rfl)).symm.trans h0_) (by decide), Q_P1, fun h0_ _ _ => absurd ((hoff 4 (by kernel_rfl)).symm.trans h0_) (by decide), Q_X10_, fun h0_ => absurd ((hoff 15 (by kernel_rfl)).symm.trans h0_) (by decide), fun h0_ => absurd ((hoff 16 (by kernel_rfl)).symm.trans h0_) (by decide)⟩
                      refine steps_cons ?_ ?_
                      · rintro b a w' ⟨v131, v135, A141, n141, c141, v142, A146, n146, c146, m10_, m15_, m16_, ha, Q_HBw, Q_GCq, Q_R131, Q_R135, Q_R141, Q_R142, Q_R146, Q_P1, Q_P2, Q_X10_, Q_X15_, Q_X16_⟩ hb_ hon hoff
                        refine ⟨_, rfl, fun K hK => ?_⟩
                        have e23 : a.tmps[23]? = some (.int .i64 (t : Int)) := by rw [ha]; exact (putSel_off rfl).trans rfl
                        replace ha := Aside0.mk ha
                        refine value_ (w1 := w') (v := .int .i64 (t : Int)) (by rfl) rfl ?_ ?_
                        · go_simp
                          (try simp only [i64_w])
                          try first | rfl | assumption
                        refine hK.out _ _ ⟨v131, v135, A141, n141, c141, v142, A146, n146, c146, m10_, m15_, m16_, (by rw [ha.out]; exact putSel_upk 2 hb_ rfl rfl rfl), Q_HBw, Q_GCq, Q_R131, fun h0_ _ => absurd ((hoff 4 (by kernel_rfl)).symm.trans h0_) (by decide), Q_R141, fun h0_ _ => absurd ((hoff 11 (by kernel_rfl)).symm.trans h0_) (by decide), fun h0_ => absurd ((hoff 15 (by kernel_rfl)).symm.trans h0_) (by decide), Q_P1, fun h0_ _ _ => absurd ((hoff 4 (by kernel_rfl)).symm.trans h0_) (by decide), Q_X10_, fun h0_ => absurd ((hoff 15 (by kernel_rfl)).symm.trans h0_) (by decide), fun h0_ => absurd ((hoff 16 (by kernel_rfl)).symm.trans h0_) (by decide)⟩
                      refine steps_cons ?_ ?_
                      · rintro b a w' ⟨v131, v135, A141, n141, c141, v142, A146, n146, c146, m10_, m15_, m16_, ha, Q_HBw, Q_GCq, Q_R131, Q_R135, Q_R141, Q_R142, Q_R146, Q_P1, Q_P2, Q_X10_, Q_X15_, Q_X16_⟩ hb_ hon hoff
                        refine ⟨_, rfl, fun K hK => ?_⟩
                        have e132 : a.tmps[132]? = some (.slice Av nv cv) := by rw [ha]; exact putSel_on (e := (1, 132, .slice Av nv cv)) 1 rfl rfl (hon 1 (by kernel_rfl)) rfl
                        have e133 : a.tmps[133]? = some (.int .i64 (t : Int)) := by rw [ha]; exact putSel_on (e := (2, 133, .int .i64 (t : Int))) 2 rfl rfl (hon 2 (by kernel_rfl)) rfl
                        replace ha := Aside0.mk ha
                        refine value_ (w1 := w') (v := .slice Av t cv) (by rfl) rfl ?_ ?_
                        · go_simp
                          try first | rfl | assumption
                        refine hK.out _ _ ⟨v131, v135, A141, n141, c141, v142, A146, n146, c146, m10_, m15_, m16_, (by rw [ha.out]; exact putSel_upk 3 hb_ rfl rfl rfl), Q_HBw, Q_GCq, Q_R131, fun h0_ _ => absurd ((hoff 4 (by kernel_rfl)).symm.trans h0_) (by decide), Q_R141, fun h0_ _ => absurd ((hoff 11 (by kernel_rfl)).symm.trans h0_) (by decide), fun h0_ => absurd ((hoff 15 (by kernel_rfl)).symm.trans h0_) (by decide), Q_P1, fun h0_ _ _ => absurd ((hoff 4 (by kernel_rfl)).symm.trans h0_) (by decide), Q_X10_, fun h0_ => absurd ((hoff 15 (by kernel_rfl)).symm.trans h0_) (by decide), fun h0_ => absurd ((hoff 16 (by kernel_rfl)).symm.trans h0_) (by decide)⟩
                      refine steps_cons ?_ ?_
                      · rintro b a w' ⟨v131, v135, A141, n141, c141, v142, A146, n146, c146, m10_, m15_, m16_, ha, Q_HBw, Q_GCq, Q_R131, Q_R135, Q_R141, Q_R142, Q_R146, Q_P1, Q_P2, Q_X10_, Q_X15_, Q_X16_⟩ hb_ hon hoff
                        refine ⟨_, rfl, fun K hK => ?_⟩
                        have e131 : a.tmps[131]? = some (v131) := by rw [ha]; exact putSel_on (e := (0, 131, v131)) 0 rfl rfl (hon 0 (by kernel_rfl)) rfl
                        have e134 : a.tmps[134]? = some (.slice Av t cv) := by rw [ha]; exact putSel_on (e := (3, 134, .slice Av t cv)) 3 rfl rfl (hon 3 (by kernel_rfl)) rfl
                        replace ha := Aside0.mk ha
                        have HBw := Aside0.mk Q_HBw
                        have GCq := Aside0.mk Q_GCq
                        have R131 := Aside0.mk (Q_R131 (hon 0 (by kernel_rfl)) hb_)
                        refine Kd.R_append_rows_step kF (w0 := wy) wy.heap.size (by rfl) (.tmp 131) (.tmp 134) 30 48 (.agg #[.string ⟨#[]⟩, .slice none 0 0]) 40 rfl Try.underlying30 info_file rfl (by decide) (by omega) v131 ([]) (NX.take t) Av t cv (fun _ => True) (fun _ => False) (eval_of e131) (eval_of e134) R131.out.any (Kd.C_below HD6.out HBw.out) (fun _ _ h => h) (fun _ h => h.elim) (fun _ _ => trivial) HBw.out HBw.out.size (by simp only [List.length_nil]; omega) ?_
                        intro v1 w1 ho hb hg hat
                        refine hK.out _ _ ⟨v131, v1, A141, n141, c141, v142, A146, n146, c146, m10_, m15_, m16_, (by rw [ha.out]; exact putSel_upk 4 hb_ rfl rfl rfl), hb, (hb_own GCq.out hg (Kd.R_base R131.out) HGq.out), fun _ h1_ => absurd ((up_self b 4).symm.trans h1_) (by decide), fun _ _ => Tg.of (d := kF) rfl ho, fun h0_ h1_ => (Q_R141 h0_ h1_).grown hg (Q_P1 (hon 0 (by kernel_rfl)) h0_ hb_).symm, fun h0_ _ => absurd ((hoff 11 (by kernel_rfl)).symm.trans h0_) (by decide), fun h0_ => absurd ((hoff 15 (by kernel_rfl)).symm.trans h0_) (by decide), fun _ _ h2_ => absurd ((up_self b 4).symm.trans h2_) (by decide), fun _ h1_ _ => ((Q_R141 h1_ (hoff 11 (by kernel_rfl))).ap_step (Q_P1 (hon 0 (by kernel_rfl)) h1_ hb_).symm hat).symm, Q_X10_, fun h0_ => absurd ((hoff 15 (by kernel_rfl)).symm.trans h0_) (by decide), fun h0_ => absurd ((hoff 16 (by kernel_rfl)).symm.trans h0_) (by decide)⟩
                      refine steps_cons ?_ ?_
                      · rintro b a w' ⟨v131, v135, A141, n141, c141, v142, A146, n146, c146, m10_, m15_, m16_, ha, Q_HBw, Q_GCq, Q_R131, Q_R135, Q_R141, Q_R142, Q_R146, Q_P1, Q_P2, Q_X10_, Q_X15_, Q_X16_⟩ hb_ hon hoff
                        refine ⟨_, rfl, fun K hK => ?_⟩
                        have e19 : a.tmps[19]? = some (.pointer (some ⟨g_Y, 0, none⟩)) := by rw [ha]; exact (putSel_off rfl).trans rfl
                        replace ha := Aside0.mk ha
                        refine value_ (w1 := w') (v := .pointer (some ⟨g_Y, 0, none⟩)) (by rfl) rfl ?_ ?_
                        · go_simp
                          try first | rfl | assumption
                        refine hK.out _ _ ⟨v131, v135, A141, n141, c141, v142, A146, n146, c146, m10_, m15_, m16_, (by rw [ha.out]; exact putSel_upk 5 hb_ rfl rfl rfl), Q_HBw, Q_GCq, Q_R131, Q_R135, fun h0_ _ => absurd ((hoff 10 (by kernel_rfl)).symm.trans h0_) (by decide), fun h0_ _ => absurd ((hoff 11 (by kernel_rfl)).symm.trans h0_) (by decide), fun h0_ => absurd ((hoff 15 (by kernel_rfl)).symm.trans h0_) (by decide), fun _ h1_ _ => absurd ((hoff 10 (by kernel_rfl)).symm.trans h1_) (by decide), fun _ h1_ _ => absurd ((hoff 10 (by kernel_rfl)).symm.trans h1_) (by decide), fun h0_ => absurd ((hoff 10 (by kernel_rfl)).symm.trans h0_) (by decide), fun h0_ => absurd ((hoff 15 (by kernel_rfl)).symm.trans h0_) (by decide), fun h0_ => absurd ((hoff 16 (by kernel_rfl)).symm.trans h0_) (by decide)⟩
                      refine steps_cons ?_ ?_
                      · rintro b a w' ⟨v131, v135, A141, n141, c141, v142, A146, n146, c146, m10_, m15_, m16_, ha, Q_HBw, Q_GCq, Q_R131, Q_R135, Q_R141, Q_R142, Q_R146, Q_P1, Q_P2, Q_X10_, Q_X15_, Q_X16_⟩ hb_ hon hoff
                        refine ⟨_, rfl, fun K hK => ?_⟩
                        have e136 : a.tmps[136]? = some (.pointer (some ⟨g_Y, 0, none⟩)) := by rw [ha]; exact putSel_on (e := (5, 136, .pointer (some ⟨g_Y, 0, none⟩))) 5 rfl rfl (hon 5 (by kernel_rfl)) rfl
                        replace ha := Aside0.mk ha
                        have GCq := Aside0.mk Q_GCq
                        have hc0 := blk_cell GCq.out 0
                        refine value_ (w1 := w') (v := .string x.nm) (by rfl) rfl ?_ ?_
                        · go_simp
                          try first | rfl | assumption
                        refine hK.out _ _ ⟨v131, v135, A141, n141, c141, v142, A146, n146, c146, m10_, m15_, m16_, (by rw [ha.out]; exact putSel_upk 6 hb_ rfl rfl rfl), Q_HBw, Q_GCq, Q_R131, Q_R135, fun h0_ _ => absurd ((hoff 10 (by kernel_rfl)).symm.trans h0_) (by decide), fun h0_ _ => absurd ((hoff 11 (by kernel_rfl)).symm.trans h0_) (by decide), fun h0_ => absurd ((hoff 15 (by kernel_rfl)).symm.trans h0_) (by decide), fun _ h1_ _ => absurd ((hoff 10 (by kernel_rfl)).symm.trans h1_) (by decide), fun _ h1_ _ => absurd ((hoff 10 (by kernel_rfl)).symm.trans h1_) (by decide), fun h0_ => absurd ((hoff 10 (by kernel_rfl)).symm.trans h0_) (by decide), fun h0_ => absurd ((hoff 15 (by kernel_rfl)).symm.trans h0_) (by decide), fun h0_ => absurd ((hoff 16 (by kernel_rfl)).symm.trans h0_) (by decide)⟩
                      refine steps_cons ?_ ?_
                      · rintro b a w' ⟨v131, v135, A141, n141, c141, v142, A146, n146, c146, m10_, m15_, m16_, ha, Q_HBw, Q_GCq, Q_R131, Q_R135, Q_R141, Q_R142, Q_R146, Q_P1, Q_P2, Q_X10_, Q_X15_, Q_X16_⟩ hb_ hon hoff
                        refine ⟨_, rfl, fun K hK => ?_⟩
                        have e19 : a.tmps[19]? = some (.pointer (some ⟨g_Y, 0, none⟩)) := by rw [ha]; exact (putSel_off rfl).trans rfl
                        replace ha := Aside0.mk ha
                        refine value_ (w1 := w') (v := .pointer (some ⟨g_Y, 2, none⟩)) (by rfl) rfl ?_ ?_
                        · go_simp
                          try first | rfl | assumption
                        refine hK.out _ _ ⟨v131, v135, A141, n141, c141, v142, A146, n146, c146, m10_, m15_, m16_, (by rw [ha.out]; exact putSel_upk 7 hb_ rfl rfl rfl), Q_HBw, Q_GCq, Q_R131, Q_R135, fun h0_ _ => absurd ((hoff 10 (by kernel_rfl)).symm.trans h0_) (by decide), fun h0_ _ => absurd ((hoff 11 (by kernel_rfl)).symm.trans h0_) (by decide), fun h0_ => absurd ((hoff 15 (by kernel_rfl)).symm.trans h0_) (by decide), fun _ h1_ _ => absurd ((hoff 10 (by kernel_rfl)).symm.trans h1_) (by decide), fun _ h1_ _ => absurd ((hoff 10 (by kernel_rfl)).symm.trans h1_) (by decide), fun h0_ => absurd ((hoff 10 (by kernel_rfl)).symm.trans h0_) (by decide), fun h0_ => absurd ((hoff 15 (by kernel_rfl)).symm.trans h0_) (by decide), fun h0_ => absurd ((hoff 16 (by kernel_rfl)).symm.trans h0_) (by decide)⟩
                      refine steps_cons ?_ ?_
                      · rintro b a w' ⟨v131, v135, A141, n141, c141, v142, A146, n146, c146, m10_, m15_, m16_, ha, Q_HBw, Q_GCq, Q_R131, Q_R135, Q_R141, Q_R142, Q_R146, Q_P1, Q_P2, Q_X10_, Q_X15_, Q_X16_⟩ hb_ hon hoff
                        refine ⟨_, rfl, fun K hK => ?_⟩
                        have e138 : a.tmps[138]? = some (.pointer (some ⟨g_Y, 2, none⟩)) := by rw [ha]; exact putSel_on (e := (7, 138, .pointer (some ⟨g_Y, 2, none⟩))) 7 rfl rfl (hon 7 (by kernel_rfl)) rfl
                        replace ha := Aside0.mk ha
                        have GCq := Aside0.mk Q_GCq
                        have hc0 := blk_cell GCq.out 2
                        refine value_ (w1 := w') (v := .slice x.A x.d.size x.c) (by rfl) rfl ?_ ?_
                        · go_simp
                          try first | rfl | assumption
                        refine hK.out _ _ ⟨v131, v135, A141, n141, c141, v142, A146, n146, c146, m10_, m15_, m16_, (by rw [ha.out]; exact putSel_upk 8 hb_ rfl rfl rfl), Q_HBw, Q_GCq, Q_R131, Q_R135, fun h0_ _ => absurd ((hoff 10 (by kernel_rfl)).symm.trans h0_) (by decide), fun h0_ _ => absurd ((hoff 11 (by kernel_rfl)).symm.trans h0_) (by decide), fun h0_ => absurd ((hoff 15 (by kernel_rfl)).symm.trans h0_) (by decide), fun _ h1_ _ => absurd ((hoff 10 (by kernel_rfl)).symm.trans h1_) (by decide), fun _ h1_ _ => absurd ((hoff 10 (by kernel_rfl)).symm.trans h1_) (by decide), fun h0_ => absurd ((hoff 10 (by kernel_rfl)).symm.trans h0_) (by decide), fun h0_ => absurd ((hoff 15 (by kernel_rfl)).symm.trans h0_) (by decide), fun h0_ => absurd ((hoff 16 (by kernel_rfl)).symm.trans h0_) (by decide)⟩
                      refine steps_cons ?_ ?_
                      · rintro b a w' ⟨v131, v135, A141, n141, c141, v142, A146, n146, c146, m10_, m15_, m16_, ha, Q_HBw, Q_GCq, Q_R131, Q_R135, Q_R141, Q_R142, Q_R146, Q_P1, Q_P2, Q_X10_, Q_X15_, Q_X16_⟩ hb_ hon hoff
                        refine ⟨_, rfl, fun K hK => ?_⟩
                        have e137 : a.tmps[137]? = some (.string x.nm) := by rw [ha]; exact putSel_on (e := (6, 137, .string x.nm)) 6 rfl rfl (hon 6 (by kernel_rfl)) rfl
                        have e139 : a.tmps[139]? = some (.slice x.A x.d.size x.c) := by rw [ha]; exact putSel_on (e := (8, 139, .slice x.A x.d.size x.c)) 8 rfl rfl (hon 8 (by kernel_rfl)) rfl
                        replace ha := Aside0.mk ha
                        refine value_ (w1 := w') (v := .agg #[.string x.nm, .slice x.A x.d.size x.c]) (by rfl) rfl ?_ ?_
                        · go_simp
                          try first | rfl | assumption
                        refine hK.out _ _ ⟨v131, v135, A141, n141, c141, v142, A146, n146, c146, m10_, m15_, m16_, (by rw [ha.out]; exact putSel_upk 9 hb_ rfl rfl rfl), Q_HBw, Q_GCq, Q_R131, Q_R135, fun h0_ _ => absurd ((hoff 10 (by kernel_rfl)).symm.trans h0_) (by decide), fun h0_ _ => absurd ((hoff 11 (by kernel_rfl)).symm.trans h0_) (by decide), fun h0_ => absurd ((hoff 15 (by kernel_rfl)).symm.trans h0_) (by decide), fun _ h1_ _ => absurd ((hoff 10 (by kernel_rfl)).symm.trans h1_) (by decide), fun _ h1_ _ => absurd ((hoff 10 (by kernel_rfl)).symm.trans h1_) (by decide), fun h0_ => absurd ((hoff 10 (by kernel_rfl)).symm.trans h0_) (by decide), fun h0_ => absurd ((hoff 15 (by kernel_rfl)).symm.trans h0_) (by decide), fun h0_ => absurd ((hoff 16 (by kernel_rfl)).symm.trans h0_) (by decide)⟩
                      refine steps_cons ?_ ?_
                      · rintro b a w' ⟨v131, v135, A141, n141, c141, v142, A146, n146, c146, m10_, m15_, m16_, ha, Q_HBw, Q_GCq, Q_R131, Q_R135, Q_R141, Q_R142, Q_R146, Q_P1, Q_P2, Q_X10_, Q_X15_, Q_X16_⟩ hb_ hon hoff
                        refine ⟨_, rfl, fun K hK => ?_⟩
                        have e140 : a.tmps[140]? = some (.agg #[.string x.nm, .slice x.A x.d.size x.c]) := by rw [ha]; exact putSel_on (e := (9, 140, .agg #[.string x.nm, .slice x.A x.d.size x.c])) 9 rfl rfl (hon 9 (by kernel_rfl)) rfl
                        replace ha := Aside0.mk ha
                        have HBw := Aside0.mk Q_HBw
                        have GCq := Aside0.mk Q_GCq
                        refine Kd.R_lit_step kF (w0 := wy) (xs := [wfe x]) (inner := [.string x.nm, .slice x.A x.d.size x.c]) (ok := fun _ => True) (okp := fun _ => False) wy.heap.size 48 (by rfl) rfl ?_ (reps_file _ _ _ (wfe x)) (fun _ h => h.elim) trivial HBw.out HBw.out.size (by simp) ?_
                        · go_simp
                        intro v1 w1 ho hb hg hat
                        obtain ⟨A9', n9', c9', rfl⟩ := RkH.slc ho
                        refine hK.out _ _ ⟨v131, v135, A9', n9', c9', v142, A146, n146, c146, (.slice A9' n9' c9'), m15_, m16_, (by rw [ha.out]; exact putSel_upk 10 hb_ rfl rfl rfl), hb, (hb_gr GCq.out hg), fun h0_ h1_ => (Q_R131 h0_ h1_).grown_none hg, fun h0_ h1_ => (Q_R135 h0_ h1_).grown_none hg, fun _ _ => Tg.of (d := kF) rfl ho, fun h0_ _ => absurd ((hoff 11 (by kernel_rfl)).symm.trans h0_) (by decide), fun h0_ => absurd ((hoff 15 (by kernel_rfl)).symm.trans h0_) (by decide), fun h0_ _ h2_ => (Q_R131 h0_ h2_).ap_right hat, fun h0_ _ h2_ => (Q_R135 h0_ h2_).ap_right hat, fun _ => rfl, fun h0_ => absurd ((hoff 15 (by kernel_rfl)).symm.trans h0_) (by decide), fun h0_ => absurd ((hoff 16 (by kernel_rfl)).symm.trans h0_) (by decide)⟩
                      refine steps_cons ?_ ?_
                      · rintro b a w' ⟨v131, v135, A141, n141, c141, v142, A146, n146, c146, m10_, m15_, m16_, ha, Q_HBw, Q_GCq, Q_R131, Q_R135, Q_R141, Q_R142, Q_R146, Q_P1, Q_P2, Q_X10_, Q_X15_, Q_X16_⟩ hb_ hon hoff
                        refine ⟨_, rfl, fun K hK => ?_⟩
                        have e135 : a.tmps[135]? = some (v135) := by rw [ha]; exact putSel_on (e := (4, 135, v135)) 4 rfl rfl (hon 4 (by kernel_rfl)) rfl
                        have e141 : a.tmps[141]? = some (m10_) := by rw [ha]; exact putSel_on (e := (10, 141, m10_)) 10 rfl rfl (hon 10 (by kernel_rfl)) rfl
                        rw [Q_X10_ (hon 10 (by kernel_rfl))] at e141
                        replace ha := Aside0.mk ha
                        have HBw := Aside0.mk Q_HBw
                        have GCq := Aside0.mk Q_GCq
                        have R135 := Aside0.mk (Q_R135 (hon 4 (by kernel_rfl)) hb_)
                        have R141 := Aside0.mk (Q_R141 (hon 10 (by kernel_rfl)) hb_)
                        refine Kd.R_append_rows_step kF (w0 := wy) wy.heap.size (by rfl) (.tmp 135) (.tmp 141) 30 48 (.agg #[.string ⟨#[]⟩, .slice none 0 0]) 40 rfl Try.underlying30 info_file rfl (by decide) (by omega) v135 (NX.take t) [wfe x] A141 n141 c141 (fun _ => True) (fun _ => False) (eval_of e135) (eval_of e141) R135.out.any (tg_C R141.out).2.2 (fun _ _ h => h) (fun _ h => h.elim) (fun _ _ => trivial) HBw.out HBw.out.size (by have h1_ := (tg_C R141.out).1; rw [List.length_singleton] at h1_; rw [List.length_take]; omega) ?_
                        intro v1 w1 ho hb hg hat
                        refine hK.out _ _ ⟨v131, v135, A141, n141, c141, v1, A146, n146, c146, m10_, m15_, m16_, (by rw [ha.out]; exact putSel_upk 11 hb_ rfl rfl rfl), hb, (hb_own GCq.out hg (Kd.R_base R135.out) HGq.out), fun _ h1_ => absurd ((hon 4 (by kernel_rfl)).symm.trans h1_) (by decide), fun _ h1_ => absurd ((up_self b 11).symm.trans h1_) (by decide), fun _ h1_ => absurd ((up_self b 11).symm.trans h1_) (by decide), fun _ _ => Tg.of (d := kF) rfl ho, fun h0_ => absurd ((hoff 15 (by kernel_rfl)).symm.trans h0_) (by decide), fun _ _ h2_ => absurd ((hon 4 (by kernel_rfl)).symm.trans h2_) (by decide), fun _ _ h2_ => absurd ((up_self b 11).symm.trans h2_) (by decide), Q_X10_, fun h0_ => absurd ((hoff 15 (by kernel_rfl)).symm.trans h0_) (by decide), fun h0_ => absurd ((hoff 16 (by kernel_rfl)).symm.trans h0_) (by decide)⟩
                      refine steps_cons ?_ ?_
                      · rintro b a w' ⟨v131, v135, A141, n141, c141, v142, A146, n146, c146, m10_, m15_, m16_, ha, Q_HBw, Q_GCq, Q_R131, Q_R135, Q_R141, Q_R142, Q_R146, Q_P1, Q_P2, Q_X10_, Q_X15_, Q_X16_⟩ hb_ hon hoff
                        refine ⟨_, rfl, fun K hK => ?_⟩
                        have e20 : a.tmps[20]? = some (.slice Av nv cv) := by rw [ha]; exact (putSel_not (hoff 16 (by kernel_rfl)) rfl).trans rfl
                        replace ha := Aside0.mk ha
                        refine value_ (w1 := w') (v := .slice Av nv cv) (by rfl) rfl ?_ ?_
                        · go_simp
                          try first | rfl | assumption
                        refine hK.out _ _ ⟨v131, v135, A141, n141, c141, v142, A146, n146, c146, m10_, m15_, m16_, (by rw [ha.out]; exact putSel_upk 12 hb_ rfl rfl rfl), Q_HBw, Q_GCq, Q_R131, Q_R135, Q_R141, Q_R142, fun h0_ => absurd ((hoff 15 (by kernel_rfl)).symm.trans h0_) (by decide), Q_P1, Q_P2, Q_X10_, fun h0_ => absurd ((hoff 15 (by kernel_rfl)).symm.trans h0_) (by decide), fun h0_ => absurd ((hoff 16 (by kernel_rfl)).symm.trans h0_) (by decide)⟩
                      refine steps_cons ?_ ?_
                      · rintro b a w' ⟨v131, v135, A141, n141, c141, v142, A146, n146, c146, m10_, m15_, m16_, ha, Q_HBw, Q_GCq, Q_R131, Q_R135, Q_R141, Q_R142, Q_R146, Q_P1, Q_P2, Q_X10_, Q_X15_, Q_X16_⟩ hb_ hon hoff
                        refine ⟨_, rfl, fun K hK => ?_⟩
                        have e23 : a.tmps[23]? = some (.int .i64 (t : Int)) := by rw [ha]; exact (putSel_off rfl).trans rfl
                        replace ha := Aside0.mk ha
                        refine value_ (w1 := w') (v := .int .i64 (t : Int)) (by rfl) rfl ?_ ?_
                        · go_simp
                          (try simp only [i64_w])
                          try first | rfl | assumption
                        refine hK.out _ _ ⟨v131, v135, A141, n141, c141, v142, A146, n146, c146, m10_, m15_, m16_, (by rw [ha.out]; exact putSel_upk 13 hb_ rfl rfl rfl), Q_HBw, Q_GCq, Q_R131, Q_R135, Q_R141, Q_R142, fun h0_ => absurd ((hoff 15 (by kernel_rfl)).symm.trans h0_) (by decide), Q_P1, Q_P2, Q_X10_, fun h0_ => absurd ((hoff 15 (by kernel_rfl)).symm.trans h0_) (by decide), fun h0_ => absurd ((hoff 16 (by kernel_rfl)).symm.trans h0_) (by decide)⟩
                      refine steps_cons ?_ ?_
                      · rintro b a w' ⟨v131, v135, A141, n141, c141, v142, A146, n146, c146, m10_, m15_, m16_, ha, Q_HBw, Q_GCq, Q_R131, Q_R135, Q_R141, Q_R142, Q_R146, Q_P1, Q_P2, Q_X10_, Q_X15_, Q_X16_⟩ hb_ hon hoff
                        refine ⟨_, rfl, fun K hK => ?_⟩
                        have e143 : a.tmps[143]? = some (.slice Av nv cv) := by rw [ha]; exact putSel_on (e := (12, 143, .slice Av nv cv)) 12 rfl rfl (hon 12 (by kernel_rfl)) rfl
                        have e144 : a.tmps[144]? = some (.int .i64 (t : Int)) := by rw [ha]; exact putSel_on (e := (13, 144, .int .i64 (t : Int))) 13 rfl rfl (hon 13 (by kernel_rfl)) rfl
                        replace ha := Aside0.mk ha
                        refine value_ (w1 := w') (v := .slice A5 n5 c5) (by rfl) rfl ?_ ?_
                        · go_simp
                          try first | rfl | assumption
                        refine hK.out _ _ ⟨v131, v135, A141, n141, c141, v142, A146, n146, c146, m10_, m15_, m16_, (by rw [ha.out]; exact putSel_upk 14 hb_ rfl rfl rfl), Q_HBw, Q_GCq, Q_R131, Q_R135, Q_R141, Q_R142, fun h0_ => absurd ((hoff 15 (by kernel_rfl)).symm.trans h0_) (by decide), Q_P1, Q_P2, Q_X10_, fun h0_ => absurd ((hoff 15 (by kernel_rfl)).symm.trans h0_) (by decide), fun h0_ => absurd ((hoff 16 (by kernel_rfl)).symm.trans h0_) (by decide)⟩
                      refine steps_cons ?_ ?_
                      · rintro b a w' ⟨v131, v135, A141, n141, c141, v142, A146, n146, c146, m10_, m15_, m16_, ha, Q_HBw, Q_GCq, Q_R131, Q_R135, Q_R141, Q_R142, Q_R146, Q_P1, Q_P2, Q_X10_, Q_X15_, Q_X16_⟩ hb_ hon hoff
                        refine ⟨_, rfl, fun K hK => ?_⟩
                        have e142 : a.tmps[142]? = some (v142) := by rw [ha]; exact putSel_on (e := (11, 142, v142)) 11 rfl rfl (hon 11 (by kernel_rfl)) rfl
                        have e145 : a.tmps[145]? = some (.slice A5 n5 c5) := by rw [ha]; exact putSel_on (e := (14, 145, .slice A5 n5 c5)) 14 rfl rfl (hon 14 (by kernel_rfl)) rfl
                        replace ha := Aside0.mk ha
                        have HBw := Aside0.mk Q_HBw
                        have GCq := Aside0.mk Q_GCq
                        have R142 := Aside0.mk (Q_R142 (hon 11 (by kernel_rfl)) hb_)
                        refine Kd.R_append_rows_step kF (w0 := wy) wy.heap.size (by rfl) (.tmp 142) (.tmp 145) 30 48 (.agg #[.string ⟨#[]⟩, .slice none 0 0]) 40 rfl Try.underlying30 info_file rfl (by decide) (by omega) v142 (NX.take t ++ [wfe x]) (NX.drop t) A5 n5 c5 (fun _ => True) (fun _ => False) (eval_of e142) (eval_of e145) R142.out.any (Kd.C_below HD5.out HBw.out) (fun _ _ h => h) (fun _ h => h.elim) (fun _ _ => trivial) HBw.out HBw.out.size (by have h1_ := Hm5.out; rw [List.length_drop] at h1_; have := HNl.out; rw [List.length_append, List.length_take, List.length_singleton]; omega) ?_
                        intro v1 w1 ho hb hg hat
                        obtain ⟨A9', n9', c9', rfl⟩ := RkH.slc ho
                        refine hK.out _ _ ⟨v131, v135, A141, n141, c141, v142, A9', n9', c9', m10_, (.slice A9' n9' c9'), m16_, (by rw [ha.out]; exact putSel_upk 15 hb_ rfl rfl rfl), hb, (hb_own GCq.out hg (Kd.R_base R142.out) HGq.out), fun _ h1_ => absurd ((hon 4 (by kernel_rfl)).symm.trans h1_) (by decide), fun _ h1_ => absurd ((hon 11 (by kernel_rfl)).symm.trans h1_) (by decide), fun _ h1_ => absurd ((hon 11 (by kernel_rfl)).symm.trans h1_) (by decide), fun _ h1_ => absurd ((up_self b 15).symm.trans h1_) (by decide), fun _ => Tg.of (d := kF) rfl ho, fun _ _ h2_ => absurd ((hon 4 (by kernel_rfl)).symm.trans h2_) (by decide), fun _ _ h2_ => absurd ((hon 11 (by kernel_rfl)).symm.trans h2_) (by decide), Q_X10_, fun _ => rfl, fun h0_ => absurd ((hoff 16 (by kernel_rfl)).symm.trans h0_) (by decide)⟩
                      refine steps_cons ?_ ?_
                      · rintro b a w' ⟨v131, v135, A141, n141, c141, v142, A146, n146, c146, m10_, m15_, m16_, ha, Q_HBw, Q_GCq, Q_R131, Q_R135, Q_R141, Q_R142, Q_R146, Q_P1, Q_P2, Q_X10_, Q_X15_, Q_X16_⟩ hb_ hon hoff
                        refine ⟨_, rfl, fun K hK => ?_⟩
                        have e146 : a.tmps[146]? = some (m15_) := by rw [ha]; exact putSel_on (e := (15, 146, m15_)) 15 rfl rfl (hon 15 (by kernel_rfl)) rfl
                        rw [Q_X15_ (hon 15 (by kernel_rfl))] at e146
                        replace ha := Aside0.mk ha
                        refine value_ (w1 := w') (v := .slice A146 n146 c146) (by rfl) rfl ?_ ?_
                        · go_simp
                          try first | rfl | assumption
                        refine hK.out _ _ ⟨v131, v135, A141, n141, c141, v142, A146, n146, c146, m10_, m15_, (.slice A146 n146 c146), (by rw [ha.out]; exact putSel_upk 16 hb_ rfl rfl rfl), Q_HBw, Q_GCq, fun _ h1_ => absurd ((hon 4 (by kernel_rfl)).symm.trans h1_) (by decide), fun _ h1_ => absurd ((hon 11 (by kernel_rfl)).symm.trans h1_) (by decide), fun _ h1_ => absurd ((hon 11 (by kernel_rfl)).symm.trans h1_) (by decide), fun _ h1_ => absurd ((hon 15 (by kernel_rfl)).symm.trans h1_) (by decide), Q_R146, fun _ _ h2_ => absurd ((hon 4 (by kernel_rfl)).symm.trans h2_) (by decide), fun _ _ h2_ => absurd ((hon 11 (by kernel_rfl)).symm.trans h2_) (by decide), Q_X10_, Q_X15_, fun _ => rfl⟩
                      exact steps_nil
                    rintro b a w_8 hall ⟨v131, v135, A141, n141, c141, v142, A146, n146, c146, m10_, m15_, m16_, ha, Q_HBw, Q_GCq, Q_R131, Q_R135, Q_R141, Q_R142, Q_R146, Q_P1, Q_P2, Q_X10_, Q_X15_, Q_X16_⟩
                    clear GCq HBw
                    have hb0_ := hall 0 (by kernel_rfl)
                    have hb1_ := hall 1 (by kernel_rfl)
                    have hb2_ := hall 2 (by kernel_rfl)
                    have hb3_ := hall 3 (by kernel_rfl)
                    have hb4_ := hall 4 (by kernel_rfl)
                    have hb5_ := hall 5 (by kernel_rfl)
                    have hb6_ := hall 6 (by kernel_rfl)
                    have hb7_ := hall 7 (by kernel_rfl)
                    have hb8_ := hall 8 (by kernel_rfl)
                    have hb9_ := hall 9 (by kernel_rfl)
                    have hb10_ := hall 10 (by kernel_rfl)
                    have hb11_ := hall 11 (by kernel_rfl)
                    have hb12_ := hall 12 (by kernel_rfl)
                    have hb13_ := hall 13 (by kernel_rfl)
                    have hb14_ := hall 14 (by kernel_rfl)
                    have hb15_ := hall 15 (by kernel_rfl)
                    have hb16_ := hall 16 (by kernel_rfl)
                    subst ha
                    obtain rfl := Q_X10_ hb10_
                    obtain rfl := Q_X15_ hb15_
                    obtain rfl := Q_X16_ hb16_
                    simp only [putSel, hb0_, hb1_, hb2_, hb3_, hb4_, hb5_, hb6_, hb7_, hb8_, hb9_, hb10_, hb11_, hb12_, hb13_, hb14_, hb15_, hb16_, if_true, Act.put, List.setIfInBounds_toArray, List.set_cons_zero, List.set_cons_succ]
                    have HBw := Aside0.mk Q_HBw
                    clear Q_HBw
                    have GCq := Aside0.mk Q_GCq
                    clear Q_GCq
                    clear Q_R131
                    clear Q_R135
                    clear Q_R141
                    clear Q_R142
                    have R146 := Aside0.mk (Q_R146 hb15_)
                    clear Q_R146
                    clear Q_P1
                    clear Q_P2
                    clear hall hb0_ hb1_ hb2_ hb3_ hb4_ hb5_ hb6_ hb7_ hb8_ hb9_ hb10_ hb11_ hb12_ hb13_ hb14_ hb15_ hb16_
                    have HN9 := Aside0.mk (show NAt w8 w_8 (.slice A146 n146 c146) fs7 ls2 (k + 1) from ⟨by
                      rw [HPut.out, ← HPos.out]
                      exact Kd.R_lower R146.out.any (Nat.le_trans HBf.out.size HBq.out.size), HBf.out.trans ((HBq.out.trans (HBw.out.mono HBq.out.size)).mono HBf.out.size)⟩)
                    clear R146 hto2 hcut5
                    go_wp2_with fail
                    go_roundw
                    case rel => exact ⟨k + 1, _, by omega, by go_num, rfl, HN9⟩
                    case measure => simp [intOf]; omega
        · obtain rfl : k = n2 := by omega
          obtain ⟨X, hX1, hX2, hX3⟩ := HF8.out.cl
          have HCl8 := Aside0.mk hX1
          have HCo := Aside0.mk (show Com 1000000 X L2 (rdK L2) by
            have h1 := fits_com HF8.out.free.2.1 HF8.out.free.1 (HFt2.out.trans HFz2.out)
            rw [hX1.ns, hX1.rm] at h1
            exact h1)
          obtain ⟨FW, hFW⟩ : ∃ FW, doAll fs7 (ls2.take k) = FW := ⟨_, rfl⟩
          have HWk := Aside0.mk (show FW.map keyD = wantK X L2 by
            rw [← hFW, ← HN2.out, List.take_length, doAll_key, HK7.out, hX1.ss, HLk2.out])
          have HXk := Aside0.mk (show fs7.map keyD = X by rw [HK7.out, hX1.ss])
          have HZ8 := Aside0.mk (show ZAt w wr g r5 Aw7 nw7 fs7 Au nu FW from ⟨HF8.out.ra.below HNt.out.bel, HWa.out.below HNt.out.bel, wa_row (hFW ▸ HNt.out.row) HNt.out.bel HSl.out (hFW ▸ HDa.out k)⟩)
          have HS8 := Aside0.mk (HF8.out.sa.below HNt.out.bel)
          have HB8 := Aside0.mk HF8.out.bd
          have HFr := Aside0.mk HF8.out.free.1
          clear hX1 hX2 hX3 hFW HNt HF8 HWa hlt hk hf21 hf22 hf23 HChX HDa HLa HSl
          go_upto_region 33 with (first
            | (go_at_call 21; have HMx := HZ8.out; refine (fuse_calls w g r5 _ (z : Int) HZ8.out.ra (by omega)).mono ?_; clear HMx; intro e_ w9 hp; obtain ⟨rfl, hs⟩ := fuse_step hp; obtain ⟨r9, he9, hz9, hk9, hS9⟩ := HZ8.out.step2 hs; have HZ9 := Aside0.mk hz9; have HS9 := Aside0.mk (HS8.out.kept hk9 (fun _ h => h) hS9); have HC9 := Aside0.mk (show Cln 1000000 X (abs r9) by rw [he9]; exact cln_fuse HCl8.out _); have HB9 := Aside0.mk (show Bd (abs r9) 100 by rw [he9]; exact HB8.out.fuse _); have HFt9 := Aside0.mk (show fitsK (abs r9) L2 = 0 by rw [he9]; exact HFt2.out.trans HFz2.out); clear hp hs he9 hz9 hk9 hS9 HZ8 HS8 HB8; skip)
            | (go_at_call 48; have HMx := HZ9.out; refine (show Calls Try.prog 48 #[.pointer (some ⟨q, 0, none⟩), .slice A2 k c2] w9 (CommitP w w9 g r9 L2) from (by have h_ := commit_calls w q g r9 w9 A2 c2 ls2 100 HZ9.out.ra HS9.out (by rw [HN2.out]; exact chg_at HC2.out HD2.out HZ9.out.ra.bel (S_ge HZ9.out.ra)) (by rw [HN2.out]; exact HCc2.out) (by have := HL2.out.1; omega) HB9.out (by have := HM2.out; have := HN2.out; omega) (fun _ => by rw [HC9.out.ns]; exact HCo.out.free) (fun x hx => by have := HL2.out.2.2 x hx; omega); rwa [HLk2.out, HN2.out] at h_)).mono ?_; clear HMx; intro e_ w10 hp; obtain ⟨he10, hs⟩ := hp; rw [HFt9.out] at he10 hs; obtain ⟨d, hd⟩ : ∃ d, (commitE (abs r9) L2 (rdK L2) 0).1 = d := ⟨_, rfl⟩; rw [hd] at he10; subst he10; have HD := Aside0.mk hd; obtain ⟨r10, he10, hz10⟩ := HZ9.out.step hs; have HZ10 := Aside0.mk hz10; have HE10 := Aside0.mk he10; have HB10 := Aside0.mk (show Bd (abs r10) 200 by rw [he10]; exact (Bd.commit HB9.out L2 _ _).more (by have := HLn2.out; have := HM2.out; omega)); clear hs hd he10 hz10 HZ9 HS9 HB9; skip)
            | (go_at_call 19; have HMx := HZ10.out; refine (crash_calls w g r10 p Ap cp _ HZ10.out.ra (Kd.C_below HPk.out.2 HZ10.out.ra.bel) HPk.out.1 (fun ad e h0 hs => by subst e; have h1_ := Kd.C_lt HPk.out.2 h0 (by decide); have h2_ := S_ge HZ10.out.ra _ hs; omega) (by have := HB10.out.r; omega) (by have := HB10.out.r; omega)).mono ?_; clear HMx; intro e_ w11 hp; obtain ⟨rfl, hs⟩ := crash_step hp; obtain ⟨r11, he_, hz_⟩ := HZ10.out.step hs; have HZ11 := Aside0.mk hz_; obtain ⟨X11, h1, h2, h3, h4, h5⟩ := commit_crash HCo.out HC9.out p; rw [← HE10.out, ← he_] at h2 h3; rw [HD.out] at h4 h5; have HM11 := Aside0.mk (And.intro h1 h4); have HC11 := Aside0.mk h2; have HDv := Aside0.mk h5; have HB11 := Aside0.mk (show Bd (abs r11) 200 by rw [he_]; exact HB10.out.crash p); clear h1 h2 h3 h4 h5 HE10 HD HC9; clear hp hs he_ hz_ HZ10 HB10; skip)
            | (go_at_call 21; have HMx := HZ11.out; refine (fuse_calls w g r11 _ (z' : Int) HZ11.out.ra (by omega)).mono ?_; clear HMx; intro e_ w12 hp; obtain ⟨rfl, hs⟩ := fuse_step hp; obtain ⟨r12, he12, hz12⟩ := HZ11.out.step hs; have HZ12 := Aside0.mk hz12; have HC12 := Aside0.mk (show Cln 1000000 X11 (abs r12) by rw [he12]; exact cln_fuse HC11.out _); have HB12 := Aside0.mk (show Bd (abs r12) 200 by rw [he12]; exact HB11.out.fuse _); clear hp hs he12 hz12 HZ11 HC11 HB11; skip)
            | (go_at_call 46; have HMx := HZ12.out; refine (open_calls w g r12 _ 200 L2.length HZ12.out.ra HB12.out (by have := HLn2.out; have := HM2.out; omega) (mid_redo HCo.out HM11.out.1 HC12.out.ns)).mono ?_; clear HMx; intro e_ w13 hp; obtain ⟨ve, he, hs⟩ := open_any hp; obtain ⟨fv, hfv⟩ : ∃ fv, (openE pfB (abs r12)).1 = fv := ⟨_, rfl⟩; rw [hfv] at he; subst he; obtain ⟨h1, X14, h2⟩ := open_crash HCo.out HM11.out.1 HC12.out m; rw [hfv] at h1; have HFv := Aside0.mk h1; have HO13 := Aside0.mk h2; obtain ⟨r13, he13, hz13⟩ := HZ12.out.step hs; have HZ13 := Aside0.mk hz13; have HE13 := Aside0.mk he13; have HB13 := Aside0.mk (show Bd (abs r13) 300 by rw [he13]; exact (Bd.openz HB12.out (mid_redo HCo.out HM11.out.1 HC12.out.ns)).more (by have := HLn2.out; have := HM2.out; omega)); clear hp hs hfv h1 h2 he13 hz13 HZ12 HB12; skip))
          rcases HFv.out with hf0 | hf5
          · have hg1 : (fv == 0) = true := by rw [hf0]; rfl
            have hg2 : decide (fv = 0) = true := decide_eq_true hf0
            have hg3 : (fv != 0) = false := by rw [hf0]; rfl
            clear hf0
            rcases HDv.out with hd0 | hd5
            · have hi1 : (d == 0) = true := by rw [hd0]; rfl
              have hi2 : decide (d = 0) = true := decide_eq_true hd0
              have HD0 := Aside0.mk hd0
              clear hd0
              go_upto_region 40 with (first
                | (go_at_call 19; have HMx := HZ13.out; refine (crash_calls w g r13 m Am cm _ HZ13.out.ra (Kd.C_below HMo.out.2 HZ13.out.ra.bel) HMo.out.1 (fun ad e h0 hs => by subst e; have h1_ := Kd.C_lt HMo.out.2 h0 (by decide); have h2_ := S_ge HZ13.out.ra _ hs; omega) (by have := HB13.out.r; omega) (by have := HB13.out.r; omega)).mono ?_; clear HMx; intro e_ w14 hp; obtain ⟨rfl, hs⟩ := crash_step hp; obtain ⟨r14, he_, hz_⟩ := HZ13.out.step hs; have HZ14 := Aside0.mk hz_; obtain ⟨h1, h2, h3, h4⟩ := HO13.out; rw [← HE13.out, ← he_] at h2 h3; have HM14 := Aside0.mk (And.intro h1 h4); have HC14 := Aside0.mk h2; have HO14 := Aside0.mk (open_on HCo.out h1 h2 h3); have HB14 := Aside0.mk (show Bd (abs r14) 300 by rw [he_]; exact HB13.out.crash m); clear h1 h2 h3 h4 HE13; clear hp hs he_ hz_ HZ13 HB13; skip)
                | (go_at_call 46; have HMx := HZ14.out; refine (open_calls w g r14 _ 300 L2.length HZ14.out.ra HB14.out (by have := HLn2.out; have := HM2.out; omega) (mid_redo HCo.out HM14.out.1 HC14.out.ns)).mono ?_; clear HMx; intro e_ w15 hp; obtain ⟨h1, _, X15, h2, h3, h4, _⟩ := HO14.out; obtain ⟨q15, rfl, _, r15, hR, he15, hk15, hS15, _⟩ := opened hp (pair_eq h1); have HZ15 := Aside0.mk (show ZAt w w15 g r15 Aw7 nw7 fs7 Au nu FW from ⟨hR, HZ14.out.w1.kept hk15 (fun _ h => h) hS15, HZ14.out.w2.kept hk15 (fun _ h => h) hS15⟩); have HC15 := Aside0.mk (show Cln 1000000 X15 (abs r15) by rw [he15]; exact h4); have HX15 := Aside0.mk (And.intro h2 (fun e => h3 (HM14.out.2 (HM11.out.2 e)))); have HB15 := Aside0.mk (show Bd (abs r15) 400 by rw [he15]; exact (Bd.openz HB14.out (mid_redo HCo.out HM14.out.1 HC14.out.ns)).more (by have := HLn2.out; have := HM2.out; omega)); clear hp h1 h2 h3 h4 hR he15 hk15 hS15 HZ14 HB14; skip)
                | (go_at_call 18; have HMx := HZ15.out; refine (sure_calls w g r15 _ HZ15.out.ra (by have := HB15.out.r; omega)).mono ?_; clear HMx; intro e_ w16 hp; obtain ⟨v16, fs16, rfl, hfs, hk_, hb⟩ := sureP_files hp; have HFs16 := Aside0.mk (hfs (r15.S g) (SfE.S_lt HZ15.out.ra)); have HK16 := Aside0.mk (show fs16.map keyD = X15 by rw [← HC15.out.ss]; exact hk_); have HZ16 := Aside0.mk (HZ15.out.below hb); obtain ⟨A16, n16, c16, hv_, _, _⟩ := HFs16.out.slice; subst hv_; clear hp hfs hk_ hb HZ15; skip))
              have HWn := Aside0.mk (HX15.out.2 HD0.out)
              go_wp2_with (first
                | (go_at_call 28; have HMx := HZ16.out; refine (show Calls Try.prog 28 #[.slice A16 n16 c16, .slice Au nu cu] w16 (BoolP w16 true) from (by have h1_ := (wa_files HFs16.out); have h_ := RkU.same_calls A16 n16 c16 fs16 Au nu cu FW w16 h1_.C HZ16.out.w2.C h1_.db HZ16.out.w2.db; rwa [show sameFs fs16 FW = true from decide_eq_true (by rw [HK16.out, HWk.out]; exact HWn.out)] at h_)).mono ?_; clear HMx; rintro e_ w17 ⟨rfl, hb⟩; have HB16 := Aside0.mk hb; have HZ17 := Aside0.mk (HZ16.out.below hb); clear hb HZ16; skip)
                | (go_at_call 40; have HMx := HZ17.out.ra.bel; refine (awake_calls _).mono ?_; clear HMx; rintro e_ wa ⟨rfl, hb⟩; have HBa := Aside0.mk (HZ17.out.ra.bel.trans (hb.mono HZ17.out.ra.bel.size)); clear hb; skip))
              go_ret
              exact ⟨rfl, HBa.out⟩
            · have hi1 : (d == 0) = false := beq_eq_false_iff_ne.2 (by rw [hd5]; decide)
              have hi2 : decide (d = 0) = false := decide_eq_false (by rw [hd5]; decide)
              have hi3 : (d == 5) = true := by rw [hd5]; rfl
              have hi4 : decide (d = 5) = true := decide_eq_true hd5
              clear hd5
              go_upto_region 40 with (first
                | (go_at_call 19; have HMx := HZ13.out; refine (crash_calls w g r13 m Am cm _ HZ13.out.ra (Kd.C_below HMo.out.2 HZ13.out.ra.bel) HMo.out.1 (fun ad e h0 hs => by subst e; have h1_ := Kd.C_lt HMo.out.2 h0 (by decide); have h2_ := S_ge HZ13.out.ra _ hs; omega) (by have := HB13.out.r; omega) (by have := HB13.out.r; omega)).mono ?_; clear HMx; intro e_ w14 hp; obtain ⟨rfl, hs⟩ := crash_step hp; obtain ⟨r14, he_, hz_⟩ := HZ13.out.step hs; have HZ14 := Aside0.mk hz_; obtain ⟨h1, h2, h3, h4⟩ := HO13.out; rw [← HE13.out, ← he_] at h2 h3; have HM14 := Aside0.mk (And.intro h1 h4); have HC14 := Aside0.mk h2; have HO14 := Aside0.mk (open_on HCo.out h1 h2 h3); have HB14 := Aside0.mk (show Bd (abs r14) 300 by rw [he_]; exact HB13.out.crash m); clear h1 h2 h3 h4 HE13; clear hp hs he_ hz_ HZ13 HB13; skip)
                | (go_at_call 46; have HMx := HZ14.out; refine (open_calls w g r14 _ 300 L2.length HZ14.out.ra HB14.out (by have := HLn2.out; have := HM2.out; omega) (mid_redo HCo.out HM14.out.1 HC14.out.ns)).mono ?_; clear HMx; intro e_ w15 hp; obtain ⟨h1, _, X15, h2, h3, h4, _⟩ := HO14.out; obtain ⟨q15, rfl, _, r15, hR, he15, hk15, hS15, _⟩ := opened hp (pair_eq h1); have HZ15 := Aside0.mk (show ZAt w w15 g r15 Aw7 nw7 fs7 Au nu FW from ⟨hR, HZ14.out.w1.kept hk15 (fun _ h => h) hS15, HZ14.out.w2.kept hk15 (fun _ h => h) hS15⟩); have HC15 := Aside0.mk (show Cln 1000000 X15 (abs r15) by rw [he15]; exact h4); have HX15 := Aside0.mk (And.intro h2 (fun e => h3 (HM14.out.2 (HM11.out.2 e)))); have HB15 := Aside0.mk (show Bd (abs r15) 400 by rw [he15]; exact (Bd.openz HB14.out (mid_redo HCo.out HM14.out.1 HC14.out.ns)).more (by have := HLn2.out; have := HM2.out; omega)); clear hp h1 h2 h3 h4 hR he15 hk15 hS15 HZ14 HB14; skip)
                | (go_at_call 18; have HMx := HZ15.out; refine (sure_calls w g r15 _ HZ15.out.ra (by have := HB15.out.r; omega)).mono ?_; clear HMx; intro e_ w16 hp; obtain ⟨v16, fs16, rfl, hfs, hk_, hb⟩ := sureP_files hp; have HFs16 := Aside0.mk (hfs (r15.S g) (SfE.S_lt HZ15.out.ra)); have HK16 := Aside0.mk (show fs16.map keyD = X15 by rw [← HC15.out.ss]; exact hk_); have HZ16 := Aside0.mk (HZ15.out.below hb); obtain ⟨A16, n16, c16, hv_, _, _⟩ := HFs16.out.slice; subst hv_; clear hp hfs hk_ hb HZ15; skip))
              by_cases hWn : X15 = wantK X L2
              · have HWn := Aside0.mk hWn
                clear hWn
                go_wp2_with (first
                  | (go_at_call 28; have HMx := HZ16.out; refine (show Calls Try.prog 28 #[.slice A16 n16 c16, .slice Au nu cu] w16 (BoolP w16 true) from (by have h1_ := (wa_files HFs16.out); have h_ := RkU.same_calls A16 n16 c16 fs16 Au nu cu FW w16 h1_.C HZ16.out.w2.C h1_.db HZ16.out.w2.db; rwa [show sameFs fs16 FW = true from decide_eq_true (by rw [HK16.out, HWk.out]; exact HWn.out)] at h_)).mono ?_; clear HMx; rintro e_ w17 ⟨rfl, hb⟩; have HB16 := Aside0.mk hb; have HZ17 := Aside0.mk (HZ16.out.below hb); clear hb HZ16; skip)
                  | (go_at_call 40; have HMx := HZ17.out.ra.bel; refine (awake_calls _).mono ?_; clear HMx; rintro e_ wa ⟨rfl, hb⟩; have HBa := Aside0.mk (HZ17.out.ra.bel.trans (hb.mono HZ17.out.ra.bel.size)); clear hb; skip))
                go_ret
                exact ⟨rfl, HBa.out⟩
              · have HWo := Aside0.mk (HX15.out.1.resolve_right hWn)
                have HWn := Aside0.mk hWn
                clear hWn
                go_wp2_with (first
                  | (go_at_call 28; have HMx := HZ16.out; refine (show Calls Try.prog 28 #[.slice A16 n16 c16, .slice Au nu cu] w16 (BoolP w16 false) from (by have h1_ := (wa_files HFs16.out); have h_ := RkU.same_calls A16 n16 c16 fs16 Au nu cu FW w16 h1_.C HZ16.out.w2.C h1_.db HZ16.out.w2.db; rwa [show sameFs fs16 FW = false from decide_eq_false (by rw [HK16.out, HWk.out]; exact HWn.out)] at h_)).mono ?_; clear HMx; rintro e_ w17 ⟨rfl, hb⟩; have HB16 := Aside0.mk hb; have HZ17 := Aside0.mk (HZ16.out.below hb); clear hb HZ16; skip)
                  | (go_at_call 28; have HMx := HZ17.out; refine (show Calls Try.prog 28 #[.slice A16 n16 c16, .slice Aw7 nw7 cw7] w17 (BoolP w17 true) from (by have h1_ := (wa_files HFs16.out).below HB16.out; have h_ := RkU.same_calls A16 n16 c16 fs16 Aw7 nw7 cw7 fs7 w17 h1_.C HZ17.out.w1.C h1_.db HZ17.out.w1.db; rwa [show sameFs fs16 fs7 = true from decide_eq_true (by rw [HK16.out, HXk.out]; exact HWo.out)] at h_)).mono ?_; clear HMx; rintro e_ w18 ⟨rfl, hb⟩; have HB17 := Aside0.mk hb; have HZ18 := Aside0.mk (HZ17.out.below hb); clear hb HZ17; skip)
                  | (go_at_call 40; have HMx := HZ18.out.ra.bel; refine (awake_calls _).mono ?_; clear HMx; rintro e_ wa ⟨rfl, hb⟩; have HBa := Aside0.mk (HZ18.out.ra.bel.trans (hb.mono HZ18.out.ra.bel.size)); clear hb; skip))
                go_ret
                exact ⟨rfl, HBa.out⟩
          · have hg1 : (fv == 0) = false := beq_eq_false_iff_ne.2 (by rw [hf5]; decide)
            have hg2 : decide (fv = 0) = false := decide_eq_false (by rw [hf5]; decide)
            have hg3 : (fv != 0) = true := by rw [bne, hg1]; rfl
            have hg4 : (fv == 5) = true := by rw [hf5]; rfl
            have hg5 : decide (fv = 5) = true := decide_eq_true hf5
            have hg6 : (fv != 5) = false := by rw [hf5]; rfl
            clear hf5
            rcases HDv.out with hd0 | hd5
            · have hi1 : (d == 0) = true := by rw [hd0]; rfl
              have hi2 : decide (d = 0) = true := decide_eq_true hd0
              have HD0 := Aside0.mk hd0
              clear hd0
              go_upto_region 40 with (first
                | (go_at_call 19; have HMx := HZ13.out; refine (crash_calls w g r13 m Am cm _ HZ13.out.ra (Kd.C_below HMo.out.2 HZ13.out.ra.bel) HMo.out.1 (fun ad e h0 hs => by subst e; have h1_ := Kd.C_lt HMo.out.2 h0 (by decide); have h2_ := S_ge HZ13.out.ra _ hs; omega) (by have := HB13.out.r; omega) (by have := HB13.out.r; omega)).mono ?_; clear HMx; intro e_ w14 hp; obtain ⟨rfl, hs⟩ := crash_step hp; obtain ⟨r14, he_, hz_⟩ := HZ13.out.step hs; have HZ14 := Aside0.mk hz_; obtain ⟨h1, h2, h3, h4⟩ := HO13.out; rw [← HE13.out, ← he_] at h2 h3; have HM14 := Aside0.mk (And.intro h1 h4); have HC14 := Aside0.mk h2; have HO14 := Aside0.mk (open_on HCo.out h1 h2 h3); have HB14 := Aside0.mk (show Bd (abs r14) 300 by rw [he_]; exact HB13.out.crash m); clear h1 h2 h3 h4 HE13; clear hp hs he_ hz_ HZ13 HB13; skip)
                | (go_at_call 46; have HMx := HZ14.out; refine (open_calls w g r14 _ 300 L2.length HZ14.out.ra HB14.out (by have := HLn2.out; have := HM2.out; omega) (mid_redo HCo.out HM14.out.1 HC14.out.ns)).mono ?_; clear HMx; intro e_ w15 hp; obtain ⟨h1, _, X15, h2, h3, h4, _⟩ := HO14.out; obtain ⟨q15, rfl, _, r15, hR, he15, hk15, hS15, _⟩ := opened hp (pair_eq h1); have HZ15 := Aside0.mk (show ZAt w w15 g r15 Aw7 nw7 fs7 Au nu FW from ⟨hR, HZ14.out.w1.kept hk15 (fun _ h => h) hS15, HZ14.out.w2.kept hk15 (fun _ h => h) hS15⟩); have HC15 := Aside0.mk (show Cln 1000000 X15 (abs r15) by rw [he15]; exact h4); have HX15 := Aside0.mk (And.intro h2 (fun e => h3 (HM14.out.2 (HM11.out.2 e)))); have HB15 := Aside0.mk (show Bd (abs r15) 400 by rw [he15]; exact (Bd.openz HB14.out (mid_redo HCo.out HM14.out.1 HC14.out.ns)).more (by have := HLn2.out; have := HM2.out; omega)); clear hp h1 h2 h3 h4 hR he15 hk15 hS15 HZ14 HB14; skip)
                | (go_at_call 18; have HMx := HZ15.out; refine (sure_calls w g r15 _ HZ15.out.ra (by have := HB15.out.r; omega)).mono ?_; clear HMx; intro e_ w16 hp; obtain ⟨v16, fs16, rfl, hfs, hk_, hb⟩ := sureP_files hp; have HFs16 := Aside0.mk (hfs (r15.S g) (SfE.S_lt HZ15.out.ra)); have HK16 := Aside0.mk (show fs16.map keyD = X15 by rw [← HC15.out.ss]; exact hk_); have HZ16 := Aside0.mk (HZ15.out.below hb); obtain ⟨A16, n16, c16, hv_, _, _⟩ := HFs16.out.slice; subst hv_; clear hp hfs hk_ hb HZ15; skip))
              have HWn := Aside0.mk (HX15.out.2 HD0.out)
              go_wp2_with (first
                | (go_at_call 28; have HMx := HZ16.out; refine (show Calls Try.prog 28 #[.slice A16 n16 c16, .slice Au nu cu] w16 (BoolP w16 true) from (by have h1_ := (wa_files HFs16.out); have h_ := RkU.same_calls A16 n16 c16 fs16 Au nu cu FW w16 h1_.C HZ16.out.w2.C h1_.db HZ16.out.w2.db; rwa [show sameFs fs16 FW = true from decide_eq_true (by rw [HK16.out, HWk.out]; exact HWn.out)] at h_)).mono ?_; clear HMx; rintro e_ w17 ⟨rfl, hb⟩; have HB16 := Aside0.mk hb; have HZ17 := Aside0.mk (HZ16.out.below hb); clear hb HZ16; skip)
                | (go_at_call 40; have HMx := HZ17.out.ra.bel; refine (awake_calls _).mono ?_; clear HMx; rintro e_ wa ⟨rfl, hb⟩; have HBa := Aside0.mk (HZ17.out.ra.bel.trans (hb.mono HZ17.out.ra.bel.size)); clear hb; skip))
              go_ret
              exact ⟨rfl, HBa.out⟩
            · have hi1 : (d == 0) = false := beq_eq_false_iff_ne.2 (by rw [hd5]; decide)
              have hi2 : decide (d = 0) = false := decide_eq_false (by rw [hd5]; decide)
              have hi3 : (d == 5) = true := by rw [hd5]; rfl
              have hi4 : decide (d = 5) = true := decide_eq_true hd5
              clear hd5
              go_upto_region 40 with (first
                | (go_at_call 19; have HMx := HZ13.out; refine (crash_calls w g r13 m Am cm _ HZ13.out.ra (Kd.C_below HMo.out.2 HZ13.out.ra.bel) HMo.out.1 (fun ad e h0 hs => by subst e; have h1_ := Kd.C_lt HMo.out.2 h0 (by decide); have h2_ := S_ge HZ13.out.ra _ hs; omega) (by have := HB13.out.r; omega) (by have := HB13.out.r; omega)).mono ?_; clear HMx; intro e_ w14 hp; obtain ⟨rfl, hs⟩ := crash_step hp; obtain ⟨r14, he_, hz_⟩ := HZ13.out.step hs; have HZ14 := Aside0.mk hz_; obtain ⟨h1, h2, h3, h4⟩ := HO13.out; rw [← HE13.out, ← he_] at h2 h3; have HM14 := Aside0.mk (And.intro h1 h4); have HC14 := Aside0.mk h2; have HO14 := Aside0.mk (open_on HCo.out h1 h2 h3); have HB14 := Aside0.mk (show Bd (abs r14) 300 by rw [he_]; exact HB13.out.crash m); clear h1 h2 h3 h4 HE13; clear hp hs he_ hz_ HZ13 HB13; skip)
                | (go_at_call 46; have HMx := HZ14.out; refine (open_calls w g r14 _ 300 L2.length HZ14.out.ra HB14.out (by have := HLn2.out; have := HM2.out; omega) (mid_redo HCo.out HM14.out.1 HC14.out.ns)).mono ?_; clear HMx; intro e_ w15 hp; obtain ⟨h1, _, X15, h2, h3, h4, _⟩ := HO14.out; obtain ⟨q15, rfl, _, r15, hR, he15, hk15, hS15, _⟩ := opened hp (pair_eq h1); have HZ15 := Aside0.mk (show ZAt w w15 g r15 Aw7 nw7 fs7 Au nu FW from ⟨hR, HZ14.out.w1.kept hk15 (fun _ h => h) hS15, HZ14.out.w2.kept hk15 (fun _ h => h) hS15⟩); have HC15 := Aside0.mk (show Cln 1000000 X15 (abs r15) by rw [he15]; exact h4); have HX15 := Aside0.mk (And.intro h2 (fun e => h3 (HM14.out.2 (HM11.out.2 e)))); have HB15 := Aside0.mk (show Bd (abs r15) 400 by rw [he15]; exact (Bd.openz HB14.out (mid_redo HCo.out HM14.out.1 HC14.out.ns)).more (by have := HLn2.out; have := HM2.out; omega)); clear hp h1 h2 h3 h4 hR he15 hk15 hS15 HZ14 HB14; skip)
                | (go_at_call 18; have HMx := HZ15.out; refine (sure_calls w g r15 _ HZ15.out.ra (by have := HB15.out.r; omega)).mono ?_; clear HMx; intro e_ w16 hp; obtain ⟨v16, fs16, rfl, hfs, hk_, hb⟩ := sureP_files hp; have HFs16 := Aside0.mk (hfs (r15.S g) (SfE.S_lt HZ15.out.ra)); have HK16 := Aside0.mk (show fs16.map keyD = X15 by rw [← HC15.out.ss]; exact hk_); have HZ16 := Aside0.mk (HZ15.out.below hb); obtain ⟨A16, n16, c16, hv_, _, _⟩ := HFs16.out.slice; subst hv_; clear hp hfs hk_ hb HZ15; skip))
              by_cases hWn : X15 = wantK X L2
              · have HWn := Aside0.mk hWn
                clear hWn
                go_wp2_with (first
                  | (go_at_call 28; have HMx := HZ16.out; refine (show Calls Try.prog 28 #[.slice A16 n16 c16, .slice Au nu cu] w16 (BoolP w16 true) from (by have h1_ := (wa_files HFs16.out); have h_ := RkU.same_calls A16 n16 c16 fs16 Au nu cu FW w16 h1_.C HZ16.out.w2.C h1_.db HZ16.out.w2.db; rwa [show sameFs fs16 FW = true from decide_eq_true (by rw [HK16.out, HWk.out]; exact HWn.out)] at h_)).mono ?_; clear HMx; rintro e_ w17 ⟨rfl, hb⟩; have HB16 := Aside0.mk hb; have HZ17 := Aside0.mk (HZ16.out.below hb); clear hb HZ16; skip)
                  | (go_at_call 40; have HMx := HZ17.out.ra.bel; refine (awake_calls _).mono ?_; clear HMx; rintro e_ wa ⟨rfl, hb⟩; have HBa := Aside0.mk (HZ17.out.ra.bel.trans (hb.mono HZ17.out.ra.bel.size)); clear hb; skip))
                go_ret
                exact ⟨rfl, HBa.out⟩
              · have HWo := Aside0.mk (HX15.out.1.resolve_right hWn)
                have HWn := Aside0.mk hWn
                clear hWn
                go_wp2_with (first
                  | (go_at_call 28; have HMx := HZ16.out; refine (show Calls Try.prog 28 #[.slice A16 n16 c16, .slice Au nu cu] w16 (BoolP w16 false) from (by have h1_ := (wa_files HFs16.out); have h_ := RkU.same_calls A16 n16 c16 fs16 Au nu cu FW w16 h1_.C HZ16.out.w2.C h1_.db HZ16.out.w2.db; rwa [show sameFs fs16 FW = false from decide_eq_false (by rw [HK16.out, HWk.out]; exact HWn.out)] at h_)).mono ?_; clear HMx; rintro e_ w17 ⟨rfl, hb⟩; have HB16 := Aside0.mk hb; have HZ17 := Aside0.mk (HZ16.out.below hb); clear hb HZ16; skip)
                  | (go_at_call 28; have HMx := HZ17.out; refine (show Calls Try.prog 28 #[.slice A16 n16 c16, .slice Aw7 nw7 cw7] w17 (BoolP w17 true) from (by have h1_ := (wa_files HFs16.out).below HB16.out; have h_ := RkU.same_calls A16 n16 c16 fs16 Aw7 nw7 cw7 fs7 w17 h1_.C HZ17.out.w1.C h1_.db HZ17.out.w1.db; rwa [show sameFs fs16 fs7 = true from decide_eq_true (by rw [HK16.out, HXk.out]; exact HWo.out)] at h_)).mono ?_; clear HMx; rintro e_ w18 ⟨rfl, hb⟩; have HB17 := Aside0.mk hb; have HZ18 := Aside0.mk (HZ17.out.below hb); clear hb HZ17; skip)
                  | (go_at_call 40; have HMx := HZ18.out.ra.bel; refine (awake_calls _).mono ?_; clear HMx; rintro e_ wa ⟨rfl, hb⟩; have HBa := Aside0.mk (HZ18.out.ra.bel.trans (hb.mono HZ18.out.ra.bel.size)); clear hb; skip))
                go_ret
                exact ⟨rfl, HBa.out⟩
    · have hf21 : (fit2 == 0) = false := beq_eq_false_iff_ne.2 hf2
      have hf22 : decide (fit2 = 0) = false := decide_eq_false hf2
      have hf23 : (fit2 != 0) = true := by rw [bne, hf21]; rfl
      have hf24 : (fit2 == fit2) = true := beq_self_eq_true _
      have hf25 : decide (fit2 = fit2) = true := decide_eq_true rfl
      have HFn2 := Aside0.mk hf2
      clear hf2
      go_wp2_with (first
        | (go_at_call 18; have HMx := HF6.out; refine (sure_calls w g r5 _ HF6.out.ra (by have := HF6.out.bd.r; omega)).mono ?_; clear HMx; intro e_ w7 hp; obtain ⟨v7, fs7, rfl, hfs, hk_, hb⟩ := sureP_files hp; have HFs7 := Aside0.mk (hfs (r5.S g) (SfE.S_lt HF6.out.ra)); have HK7 := Aside0.mk (show fs7.map keyD = (abs r5).ss from hk_); have HF7 := Aside0.mk (HF6.out.below hb); obtain ⟨Aw7, nw7, cw7, hv_, _, _⟩ := HFs7.out.slice; subst hv_; clear hp hfs hk_ hb HF6; skip)
        | (go_at_call 49; have HMx := HF7.out; refine (show Calls Try.prog 49 #[.pointer (some ⟨q, 0, none⟩), .slice A2 n2 c2] w7 (IntP w7 fit2) from (by have h1_ := fits_calls w q g r5 w7 A2 c2 ls2 HF7.out.ra HF7.out.sa (by rw [HN2.out]; exact Kd.C_below HC2.out HF7.out.ra.bel) (by rw [HN2.out]; exact HCc2.out) (fun x hx => (HD2.out x hx).below HF7.out.ra.bel) (by have := HL2.out.1; omega) (by have := HM2.out; have := HN2.out; omega) (by have := HF7.out.bd.r; omega) (HF7.out.free.2.2) HF7.out.free.1 (fun x hx => by have := HL2.out.2.2 x hx; omega); unfold FitsP at h1_; rwa [HLk2.out, HFt2.out, HN2.out] at h1_)).mono ?_; clear HMx; rintro e_ w8 ⟨rfl, hb⟩; have HF8 := Aside0.mk (HF7.out.below hb); have HWa := Aside0.mk ((wa_files HFs7.out).below hb); clear hb HF7 HFs7; skip)
        | (go_at_call 48; have HMx := HF8.out; refine (show Calls Try.prog 48 #[.pointer (some ⟨q, 0, none⟩), .slice A2 n2 c2] w8 (CommitP w w8 g r5 L2) from (by have h_ := commit_calls w q g r5 w8 A2 c2 ls2 100 HF8.out.ra HF8.out.sa (by rw [HN2.out]; exact chg_at HC2.out HD2.out HF8.out.ra.bel (S_ge HF8.out.ra)) (by rw [HN2.out]; exact HCc2.out) (by have := HL2.out.1; omega) HF8.out.bd (by have := HM2.out; have := HN2.out; omega) (fun _ => HF8.out.free.1) (fun x hx => by have := HL2.out.2.2 x hx; omega); rwa [HLk2.out, HN2.out] at h_)).mono ?_; clear HMx; intro e_ w9 hp; obtain ⟨he9, r9, hF9, hs9, _, hk9, hS9⟩ := HF8.out.commit hp; rw [HFt2.out] at he9 hs9; subst he9; have HF9 := Aside0.mk (show FAt w w9 g q r9 1000000 300 from ⟨hF9.ra, hF9.sa, hF9.cl, hF9.fu, hF9.bd.more (by have := HLn2.out; have := HM2.out; omega)⟩); have HS9 := Aside0.mk (hs9 HFn2.out); have HWa9 := Aside0.mk (HWa.out.kept hk9 (fun _ h => h) hS9); clear hp hF9 hs9 hk9 hS9 HF8 HWa; skip)
        | (go_at_call 49; have HMx := HF9.out; refine (show Calls Try.prog 49 #[.pointer (some ⟨q, 0, none⟩), .slice A2 n2 c2] w9 (IntP w9 fit2) from (by have h1_ := fits_calls w q g r9 w9 A2 c2 ls2 HF9.out.ra HF9.out.sa (by rw [HN2.out]; exact Kd.C_below HC2.out HF9.out.ra.bel) (by rw [HN2.out]; exact HCc2.out) (fun x hx => (HD2.out x hx).below HF9.out.ra.bel) (by have := HL2.out.1; omega) (by have := HM2.out; have := HN2.out; omega) (by have := HF9.out.bd.r; omega) (HF9.out.free.2.2) HF9.out.free.1 (fun x hx => by have := HL2.out.2.2 x hx; omega); unfold FitsP at h1_; rwa [HLk2.out, (show fitsK (abs r9) L2 = fit2 by rw [HS9.out]; exact HFt2.out), HN2.out] at h1_)).mono ?_; clear HMx; rintro e_ w10 ⟨rfl, hb⟩; have HF10 := Aside0.mk (HF9.out.below hb); have HWa10 := Aside0.mk (HWa9.out.below hb); clear hb HF9 HWa9; skip)
        | (go_at_call 18; have HMx := HF10.out; refine (sure_calls w g r9 _ HF10.out.ra (by have := HF10.out.bd.r; omega)).mono ?_; clear HMx; intro e_ w11 hp; obtain ⟨v11, fs11, rfl, hfs, hk_, hb⟩ := sureP_files hp; have HFs11 := Aside0.mk (hfs (r9.S g) (SfE.S_lt HF10.out.ra)); have HK11 := Aside0.mk (show fs11.map keyD = (abs r9).ss from hk_); have HF11 := Aside0.mk (HF10.out.below hb); obtain ⟨Aw11, nw11, cw11, hv_, _, _⟩ := HFs11.out.slice; subst hv_; have HWa11 := Aside0.mk (HWa10.out.below hb); clear HWa10 hp hfs hk_ hb HF10; skip)
        | (go_at_call 28; have HMx := HF11.out; refine (show Calls Try.prog 28 #[.slice Aw11 nw11 cw11, .slice Aw7 nw7 cw7] w11 (BoolP w11 true) from (by have h1_ := wa_files HFs11.out; have h_ := RkU.same_calls Aw11 nw11 cw11 fs11 Aw7 nw7 cw7 fs7 w11 h1_.C HWa11.out.C h1_.db HWa11.out.db; rwa [same_key HK11.out HK7.out (congrArg PS.ss HS9.out)] at h_)).mono ?_; clear HMx; rintro e_ w12 ⟨rfl, hb⟩; have HB12 := Aside0.mk (HF11.out.below hb).ra.bel; clear hb HF11 HFs11 HWa11; skip)
        | (go_at_call 40; have HMx := HB12.out; refine (awake_calls _).mono ?_; clear HMx; rintro e_ wa ⟨rfl, hb⟩; have HBa := Aside0.mk (HB12.out.trans (hb.mono HB12.out.size)); clear hb; skip))
      go_ret
      exact ⟨rfl, HBa.out⟩
end Go.Proofs.Ytjljgcceapkdcaa.SfY
end
