-- The used parts of 1 texts, laid together by merge.py.
import Derived.Test.YtjljgcceapkdcaaZQ17
section
namespace Go.Proofs.Ytjljgcceapkdcaa.SfM
open Go.RowKit Go.Proofs.YtjljgcceapkdcaaW.PrintWords Go.Proofs.YtjljgcceapkdcaaW.PrintLast Go.Proofs.YtjljgcceapkdcaaW.PrintMore Go.Proofs.Ytjljgcceapkdcaa.PkP Go.Proofs.Ytjljgcceapkdcaa.PkQ Go.Proofs.Ytjljgcceapkdcaa.PkH Go.Proofs.Ytjljgcceapkdcaa.PkC Go.Proofs.Ytjljgcceapkdcaa.RkA Go.Proofs.Ytjljgcceapkdcaa.RkB Go.Proofs.Ytjljgcceapkdcaa.RkC Go.Proofs.Ytjljgcceapkdcaa.RkL Go.Proofs.Ytjljgcceapkdcaa.RkU Go.Proofs.Ytjljgcceapkdcaa.SfA Go.Proofs.Ytjljgcceapkdcaa.SfB Go.Proofs.Ytjljgcceapkdcaa.SfC Go.Proofs.Ytjljgcceapkdcaa.SfE Go.Proofs.Ytjljgcceapkdcaa.SfH Go.Proofs.Ytjljgcceapkdcaa.SfI Go.Proofs.Ytjljgcceapkdcaa.SfJ Go.Proofs.Ytjljgcceapkdcaa.SfT Go.Proofs.Ytjljgcceapkdcaa.SfP Go.Proofs.Ytjljgcceapkdcaa.SfR Go.Proofs.Ytjljgcceapkdcaa.SfV Go.Proofs.Ytjljgcceapkdcaa.Rw
set_option linter.unusedVariables false
set_option linter.unusedSimpArgs false
def Nice (x : WR) : Prop := x.nm.size ≤ 24 ∧ x.d.size ≤ 200000 ∧ (x.cut = true → x.d.size = 0)
theorem nice_norm {x : WR} (h : Nice x) : normC (keyW x) = keyW x := by
  unfold normC keyW
  simp only
  cases hc : x.cut with
  | false => rfl
  | true =>
    have h1 := h.2.2 hc
    have : x.d = ⟨#[]⟩ := ByteArray.ext (Array.eq_empty_of_size_eq_zero h1)
    rw [this]
    rfl
theorem nice_all {L : List WR} (h : ∀ x ∈ L, Nice x) : parseF ((L.map keyW).flatMap chK) = (L.map keyW, 0) := by
  rw [parse_chs (L.map keyW) (fun c hc => by
    obtain ⟨x, hx, rfl⟩ := List.mem_map.1 hc
    exact ⟨(h x hx).1, fun _ => (h x hx).2.1⟩), List.map_map]
  congr 1
  apply List.map_congr_left
  intro x hx
  exact nice_norm (h x hx)
set_option maxRecDepth 100000 in
set_option maxHeartbeats 8000000 in
theorem safeBytes_calls (c1 : Nat) (l1 : List ChT) (A1 : Option Addr) (c2 : Nat) (l2 : List ChT) (A2 : Option Addr) (w : World) (ha1 : ArgOk l1) (hc1 : l1.length ≤ c1) (hC1 : Kd.C chD w A1 l1.length l1) (ha2 : ArgOk l2) (hc2 : l2.length ≤ c2) (hC2 : Kd.C chD w A2 l2.length l2) :
    Calls Try.prog 9 #[.slice A1 l1.length c1, .slice A2 l2.length c2] w fun e w' => e = .returned (.bool true) ∧ Below w.heap.size w w' := by
  have hu64 := Try.underlying64
  obtain ⟨r1, hr1, hr2, hr3, hh1⟩ := heavy14_calls l1 ha1
  obtain ⟨r2, hr4, hr5, hr6, hh2⟩ := heavy14_calls l2 ha2
  obtain ⟨lsl, hCl, hDl, hKl⟩ := chg_open hC1 (fun x hx => (ha1.2 x hx).2.2)
  obtain ⟨lsm, hCm, hDm, hKm⟩ := chg_open hC2 (fun x hx => (ha2.2 x hx).2.2)
  have HH1 := Aside0.mk (hh1 w A1 c1 hC1 hc1)
  have HH2 := Aside0.mk (fun W (h_ : Below w.heap.size w W) => hh2 W A2 c2 (Kd.C_below hC2 h_) hc2)
  have HZ1 := Aside0.mk (fun h => chs_len hKl (hr3 h).1 (hr3 h).2)
  have HZ2 := Aside0.mk (fun h => chs_len hKm (hr6 h).1 (hr6 h).2)
  have HY1 := Aside0.mk (fun h => (hr3 h).1)
  have HY2 := Aside0.mk (fun h => (hr6 h).1)
  have HCl := Aside0.mk (And.intro hCl hc1)
  have HCm := Aside0.mk (And.intro hCm hc2)
  have HDl := Aside0.mk hDl
  have HDm := Aside0.mk hDm
  obtain ⟨n1, hn1⟩ : ∃ n1, l1.length = n1 := ⟨_, rfl⟩
  obtain ⟨n2, hn2⟩ : ∃ n2, l2.length = n2 := ⟨_, rfl⟩
  rw [hn1] at HH1 HCl HY1 HZ1 ⊢
  rw [hn2] at HH2 HCm HY2 HZ2 ⊢
  have HN1 := Aside0.mk (show lsl.length = n1 from HCl.out.1.1)
  have HN2 := Aside0.mk (show lsm.length = n2 from HCm.out.1.1)
  clear ha1 hc1 hC1 ha2 hc2 hC2 hh1 hh2 hCl hDl hKl hCm hDm hKm hr3 hr6 hn1 hn2
  have hw1 : IntKind.i64.wrap (r1 + r2) = r1 + r2 := by rw [IntKind.wrap_i64]; omega
  go_enter Try.func9, Try.ntmps9
  by_cases hg : 0 < r1 + r2
  · have hd : decide (0 < r1 + r2) = true := decide_eq_true hg
    go_wp2_with (first
      | (go_at_call 39; have HHx := HH1.out; refine HHx.mono ?_; rintro e_ w1 ⟨rfl, hb⟩; have HB1 := Aside0.mk hb; clear hb HH1 HHx; skip)
      | (go_at_call 39; have HHx := HH2.out w1 HB1.out; refine HHx.mono ?_; rintro e_ w2 ⟨rfl, hb⟩; have HB2 := Aside0.mk (HB1.out.trans (hb.mono HB1.out.size)); clear hb HHx; skip)
      | (go_at_call 40; refine (awake_calls _).mono ?_; rintro e_ wa ⟨rfl, hb⟩; have HBa := Aside0.mk (HB2.out.trans (hb.mono HB2.out.size)); clear hb; skip))
    go_ret
    exact ⟨rfl, HBa.out⟩
  have hd : decide (0 < r1 + r2) = false := decide_eq_false hg
  have HL1 := Aside0.mk (HZ1.out (by omega))
  have HL2 := Aside0.mk (HZ2.out (by omega))
  have HM1 := Aside0.mk (HY1.out (by omega))
  have HM2 := Aside0.mk (HY2.out (by omega))
  clear HZ1 HZ2 HY1 HY2 hg
  go_wp2_with (first
    | (go_at_call 39; have HHx := HH1.out; refine HHx.mono ?_; rintro e_ w1 ⟨rfl, hb⟩; have HB1 := Aside0.mk hb; clear hb HH1 HHx; skip)
    | (go_at_call 39; have HHx := HH2.out w1 HB1.out; refine HHx.mono ?_; rintro e_ w2 ⟨rfl, hb⟩; have HB2 := Aside0.mk (HB1.out.trans (hb.mono HB1.out.size)); clear hb HHx; skip)
    | ((with_reducible refine gate_dst (N := 16) rfl ?_); refine Kd.R_lit kW (w0 := w) w.heap.size 64 rfl rfl (xs := []) (inner := []) (ok := fun _ => True) (okp := fun _ => False) ?hr16 ⟨rfl, fun j p h => by simp at h⟩ (fun _ h => h.elim) trivial HB2.out HB2.out.size (by decide) ?_; (case hr16 => first | (go_simp; done) | (go_simp; rfl)); intro v16 w16 ho hb hg hat; have HR16 := Aside0.mk ho; have HB16 := Aside0.mk hb; clear ho hb hg hat; skip)
    | ((with_reducible refine gate_builtin (b := .append) (xs := #[.tmp 16, .tmp 17]) rfl ?_); at_builtin; refine Kd.R_append_rows kW (w0 := w) w.heap.size rfl (.tmp 16) (.tmp 17) 56 64 (.agg #[.string ⟨#[]⟩, .bool false, .slice none 0 0]) 48 rfl Try.underlying56 info_change rfl (by decide) (by omega) v16 [] lsl A1 n1 c1 (fun _ => True) (fun _ => False) rfl rfl HR16.out (Kd.C_below HCl.out.1 HB16.out) (fun _ _ h => h) (fun _ h => h.elim) (fun _ _ => trivial) HB16.out HB16.out.size (by have h1_ := HN1.out; have h2_ := HN2.out; have h3_ := HM1.out; have h4_ := HM2.out; simp only [List.length_nil, List.nil_append]; omega) ?_; intro v18 w18 ho hb hg hat; have HR18 := Aside0.mk ho; have HB18 := Aside0.mk hb; clear ho hb hg hat; skip)
    | ((with_reducible refine gate_builtin (b := .append) (xs := #[.tmp 18, .tmp 19]) rfl ?_); at_builtin; refine Kd.R_append_rows kW (w0 := w) w.heap.size rfl (.tmp 18) (.tmp 19) 56 64 (.agg #[.string ⟨#[]⟩, .bool false, .slice none 0 0]) 48 rfl Try.underlying56 info_change rfl (by decide) (by omega) v18 ([] ++ lsl) lsm A2 n2 c2 (fun _ => True) (fun _ => False) rfl rfl HR18.out (Kd.C_below HCm.out.1 HB18.out) (fun _ _ h => h) (fun _ h => h.elim) (fun _ _ => trivial) HB18.out HB18.out.size (by have h1_ := HN1.out; have h2_ := HN2.out; have h3_ := HM1.out; have h4_ := HM2.out; simp only [List.length_nil, List.nil_append]; omega) ?_; intro v20 w20 ho hb hg hat; rw [List.nil_append] at ho; obtain ⟨A20, n20, c20, rfl⟩ := RkH.slc ho; have HR20 := Aside0.mk ho; have HB20 := Aside0.mk hb; clear ho hb hg hat; skip))
  clear HH2 HR16 HR18 HB16 HB18
  clear hw1 hr1 hr2 hr4 hr5 hd
  obtain ⟨n, hnn⟩ : ∃ n, n20 = n := ⟨_, rfl⟩
  subst hnn
  have HNn := Aside0.mk (show n20 = (lsl ++ lsm).length from (Kd.R_reads' HR20.out).1)
  have HC20 := Aside0.mk (show Kd.C kW w20 A20 n20 (lsl ++ lsm) by have h_ := Kd.R_reads' HR20.out; rw [h_.1]; exact h_.2.2)
  have hn9 : (n20 : Int) ≤ 120 := by
    have h1 := HNn.out
    have h2 := HN1.out
    have h3 := HN2.out
    have h4 := HM1.out
    have h5 := HM2.out
    rw [List.length_append] at h1
    omega
  have HDa := Aside0.mk (show ∀ x ∈ lsl ++ lsm, DW w x from fun x hx => (List.mem_append.1 hx).elim (HDl.out x) (HDm.out x))
  clear HR20
  go_loopw [22] (fun i wr => ∃ k : Nat, k ≤ n20 ∧ i = .int .i64 k ∧ Aside0 (∀ x ∈ (lsl ++ lsm).take k, Nice x) ∧ Aside0 (Below w.heap.size w wr) ∧ Aside0 (Below w20.heap.size w20 wr)) (fun i _ => n20 - (intOf i).toNat)
  case atStart => exact ⟨0, Nat.zero_le _, rfl, ⟨fun x hx => by simp at hx⟩, HB20, ⟨Below.refl _ _⟩⟩
  case round =>
    clear HB20
    obtain ⟨k, hk, rfl, HNi, HB, HBr⟩ := hrel
    by_cases hlt : k < n20
    · obtain ⟨x, hx⟩ : ∃ x, (lsl ++ lsm)[k]? = some x := ⟨_, List.getElem?_eq_getElem (by rw [← HNn.out]; exact hlt)⟩
      obtain ⟨ad, e1, x0, x1, x2⟩ := at_W (Kd.C_below HC20.out HBr.out) k hlt x hx
      cases e1
      have HX := Aside0.mk hx
      clear hx
      have M0_0 := Aside0.mk (Below.refl wr.heap.size wr)
      go_upto_region 6 with ((with_reducible refine gate_dst (N := 6) rfl ?_); refine box_event ?hgY6 (N := 6) ?hdY6 (cs := #[.string (⟨#[]⟩ : ByteArray), .bool false, .slice none 0 0]) (t := 64) ?hrY6 ?_; (case hdY6 => rfl); (case hgY6 => rfl); (case hrY6 => first | (go_simp; done) | (go_simp; rfl)); intro g_Y hg_ w_1 hbx_ hb_; have L0_Y := Aside0.mk (show wr.heap.size ≤ g_Y by have := M0_0.out.size; omega); have M0_1 := Aside0.mk (M0_0.out.trans (hb_.mono M0_0.out.size)); have Y_1 := Aside0.mk hbx_; clear hg_ hbx_ hb_ M0_0; have zY0 := blk_cell Y_1.out 0; have yY0 := blk_frozen Y_1.out 0; have zY1 := blk_cell Y_1.out 1; have yY1 := blk_frozen Y_1.out 1; have zY2 := blk_cell Y_1.out 2; have yY2 := blk_frozen Y_1.out 2; skip)
      obtain ⟨w7, e2, GY2, HB2'⟩ := fresh3 M0_1.out L0_Y.out Y_1.out x
      rw [e2]
      clear e2 zY0 zY1 zY2 yY0 yY1 yY2 x0 x1 x2
      have HB27 := Aside0.mk HB2'
      have HB7 := Aside0.mk (HB.out.trans (HB2'.mono HB.out.size))
      have hc0 := blk_cell GY2 0
      have hc1 := blk_cell GY2 1
      have hc2 := blk_cell GY2 2
      clear GY2 HB2'
      have HB7r := Aside0.mk (HBr.out.trans (HB27.out.mono HBr.out.size))
      by_cases h24 : 24 < x.nm.size
      · have hd1 : decide ((24 : Int) < (x.nm.size : Int)) = true := decide_eq_true (by omega)
        clear h24
        go_wp2_with (go_at_call 40; refine (awake_calls _).mono ?_; rintro e_ wa ⟨rfl, hb⟩; have HBa := Aside0.mk (HB7.out.trans (hb.mono HB7.out.size)); clear hb; skip)
        go_ret
        exact ⟨rfl, HBa.out⟩
      have hd1 : decide ((24 : Int) < (x.nm.size : Int)) = false := decide_eq_false (by omega)
      by_cases h20 : 200000 < x.d.size
      · have hd2 : decide ((200000 : Int) < (x.d.size : Int)) = true := decide_eq_true (by omega)
        clear h24 h20
        go_wp2_with (go_at_call 40; refine (awake_calls _).mono ?_; rintro e_ wa ⟨rfl, hb⟩; have HBa := Aside0.mk (HB7.out.trans (hb.mono HB7.out.size)); clear hb; skip)
        go_ret
        exact ⟨rfl, HBa.out⟩
      have hd2 : decide ((200000 : Int) < (x.d.size : Int)) = false := decide_eq_false (by omega)
      by_cases hcut : x.cut = true
      · by_cases h0 : 0 < x.d.size
        · have hd3 : decide ((0 : Int) < (x.d.size : Int)) = true := decide_eq_true (by omega)
          have hd4 : decide (0 < x.d.size) = true := decide_eq_true h0
          clear h24 h20
          go_wp2_with (go_at_call 40; refine (awake_calls _).mono ?_; rintro e_ wa ⟨rfl, hb⟩; have HBa := Aside0.mk (HB7.out.trans (hb.mono HB7.out.size)); clear hb; skip)
          go_ret
          exact ⟨rfl, HBa.out⟩
        have hd3 : decide ((0 : Int) < (x.d.size : Int)) = false := decide_eq_false (by omega)
        have hd4 : decide (0 < x.d.size) = false := decide_eq_false h0
        have HNx := Aside0.mk (show Nice x from ⟨by omega, by omega, fun _ => by omega⟩)
        clear h24 h20
        go_wp2_with fail
        go_roundw
        case rel => exact ⟨k + 1, by omega, by go_num, ⟨fun y hy => by (rw [List.take_add_one, HX.out] at hy; rcases List.mem_append.1 hy with hy | hy; (exact HNi.out y hy); (have hyx : y = x := by simpa using hy); subst hyx; exact HNx.out)⟩, HB7, HB7r⟩
        case measure => simp [intOf]; omega
      · replace hcut : x.cut = false := by simpa using hcut
        have HNx := Aside0.mk (show Nice x from ⟨by omega, by omega, fun h => by rw [hcut] at h; cases h⟩)
        clear h24 h20
        go_wp2_with fail
        go_roundw
        case rel => exact ⟨k + 1, by omega, by go_num, ⟨fun y hy => by (rw [List.take_add_one, HX.out] at hy; rcases List.mem_append.1 hy with hy | hy; (exact HNi.out y hy); (have hyx : y = x := by simpa using hy); subst hyx; exact HNx.out)⟩, HB7, HB7r⟩
        case measure => simp [intOf]; omega
    · obtain rfl : k = n20 := by omega
      have HNa := Aside0.mk (show ∀ x ∈ lsl ++ lsm, Nice x from fun x hx => HNi.out x (by rw [HNn.out, List.take_length]; exact hx))
      have HPa := Aside0.mk (show parseF (chsE lsl ++ chsE lsm) = ((lsl ++ lsm).map keyW, 0) by
        have h := nice_all HNa.out
        rw [List.map_append, List.flatMap_append, ← chsE_key, ← chsE_key, ← List.map_append] at h
        exact h)
      have HBy := Aside0.mk (show PkH.Bytes (chsE lsl ++ chsE lsm) from fun b hb => by
        rw [chsE_key, chsE_key] at hb
        rcases List.mem_append.1 hb with hb | hb
        · exact bts_chs _ b hb
        · exact bts_chs _ b hb)
      clear HNi hlt hk HC20 HBr
      go_wp2_with (first
        | ((with_reducible refine gate_dst (N := 49) rfl ?_); refine Kd.R_lit (Kd.int .u8) (w0 := w) w.heap.size 5 rfl rfl (xs := []) (inner := []) (ok := fun _ => True) (okp := fun _ => False) ?hr49 ⟨rfl, fun j p h => by simp at h⟩ (fun _ h => h.elim) trivial HB.out HB.out.size (by decide) ?_; (case hr49 => first | (go_simp; done) | (go_simp; rfl)); intro v49 w49 ho hb hg hat; obtain ⟨A49, n49, c49, rfl, ho49⟩ := Ow.of ho; have HO49 := Aside0.mk ho49; have HB49 := Aside0.mk hb; clear ho hb hg hat ho49 HB; skip)
        | (go_at_call 43; have HMx := HB49.out; refine (show Calls Try.prog 43 #[.slice A1 n1 c1] w49 (BytesP w49 (chsE lsl)) from (by have h_ := bytes_calls A1 c1 lsl w49 (by rw [HN1.out]; exact Kd.C_below HCl.out.1 HB49.out) (by rw [HN1.out]; exact HCl.out.2) (fun x hx => (HDl.out x hx).below HB49.out) (by have := HL1.out.1; omega); rwa [HN1.out] at h_)).mono ?_; clear HMx; rintro e_ w51 ⟨A51, n51, c51, rfl, ho, hb⟩; have HS51 := Aside0.mk ho.sl; have HO51 := Aside0.mk (HO49.out.below hb); have HB51 := Aside0.mk (HB49.out.trans (hb.mono HB49.out.size)); clear ho hb HO49 HB49; skip)
        | ((with_reducible refine gate_builtin (b := .append) (xs := #[.tmp 49, .tmp 51]) rfl ?_); at_builtin; have HMx := HB51.out; refine append_sl rfl (.tmp 49) (.tmp 51) rfl HO51.out HS51.out rfl rfl HB51.out.size (by have := HL1.out.1; simp only [List.length_nil]; omega) ?_; clear HMx; intro A52 n52 c52 w52 ho hb; have HO52 := Aside0.mk ho; have HB52 := Aside0.mk (HB51.out.trans hb); clear ho hb HO51 HS51 HB51; skip)
        | (go_at_call 43; have HMx := HB52.out; refine (show Calls Try.prog 43 #[.slice A2 n2 c2] w52 (BytesP w52 (chsE lsm)) from (by have h_ := bytes_calls A2 c2 lsm w52 (by rw [HN2.out]; exact Kd.C_below HCm.out.1 HB52.out) (by rw [HN2.out]; exact HCm.out.2) (fun x hx => (HDm.out x hx).below HB52.out) (by have := HL2.out.1; omega); rwa [HN2.out] at h_)).mono ?_; clear HMx; rintro e_ w54 ⟨A54, n54, c54, rfl, ho, hb⟩; have HS54 := Aside0.mk ho.sl; have HO54 := Aside0.mk (HO52.out.below hb); have HB54 := Aside0.mk (HB52.out.trans (hb.mono HB52.out.size)); clear ho hb HO52 HB52; skip)
        | ((with_reducible refine gate_builtin (b := .append) (xs := #[.tmp 52, .tmp 54]) rfl ?_); at_builtin; have HMx := HB54.out; refine append_sl rfl (.tmp 52) (.tmp 54) rfl HO54.out HS54.out rfl rfl HB54.out.size (by have h1_ := HL1.out.1; have h2_ := HL2.out.1; simp only [List.nil_append]; omega) ?_; clear HMx; intro A55 n55 c55 w55 ho hb; have HS55 := Aside0.mk ho.sl; have HB55 := Aside0.mk (HB54.out.trans hb); clear ho hb HO54 HS54 HB54; skip)
        | (go_at_call 41; have HMx := HS55.out; refine (show Calls Try.prog 41 #[.slice A55 n55 c55] w55 (ParseP w55 ((lsl ++ lsm).map keyW, 0)) from (by have h1_ := HS55.out.len; rw [List.nil_append] at h1_; have h2_ := HS55.out.reads; rw [List.nil_append] at h2_; have h_ := parse_calls A55 c55 (chsE lsl ++ chsE lsm) w55 (by rw [← h1_]; exact h2_) (by rw [← h1_]; exact HS55.out.cap) HBy.out (by have h3_ := HL1.out.1; have h4_ := HL2.out.1; rw [List.length_append]; omega); rwa [← h1_, HPa.out] at h_)).mono ?_; clear HMx; rintro e_ w56 ⟨A56, n56, c56, ls, rfl, hls, hn56, _, hch, hb⟩; have HLs := Aside0.mk hls; have HB56 := Aside0.mk (HB55.out.trans (hb.mono HB55.out.size)); have HCh := Aside0.mk (hch (fun _ => False) (fun k hk => hk.elim)); clear hls hn56 hch hb HS55 HB55; skip)
        | ((with_reducible refine gate_dst (N := 63) rfl ?_); refine wpList_step fun K_ hK_ => ?_; refine Kd.R_lit_step kW (w0 := w56) w56.heap.size 64 (by rfl) rfl (xs := []) (inner := []) (ok := fun _ => True) (okp := fun _ => False) ?hr63 ⟨rfl, fun j p h => by simp at h⟩ (fun _ h => h.elim) trivial (Below.refl w56.heap.size w56) (Below.refl w56.heap.size w56).size (by decide) ?_; (case hr63 => first | (go_simp; done) | (go_simp; rfl)); intro v63 w63 ho hb hg hat; refine hK_ _ _ ?_; have HR63 := Aside0.mk ho; have HB63 := Aside0.mk hb; clear ho hb hg hat; skip)
        | ((with_reducible refine gate_builtin (b := .append) (xs := #[.tmp 63, .tmp 64]) rfl ?_); refine wpList_step fun K_ hK_ => ?_; refine Kd.R_append_rows_step kW (w0 := w56) w56.heap.size (by rfl) (.tmp 63) (.tmp 64) 56 64 (.agg #[.string ⟨#[]⟩, .bool false, .slice none 0 0]) 48 rfl Try.underlying56 info_change rfl (by decide) (by omega) v63 [] lsl A1 n1 c1 (fun _ => True) (fun _ => False) rfl rfl HR63.out (Kd.C_below HCl.out.1 (HB56.out.trans (HB63.out.mono HB56.out.size))) (fun _ _ h => h) (fun _ h => h.elim) (fun _ _ => trivial) HB63.out HB63.out.size (by have h1_ := HN1.out; have h2_ := HN2.out; have h3_ := HM1.out; have h4_ := HM2.out; simp only [List.length_nil, List.nil_append]; omega) ?_; intro v65 w65 ho hb hg hat; refine hK_ _ _ ?_; have HR65 := Aside0.mk ho; have HB65 := Aside0.mk hb; clear ho hb hg hat; skip)
        | ((with_reducible refine gate_builtin (b := .append) (xs := #[.tmp 65, .tmp 66]) rfl ?_); refine wpList_step fun K_ hK_ => ?_; refine Kd.R_append_rows_step kW (w0 := w56) w56.heap.size (by rfl) (.tmp 65) (.tmp 66) 56 64 (.agg #[.string ⟨#[]⟩, .bool false, .slice none 0 0]) 48 rfl Try.underlying56 info_change rfl (by decide) (by omega) v65 ([] ++ lsl) lsm A2 n2 c2 (fun _ => True) (fun _ => False) rfl rfl HR65.out (Kd.C_below HCm.out.1 (HB56.out.trans (HB65.out.mono HB56.out.size))) (fun _ _ h => h) (fun _ h => h.elim) (fun _ _ => trivial) HB65.out HB65.out.size (by have h1_ := HN1.out; have h2_ := HN2.out; have h3_ := HM1.out; have h4_ := HM2.out; simp only [List.length_nil, List.nil_append]; omega) ?_; intro v67 w67 ho hb hg hat; refine hK_ _ _ ?_; rw [List.nil_append] at ho; obtain ⟨A67, n67, c67, rfl⟩ := RkH.slc ho; have HR67 := Aside0.mk ho; have HB67 := Aside0.mk hb; have HBs67 := HB67; have HBw67 := Aside0.mk (HB56.out.trans (HB67.out.mono HB56.out.size)); clear ho hb hg hat; skip)
        | (go_at_call 45; have HMx := HR67.out; refine (show Calls Try.prog 45 #[.slice A56 n56 c56, .slice A67 n67 c67] w67 (BoolP w67 true) from (by have h_ := same_calls A56 n56 c56 ls A67 n67 c67 (lsl ++ lsm) w67 (Kd.C_below HCh.out.C HBs67.out) (by have h1_ := Kd.R_reads' HR67.out; rw [h1_.1]; exact h1_.2.2) (fun x hx => (HCh.out.ds x hx).dw.below HBs67.out) (fun x hx => (HDa.out x hx).below HBw67.out); rwa [show sameC ls (lsl ++ lsm) = true from decide_eq_true HLs.out] at h_)).mono ?_; clear HMx; rintro e_ w68 ⟨rfl, hb⟩; have HB68 := Aside0.mk (HBw67.out.trans (hb.mono HBw67.out.size)); clear hb HR67; skip)
        | (go_at_call 40; refine (awake_calls _).mono ?_; rintro e_ wa ⟨rfl, hb⟩; have HBa := Aside0.mk (HB68.out.trans (hb.mono HB68.out.size)); clear hb; skip))
      go_ret
      exact ⟨rfl, HBa.out⟩
end Go.Proofs.Ytjljgcceapkdcaa.SfM
end
