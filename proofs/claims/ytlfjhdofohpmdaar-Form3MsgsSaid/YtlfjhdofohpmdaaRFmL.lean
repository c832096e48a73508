import Derived.Test.YtlfjhdofohpmdaaRFmA
/-! Form3Msgs: a box is its head and its messages. -/
namespace Go.Proofs.YtlfjhdofohpmdaaR.FmL
open Go.RowKit Go.Proofs.YtlfjhdofohpmdaaRW.PrintWords Go.Proofs.YtlfjhdofohpmdaaRW.PrintLast Go.Proofs.YtlfjhdofohpmdaaRW.PrintMore Go.Proofs.YtlfjhdofohpmdaaR.FmG Go.Proofs.YtlfjhdofohpmdaaR.FmM Go.Proofs.YtlfjhdofohpmdaaR.PkP Go.Proofs.YtlfjhdofohpmdaaR.FmN Go.Proofs.YtlfjhdofohpmdaaR.FmB Go.Proofs.YtlfjhdofohpmdaaR.FmC Go.Proofs.YtlfjhdofohpmdaaR.FmH Go.Proofs.YtlfjhdofohpmdaaR.FmY Go.Proofs.YtlfjhdofohpmdaaR.FmA
set_option linter.unusedVariables false
set_option linter.unusedSimpArgs false
theorem str_eq (x y : ByteArray) : (x.toList == y.toList) = decide (x = y) := by
  by_cases h : x = y
  · subst h
    simp
  · rw [decide_eq_false h]
    apply beq_eq_false_iff_ne.2
    intro e
    rw [ByteArray.toList_eq, ByteArray.toList_eq] at e
    exact h (ByteArray.ext (Array.toList_inj.1 e))
set_option maxRecDepth 100000 in
set_option maxHeartbeats 1000000 in
theorem rb_from {w0 : World} (A : Option Addr) (n c : Nat) (bs : List Int) (hn : n = bs.length) (j : Nat) (hC : Kd.C (Kd.int .u8) w0 A bs.length bs) (hc : bs.length ≤ c) (hm : j ≤ bs.length) :
    ∃ A' n' c', (∀ W : World, (Instr.slice 30 (.slice A n c) (some (.int .i64 (j : Int))) none none).run Try.prog W = .ok (.slice A' n' c') W) ∧ Aside0 (Rb w0 (.slice A' n' c') (bs.drop j)) := by
  subst hn
  obtain ⟨i0, hi, hzz⟩ := Option.map_eq_some_iff.1 info_byte
  simp only [Prod.mk.injEq] at hzz
  have hd := Kd.C_drop hC (m := j) (c := c) (by omega) hc
  refine ⟨_, _, _, cut_from _ _ _ Try.underlying30 hi 1 hzz.2.1 A bs.length c j (by omega) (by omega), ⟨⟨(if c = j then A else A.map (·.add (j * 1))), c - j, ?_, ?_, hd⟩⟩⟩
  · rw [List.length_drop, Int.toNat_natCast]
  · rw [List.length_drop]; omega
theorem headE_len (a0 : ByteArray) (a1 a2 a3 : Int) (ws : List ByteArray) (ms : List S35) : 3 < (headE a0 a1 a2 a3 ws ms).length := by
  have h := enc_pos (ms.length : Int)
  have e : encNs [(ms.length : Int)] = enc (ms.length : Int) := by simp [encNs]
  unfold headE
  rw [e]
  simp only [List.length_append, List.length_cons, List.length_nil]
  omega
theorem headE_le (a0 : ByteArray) (a1 a2 a3 : Int) (ws : List ByteArray) (ms : List S35) : (headE a0 a1 a2 a3 ws ms).length ≤ 100 + a0.size + 6 * ws.length + sumW ws := by
  have h1 := encNs_len [a1, a2, a3]
  have h2 := encT_len a0
  have h3 := encNs_len [(ws.length : Int)]
  have h4 := encTs_len ws
  have h5 := encNs_len [(ms.length : Int)]
  unfold headE
  simp only [List.length_append, List.length_cons, List.length_nil] at *
  omega
def t_mailsacklaw10_Form3Msgs.T13 : Bool × List (List Nat × List Nat) := (true, [([], []), ([0], [0]), ([1], [1]), ([2], [2]), ([3, 2], [2, 3]), ([2, 4], [2, 4]), ([5, 2], [5]), ([6], [6]), ([6], [6]), ([7, 8, 6], [6, 7, 8]), ([9, 6], [6, 9]), ([6], [6]), ([11, 6], [6, 11]), ([10, 12, 6], [6, 10, 12]), ([6, 13], [6, 13]), ([14, 6], [14]), ([15, 15], [15]), ([15, 16], [15, 16]), ([17, 16, 0, 1, 2, 3, 4, 5, 6, 7, 8, 9, 10, 11, 12, 13, 14, 15, 16, 17], [17])])
def t_mailsacklaw10_Form3Msgs.B13 : List Nat := [0, 1, 3, 7, 15, 31, 63, 127, 127, 511, 1023, 127, 2175, 8191, 16383, 32767, 65535, 131071, 262143]
theorem t_mailsacklaw10_Form3Msgs.tab13 : rtab .any (opsOf Try.f3 13) = t_mailsacklaw10_Form3Msgs.T13 := by kernel_rfl
theorem t_mailsacklaw10_Form3Msgs.bits13 : waitsOk t_mailsacklaw10_Form3Msgs.T13.2 t_mailsacklaw10_Form3Msgs.B13 = true := by kernel_rfl
set_option maxRecDepth 100000 in
set_option maxHeartbeats 4000000 in
theorem form3Msgs_calls (a0 : ByteArray) (a1 a2 a3 : Int) (A4 : Option Addr) (c4 : Nat) (ws : List ByteArray) (A5 : Option Addr) (c5 : Nat) (ms : List S35) (w : World) (hC4 : Kd.C Kd.string w A4 ws.length ws) (hc4 : ws.length ≤ c4) (hC5 : Kd.C k35 w A5 ms.length ms) (hc5 : ms.length ≤ c5)
    (h0 : a0.size ≤ 140737488355328) (hs : ∀ s ∈ ws, s.size ≤ 140737488355328) (hw : ∀ m ∈ ms, wt m ≤ 422212465065984) (hl4 : ws.length ≤ 140737488355328) (hl5 : ms.length ≤ 140737488355328) :
    Calls Try.prog 3 #[.agg #[.string a0, .int .i64 a1, .int .i64 a2, .int .i64 a3, .slice A4 ws.length c4, .slice A5 ms.length c5]] w fun e w' => e = .returned (.bool true) ∧ Below w.heap.size w w' := by
  have hu25 := Try.underlying25
  have hu35 := Try.underlying35
  obtain ⟨k, hk⟩ := (heavy_ev a0 a1 a2 a3 ws ms hl5 hl4).get
  have HHv := Aside0.mk (fun W (hbl : Below w.heap.size w W) => mailsacklaw6_Heavy.calls k a0 a1 a2 a3 A4 c4 ws A5 c5 ms _ W (Kd.C_below hC4 hbl) hc4 (Kd.C_below hC5 hbl) hc5 hk)
  clear hk
  have hAw := Aside0.mk awake_calls
  rcases heavy_01 (bulk a0 ws ms) ws.length ms.length with h01 | h01
  case inr =>
    rw [h01] at HHv
    clear hC4 hC5 h0 hs hw hl4 hl5 hc4 hc5
    go_enter Try.func3, Try.ntmps3
    go_wp2_with (first
      | (go_at_call 6; refine (HHv.out _ (below_alloc (Below.refl _ _) _)).mono ?_; rintro e w1 ⟨rfl, hb⟩; have HB1 := Aside0.mk ((below_alloc (Below.refl w.heap.size w) _).trans (hb.mono (by show w.heap.size ≤ (w.heap.push _).size; simp))); clear hb)
      | (go_at_call 8; refine (hAw.out _).mono ?_; rintro e w2 ⟨rfl, hb⟩; have HB2 := Aside0.mk (HB1.out.trans (hb.mono HB1.out.size)); clear hb))
    go_ret
    exact ⟨rfl, HB2.out⟩
  case inl =>
    have hb := light h0 hs hw h01
    rw [h01] at HHv
    clear h01
    have hw2 : ∀ m ∈ ms, wt m ≤ 60000 := fun m hm => by have := mem_sumM ms m hm; have := hb.1; unfold bulk at this; omega
    have hs2 : ∀ s ∈ ws, s.size ≤ 60000 := fun s hm => by have := mem_sumW ws s hm; have := hb.1; unfold bulk at this; omega
    obtain ⟨k, hk⟩ := (rbox_ev a0 a1 a2 a3 ws ms (fun m hm => by have := hw2 m hm; omega) (fun s hm => by have := hs2 s hm; omega)).get
    have HMy := Aside0.mk (fun W (hbl : Below w.heap.size w W) => mailsackref1_MayBox.calls k a0 a1 a2 a3 A4 c4 ws A5 c5 ms _ W (Kd.C_below hC4 hbl) hc4 (Kd.C_below hC5 hbl) hc5 hk)
    clear hk
    have HX := Aside0.mk (fun W (hbl : Below w.heap.size w W) (hP : boxP a0 a1 a2 a3 ws ms = 0) => bytes_calls a0 a1 a2 a3 A4 c4 ws A5 c5 ms W (Kd.C_below hC4 hbl) hc4 (Kd.C_below hC5 hbl) hc5 hb hP)
    have HC5 := Aside0.mk hC5
    have Hb := Aside0.mk hb
    have hnm : (ms.length : Int) ≤ 100 := by omega
    clear hC4 hC5 h0 hs hw hl4 hl5 hc4 hc5 hb hs2 hw2
    by_cases hP : boxP a0 a1 a2 a3 ws ms = 0
    case neg =>
      obtain ⟨q, hq⟩ : ∃ q, boxP a0 a1 a2 a3 ws ms = q := ⟨_, rfl⟩
      rw [hq] at hP HMy
      have hq1 : (q != 0) = true := bne_iff_ne.mpr hP
      clear HX hq hP
      go_enter Try.func3, Try.ntmps3
      go_wp2_with (first
        | (go_at_call 6; refine (HHv.out _ (below_alloc (Below.refl _ _) _)).mono ?_; rintro e w1 ⟨rfl, hb⟩; have HB1 := Aside0.mk ((below_alloc (Below.refl w.heap.size w) _).trans (hb.mono (by show w.heap.size ≤ (w.heap.push _).size; simp))); have hG1 := (hb.block w.heap.size (by show w.heap.size < (w.heap.push _).size; simp)).trans (heap_alloc_new w _); clear hb; have hz0 := blk_cell hG1 0; have hz1 := blk_cell hG1 1; have hz2 := blk_cell hG1 2; have hz3 := blk_cell hG1 3; have hz4 := blk_cell hG1 4; have hz5 := blk_cell hG1 5; clear hG1)
        | (go_at_call 7; refine (HMy.out _ HB1.out).mono ?_; rintro e w2 ⟨rfl, hb⟩; have HB2 := Aside0.mk (HB1.out.trans (hb.mono HB1.out.size)); clear hb hz0 hz1 hz2 hz3 hz4 hz5)
        | (go_at_call 8; refine (hAw.out _).mono ?_; rintro e w3 ⟨rfl, hb⟩; have HB3 := Aside0.mk (HB2.out.trans (hb.mono HB2.out.size)); clear hb))
      go_ret
      exact ⟨rfl, HB3.out⟩
    case pos =>
      rw [hP] at HMy
      have HX2 := Aside0.mk (fun W hbl => HX.out W hbl hP)
      clear HX hP
      have HX := HX2
      clear HX2
      go_enter Try.func3, Try.ntmps3
      go_wp2_with (first
        | (go_at_call 6; refine (HHv.out _ (below_alloc (Below.refl _ _) _)).mono ?_; rintro e w1 ⟨rfl, hb⟩; have HB1 := Aside0.mk ((below_alloc (Below.refl w.heap.size w) _).trans (hb.mono (by show w.heap.size ≤ (w.heap.push _).size; simp))); have G1 := Aside0.mk ((hb.block w.heap.size (by show w.heap.size < (w.heap.push _).size; simp)).trans (heap_alloc_new w _)); clear hb; have hz0 := blk_cell G1.out 0; have hz1 := blk_cell G1.out 1; have hz2 := blk_cell G1.out 2; have hz3 := blk_cell G1.out 3; have hz4 := blk_cell G1.out 4; have hz5 := blk_cell G1.out 5)
        | (go_at_call 7; refine (HMy.out _ HB1.out).mono ?_; rintro e w2 ⟨rfl, hb⟩; have HB2 := Aside0.mk (HB1.out.trans (hb.mono HB1.out.size)); have G2 := Aside0.mk (blk_below G1.out hb); clear hb hz0 hz1 hz2 hz3 hz4 hz5; have hz0 := blk_cell G2.out 0; have hz1 := blk_cell G2.out 1; have hz2 := blk_cell G2.out 2; have hz3 := blk_cell G2.out 3; have hz4 := blk_cell G2.out 4; have hz5 := blk_cell G2.out 5)
        | (go_at_call 9; refine (HX.out _ HB2.out).mono ?_; rintro e w3 ⟨vx, rfl, ho, hb⟩; have HB3 := Aside0.mk (HB2.out.trans (hb.mono HB2.out.size)); have RX := Aside0.mk ho; have G3 := Aside0.mk (blk_below G2.out hb); clear ho hb hz0 hz1 hz2 hz3 hz4 hz5; have hz5 := blk_cell G3.out 5))
      clear hz5
      have Cm := Aside0.mk (Kd.C_below HC5.out HB3.out)
      go_loopw [5, 6, 27] (fun v u i wr => ∃ k : Nat, k ≤ ms.length ∧ i = .int .i64 k ∧ u = .int .i64 (lastU 0 (ms.take k)) ∧ Aside0 (Rb wr v (encMs 0 (ms.take k))) ∧ Aside0 (Below w3.heap.size w3 wr)) (fun _ _ i _ => ms.length - (intOf i).toNat)
      case atStart => exact ⟨0, Nat.zero_le _, rfl, rfl, ⟨by simpa [encMs] using Rb.nil _⟩, ⟨Below.refl _ _⟩⟩
      case round =>
        obtain ⟨k, hk, rfl, rfl, HR, HBr⟩ := hrel
        by_cases hlt : k < ms.length
        · have Hln : Aside0 ((encMs 0 (ms.take k)).length ≤ 600000) := ⟨by
            have h2 := encMs_len (ms.take k) 0
            have h3 := sumM_take ms k
            have h4 := Hb.out.1
            unfold bulk at h4
            rw [List.length_take] at h2
            omega⟩
          obtain ⟨ad, A6, c6, e1, hx0, hx1, hx2, hx3, hx4, hx5, hx6, hc6, hC6⟩ := at_T35 (Kd.C_below Cm.out HBr.out) (k : Int) (by omega) (by omega)
          cases e1
          rw [Int.toNat_natCast] at hx0 hx1 hx2 hx3 hx4 hx5 hx6
          have E1 : Aside0 (encMs 0 (ms.take (k + 1)) = encMs 0 (ms.take k) ++ encM (rd_T35 ms (k : Int)) (lastU 0 (ms.take k))) := ⟨by rw [rdm_nat ms hlt, List.take_succ_eq_append_getElem hlt, encMs_app]⟩
          have E2 : Aside0 (lastU 0 (ms.take (k + 1)) = (rd_T35 ms (k : Int)).f0) := ⟨by rw [rdm_nat ms hlt, List.take_succ_eq_append_getElem hlt, lastU_app]⟩
          have Hsz : Aside0 (wt (rd_T35 ms (k : Int)) ≤ 60000) := ⟨by rw [rdm_nat ms hlt]; have h1 := mem_sumM ms _ (List.getElem_mem hlt); have h4 := Hb.out.1; unfold bulk at h4; omega⟩
          generalize rd_T35 ms (k : Int) = m at *
          generalize encMs 0 (ms.take k) = lk at *
          generalize lastU 0 (ms.take k) = last at *
          have HC6 := Aside0.mk hC6
          have Hc6 := Aside0.mk hc6
          clear hC6 hc6
          go_wp2_with (first
            | ((with_reducible refine gate_dst (N := 8) rfl ?_); refine box_event ?hg (N := 8) ?hd (cs := #[.int .i64 0, .int .i64 0, .int .i64 0, .string (⟨#[]⟩ : ByteArray), .int .i64 0, .slice none 0 0, .string (⟨#[]⟩ : ByteArray)]) (t := 35) ?hr ?_; (case hd => rfl); (case hg => rfl); (case hr => first | (go_simp; done) | (go_simp; rfl)); intro g hg w7 hbox hb; have BK := Aside0.mk hbox; have GE2 := Aside0.mk (show wr.heap.size ≤ g by rw [hg]; exact Nat.le_refl _); have HB7 := Aside0.mk hb; clear hb hbox hg; have hcz0 : w7.cell? ⟨g, 0, none⟩ = some (.int .i64 0) := (blk_cell BK.out 0).trans rfl; have hcz1 : w7.cell? ⟨g, 1, none⟩ = some (.int .i64 0) := (blk_cell BK.out 1).trans rfl; have hcz2 : w7.cell? ⟨g, 2, none⟩ = some (.int .i64 0) := (blk_cell BK.out 2).trans rfl; have hcz3 : w7.cell? ⟨g, 3, none⟩ = some (.string (⟨#[]⟩ : ByteArray)) := (blk_cell BK.out 3).trans rfl; have hcz4 : w7.cell? ⟨g, 4, none⟩ = some (.int .i64 0) := (blk_cell BK.out 4).trans rfl; have hcz5 : w7.cell? ⟨g, 5, none⟩ = some (.slice none 0 0) := (blk_cell BK.out 5).trans rfl; have hcz6 : w7.cell? ⟨g, 6, none⟩ = some (.string (⟨#[]⟩ : ByteArray)) := (blk_cell BK.out 6).trans rfl; have hfz0 := blk_frozen BK.out 0; have hfz1 := blk_frozen BK.out 1; have hfz2 := blk_frozen BK.out 2; have hfz3 := blk_frozen BK.out 3; have hfz4 := blk_frozen BK.out 4; have hfz5 := blk_frozen BK.out 5; have hfz6 := blk_frozen BK.out 6)
            | (go_at_call 10; obtain ⟨w8, e8, BK8, HB8⟩ := st7 BK.out HB7.out GE2.out (.int .i64 m.f0) (.int .i64 m.f1) (.int .i64 m.f2) (.string m.f3) (.int .i64 m.f4) (.slice A6 m.f5.length c6) (.string m.f6); rw [e8]; refine (msg_calls w8 (HR.out.below HB8) m last A6 c6 (Kd.C_below HC6.out HB8) Hc6.out (by have := Hln.out; omega) (by have := Hsz.out; omega)).mono ?_; rintro e w9 ⟨v9, rfl, ho, hb⟩; clear hcz0 hcz1 hcz2 hcz3 hcz4 hcz5 hcz6 hfz0 hfz1 hfz2 hfz3 hfz4 hfz5 hfz6 e8; have R9 := Aside0.mk ho; have hcm : w9.cell? ⟨g, 0, none⟩ = some (.int .i64 m.f0) := (blk_cell (blk_below BK8 hb) 0).trans rfl; have HB9 := Aside0.mk (HBr.out.trans ((HB8.trans (hb.mono HB8.size)).mono HBr.out.size)); clear ho hb BK8 HB8 BK))
          go_roundw
          case rel => exact ⟨k + 1, by omega, by go_num, by rw [E2.out], ⟨by rw [E1.out]; exact R9.out⟩, HB9⟩
          case measure => simp [intOf]; omega
        · obtain rfl : k = ms.length := by omega
          rw [List.take_length] at HR
          have HB9 := Aside0.mk (HB3.out.trans (HBr.out.mono HB3.out.size))
          have RXr := Aside0.mk (RX.out.below HBr.out)
          have hH := headE_len a0 a1 a2 a3 ws ms
          have hL : (headE a0 a1 a2 a3 ws ms ++ encMs 0 ms).length ≤ 1000000 := by
            have h1 := headE_le a0 a1 a2 a3 ws ms
            have h2 := encMs_len ms 0
            have h4 := Hb.out.1
            unfold bulk at h4
            rw [List.length_append]
            omega
          generalize lastU 0 (ms.take ms.length) = lst at *
          generalize headE a0 a1 a2 a3 ws ms = hd at *
          generalize encMs 0 ms = tl at *
          clear RX HHv HMy HX HBr
          obtain ⟨Ax, cx, rfl, hx1, hx2⟩ := RXr.out
          obtain ⟨At, ct, rfl, ht1, ht2⟩ := HR.out
          obtain ⟨H, hH2⟩ : ∃ H, hd.length = H := ⟨_, rfl⟩
          obtain ⟨A', n', c', hcut, HS0⟩ := rb_from Ax _ cx (hd ++ tl) rfl H hx2 hx1 (by rw [List.length_append]; omega)
          have HS : Aside0 (Rb wr (.slice A' n' c') tl) := ⟨by have := HS0.out; rwa [← hH2, List.drop_left] at this⟩
          have HT := HR
          obtain ⟨X, hX⟩ : ∃ X, (hd ++ tl).length = X := ⟨_, rfl⟩
          obtain ⟨T, hT⟩ : ∃ T, tl.length = T := ⟨_, rfl⟩
          have hXT : X = H + T := by rw [← hX, ← hT, ← hH2, List.length_append]
          have hsub : wrap64 ((X : Int) - (T : Int)) = (H : Int) := by rw [w64s (by omega) (by omega)]; omega
          have h3H : 3 < (H : Int) := by omega
          rw [hX] at hcut
          rw [hT] at HT
          rw [hX, hT]
          have hXT2 := Aside0.mk hXT
          clear hx1 hx2 ht1 ht2 HS0 RXr HR hX hT hH2 hH hL hXT
          go_upto_region 13 with fail
          rw [hsub]
          refine start_ (n := 19) (S := fun w' => True) (ds := []) #[false, false, false, false, false, false, false, false, false, false, false, false, false, false, false, false, false, false, false] (by kernel_rfl) rfl rfl trivial (fun hHeld => ?_)
          refine with_tabW t_mailsacklaw10_Form3Msgs.tab13 t_mailsacklaw10_Form3Msgs.bits13 (fun HT_ HW_ => ?_)
          have hd_ := (below_drew1 (Below.refl wr.heap.size wr))
          have n_HB9 := Aside0.mk (HB9.out.trans (hd_.mono HB9.out.size))
          have n_HS := Aside0.mk (HS.out.below hd_)
          have n_HT := Aside0.mk (HT.out.below hd_)
          clear HB9
          have HB9 := n_HB9
          clear n_HB9
          clear HS
          have HS := n_HS
          clear n_HS
          clear HT
          have HT := n_HT
          clear n_HT
          generalize wr.drew = w_d at *
          clear hd_
          refine inv_at [0, 1, 2, 3, 4, 5, 6, 7, 8, 9, 10, 11, 12, 13, 14, 15, 16, 17, 18] (fun a0_ b a w' => a = putSel a0_ b [(0, 43, .int .i64 0), (1, 44, .bool true), (2, 45, .bool true), (3, 46, .int .i64 (H : Int)), (4, 47, .bool true), (5, 48, .bool true), (6, 49, .bool true), (7, 50, .slice Ax X cx), (8, 51, .int .i64 (H : Int)), (9, 52, .slice A' n' c'), (10, 53, .string (strOfNums tl)), (11, 54, .slice At T ct), (12, 55, .string (strOfNums tl)), (13, 56, .bool true), (14, 57, .bool true), (15, 58, .bool true), (16, 59, .bool true), (17, 60, .bool true), (18, 2, .bool true)] ∧ (Below w.heap.size w w') ∧ (b 16 = false → Rb w' (.slice A' n' c') tl) ∧ (b 16 = false → Rb w' (.slice At T ct) tl)) HT_.out HW_.out (by kernel_rfl) (by kernel_rfl) ?_ ?_ ?_
          · exact ⟨by simp only [putSel, Bool.false_eq_true, if_false], HB9.out, fun _ => HS.out, fun _ => HT.out⟩
          · skip
            clear HB9 HS HT
            refine steps_cons ?_ ?_
            · rintro b a w' ⟨ha, Q_HB9, Q_HS, Q_HT⟩ hb_ hon hoff
              refine ⟨_, rfl, fun K hK => ?_⟩
              have e4 : a.tmps[4]? = some (.int .i64 0) := by rw [ha]; exact (putSel_off rfl).trans rfl
              replace ha := Aside0.mk ha
              have HB9 := Aside0.mk Q_HB9
              have HS := Aside0.mk (Q_HS (hoff 16 (by kernel_rfl)))
              have HT := Aside0.mk (Q_HT (hoff 16 (by kernel_rfl)))
              refine value_ (w1 := w') (v := .int .i64 0) (by rfl) rfl ?_ ?_
              · go_simp
                (try simp only [i64_w])
                try first | rfl | assumption
              refine hK.out _ _ ⟨(by rw [ha.out]; exact putSel_upk 0 hb_ rfl rfl rfl), Q_HB9, Q_HS, Q_HT⟩
            refine steps_cons ?_ ?_
            · rintro b a w' ⟨ha, Q_HB9, Q_HS, Q_HT⟩ hb_ hon hoff
              refine ⟨_, rfl, fun K hK => ?_⟩
              have e43 : a.tmps[43]? = some (.int .i64 0) := by rw [ha]; exact putSel_on (e := (0, 43, .int .i64 0)) 0 rfl rfl (hon 0 (by kernel_rfl)) rfl
              replace ha := Aside0.mk ha
              have HB9 := Aside0.mk Q_HB9
              have HS := Aside0.mk (Q_HS (hoff 16 (by kernel_rfl)))
              have HT := Aside0.mk (Q_HT (hoff 16 (by kernel_rfl)))
              refine value_ (w1 := w') (v := .bool true) (by rfl) rfl ?_ ?_
              · go_simp
                (try simp only [i64_w])
                try first | rfl | assumption
              refine hK.out _ _ ⟨(by rw [ha.out]; exact putSel_upk 1 hb_ rfl rfl rfl), Q_HB9, Q_HS, Q_HT⟩
            refine steps_cons ?_ ?_
            · rintro b a w' ⟨ha, Q_HB9, Q_HS, Q_HT⟩ hb_ hon hoff
              refine ⟨_, rfl, fun K hK => ?_⟩
              have e44 : a.tmps[44]? = some (.bool true) := by rw [ha]; exact putSel_on (e := (1, 44, .bool true)) 1 rfl rfl (hon 1 (by kernel_rfl)) rfl
              replace ha := Aside0.mk ha
              have HB9 := Aside0.mk Q_HB9
              have HS := Aside0.mk (Q_HS (hoff 16 (by kernel_rfl)))
              have HT := Aside0.mk (Q_HT (hoff 16 (by kernel_rfl)))
              refine value_ (w1 := w') (v := .bool true) (by rfl) rfl ?_ ?_
              · go_simp
                (try simp only [i64_w])
                try first | rfl | assumption
              refine hK.out _ _ ⟨(by rw [ha.out]; exact putSel_upk 2 hb_ rfl rfl rfl), Q_HB9, Q_HS, Q_HT⟩
            refine steps_cons ?_ ?_
            · rintro b a w' ⟨ha, Q_HB9, Q_HS, Q_HT⟩ hb_ hon hoff
              refine ⟨_, rfl, fun K hK => ?_⟩
              have e9 : a.tmps[9]? = some (.int .i64 (H : Int)) := by rw [ha]; exact (putSel_off rfl).trans rfl
              have e45 : a.tmps[45]? = some (.bool true) := by rw [ha]; exact putSel_on (e := (2, 45, .bool true)) 2 rfl rfl (hon 2 (by kernel_rfl)) rfl
              replace ha := Aside0.mk ha
              have HB9 := Aside0.mk Q_HB9
              have HS := Aside0.mk (Q_HS (hoff 16 (by kernel_rfl)))
              have HT := Aside0.mk (Q_HT (hoff 16 (by kernel_rfl)))
              refine value_ (w1 := w') (v := .int .i64 (H : Int)) (wanted_on rfl rfl rfl (e45.trans (by first | rfl | (simp [*]; done)))) rfl ?_ ?_
              · go_simp
                (try simp only [i64_w])
                try first | rfl | assumption
              refine hK.out _ _ ⟨(by rw [ha.out]; exact putSel_upk 3 hb_ rfl rfl rfl), Q_HB9, Q_HS, Q_HT⟩
            refine steps_cons ?_ ?_
            · rintro b a w' ⟨ha, Q_HB9, Q_HS, Q_HT⟩ hb_ hon hoff
              refine ⟨_, rfl, fun K hK => ?_⟩
              have e46 : a.tmps[46]? = some (.int .i64 (H : Int)) := by rw [ha]; exact putSel_on (e := (3, 46, .int .i64 (H : Int))) 3 rfl rfl (hon 3 (by kernel_rfl)) rfl
              have e45 : a.tmps[45]? = some (.bool true) := by rw [ha]; exact putSel_on (e := (2, 45, .bool true)) 2 rfl rfl (hon 2 (by kernel_rfl)) rfl
              replace ha := Aside0.mk ha
              have HB9 := Aside0.mk Q_HB9
              have HS := Aside0.mk (Q_HS (hoff 16 (by kernel_rfl)))
              have HT := Aside0.mk (Q_HT (hoff 16 (by kernel_rfl)))
              refine value_ (w1 := w') (v := .bool true) (wanted_on rfl rfl rfl (e45.trans (by first | rfl | (simp [*]; done)))) rfl ?_ ?_
              · go_simp
                (try simp only [i64_w])
                try first | rfl | assumption
              refine hK.out _ _ ⟨(by rw [ha.out]; exact putSel_upk 4 hb_ rfl rfl rfl), Q_HB9, Q_HS, Q_HT⟩
            refine steps_cons ?_ ?_
            · rintro b a w' ⟨ha, Q_HB9, Q_HS, Q_HT⟩ hb_ hon hoff
              refine ⟨_, rfl, fun K hK => ?_⟩
              have e45 : a.tmps[45]? = some (.bool true) := by rw [ha]; exact putSel_on (e := (2, 45, .bool true)) 2 rfl rfl (hon 2 (by kernel_rfl)) rfl
              have e47 : a.tmps[47]? = some (.bool true) := by rw [ha]; exact putSel_on (e := (4, 47, .bool true)) 4 rfl rfl (hon 4 (by kernel_rfl)) rfl
              replace ha := Aside0.mk ha
              have HB9 := Aside0.mk Q_HB9
              have HS := Aside0.mk (Q_HS (hoff 16 (by kernel_rfl)))
              have HT := Aside0.mk (Q_HT (hoff 16 (by kernel_rfl)))
              refine value_ (w1 := w') (v := .bool true) (by rfl) rfl ?_ ?_
              · go_simp
                (try simp only [i64_w])
                try first | rfl | assumption
              refine hK.out _ _ ⟨(by rw [ha.out]; exact putSel_upk 5 hb_ rfl rfl rfl), Q_HB9, Q_HS, Q_HT⟩
            refine steps_cons ?_ ?_
            · rintro b a w' ⟨ha, Q_HB9, Q_HS, Q_HT⟩ hb_ hon hoff
              refine ⟨_, rfl, fun K hK => ?_⟩
              have e48 : a.tmps[48]? = some (.bool true) := by rw [ha]; exact putSel_on (e := (5, 48, .bool true)) 5 rfl rfl (hon 5 (by kernel_rfl)) rfl
              replace ha := Aside0.mk ha
              have HB9 := Aside0.mk Q_HB9
              have HS := Aside0.mk (Q_HS (hoff 16 (by kernel_rfl)))
              have HT := Aside0.mk (Q_HT (hoff 16 (by kernel_rfl)))
              refine value_ (w1 := w') (v := .bool true) (by rfl) rfl ?_ ?_
              · go_simp
                (try simp only [i64_w])
                try first | rfl | assumption
              refine hK.out _ _ ⟨(by rw [ha.out]; exact putSel_upk 6 hb_ rfl rfl rfl), Q_HB9, Q_HS, Q_HT⟩
            refine steps_cons ?_ ?_
            · rintro b a w' ⟨ha, Q_HB9, Q_HS, Q_HT⟩ hb_ hon hoff
              refine ⟨_, rfl, fun K hK => ?_⟩
              have e3 : a.tmps[3]? = some (.slice Ax X cx) := by rw [ha]; exact (putSel_off rfl).trans rfl
              have e49 : a.tmps[49]? = some (.bool true) := by rw [ha]; exact putSel_on (e := (6, 49, .bool true)) 6 rfl rfl (hon 6 (by kernel_rfl)) rfl
              replace ha := Aside0.mk ha
              have HB9 := Aside0.mk Q_HB9
              have HS := Aside0.mk (Q_HS (hoff 16 (by kernel_rfl)))
              have HT := Aside0.mk (Q_HT (hoff 16 (by kernel_rfl)))
              refine value_ (w1 := w') (v := .slice Ax X cx) (wanted_on rfl rfl rfl (e49.trans (by first | rfl | (simp [*]; done)))) rfl ?_ ?_
              · go_simp
                (try simp only [i64_w])
                try first | rfl | assumption
              refine hK.out _ _ ⟨(by rw [ha.out]; exact putSel_upk 7 hb_ rfl rfl rfl), Q_HB9, Q_HS, Q_HT⟩
            refine steps_cons ?_ ?_
            · rintro b a w' ⟨ha, Q_HB9, Q_HS, Q_HT⟩ hb_ hon hoff
              refine ⟨_, rfl, fun K hK => ?_⟩
              have e9 : a.tmps[9]? = some (.int .i64 (H : Int)) := by rw [ha]; exact (putSel_off rfl).trans rfl
              have e49 : a.tmps[49]? = some (.bool true) := by rw [ha]; exact putSel_on (e := (6, 49, .bool true)) 6 rfl rfl (hon 6 (by kernel_rfl)) rfl
              replace ha := Aside0.mk ha
              have HB9 := Aside0.mk Q_HB9
              have HS := Aside0.mk (Q_HS (hoff 16 (by kernel_rfl)))
              have HT := Aside0.mk (Q_HT (hoff 16 (by kernel_rfl)))
              refine value_ (w1 := w') (v := .int .i64 (H : Int)) (wanted_on rfl rfl rfl (e49.trans (by first | rfl | (simp [*]; done)))) rfl ?_ ?_
              · go_simp
                (try simp only [i64_w])
                try first | rfl | assumption
              refine hK.out _ _ ⟨(by rw [ha.out]; exact putSel_upk 8 hb_ rfl rfl rfl), Q_HB9, Q_HS, Q_HT⟩
            refine steps_cons ?_ ?_
            · rintro b a w' ⟨ha, Q_HB9, Q_HS, Q_HT⟩ hb_ hon hoff
              refine ⟨_, rfl, fun K hK => ?_⟩
              have e50 : a.tmps[50]? = some (.slice Ax X cx) := by rw [ha]; exact putSel_on (e := (7, 50, .slice Ax X cx)) 7 rfl rfl (hon 7 (by kernel_rfl)) rfl
              have e51 : a.tmps[51]? = some (.int .i64 (H : Int)) := by rw [ha]; exact putSel_on (e := (8, 51, .int .i64 (H : Int))) 8 rfl rfl (hon 8 (by kernel_rfl)) rfl
              have e49 : a.tmps[49]? = some (.bool true) := by rw [ha]; exact putSel_on (e := (6, 49, .bool true)) 6 rfl rfl (hon 6 (by kernel_rfl)) rfl
              replace ha := Aside0.mk ha
              have HB9 := Aside0.mk Q_HB9
              have HS := Aside0.mk (Q_HS (hoff 16 (by kernel_rfl)))
              have HT := Aside0.mk (Q_HT (hoff 16 (by kernel_rfl)))
              refine value_ (w1 := w') (v := .slice A' n' c') (wanted_on rfl rfl rfl (e49.trans (by first | rfl | (simp [*]; done)))) rfl ?_ ?_
              · go_simp
                (try simp only [i64_w])
                try first | rfl | assumption
              refine hK.out _ _ ⟨(by rw [ha.out]; exact putSel_upk 9 hb_ rfl rfl rfl), Q_HB9, Q_HS, Q_HT⟩
            refine steps_cons ?_ ?_
            · rintro b a w' ⟨ha, Q_HB9, Q_HS, Q_HT⟩ hb_ hon hoff
              refine ⟨_, rfl, fun K hK => ?_⟩
              have e52 : a.tmps[52]? = some (.slice A' n' c') := by rw [ha]; exact putSel_on (e := (9, 52, .slice A' n' c')) 9 rfl rfl (hon 9 (by kernel_rfl)) rfl
              have e49 : a.tmps[49]? = some (.bool true) := by rw [ha]; exact putSel_on (e := (6, 49, .bool true)) 6 rfl rfl (hon 6 (by kernel_rfl)) rfl
              replace ha := Aside0.mk ha
              have HB9 := Aside0.mk Q_HB9
              have HS := Aside0.mk (Q_HS (hoff 16 (by kernel_rfl)))
              have HT := Aside0.mk (Q_HT (hoff 16 (by kernel_rfl)))
              have hs := rb_string HS.out
              refine value_ (w1 := w') (v := .string (strOfNums tl)) (wanted_on rfl rfl rfl (e49.trans (by first | rfl | (simp [*]; done)))) rfl ?_ ?_
              · go_simp
                (try simp only [i64_w])
                try first | rfl | assumption
              refine hK.out _ _ ⟨(by rw [ha.out]; exact putSel_upk 10 hb_ rfl rfl rfl), Q_HB9, Q_HS, Q_HT⟩
            refine steps_cons ?_ ?_
            · rintro b a w' ⟨ha, Q_HB9, Q_HS, Q_HT⟩ hb_ hon hoff
              refine ⟨_, rfl, fun K hK => ?_⟩
              have e5 : a.tmps[5]? = some (.slice At T ct) := by rw [ha]; exact (putSel_off rfl).trans rfl
              have e49 : a.tmps[49]? = some (.bool true) := by rw [ha]; exact putSel_on (e := (6, 49, .bool true)) 6 rfl rfl (hon 6 (by kernel_rfl)) rfl
              replace ha := Aside0.mk ha
              have HB9 := Aside0.mk Q_HB9
              have HS := Aside0.mk (Q_HS (hoff 16 (by kernel_rfl)))
              have HT := Aside0.mk (Q_HT (hoff 16 (by kernel_rfl)))
              refine value_ (w1 := w') (v := .slice At T ct) (wanted_on rfl rfl rfl (e49.trans (by first | rfl | (simp [*]; done)))) rfl ?_ ?_
              · go_simp
                (try simp only [i64_w])
                try first | rfl | assumption
              refine hK.out _ _ ⟨(by rw [ha.out]; exact putSel_upk 11 hb_ rfl rfl rfl), Q_HB9, Q_HS, Q_HT⟩
            refine steps_cons ?_ ?_
            · rintro b a w' ⟨ha, Q_HB9, Q_HS, Q_HT⟩ hb_ hon hoff
              refine ⟨_, rfl, fun K hK => ?_⟩
              have e54 : a.tmps[54]? = some (.slice At T ct) := by rw [ha]; exact putSel_on (e := (11, 54, .slice At T ct)) 11 rfl rfl (hon 11 (by kernel_rfl)) rfl
              have e49 : a.tmps[49]? = some (.bool true) := by rw [ha]; exact putSel_on (e := (6, 49, .bool true)) 6 rfl rfl (hon 6 (by kernel_rfl)) rfl
              replace ha := Aside0.mk ha
              have HB9 := Aside0.mk Q_HB9
              have HS := Aside0.mk (Q_HS (hoff 16 (by kernel_rfl)))
              have HT := Aside0.mk (Q_HT (hoff 16 (by kernel_rfl)))
              have hs := rb_string HT.out
              refine value_ (w1 := w') (v := .string (strOfNums tl)) (wanted_on rfl rfl rfl (e49.trans (by first | rfl | (simp [*]; done)))) rfl ?_ ?_
              · go_simp
                (try simp only [i64_w])
                try first | rfl | assumption
              refine hK.out _ _ ⟨(by rw [ha.out]; exact putSel_upk 12 hb_ rfl rfl rfl), Q_HB9, Q_HS, Q_HT⟩
            refine steps_cons ?_ ?_
            · rintro b a w' ⟨ha, Q_HB9, Q_HS, Q_HT⟩ hb_ hon hoff
              refine ⟨_, rfl, fun K hK => ?_⟩
              have e53 : a.tmps[53]? = some (.string (strOfNums tl)) := by rw [ha]; exact putSel_on (e := (10, 53, .string (strOfNums tl))) 10 rfl rfl (hon 10 (by kernel_rfl)) rfl
              have e55 : a.tmps[55]? = some (.string (strOfNums tl)) := by rw [ha]; exact putSel_on (e := (12, 55, .string (strOfNums tl))) 12 rfl rfl (hon 12 (by kernel_rfl)) rfl
              have e49 : a.tmps[49]? = some (.bool true) := by rw [ha]; exact putSel_on (e := (6, 49, .bool true)) 6 rfl rfl (hon 6 (by kernel_rfl)) rfl
              replace ha := Aside0.mk ha
              have HB9 := Aside0.mk Q_HB9
              have HS := Aside0.mk (Q_HS (hoff 16 (by kernel_rfl)))
              have HT := Aside0.mk (Q_HT (hoff 16 (by kernel_rfl)))
              refine value_ (w1 := w') (v := .bool true) (wanted_on rfl rfl rfl (e49.trans (by first | rfl | (simp [*]; done)))) rfl ?_ ?_
              · go_simp
                (try simp only [i64_w])
                try first | rfl | assumption
              refine hK.out _ _ ⟨(by rw [ha.out]; exact putSel_upk 13 hb_ rfl rfl rfl), Q_HB9, Q_HS, Q_HT⟩
            refine steps_cons ?_ ?_
            · rintro b a w' ⟨ha, Q_HB9, Q_HS, Q_HT⟩ hb_ hon hoff
              refine ⟨_, rfl, fun K hK => ?_⟩
              have e49 : a.tmps[49]? = some (.bool true) := by rw [ha]; exact putSel_on (e := (6, 49, .bool true)) 6 rfl rfl (hon 6 (by kernel_rfl)) rfl
              have e56 : a.tmps[56]? = some (.bool true) := by rw [ha]; exact putSel_on (e := (13, 56, .bool true)) 13 rfl rfl (hon 13 (by kernel_rfl)) rfl
              replace ha := Aside0.mk ha
              have HB9 := Aside0.mk Q_HB9
              have HS := Aside0.mk (Q_HS (hoff 16 (by kernel_rfl)))
              have HT := Aside0.mk (Q_HT (hoff 16 (by kernel_rfl)))
              refine value_ (w1 := w') (v := .bool true) (by rfl) rfl ?_ ?_
              · go_simp
                (try simp only [i64_w])
                try first | rfl | assumption
              refine hK.out _ _ ⟨(by rw [ha.out]; exact putSel_upk 14 hb_ rfl rfl rfl), Q_HB9, Q_HS, Q_HT⟩
            refine steps_cons ?_ ?_
            · rintro b a w' ⟨ha, Q_HB9, Q_HS, Q_HT⟩ hb_ hon hoff
              refine ⟨_, rfl, fun K hK => ?_⟩
              have e57 : a.tmps[57]? = some (.bool true) := by rw [ha]; exact putSel_on (e := (14, 57, .bool true)) 14 rfl rfl (hon 14 (by kernel_rfl)) rfl
              replace ha := Aside0.mk ha
              have HB9 := Aside0.mk Q_HB9
              have HS := Aside0.mk (Q_HS (hoff 16 (by kernel_rfl)))
              have HT := Aside0.mk (Q_HT (hoff 16 (by kernel_rfl)))
              refine value_ (w1 := w') (v := .bool true) (by rfl) rfl ?_ ?_
              · go_simp
                (try simp only [i64_w])
                try first | rfl | assumption
              refine hK.out _ _ ⟨(by rw [ha.out]; exact putSel_upk 15 hb_ rfl rfl rfl), Q_HB9, Q_HS, Q_HT⟩
            refine steps_cons ?_ ?_
            · rintro b a w' ⟨ha, Q_HB9, Q_HS, Q_HT⟩ hb_ hon hoff
              refine ⟨_, rfl, fun K hK => ?_⟩
              have e58 : a.tmps[58]? = some (.bool true) := by rw [ha]; exact putSel_on (e := (15, 58, .bool true)) 15 rfl rfl (hon 15 (by kernel_rfl)) rfl
              replace ha := Aside0.mk ha
              have HB9 := Aside0.mk Q_HB9
              have HS := Aside0.mk (Q_HS hb_)
              have HT := Aside0.mk (Q_HT hb_)
              refine goes_ Try.func8 (by kernel_rfl) rfl #[] (wanted_on rfl rfl rfl (e58.trans (by first | rfl | (simp [*]; done)))) rfl rfl (by first | (simp only [List.map_toArray, List.map_cons, List.map_nil, Act.eval, Array.getD_eq_getD_getElem?, Option.getD_some, e58]; done) | (simp only [List.map_toArray, List.map_cons, List.map_nil, Act.eval, Array.getD_eq_getD_getElem?, Option.getD_some, e58]; rfl)) ?_
              with_reducible refine (hAw.out _).mono ?_
              rintro e w9 ⟨rfl, hb⟩
              refine ⟨_, rfl, ?_⟩
              refine hK.out _ _ ⟨(by rw [ha.out]; exact putSel_upk 16 hb_ rfl rfl rfl), HB9.out.trans (hb.mono HB9.out.size), fun h0_ => absurd ((up_self b 16).symm.trans h0_) (by decide), fun h0_ => absurd ((up_self b 16).symm.trans h0_) (by decide)⟩
            refine steps_cons ?_ ?_
            · rintro b a w' ⟨ha, Q_HB9, Q_HS, Q_HT⟩ hb_ hon hoff
              refine ⟨_, rfl, fun K hK => ?_⟩
              have e58 : a.tmps[58]? = some (.bool true) := by rw [ha]; exact putSel_on (e := (15, 58, .bool true)) 15 rfl rfl (hon 15 (by kernel_rfl)) rfl
              have e59 : a.tmps[59]? = some (.bool true) := by rw [ha]; exact putSel_on (e := (16, 59, .bool true)) 16 rfl rfl (hon 16 (by kernel_rfl)) rfl
              replace ha := Aside0.mk ha
              have HB9 := Aside0.mk Q_HB9
              refine value_ (w1 := w') (v := .bool true) (by rfl) rfl ?_ ?_
              · go_simp
                (try simp only [i64_w])
                try first | rfl | assumption
              refine hK.out _ _ ⟨(by rw [ha.out]; exact putSel_upk 17 hb_ rfl rfl rfl), Q_HB9, fun h0_ => absurd ((hon 16 (by kernel_rfl)).symm.trans h0_) (by decide), fun h0_ => absurd ((hon 16 (by kernel_rfl)).symm.trans h0_) (by decide)⟩
            refine steps_cons ?_ ?_
            · rintro b a w' ⟨ha, Q_HB9, Q_HS, Q_HT⟩ hb_ hon hoff
              refine ⟨_, rfl, fun K hK => ?_⟩
              have e60 : a.tmps[60]? = some (.bool true) := by rw [ha]; exact putSel_on (e := (17, 60, .bool true)) 17 rfl rfl (hon 17 (by kernel_rfl)) rfl
              replace ha := Aside0.mk ha
              have HB9 := Aside0.mk Q_HB9
              refine value_ (w1 := w') (v := .bool true) (by rfl) rfl ?_ ?_
              · go_simp
                (try simp only [i64_w])
                try first | rfl | assumption
              refine hK.out _ _ ⟨(by rw [ha.out]; exact putSel_upk 18 hb_ rfl rfl rfl), Q_HB9, fun h0_ => absurd ((hon 16 (by kernel_rfl)).symm.trans h0_) (by decide), fun h0_ => absurd ((hon 16 (by kernel_rfl)).symm.trans h0_) (by decide)⟩
            exact steps_nil
          rintro b a w9 hall ⟨ha, Q_HB9, Q_HS, Q_HT⟩
          clear HB9 HS HT
          have hb0_ := hall 0 (by kernel_rfl)
          have hb1_ := hall 1 (by kernel_rfl)
          have hb2_ := hall 2 (by kernel_rfl)
          have hb3_ := hall 3 (by kernel_rfl)
          have hb4_ := hall 4 (by kernel_rfl)
          have hb5_ := hall 5 (by kernel_rfl)
          have hb6_ := hall 6 (by kernel_rfl)
          have hb7_ := hall 7 (by kernel_rfl)
          have hb8_ := hall 8 (by kernel_rfl)
          have hb9_ := hall 9 (by kernel_rfl)
          have hb10_ := hall 10 (by kernel_rfl)
          have hb11_ := hall 11 (by kernel_rfl)
          have hb12_ := hall 12 (by kernel_rfl)
          have hb13_ := hall 13 (by kernel_rfl)
          have hb14_ := hall 14 (by kernel_rfl)
          have hb15_ := hall 15 (by kernel_rfl)
          have hb16_ := hall 16 (by kernel_rfl)
          have hb17_ := hall 17 (by kernel_rfl)
          have hb18_ := hall 18 (by kernel_rfl)
          subst ha
          simp only [putSel, hb0_, hb1_, hb2_, hb3_, hb4_, hb5_, hb6_, hb7_, hb8_, hb9_, hb10_, hb11_, hb12_, hb13_, hb14_, hb15_, hb16_, hb17_, hb18_, if_true, Act.put, List.setIfInBounds_toArray, List.set_cons_zero, List.set_cons_succ]
          have HB9 := Aside0.mk Q_HB9
          clear Q_HB9
          clear Q_HS
          clear Q_HT
          clear hall hb0_ hb1_ hb2_ hb3_ hb4_ hb5_ hb6_ hb7_ hb8_ hb9_ hb10_ hb11_ hb12_ hb13_ hb14_ hb15_ hb16_ hb17_ hb18_
          go_wp2_with fail
          go_ret
          exact ⟨rfl, HB9.out⟩
end Go.Proofs.YtlfjhdofohpmdaaR.FmL
